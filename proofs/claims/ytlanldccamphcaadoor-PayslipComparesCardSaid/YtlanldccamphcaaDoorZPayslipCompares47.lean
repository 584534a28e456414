/- Texts for the law PayslipCompares (kept out of a larger one). -/
import Derived.Test.YtlanldccamphcaaDoorZPayslipCompares13
import Derived.Test.YtlanldccamphcaaDoorZPayslipCompares41
import Derived.Test.YtlanldccamphcaaDoorZPayslipCompares36
import Derived.Test.YtlanldccamphcaaDoorZPayslipCompares37
import Derived.Test.YtlanldccamphcaaDoorZPayslipCompares40
import Derived.Test.YtlanldccamphcaaDoorZPayslipCompares35
import Derived.Test.YtlanldccamphcaaDoorZPayslipCompares21
import Derived.Test.YtlanldccamphcaaDoorZPayslipCompares42
import Derived.Test.YtlanldccamphcaaDoorZPayslipCompares45
import Derived.Test.YtlanldccamphcaaDoorZPayslipCompares23
import Derived.Test.YtlanldccamphcaaDoorZPayslipCompares46
import Derived.WalkKit
namespace Go.Proofs.YtlanldccamphcaaDoor.P
set_option linter.unusedVariables false
set_option linter.unusedSimpArgs false
open Go.RowKit Go.Proofs.YtlanldccamphcaaDoorW.PrintWords
theorem awake_ev : Ev (fun k => payrolllaw34_awake.f k) true := by
  unfold payrolllaw34_awake.f
  refine Ev.bind (payslip_Compare_ev _ _) (Ev.bindc (a := (fmtText, 0)) rfl ?_)
  have e1 : (compareP [⟨9, ⟨#[]⟩, 100⟩, ⟨6, ⟨#[]⟩, 20⟩] [⟨9, ⟨#[]⟩, 90⟩, ⟨4, ⟨#[97]⟩, 10⟩, ⟨6, ⟨#[]⟩, 20⟩]).2 = 0 := by decide +kernel
  have e2 : (compareP [⟨9, ⟨#[]⟩, 100⟩, ⟨6, ⟨#[]⟩, 20⟩] [⟨9, ⟨#[]⟩, 90⟩, ⟨4, ⟨#[97]⟩, 10⟩, ⟨6, ⟨#[]⟩, 20⟩]).1.length = 2 := by decide +kernel
  have e3 : (rd_T23 (compareP [⟨9, ⟨#[]⟩, 100⟩, ⟨6, ⟨#[]⟩, 20⟩] [⟨9, ⟨#[]⟩, 90⟩, ⟨4, ⟨#[97]⟩, 10⟩, ⟨6, ⟨#[]⟩, 20⟩]).1 0).f2 = 10 := by decide +kernel
  have e4 : (rd_T23 (compareP [⟨9, ⟨#[]⟩, 100⟩, ⟨6, ⟨#[]⟩, 20⟩] [⟨9, ⟨#[]⟩, 90⟩, ⟨4, ⟨#[97]⟩, 10⟩, ⟨6, ⟨#[]⟩, 20⟩]).1 1).f2 = -10 := by decide +kernel
  generalize compareP [⟨9, ⟨#[]⟩, 100⟩, ⟨6, ⟨#[]⟩, 20⟩] [⟨9, ⟨#[]⟩, 90⟩, ⟨4, ⟨#[97]⟩, 10⟩, ⟨6, ⟨#[]⟩, 20⟩] = c at *
  refine Ev.ifp e1 (Ev.ifp (by omega) (Ev.ifp (by omega) (Ev.ifp e3 (Ev.ifp (by omega) (Ev.ifp e4 (Ev.ifp (by first | rfl | trivial) ((Ev.now _).cast ?_)))))))
  decide +kernel
theorem short_loop (l : List S23) (hl : l.length ≤ 60) : ∀ (m i : Nat), i + m = l.length → ∃ b, Ev (fun k => paygen_ShortLines.l0 k l (i : Int)) b := by
  intro m
  induction m with
  | zero => intro i hi; exact ⟨true, Ev.step (fun k => by simp only [paygen_ShortLines.l0]; rfl) (Ev.ifn (by omega) (Ev.now _))⟩
  | succ m ih =>
    intro i hi
    have e1 : wrap64 ((i : Int) + 1) = ((i + 1 : Nat) : Int) := by unfold wrap64; omega
    obtain ⟨b, hb⟩ := ih (i + 1) (by omega)
    by_cases c : (((rd_T23 l (i : Int)).f1).size : Int) > 60
    · exact ⟨false, Ev.step (fun k => by simp only [paygen_ShortLines.l0]; rfl) (Ev.ifp (by omega) (Ev.ifp (by omega) (Ev.ifp c (Ev.now _))))⟩
    · refine ⟨b, Ev.step (fun k => by simp only [paygen_ShortLines.l0]; rfl) (Ev.ifp (by omega) (Ev.ifp (by omega) (Ev.ifn c ?_)))⟩
      rw [e1]; exact hb
theorem short_ev (l : List S23) : ∃ b, Ev (fun k => paygen_ShortLines.f k l) b ∧ (b = true → l.length ≤ 60) := by
  unfold paygen_ShortLines.f
  by_cases c : (l.length : Int) > 60
  · exact ⟨false, Ev.ifp c (Ev.now _), fun h => by cases h⟩
  · obtain ⟨b, hb⟩ := short_loop l (by omega) l.length 0 (by omega)
    exact ⟨b, Ev.ifn c hb, fun _ => by omega⟩
theorem PayslipCompares (l0 l1 : List S23) (l2 : List Int) : ∃ k, payrolllaw34_PayslipCompares.f k l0 l1 l2 = some true := by
  refine Ev.rounds ?_
  unfold payrolllaw34_PayslipCompares.f
  have stop : Ev (fun k => payrolllaw34_PayslipCompares.j0 k l0 l1 l2 true) true := Ev.step (fun k => by simp only [payrolllaw34_PayslipCompares.j0]; rfl) (Ev.ifp (by first | rfl | trivial) (Ev.bind awake_ev (Ev.now _)))
  obtain ⟨b, hb, hb2⟩ := short_ev l0
  refine Ev.bind hb ?_
  cases b with
  | false => exact Ev.ifn (by decide) stop
  | true =>
    obtain ⟨d, hd, hd2⟩ := short_ev l1
    refine Ev.ifp (by first | rfl | trivial) (Ev.bind hd ?_)
    cases d with
    | false => exact stop
    | true =>
      obtain ⟨X, p1, h1, q1, q2, _, _⟩ := deck_lines l2 0 8 (by omega) (by omega) (by omega) (by omega)
      obtain ⟨Y, p2, h2, _, _, _, _⟩ := deck_lines l2 p1 8 (by omega) (by omega) (by omega) (by omega)
      show Ev (fun k => payrolllaw34_PayslipCompares.j0 k l0 l1 l2 false) true
      refine Ev.step (fun k => by simp only [payrolllaw34_PayslipCompares.j0]; rfl) ?_
      refine Ev.ifn (by decide) ?_
      refine Ev.bindc (a := (l2, 0)) rfl (Ev.bind h1 (Ev.bind h2 ?_))
      refine Ev.bind (payslip_Compare_ev _ _) (Ev.bind (ref_Compare_ev _ _) (Ev.bind (payslip_Compare_ev _ _) (Ev.bind (ref_Compare_ev _ _) ?_)))
      refine Ev.ifp (by first | rfl | trivial) (Ev.bind (Same_ev (compareP l0 l1).1 (by have := compareP_len l0 l1; omega)) (Ev.ifp (by first | rfl | trivial) (Ev.ifp (by first | rfl | trivial) (Ev.bind (Same_ev (compareP X Y).1 (by have := compareP_len X Y; omega)) (Ev.ifp (by first | rfl | trivial) ?_)))))
      exact Ev.bind awake_ev (Ev.now _)
end Go.Proofs.YtlanldccamphcaaDoor.P
