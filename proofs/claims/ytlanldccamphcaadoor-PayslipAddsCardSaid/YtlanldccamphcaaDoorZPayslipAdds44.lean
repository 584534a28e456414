/- Texts for the law PayslipAdds (kept out of a larger one). -/
import Derived.Test.YtlanldccamphcaaDoorZPayslipAdds13
import Derived.Test.YtlanldccamphcaaDoorZPayslipAdds38
import Derived.Test.YtlanldccamphcaaDoorZPayslipAdds16
import Derived.Test.YtlanldccamphcaaDoorZPayslipAdds36
import Derived.Test.YtlanldccamphcaaDoorZPayslipAdds35
import Derived.Test.YtlanldccamphcaaDoorZPayslipAdds40
import Derived.Test.YtlanldccamphcaaDoorZPayslipAdds33
import Derived.Test.YtlanldccamphcaaDoorZPayslipAdds43
import Derived.Test.YtlanldccamphcaaDoorZPayslipAdds34
import Derived.Test.YtlanldccamphcaaDoorZPayslipAdds14
import Derived.Test.YtlanldccamphcaaDoorZPayslipAdds30
import Derived.WalkKit
namespace Go.Proofs.YtlanldccamphcaaDoor.P
set_option linter.unusedVariables false
set_option linter.unusedSimpArgs false
open Go.RowKit Go.Proofs.YtlanldccamphcaaDoorW.PrintWords
theorem putS_len (S : List S23) (x : S23) : (putS S x).length ≤ S.length + 1 := by
  induction S with
  | nil => simp [putS]
  | cons y r ih =>
    unfold putS
    split
    · simp; omega
    · split <;> simp
theorem foldl_putS_len (l S : List S23) : (l.foldl putS S).length ≤ S.length + l.length := by
  induction l generalizing S with
  | nil => simp
  | cons x l ih =>
    have := ih (putS S x)
    have h2 := putS_len S x
    rw [List.foldl_cons, List.length_cons]; omega
theorem sumS_len (l : List S23) : (sumS l).length ≤ l.length := by have := foldl_putS_len l []; simpa [sumS] using this
def allForm (l : List S23) : Bool := l.all fun x => formP x.f0 x.f1 x.f2
theorem formsB_ev (l : List S23) : Ev (fun k => formsB k l) (allForm l) := by
  induction l with
  | nil => exact Ev.now _
  | cons x r ih =>
    show Ev (fun k => (payslip_form.f k x.f0 x.f1 x.f2).bind fun b => if b = true then formsB k r else some false) (formP x.f0 x.f1 x.f2 && allForm r)
    refine Ev.bind (payslip_form_ev _ _ _) ?_
    cases h : formP x.f0 x.f1 x.f2 with
    | true => exact Ev.ifp (by first | rfl | trivial) (ih.cast (by simp))
    | false => exact Ev.ifn (by decide) (Ev.now _)
def codeP (l : List S23) : Int := if (l.length : Int) > 65536 then 3 else if allForm l = true then (if allT (sumS l) = true then 0 else 4) else 1
theorem codeS_ev (l : List S23) : Ev (fun k => codeS k l) (codeP l) := by
  unfold codeS codeP
  refine Ev.ite (fun _ => Ev.now _) (fun _ => Ev.bind (formsB_ev l) ?_)
  exact Ev.ite (fun _ => Ev.ite (fun _ => Ev.now _) (fun _ => Ev.now _)) (fun _ => Ev.now _)
def mergeP (l : List S23) : List S23 × Int := if codeP l = 0 then (dropZ (sumS l), 0) else ([], codeP l)
theorem payslip_Merge_ev (l : List S23) : Ev (fun k => payslip_Merge.f k l) (mergeP l) := by
  unfold payslip_Merge.f mergeP
  exact Ev.bind (codeS_ev l) (Ev.ite (fun _ => Ev.now _) (fun _ => Ev.now _))
def compareP (a b : List S23) : List S23 × Int := if codeP a = 0 then (if codeP b = 0 then (if allT (cmpS a b) = true then (dropZ (cmpS a b), 0) else ([], 4)) else ([], codeP b)) else ([], codeP a)
theorem payslip_Compare_ev (a b : List S23) : Ev (fun k => payslip_Compare.f k a b) (compareP a b) := by
  unfold payslip_Compare.f compareP
  refine Ev.bind (codeS_ev a) (Ev.ite (fun _ => Ev.bind (codeS_ev b) ?_) (fun _ => Ev.now _))
  exact Ev.ite (fun _ => Ev.ite (fun _ => Ev.now _) (fun _ => Ev.now _)) (fun _ => Ev.now _)
theorem formP_fine {x : S23} (h : formP x.f0 x.f1 x.f2 = true) : fineX x := by
  obtain ⟨k, hk⟩ := payslip_form_ev x.f0 x.f1 x.f2
  exact form_fine ((hk k (Nat.le_refl _)).trans (by rw [h]))
theorem allForm_fine {l : List S23} (h : allForm l = true) : ∀ x ∈ l, fineX x := fun x hx => formP_fine (List.all_eq_true.1 h x hx)
theorem code_zero {l : List S23} (h : codeP l = 0) : l.length ≤ 65536 ∧ allForm l = true ∧ allT (sumS l) = true := by
  unfold codeP at h
  split at h
  · cases h
  · split at h
    · split at h
      · exact ⟨by omega, by assumption, by assumption⟩
      · cases h
    · cases h
theorem dropZ_len (S : List S23) : (dropZ S).length ≤ S.length := List.length_filter_le _ _
theorem same_loop (l : List S23) (hl : l.length ≤ 1000000) : ∀ (m i : Nat), i + m = l.length → Ev (fun k => payrollref32_Same.l0 k l l (i : Int)) true := by
  intro m
  induction m with
  | zero => intro i hi; exact Ev.step (fun k => by simp only [payrollref32_Same.l0]; rfl) (Ev.ifn (by omega) (Ev.now _))
  | succ m ih =>
    intro i hi
    have e1 : wrap64 ((i : Int) + 1) = ((i + 1 : Nat) : Int) := by unfold wrap64; omega
    refine Ev.step (fun k => by simp only [payrollref32_Same.l0]; rfl) (Ev.ifp (by omega) (Ev.ifp (by omega) (Ev.ifp (by omega) (Ev.ifn (by simp) ?_))))
    rw [e1]; exact ih (i + 1) (by omega)
theorem Same_ev (l : List S23) (hl : l.length ≤ 1000000) : Ev (fun k => payrollref32_Same.f k l l) true := by
  unfold payrollref32_Same.f
  exact Ev.ifp (by first | rfl | trivial) (same_loop l hl l.length 0 (by omega))
theorem cmpS_len {a b : List S23} : (cmpS a b).length ≤ (sumS b).length + (sumS a).length := by
  have gen : ∀ (A S : List S23), (A.foldl (fun S x => putS S (negX x)) S).length ≤ S.length + A.length := by
    intro A
    induction A with
    | nil => intro S; simp
    | cons x A ih =>
      intro S
      have h1 := ih (putS S (negX x))
      have h2 := putS_len S (negX x)
      rw [List.foldl_cons, List.length_cons]; omega
  exact gen _ _
end Go.Proofs.YtlanldccamphcaaDoor.P
