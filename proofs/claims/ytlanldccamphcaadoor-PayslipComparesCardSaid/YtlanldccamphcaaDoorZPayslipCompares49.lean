/- Texts for the law PayslipCompares (kept out of a larger one). -/
import Derived.Test.YtlanldccamphcaaDoorZPayslipCompares13
import Derived.Test.YtlanldccamphcaaDoorZPayslipCompares48
import Derived.ChangeArms
namespace Go.Proofs.YtlanldccamphcaaDoor.P
set_option linter.unusedVariables false
open Go Go.RowKit Go.ChangeShapes Go.WideShapes Go.Deep Go.Proofs.YtlanldccamphcaaDoorW.PrintWords
theorem open_lines {H : Type} {enc : TypeId × Value → H} {w : World} {base : Nat} {spare : Nat → Bool} {held : Bool} {A : Option Addr} {len cap : Nat} {x : DataW H} {p : List MemPlace}
    (h : DataW.Trod enc Tryd.prog w base spare held 33 (.slice A len cap) x p) : ∃ l : List S23, l.length = len ∧ k23.C w A l.length l ∧ l.length ≤ cap := by
  refine open_rows k23 Tryd.underlying33 Tryd.underlying23 (by kernel_rfl) (by kernel_rfl) rfl h (fun vs hl hf => ?_)
  obtain ⟨n0, v0, y0, e0, h0⟩ := hf 0 _ rfl
  obtain ⟨n1, v1, y1, e1, h1⟩ := hf 1 _ rfl
  obtain ⟨n2, v2, y2, e2, h2⟩ := hf 2 _ rfl
  obtain ⟨a, ha, _, _⟩ := DataW.trod_int Tryd.underlying3 h0
  obtain ⟨b, hb, _, _⟩ := DataW.trod_string Tryd.underlying9 h1
  obtain ⟨c, hc, _, _⟩ := DataW.trod_int Tryd.underlying3 h2
  simp only [List.cons.injEq, and_true] at ha hb hc
  subst ha; subst hb; subst hc
  have hv : vs = [.int .i64 a, .string b, .int .i64 c] := by
    match vs, hl with
    | [p, q, r], _ =>
      simp only [List.getElem?_cons_zero, List.getElem?_cons_succ, Option.some.injEq] at e0 e1 e2
      rw [e0, e1, e2]
  exact ⟨⟨a, b, c⟩, by rw [hv]; exact k23_mk w ⟨a, b, c⟩⟩
end Go.Proofs.YtlanldccamphcaaDoor.P
