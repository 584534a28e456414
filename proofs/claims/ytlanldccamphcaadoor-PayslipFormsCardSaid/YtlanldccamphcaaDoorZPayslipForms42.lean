/- Texts for the law PayslipForms (kept out of a larger one). -/
import Derived.Test.YtlanldccamphcaaDoorZPayslipForms11
import Derived.Test.YtlanldccamphcaaDoorZPayslipForms35
import Derived.Test.YtlanldccamphcaaDoorZPayslipForms37
import Derived.Test.YtlanldccamphcaaDoorZPayslipForms36
import Derived.Test.YtlanldccamphcaaDoorZPayslipForms39
import Derived.Test.YtlanldccamphcaaDoorZPayslipForms41
import Derived.WalkKit
namespace Go.Proofs.YtlanldccamphcaaDoor.P
set_option linter.unusedVariables false
set_option linter.unusedSimpArgs false
open Go.RowKit Go.Proofs.YtlanldccamphcaaDoorW.PrintWords
theorem PayslipForms (a0_0 : Int) (a0_1 : ByteArray) (a0_2 : Int) (l1 : List Int) (a2 : Int) : ∃ k, payrolllaw34_PayslipForms.f k a0_0 a0_1 a0_2 l1 a2 = some true := by
  refine Ev.rounds ?_
  unfold payrolllaw34_PayslipForms.f
  by_cases c : (a0_1.size : Int) > 60
  · exact Ev.ifp c (Ev.bind awake_ev (Ev.now _))
  · obtain ⟨a, b, d, p', h1, h2, h3, h4⟩ := deck_line l1 0 (by omega) (by omega)
    obtain ⟨v, m1, _, _⟩ := deck_mod a2 13 (by omega) (by omega)
    obtain ⟨u, g1, _⟩ := deck_pick l1 p' [0, 1000000000000, 1000000000001, (-1000000000000), (-1000000000001)] ⟨by omega, by omega⟩ (by decide) (by decide)
    refine Ev.ifn c (Ev.bindc (a := (l1, 0)) rfl (Ev.bind h1 (Ev.bindc m1 (Ev.bind g1 ?_))))
    have hf : FormP a b d = true := by
      unfold FormP
      have e1 : formP a b d = true := h4.1
      have e2 : d ≠ 0 := h4.2.1
      rw [e1]; simpa using e2
    refine Ev.bind (payslip_Form_ev _ _ _) (Ev.bind (ref34_Form_ev _ _ _) (Ev.ifp (by simp) ?_))
    refine Ev.bind ((payslip_Form_ev a b d).cast hf) (Ev.ifp (by first | rfl | trivial) ?_)
    refine Ev.bind (payslip_Form_ev _ _ _) (Ev.bind (ref34_Form_ev _ _ _) (Ev.ifp (by simp) ?_))
    refine Ev.bind (payslip_Form_ev _ _ _) (Ev.bind (ref34_Form_ev _ _ _) (Ev.ifp (by simp) ?_))
    exact Ev.bind awake_ev (Ev.now _)
end Go.Proofs.YtlanldccamphcaaDoor.P
