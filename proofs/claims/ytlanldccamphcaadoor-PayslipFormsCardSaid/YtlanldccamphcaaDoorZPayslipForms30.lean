/- Texts for the law PayslipForms (kept out of a larger one). -/
import Derived.Test.YtlanldccamphcaaDoorZPayslipForms11
import Derived.WalkKit
import Derived.Below
namespace Go.Proofs.YtlanldccamphcaaDoor.P
set_option linter.unusedVariables false
set_option linter.unusedSimpArgs false
open Go Go.RowKit Go.Proofs.YtlanldccamphcaaDoorW.PrintWords Go.Proofs.YtlanldccamphcaaDoorW.PrintLast Go.Proofs.YtlanldccamphcaaDoorW.PrintMore
set_option maxRecDepth 100000 in
theorem sums_long (A0 : Option Addr) (c0 : Nat) (l0 : List S23) (w : World) (hlen : 65536 < l0.length) :
    Calls Tryd.prog 29 #[.slice A0 l0.length c0] w fun e w' => e = .returned (.tuple #[.map none, .int .i64 3]) ∧ Below w.heap.size w w' := by
  have c2b0 : decide (65536 < (l0.length : Int)) = true := decide_eq_true (by omega)
  have c2b1 : decide (65536 < l0.length) = true := decide_eq_true hlen
  clear hlen
  go_enter Tryd.func29, Tryd.ntmps29
  go_wp2
  go_ret2
  exact ⟨rfl, Below.refl _ _⟩
end Go.Proofs.YtlanldccamphcaaDoor.P
