/- Texts for the law PayslipForms (kept out of a larger one). -/
import Derived.Test.YtlanldccamphcaaDoorZPayslipForms15
import Derived.Test.YtlanldccamphcaaDoorZPayslipForms11
import Derived.Test.YtlanldccamphcaaDoorZPayslipForms18
import Derived.Lib.AppendIntMem
import Derived.WalkKit
namespace Go.Proofs.YtlanldccamphcaaDoor.P
open Go.RowKit
def strconv_Itoa.f (a0 : Int) : Option (ByteArray) := if -9223372036854775808 ≤ a0 ∧ a0 ≤ 9223372036854775807 then some ⟨(Lib.itoa a0).toArray⟩ else none
theorem strconv_Itoa.calls (a0 : Int) (r : ByteArray) (w : World) (hT : Tabs w) (h : strconv_Itoa.f a0 = some r) :
    Calls Tryd.prog 36 #[.int .i64 a0] w fun e w' => e = .returned (.string r) ∧ Below w.heap.size w w' := by
  unfold strconv_Itoa.f at h
  split at h
  · rename_i hc
    obtain rfl := Option.some.inj h
    refine (Tryd.strconv_Itoa a0 hc.1 hc.2 w hT.1).mono ?_
    rintro e w' ⟨rfl, k, os, rfl⟩
    exact ⟨rfl, Lib.below_grow _ _ (Nat.le_refl _) _ _⟩
  · cases h
end Go.Proofs.YtlanldccamphcaaDoor.P
