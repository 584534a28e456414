/- Texts for the law FilingReturns (kept out of a larger one). -/
import Derived.Test.YtejgfblphgcgkaaDoorZFilingReturns17
import Derived.Test.YtejgfblphgcgkaaDoorZFilingReturns12
import Derived.Test.YtejgfblphgcgkaaDoorZFilingReturns18
import Derived.Lib.SplitLaws
import Derived.WalkKit
namespace Go.Proofs.YtejgfblphgcgkaaDoor.P
open Go.RowKit Go.Proofs.YtejgfblphgcgkaaDoorW.PrintWords Go.Proofs.YtejgfblphgcgkaaDoorW.PrintLast Go.Proofs.YtejgfblphgcgkaaDoorW.PrintMore
def splitS (s sep : ByteArray) : List ByteArray := Lib.splitB sep 0 (Lib.countB s sep) s
def strings_Split.f (a0 a1 : ByteArray) : Option (List ByteArray) := if a0.size < 4294967281 ∧ 1 ≤ a1.size then some (splitS a0 a1) else none
theorem strings_Split.calls (a0 a1 : ByteArray) (r1 : List ByteArray) (w : World) (hT : Tabs w) (h : strings_Split.f a0 a1 = some r1) :
    Calls Tryd.prog 31 #[.string a0, .string a1] w fun e w' => ∃ v0_ : Value, e = .returned (v0_) ∧ Kd.R Kd.string 9 w' w.heap.size (fun _ => True) v0_ r1 ∧ Below w.heap.size w w' := by
  unfold strings_Split.f at h
  split at h
  · rename_i hc
    obtain rfl := Option.some.inj h
    obtain ⟨m, hm⟩ := hT.maxLen
    refine (Tryd.strings_Split a0 a1 m w hc.1 hm hc.2).mono ?_
    rintro e w' ⟨rfl, rfl⟩
    have hl : (splitS a0 a1).length = Lib.countB a0 a1 + 1 := Lib.splitB_all a1 hc.2 0 _ a0 rfl
    have hle : Lib.countB a0 a1 ≤ a0.size := Lib.countB_le a1 hc.2 _ a0 (Nat.le_refl _)
    refine ⟨_, rfl, ?_, below_alloc (Below.refl _ _) _⟩
    refine Kd.R_of_own (enc := Value.string) ⟨by simp [encs], Or.inr ⟨w.heap.size, _, _, by rw [hl], Nat.le_refl _, blk_new _ _, by omega, by unfold maxLen; omega, by simp [← hl, splitS], ?_⟩⟩ (fun _ _ => trivial)
    rw [List.take_of_length_le (by simp [splitS])]
    rfl
  · cases h
end Go.Proofs.YtejgfblphgcgkaaDoor.P
