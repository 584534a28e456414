/- Texts for the law FilingLimits (kept out of a larger one). -/
import Derived.Test.YtejgfblphgcgkaaDoorZFilingLimits11
import Derived.Test.YtejgfblphgcgkaaDoorZFilingLimits13
import Derived.Test.YtejgfblphgcgkaaDoorZFilingLimits28
import Derived.Test.YtejgfblphgcgkaaDoorZFilingLimits29
import Derived.WalkKit
namespace Go.Proofs.YtejgfblphgcgkaaDoor.P
set_option linter.unusedVariables false
open Go.RowKit Go.Proofs.YtejgfblphgcgkaaDoorW.PrintWords
theorem tmod_range (x n : Int) (hn : 1 ≤ n) (hn2 : n ≤ 4611686018427387904) : ∃ v, 0 ≤ v ∧ v < n ∧ (if Int.tmod x n < 0 then wrap64 (Int.tmod x n + n) else Int.tmod x n) = v := by
  have h1 : Int.tmod x n < n := Int.tmod_lt_of_pos x (by omega)
  have h2 : -n < Int.tmod x n := by
    have h3 := Int.tmod_lt_of_pos (-x) (by omega : (0 : Int) < n)
    rw [Int.neg_tmod] at h3; omega
  by_cases h : Int.tmod x n < 0
  · exact ⟨Int.tmod x n + n, by omega, by omega, by rw [if_pos h]; unfold wrap64; omega⟩
  · exact ⟨Int.tmod x n, by omega, h1, by rw [if_neg h]⟩
theorem deck_mod (x n : Int) (hn : 1 ≤ n) (hn2 : n ≤ 4611686018427387904) : ∃ v, paygen_Mod.f x n = some v ∧ 0 ≤ v ∧ v < n := by
  obtain ⟨v, h1, h2, h3⟩ := tmod_range x n hn hn2
  refine ⟨v, ?_, h1, h2⟩
  unfold paygen_Mod.f
  rw [if_neg (by omega)]
  by_cases h : Int.tmod x n < 0
  · rw [if_pos h] at h3 ⊢; rw [h3]
  · rw [if_neg h] at h3 ⊢; rw [h3]
end Go.Proofs.YtejgfblphgcgkaaDoor.P
