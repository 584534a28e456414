/- Texts for the law FilingReturns (kept out of a larger one). -/
import Derived.Test.YtejgfblphgcgkaaDoorZFilingReturns12
import Derived.Test.YtejgfblphgcgkaaDoorZFilingReturns14
import Derived.Test.YtejgfblphgcgkaaDoorZFilingReturns29
import Derived.Test.YtejgfblphgcgkaaDoorZFilingReturns35
import Derived.WalkKit
namespace Go.Proofs.YtejgfblphgcgkaaDoor.P
set_option linter.unusedVariables false
open Go.RowKit Go.Proofs.YtejgfblphgcgkaaDoorW.PrintWords
def Near (p : Int) : Prop := 0 ≤ p ∧ p ≤ 1000000000000
theorem tmod_range (x n : Int) (hn : 1 ≤ n) (hn2 : n ≤ 4611686018427387904) : ∃ v, 0 ≤ v ∧ v < n ∧ (if Int.tmod x n < 0 then wrap64 (Int.tmod x n + n) else Int.tmod x n) = v := by
  have h1 : Int.tmod x n < n := Int.tmod_lt_of_pos x (by omega)
  have h2 : -n < Int.tmod x n := by
    have h3 := Int.tmod_lt_of_pos (-x) (by omega : (0 : Int) < n)
    rw [Int.neg_tmod] at h3; omega
  by_cases h : Int.tmod x n < 0
  · exact ⟨Int.tmod x n + n, by omega, by omega, by rw [if_pos h]; unfold wrap64; omega⟩
  · exact ⟨Int.tmod x n, by omega, h1, by rw [if_neg h]⟩
theorem deck_next (l : List Int) (p n : Int) (hp : Near p) (hn : 1 ≤ n) (hn2 : n ≤ 4611686018427387904) : ∃ v, Ev (fun k => paygen_Deck_Next.f k l p n) (v, p + 1) ∧ 0 ≤ v ∧ v < n := by
  have hj : ∀ x, ∃ v, Ev (fun k => paygen_Deck_Next.j0 k n x l p) (v, p + 1) ∧ 0 ≤ v ∧ v < n := by
    intro x
    obtain ⟨v, h1, h2, h3⟩ := tmod_range x n hn hn2
    have e : wrap64 (p + 1) = p + 1 := by unfold wrap64; unfold Near at hp; omega
    refine ⟨v, Ev.step (fun k => by simp only [paygen_Deck_Next.j0]; rfl) (Ev.ifn (by omega) ?_), h1, h2⟩
    rw [e]
    by_cases h : Int.tmod x n < 0
    · rw [if_pos h] at h3; exact Ev.ifp h (by rw [h3]; exact Ev.now _)
    · rw [if_neg h] at h3; exact Ev.ifn h (by rw [h3]; exact Ev.now _)
  unfold paygen_Deck_Next.f
  by_cases c : p < (l.length : Int)
  · obtain ⟨v, h1, h2⟩ := hj (rd l p)
    exact ⟨v, Ev.ifp c (Ev.ifp hp.1 h1), h2⟩
  · obtain ⟨v, h1, h2⟩ := hj (wrap64 ((wrap64 (5 * p)) + 2))
    exact ⟨v, Ev.ifn c h1, h2⟩
end Go.Proofs.YtejgfblphgcgkaaDoor.P
