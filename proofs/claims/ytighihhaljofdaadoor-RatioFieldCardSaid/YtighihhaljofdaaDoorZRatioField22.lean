/- Texts for the law RatioField (kept out of a larger one). -/
import Derived.Test.YtighihhaljofdaaDoorZRatioField9
import Derived.Test.YtighihhaljofdaaDoorZRatioField16
import Derived.Test.YtighihhaljofdaaDoorZRatioField21
namespace Go.Proofs.YtighihhaljofdaaDoor.P
set_option linter.unusedVariables false
open Go.RowKit Go.Proofs.YtighihhaljofdaaDoorW.PrintWords
def At (l : List Int) (p : Int) : Prop := 0 ≤ p ∧ p ≤ (l.length : Int) ∧ (l.length : Int) ≤ 140737488351232
theorem At.start {l : List Int} (h : l.length * 8 ≤ 140737488351232) : At l 0 := ⟨Int.le_refl _, by omega, by omega⟩
theorem next_ok (l : List Int) (p n : Int) (h : At l p) (hn : n ≤ 9223372036854775807) :
    ∃ v p', payrollgen_Tape_Next.f l p n = some (v, p') ∧ At l p' ∧ 0 ≤ v ∧ (1 ≤ n → v < n) ∧ (n < 1 → v = 0) := by
  unfold payrollgen_Tape_Next.f
  obtain ⟨h0, h1, h2⟩ := h
  by_cases c1 : n < 1
  · exact ⟨0, p, if_pos c1, ⟨h0, h1, h2⟩, Int.le_refl _, fun _ => by omega, fun _ => rfl⟩
  · by_cases c2 : p ≥ (l.length : Int)
    · exact ⟨0, p, by rw [if_neg c1, if_pos c2], ⟨h0, h1, h2⟩, Int.le_refl _, fun _ => by omega, fun _ => rfl⟩
    · have e1 : wrap64 (p + 1) = p + 1 := wrap64_in (by unfold I64; omega)
      have e2 : wrap64 (p + 1 - 1) = p := by rw [show p + 1 - 1 = p by omega]; exact wrap64_in (by unfold I64; omega)
      refine ⟨rd l p % n, p + 1, ?_, ⟨by omega, by omega, h2⟩, Int.emod_nonneg _ (by omega), fun _ => Int.emod_lt_of_pos _ (by omega), fun h => by omega⟩
      rw [if_neg c1, if_neg c2, e1, e2, if_pos h0, if_pos (by omega), gen_Mod_eq (by omega) hn]
      rfl
theorem pick_ok (l : List Int) (p : Int) (m : List Int) (h : At l p) (hm : 0 < m.length) (hm2 : m.length ≤ 1000) :
    ∃ v p', payrollgen_Tape_Pick.f l p m = some (v, p') ∧ At l p' ∧ v ∈ m := by
  obtain ⟨v, p', e, hp, h0, h1, _⟩ := next_ok l p (m.length : Int) h (by omega)
  have h1 := h1 (by omega)
  refine ⟨rd m v, p', ?_, hp, ?_⟩
  · unfold payrollgen_Tape_Pick.f
    rw [e]
    show (if 0 ≤ v then (if v < (m.length : Int) then some (rd m v, p') else none) else none) = _
    rw [if_pos h0, if_pos h1]
  · unfold rd
    rw [List.getD_eq_getElem?_getD, List.getElem?_eq_getElem (by omega : v.toNat < m.length)]
    exact List.getElem_mem _
end Go.Proofs.YtighihhaljofdaaDoor.P
