/- Texts for the law FilingReturns (kept out of a larger one). -/
import Derived.Test.YtejgfblphgcgkaaDoorZFilingReturns12
import Derived.Test.YtejgfblphgcgkaaDoorZFilingReturns29
import Derived.Test.YtejgfblphgcgkaaDoorZFilingReturns36
import Derived.Test.YtejgfblphgcgkaaDoorZFilingReturns35
import Derived.Test.YtejgfblphgcgkaaDoorZFilingReturns40
import Derived.WalkKit
namespace Go.Proofs.YtejgfblphgcgkaaDoor.P
set_option linter.unusedVariables false
open Go.RowKit Go.Proofs.YtejgfblphgcgkaaDoorW.PrintWords
def deckCodes : List ByteArray := [(⟨#[98, 111, 110, 117, 115]⟩ : ByteArray), (⟨#[99, 97, 114]⟩ : ByteArray), (⟨#[110, 105, 103, 104, 116]⟩ : ByteArray), (⟨#[115, 97, 108, 97, 114, 121]⟩ : ByteArray), (⟨#[97]⟩ : ByteArray), (⟨#[98]⟩ : ByteArray), (⟨#[120, 49]⟩ : ByteArray), (⟨#[97, 98, 99, 100, 101, 102, 103, 104, 105, 106, 107, 108, 109, 110, 111, 112, 113, 114, 115, 116, 117, 118, 119, 120]⟩ : ByteArray)]
theorem deckCodes_names : ∀ c ∈ deckCodes, nameB c.data.toList = true := by
  have h : deckCodes.all (fun c => nameB c.data.toList) = true := by decide +kernel
  exact fun c hc => List.all_eq_true.1 h c hc
theorem deck_code (l : List Int) (p : Int) (hp : 0 ≤ p) (hp2 : p ≤ 100000000000) : ∃ c, Ev (fun k => paygen_Deck_Code.f k l p) (c, p + 1) ∧ nameB c.data.toList = true := by
  unfold paygen_Deck_Code.f
  obtain ⟨v, h1, h2, h3⟩ := deck_next l p 8 ⟨hp, by omega⟩ (by omega) (by omega)
  have hl : v.toNat < deckCodes.length := by show v.toNat < 8; omega
  refine ⟨rdOf ByteArray.empty deckCodes v, Ev.bindc (a := deckCodes) rfl (Ev.bind h1 (Ev.ifp h2 (Ev.ifp (by show v < ((8 : Nat) : Int); omega) (Ev.now _)))), ?_⟩
  unfold rdOf
  rw [List.getD_eq_getElem?_getD, List.getElem?_eq_getElem hl]
  exact deckCodes_names _ (List.getElem_mem hl)
end Go.Proofs.YtejgfblphgcgkaaDoor.P
