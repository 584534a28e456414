/- Texts for the law FilingReturns (kept out of a larger one). -/
import Derived.Test.YtejgfblphgcgkaaDoorZFilingReturns12
import Derived.Test.YtejgfblphgcgkaaDoorZFilingReturns21
import Derived.Lib.SplitLaws
import Derived.WalkKit
namespace Go.Proofs.YtejgfblphgcgkaaDoor.P
set_option linter.unusedVariables false
set_option linter.unusedSimpArgs false
open Go Go.RowKit
def cutC (c : UInt8) : List UInt8 → List (List UInt8)
  | [] => [[]]
  | x :: l => if x = c then [] :: cutC c l else match cutC c l with | [] => [[x]] | h :: t => (x :: h) :: t
theorem cutC_ne (c : UInt8) (l : List UInt8) : cutC c l ≠ [] := by
  cases l with
  | nil => simp [cutC]
  | cons x l =>
    unfold cutC
    split
    · simp
    · split <;> simp
theorem cutC_cons (c x : UInt8) (l : List UInt8) (h : x ≠ c) : ∃ a t, cutC c l = a :: t ∧ cutC c (x :: l) = (x :: a) :: t := by
  cases e : cutC c l with
  | nil => exact absurd e (cutC_ne c l)
  | cons a t => refine ⟨a, t, rfl, ?_⟩; rw [cutC, if_neg h, e]
theorem splitK_cons_eq (c : UInt8) (l : List UInt8) (k : Nat) : Lib.splitK [c] 0 (k + 1) (c :: l) = [] :: Lib.splitK [c] 0 k l := by
  have hix : Lib.index (c :: l) [c] = 0 := by rw [Lib.index]; simp [List.isPrefixOf]
  rw [Lib.splitK, hix]
  simp
theorem splitK_cons_ne (c x : UInt8) (l : List UInt8) (k : Nat) (h : x ≠ c) (a : List UInt8) (t : List (List UInt8)) (he : Lib.splitK [c] 0 k l = a :: t) : Lib.splitK [c] 0 k (x :: l) = (x :: a) :: t := by
  have hp : ([c] : List UInt8).isPrefixOf (x :: l) = false := by simp [List.isPrefixOf, Ne.symm h]
  have hix : Lib.index (x :: l) [c] = if Lib.index l [c] == -1 then -1 else Lib.index l [c] + 1 := by rw [Lib.index, hp]; simp
  cases k with
  | zero =>
    rw [Lib.splitK] at he ⊢
    injection he with h1 h2
    rw [← h1, ← h2]
  | succ k =>
    rw [Lib.splitK] at he ⊢
    by_cases hm : Lib.index l [c] = -1
    · rw [if_pos (by rw [hm]; rfl)] at he
      rw [if_pos (by rw [hix, hm]; rfl)]
      injection he with h1 h2
      rw [← h1, ← h2]
    · have hge := Lib.index_ge l [c]
      obtain ⟨j, hj⟩ : ∃ j : Nat, Lib.index l [c] = j := ⟨(Lib.index l [c]).toNat, by omega⟩
      have hb : (Lib.index l [c] == -1) = false := by simpa using hm
      rw [if_neg (by rw [hb]; simp)] at he
      have hix2 : Lib.index (x :: l) [c] = ((j + 1 : Nat) : Int) := by rw [hix, hb, hj]; simp
      have hb2 : (Lib.index (x :: l) [c] == -1) = false := by rw [hix2]; simp; omega
      rw [if_neg (by rw [hb2]; simp)]
      rw [hj] at he
      rw [hix2]
      simp only [Int.toNat_natCast, Nat.add_zero, List.length_singleton] at he ⊢
      injection he with h1 h2
      rw [← h1, ← h2]
      rfl
theorem splitK_cut (c : UInt8) : ∀ s : List UInt8, Lib.splitK [c] 0 (Lib.count s [c]) s = cutC c s
  | [] => by rw [Lib.count_miss (by simp [Lib.index])]; rfl
  | x :: l => by
    have ih := splitK_cut c l
    by_cases h : x = c
    · subst h
      rw [Lib.count_cons_eq, Nat.add_comm, splitK_cons_eq, ih, cutC, if_pos rfl]
    · obtain ⟨a, t, h1, h2⟩ := cutC_cons c x l h
      rw [h2, Lib.count_cons_ne x c l h]
      exact splitK_cons_ne c x l _ h a t (ih.trans h1)
theorem splitS_cut (s : ByteArray) (c : UInt8) : (splitS s ⟨#[c]⟩).map (·.data.toList) = cutC c s.data.toList := by
  unfold splitS
  rw [Lib.splitB_data]
  exact splitK_cut c s.data.toList
theorem cutC_piece (c : UInt8) : ∀ (a r : List UInt8), c ∉ a → cutC c (a ++ c :: r) = a :: cutC c r
  | [], r, _ => by rw [List.nil_append, cutC, if_pos rfl]
  | x :: a, r, h => by
    have hx : x ≠ c := fun e => h (by rw [e]; exact List.mem_cons_self ..)
    obtain ⟨b, t, h1, h2⟩ := cutC_cons c x (a ++ c :: r) hx
    rw [cutC_piece c a r (fun m => h (List.mem_cons_of_mem _ m))] at h1
    injection h1 with h3 h4
    rw [List.cons_append, h2, ← h3, ← h4]
theorem cutC_last (c : UInt8) : ∀ a : List UInt8, c ∉ a → cutC c a = [a]
  | [], _ => rfl
  | x :: a, h => by
    have hx : x ≠ c := fun e => h (by rw [e]; exact List.mem_cons_self ..)
    obtain ⟨b, t, h1, h2⟩ := cutC_cons c x a hx
    rw [cutC_last c a (fun m => h (List.mem_cons_of_mem _ m))] at h1
    injection h1 with h3 h4
    rw [h2, ← h3, ← h4]
end Go.Proofs.YtejgfblphgcgkaaDoor.P
