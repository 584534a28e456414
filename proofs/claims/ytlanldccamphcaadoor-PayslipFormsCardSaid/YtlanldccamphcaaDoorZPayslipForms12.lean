/- Texts for the law PayslipForms (kept out of a larger one). -/
import Derived.Test.YtlanldccamphcaaDoorZPayslipForms11
namespace Go.Proofs.YtlanldccamphcaaDoor.P
set_option linter.unusedVariables false
open Go Go.RowKit Go.Proofs.YtlanldccamphcaaDoorW.PrintWords
def keyLt (a b : S23) : Prop := a.f0 < b.f0 ∨ (a.f0 = b.f0 ∧ a.f1.data.toList < b.f1.data.toList)
instance (a b : S23) : Decidable (keyLt a b) := by unfold keyLt; exact inferInstance
def keyEq (a b : S23) : Prop := a.f0 = b.f0 ∧ a.f1.data.toList = b.f1.data.toList
instance (a b : S23) : Decidable (keyEq a b) := by unfold keyEq; exact inferInstance
def putS : List S23 → S23 → List S23
  | [], x => [x]
  | y :: r, x => if keyLt y x then y :: putS r x else if keyEq y x then ⟨x.f0, x.f1, wrap64 (x.f2 + y.f2)⟩ :: r else x :: y :: r
def sumS (l : List S23) : List S23 := l.foldl putS []
def look : List S23 → S23 → Option Int
  | [], _ => none
  | y :: r, x => if keyEq y x then some y.f2 else look r x
theorem bytes_ext {a b : ByteArray} (h : a.data.toList = b.data.toList) : a = b := by
  apply ByteArray.ext; exact Array.toList_inj.1 h
theorem keyEq.eq {a b : S23} (h : keyEq a b) : a.f0 = b.f0 ∧ a.f1 = b.f1 := ⟨h.1, bytes_ext h.2⟩
theorem keyEq.refl (a : S23) : keyEq a a := ⟨rfl, rfl⟩
theorem keyEq.symm {a b : S23} (h : keyEq a b) : keyEq b a := ⟨h.1.symm, h.2.symm⟩
theorem keyEq.trans {a b c : S23} (h : keyEq a b) (k : keyEq b c) : keyEq a c := ⟨h.1.trans k.1, h.2.trans k.2⟩
theorem keyLt.trans {a b c : S23} (h : keyLt a b) (k : keyLt b c) : keyLt a c := by
  rcases h with h | ⟨h1, h2⟩
  · rcases k with k | ⟨k1, k2⟩
    · exact Or.inl (by omega)
    · exact Or.inl (by omega)
  · rcases k with k | ⟨k1, k2⟩
    · exact Or.inl (by omega)
    · exact Or.inr ⟨by omega, List.lt_trans h2 k2⟩
theorem keyLt.irrefl {a b : S23} (h : keyLt a b) : ¬ keyEq a b := by
  rintro ⟨e1, e2⟩
  rcases h with h | ⟨_, h⟩
  · omega
  · rw [e2] at h; exact List.lt_irrefl _ h
theorem keyLt.asymm {a b : S23} (h : keyLt a b) : ¬ keyLt b a := fun k => (h.trans k).irrefl (keyEq.refl a)
theorem keyLt.total (a b : S23) : keyLt a b ∨ keyEq a b ∨ keyLt b a := by
  rcases Int.lt_trichotomy a.f0 b.f0 with h | h | h
  · exact Or.inl (Or.inl h)
  · by_cases h1 : a.f1.data.toList < b.f1.data.toList
    · exact Or.inl (Or.inr ⟨h, h1⟩)
    · by_cases h2 : b.f1.data.toList < a.f1.data.toList
      · exact Or.inr (Or.inr (Or.inr ⟨h.symm, h2⟩))
      · exact Or.inr (Or.inl ⟨h, List.le_antisymm (List.not_lt.1 h2) (List.not_lt.1 h1)⟩)
  · exact Or.inr (Or.inr (Or.inl h))
theorem keyLt.left {a b c : S23} (h : keyLt a b) (k : keyEq a c) : keyLt c b := by
  unfold keyLt; rw [← k.1, ← k.2]; exact h
theorem keyLt.right {a b c : S23} (h : keyLt a b) (k : keyEq b c) : keyLt a c := by
  unfold keyLt; rw [← k.1, ← k.2]; exact h
theorem look_lt {S : List S23} {x : S23} (h : ∀ y ∈ S, keyLt x y) : look S x = none := by
  induction S with
  | nil => rfl
  | cons y r ih =>
    unfold look
    rw [if_neg (fun e => (h y List.mem_cons_self).irrefl e.symm)]
    exact ih (fun z hz => h z (List.mem_cons_of_mem _ hz))
theorem look_congr {S : List S23} {x y : S23} (h : keyEq x y) : look S x = look S y := by
  induction S with
  | nil => rfl
  | cons z r ih =>
    unfold look
    by_cases e : keyEq z x
    · rw [if_pos e, if_pos (e.trans h)]
    · rw [if_neg e, if_neg (fun e' => e (e'.trans h.symm)), ih]
theorem mem_putS {S : List S23} {x z : S23} (h : z ∈ putS S x) : z ∈ S ∨ keyEq z x := by
  induction S with
  | nil => rw [putS, List.mem_singleton] at h; exact Or.inr (h ▸ keyEq.refl _)
  | cons y r ih =>
    unfold putS at h
    split at h
    · rcases List.mem_cons.1 h with h | h
      · exact Or.inl (h ▸ List.mem_cons_self)
      · rcases ih h with h | h
        · exact Or.inl (List.mem_cons_of_mem _ h)
        · exact Or.inr h
    · split at h
      · rcases List.mem_cons.1 h with h | h
        · exact Or.inr (h ▸ ⟨rfl, rfl⟩)
        · exact Or.inl (List.mem_cons_of_mem _ h)
      · rcases List.mem_cons.1 h with h | h
        · exact Or.inr (h ▸ keyEq.refl _)
        · exact Or.inl h
theorem sorted_putS {S : List S23} {x : S23} (h : S.Pairwise keyLt) : (putS S x).Pairwise keyLt := by
  induction S with
  | nil => exact List.pairwise_singleton _ _
  | cons y r ih =>
    obtain ⟨h1, h2⟩ := List.pairwise_cons.1 h
    unfold putS
    split
    · rename_i hlt
      refine List.pairwise_cons.2 ⟨fun z hz => ?_, ih h2⟩
      rcases mem_putS hz with hz | hz
      · exact h1 z hz
      · exact hlt.right hz.symm
    · rename_i hlt
      split
      · rename_i heq
        exact List.pairwise_cons.2 ⟨fun z hz => (h1 z hz).left heq, h2⟩
      · rename_i heq
        have hxy : keyLt x y := by
          rcases keyLt.total x y with h | h | h
          · exact h
          · exact absurd h.symm heq
          · exact absurd h hlt
        refine List.pairwise_cons.2 ⟨fun z hz => ?_, h⟩
        rcases List.mem_cons.1 hz with hz | hz
        · exact hz ▸ hxy
        · exact hxy.trans (h1 z hz)
theorem look_putS {S : List S23} {x z : S23} (h : S.Pairwise keyLt) : look (putS S x) z = if keyEq x z then some (match look S x with | some n => wrap64 (x.f2 + n) | none => x.f2) else look S z := by
  induction S with
  | nil =>
    unfold putS look look
    rfl
  | cons y r ih =>
    obtain ⟨h1, h2⟩ := List.pairwise_cons.1 h
    unfold putS
    split
    · rename_i hlt
      have e1 : ¬ keyEq y x := hlt.irrefl
      show (if keyEq y z then some y.f2 else look (putS r x) z) = _
      have e2 : look (y :: r) x = look r x := by show (if keyEq y x then some y.f2 else look r x) = _; rw [if_neg e1]
      have e3 : look (y :: r) z = if keyEq y z then some y.f2 else look r z := rfl
      rw [ih h2, e2, e3]
      by_cases hz : keyEq y z
      · rw [if_pos hz, if_pos hz, if_neg (fun e => e1 (hz.trans e.symm))]
      · rw [if_neg hz, if_neg hz]
    · rename_i hlt
      split
      · rename_i heq
        show (if keyEq ⟨x.f0, x.f1, wrap64 (x.f2 + y.f2)⟩ z then some (wrap64 (x.f2 + y.f2)) else look r z) = _
        have e2 : look (y :: r) x = some y.f2 := by show (if keyEq y x then some y.f2 else look r x) = _; rw [if_pos heq]
        rw [e2]
        by_cases hz : keyEq x z
        · rw [if_pos hz]; exact if_pos hz
        · rw [if_neg hz]
          refine (if_neg hz).trans ?_
          show look r z = if keyEq y z then some y.f2 else look r z
          rw [if_neg (fun e => hz (heq.symm.trans e))]
      · rename_i heq
        have hxy : keyLt x y := by
          rcases keyLt.total x y with h | h | h
          · exact h
          · exact absurd h.symm heq
          · exact absurd h hlt
        have e2 : look (y :: r) x = none := look_lt (fun z hz => by
          rcases List.mem_cons.1 hz with hz | hz
          · exact hz ▸ hxy
          · exact hxy.trans (h1 z hz))
        rw [e2]
        rfl
theorem look_mem {S : List S23} (h : S.Pairwise keyLt) {x : S23} (hx : x ∈ S) : look S x = some x.f2 := by
  induction S with
  | nil => cases hx
  | cons y r ih =>
    obtain ⟨h1, h2⟩ := List.pairwise_cons.1 h
    unfold look
    rcases List.mem_cons.1 hx with e | hx
    · rw [if_pos (e ▸ keyEq.refl _), e]
    · rw [if_neg (h1 x hx).irrefl]; exact ih h2 hx
theorem mem_look {S : List S23} {x : S23} {n : Int} (h : look S x = some n) : ⟨x.f0, x.f1, n⟩ ∈ S := by
  induction S with
  | nil => cases h
  | cons y r ih =>
    unfold look at h
    split at h
    · rename_i e
      obtain ⟨e1, e2⟩ := e.eq
      have : y = ⟨x.f0, x.f1, n⟩ := by cases y; simp at h e1 e2; simp [h, e1, e2]
      exact this ▸ List.mem_cons_self
    · exact List.mem_cons_of_mem _ (ih h)
theorem sorted_ext : ∀ {S T : List S23}, S.Pairwise keyLt → T.Pairwise keyLt → (∀ x, x ∈ S ↔ x ∈ T) → S = T
  | [], [], _, _, _ => rfl
  | [], y :: r, _, _, h => by have := (h y).2 List.mem_cons_self; cases this
  | x :: r, [], _, _, h => by have := (h x).1 List.mem_cons_self; cases this
  | x :: r, y :: s, hS, hT, h => by
    obtain ⟨h1, h2⟩ := List.pairwise_cons.1 hS
    obtain ⟨k1, k2⟩ := List.pairwise_cons.1 hT
    have e : x = y := by
      rcases List.mem_cons.1 ((h x).1 List.mem_cons_self) with e | hx
      · exact e
      · rcases List.mem_cons.1 ((h y).2 List.mem_cons_self) with e | hy
        · exact e.symm
        · exact absurd (k1 x hx) (h1 y hy).asymm
    subst e
    have : r = s := sorted_ext h2 k2 (fun z => by
      constructor
      · intro hz
        rcases List.mem_cons.1 ((h z).1 (List.mem_cons_of_mem _ hz)) with e | hz'
        · exact absurd (e ▸ keyEq.refl _ : keyEq x z) (h1 z hz).irrefl
        · exact hz'
      · intro hz
        rcases List.mem_cons.1 ((h z).2 (List.mem_cons_of_mem _ hz)) with e | hz'
        · exact absurd (e ▸ keyEq.refl _ : keyEq x z) (k1 z hz).irrefl
        · exact hz')
    rw [this]
end Go.Proofs.YtlanldccamphcaaDoor.P
