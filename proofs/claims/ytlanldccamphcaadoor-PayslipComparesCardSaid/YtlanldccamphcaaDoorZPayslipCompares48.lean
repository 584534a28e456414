/- Texts for the law PayslipCompares (kept out of a larger one). -/
import Derived.Test.YtlanldccamphcaaDoorZPayslipCompares13
import Derived.Deep.Slices
import Derived.Deep.Fields
import Derived.ChangeSame
namespace Go.Proofs.YtlanldccamphcaaDoor.P
set_option linter.unusedVariables false
open Go Go.RowKit Go.ChangeShapes Go.WideShapes Go.Deep Go.Proofs.YtlanldccamphcaaDoorW.PrintWords
theorem choose_list {α : Type} {Q : Nat → α → Prop} : ∀ n : Nat, (∀ i, i < n → ∃ x, Q i x) → ∃ l : List α, l.length = n ∧ ∀ i x, l[i]? = some x → Q i x
  | 0, _ => ⟨[], rfl, fun i x h => by simp at h⟩
  | n + 1, h => by
    obtain ⟨l, hl, hq⟩ := choose_list n (fun i hi => h i (by omega))
    obtain ⟨x, hx⟩ := h n (by omega)
    refine ⟨l ++ [x], by rw [List.length_append, hl]; rfl, fun i y hy => ?_⟩
    rcases Nat.lt_or_ge i l.length with c | c
    · rw [List.getElem?_append_left c] at hy; exact hq i y hy
    · have : i = l.length := by
        have := (List.getElem?_eq_some_iff.1 hy).1
        rw [List.length_append, List.length_singleton] at this; omega
      subst this
      have e : x = y := by simpa using hy
      subst e
      rw [hl]; exact hx
variable {H : Type} {enc : TypeId × Value → H} {P : Program} {w : World} {base : Nat} {spare : Nat → Bool} {held : Bool}
theorem open_rows {α : Type} (d : Kd α) {t e : TypeId} {fs : Array Field} {A : Option Addr} {len cap : Nat} {x : DataW H} {p : List MemPlace} (ht : P.underlying t = some (.slice e)) (he : P.underlying e = some (.struct fs))
    (hone : oneCellFields P fs = true) (hC : P.cellsOf e = fs.size) (hsz : d.sz = fs.size) (h : DataW.Trod enc P w base spare held t (.slice A len cap) x p)
    (mk : ∀ vs : List Value, vs.length = fs.size → (∀ (j : Nat) (f : Field), fs[j]? = some f → ∃ (n : Nat) (v : Value) (y : DataW H × List MemPlace), vs[j]? = some v ∧ DataW.trod enc P w base spare held n f.type [v] = some y) → ∃ a : α, d.K w a vs) :
    ∃ l : List α, l.length = len ∧ d.C w A l.length l ∧ l.length ≤ cap := by
  obtain ⟨fuel, hf⟩ := h
  rcases open_slice ht hf with ⟨hcs, _⟩ | ⟨a, len', cap', m, n, D, Pl, hcs, hb, hl, hm, hmm, hx, hi⟩
  · simp [Value.cells] at hcs
    obtain ⟨rfl, rfl, rfl⟩ := hcs
    exact ⟨[], rfl, Kd.C_nil d w, Nat.le_refl _⟩
  · simp [Value.cells] at hcs
    obtain ⟨rfl, rfl, rfl⟩ := hcs
    have hlm : len ≤ m := by rw [hmm]; split <;> omega
    have key : ∀ i, i < len → ∃ z : α, ∃ vs : List Value, vs.length = fs.size ∧ d.K w z vs ∧ ∀ (j : Nat) (u : Value), vs[j]? = some u → w.cell? (a.add (i * fs.size + j)) = some u := by
      intro i him
      obtain ⟨cs', hc, ht'⟩ := hi i (by omega)
      rw [hC] at hc
      obtain ⟨ys, n', hn', hy, hlen, hyl, hf2⟩ := DataW.trod_struct he ht'
      obtain ⟨_, hcl, hat⟩ := World.cells?_some hc
      obtain ⟨z, hz⟩ := mk cs' hcl (fun j f hj => by
        obtain ⟨ho, hk⟩ := hone_of hone j f hj
        have hjl : j < fs.size := (Array.getElem?_eq_some_iff.1 hj).1
        have hv : cs'[j]? = some (cs'[j]'(by omega)) := List.getElem?_eq_getElem (by omega)
        have h1 := hf2 j f hj
        rw [ho, hk] at h1
        have h2 : (cs'.drop j).take 1 = [cs'[j]'(by omega)] := by
          rw [List.drop_eq_getElem_cons (by omega)]; rfl
        rw [h2] at h1
        have hys : ys[j]? = some (ys[j]'(by omega)) := List.getElem?_eq_getElem (by omega)
        exact ⟨_, _, _, hv, h1.trans hys⟩)
      refine ⟨z, cs', hcl, hz, fun j u hu => ?_⟩
      have hj : j < fs.size := by have := (List.getElem?_eq_some_iff.1 hu).1; omega
      rw [← Go.Deep.add_add, hat j hj, hu]
    obtain ⟨l, hl2, hq⟩ := choose_list len key
    refine ⟨l, hl2, ⟨rfl, by rw [hl2]; unfold maxLen at hm; omega, fun _ => ⟨a, rfl, fun j z hz => ?_⟩⟩, by omega⟩
    obtain ⟨vs, h1, h2, h3⟩ := hq j z hz
    exact ⟨vs, by rw [hsz]; exact h1, h2, fun i u hu => by rw [hsz]; exact h3 i u hu⟩
end Go.Proofs.YtlanldccamphcaaDoor.P
