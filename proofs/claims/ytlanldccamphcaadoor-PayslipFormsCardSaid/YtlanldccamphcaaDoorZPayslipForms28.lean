/- Texts for the law PayslipForms (kept out of a larger one). -/
import Derived.Test.YtlanldccamphcaaDoorZPayslipForms11
import Derived.Test.YtlanldccamphcaaDoorZPayslipForms14
import Derived.Test.YtlanldccamphcaaDoorZPayslipForms27
import Derived.Test.YtlanldccamphcaaDoorZPayslipForms21
import Derived.Test.YtlanldccamphcaaDoorZPayslipForms12
import Derived.Test.YtlanldccamphcaaDoorZPayslipForms25
import Derived.Maps.Views
namespace Go.Proofs.YtlanldccamphcaaDoor.P
set_option linter.unusedVariables false
set_option linter.unusedSimpArgs false
open Go Go.RowKit Go.Maps Go.Proofs.YtlanldccamphcaaDoorW.PrintWords
def probeX (k : Int) (c : ByteArray) : S23 := ⟨k, c, 0⟩
def valS (S : List S23) (z : S23) : Int := (look S z).getD 0
theorem valS_congr {S : List S23} {x y : S23} (h : keyEq x y) : valS S x = valS S y := by unfold valS; rw [look_congr h]
theorem valS_mem {S : List S23} (h : S.Pairwise keyLt) {x : S23} (hx : x ∈ S) : valS S x = x.f2 := by unfold valS; rw [look_mem h hx]; rfl
def fineX (x : S23) : Prop := okX x ∧ -1000000000000 ≤ x.f2 ∧ x.f2 ≤ 1000000000000
structure Rel (D : DataW Unit) (S : List S23) : Prop where
  isMap : IsMap D
  sorted : S.Pairwise keyLt
  ok : ∀ x ∈ S, okX x
  has : ∀ k c, (Lit.int .i64 k).wf = true → c.size ≤ maxLen → Maps.has D (keyL k c) = (look S (probeX k c)).isSome
  num : ∀ k c, (Lit.int .i64 k).wf = true → c.size ≤ maxLen → numD D k c = valS S (probeX k c)
theorem rel_nil : Rel (.map []) [] := ⟨⟨_, rfl⟩, List.Pairwise.nil, fun x h => (by cases h), fun k c _ _ => rfl, fun k c _ _ => rfl⟩
theorem numD_put_same {D : DataW Unit} (hD : IsMap D) (k : Int) (c : ByteArray) (n : Int) : numD (D.put (keyL k c) (.lit (.int .i64 n))) k c = n := by
  unfold numD; rw [atKey_put_same hD (keyL_lit k c)]
theorem numD_put_other {D : DataW Unit} {k k' : Int} {c c' : ByteArray} (n : Int) (hne : keyL k' c' ≠ keyL k c) : numD (D.put (keyL k c) (.lit (.int .i64 n))) k' c' = numD D k' c' := by
  unfold numD; rw [atKey_put_other hne]
theorem keyL_ne {k k' : Int} {c c' : ByteArray} (h : ¬ (k = k' ∧ c = c')) (hk : (Lit.int .i64 k).wf = true) (hc : c.size ≤ maxLen) (hk' : (Lit.int .i64 k').wf = true) (hc' : c'.size ≤ maxLen) : keyL k c ≠ keyL k' c' := fun e => h (keyL_inj hk hc hk' hc' e)
theorem ok_putS {S : List S23} {x : S23} (h : ∀ y ∈ S, okX y) (hx : okX x) : ∀ y ∈ putS S x, okX y := by
  intro y hy
  rcases mem_putS hy with hy | hy
  · exact h y hy
  · obtain ⟨e1, e2⟩ := hy.eq
    unfold okX; rw [e1, e2]; exact hx
theorem valS_putS {S : List S23} {x z : S23} (h : S.Pairwise keyLt) (hx : -1000000000000 ≤ x.f2 ∧ x.f2 ≤ 1000000000000) : valS (putS S x) z = if keyEq x z then wrap64 (valS S x + x.f2) else valS S z := by
  unfold valS
  rw [look_putS h]
  by_cases e : keyEq x z
  · rw [if_pos e, if_pos e]
    cases hl : look S x with
    | none => simp only [Option.getD_some, Option.getD_none]; unfold wrap64; omega
    | some n => simp only [Option.getD_some]; rw [Int.add_comm]
  · rw [if_neg e, if_neg e]
theorem some_putS {S : List S23} {x z : S23} (h : S.Pairwise keyLt) : (look (putS S x) z).isSome = if keyEq x z then true else (look S z).isSome := by
  rw [look_putS h]
  by_cases e : keyEq x z
  · rw [if_pos e, if_pos e]; rfl
  · rw [if_neg e, if_neg e]
theorem Rel.put {D : DataW Unit} {S : List S23} (h : Rel D S) {x : S23} (hx : fineX x) : Rel (D.put (keyL x.f0 x.f1) (.lit (.int .i64 (wrap64 (numD D x.f0 x.f1 + x.f2))))) (putS S x) := by
  obtain ⟨h1, h2⟩ := hx
  have hm : ∃ es, D.put (keyL x.f0 x.f1) (.lit (.int .i64 (wrap64 (numD D x.f0 x.f1 + x.f2)))) = .map es := by obtain ⟨es, rfl⟩ := h.isMap; exact ⟨_, rfl⟩
  have hkx : valS S (probeX x.f0 x.f1) = valS S x := valS_congr ⟨rfl, rfl⟩
  refine ⟨hm, sorted_putS h.sorted, ok_putS h.ok h1, fun k c hk hc => ?_, fun k c hk hc => ?_⟩
  · rw [some_putS h.sorted]
    by_cases e : x.f0 = k ∧ x.f1 = c
    · obtain ⟨rfl, rfl⟩ := e
      rw [if_pos (show keyEq x (probeX x.f0 x.f1) from ⟨rfl, rfl⟩), has_put_same h.isMap (keyL_lit _ _)]
    · rw [if_neg (fun e' => e e'.eq), has_put_other (fun e' => keyL_ne e h1.1 h1.2 hk hc e'.symm), h.has k c hk hc]
  · rw [valS_putS h.sorted h2]
    by_cases e : x.f0 = k ∧ x.f1 = c
    · obtain ⟨rfl, rfl⟩ := e
      rw [if_pos (show keyEq x (probeX x.f0 x.f1) from ⟨rfl, rfl⟩), numD_put_same h.isMap, h.num _ _ hk hc, hkx]
    · rw [if_neg (fun e' => e e'.eq), numD_put_other _ (fun e' => keyL_ne e h1.1 h1.2 hk hc e'.symm), h.num k c hk hc]
theorem rel_sums_from : ∀ (l : List S23) (D : DataW Unit) (S : List S23), Rel D S → (∀ x ∈ l, fineX x) → Rel (l.foldl addD D) (l.foldl putS S)
  | [], _, _, h, _ => h
  | x :: l, D, S, h, hf => rel_sums_from l _ _ (h.put (hf x List.mem_cons_self)) (fun y hy => hf y (List.mem_cons_of_mem _ hy))
theorem rel_sums (l : List S23) (hf : ∀ x ∈ l, fineX x) : Rel (sumsD l) (sumS l) := rel_sums_from l _ _ rel_nil hf
def totalB (n : Int) : Bool := decide (-1000000000000 ≤ n) && decide (n ≤ 1000000000000)
theorem total_eq (n : Int) : payslip_total.f n = some (totalB n) := by
  unfold payslip_total.f totalB
  by_cases h : -1000000000000 ≤ n
  · rw [if_pos h]; simp [h]
  · rw [if_neg h]; simp [h]
def dropZ (S : List S23) : List S23 := S.filter fun x => x.f2 != 0
def allT (S : List S23) : Bool := S.all fun x => totalB x.f2
theorem sorted_dropZ {S : List S23} (h : S.Pairwise keyLt) : (dropZ S).Pairwise keyLt := h.sublist List.filter_sublist
theorem mem_dropZ {S : List S23} {x : S23} : x ∈ dropZ S ↔ x ∈ S ∧ x.f2 ≠ 0 := by unfold dropZ; rw [List.mem_filter]; simp
theorem mem_dropZ_valS {S : List S23} (h : S.Pairwise keyLt) {x : S23} : x ∈ dropZ S ↔ valS S x = x.f2 ∧ x.f2 ≠ 0 := by
  rw [mem_dropZ]
  constructor
  · rintro ⟨a, b⟩; exact ⟨valS_mem h a, b⟩
  · rintro ⟨a, b⟩
    refine ⟨?_, b⟩
    unfold valS at a
    cases hl : look S x with
    | none => rw [hl] at a; exact absurd a.symm b
    | some n =>
      rw [hl] at a
      have := mem_look hl
      have e : n = x.f2 := a
      rw [e] at this
      exact this
theorem allT_valS {S : List S23} (hS : S.Pairwise keyLt) : allT S = true ↔ ∀ z, totalB (valS S z) = true := by
  unfold allT
  rw [List.all_eq_true]
  constructor
  · intro h z
    unfold valS
    cases hl : look S z with
    | none => rfl
    | some n => exact h _ (mem_look hl)
  · intro h x hx
    have := h x
    rwa [valS_mem hS hx] at this
theorem gotAll_eq {D : DataW Unit} {S C : List S23} (h : Rel D S) (hg : GotAll D C) : C = dropZ S := by
  refine sorted_ext hg.1 (sorted_dropZ h.sorted) (fun x => ?_)
  rw [hg.2 x, mem_dropZ]
  constructor
  · rintro ⟨a, b, c, d⟩
    rw [h.num _ _ a.1 a.2] at c
    have e : valS S x = x.f2 := by rw [← c]; exact (valS_congr ⟨rfl, rfl⟩)
    exact (mem_dropZ.1 ((mem_dropZ_valS h.sorted).2 ⟨e, d⟩))
  · rintro ⟨a, b⟩
    have hx := h.ok x a
    refine ⟨hx, ?_, ?_, b⟩
    · rw [h.has _ _ hx.1 hx.2, look_congr (show keyEq (probeX x.f0 x.f1) x from ⟨rfl, rfl⟩), look_mem h.sorted a]; rfl
    · rw [h.num _ _ hx.1 hx.2, valS_congr (show keyEq (probeX x.f0 x.f1) x from ⟨rfl, rfl⟩), valS_mem h.sorted a]
end Go.Proofs.YtlanldccamphcaaDoor.P
