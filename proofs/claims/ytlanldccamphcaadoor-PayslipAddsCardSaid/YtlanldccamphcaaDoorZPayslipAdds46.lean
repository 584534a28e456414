/- Texts for the law PayslipAdds (kept out of a larger one). -/
import Derived.Test.YtlanldccamphcaaDoorZPayslipAdds13
import Derived.Test.YtlanldccamphcaaDoorZPayslipAdds39
import Derived.Test.YtlanldccamphcaaDoorZPayslipAdds40
import Derived.Test.YtlanldccamphcaaDoorZPayslipAdds43
import Derived.Test.YtlanldccamphcaaDoorZPayslipAdds34
import Derived.Test.YtlanldccamphcaaDoorZPayslipAdds14
import Derived.Test.YtlanldccamphcaaDoorZPayslipAdds44
import Derived.Test.YtlanldccamphcaaDoorZPayslipAdds30
import Derived.Test.YtlanldccamphcaaDoorZPayslipAdds27
import Derived.Test.YtlanldccamphcaaDoorZPayslipAdds45
import Derived.WalkKit
namespace Go.Proofs.YtlanldccamphcaaDoor.P
set_option linter.unusedVariables false
set_option linter.unusedSimpArgs false
open Go.RowKit Go.Proofs.YtlanldccamphcaaDoorW.PrintWords
def tot : List S23 → S23 → Int
  | [], _ => 0
  | x :: r, z => (if keyEq x z then x.f2 else 0) + tot r z
theorem tot_append (a b : List S23) (z : S23) : tot (a ++ b) z = tot a z + tot b z := by
  induction a with
  | nil => simp [tot]
  | cons x r ih =>
    show (if keyEq x z then x.f2 else 0) + tot (r ++ b) z = (if keyEq x z then x.f2 else 0) + tot r z + tot b z
    rw [ih]; omega
theorem tot_bound (B : Int) (hB : 0 ≤ B) : ∀ (l : List S23) (z : S23), (∀ x ∈ l, -B ≤ x.f2 ∧ x.f2 ≤ B) → -(B * l.length) ≤ tot l z ∧ tot l z ≤ B * l.length
  | [], z, _ => by simp [tot]
  | x :: r, z, h => by
    have ih := tot_bound B hB r z (fun y hy => h y (List.mem_cons_of_mem _ hy))
    have hx := h x List.mem_cons_self
    have e : B * ((x :: r).length : Int) = B * r.length + B := by rw [List.length_cons]; push_cast; rw [Int.mul_add, Int.mul_one]
    rw [e]
    unfold tot
    by_cases c : keyEq x z
    · rw [if_pos c]; omega
    · rw [if_neg c]; omega
theorem tot_none {l : List S23} {z : S23} (h : look l z = none) : tot l z = 0 := by
  induction l with
  | nil => rfl
  | cons x r ih =>
    unfold look at h
    by_cases c : keyEq x z
    · rw [if_pos c] at h; cases h
    · rw [if_neg c] at h
      unfold tot; rw [if_neg c, ih h]; rfl
theorem tot_sorted {S : List S23} (h : S.Pairwise keyLt) (z : S23) : tot S z = valS S z := by
  induction S with
  | nil => rfl
  | cons x r ih =>
    obtain ⟨h1, h2⟩ := List.pairwise_cons.1 h
    have e1 : valS (x :: r) z = if keyEq x z then x.f2 else valS r z := by
      unfold valS
      show (if keyEq x z then some x.f2 else look r z).getD 0 = _
      by_cases c : keyEq x z
      · rw [if_pos c, if_pos c]; rfl
      · rw [if_neg c, if_neg c]
    rw [e1]
    unfold tot
    by_cases c : keyEq x z
    · rw [if_pos c, if_pos c]
      have : look r z = none := by
        rw [← look_congr c]
        exact look_lt (fun y hy => h1 y hy)
      rw [tot_none this]; omega
    · rw [if_neg c, if_neg c, ih h2]; omega
theorem sum_val (B : Int) (hB : 0 ≤ B) (hB2 : B ≤ 1000000000000) : ∀ (l S : List S23) (j : Nat), S.Pairwise keyLt → (∀ z, -(B * j) ≤ valS S z ∧ valS S z ≤ B * j) → (∀ x ∈ l, -B ≤ x.f2 ∧ x.f2 ≤ B) → j + l.length ≤ 100000 →
    ∀ z, valS (l.foldl putS S) z = valS S z + tot l z
  | [], S, j, _, _, _, _, z => by simp [tot]
  | x :: l, S, j, hS, hv, hl, hj, z => by
    have hx := hl x List.mem_cons_self
    have hl' := fun y hy => hl y (List.mem_cons_of_mem x hy)
    rw [List.length_cons] at hj
    have hjB : B * (j : Int) ≤ 1000000000000 * 100000 := by
      have a1 : B * (j : Int) ≤ 1000000000000 * (j : Int) := Int.mul_le_mul_of_nonneg_right hB2 (by omega)
      omega
    have hjp : 0 ≤ B * (j : Int) := Int.mul_nonneg hB (by omega)
    have e2 : B * ((j + 1 : Nat) : Int) = B * j + B := by push_cast; rw [Int.mul_add, Int.mul_one]
    have hput : ∀ z, valS (putS S x) z = valS S z + (if keyEq x z then x.f2 else 0) := by
      intro z
      rw [valS_putS hS ⟨by omega, by omega⟩]
      by_cases c : keyEq x z
      · rw [if_pos c, if_pos c, ← valS_congr c]
        have := hv x
        unfold wrap64; omega
      · rw [if_neg c, if_neg c]; omega
    rw [List.foldl_cons, sum_val B hB hB2 l (putS S x) (j + 1) (sorted_putS hS) (fun z => by
      rw [hput z, e2]
      have := hv z
      by_cases c : keyEq x z
      · rw [if_pos c]; omega
      · rw [if_neg c]; omega) hl' (by omega) z, hput z]
    show _ = valS S z + ((if keyEq x z then x.f2 else 0) + tot l z)
    omega
theorem sumS_val {l : List S23} (B : Int) (hB : 0 ≤ B) (hB2 : B ≤ 1000000000000) (hl : ∀ x ∈ l, -B ≤ x.f2 ∧ x.f2 ≤ B) (hn : l.length ≤ 100000) (z : S23) : valS (sumS l) z = tot l z := by
  have := sum_val B hB hB2 l [] 0 List.Pairwise.nil (fun z => by simp [valS_nil]) hl (by omega) z
  rw [valS_nil, Int.zero_add] at this
  exact this
structure Deck8 (l : List S23) : Prop where
  len : l.length ≤ 8
  all : ∀ x ∈ l, Drawn x
theorem Deck8.form {l : List S23} (h : Deck8 l) : allForm l = true := List.all_eq_true.2 fun x hx => (h.all x hx).1
theorem Deck8.small {l : List S23} (h : Deck8 l) : ∀ x ∈ l, -600000 ≤ x.f2 ∧ x.f2 ≤ 600000 := fun x hx => ⟨(h.all x hx).2.2.1, (h.all x hx).2.2.2.1⟩
theorem Deck8.val {l : List S23} (h : Deck8 l) (z : S23) : valS (sumS l) z = tot l z := sumS_val 600000 (by omega) (by omega) h.small (by have := h.len; omega) z
theorem Deck8.tot {l : List S23} (h : Deck8 l) (z : S23) : -4800000 ≤ tot l z ∧ tot l z ≤ 4800000 := by
  have := tot_bound 600000 (by omega) l z h.small
  have := h.len
  omega
theorem totalB_of {n : Int} (h1 : -1000000000000 ≤ n) (h2 : n ≤ 1000000000000) : totalB n = true := by unfold totalB; rw [decide_eq_true h1, decide_eq_true h2]; rfl
theorem Deck8.code {l : List S23} (h : Deck8 l) : codeP l = 0 := by
  unfold codeP
  rw [if_neg (by have := h.len; omega), if_pos h.form, if_pos]
  rw [allT_valS (sorted_sumS l)]
  intro z
  rw [h.val z]
  have := h.tot z
  exact totalB_of (by omega) (by omega)
theorem Deck8.rel {l : List S23} (h : Deck8 l) : Rel (sumsD l) (sumS l) := rel_sums l (allForm_fine h.form)
theorem cmp_val {x y : List S23} (hx : Deck8 x) (hy : Deck8 y) : (cmpS x y).Pairwise keyLt ∧ ∀ z, valS (cmpS x y) z = tot y z - tot x z := by
  obtain ⟨_, _, tx⟩ := code_zero hx.code
  obtain ⟨_, _, ty⟩ := code_zero hy.code
  obtain ⟨h1, h2, h3⟩ := fold_neg (sumS x) (sumS y) hx.rel.sorted hy.rel.sorted (fine_of_all hx.rel.ok tx) ((allT_valS hy.rel.sorted).1 ty)
  refine ⟨h1, fun z => ?_⟩
  show valS ((sumS x).foldl (fun S x => putS S (negX x)) (sumS y)) z = _
  rw [h3 z, hx.val z, hy.val z]
  have a := hx.tot z
  have b := hy.tot z
  by_cases c : (look (sumS x) z).isSome = true
  · rw [if_pos c]; unfold wrap64; omega
  · rw [if_neg c]
    have : valS (sumS x) z = 0 := by
      unfold valS
      cases hl : look (sumS x) z with
      | none => rfl
      | some n => rw [hl] at c; simp at c
    rw [hx.val z] at this
    omega
theorem cmp_allT {x y : List S23} (hx : Deck8 x) (hy : Deck8 y) : allT (cmpS x y) = true := by
  obtain ⟨h1, h2⟩ := cmp_val hx hy
  rw [allT_valS h1]
  intro z
  rw [h2 z]
  have a := hx.tot z
  have b := hy.tot z
  exact totalB_of (by omega) (by omega)
theorem cmp_eq {x y : List S23} (hx : Deck8 x) (hy : Deck8 y) : compareP x y = (dropZ (cmpS x y), 0) := by
  unfold compareP
  rw [if_pos hx.code, if_pos hy.code, if_pos (cmp_allT hx hy)]
theorem mem_fold {A S : List S23} {z : S23} (f : S23 → S23) (hf : ∀ x, keyEq (f x) x) (h : z ∈ A.foldl (fun S x => putS S (f x)) S) : z ∈ S ∨ ∃ x ∈ A, keyEq z x := by
  induction A generalizing S with
  | nil => exact Or.inl h
  | cons x A ih =>
    rcases ih h with h | ⟨y, hy, e⟩
    · rcases mem_putS h with h | h
      · exact Or.inl h
      · exact Or.inr ⟨x, List.mem_cons_self, h.trans (hf x)⟩
    · exact Or.inr ⟨y, List.mem_cons_of_mem _ hy, e⟩
theorem mem_sumS {l : List S23} {z : S23} (h : z ∈ sumS l) : ∃ x ∈ l, keyEq z x := by
  rcases mem_fold (A := l) (S := []) (fun x => x) (fun x => keyEq.refl x) h with h | h
  · cases h
  · exact h
theorem formP_key {x z : S23} (h : formP x.f0 x.f1 x.f2 = true) (e : keyEq z x) (ht : totalB z.f2 = true) : formP z.f0 z.f1 z.f2 = true := by
  obtain ⟨e1, e2⟩ := e.eq
  unfold formP at h ⊢
  rw [e1, e2, ht]
  simp only [Bool.and_eq_true, Bool.true_and] at h ⊢
  exact ⟨h.1, h.2.2⟩
theorem cmp_form {x y : List S23} (hx : Deck8 x) (hy : Deck8 y) : allForm (dropZ (cmpS x y)) = true := by
  unfold allForm
  rw [List.all_eq_true]
  intro z hz
  have hz1 := (mem_dropZ.1 hz).1
  have ht : totalB z.f2 = true := List.all_eq_true.1 (cmp_allT hx hy) z hz1
  have : ∃ w, formP w.f0 w.f1 w.f2 = true ∧ keyEq z w := by
    rcases mem_fold (A := sumS x) (S := sumS y) negX (fun x => ⟨rfl, rfl⟩) hz1 with h | ⟨u, hu, e⟩
    · obtain ⟨w, hw, e⟩ := mem_sumS h
      exact ⟨w, List.all_eq_true.1 hy.form w hw, e⟩
    · obtain ⟨w, hw, e2⟩ := mem_sumS hu
      exact ⟨w, List.all_eq_true.1 hx.form w hw, e.trans e2⟩
  obtain ⟨w, hw, e⟩ := this
  exact formP_key hw e ht
theorem cmp_len {x y : List S23} (hx : Deck8 x) (hy : Deck8 y) : (dropZ (cmpS x y)).length ≤ 16 := by
  have h1 := dropZ_len (cmpS x y)
  have h2 := cmpS_len (a := x) (b := y)
  have h3 := sumS_len x
  have h4 := sumS_len y
  have h5 := hx.len
  have h6 := hy.len
  omega
theorem cmp_tot {x y : List S23} (hx : Deck8 x) (hy : Deck8 y) (z : S23) : tot (dropZ (cmpS x y)) z = tot y z - tot x z := by
  obtain ⟨h1, h2⟩ := cmp_val hx hy
  rw [tot_sorted (sorted_dropZ h1), valS_dropZ h1, h2 z]
theorem cmp_small {x y : List S23} (hx : Deck8 x) (hy : Deck8 y) : ∀ z ∈ dropZ (cmpS x y), -1000000000000 ≤ z.f2 ∧ z.f2 ≤ 1000000000000 := fun z hz => by
  have ht : totalB z.f2 = true := List.all_eq_true.1 (cmp_allT hx hy) z (mem_dropZ.1 hz).1
  unfold totalB at ht
  simpa using ht
theorem dropZ_zero {S : List S23} (h : S.Pairwise keyLt) (hz : ∀ z, valS S z = 0) : dropZ S = [] := dropZ_ext h List.Pairwise.nil (fun z => by rw [hz z, valS_nil])
theorem merge_two {u c : List S23} (hu : allForm u = true) (hc : allForm c = true) (hn : u.length + c.length ≤ 100) (hb : ∀ x ∈ u ++ c, -1000000000000 ≤ x.f2 ∧ x.f2 ≤ 1000000000000) (ht : ∀ z, totalB (tot u z + tot c z) = true) :
    mergeP (u ++ c) = (dropZ (sumS (u ++ c)), 0) ∧ ∀ z, valS (sumS (u ++ c)) z = tot u z + tot c z := by
  have hv : ∀ z, valS (sumS (u ++ c)) z = tot u z + tot c z := fun z => by
    rw [sumS_val 1000000000000 (by omega) (by omega) hb (by rw [List.length_append]; omega) z, tot_append]
  refine ⟨?_, hv⟩
  have h0 : codeP (u ++ c) = 0 := by
    unfold codeP
    rw [if_neg (by rw [List.length_append]; omega), if_pos, if_pos]
    · rw [allT_valS (sorted_sumS _)]
      intro z; rw [hv z]; exact ht z
    · unfold allForm at *
      rw [List.all_append, hu, hc]; rfl
  unfold mergeP
  rw [if_pos h0]
theorem PayslipAdds (l0 : List Int) : ∃ k, payrolllaw34_PayslipAdds.f k l0 = some true := by
  refine Ev.rounds ?_
  unfold payrolllaw34_PayslipAdds.f
  obtain ⟨X, p1, h1, q1, q2, q3, q4⟩ := deck_lines l0 0 8 (by omega) (by omega) (by omega) (by omega)
  obtain ⟨Y, p2, h2, _, _, r3, r4⟩ := deck_lines l0 p1 8 (by omega) (by omega) (by omega) (by omega)
  have hx : Deck8 X := ⟨by omega, q3⟩
  have hy : Deck8 Y := ⟨by omega, r3⟩
  have lc := cmp_len hx hy
  have ln := cmp_len hy hx
  have bx : ∀ x ∈ X, -1000000000000 ≤ x.f2 ∧ x.f2 ≤ 1000000000000 := fun x h => by have := hx.small x h; omega
  obtain ⟨s1, s2⟩ := merge_two hx.form (cmp_form hx hy) (by have := hx.len; omega) (fun x h => (List.mem_append.1 h).elim (bx x) (cmp_small hx hy x)) (fun z => by
    rw [cmp_tot hx hy z]; have := hy.tot z; exact totalB_of (by omega) (by omega))
  obtain ⟨z1, z2⟩ := merge_two (cmp_form hy hx) (cmp_form hx hy) (by omega) (fun x h => (List.mem_append.1 h).elim (cmp_small hy hx x) (cmp_small hx hy x)) (fun z => by
    rw [cmp_tot hx hy z, cmp_tot hy hx z]; exact totalB_of (by omega) (by omega))
  have t1 : mergeP Y = (dropZ (sumS Y), 0) := by unfold mergeP; rw [if_pos hy.code]
  have eS : dropZ (sumS (X ++ dropZ (cmpS X Y))) = dropZ (sumS Y) := dropZ_ext (sorted_sumS _) (sorted_sumS _) (fun z => by rw [s2 z, cmp_tot hx hy z, hy.val z]; omega)
  have eZ : dropZ (sumS (dropZ (cmpS Y X) ++ dropZ (cmpS X Y))) = [] := dropZ_zero (sorted_sumS _) (fun z => by rw [z2 z, cmp_tot hx hy z, cmp_tot hy hx z]; omega)
  have eO : dropZ (cmpS X X) = [] := by
    obtain ⟨g1, g2⟩ := cmp_val hx hx
    exact dropZ_zero g1 (fun z => by rw [g2 z]; omega)
  refine Ev.bindc (a := (l0, 0)) rfl (Ev.bind h1 (Ev.bind h2 ?_))
  refine Ev.bind ((payslip_Compare_ev X Y).cast (cmp_eq hx hy)) (Ev.bind ((payslip_Compare_ev Y X).cast (cmp_eq hy hx)) ?_)
  refine Ev.bindc rfl (Ev.ifp (by simp; omega) (Ev.bindc rfl (Ev.ifp (by simp; omega) ?_)))
  rw [List.nil_append]
  refine Ev.bind ((payslip_Merge_ev _).cast s1) (Ev.bind ((payslip_Merge_ev Y).cast t1) ?_)
  refine Ev.bindc rfl (Ev.ifp (by simp; omega) (Ev.bindc rfl (Ev.ifp (by simp; omega) ?_)))
  rw [List.nil_append]
  refine Ev.bind ((payslip_Merge_ev _).cast z1) (Ev.bind ((payslip_Compare_ev X X).cast (cmp_eq hx hx)) ?_)
  refine Ev.ifp (by first | rfl | trivial) (Ev.ifp (by first | rfl | trivial) (Ev.ifp (by first | rfl | trivial) (Ev.ifp (by first | rfl | trivial) (Ev.ifp (by first | rfl | trivial) (Ev.ifp (by first | rfl | trivial) ?_)))))
  rw [eS, eZ, eO]
  have h3 := dropZ_len (sumS Y)
  have h4 := sumS_len Y
  have h5 := hy.len
  exact Ev.bind (Same_ev (dropZ (sumS Y)) (by omega)) (Ev.ifp (by first | rfl | trivial) (Ev.ifp (by first | rfl | trivial) (Ev.ifp (by first | rfl | trivial) (Ev.bind awake_ev (Ev.now _)))))
end Go.Proofs.YtlanldccamphcaaDoor.P
