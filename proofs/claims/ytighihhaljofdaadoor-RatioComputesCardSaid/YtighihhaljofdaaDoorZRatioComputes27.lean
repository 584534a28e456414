/- Texts for the law RatioComputes (kept out of a larger one). -/
import Derived.Test.YtighihhaljofdaaDoorZRatioComputes9
import Derived.Test.YtighihhaljofdaaDoorZRatioComputes19
import Derived.Test.YtighihhaljofdaaDoorZRatioComputes14
import Derived.Test.YtighihhaljofdaaDoorZRatioComputes18
import Derived.Test.YtighihhaljofdaaDoorZRatioComputes26
import Derived.Test.YtighihhaljofdaaDoorZRatioComputes23
import Derived.WalkKit
namespace Go.Proofs.YtighihhaljofdaaDoor.P
open Go.RowKit Go.Proofs.YtighihhaljofdaaDoorW.PrintWords
theorem i64_nat {n : Nat} (h : n ≤ 1000000000000) : I64 (n : Int) := by unfold I64; omega
theorem i64_signed {n : Nat} (s : Bool) (h : n ≤ 1000000000000) : I64 (if s = true then -(n : Int) else (n : Int)) := by unfold I64; split <;> omega
theorem tdiv_sign (a : Int) (g : Nat) : Int.tdiv a (g : Int) = if a < 0 then -((a.natAbs / g : Nat) : Int) else ((a.natAbs / g : Nat) : Int) := by
  rcases Int.lt_or_le a 0 with h | h
  · rw [if_pos h]
    obtain ⟨m, rfl⟩ : ∃ m : Nat, a = -(m : Int) := ⟨a.natAbs, by omega⟩
    rw [Int.neg_tdiv, Int.natAbs_neg, Int.natAbs_natCast]
    rfl
  · rw [if_neg (by omega)]
    obtain ⟨m, rfl⟩ := Int.eq_ofNat_of_zero_le h
    rfl
theorem prod_sign (a c : Int) (p q : Nat) : (if a < 0 then -(p : Int) else (p : Int)) * (if c < 0 then -(q : Int) else (q : Int)) = if (decide (a < 0) != decide (c < 0)) = true then -((p * q : Nat) : Int) else ((p * q : Nat) : Int) := by
  by_cases h1 : a < 0 <;> by_cases h2 : c < 0 <;> simp [h1, h2, Int.neg_mul, Int.mul_neg]
theorem ratio_Mul_ev (a b c d : Int) (ha : I64 a) (hb : I64 b) (hc : I64 c) (hd : I64 d) : Ev (fun k => ratio_Mul.f k a b c d) (mulS a b c d) := by
  unfold ratio_Mul.f mulS
  refine both_then a b c d ha hb hc hd (f := fun _ t => some (0, 0, t)) (fun h1 h2 => ?_) (Ev.now _)
  refine Ev.bindc (ratio_size_eq ha) (Ev.bindc (ratio_size_eq hd) (Ev.bind (ratio_gcd_ev _ _) (Ev.bindc (ratio_size_eq hc) (Ev.bindc (ratio_size_eq hb) (Ev.bind (ratio_gcd_ev _ _) ?_)))))
  have hbp := h1.1
  have hbl := h1.2.1
  have hdp := h2.1
  have hdl := h2.2.1
  have hal : a.natAbs ≤ 1000000000000 := by have := h1.2.2.1; have := h1.2.2.2.1; omega
  have hcl : c.natAbs ≤ 1000000000000 := by have := h2.2.2.1; have := h2.2.2.2.1; omega
  rw [mulS_new h1 h2]
  have hD := mulD_pos h1 h2
  have hNN : mulN a b c d = (a.natAbs / Nat.gcd a.natAbs d.natAbs) * (c.natAbs / Nat.gcd c.natAbs b.natAbs) := rfl
  have hDD : mulD a b c d = (b.natAbs / Nat.gcd c.natAbs b.natAbs) * (d.natAbs / Nat.gcd a.natAbs d.natAbs) := rfl
  have g1 : 0 < Nat.gcd a.natAbs d.natAbs := Nat.gcd_pos_of_pos_right _ (by omega)
  have g2 : 0 < Nat.gcd c.natAbs b.natAbs := Nat.gcd_pos_of_pos_right _ (by omega)
  have l1 : Nat.gcd a.natAbs d.natAbs ≤ 1000000 := Nat.le_trans (Nat.gcd_le_right _ (by omega)) (by omega)
  have l2 : Nat.gcd c.natAbs b.natAbs ≤ 1000000 := Nat.le_trans (Nat.gcd_le_right _ (by omega)) (by omega)
  have hx : a.natAbs / Nat.gcd a.natAbs d.natAbs ≤ 1000000000000 := Nat.le_trans (Nat.div_le_self _ _) hal
  have hy : c.natAbs / Nat.gcd c.natAbs b.natAbs ≤ 1000000000000 := Nat.le_trans (Nat.div_le_self _ _) hcl
  have hu : b.natAbs / Nat.gcd c.natAbs b.natAbs ≤ 1000000 := Nat.le_trans (Nat.div_le_self _ _) (by omega)
  have hv : d.natAbs / Nat.gcd a.natAbs d.natAbs ≤ 1000000 := Nat.le_trans (Nat.div_le_self _ _) (by omega)
  generalize Nat.gcd a.natAbs d.natAbs = g at *
  generalize Nat.gcd c.natAbs b.natAbs = h at *
  have eg : wrap64 (g : Int) = g := wrap64_in (by unfold I64; omega)
  have eh : wrap64 (h : Int) = h := wrap64_in (by unfold I64; omega)
  rw [eg, eh]
  have ex0 := tdiv_sign a g
  have ey0 := tdiv_sign c h
  have eu0 := tdiv_sign b h
  have ev0 := tdiv_sign d g
  rw [if_neg (by omega)] at eu0 ev0
  generalize a.natAbs / g = p at *
  generalize c.natAbs / h = q at *
  generalize b.natAbs / h = u at *
  generalize d.natAbs / g = v at *
  have ex : wrap64 (Int.tdiv a g) = if a < 0 then -(p : Int) else (p : Int) := by
    rw [ex0]; exact wrap64_in (by unfold I64; split <;> omega)
  have ey : wrap64 (Int.tdiv c h) = if c < 0 then -(q : Int) else (q : Int) := by
    rw [ey0]; exact wrap64_in (by unfold I64; split <;> omega)
  have eu : wrap64 (Int.tdiv b h) = (u : Int) := by
    rw [eu0]; exact wrap64_in (by unfold I64; omega)
  have ev : wrap64 (Int.tdiv d g) = (v : Int) := by
    rw [ev0]; exact wrap64_in (by unfold I64; omega)
  rw [ex, ey, eu, ev]
  have eD : wrap64 ((u : Int) * (v : Int)) = (mulD a b c d : Int) := by
    rw [hDD, ← Int.natCast_mul]; exact wrap64_in (i64_nat (hDD ▸ hD.2))
  have i1 : I64 (if a < 0 then -(p : Int) else (p : Int)) := by unfold I64; split <;> omega
  have i2 : I64 (if c < 0 then -(q : Int) else (q : Int)) := by unfold I64; split <;> omega
  have n1 : (if a < 0 then -(p : Int) else (p : Int)).natAbs = p := by split <;> omega
  have n2 : (if c < 0 then -(q : Int) else (q : Int)).natAbs = q := by split <;> omega
  have iD : I64 (mulD a b c d : Int) := i64_nat hD.2
  rw [eD, prod_sign, ← hNN]
  have tail : (mulN a b c d ≤ 1000000000000) → Ev (fun k => (ratio_New.f k (wrap64 (if (decide (a < 0) != decide (c < 0)) = true then -(mulN a b c d : Int) else (mulN a b c d : Int))) (mulD a b c d : Int)).bind fun bt => some (bt.1, bt.2.1, bt.2.2))
      (newS (if (decide (a < 0) != decide (c < 0)) = true then -(mulN a b c d : Int) else (mulN a b c d : Int)) (mulD a b c d : Int)) := by
    intro hN
    have e : wrap64 (if (decide (a < 0) != decide (c < 0)) = true then -(mulN a b c d : Int) else (mulN a b c d : Int)) = (if (decide (a < 0) != decide (c < 0)) = true then -(mulN a b c d : Int) else (mulN a b c d : Int)) := wrap64_in (i64_signed _ hN)
    rw [e]
    exact Ev.bind (ratio_New_ev _ _ (i64_signed _ hN) iD) pair3
  refine Ev.ifn (by omega) (Ev.ifn (by omega) ?_)
  by_cases hp : p = 0
  · refine Ev.ifp (by subst hp; simp) (tail ?_)
    rw [hNN, hp, Nat.zero_mul]
    omega
  · refine Ev.ifn (by split <;> omega) (Ev.bindc (ratio_size_eq i2) (Ev.bindc (ratio_size_eq i1) ?_))
    rw [n1, n2]
    refine Ev.ifn (by omega) ?_
    have et : IntKind.u64.wrap (Int.tdiv (1000000000000 : Int) (p : Int)) = ((1000000000000 / p : Nat) : Int) := by
      have : Int.tdiv (1000000000000 : Int) (p : Int) = ((1000000000000 / p : Nat) : Int) := (Int.ofNat_tdiv 1000000000000 p).symm
      have l := Nat.div_le_self 1000000000000 p
      rw [this]; exact u64_in (Int.natCast_nonneg _) (by omega)
    rw [et]
    by_cases hq : (q : Int) > ((1000000000000 / p : Nat) : Int)
    · refine Ev.cast (Ev.ifp hq (Ev.now (0, 0, 4))) ?_
      have hbig : 1000000000000 < mulN a b c d := by
        rw [hNN, Nat.mul_comm]
        exact (Nat.div_lt_iff_lt_mul (by omega)).1 (by omega)
      rw [newS_coprime _ _ _ hD.1 (mul_coprime h1 h2), if_pos (Or.inl (by omega))]
    · refine Ev.ifn hq (tail ?_)
      rw [hNN, Nat.mul_comm]
      exact (Nat.le_div_iff_mul_le (by omega)).1 (by omega)
theorem u64_div {a g : Nat} (h : a ≤ 1000000000000) : IntKind.u64.wrap (Int.tdiv (a : Int) (g : Int)) = ((a / g : Nat) : Int) := by
  have e : Int.tdiv (a : Int) (g : Int) = ((a / g : Nat) : Int) := (Int.ofNat_tdiv a g).symm
  have l : a / g ≤ a := Nat.div_le_self a g
  rw [e]; exact u64_in (Int.natCast_nonneg _) (by omega)
theorem u64_nat {n : Nat} (h : n ≤ 1000000000000) : (n : Int) < 18446744073709551616 := by omega
theorem ref1_Mul_ev (a b c d : Int) (ha : I64 a) (hb : I64 b) (hc : I64 c) (hd : I64 d) : Ev (fun k => payrollref1_Mul.f k a b c d) (mulS a b c d) := by
  unfold payrollref1_Mul.f mulS
  refine ref_then_j a b c d ha hb hc hd (j := fun k x => payrollref1_Mul.j0 k x a b c d) (fun h1 h2 => ?_) ?_
  · refine Ev.step (fun k => by simp only [payrollref1_Mul.j0]; exact if_neg (by decide)) ?_
    refine Ev.bindc (ref1_size_eq ha) (Ev.bindc (ref1_size_eq hd) (Ev.bind (ref1_common_ev _ _) (Ev.bindc (ref1_size_eq hc) (Ev.bindc (ref1_size_eq hb) (Ev.bind (ref1_common_ev _ _) ?_)))))
    have hbp := h1.1
    have hbl := h1.2.1
    have hdp := h2.1
    have hdl := h2.2.1
    have hal : a.natAbs ≤ 1000000000000 := by have := h1.2.2.1; have := h1.2.2.2.1; omega
    have hcl : c.natAbs ≤ 1000000000000 := by have := h2.2.2.1; have := h2.2.2.2.1; omega
    have hD := mulD_pos h1 h2
    have hNN : mulN a b c d = (a.natAbs / Nat.gcd a.natAbs d.natAbs) * (c.natAbs / Nat.gcd c.natAbs b.natAbs) := rfl
    have hDD : mulD a b c d = (b.natAbs / Nat.gcd c.natAbs b.natAbs) * (d.natAbs / Nat.gcd a.natAbs d.natAbs) := rfl
    have g1 : 0 < Nat.gcd a.natAbs d.natAbs := Nat.gcd_pos_of_pos_right _ (by omega)
    have g2 : 0 < Nat.gcd c.natAbs b.natAbs := Nat.gcd_pos_of_pos_right _ (by omega)
    have hx : a.natAbs / Nat.gcd a.natAbs d.natAbs ≤ 1000000000000 := Nat.le_trans (Nat.div_le_self _ _) hal
    have hy : c.natAbs / Nat.gcd c.natAbs b.natAbs ≤ 1000000000000 := Nat.le_trans (Nat.div_le_self _ _) hcl
    refine Ev.ifn (by omega) (Ev.ifn (by omega) ?_)
    rw [u64_div hal, u64_div hcl, u64_div (by omega : b.natAbs ≤ 1000000000000), u64_div (by omega : d.natAbs ≤ 1000000000000)]
    generalize mulN a b c d = N at *
    generalize mulD a b c d = D at *
    generalize Nat.gcd a.natAbs d.natAbs = g at *
    generalize Nat.gcd c.natAbs b.natAbs = h at *
    generalize a.natAbs / g = p at *
    generalize c.natAbs / h = q at *
    generalize b.natAbs / h = u at *
    generalize d.natAbs / g = v at *
    have eD : IntKind.u64.wrap ((u : Int) * (v : Int)) = (D : Int) := by
      rw [← Int.natCast_mul, ← hDD]; exact u64_in (Int.natCast_nonneg _) (u64_nat hD.2)
    rw [eD]
    have zero : N = 0 → Ev (fun k => payrollref1_Mul.j1 k (p : Int) (q : Int) (D : Int) true a b c d) (if N = 0 then (0, 1, 0) else if (N : Int) > 1000000000000 ∨ (D : Int) > 1000000 then (0, 0, 4) else (if (decide (a < 0) != decide (c < 0)) = true then -(N : Int) else (N : Int), (D : Int), 0)) := by
      intro h0
      rw [if_pos h0]
      exact Ev.step (f := fun _ => some (0, 1, 0)) (fun k => by simp [payrollref1_Mul.j1]) (Ev.now _)
    by_cases hp : p = 0
    · refine Ev.ifp (by omega) (zero ?_)
      rw [hNN, hp, Nat.zero_mul]
    · refine Ev.ifn (by omega) ?_
      by_cases hq : q = 0
      · rw [show ((q : Int) == 0) = true from by subst hq; rfl]
        refine zero ?_
        rw [hNN, hq, Nat.mul_zero]
      · rw [show ((q : Int) == 0) = false from by simpa using hq]
        refine Ev.step (fun k => by simp only [payrollref1_Mul.j1]; exact if_neg (by decide)) ?_
        refine Ev.ifn (by omega) ?_
        have hN0 : N ≠ 0 := by rw [hNN]; exact Nat.mul_ne_zero hp hq
        rw [if_neg hN0]
        have et : IntKind.u64.wrap (Int.tdiv (1000000000000 : Int) (p : Int)) = ((1000000000000 / p : Nat) : Int) := u64_div (a := 1000000000000) (Nat.le_refl _)
        rw [et]
        have big : (N : Int) > 1000000000000 ∨ (D : Int) > 1000000 → Ev (fun k => payrollref1_Mul.j2 k (p : Int) (q : Int) (D : Int) true a b c d) (if (N : Int) > 1000000000000 ∨ (D : Int) > 1000000 then (0, 0, 4) else (if (decide (a < 0) != decide (c < 0)) = true then -(N : Int) else (N : Int), (D : Int), 0)) := by
          intro hb
          rw [if_pos hb]
          exact Ev.step (f := fun _ => some (0, 0, 4)) (fun k => by simp [payrollref1_Mul.j2]) (Ev.now _)
        by_cases hl : (q : Int) > ((1000000000000 / p : Nat) : Int)
        · refine Ev.ifp hl (big (Or.inl ?_))
          have : 1000000000000 < N := by
            rw [hNN, Nat.mul_comm]
            exact (Nat.div_lt_iff_lt_mul (by omega)).1 (by omega)
          omega
        · refine Ev.ifn hl ?_
          have hN : N ≤ 1000000000000 := by
            rw [hNN, Nat.mul_comm]
            exact (Nat.le_div_iff_mul_le (by omega)).1 (by omega)
          by_cases hd' : (D : Int) > 1000000
          · rw [decide_eq_true hd']; exact big (Or.inr hd')
          · rw [decide_eq_false hd', if_neg (by omega)]
            have eN : IntKind.u64.wrap ((p : Int) * (q : Int)) = (N : Int) := by
              rw [← Int.natCast_mul, ← hNN]; exact u64_in (Int.natCast_nonneg _) (u64_nat hN)
            have w1 : wrap64 (N : Int) = N := wrap64_in (i64_nat hN)
            have w2 : wrap64 (-(N : Int)) = -N := wrap64_in (i64_signed true hN)
            have w3 : wrap64 (D : Int) = D := wrap64_in (i64_nat hD.2)
            refine Ev.step (f := fun _ => some (if (decide (a < 0) != decide (c < 0)) = true then -(N : Int) else (N : Int), (D : Int), 0)) (fun k => ?_) (Ev.now _)
            simp only [payrollref1_Mul.j2]
            rw [if_neg (by decide), eN, w1, w2, w3]
            split <;> rfl
  · exact Ev.step (f := fun _ => some (0, 0, 1)) (fun k => by simp [payrollref1_Mul.j0]) (Ev.now _)
end Go.Proofs.YtighihhaljofdaaDoor.P
