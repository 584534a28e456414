/- Texts for the law RatioField (kept out of a larger one). -/
import Derived.Test.YtighihhaljofdaaDoorZRatioField9
import Derived.Test.YtighihhaljofdaaDoorZRatioField19
import Derived.Test.YtighihhaljofdaaDoorZRatioField14
import Derived.Test.YtighihhaljofdaaDoorZRatioField18
import Derived.Test.YtighihhaljofdaaDoorZRatioField24
import Derived.Test.YtighihhaljofdaaDoorZRatioField21
import Derived.WalkKit
namespace Go.Proofs.YtighihhaljofdaaDoor.P
open Go.RowKit Go.Proofs.YtighihhaljofdaaDoorW.PrintWords
theorem i64_nat {n : Nat} (h : n ≤ 1000000000000) : I64 (n : Int) := by unfold I64; omega
theorem i64_signed {n : Nat} (s : Bool) (h : n ≤ 1000000000000) : I64 (if s = true then -(n : Int) else (n : Int)) := by unfold I64; split <;> omega
theorem tdiv_sign (a : Int) (g : Nat) : Int.tdiv a (g : Int) = if a < 0 then -((a.natAbs / g : Nat) : Int) else ((a.natAbs / g : Nat) : Int) := by
  rcases Int.lt_or_le a 0 with h | h
  · rw [if_pos h]
    obtain ⟨m, rfl⟩ : ∃ m : Nat, a = -(m : Int) := ⟨a.natAbs, by omega⟩
    rw [Int.neg_tdiv, Int.natAbs_neg, Int.natAbs_natCast]
    rfl
  · rw [if_neg (by omega)]
    obtain ⟨m, rfl⟩ := Int.eq_ofNat_of_zero_le h
    rfl
theorem prod_sign (a c : Int) (p q : Nat) : (if a < 0 then -(p : Int) else (p : Int)) * (if c < 0 then -(q : Int) else (q : Int)) = if (decide (a < 0) != decide (c < 0)) = true then -((p * q : Nat) : Int) else ((p * q : Nat) : Int) := by
  by_cases h1 : a < 0 <;> by_cases h2 : c < 0 <;> simp [h1, h2, Int.neg_mul, Int.mul_neg]
theorem ratio_Mul_ev (a b c d : Int) (ha : I64 a) (hb : I64 b) (hc : I64 c) (hd : I64 d) : Ev (fun k => ratio_Mul.f k a b c d) (mulS a b c d) := by
  unfold ratio_Mul.f mulS
  refine both_then a b c d ha hb hc hd (f := fun _ t => some (0, 0, t)) (fun h1 h2 => ?_) (Ev.now _)
  refine Ev.bindc (ratio_size_eq ha) (Ev.bindc (ratio_size_eq hd) (Ev.bind (ratio_gcd_ev _ _) (Ev.bindc (ratio_size_eq hc) (Ev.bindc (ratio_size_eq hb) (Ev.bind (ratio_gcd_ev _ _) ?_)))))
  have hbp := h1.1
  have hbl := h1.2.1
  have hdp := h2.1
  have hdl := h2.2.1
  have hal : a.natAbs ≤ 1000000000000 := by have := h1.2.2.1; have := h1.2.2.2.1; omega
  have hcl : c.natAbs ≤ 1000000000000 := by have := h2.2.2.1; have := h2.2.2.2.1; omega
  rw [mulS_new h1 h2]
  have hD := mulD_pos h1 h2
  have hNN : mulN a b c d = (a.natAbs / Nat.gcd a.natAbs d.natAbs) * (c.natAbs / Nat.gcd c.natAbs b.natAbs) := rfl
  have hDD : mulD a b c d = (b.natAbs / Nat.gcd c.natAbs b.natAbs) * (d.natAbs / Nat.gcd a.natAbs d.natAbs) := rfl
  have g1 : 0 < Nat.gcd a.natAbs d.natAbs := Nat.gcd_pos_of_pos_right _ (by omega)
  have g2 : 0 < Nat.gcd c.natAbs b.natAbs := Nat.gcd_pos_of_pos_right _ (by omega)
  have l1 : Nat.gcd a.natAbs d.natAbs ≤ 1000000 := Nat.le_trans (Nat.gcd_le_right _ (by omega)) (by omega)
  have l2 : Nat.gcd c.natAbs b.natAbs ≤ 1000000 := Nat.le_trans (Nat.gcd_le_right _ (by omega)) (by omega)
  have hx : a.natAbs / Nat.gcd a.natAbs d.natAbs ≤ 1000000000000 := Nat.le_trans (Nat.div_le_self _ _) hal
  have hy : c.natAbs / Nat.gcd c.natAbs b.natAbs ≤ 1000000000000 := Nat.le_trans (Nat.div_le_self _ _) hcl
  have hu : b.natAbs / Nat.gcd c.natAbs b.natAbs ≤ 1000000 := Nat.le_trans (Nat.div_le_self _ _) (by omega)
  have hv : d.natAbs / Nat.gcd a.natAbs d.natAbs ≤ 1000000 := Nat.le_trans (Nat.div_le_self _ _) (by omega)
  generalize Nat.gcd a.natAbs d.natAbs = g at *
  generalize Nat.gcd c.natAbs b.natAbs = h at *
  have eg : wrap64 (g : Int) = g := wrap64_in (by unfold I64; omega)
  have eh : wrap64 (h : Int) = h := wrap64_in (by unfold I64; omega)
  rw [eg, eh]
  have ex0 := tdiv_sign a g
  have ey0 := tdiv_sign c h
  have eu0 := tdiv_sign b h
  have ev0 := tdiv_sign d g
  rw [if_neg (by omega)] at eu0 ev0
  generalize a.natAbs / g = p at *
  generalize c.natAbs / h = q at *
  generalize b.natAbs / h = u at *
  generalize d.natAbs / g = v at *
  have ex : wrap64 (Int.tdiv a g) = if a < 0 then -(p : Int) else (p : Int) := by
    rw [ex0]; exact wrap64_in (by unfold I64; split <;> omega)
  have ey : wrap64 (Int.tdiv c h) = if c < 0 then -(q : Int) else (q : Int) := by
    rw [ey0]; exact wrap64_in (by unfold I64; split <;> omega)
  have eu : wrap64 (Int.tdiv b h) = (u : Int) := by
    rw [eu0]; exact wrap64_in (by unfold I64; omega)
  have ev : wrap64 (Int.tdiv d g) = (v : Int) := by
    rw [ev0]; exact wrap64_in (by unfold I64; omega)
  rw [ex, ey, eu, ev]
  have eD : wrap64 ((u : Int) * (v : Int)) = (mulD a b c d : Int) := by
    rw [hDD, ← Int.natCast_mul]; exact wrap64_in (i64_nat (hDD ▸ hD.2))
  have i1 : I64 (if a < 0 then -(p : Int) else (p : Int)) := by unfold I64; split <;> omega
  have i2 : I64 (if c < 0 then -(q : Int) else (q : Int)) := by unfold I64; split <;> omega
  have n1 : (if a < 0 then -(p : Int) else (p : Int)).natAbs = p := by split <;> omega
  have n2 : (if c < 0 then -(q : Int) else (q : Int)).natAbs = q := by split <;> omega
  have iD : I64 (mulD a b c d : Int) := i64_nat hD.2
  rw [eD, prod_sign, ← hNN]
  have tail : (mulN a b c d ≤ 1000000000000) → Ev (fun k => (ratio_New.f k (wrap64 (if (decide (a < 0) != decide (c < 0)) = true then -(mulN a b c d : Int) else (mulN a b c d : Int))) (mulD a b c d : Int)).bind fun bt => some (bt.1, bt.2.1, bt.2.2))
      (newS (if (decide (a < 0) != decide (c < 0)) = true then -(mulN a b c d : Int) else (mulN a b c d : Int)) (mulD a b c d : Int)) := by
    intro hN
    have e : wrap64 (if (decide (a < 0) != decide (c < 0)) = true then -(mulN a b c d : Int) else (mulN a b c d : Int)) = (if (decide (a < 0) != decide (c < 0)) = true then -(mulN a b c d : Int) else (mulN a b c d : Int)) := wrap64_in (i64_signed _ hN)
    rw [e]
    exact Ev.bind (ratio_New_ev _ _ (i64_signed _ hN) iD) pair3
  refine Ev.ifn (by omega) (Ev.ifn (by omega) ?_)
  by_cases hp : p = 0
  · refine Ev.ifp (by subst hp; simp) (tail ?_)
    rw [hNN, hp, Nat.zero_mul]
    omega
  · refine Ev.ifn (by split <;> omega) (Ev.bindc (ratio_size_eq i2) (Ev.bindc (ratio_size_eq i1) ?_))
    rw [n1, n2]
    refine Ev.ifn (by omega) ?_
    have et : IntKind.u64.wrap (Int.tdiv (1000000000000 : Int) (p : Int)) = ((1000000000000 / p : Nat) : Int) := by
      have : Int.tdiv (1000000000000 : Int) (p : Int) = ((1000000000000 / p : Nat) : Int) := (Int.ofNat_tdiv 1000000000000 p).symm
      have l := Nat.div_le_self 1000000000000 p
      rw [this]; exact u64_in (Int.natCast_nonneg _) (by omega)
    rw [et]
    by_cases hq : (q : Int) > ((1000000000000 / p : Nat) : Int)
    · refine Ev.cast (Ev.ifp hq (Ev.now (0, 0, 4))) ?_
      have hbig : 1000000000000 < mulN a b c d := by
        rw [hNN, Nat.mul_comm]
        exact (Nat.div_lt_iff_lt_mul (by omega)).1 (by omega)
      rw [newS_coprime _ _ _ hD.1 (mul_coprime h1 h2), if_pos (Or.inl (by omega))]
    · refine Ev.ifn hq (tail ?_)
      rw [hNN, Nat.mul_comm]
      exact (Nat.le_div_iff_mul_le (by omega)).1 (by omega)
end Go.Proofs.YtighihhaljofdaaDoor.P
