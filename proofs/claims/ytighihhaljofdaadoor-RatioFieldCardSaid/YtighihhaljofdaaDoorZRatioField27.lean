/- Texts for the law RatioField (kept out of a larger one). -/
import Derived.Test.YtighihhaljofdaaDoorZRatioField9
import Derived.Test.YtighihhaljofdaaDoorZRatioField24
import Derived.Test.YtighihhaljofdaaDoorZRatioField21
namespace Go.Proofs.YtighihhaljofdaaDoor.P
set_option linter.unusedVariables false
open Go.RowKit Go.Proofs.YtighihhaljofdaaDoorW.PrintWords
theorem vr_uniq {a b c d : Int} (h1 : VR a b) (h2 : VR c d) (h : a * d = c * b) : a = c ∧ b = d := by
  have hb := h1.1
  have hd := h2.1
  have c1 : Nat.Coprime a.natAbs b.natAbs := h1.2.2.2.2
  have c2 : Nat.Coprime c.natAbs d.natAbs := h2.2.2.2.2
  have e : a.natAbs * d.natAbs = c.natAbs * b.natAbs := by rw [← Int.natAbs_mul, h, Int.natAbs_mul]
  have k1 : b.natAbs ∣ d.natAbs := Nat.Coprime.dvd_of_dvd_mul_left c1.symm (by rw [e]; exact Nat.dvd_mul_left _ _)
  have k2 : d.natAbs ∣ b.natAbs := Nat.Coprime.dvd_of_dvd_mul_left c2.symm (by rw [← e]; exact Nat.dvd_mul_left _ _)
  have k := Nat.dvd_antisymm k1 k2
  have hbd : b = d := by omega
  subst hbd
  exact ⟨Int.eq_of_mul_eq_mul_right (by omega) h, rfl⟩
def FR (r : Int × Int × Int) (n d : Int) : Prop :=
  (r.2.2 = 0 → VR r.1 r.2.1 ∧ r.1 * d = n * r.2.1) ∧ (∀ x y, VR x y → x * d = n * y → r = (x, y, 0))
theorem newS_FR {n d : Int} (hd : d ≠ 0) : FR (newS n d) n d := by
  have hg : 0 < Nat.gcd n.natAbs d.natAbs := Nat.gcd_pos_of_pos_right _ (by omega)
  have eN : n.natAbs = Nat.gcd n.natAbs d.natAbs * (n.natAbs / Nat.gcd n.natAbs d.natAbs) := (Nat.mul_div_cancel' (Nat.gcd_dvd_left _ _)).symm
  have eD : d.natAbs = Nat.gcd n.natAbs d.natAbs * (d.natAbs / Nat.gcd n.natAbs d.natAbs) := (Nat.mul_div_cancel' (Nat.gcd_dvd_right _ _)).symm
  have hc : Nat.Coprime (n.natAbs / Nat.gcd n.natAbs d.natAbs) (d.natAbs / Nat.gcd n.natAbs d.natAbs) := Nat.coprime_div_gcd_div_gcd hg
  unfold newS
  rw [if_neg hd]
  generalize Nat.gcd n.natAbs d.natAbs = g at *
  generalize n.natAbs / g = N at *
  generalize d.natAbs / g = D at *
  have hD : 0 < D := by
    rcases Nat.eq_zero_or_pos D with h | h
    · subst h; rw [Nat.mul_zero] at eD; omega
    · exact h
  have key : ∀ x y, VR x y → x * d = n * y → x.natAbs * D = N * y.natAbs := by
    intro x y _ h
    have e : x.natAbs * d.natAbs = n.natAbs * y.natAbs := by rw [← Int.natAbs_mul, h, Int.natAbs_mul]
    rw [eN, eD] at e
    refine Nat.eq_of_mul_eq_mul_left hg ?_
    calc g * (x.natAbs * D) = x.natAbs * (g * D) := by rw [← Nat.mul_assoc, Nat.mul_comm g, Nat.mul_assoc]
      _ = g * N * y.natAbs := e
      _ = g * (N * y.natAbs) := Nat.mul_assoc _ _ _
  by_cases ho : (N : Int) > 1000000000000 ∨ (D : Int) > 1000000
  · rw [if_pos ho]
    refine ⟨fun h => absurd h (by decide), fun x y hv h => ?_⟩
    exfalso
    have k := key x y hv h
    have hy := hv.1
    have hy2 := hv.2.1
    have hx1 := hv.2.2.1
    have hx2 := hv.2.2.2.1
    have d1 : D ∣ y.natAbs := Nat.Coprime.dvd_of_dvd_mul_left hc.symm (by rw [← k]; exact Nat.dvd_mul_left _ _)
    have d2 : N ∣ x.natAbs := Nat.Coprime.dvd_of_dvd_mul_right hc (by rw [k]; exact Nat.dvd_mul_right _ _)
    have l1 := Nat.le_of_dvd (by omega) d1
    rcases Nat.eq_zero_or_pos x.natAbs with h0 | h0
    · rw [h0, Nat.zero_mul] at k
      rcases Nat.mul_eq_zero.1 k.symm with h3 | h3
      · omega
      · omega
    · have l2 := Nat.le_of_dvd h0 d2
      omega
  · rw [if_neg ho]
    have e1 : (if (decide (n < 0) != decide (d < 0)) = true then -(N : Int) else (N : Int)).natAbs = N := by split <;> omega
    have hv : VR (if (decide (n < 0) != decide (d < 0)) = true then -(N : Int) else (N : Int)) (D : Int) := by
      refine ⟨by omega, by omega, ?_, ?_, ?_⟩
      · split <;> omega
      · split <;> omega
      · rw [e1, Int.natAbs_natCast]; exact hc
    have hval : (if (decide (n < 0) != decide (d < 0)) = true then -(N : Int) else (N : Int)) * d = n * (D : Int) := by
      have zN : (n.natAbs : Int) = (g : Int) * (N : Int) := by rw [eN]; exact Int.natCast_mul _ _
      have zD : (d.natAbs : Int) = (g : Int) * (D : Int) := by rw [eD]; exact Int.natCast_mul _ _
      by_cases hn : n < 0
      · have n1 : n = -((g : Int) * (N : Int)) := by omega
        by_cases hd' : d < 0
        · have n2 : d = -((g : Int) * (D : Int)) := by omega
          rw [if_neg (by simp [hn, hd'])]
          rw [n1, n2]; grind
        · have n2 : d = (g : Int) * (D : Int) := by omega
          rw [if_pos (by simp [hn, hd'])]
          rw [n1, n2]; grind
      · have n1 : n = (g : Int) * (N : Int) := by omega
        by_cases hd' : d < 0
        · have n2 : d = -((g : Int) * (D : Int)) := by omega
          rw [if_pos (by simp [hn, hd'])]
          rw [n1, n2]; grind
        · have n2 : d = (g : Int) * (D : Int) := by omega
          rw [if_neg (by simp [hn, hd'])]
          rw [n1, n2]; grind
    refine ⟨fun _ => ⟨hv, hval⟩, fun x y hv2 h => ?_⟩
    generalize (if (decide (n < 0) != decide (d < 0)) = true then -(N : Int) else (N : Int)) = X at *
    have hx : X * y = x * (D : Int) := by
      refine Int.eq_of_mul_eq_mul_right hd ?_
      grind
    obtain ⟨q1, q2⟩ := vr_uniq hv hv2 hx
    rw [q1, q2]
theorem vr_prod {a b c d : Int} (h1 : VR a b) (h2 : VR c d) : -1000000000000000000 ≤ a * d ∧ a * d ≤ 1000000000000000000 := by
  have ha : a.natAbs ≤ 1000000000000 := by have := h1.2.2.1; have := h1.2.2.2.1; omega
  have hd : d.natAbs ≤ 1000000 := by have := h2.1; have := h2.2.1; omega
  have := Nat.mul_le_mul ha hd
  rw [← Int.natAbs_mul] at this
  omega
theorem vr_dens {a b c d : Int} (h1 : VR a b) (h2 : VR c d) : 0 < b * d ∧ b * d ≤ 1000000000000 := by
  have hb : b.natAbs ≤ 1000000 := by have := h1.1; have := h1.2.1; omega
  have hd : d.natAbs ≤ 1000000 := by have := h2.1; have := h2.2.1; omega
  have := Nat.mul_le_mul hb hd
  rw [← Int.natAbs_mul] at this
  have hp : 0 < b * d := Int.mul_pos (by have := h1.1; omega) (by have := h2.1; omega)
  omega
theorem addS_FR {a b c d : Int} (h1 : VR a b) (h2 : VR c d) : FR (addS a b c d) (a * d + c * b) (b * d) := by
  unfold addS
  rw [if_pos ⟨h1, h2⟩]
  have p1 := vr_prod h1 h2
  have p2 := vr_prod h2 h1
  have p3 := vr_dens h1 h2
  rw [wrap64_in (n := a * d) (by unfold I64; omega), wrap64_in (n := c * b) (by unfold I64; omega), wrap64_in (n := a * d + c * b) (by unfold I64; omega), wrap64_in (n := b * d) (by unfold I64; omega)]
  exact newS_FR (by omega)
theorem subS_FR {a b c d : Int} (h1 : VR a b) (h2 : VR c d) : FR (subS a b c d) (a * d - c * b) (b * d) := by
  unfold subS
  rw [if_pos ⟨h1, h2⟩]
  have p1 := vr_prod h1 h2
  have p2 := vr_prod h2 h1
  have p3 := vr_dens h1 h2
  rw [wrap64_in (n := a * d) (by unfold I64; omega), wrap64_in (n := c * b) (by unfold I64; omega), wrap64_in (n := a * d - c * b) (by unfold I64; omega), wrap64_in (n := b * d) (by unfold I64; omega)]
  exact newS_FR (by omega)
theorem divS_FR {a b c d : Int} (h1 : VR a b) (h2 : VR c d) (h0 : c ≠ 0) : FR (divS a b c d) (a * d) (b * c) := by
  unfold divS
  rw [if_pos ⟨h1, h2⟩, if_neg h0]
  have p1 := vr_prod h1 h2
  have p2 := vr_prod h2 h1
  rw [wrap64_in (n := a * d) (by unfold I64; omega), wrap64_in (n := b * c) (by rw [Int.mul_comm]; unfold I64; omega)]
  refine newS_FR (Int.mul_ne_zero ?_ h0)
  have := h1.1
  omega
theorem divS_zero {a b c d : Int} (h1 : VR a b) (h2 : VR c d) (h0 : c = 0) : divS a b c d = (0, 0, 5) := by
  unfold divS
  rw [if_pos ⟨h1, h2⟩, if_pos h0]
theorem mulS_FR {a b c d : Int} (h1 : VR a b) (h2 : VR c d) : FR (mulS a b c d) (a * c) (b * d) := by
  have hb := h1.1
  have hd := h2.1
  unfold mulS
  rw [if_pos ⟨h1, h2⟩, mulS_new h1 h2]
  have hD := mulD_pos h1 h2
  have base := newS_FR (n := if (decide (a < 0) != decide (c < 0)) = true then -(mulN a b c d : Int) else (mulN a b c d : Int)) (d := (mulD a b c d : Int)) (by omega)
  have g1 : 0 < Nat.gcd a.natAbs d.natAbs := Nat.gcd_pos_of_pos_right _ (by omega)
  have g2 : 0 < Nat.gcd c.natAbs b.natAbs := Nat.gcd_pos_of_pos_right _ (by omega)
  have ea : a.natAbs = Nat.gcd a.natAbs d.natAbs * (a.natAbs / Nat.gcd a.natAbs d.natAbs) := (Nat.mul_div_cancel' (Nat.gcd_dvd_left _ _)).symm
  have ed : d.natAbs = Nat.gcd a.natAbs d.natAbs * (d.natAbs / Nat.gcd a.natAbs d.natAbs) := (Nat.mul_div_cancel' (Nat.gcd_dvd_right _ _)).symm
  have ec : c.natAbs = Nat.gcd c.natAbs b.natAbs * (c.natAbs / Nat.gcd c.natAbs b.natAbs) := (Nat.mul_div_cancel' (Nat.gcd_dvd_left _ _)).symm
  have eb : b.natAbs = Nat.gcd c.natAbs b.natAbs * (b.natAbs / Nat.gcd c.natAbs b.natAbs) := (Nat.mul_div_cancel' (Nat.gcd_dvd_right _ _)).symm
  have hNN : mulN a b c d = (a.natAbs / Nat.gcd a.natAbs d.natAbs) * (c.natAbs / Nat.gcd c.natAbs b.natAbs) := rfl
  have hDD : mulD a b c d = (b.natAbs / Nat.gcd c.natAbs b.natAbs) * (d.natAbs / Nat.gcd a.natAbs d.natAbs) := rfl
  generalize mulN a b c d = N at *
  generalize mulD a b c d = D at *
  generalize Nat.gcd a.natAbs d.natAbs = g at *
  generalize Nat.gcd c.natAbs b.natAbs = h at *
  generalize a.natAbs / g = p at *
  generalize c.natAbs / h = q at *
  generalize b.natAbs / h = u at *
  generalize d.natAbs / g = v at *
  have za : (a.natAbs : Int) = (g : Int) * (p : Int) := by rw [ea]; exact Int.natCast_mul _ _
  have zd : (d.natAbs : Int) = (g : Int) * (v : Int) := by rw [ed]; exact Int.natCast_mul _ _
  have zc : (c.natAbs : Int) = (h : Int) * (q : Int) := by rw [ec]; exact Int.natCast_mul _ _
  have zb : (b.natAbs : Int) = (h : Int) * (u : Int) := by rw [eb]; exact Int.natCast_mul _ _
  have zN : (N : Int) = (p : Int) * (q : Int) := by rw [hNN]; exact Int.natCast_mul _ _
  have zD : (D : Int) = (u : Int) * (v : Int) := by rw [hDD]; exact Int.natCast_mul _ _
  have nb : b = (h : Int) * (u : Int) := by omega
  have nd : d = (g : Int) * (v : Int) := by omega
  have den : b * d = (g : Int) * (h : Int) * (D : Int) := by rw [nb, nd, zD]; grind
  have num : a * c = (g : Int) * (h : Int) * (if (decide (a < 0) != decide (c < 0)) = true then -(N : Int) else (N : Int)) := by
    by_cases ha : a < 0
    · have na : a = -((g : Int) * (p : Int)) := by omega
      by_cases hc : c < 0
      · have nc : c = -((h : Int) * (q : Int)) := by omega
        rw [if_neg (by simp [ha, hc]), zN, na, nc]; grind
      · have nc : c = (h : Int) * (q : Int) := by omega
        rw [if_pos (by simp [ha, hc]), zN, na, nc]; grind
    · have na : a = (g : Int) * (p : Int) := by omega
      by_cases hc : c < 0
      · have nc : c = -((h : Int) * (q : Int)) := by omega
        rw [if_pos (by simp [ha, hc]), zN, na, nc]; grind
      · have nc : c = (h : Int) * (q : Int) := by omega
        rw [if_neg (by simp [ha, hc]), zN, na, nc]; grind
  have gh : (g : Int) * (h : Int) ≠ 0 := Int.mul_ne_zero (by omega) (by omega)
  generalize (if (decide (a < 0) != decide (c < 0)) = true then -(N : Int) else (N : Int)) = X at *
  obtain ⟨b1, b2⟩ := base
  refine ⟨fun h0 => ?_, fun x y hv hxy => ?_⟩
  · obtain ⟨v1, v2⟩ := b1 h0
    refine ⟨v1, ?_⟩
    rw [den, num]; grind
  · refine b2 x y hv ?_
    rw [den, num] at hxy
    refine Int.eq_of_mul_eq_mul_left gh ?_
    grind
end Go.Proofs.YtighihhaljofdaaDoor.P
