/- Texts for the law RatioOrder (kept out of a larger one). -/
import Derived.Test.YtighihhaljofdaaDoorZRatioOrder9
import Derived.Test.YtighihhaljofdaaDoorZRatioOrder19
import Derived.Test.YtighihhaljofdaaDoorZRatioOrder21
import Derived.Test.YtighihhaljofdaaDoorZRatioOrder22
import Derived.Test.YtighihhaljofdaaDoorZRatioOrder23
import Derived.Test.YtighihhaljofdaaDoorZRatioOrder20
import Derived.Test.YtighihhaljofdaaDoorZRatioOrder24
import Derived.Test.YtighihhaljofdaaDoorZRatioOrder25
import Derived.Test.YtighihhaljofdaaDoorZRatioOrder26
namespace Go.Proofs.YtighihhaljofdaaDoor.P
set_option linter.unusedVariables false
open Go.RowKit Go.Proofs.YtighihhaljofdaaDoorW.PrintWords
theorem cmp_flip {a b c d : Int} (h1 : VR a b) (h2 : VR c d) : cmpS a b c d = wrap64 (-(cmpS c d a b)) ∧ -1 ≤ cmpS a b c d ∧ cmpS a b c d ≤ 1 := by
  rw [cmpS_eq h1 h2, cmpS_eq h2 h1]
  rcases Int.lt_trichotomy (a * d) (c * b) with h | h | h
  · rw [if_pos h, if_neg (by omega), if_pos (by omega)]; exact ⟨by unfold wrap64; omega, by omega, by omega⟩
  · rw [if_neg (by omega), if_neg (by omega), if_neg (by omega), if_neg (by omega)]; exact ⟨by unfold wrap64; omega, by omega, by omega⟩
  · rw [if_neg (by omega), if_pos (by omega), if_pos (by omega)]; exact ⟨by unfold wrap64; omega, by omega, by omega⟩
theorem cmp_zero {a b c d : Int} (h1 : VR a b) (h2 : VR c d) : (cmpS a b c d == 0) = (a == c && (b == d)) := by
  rw [cmpS_eq h1 h2]
  by_cases h : a * d = c * b
  · obtain ⟨rfl, rfl⟩ := vr_uniq h1 h2 h
    simp
  · have hn : ¬ (a = c ∧ b = d) := fun ⟨e1, e2⟩ => h (by rw [e1, e2])
    have r : (a == c && (b == d)) = false := by
      rw [Bool.eq_false_iff]
      intro hh
      rw [Bool.and_eq_true, beq_iff_eq, beq_iff_eq] at hh
      exact hn hh
    rw [r]
    by_cases hl : a * d < c * b
    · rw [if_pos hl]; rfl
    · rw [if_neg hl, if_pos (by omega)]; rfl
theorem cmp_le {a b c d : Int} (h1 : VR a b) (h2 : VR c d) : cmpS a b c d ≤ 0 ↔ a * d ≤ c * b := by
  rw [cmpS_eq h1 h2]
  by_cases hl : a * d < c * b
  · rw [if_pos hl]; constructor <;> intro _ <;> omega
  · rw [if_neg hl]
    by_cases hg : a * d > c * b
    · rw [if_pos hg]; constructor <;> intro _ <;> omega
    · rw [if_neg hg]; constructor <;> intro _ <;> omega
theorem cmp_trans {a b c d x y : Int} (h1 : VR a b) (h2 : VR c d) (h3 : VR x y) (k1 : cmpS a b c d ≤ 0) (k2 : cmpS c d x y ≤ 0) : cmpS a b x y ≤ 0 := by
  rw [cmp_le h1 h2] at k1
  rw [cmp_le h2 h3] at k2
  rw [cmp_le h1 h3]
  have hb := h1.1
  have hd := h2.1
  have hy := h3.1
  have m1 := Int.mul_le_mul_of_nonneg_right k1 (show 0 ≤ y by omega)
  have m2 := Int.mul_le_mul_of_nonneg_right k2 (show 0 ≤ b by omega)
  refine Int.le_of_mul_le_mul_right (a := d) ?_ (by omega)
  have e1 : a * y * d = a * d * y := by grind
  have e2 : x * b * d = x * d * b := by grind
  have e3 : c * b * y = c * y * b := by grind
  omega
theorem cmp_add {a0 a1 b0 b1 c0 c1 p0 p1 q0 q1 : Int} (ha : VR a0 a1) (hb : VR b0 b1) (hc : VR c0 c1) (e1 : addS a0 a1 c0 c1 = (p0, p1, 0)) (e2 : addS b0 b1 c0 c1 = (q0, q1, 0)) : VR p0 p1 ∧ VR q0 q1 ∧ cmpS p0 p1 q0 q1 = cmpS a0 a1 b0 b1 := by
  obtain ⟨vp, hp⟩ := (addS_FR ha hc).1 (by rw [e1])
  obtain ⟨vq, hq⟩ := (addS_FR hb hc).1 (by rw [e2])
  rw [e1] at vp hp
  rw [e2] at vq hq
  refine ⟨vp, vq, ?_⟩
  rw [cmpS_eq vp vq, cmpS_eq ha hb]
  have a1p := ha.1
  have b1p := hb.1
  have c1p := hc.1
  have p1p := vp.1
  have q1p := vq.1
  refine cmp_alike (K := a1 * c1 * (b1 * c1)) (L := p1 * q1 * (c1 * c1)) (Int.mul_pos (Int.mul_pos ?_ ?_) (Int.mul_pos ?_ ?_)) (Int.mul_pos (Int.mul_pos ?_ ?_) (Int.mul_pos ?_ ?_)) ?_
  all_goals first | omega | grind
theorem cmp_mul {a0 a1 b0 b1 c0 c1 p0 p1 q0 q1 : Int} (ha : VR a0 a1) (hb : VR b0 b1) (hc : VR c0 c1) (h0 : c0 > 0) (e1 : mulS a0 a1 c0 c1 = (p0, p1, 0)) (e2 : mulS b0 b1 c0 c1 = (q0, q1, 0)) : VR p0 p1 ∧ VR q0 q1 ∧ cmpS p0 p1 q0 q1 = cmpS a0 a1 b0 b1 := by
  obtain ⟨vp, hp⟩ := (mulS_FR ha hc).1 (by rw [e1])
  obtain ⟨vq, hq⟩ := (mulS_FR hb hc).1 (by rw [e2])
  rw [e1] at vp hp
  rw [e2] at vq hq
  refine ⟨vp, vq, ?_⟩
  rw [cmpS_eq vp vq, cmpS_eq ha hb]
  have a1p := ha.1
  have b1p := hb.1
  have c1p := hc.1
  have p1p := vp.1
  have q1p := vq.1
  refine cmp_alike (K := a1 * c1 * (b1 * c1)) (L := p1 * q1 * (c0 * c1)) (Int.mul_pos (Int.mul_pos ?_ ?_) (Int.mul_pos ?_ ?_)) (Int.mul_pos (Int.mul_pos ?_ ?_) (Int.mul_pos ?_ ?_)) ?_
  all_goals first | omega | grind
theorem vr_whole {n : Int} (h0 : -1000000000000 ≤ n) (h1 : n ≤ 1000000000000) : VR n 1 := ⟨by omega, by omega, h0, h1, Nat.gcd_one_right _⟩
theorem order_j2 (a b : Int) (h : VR a b) : Ev (fun k => payrolllaw1_RatioOrder.j2 k false a b) true := by
  have hb := h.1
  have ha1 := h.2.2.1
  have ha2 := h.2.2.2.1
  refine Ev.step (fun k => by simp only [payrolllaw1_RatioOrder.j2]; rfl) (Ev.ifn (by decide) (Ev.bind (ratio_Floor_ev a b h.i64n h.i64d) ?_))
  have ef : floorS a b = a / b := if_pos h
  rw [ef]
  have hm := Int.mul_ediv_add_emod a b
  have hr := Int.emod_nonneg a (show b ≠ 0 by omega)
  have hr2 := Int.emod_lt_of_pos a (show 0 < b by omega)
  have l0 : -1000000000000 ≤ a / b := Int.le_ediv_of_mul_le (by omega) (by have : (-1000000000000 : Int) * b ≤ -1000000000000 * 1 := Int.mul_le_mul_of_nonpos_left (by omega) (by omega); omega)
  have l1 : a / b ≤ 1000000000000 := by
    have : a / b < 1000000000001 := Int.ediv_lt_of_lt_mul (by omega) (by have : (1000000000001 : Int) * 1 ≤ 1000000000001 * b := Int.mul_le_mul_of_nonneg_left (by omega) (by omega); omega)
    omega
  generalize a / b = n at *
  have hv := vr_whole l0 l1
  have hbn : b * n = n * b := Int.mul_comm _ _
  refine Ev.bind (ratio_Compare_ev n 1 a b hv.i64n hv.i64d h.i64n h.i64d) (Ev.ifp ((cmp_le hv h).2 (by omega)) ?_)
  by_cases h12 : n ≥ 1000000000000
  · exact Ev.ifp h12 (Ev.bind sane_ev (Ev.now _))
  · refine Ev.ifn h12 ?_
    rw [wrap64_in (n := n + 1) (by unfold I64; omega)]
    have hv2 := vr_whole (n := n + 1) (by omega) (by omega)
    have e : (n + 1) * b = n * b + b := by grind
    refine Ev.bind (ratio_Compare_ev (n + 1) 1 a b hv2.i64n hv2.i64d h.i64n h.i64d) (Ev.ifp ?_ (Ev.bind sane_ev (Ev.now _)))
    have := cmp_le hv2 h
    omega
theorem order_j1 (a0 a1 b0 b1 c0 c1 : Int) (ha : VR a0 a1) (hb : VR b0 b1) (hc : VR c0 c1) : Ev (fun k => payrolllaw1_RatioOrder.j1 k (cmpS a0 a1 b0 b1) false a0 a1 b0 b1 c0 c1) true := by
  refine Ev.step (fun k => by simp only [payrolllaw1_RatioOrder.j1]; rfl) (Ev.ifn (by decide) (Ev.bind (ratio_Mul_ev a0 a1 c0 c1 ha.i64n ha.i64d hc.i64n hc.i64d) (Ev.bind (ratio_Mul_ev b0 b1 c0 c1 hb.i64n hb.i64d hc.i64n hc.i64d) ?_)))
  have fin := order_j2 a0 a1 ha
  obtain ⟨p0, p1, e, ep⟩ : ∃ p0 p1 e, mulS a0 a1 c0 c1 = (p0, p1, e) := ⟨_, _, _, rfl⟩
  obtain ⟨q0, q1, f, eq⟩ : ∃ q0 q1 f, mulS b0 b1 c0 c1 = (q0, q1, f) := ⟨_, _, _, rfl⟩
  rw [ep, eq]
  by_cases h1 : e = 0
  · by_cases h2 : f = 0
    · by_cases h3 : c0 > 0
      · subst h1; subst h2
        obtain ⟨vp, vq, hcmp⟩ := cmp_mul ha hb hc h3 ep eq
        refine Ev.ifp rfl (Ev.ifp rfl (Ev.ifp h3 (Ev.bind (ratio_Compare_ev p0 p1 q0 q1 vp.i64n vp.i64d vq.i64n vq.i64d) ?_)))
        rw [hcmp, bne_self_eq_false]; exact fin
      · exact Ev.ifp h1 (Ev.ifp h2 (Ev.ifn h3 fin))
    · exact Ev.ifp h1 (Ev.ifn h2 fin)
  · exact Ev.ifn h1 fin
theorem order_j0 (a0 a1 b0 b1 c0 c1 : Int) (ha : VR a0 a1) (hb : VR b0 b1) (hc : VR c0 c1) : Ev (fun k => payrolllaw1_RatioOrder.j0 k (cmpS a0 a1 b0 b1) false a0 a1 b0 b1 c0 c1) true := by
  refine Ev.step (fun k => by simp only [payrolllaw1_RatioOrder.j0]; rfl) (Ev.ifn (by decide) (Ev.bind (ratio_Add_ev a0 a1 c0 c1 ha.i64n ha.i64d hc.i64n hc.i64d) (Ev.bind (ratio_Add_ev b0 b1 c0 c1 hb.i64n hb.i64d hc.i64n hc.i64d) ?_)))
  have fin := order_j1 a0 a1 b0 b1 c0 c1 ha hb hc
  obtain ⟨p0, p1, e, ep⟩ : ∃ p0 p1 e, addS a0 a1 c0 c1 = (p0, p1, e) := ⟨_, _, _, rfl⟩
  obtain ⟨q0, q1, f, eq⟩ : ∃ q0 q1 f, addS b0 b1 c0 c1 = (q0, q1, f) := ⟨_, _, _, rfl⟩
  rw [ep, eq]
  by_cases h1 : e = 0
  · by_cases h2 : f = 0
    · subst h1; subst h2
      obtain ⟨vp, vq, hcmp⟩ := cmp_add ha hb hc ep eq
      refine Ev.ifp rfl (Ev.ifp rfl (Ev.bind (ratio_Compare_ev p0 p1 q0 q1 vp.i64n vp.i64d vq.i64n vq.i64d) ?_))
      rw [hcmp, bne_self_eq_false]; exact fin
    · exact Ev.ifp h1 (Ev.ifn h2 fin)
  · exact Ev.ifn h1 fin
theorem RatioOrder : payrolllaw1_RatioOrder.Pure := by
  intro l0 hm hy hw
  have main : Ev (fun k => payrolllaw1_RatioOrder.f k l0) true := by
    unfold payrolllaw1_RatioOrder.f
    obtain ⟨a0, a1, p1, h1, ha, he1⟩ := tape_Ratio_ok l0 0 (At.start hy)
    obtain ⟨b0, b1, p2, h2, hb, he2⟩ := tape_Ratio_ok l0 p1 h1
    obtain ⟨c0, c1, p3, h3, hc, he3⟩ := tape_Ratio_ok l0 p2 h2
    have fin := order_j0 a0 a1 b0 b1 c0 c1 ha hb hc
    have hf := cmp_flip ha hb
    refine Ev.bindc (a := (l0, 0)) rfl (Ev.bind he1 (Ev.bind he2 (Ev.bind he3 ?_)))
    refine Ev.bind (ratio_Compare_ev a0 a1 b0 b1 ha.i64n ha.i64d hb.i64n hb.i64d) (Ev.bind (ratio_Compare_ev b0 b1 a0 a1 hb.i64n hb.i64d ha.i64n ha.i64d) (Ev.ifp hf.1 (Ev.ifn (by rw [cmp_zero ha hb]; simp) ?_)))
    by_cases k1 : cmpS a0 a1 b0 b1 ≤ 0
    · refine Ev.ifp k1 (Ev.bind (ratio_Compare_ev b0 b1 c0 c1 hb.i64n hb.i64d hc.i64n hc.i64d) ?_)
      by_cases k2 : cmpS b0 b1 c0 c1 ≤ 0
      · refine Ev.ifp k2 (Ev.bind (ratio_Compare_ev a0 a1 c0 c1 ha.i64n ha.i64d hc.i64n hc.i64d) ?_)
        have k3 := cmp_trans ha hb hc k1 k2
        rw [decide_eq_false (by omega)]; exact fin
      · exact Ev.ifn k2 fin
    · exact Ev.ifn k1 fin
  exact main.rounds
end Go.Proofs.YtighihhaljofdaaDoor.P
