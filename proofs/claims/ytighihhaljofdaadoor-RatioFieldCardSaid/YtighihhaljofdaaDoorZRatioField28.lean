/- Texts for the law RatioField (kept out of a larger one). -/
import Derived.Test.YtighihhaljofdaaDoorZRatioField9
import Derived.Test.YtighihhaljofdaaDoorZRatioField20
import Derived.Test.YtighihhaljofdaaDoorZRatioField22
import Derived.Test.YtighihhaljofdaaDoorZRatioField23
import Derived.Test.YtighihhaljofdaaDoorZRatioField24
import Derived.Test.YtighihhaljofdaaDoorZRatioField21
import Derived.Test.YtighihhaljofdaaDoorZRatioField25
import Derived.Test.YtighihhaljofdaaDoorZRatioField26
import Derived.Test.YtighihhaljofdaaDoorZRatioField27
namespace Go.Proofs.YtighihhaljofdaaDoor.P
set_option linter.unusedVariables false
open Go.RowKit Go.Proofs.YtighihhaljofdaaDoorW.PrintWords
theorem newS_I64 {n d a b e : Int} (h : newS n d = (a, b, e)) : I64 a ∧ I64 b := by
  by_cases hd : d = 0
  · unfold newS at h
    rw [if_pos hd] at h
    simp only [Prod.mk.injEq] at h
    unfold I64; omega
  · by_cases he : e = 0
    · subst he
      have := ((newS_FR hd).1 (by rw [h])).1
      rw [h] at this
      exact ⟨this.i64n, this.i64d⟩
    · unfold newS at h
      rw [if_neg hd] at h
      split at h
      · simp only [Prod.mk.injEq] at h
        unfold I64; omega
      · simp only [Prod.mk.injEq] at h
        exact absurd h.2.2.symm he
theorem addS_I64 {a b c d x y e : Int} (h : addS a b c d = (x, y, e)) : I64 x ∧ I64 y := by
  unfold addS at h
  split at h
  · exact newS_I64 h
  · simp only [Prod.mk.injEq] at h
    unfold I64; omega
theorem mulS_I64 {a b c d x y e : Int} (h : mulS a b c d = (x, y, e)) : I64 x ∧ I64 y := by
  unfold mulS at h
  split at h
  · rename_i hv
    rw [mulS_new hv.1 hv.2] at h
    exact newS_I64 h
  · simp only [Prod.mk.injEq] at h
    unfold I64; omega
theorem addS_comm {a b c d : Int} (h1 : VR a b) (h2 : VR c d) : addS a b c d = addS c d a b := by
  unfold addS
  rw [if_pos ⟨h1, h2⟩, if_pos ⟨h2, h1⟩, Int.mul_comm d b]
  congr 2
  exact Int.add_comm _ _
theorem mulS_comm {a b c d : Int} (h1 : VR a b) (h2 : VR c d) : mulS a b c d = mulS c d a b := by
  have eN : mulN a b c d = mulN c d a b := by unfold mulN; exact Nat.mul_comm _ _
  have eD : mulD a b c d = mulD c d a b := by unfold mulD; exact Nat.mul_comm _ _
  have es : (decide (a < 0) != decide (c < 0)) = (decide (c < 0) != decide (a < 0)) := by
    cases decide (a < 0) <;> cases decide (c < 0) <;> rfl
  unfold mulS
  rw [if_pos (show VR a b ∧ VR c d from ⟨h1, h2⟩), if_pos (show VR c d ∧ VR a b from ⟨h2, h1⟩), eN, eD, es]
theorem field_j2 {a0 a1 b0 b1 p0 p1 g : Int} (ha : VR a0 a1) (hb : VR b0 b1) (hp : mulS a0 a1 b0 b1 = (p0, p1, g)) : Ev (fun k => payrolllaw1_RatioField.j2 k g false a0 a1 b0 b1 p0 p1) true := by
  refine Ev.step (fun k => by simp only [payrolllaw1_RatioField.j2]; rfl) (Ev.ifn (by decide) ?_)
  by_cases h0 : b0 = 0
  · refine Ev.ifp h0 (Ev.bind (ratio_Div_ev a0 a1 b0 b1 ha.i64n ha.i64d hb.i64n hb.i64d) ?_)
    rw [divS_zero ha hb h0]
    exact Ev.ifp rfl (Ev.bind sane_ev (Ev.now _))
  · obtain ⟨i0, i1⟩ := mulS_I64 hp
    refine Ev.ifn h0 (Ev.bind (ratio_Div_ev p0 p1 b0 b1 i0 i1 hb.i64n hb.i64d) ?_)
    by_cases hg : g = 0
    · subst hg
      obtain ⟨vp, hv⟩ := (mulS_FR ha hb).1 (by rw [hp])
      rw [hp] at vp hv
      have e : divS p0 p1 b0 b1 = (a0, a1, 0) := (divS_FR vp hb h0).2 a0 a1 ha (by grind)
      rw [e]
      exact Ev.ifp rfl (Ev.ifp rfl (Ev.ifp (by simp) (Ev.bind sane_ev (Ev.now _))))
    · exact Ev.ifn hg (Ev.bind sane_ev (Ev.now _))
theorem field_j1 {a0 a1 b0 b1 s0 s1 e p0 p1 g : Int} (ha : VR a0 a1) (hb : VR b0 b1) (hs : addS a0 a1 b0 b1 = (s0, s1, e)) (hp : mulS a0 a1 b0 b1 = (p0, p1, g)) : Ev (fun k => payrolllaw1_RatioField.j1 k e g false a0 a1 b0 b1 s0 s1 p0 p1) true := by
  obtain ⟨i0, i1⟩ := addS_I64 hs
  refine Ev.step (fun k => by simp only [payrolllaw1_RatioField.j1]; rfl) (Ev.ifn (by decide) (Ev.bind (ratio_Sub_ev s0 s1 b0 b1 i0 i1 hb.i64n hb.i64d) ?_))
  have fin := field_j2 ha hb hp
  by_cases he : e = 0
  · subst he
    obtain ⟨vs, hv⟩ := (addS_FR ha hb).1 (by rw [hs])
    rw [hs] at vs hv
    have es : subS s0 s1 b0 b1 = (a0, a1, 0) := (subS_FR vs hb).2 a0 a1 ha (by grind)
    rw [es]
    refine Ev.ifp rfl (Ev.ifp rfl ?_)
    exact Ev.congr (fun k => by simp) fin
  · exact Ev.ifn he fin
theorem distrib {a0 a1 b0 b1 c0 c1 s0 s1 l0 l1 p0 p1 q0 q1 r0 r1 : Int} (ha : VR a0 a1) (hb : VR b0 b1) (hc : VR c0 c1)
    (hs : addS b0 b1 c0 c1 = (s0, s1, 0)) (hl : mulS a0 a1 s0 s1 = (l0, l1, 0)) (hp : mulS a0 a1 b0 b1 = (p0, p1, 0)) (hq : mulS a0 a1 c0 c1 = (q0, q1, 0)) (hr : addS p0 p1 q0 q1 = (r0, r1, 0)) : l0 = r0 ∧ l1 = r1 := by
  obtain ⟨vs, es⟩ := (addS_FR hb hc).1 (by rw [hs])
  rw [hs] at vs es
  obtain ⟨vl, el⟩ := (mulS_FR ha vs).1 (by rw [hl])
  rw [hl] at vl el
  obtain ⟨vp, ep⟩ := (mulS_FR ha hb).1 (by rw [hp])
  rw [hp] at vp ep
  obtain ⟨vq, eq⟩ := (mulS_FR ha hc).1 (by rw [hq])
  rw [hq] at vq eq
  obtain ⟨vr, er⟩ := (addS_FR vp vq).1 (by rw [hr])
  rw [hr] at vr er
  simp only at vs es vl el vp ep vq eq vr er
  have na := ha.1
  have nb := hb.1
  have nc := hc.1
  have ns := vs.1
  have np := vp.1
  have nq := vq.1
  have h1 : l0 * (a1 * b1 * c1) = a0 * (b0 * c1 + c0 * b1) * l1 := by
    refine Int.eq_of_mul_eq_mul_right (show s1 ≠ 0 by omega) ?_
    have t1 : l0 * (a1 * b1 * c1) * s1 = l0 * (a1 * s1) * (b1 * c1) := by grind
    have t2 : a0 * (b0 * c1 + c0 * b1) * l1 * s1 = a0 * ((b0 * c1 + c0 * b1) * s1) * l1 := by grind
    rw [t1, t2, el, ← es]; grind
  have h2 : r0 * (a1 * b1 * c1) = a0 * (b0 * c1 + c0 * b1) * r1 := by
    refine Int.eq_of_mul_eq_mul_right (Int.mul_ne_zero (show p1 ≠ 0 by omega) (show q1 ≠ 0 by omega)) ?_
    have t1 : r0 * (a1 * b1 * c1) * (p1 * q1) = r0 * (p1 * q1) * (a1 * b1 * c1) := by grind
    have t2 : (p0 * q1 + q0 * p1) * r1 * (a1 * b1 * c1) = (p0 * (a1 * b1)) * c1 * q1 * r1 + (q0 * (a1 * c1)) * b1 * p1 * r1 := by grind
    rw [t1, er, t2, ep, eq]; grind
  refine vr_uniq vl vr ?_
  refine Int.eq_of_mul_eq_mul_right (Int.mul_ne_zero (Int.mul_ne_zero (show a1 ≠ 0 by omega) (show b1 ≠ 0 by omega)) (show c1 ≠ 0 by omega)) ?_
  have t1 : l0 * r1 * (a1 * b1 * c1) = l0 * (a1 * b1 * c1) * r1 := by grind
  have t2 : r0 * l1 * (a1 * b1 * c1) = r0 * (a1 * b1 * c1) * l1 := by grind
  rw [t1, t2, h1, h2]; grind
theorem field_j0 {a0 a1 b0 b1 c0 c1 s0 s1 e p0 p1 g : Int} (ha : VR a0 a1) (hb : VR b0 b1) (hc : VR c0 c1) (hs : addS a0 a1 b0 b1 = (s0, s1, e)) (hp : mulS a0 a1 b0 b1 = (p0, p1, g)) :
    Ev (fun k => payrolllaw1_RatioField.j0 k e g false a0 a1 b0 b1 c0 c1 s0 s1 p0 p1) true := by
  have fin := field_j1 ha hb hs hp
  obtain ⟨i0, i1⟩ := mulS_I64 hp
  obtain ⟨u0, u1, u, hu⟩ : ∃ x y e, addS b0 b1 c0 c1 = (x, y, e) := ⟨_, _, _, rfl⟩
  obtain ⟨j0, j1⟩ := addS_I64 hu
  obtain ⟨l0, l1, l, hl⟩ : ∃ x y e, mulS a0 a1 u0 u1 = (x, y, e) := ⟨_, _, _, rfl⟩
  obtain ⟨q0, q1, q, hq⟩ : ∃ x y e, mulS a0 a1 c0 c1 = (x, y, e) := ⟨_, _, _, rfl⟩
  obtain ⟨k0, k1⟩ := mulS_I64 hq
  obtain ⟨r0, r1, r, hr⟩ : ∃ x y e, addS p0 p1 q0 q1 = (x, y, e) := ⟨_, _, _, rfl⟩
  have v1 := ratio_Add_ev b0 b1 c0 c1 hb.i64n hb.i64d hc.i64n hc.i64d
  have v2 := ratio_Mul_ev a0 a1 u0 u1 ha.i64n ha.i64d j0 j1
  have v3 := ratio_Mul_ev a0 a1 c0 c1 ha.i64n ha.i64d hc.i64n hc.i64d
  have v4 := ratio_Add_ev p0 p1 q0 q1 i0 i1 k0 k1
  rw [hu] at v1
  rw [hl] at v2
  rw [hq] at v3
  rw [hr] at v4
  refine Ev.step (fun k => by simp only [payrolllaw1_RatioField.j0]; rfl) (Ev.ifn (by decide) (Ev.bind v1 (Ev.bind v2 (Ev.bind v3 (Ev.bind v4 ?_)))))
  by_cases h1 : g = 0
  · by_cases h2 : u = 0
    · by_cases h3 : l = 0
      · by_cases h4 : q = 0
        · by_cases h5 : r = 0
          · refine Ev.ifp h1 (Ev.ifp h2 (Ev.ifp h3 (Ev.ifp h4 (Ev.ifp h5 ?_))))
            subst h1; subst h2; subst h3; subst h4; subst h5
            obtain ⟨rfl, rfl⟩ := distrib ha hb hc hu hl hp hq hr
            exact Ev.congr (fun k => by simp) fin
          · exact Ev.ifp h1 (Ev.ifp h2 (Ev.ifp h3 (Ev.ifp h4 (Ev.ifn h5 fin))))
        · exact Ev.ifp h1 (Ev.ifp h2 (Ev.ifp h3 (Ev.ifn h4 fin)))
      · exact Ev.ifp h1 (Ev.ifp h2 (Ev.ifn h3 fin))
    · exact Ev.ifp h1 (Ev.ifn h2 fin)
  · exact Ev.ifn h1 fin
theorem RatioField : payrolllaw1_RatioField.Pure := by
  intro l0 hm hy hw
  have main : Ev (fun k => payrolllaw1_RatioField.f k l0) true := by
    unfold payrolllaw1_RatioField.f
    obtain ⟨a0, a1, t1, h1, ha, he1⟩ := tape_Ratio_ok l0 0 (At.start hy)
    obtain ⟨b0, b1, t2, h2, hb, he2⟩ := tape_Ratio_ok l0 t1 h1
    obtain ⟨c0, c1, t3, h3, hc, he3⟩ := tape_Ratio_ok l0 t2 h2
    obtain ⟨s0, s1, e, hs⟩ : ∃ x y e, addS a0 a1 b0 b1 = (x, y, e) := ⟨_, _, _, rfl⟩
    obtain ⟨p0, p1, g, hp⟩ : ∃ x y e, mulS a0 a1 b0 b1 = (x, y, e) := ⟨_, _, _, rfl⟩
    have v1 := ratio_Add_ev a0 a1 b0 b1 ha.i64n ha.i64d hb.i64n hb.i64d
    have v2 := ratio_Add_ev b0 b1 a0 a1 hb.i64n hb.i64d ha.i64n ha.i64d
    have v3 := ratio_Mul_ev a0 a1 b0 b1 ha.i64n ha.i64d hb.i64n hb.i64d
    have v4 := ratio_Mul_ev b0 b1 a0 a1 hb.i64n hb.i64d ha.i64n ha.i64d
    rw [← addS_comm ha hb, hs] at v2
    rw [← mulS_comm ha hb, hp] at v4
    rw [hs] at v1
    rw [hp] at v3
    refine Ev.bindc (a := (l0, 0)) rfl (Ev.bind he1 (Ev.bind he2 (Ev.bind he3 (Ev.bind v1 (Ev.bind v2 (Ev.bind v3 (Ev.bind v4 ?_)))))))
    refine Ev.ifn (by simp) (Ev.ifp rfl (Ev.ifn (by simp) ?_))
    exact Ev.congr (fun k => by simp) (field_j0 ha hb hc hs hp)
  exact main.rounds
end Go.Proofs.YtighihhaljofdaaDoor.P
