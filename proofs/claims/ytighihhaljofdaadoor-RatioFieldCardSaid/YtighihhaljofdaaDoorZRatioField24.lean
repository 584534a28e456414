/- Texts for the law RatioField (kept out of a larger one). -/
import Derived.Test.YtighihhaljofdaaDoorZRatioField9
import Derived.Test.YtighihhaljofdaaDoorZRatioField19
import Derived.Test.YtighihhaljofdaaDoorZRatioField14
import Derived.Test.YtighihhaljofdaaDoorZRatioField16
import Derived.Test.YtighihhaljofdaaDoorZRatioField17
import Derived.Test.YtighihhaljofdaaDoorZRatioField21
import Derived.WalkKit
namespace Go.Proofs.YtighihhaljofdaaDoor.P
open Go.RowKit Go.Proofs.YtighihhaljofdaaDoorW.PrintWords
def addS (a b c d : Int) : Int × Int × Int := if VR a b ∧ VR c d then newS (wrap64 (wrap64 (a * d) + wrap64 (c * b))) (wrap64 (b * d)) else (0, 0, 1)
def subS (a b c d : Int) : Int × Int × Int := if VR a b ∧ VR c d then newS (wrap64 (wrap64 (a * d) - wrap64 (c * b))) (wrap64 (b * d)) else (0, 0, 1)
def divS (a b c d : Int) : Int × Int × Int := if VR a b ∧ VR c d then (if c = 0 then (0, 0, 5) else newS (wrap64 (a * d)) (wrap64 (b * c))) else (0, 0, 1)
def mulN (a b c d : Int) : Nat := (a.natAbs / Nat.gcd a.natAbs d.natAbs) * (c.natAbs / Nat.gcd c.natAbs b.natAbs)
def mulD (a b c d : Int) : Nat := (b.natAbs / Nat.gcd c.natAbs b.natAbs) * (d.natAbs / Nat.gcd a.natAbs d.natAbs)
def mulS (a b c d : Int) : Int × Int × Int :=
  if VR a b ∧ VR c d then
    (if mulN a b c d = 0 then (0, 1, 0)
     else if (mulN a b c d : Int) > 1000000000000 ∨ (mulD a b c d : Int) > 1000000 then (0, 0, 4)
     else (if (decide (a < 0) != decide (c < 0)) = true then -(mulN a b c d : Int) else (mulN a b c d : Int), (mulD a b c d : Int), 0))
  else (0, 0, 1)
theorem both_ev (a b c d : Int) (ha : I64 a) (hb : I64 b) (hc : I64 c) (hd : I64 d) : Ev (fun k => ratio_both.f k a b c d) (if VR a b ∧ VR c d then 0 else 1) := by
  unfold ratio_both.f
  refine Ev.bind (ratio_Valid_ev a b ha hb) ?_
  by_cases h1 : VR a b
  · refine Ev.ifp (decide_eq_true h1) (Ev.bind (ratio_Valid_ev c d hc hd) ?_)
    by_cases h2 : VR c d
    · exact Ev.cast (Ev.ifp (decide_eq_true h2) (Ev.now _)) (if_pos ⟨h1, h2⟩).symm
    · exact Ev.cast (Ev.ifn (by simp [h2]) (Ev.now _)) (if_neg (fun h => h2 h.2)).symm
  · exact Ev.cast (Ev.ifn (by simp [h1]) (Ev.now _)) (if_neg (fun h => h1 h.1)).symm
theorem both_then {α : Type} (a b c d : Int) (ha : I64 a) (hb : I64 b) (hc : I64 c) (hd : I64 d) {g : Nat → Option α} {f : Nat → Int → Option α} {r q : α}
    (hg : VR a b → VR c d → Ev g r) (hf : Ev (fun k => f k 1) q) :
    Ev (fun k => (ratio_both.f k a b c d).bind fun t => if t = 0 then g k else f k t) (if VR a b ∧ VR c d then r else q) := by
  refine Ev.bind (both_ev a b c d ha hb hc hd) ?_
  by_cases h : VR a b ∧ VR c d
  · rw [if_pos h, if_pos h]
    exact Ev.ifp rfl (hg h.1 h.2)
  · rw [if_neg h, if_neg h]
    exact Ev.ifn (by decide) hf
theorem pair3 {r : Int × Int × Int} : Ev (fun _ => some (r.1, r.2.1, r.2.2)) r := Ev.now r
theorem ratio_Add_ev (a b c d : Int) (ha : I64 a) (hb : I64 b) (hc : I64 c) (hd : I64 d) : Ev (fun k => ratio_Add.f k a b c d) (addS a b c d) := by
  unfold ratio_Add.f addS
  exact both_then a b c d ha hb hc hd (f := fun _ t => some (0, 0, t)) (fun _ _ => Ev.bind (ratio_New_ev _ _ (I64.wrap _) (I64.wrap _)) pair3) (Ev.now _)
theorem ratio_Sub_ev (a b c d : Int) (ha : I64 a) (hb : I64 b) (hc : I64 c) (hd : I64 d) : Ev (fun k => ratio_Sub.f k a b c d) (subS a b c d) := by
  unfold ratio_Sub.f subS
  exact both_then a b c d ha hb hc hd (f := fun _ t => some (0, 0, t)) (fun _ _ => Ev.bind (ratio_New_ev _ _ (I64.wrap _) (I64.wrap _)) pair3) (Ev.now _)
theorem ratio_Div_ev (a b c d : Int) (ha : I64 a) (hb : I64 b) (hc : I64 c) (hd : I64 d) : Ev (fun k => ratio_Div.f k a b c d) (divS a b c d) := by
  unfold ratio_Div.f divS
  refine both_then a b c d ha hb hc hd (f := fun _ t => some (0, 0, t)) (fun _ _ => ?_) (Ev.now _)
  by_cases h : c = 0
  · rw [if_pos h]; exact Ev.ifp h (Ev.now _)
  · rw [if_neg h]; exact Ev.ifn h (Ev.bind (ratio_New_ev _ _ (I64.wrap _) (I64.wrap _)) pair3)
theorem mul_coprime {a b c d : Int} (h1 : VR a b) (h2 : VR c d) : Nat.gcd (mulN a b c d) (mulD a b c d) = 1 := by
  have hb : 0 < b.natAbs := by have := h1.1; omega
  have hd : 0 < d.natAbs := by have := h2.1; omega
  have c1 : Nat.Coprime a.natAbs b.natAbs := h1.2.2.2.2
  have c2 : Nat.Coprime c.natAbs d.natAbs := h2.2.2.2.2
  have g1 : 0 < Nat.gcd a.natAbs d.natAbs := Nat.gcd_pos_of_pos_right _ hd
  have g2 : 0 < Nat.gcd c.natAbs b.natAbs := Nat.gcd_pos_of_pos_right _ hb
  have k1 := Nat.coprime_div_gcd_div_gcd g1
  have k2 := Nat.coprime_div_gcd_div_gcd g2
  have da : a.natAbs / Nat.gcd a.natAbs d.natAbs ∣ a.natAbs := Nat.div_dvd_of_dvd (Nat.gcd_dvd_left _ _)
  have dd : d.natAbs / Nat.gcd a.natAbs d.natAbs ∣ d.natAbs := Nat.div_dvd_of_dvd (Nat.gcd_dvd_right _ _)
  have dc : c.natAbs / Nat.gcd c.natAbs b.natAbs ∣ c.natAbs := Nat.div_dvd_of_dvd (Nat.gcd_dvd_left _ _)
  have db : b.natAbs / Nat.gcd c.natAbs b.natAbs ∣ b.natAbs := Nat.div_dvd_of_dvd (Nat.gcd_dvd_right _ _)
  have m1 : Nat.Coprime (a.natAbs / Nat.gcd a.natAbs d.natAbs) (b.natAbs / Nat.gcd c.natAbs b.natAbs) := Nat.Coprime.coprime_dvd_left da (Nat.Coprime.symm (Nat.Coprime.coprime_dvd_left db c1.symm))
  have m2 : Nat.Coprime (c.natAbs / Nat.gcd c.natAbs b.natAbs) (d.natAbs / Nat.gcd a.natAbs d.natAbs) := Nat.Coprime.coprime_dvd_left dc (Nat.Coprime.symm (Nat.Coprime.coprime_dvd_left dd c2.symm))
  unfold mulN mulD
  exact Nat.Coprime.mul_left (Nat.Coprime.mul_right m1 k1) (Nat.Coprime.mul_right k2 m2)
theorem mulD_pos {a b c d : Int} (h1 : VR a b) (h2 : VR c d) : 0 < mulD a b c d ∧ mulD a b c d ≤ 1000000000000 := by
  have hb : 0 < b.natAbs := by have := h1.1; omega
  have hd : 0 < d.natAbs := by have := h2.1; omega
  have g1 : 0 < Nat.gcd a.natAbs d.natAbs := Nat.gcd_pos_of_pos_right _ hd
  have g2 : 0 < Nat.gcd c.natAbs b.natAbs := Nat.gcd_pos_of_pos_right _ hb
  unfold mulD
  refine ⟨Nat.mul_pos (Nat.div_pos (Nat.gcd_le_right _ hb) g2) (Nat.div_pos (Nat.gcd_le_right _ hd) g1), ?_⟩
  have e1 : b.natAbs / Nat.gcd c.natAbs b.natAbs ≤ 1000000 := Nat.le_trans (Nat.div_le_self _ _) (by have := h1.1; have := h1.2.1; omega)
  have e2 : d.natAbs / Nat.gcd a.natAbs d.natAbs ≤ 1000000 := Nat.le_trans (Nat.div_le_self _ _) (by have := h2.1; have := h2.2.1; omega)
  exact Nat.le_trans (Nat.mul_le_mul e1 e2) (by decide)
theorem newS_coprime (s : Bool) (N D : Nat) (hD : 0 < D) (hg : Nat.gcd N D = 1) :
    newS (if s = true then -(N : Int) else (N : Int)) (D : Int) = if (N : Int) > 1000000000000 ∨ (D : Int) > 1000000 then (0, 0, 4) else (if s = true then -(N : Int) else (N : Int), (D : Int), 0) := by
  unfold newS
  have e1 : (if s = true then -(N : Int) else (N : Int)).natAbs = N := by split <;> omega
  rw [if_neg (by omega), e1, Int.natAbs_natCast, hg, Nat.div_one, Nat.div_one]
  by_cases h : (N : Int) > 1000000000000 ∨ (D : Int) > 1000000
  · rw [if_pos h, if_pos h]
  · rw [if_neg h, if_neg h]
    have e2 : decide ((D : Int) < 0) = false := decide_eq_false (by omega)
    rw [e2]
    cases s with
    | true =>
      by_cases h0 : N = 0
      · subst h0; simp
      · rw [show decide ((if true = true then -(N : Int) else (N : Int)) < 0) = true from decide_eq_true (by simp; omega)]
        rfl
    | false => 
      rw [show decide ((if false = true then -(N : Int) else (N : Int)) < 0) = false from decide_eq_false (by simp)]
      rfl
theorem mul_zero_den {a b c d : Int} (h1 : VR a b) (h2 : VR c d) (h0 : mulN a b c d = 0) : mulD a b c d = 1 := by
  have := mul_coprime h1 h2
  rw [h0, Nat.gcd_zero_left] at this
  exact this
theorem mulS_new {a b c d : Int} (h1 : VR a b) (h2 : VR c d) :
    (if mulN a b c d = 0 then (0, 1, 0)
     else if (mulN a b c d : Int) > 1000000000000 ∨ (mulD a b c d : Int) > 1000000 then (0, 0, 4)
     else (if (decide (a < 0) != decide (c < 0)) = true then -(mulN a b c d : Int) else (mulN a b c d : Int), (mulD a b c d : Int), 0))
    = newS (if (decide (a < 0) != decide (c < 0)) = true then -(mulN a b c d : Int) else (mulN a b c d : Int)) (mulD a b c d : Int) := by
  rw [newS_coprime _ _ _ (mulD_pos h1 h2).1 (mul_coprime h1 h2)]
  by_cases h0 : mulN a b c d = 0
  · rw [if_pos h0, mul_zero_den h1 h2 h0, h0]
    simp
  · rw [if_neg h0]
end Go.Proofs.YtighihhaljofdaaDoor.P
