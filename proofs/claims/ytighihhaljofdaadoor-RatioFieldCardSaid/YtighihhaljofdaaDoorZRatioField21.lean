/- Texts for the law RatioField (kept out of a larger one). -/
import Derived.Test.YtighihhaljofdaaDoorZRatioField9
import Derived.Test.YtighihhaljofdaaDoorZRatioField14
import Derived.Test.YtighihhaljofdaaDoorZRatioField16
import Derived.WalkKit
namespace Go.Proofs.YtighihhaljofdaaDoor.P
open Go.RowKit Go.Proofs.YtighihhaljofdaaDoorW.PrintWords
def I64 (n : Int) : Prop := -9223372036854775808 ≤ n ∧ n ≤ 9223372036854775807
theorem I64.wrap (n : Int) : I64 (wrap64 n) := by unfold wrap64 I64; omega
theorem wrap64_in {n : Int} (h : I64 n) : wrap64 n = n := by unfold wrap64; unfold I64 at h; omega
theorem u64_in {n : Int} (h0 : 0 ≤ n) (h1 : n < 18446744073709551616) : IntKind.u64.wrap n = n := by rw [IntKind.wrap_u64]; omega
theorem Ev.const {α : Type} {o : Option α} {r : α} (h : o = some r) : Ev (fun _ => o) r := ⟨0, fun _ _ => h⟩
theorem Ev.bindc {α β : Type} {o : Option α} {f : Nat → α → Option β} {a : α} {r : β} (h : o = some a) (k : Ev (fun n => f n a) r) : Ev (fun n => o.bind (f n)) r := Ev.bind (g := fun _ => o) (Ev.const h) k
theorem Ev.ifp {α : Type} {c : Prop} [Decidable c] {g f : Nat → Option α} {r : α} (h : c) (k : Ev g r) : Ev (fun n => if c then g n else f n) r := Ev.congr (fun _ => if_pos h) k
theorem Ev.ifn {α : Type} {c : Prop} [Decidable c] {g f : Nat → Option α} {r : α} (h : ¬ c) (k : Ev f r) : Ev (fun n => if c then g n else f n) r := Ev.congr (fun _ => if_neg h) k
theorem Ev.cast {α : Type} {g : Nat → Option α} {r q : α} (h : Ev g r) (e : r = q) : Ev g q := e ▸ h
theorem ratio_size_eq {n : Int} (h : I64 n) : ratio_size.f n = some (n.natAbs : Int) := by
  unfold ratio_size.f I64 at *
  split
  · congr 1
    rw [IntKind.wrap_u64, IntKind.wrap_u64]
    omega
  · congr 1
    rw [IntKind.wrap_u64]
    omega
theorem ref1_size_eq {n : Int} (h : I64 n) : payrollref1_size.f n = some (n.natAbs : Int) := by
  unfold payrollref1_size.f I64 at *
  split
  · congr 1
    have h1 : wrap64 (n + 1) = n + 1 := wrap64_in (by unfold I64; omega)
    have h2 : wrap64 (-(n + 1)) = -(n + 1) := wrap64_in (by unfold I64; omega)
    rw [h1, h2, IntKind.wrap_u64, IntKind.wrap_u64]
    omega
  · congr 1
    rw [IntKind.wrap_u64]
    omega
theorem ratio_gcd_ev : ∀ (a b : Nat), Ev (fun k => ratio_gcd.f k (a : Int) (b : Int)) ((Nat.gcd a b : Nat) : Int) := by
  intro a
  induction a using Nat.strongRecOn with
  | _ a ih =>
    intro b
    unfold ratio_gcd.f
    refine Ev.step (f := fun k => if (a : Int) = 0 then some (b : Int) else ratio_gcd.l0 k (Int.tmod b a) a) (fun k => by simp only [ratio_gcd.l0]) ?_
    by_cases h : a = 0
    · subst h
      exact Ev.ifp rfl (by simpa using Ev.now (b : Int))
    · refine Ev.ifn (by omega) ?_
      have e : Int.tmod (b : Int) (a : Int) = ((b % a : Nat) : Int) := rfl
      rw [e, Nat.gcd_rec]
      exact ih (b % a) (Nat.mod_lt _ (by omega)) a
theorem ref1_common_ev : ∀ (b a : Nat), Ev (fun k => payrollref1_common.f k (a : Int) (b : Int)) ((Nat.gcd a b : Nat) : Int) := by
  intro b
  induction b using Nat.strongRecOn with
  | _ b ih =>
    intro a
    unfold payrollref1_common.f
    by_cases h : b = 0
    · subst h
      refine Ev.step (f := fun _ => some (a : Int)) (fun k => by simp [payrollref1_common.l0]) ?_
      simpa using Ev.now (a : Int)
    · refine Ev.step (f := fun k => payrollref1_common.l0 k (b : Int) (Int.tmod a b)) (fun k => by simp [payrollref1_common.l0, h]) ?_
      have e : Int.tmod (a : Int) (b : Int) = ((a % b : Nat) : Int) := rfl
      rw [e, Nat.gcd_comm a b, Nat.gcd_rec, Nat.gcd_comm]
      exact ih (a % b) (Nat.mod_lt _ (by omega)) b
def VR (n d : Int) : Prop := 1 ≤ d ∧ d ≤ 1000000 ∧ -1000000000000 ≤ n ∧ n ≤ 1000000000000 ∧ Nat.gcd n.natAbs d.natAbs = 1
instance (n d : Int) : Decidable (VR n d) := by unfold VR; exact inferInstance
theorem VR.i64n {n d : Int} (h : VR n d) : I64 n := by unfold VR at h; unfold I64; omega
theorem VR.i64d {n d : Int} (h : VR n d) : I64 d := by unfold VR at h; unfold I64; omega
theorem ratio_Valid_ev (n d : Int) (hn : I64 n) (hd : I64 d) : Ev (fun k => ratio_Valid.f k n d) (decide (VR n d)) := by
  unfold ratio_Valid.f
  by_cases h1 : d ≥ 1
  · refine Ev.ifp h1 ?_
    by_cases h2 : d ≤ 1000000
    · refine Ev.ifp h2 ?_
      by_cases h3 : n ≥ -1000000000000
      · refine Ev.ifp h3 ?_
        by_cases h4 : n ≤ 1000000000000
        · refine Ev.ifp h4 ?_
          refine Ev.bindc (ratio_size_eq hn) (Ev.bindc (ratio_size_eq hd) (Ev.bind (ratio_gcd_ev _ _) ?_))
          refine Ev.cast (Ev.now _) ?_
          by_cases h5 : Nat.gcd n.natAbs d.natAbs = 1
          · rw [h5, decide_eq_true (show VR n d from ⟨h1, h2, h3, h4, h5⟩)]; rfl
          · rw [decide_eq_false (fun h : VR n d => h5 h.2.2.2.2)]
            exact beq_eq_false_iff_ne.mpr (by omega)
        · exact Ev.ifn h4 (Ev.cast (Ev.now false) (decide_eq_false (fun h : VR n d => h4 h.2.2.2.1)).symm)
      · exact Ev.ifn h3 (Ev.cast (Ev.now false) (decide_eq_false (fun h : VR n d => h3 h.2.2.1)).symm)
    · exact Ev.ifn h2 (Ev.cast (Ev.now false) (decide_eq_false (fun h : VR n d => h2 h.2.1)).symm)
  · exact Ev.ifn h1 (Ev.cast (Ev.now false) (decide_eq_false (fun h : VR n d => h1 h.1)).symm)
def newS (n d : Int) : Int × Int × Int :=
  if d = 0 then (0, 0, 5)
  else if ((n.natAbs / Nat.gcd n.natAbs d.natAbs : Nat) : Int) > 1000000000000 ∨ ((d.natAbs / Nat.gcd n.natAbs d.natAbs : Nat) : Int) > 1000000 then (0, 0, 4)
  else (if (decide (n < 0) != decide (d < 0)) = true then -((n.natAbs / Nat.gcd n.natAbs d.natAbs : Nat) : Int) else ((n.natAbs / Nat.gcd n.natAbs d.natAbs : Nat) : Int), ((d.natAbs / Nat.gcd n.natAbs d.natAbs : Nat) : Int), 0)
theorem div_bounds {a g : Nat} (h : a ≤ 9223372036854775808) : a / g ≤ 9223372036854775808 := Nat.le_trans (Nat.div_le_self _ _) h
theorem new_tail (n d : Int) (N D : Nat) (hN : N ≤ 9223372036854775808) (hD : D ≤ 9223372036854775808) (f : Nat → Int → Int → Int → Int → Bool → Option (Int × Int × Int))
    (hf : ∀ k x0 x1 x6 x7 x31, f (k + 1) x0 x1 x6 x7 x31 = if x31 = true then (some (0, 0, 4)) else (if ((decide (x0 < 0)) != (decide (x1 < 0))) = true then (some (wrap64 (-(wrap64 (x6))), wrap64 (x7), 0)) else (some (wrap64 (x6), wrap64 (x7), 0)))) :
    Ev (fun k => if (N : Int) > 1000000000000 then f k n d N D true else f k n d N D (decide ((D : Int) > 1000000)))
      (if (N : Int) > 1000000000000 ∨ (D : Int) > 1000000 then (0, 0, 4) else (if (decide (n < 0) != decide (d < 0)) = true then -(N : Int) else (N : Int), (D : Int), 0)) := by
  by_cases h1 : (N : Int) > 1000000000000
  · refine Ev.ifp h1 ?_
    rw [if_pos (Or.inl h1)]
    exact Ev.step (f := fun _ => some (0, 0, 4)) (fun k => by rw [hf]; rfl) (Ev.now _)
  · refine Ev.ifn h1 ?_
    by_cases h2 : (D : Int) > 1000000
    · rw [if_pos (Or.inr h2), decide_eq_true h2]
      exact Ev.step (f := fun _ => some (0, 0, 4)) (fun k => by rw [hf]; rfl) (Ev.now _)
    · rw [if_neg (by omega), decide_eq_false h2]
      have e1 : wrap64 (N : Int) = N := wrap64_in (by unfold I64; omega)
      have e2 : wrap64 (D : Int) = D := wrap64_in (by unfold I64; omega)
      have e3 : wrap64 (-(N : Int)) = -N := wrap64_in (by unfold I64; omega)
      refine Ev.step (f := fun _ => some (if (decide (n < 0) != decide (d < 0)) = true then -(N : Int) else (N : Int), (D : Int), 0)) (fun k => ?_) (Ev.now _)
      rw [hf, if_neg (by decide), e1, e2, e3]
      split <;> rfl
theorem ratio_New_ev (n d : Int) (hn : I64 n) (hd : I64 d) : Ev (fun k => ratio_New.f k n d) (newS n d) := by
  unfold ratio_New.f newS
  by_cases h0 : d = 0
  · rw [if_pos h0]
    exact Ev.ifp h0 (Ev.now _)
  · rw [if_neg h0]
    refine Ev.ifn h0 (Ev.bindc (ratio_size_eq hn) (Ev.bindc (ratio_size_eq hd) (Ev.bind (ratio_gcd_ev _ _) ?_)))
    have hn' : n.natAbs ≤ 9223372036854775808 := by unfold I64 at hn; omega
    have hd' : d.natAbs ≤ 9223372036854775808 := by unfold I64 at hd; omega
    have hg : Nat.gcd n.natAbs d.natAbs ≠ 0 := fun h => h0 (by have := Nat.eq_zero_of_gcd_eq_zero_right h; omega)
    have hN := div_bounds (g := Nat.gcd n.natAbs d.natAbs) hn'
    have hD := div_bounds (g := Nat.gcd n.natAbs d.natAbs) hd'
    generalize Nat.gcd n.natAbs d.natAbs = g at *
    refine Ev.ifn (by omega) ?_
    have e1 : IntKind.u64.wrap (Int.tdiv (n.natAbs : Int) (g : Int)) = ((n.natAbs / g : Nat) : Int) := by
      have : Int.tdiv (n.natAbs : Int) (g : Int) = ((n.natAbs / g : Nat) : Int) := rfl
      rw [this]; exact u64_in (Int.natCast_nonneg _) (by omega)
    have e2 : IntKind.u64.wrap (Int.tdiv (d.natAbs : Int) (g : Int)) = ((d.natAbs / g : Nat) : Int) := by
      have : Int.tdiv (d.natAbs : Int) (g : Int) = ((d.natAbs / g : Nat) : Int) := rfl
      rw [this]; exact u64_in (Int.natCast_nonneg _) (by omega)
    rw [e1, e2]
    exact new_tail n d _ _ hN hD ratio_New.j0 (fun _ _ _ _ _ _ => by simp only [ratio_New.j0])
theorem ref1_New_ev (n d : Int) (hn : I64 n) (hd : I64 d) : Ev (fun k => payrollref1_New.f k n d) (newS n d) := by
  unfold payrollref1_New.f newS
  by_cases h0 : d = 0
  · rw [if_pos h0]
    exact Ev.ifp h0 (Ev.now _)
  · rw [if_neg h0]
    refine Ev.ifn h0 (Ev.bindc (ref1_size_eq hn) (Ev.bindc (ref1_size_eq hd) (Ev.bind (ref1_common_ev _ _) ?_)))
    have hn' : n.natAbs ≤ 9223372036854775808 := by unfold I64 at hn; omega
    have hd' : d.natAbs ≤ 9223372036854775808 := by unfold I64 at hd; omega
    have hg : Nat.gcd n.natAbs d.natAbs ≠ 0 := fun h => h0 (by have := Nat.eq_zero_of_gcd_eq_zero_right h; omega)
    have hN := div_bounds (g := Nat.gcd n.natAbs d.natAbs) hn'
    have hD := div_bounds (g := Nat.gcd n.natAbs d.natAbs) hd'
    generalize Nat.gcd n.natAbs d.natAbs = g at *
    refine Ev.ifn (by omega) ?_
    have e1 : IntKind.u64.wrap (Int.tdiv (n.natAbs : Int) (g : Int)) = ((n.natAbs / g : Nat) : Int) := by
      have : Int.tdiv (n.natAbs : Int) (g : Int) = ((n.natAbs / g : Nat) : Int) := rfl
      rw [this]; exact u64_in (Int.natCast_nonneg _) (by omega)
    have e2 : IntKind.u64.wrap (Int.tdiv (d.natAbs : Int) (g : Int)) = ((d.natAbs / g : Nat) : Int) := by
      have : Int.tdiv (d.natAbs : Int) (g : Int) = ((d.natAbs / g : Nat) : Int) := rfl
      rw [this]; exact u64_in (Int.natCast_nonneg _) (by omega)
    rw [e1, e2]
    exact new_tail n d _ _ hN hD payrollref1_New.j0 (fun _ _ _ _ _ _ => by simp only [payrollref1_New.j0])
theorem tmod_cases (v n : Int) (hn : 0 < n) : (Int.tmod v n < 0 ∧ Int.tmod v n + n = v % n) ∨ (0 ≤ Int.tmod v n ∧ Int.tmod v n = v % n) := by
  rcases Int.le_total 0 v with h | h
  · right
    rw [Int.tmod_eq_emod_of_nonneg h]
    exact ⟨Int.emod_nonneg _ (by omega), rfl⟩
  · obtain ⟨m, rfl⟩ : ∃ m : Int, v = -m := ⟨-v, by omega⟩
    have hm : 0 ≤ m := by omega
    rw [Int.neg_tmod, Int.tmod_eq_emod_of_nonneg hm]
    have h0 := Int.emod_nonneg m (by omega : n ≠ 0)
    have h1 := Int.emod_lt_of_pos m hn
    have hq := Int.emod_add_mul_ediv m n
    by_cases hr : m % n = 0
    · right
      rw [hr]
      refine ⟨by omega, ?_⟩
      symm
      rw [Int.neg_emod_eq_sub_emod, ← hq, hr]
      simp
    · left
      refine ⟨by omega, ?_⟩
      have e : -m = (n - m % n) + n * (-(m / n) - 1) := by
        have : n * (-(m / n) - 1) = -(n * (m / n)) - n := by rw [Int.mul_sub, Int.mul_neg, Int.mul_one]
        omega
      rw [e, Int.add_mul_emod_self_left, Int.emod_eq_of_lt (a := n - m % n) (b := n) (by omega) (by omega)]
      omega
theorem gen_Mod_eq {v n : Int} (hn : 0 < n) (hn2 : n ≤ 9223372036854775807) : payrollgen_Mod.f v n = some (v % n) := by
  unfold payrollgen_Mod.f
  rw [if_neg (by omega)]
  have h1 := Int.emod_nonneg v (by omega : n ≠ 0)
  have h2 := Int.emod_lt_of_pos v hn
  rcases tmod_cases v n hn with ⟨h, e⟩ | ⟨h, e⟩
  · rw [if_pos h, e, wrap64_in (by unfold I64; omega)]
  · rw [if_neg (by omega), e]
end Go.Proofs.YtighihhaljofdaaDoor.P
