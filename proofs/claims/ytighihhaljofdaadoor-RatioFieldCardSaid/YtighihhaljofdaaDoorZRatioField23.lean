/- Texts for the law RatioField (kept out of a larger one). -/
import Derived.Test.YtighihhaljofdaaDoorZRatioField9
import Derived.Test.YtighihhaljofdaaDoorZRatioField14
import Derived.Test.YtighihhaljofdaaDoorZRatioField16
import Derived.Test.YtighihhaljofdaaDoorZRatioField22
import Derived.Test.YtighihhaljofdaaDoorZRatioField21
namespace Go.Proofs.YtighihhaljofdaaDoor.P
set_option linter.unusedVariables false
open Go.RowKit Go.Proofs.YtighihhaljofdaaDoorW.PrintWords
theorem newS_ok {n d a b e : Int} (h : newS n d = (a, b, e)) (hn : I64 n) (hd : I64 d) : (e = 0 → VR a b) ∧ (e = 0 ∨ e = 4 ∨ e = 5) := by
  unfold newS at h
  by_cases h0 : d = 0
  · rw [if_pos h0] at h
    simp only [Prod.mk.injEq] at h
    obtain ⟨rfl, rfl, rfl⟩ := h
    exact ⟨fun h => absurd h (by decide), by omega⟩
  · rw [if_neg h0] at h
    have hg : 0 < Nat.gcd n.natAbs d.natAbs := Nat.gcd_pos_of_pos_right _ (by omega)
    have hc := Nat.coprime_div_gcd_div_gcd hg
    have hD : 0 < d.natAbs / Nat.gcd n.natAbs d.natAbs := Nat.div_pos (Nat.gcd_le_right _ (by omega)) hg
    generalize n.natAbs / Nat.gcd n.natAbs d.natAbs = N at *
    generalize d.natAbs / Nat.gcd n.natAbs d.natAbs = D at *
    by_cases h1 : (N : Int) > 1000000000000 ∨ (D : Int) > 1000000
    · rw [if_pos h1] at h
      simp only [Prod.mk.injEq] at h
      obtain ⟨rfl, rfl, rfl⟩ := h
      exact ⟨fun h => absurd h (by decide), by omega⟩
    · rw [if_neg h1] at h
      simp only [Prod.mk.injEq] at h
      obtain ⟨rfl, rfl, rfl⟩ := h
      refine ⟨fun _ => ?_, by omega⟩
      have e1 : (if (decide (n < 0) != decide (d < 0)) = true then -(N : Int) else (N : Int)).natAbs = N := by split <;> omega
      refine ⟨by omega, by omega, ?_, ?_, ?_⟩
      · split <;> omega
      · split <;> omega
      · rw [e1, Int.natAbs_natCast]; exact hc
theorem gen_j0 (l : List Int) (n d p : Int) (hn : I64 n) (hd : I64 d) (hs : n.natAbs % 1000 < 1000) :
    ∃ a b, VR a b ∧ Ev (fun k => payrollgen_Tape_Ratio.j0 k n d l p) (a, b, p) := by
  rcases hr : newS n d with ⟨a, b, e⟩
  obtain ⟨hv, he⟩ := newS_ok hr hn hd
  have main := ref1_New_ev n d hn hd
  rw [hr] at main
  by_cases h0 : e = 0
  · subst h0
    refine ⟨a, b, hv rfl, ?_⟩
    refine Ev.step (f := fun k => (payrollref1_New.f k n d).bind fun bt => if bt.2.2 = 0 then some (bt.1, bt.2.1, p) else some (Int.tmod n 1000, 1, p)) (fun k => by simp only [payrollgen_Tape_Ratio.j0]) ?_
    exact Ev.bind main (Ev.ifp rfl (Ev.now _))
  · refine ⟨Int.tmod n 1000, 1, ?_, ?_⟩
    · have h1 := tmod_cases n 1000 (by omega)
      have h2 := Int.emod_nonneg n (by omega : (1000 : Int) ≠ 0)
      have h3 := Int.emod_lt_of_pos n (by omega : (0 : Int) < 1000)
      refine ⟨by omega, by omega, by omega, by omega, ?_⟩
      show Nat.gcd _ 1 = 1
      exact Nat.gcd_one_right _
    · refine Ev.step (f := fun k => (payrollref1_New.f k n d).bind fun bt => if bt.2.2 = 0 then some (bt.1, bt.2.1, p) else some (Int.tmod n 1000, 1, p)) (fun k => by simp only [payrollgen_Tape_Ratio.j0]) ?_
      exact Ev.bind main (Ev.ifn h0 (Ev.now _))
theorem tape_Ratio_ok (l : List Int) (p : Int) (h : At l p) : ∃ a b p', At l p' ∧ VR a b ∧ Ev (fun k => payrollgen_Tape_Ratio.f k l p) (a, b, p') := by
  unfold payrollgen_Tape_Ratio.f
  obtain ⟨v1, p1, e1, h1, a1, b1, _⟩ := next_ok l p 41 h (by omega)
  obtain ⟨v2, p2, e2, h2, a2, b2, _⟩ := next_ok l p1 12 h1 (by omega)
  obtain ⟨v3, p3, e3, h3, a3, b3, _⟩ := next_ok l p2 8 h2 (by omega)
  have b1 := b1 (by omega)
  have b2 := b2 (by omega)
  have step : ∀ {g : Nat → Option (Int × Int × Int)} {r : Int × Int × Int}, Ev g r → Ev g r := fun h => h
  by_cases c5 : v3 = 5
  · obtain ⟨w1, q1, f1, i1, m1⟩ := pick_ok l p3 [1000000000000, (-1000000000000), 999999999999, 999999] h3 (by decide) (by decide)
    obtain ⟨w2, q2, f2, i2, m2⟩ := pick_ok l q1 [1, 1000000, 7, 100] i1 (by decide) (by decide)
    have j1 : I64 w1 := by simp only [List.mem_cons, List.not_mem_nil, or_false] at m1; unfold I64; omega
    have j2 : I64 w2 := by simp only [List.mem_cons, List.not_mem_nil, or_false] at m2; unfold I64; omega
    obtain ⟨a, b, hv, he⟩ := gen_j0 l w1 w2 q2 j1 j2 (Nat.mod_lt _ (by omega))
    exact ⟨a, b, q2, i2, hv, Ev.bindc e1 (Ev.bindc e2 (Ev.bindc e3 (Ev.ifp c5 (Ev.bindc f1 (Ev.bindc f2 he)))))⟩
  · by_cases c6 : v3 = 6
    · obtain ⟨w1, q1, f1, i1, m0, m1, _⟩ := next_ok l p3 200001 h3 (by omega)
      have m1 := m1 (by omega)
      obtain ⟨a, b, hv, he⟩ := gen_j0 l (wrap64 (w1 - 100000)) 100 q1 (I64.wrap _) (by unfold I64; omega) (Nat.mod_lt _ (by omega))
      exact ⟨a, b, q1, i1, hv, Ev.bindc e1 (Ev.bindc e2 (Ev.bindc e3 (Ev.ifn c5 (Ev.ifp c6 (Ev.bindc f1 he)))))⟩
    · by_cases c7 : v3 = 7
      · obtain ⟨w1, q1, f1, i1, m0, m1, _⟩ := next_ok l p3 1000 h3 (by omega)
        have m1 := m1 (by omega)
        obtain ⟨w2, q2, f2, i2, m2⟩ := pick_ok l q1 [1000000, 999983, 65536, 1000] i1 (by decide) (by decide)
        have j2 : I64 w2 := by simp only [List.mem_cons, List.not_mem_nil, or_false] at m2; unfold I64; omega
        obtain ⟨a, b, hv, he⟩ := gen_j0 l w1 w2 q2 (by unfold I64; omega) j2 (Nat.mod_lt _ (by omega))
        exact ⟨a, b, q2, i2, hv, Ev.bindc e1 (Ev.bindc e2 (Ev.bindc e3 (Ev.ifn c5 (Ev.ifn c6 (Ev.ifp c7 (Ev.bindc f1 (Ev.bindc f2 he)))))))⟩
      · obtain ⟨a, b, hv, he⟩ := gen_j0 l (wrap64 (v1 - 20)) (wrap64 (1 + v2)) p3 (I64.wrap _) (I64.wrap _) (Nat.mod_lt _ (by omega))
        exact ⟨a, b, p3, h3, hv, Ev.bindc e1 (Ev.bindc e2 (Ev.bindc e3 (Ev.ifn c5 (Ev.ifn c6 (Ev.ifn c7 he)))))⟩
end Go.Proofs.YtighihhaljofdaaDoor.P
