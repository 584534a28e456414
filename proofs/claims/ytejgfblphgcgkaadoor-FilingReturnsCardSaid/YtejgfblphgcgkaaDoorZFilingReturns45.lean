/- Texts for the law FilingReturns (kept out of a larger one). -/
import Derived.Test.YtejgfblphgcgkaaDoorZFilingReturns12
import Derived.Test.YtejgfblphgcgkaaDoorZFilingReturns33
import Derived.Test.YtejgfblphgcgkaaDoorZFilingReturns34
import Derived.Test.YtejgfblphgcgkaaDoorZFilingReturns32
import Derived.Test.YtejgfblphgcgkaaDoorZFilingReturns36
import Derived.Test.YtejgfblphgcgkaaDoorZFilingReturns35
import Derived.Test.YtejgfblphgcgkaaDoorZFilingReturns42
import Derived.Test.YtejgfblphgcgkaaDoorZFilingReturns44
import Derived.WalkKit
namespace Go.Proofs.YtejgfblphgcgkaaDoor.P
set_option linter.unusedVariables false
set_option linter.unusedSimpArgs false
open Go.RowKit Go.Proofs.YtejgfblphgcgkaaDoorW.PrintWords
def dmgL : List ByteArray := [(⟨#[32]⟩ : ByteArray), (⟨#[10]⟩ : ByteArray), (⟨#[48]⟩ : ByteArray), (⟨#[49]⟩ : ByteArray), (⟨#[45]⟩ : ByteArray), (⟨#[101, 110, 100, 10]⟩ : ByteArray)]
theorem damage_ev (L : List Int) (a : Int) (ha : 0 ≤ a) (hb : a ≤ 100000) (s : ByteArray) (hs : s.size ≤ 65536) : ∃ t b, Ev (fun k => paygen_Deck_Damage.f k L a s) (t, b) := by
  have fin : ∀ (g : Nat → Option (ByteArray × Int)) (r : ByteArray × Int), Ev g r → ∃ t b, Ev g (t, b) := fun g r h => ⟨r.1, r.2, h⟩
  unfold paygen_Deck_Damage.f
  by_cases h0 : s.toList = ([] : List UInt8)
  · exact ⟨s, a, Ev.ifp h0 (Ev.now _)⟩
  · have hpos : 1 ≤ s.size := by
      rw [Lib.toList_data] at h0
      have : s.data.toList.length = s.size := rfl
      cases e : s.data.toList with
      | nil => exact absurd e h0
      | cons x r => rw [e] at this; simp at this; omega
    obtain ⟨n, h1, h2, h3⟩ := deck_next L a (s.size : Int) ⟨ha, by omega⟩ (by omega) (by omega)
    obtain ⟨c, i1, i2, i3⟩ := deck_next L (a + 1) 5 ⟨by omega, by omega⟩ (by omega) (by omega)
    have en : wrap64 (n + 1) = n + 1 := by unfold wrap64; omega
    have z1 : (s.extract 0 n.toNat).size ≤ 65536 := by rw [ByteArray.size_extract]; omega
    have z2 : (s.extract (n + 1).toNat s.size).size ≤ 65536 := by rw [ByteArray.size_extract]; omega
    have z3 : (s.extract n.toNat s.size).size ≤ 65536 := by rw [ByteArray.size_extract]; omega
    by_cases c0 : c = 0
    · refine fin _ (s.extract 0 n.toNat, a + 1 + 1) (Ev.ifn h0 (Ev.bind h1 (Ev.bind i1 (Ev.ifp c0 ?_))))
      exact Ev.ifp h2 (Ev.ifp (by show n ≤ _; omega) (Ev.now _))
    · by_cases c1 : c = 1
      · refine fin _ (s.extract 0 n.toNat ++ s.extract (n + 1).toNat s.size, a + 1 + 1) (Ev.ifn h0 (Ev.bind h1 (Ev.bind i1 (Ev.ifn c0 (Ev.ifp c1 ?_)))))
        simp only [en]
        exact Ev.ifp h2 (Ev.ifp (by omega) (Ev.ifp (by omega) (Ev.ifp (by omega) (Ev.ifp (by omega) (Ev.now _)))))
      · by_cases c2 : c = 2
        · obtain ⟨m, j1, j2, j3⟩ := deck_next L (a + 1 + 1) 6 ⟨by omega, by omega⟩ (by omega) (by omega)
          refine fin _ (s.extract 0 n.toNat ++ rdOf ByteArray.empty dmgL m ++ s.extract n.toNat s.size, a + 1 + 1 + 1) (Ev.ifn h0 (Ev.bind h1 (Ev.bind i1 (Ev.ifn c0 (Ev.ifn c1 (Ev.ifp c2 ?_))))))
          refine Ev.ifp h2 ?_
          refine Ev.ifp (by show n ≤ _; omega) (Ev.bindc rfl (Ev.bind j1 ?_))
          have hz : (rdOf ByteArray.empty dmgL m).size ≤ 4 := by
            have hm : m = 0 ∨ m = 1 ∨ m = 2 ∨ m = 3 ∨ m = 4 ∨ m = 5 := by omega
            rcases hm with e | e | e | e | e | e <;> (subst e; decide)
          refine Ev.ifp j2 ?_
          refine Ev.ifp j3 ?_
          refine Ev.ifp (show (s.extract 0 n.toNat).size + (rdOf ByteArray.empty dmgL m).size ≤ 9223372036854775807 by omega) ?_
          refine Ev.ifp (show (s.extract 0 n.toNat ++ rdOf ByteArray.empty dmgL m).size + (s.extract n.toNat s.size).size ≤ 9223372036854775807 by rw [ByteArray.size_append]; omega) (Ev.now _)
        · by_cases c3 : c = 3
          · obtain ⟨m, j1, j2, j3⟩ := deck_next L (a + 1 + 1) 256 ⟨by omega, by omega⟩ (by omega) (by omega)
            refine fin _ (s.extract 0 n.toNat ++ strOfNums [m % 256] ++ s.extract (n + 1).toNat s.size, a + 1 + 1 + 1) (Ev.ifn h0 (Ev.bind h1 (Ev.bind i1 (Ev.ifn c0 (Ev.ifn c1 (Ev.ifn c2 (Ev.ifp c3 ?_)))))))
            refine Ev.ifp h2 ?_
            refine Ev.ifp (by show n ≤ _; omega) (Ev.bind j1 (Ev.bindc rfl ?_))
            simp only [en]
            have hz : (strOfNums [m % 256]).size = 1 := by rw [strOfNums_size]; rfl
            refine Ev.ifp (by show (s.extract 0 n.toNat).size + (strOfNums [m % 256]).size ≤ _; omega) ?_
            refine Ev.ifp (by omega) ?_
            refine Ev.ifp (by omega) ?_
            refine Ev.ifp (by rw [ByteArray.size_append]; show (s.extract 0 n.toNat).size + (strOfNums [m % 256]).size + (s.extract (n + 1).toNat s.size).size ≤ _; omega) (Ev.now _)
          · refine fin _ (s, a + 1 + 1) ?_
            exact Ev.ifn h0 (Ev.bind h1 (Ev.bind i1 (Ev.ifn c0 (Ev.ifn c1 (Ev.ifn c2 (Ev.ifn c3 (Ev.now _)))))))
theorem FilingReturns (l0 : List Int) (h1 : l0.length ≤ maxLen) (h2 : l0.length * 8 ≤ 140737488351232) (h3 : ∀ x ∈ l0, (Lit.int .i64 x).wf = true) : ∃ k, payrolllaw43_FilingReturns.f k l0 = some true := by
  refine Ev.rounds ?_
  unfold payrolllaw43_FilingReturns.f
  obtain ⟨p, v, l, b, d1, d2, d3, d4⟩ := drawn_ev l0
  obtain ⟨v1, v2, v3, v4, v5, v6⟩ := valid_parts d2
  have he := encode_ev (p := p) (v := v) (l := l) (by omega)
  rw [if_pos d2] at he
  have hd := decode_ev (encB p v l)
  rw [decP_enc d2] at hd
  refine Ev.bindc (a := (l0, 0)) rfl (Ev.bind d1 (Ev.bind he (Ev.bind hd ?_)))
  refine Ev.ifp rfl (Ev.ifp rfl ?_)
  have hs : Ev (fun k => payrollref38_Same.f k p v l p v l) true := by
    unfold payrollref38_Same.f
    exact Ev.ifp rfl (Ev.ifp rfl (Ev.bind (same_ev l (by omega)) (Ev.now _)))
  refine Ev.bind hs ?_
  refine Ev.step (fun k => by simp only [payrolllaw43_FilingReturns.j0]; rfl) ?_
  refine Ev.ifn (by decide) ?_
  obtain ⟨t, c, t1⟩ := damage_ev l0 b d3 (by omega) (encB p v l) (by rw [encB_size]; have := enc_len d2; omega)
  refine Ev.bind t1 ?_
  have hx := decode_ev t
  cases hq : decP t with
  | mk q1 q =>
  obtain ⟨q2, q3, q4⟩ := q
  rw [hq] at hx
  refine Ev.bind hx ?_
  by_cases e : q4 = 0
  · subst e
    obtain ⟨g1, g2⟩ := decP_from hq
    have hl := (valid_parts g1).2.2.2.2.1
    have hu := encode_ev (p := q1) (v := q2) (l := q3) (by omega)
    rw [if_pos g1, g2] at hu
    refine Ev.ifp rfl (Ev.bind hu ?_)
    exact Ev.ifp rfl (Ev.ifp rfl (Ev.bind awake_ev (Ev.now _)))
  · exact Ev.ifn e (Ev.bind awake_ev (Ev.now _))
end Go.Proofs.YtejgfblphgcgkaaDoor.P
