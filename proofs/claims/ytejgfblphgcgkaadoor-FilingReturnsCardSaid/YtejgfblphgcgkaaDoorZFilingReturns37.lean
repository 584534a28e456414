/- Texts for the law FilingReturns (kept out of a larger one). -/
import Derived.Test.YtejgfblphgcgkaaDoorZFilingReturns12
import Derived.Test.YtejgfblphgcgkaaDoorZFilingReturns20
import Derived.Laws.Strings
import Derived.Lib.AtoiTie
import Derived.Lib.ItoaMem
import Derived.Lib.ItoaLen
import Derived.Lib.IndexLaws
namespace Go.Proofs.YtejgfblphgcgkaaDoor.P
set_option linter.unusedVariables false
open Go.RowKit Go.Proofs.YtejgfblphgcgkaaDoorW.PrintWords
def isDig (b : UInt8) : Prop := 48 ≤ b.toNat ∧ b.toNat ≤ 57
theorem decFrom_append : ∀ (l r : List UInt8) (a : Nat), Lib.decFrom a (l ++ r) = (Lib.decFrom a l).bind fun m => Lib.decFrom m r
  | [], r, a => rfl
  | c :: l, r, a => by
    simp only [List.cons_append, Lib.decFrom]
    cases h : Lib.digitVal c with
    | none => rfl
    | some d => exact decFrom_append l r _
theorem ofNat_dig {d : Nat} (h : d < 10) : (UInt8.ofNat (48 + d)).toNat = 48 + d := by
  rw [UInt8.toNat_ofNat']; omega
theorem dec_spells (u : Nat) : Lib.decFrom 0 (Lib.decDigits u) = some u ∧ ∀ b ∈ Lib.decDigits u, isDig b := by
  induction u using Nat.strongRecOn with
  | _ u ih =>
    by_cases h : u < 10
    · have e := ofNat_dig h
      rw [Lib.decDigits, dif_pos h]
      refine ⟨?_, fun b hb => ?_⟩
      · simp only [Lib.decFrom, Lib.digitVal, e]
        rw [if_pos (by omega)]
        show some _ = some _
        congr 1; omega
      · rw [List.mem_singleton.1 hb]; unfold isDig; rw [e]; omega
    · obtain ⟨i1, i2⟩ := ih (u / 10) (by omega)
      have e := ofNat_dig (Nat.mod_lt u (by omega : 0 < 10))
      rw [Lib.decDigits, dif_neg h]
      refine ⟨?_, fun b hb => ?_⟩
      · rw [decFrom_append, i1]
        show Lib.decFrom (u / 10) [UInt8.ofNat (48 + u % 10)] = some u
        simp only [Lib.decFrom, Lib.digitVal, e]
        rw [if_pos (by omega)]
        show some _ = some _
        congr 1; omega
      · rcases List.mem_append.1 hb with hb | hb
        · exact i2 b hb
        · rw [List.mem_singleton.1 hb]; unfold isDig; rw [e]; omega
theorem nDigits_le : ∀ (k u : Nat), u < 10 ^ (k + 1) → Lib.nDigits u ≤ k + 1
  | 0, u, h => by rw [Lib.nDigits_small (by simpa using h)]; omega
  | k + 1, u, h => by
    by_cases h10 : u < 10
    · rw [Lib.nDigits_small h10]; omega
    · rw [Lib.nDigits_big h10]
      have := nDigits_le k (u / 10) (by rw [Nat.pow_succ] at h; omega)
      omega
theorem dec_len (u : Nat) : 1 ≤ (Lib.decDigits u).length := by rw [Lib.decDigits_length]; exact Lib.nDigits_pos u
theorem dec_len_le {u : Nat} (h : u ≤ 1000000000000) : (Lib.decDigits u).length ≤ 13 := by
  rw [Lib.decDigits_length]; exact nDigits_le 12 u (by omega)
theorem dec_nat {u : Nat} : Lib.decNat (Lib.decDigits u) = some u := by
  unfold Lib.decNat
  rw [if_neg, (dec_spells u).1]
  have := dec_len u
  intro h
  rw [List.isEmpty_iff.1 h] at this
  exact absurd this (by decide)
theorem dec_head (u : Nat) : ∃ c r, Lib.decDigits u = c :: r ∧ isDig c := by
  have h := dec_len u
  cases e : Lib.decDigits u with
  | nil => rw [e] at h; exact absurd h (by decide)
  | cons c r => exact ⟨c, r, rfl, (dec_spells u).2 c (by rw [e]; exact List.mem_cons_self)⟩
theorem atoi_itoa {n : Int} (h0 : -1000000000000 ≤ n) (h1 : n ≤ 1000000000000) : Lib.atoiAll (Lib.itoa n) = .ok n := by
  have hl := dec_len_le (u := n.natAbs) (by omega)
  by_cases hn : n < 0
  · unfold Lib.itoa
    rw [if_pos hn, Lib.atoiAll_minus, Lib.signed_short (by omega), dec_nat]
    show Lib.NumEnd.ok (-(n.natAbs : Int)) = .ok n
    congr 1; omega
  · unfold Lib.itoa
    have e : n.toNat = n.natAbs := by omega
    rw [if_neg hn, e]
    obtain ⟨c, r, hc, hd⟩ := dec_head n.natAbs
    unfold isDig at hd
    have := dec_nat (u := n.natAbs)
    rw [hc, Lib.atoiAll_plain c r (by omega) (by omega), Lib.signless_short (by rw [← hc]; omega), ← hc, this]
    show Lib.NumEnd.ok (n.natAbs : Int) = .ok n
    congr 1; omega
theorem itoa_mem {n : Int} {b : UInt8} (h : b ∈ Lib.itoa n) : b = 45 ∨ isDig b := by
  unfold Lib.itoa at h
  split at h
  · rcases List.mem_cons.1 h with h | h
    · exact Or.inl h
    · exact Or.inr ((dec_spells _).2 b h)
  · exact Or.inr ((dec_spells _).2 b h)
theorem numRead_itoa {n : Int} (h0 : -1000000000000 ≤ n) (h1 : n ≤ 1000000000000) : numRead (itoaB n) = (n, true) := by
  unfold numRead
  have e : (itoaB n).data.toList = Lib.itoa n := by unfold itoaB; simp
  rw [e, atoi_itoa h0 h1]
  simp
theorem numRead_true {s : ByteArray} {v : Int} (h : numRead s = (v, true)) : itoaB v = s := by
  unfold numRead at h
  split at h
  · injection h with h1 h2
    subst h1
    exact of_decide_eq_true h2
  · injection h with h1 h2; cases h2
  · injection h with h1 h2; cases h2
end Go.Proofs.YtejgfblphgcgkaaDoor.P
