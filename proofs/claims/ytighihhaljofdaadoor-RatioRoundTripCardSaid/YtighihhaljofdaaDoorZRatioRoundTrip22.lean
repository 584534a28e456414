/- Texts for the law RatioRoundTrip (kept out of a larger one). -/
import Derived.Test.YtighihhaljofdaaDoorZRatioRoundTrip8
import Derived.Test.YtighihhaljofdaaDoorZRatioRoundTrip13
import Derived.Test.YtighihhaljofdaaDoorZRatioRoundTrip15
import Derived.Test.YtighihhaljofdaaDoorZRatioRoundTrip17
import Derived.Test.YtighihhaljofdaaDoorZRatioRoundTrip12
import Derived.Laws.Strings
import Derived.Lib.AtoiTie
import Derived.Lib.ItoaMem
import Derived.Lib.ItoaLen
import Derived.Lib.IndexLaws
namespace Go.Proofs.YtighihhaljofdaaDoor.P
set_option linter.unusedVariables false
open Go.RowKit Go.Proofs.YtighihhaljofdaaDoorW.PrintWords
abbrev bs (l : List UInt8) : ByteArray := ⟨l.toArray⟩
theorem bs_list (l : List UInt8) : (bs l).data.toList = l := by simp
theorem bs_size (l : List UInt8) : (bs l).size = l.length := by simp [ByteArray.size]
theorem bs_append (l r : List UInt8) : bs l ++ bs r = bs (l ++ r) := by
  apply ByteArray.ext
  simp [ByteArray.data_append]
theorem bs_of (x : ByteArray) : bs x.data.toList = x := by apply ByteArray.ext; simp
theorem str_eq {x y : ByteArray} : x.toList = y.toList ↔ x = y := by
  rw [ByteArray.toList_eq, ByteArray.toList_eq]
  constructor
  · intro h; apply ByteArray.ext; exact Array.toList_inj.1 h
  · intro h; rw [h]
theorem str_nil {x : ByteArray} : x.toList = ([] : List UInt8) ↔ x.data.toList = [] := by rw [ByteArray.toList_eq]
def isDig (b : UInt8) : Prop := 48 ≤ b.toNat ∧ b.toNat ≤ 57
theorem decFrom_append : ∀ (l r : List UInt8) (a : Nat), Lib.decFrom a (l ++ r) = (Lib.decFrom a l).bind fun m => Lib.decFrom m r
  | [], r, a => rfl
  | c :: l, r, a => by
    simp only [List.cons_append, Lib.decFrom]
    cases h : Lib.digitVal c with
    | none => rfl
    | some d => exact decFrom_append l r _
theorem ofNat_dig {d : Nat} (h : d < 10) : (UInt8.ofNat (48 + d)).toNat = 48 + d := by
  rw [UInt8.toNat_ofNat']; omega
theorem dec_spells (u : Nat) : Lib.decFrom 0 (Lib.decDigits u) = some u ∧ ∀ b ∈ Lib.decDigits u, isDig b := by
  induction u using Nat.strongRecOn with
  | _ u ih =>
    by_cases h : u < 10
    · have e := ofNat_dig h
      rw [Lib.decDigits, dif_pos h]
      refine ⟨?_, fun b hb => ?_⟩
      · simp only [Lib.decFrom, Lib.digitVal, e]
        rw [if_pos (by omega)]
        show some _ = some _
        congr 1; omega
      · rw [List.mem_singleton.1 hb]; unfold isDig; rw [e]; omega
    · obtain ⟨i1, i2⟩ := ih (u / 10) (by omega)
      have e := ofNat_dig (Nat.mod_lt u (by omega : 0 < 10))
      rw [Lib.decDigits, dif_neg h]
      refine ⟨?_, fun b hb => ?_⟩
      · rw [decFrom_append, i1]
        show Lib.decFrom (u / 10) [UInt8.ofNat (48 + u % 10)] = some u
        simp only [Lib.decFrom, Lib.digitVal, e]
        rw [if_pos (by omega)]
        show some _ = some _
        congr 1; omega
      · rcases List.mem_append.1 hb with hb | hb
        · exact i2 b hb
        · rw [List.mem_singleton.1 hb]; unfold isDig; rw [e]; omega
theorem nDigits_le : ∀ (k u : Nat), u < 10 ^ (k + 1) → Lib.nDigits u ≤ k + 1
  | 0, u, h => by rw [Lib.nDigits_small (by simpa using h)]; omega
  | k + 1, u, h => by
    by_cases h10 : u < 10
    · rw [Lib.nDigits_small h10]; omega
    · rw [Lib.nDigits_big h10]
      have := nDigits_le k (u / 10) (by rw [Nat.pow_succ] at h; omega)
      omega
theorem dec_len (u : Nat) : 1 ≤ (Lib.decDigits u).length := by rw [Lib.decDigits_length]; exact Lib.nDigits_pos u
theorem dec_len_le {u : Nat} (h : u ≤ 1000000000000) : (Lib.decDigits u).length ≤ 13 := by
  rw [Lib.decDigits_length]; exact nDigits_le 12 u (by omega)
theorem dec_nat {u : Nat} : Lib.decNat (Lib.decDigits u) = some u := by
  unfold Lib.decNat
  rw [if_neg, (dec_spells u).1]
  have := dec_len u
  intro h
  rw [List.isEmpty_iff.1 h] at this
  exact absurd this (by decide)
theorem dec_head (u : Nat) : ∃ c r, Lib.decDigits u = c :: r ∧ isDig c := by
  have h := dec_len u
  cases e : Lib.decDigits u with
  | nil => rw [e] at h; exact absurd h (by decide)
  | cons c r => exact ⟨c, r, rfl, (dec_spells u).2 c (by rw [e]; exact List.mem_cons_self)⟩
theorem atoi_itoa {n : Int} (h0 : -1000000000000 ≤ n) (h1 : n ≤ 1000000000000) : Lib.atoiAll (Lib.itoa n) = .ok n := by
  have hl := dec_len_le (u := n.natAbs) (by omega)
  by_cases hn : n < 0
  · unfold Lib.itoa
    rw [if_pos hn, Lib.atoiAll_minus, Lib.signed_short (by omega), dec_nat]
    show Lib.NumEnd.ok (-(n.natAbs : Int)) = .ok n
    congr 1; omega
  · unfold Lib.itoa
    have e : n.toNat = n.natAbs := by omega
    rw [if_neg hn, e]
    obtain ⟨c, r, hc, hd⟩ := dec_head n.natAbs
    unfold isDig at hd
    have := dec_nat (u := n.natAbs)
    rw [hc, Lib.atoiAll_plain c r (by omega) (by omega), Lib.signless_short (by rw [← hc]; omega), ← hc, this]
    show Lib.NumEnd.ok (n.natAbs : Int) = .ok n
    congr 1; omega
theorem itoa_mem {n : Int} {b : UInt8} (h : b ∈ Lib.itoa n) : b = 45 ∨ isDig b := by
  unfold Lib.itoa at h
  split at h
  · rcases List.mem_cons.1 h with h | h
    · exact Or.inl h
    · exact Or.inr ((dec_spells _).2 b h)
  · exact Or.inr ((dec_spells _).2 b h)
theorem itoa_ne (n : Int) : Lib.itoa n ≠ [] := by
  unfold Lib.itoa
  split
  · simp
  · intro h; have := dec_len n.toNat; rw [h] at this; exact absurd this (by decide)
theorem itoa_no_slash (n : Int) : (47 : UInt8) ∉ Lib.itoa n := by
  intro h
  rcases itoa_mem h with h | h
  · exact absurd h (by decide)
  · unfold isDig at h; exact absurd h (by decide)
noncomputable def fmtL (n d : Int) : List UInt8 := open Classical in if VR n d then (if d = 1 then Lib.itoa n else Lib.itoa n ++ 47 :: Lib.itoa d) else []
theorem fmtL_one {n : Int} (h : VR n 1) : fmtL n 1 = Lib.itoa n := by unfold fmtL; rw [if_pos h, if_pos rfl]
theorem fmtL_two {n d : Int} (h : VR n d) (h1 : d ≠ 1) : fmtL n d = Lib.itoa n ++ 47 :: Lib.itoa d := by unfold fmtL; rw [if_pos h, if_neg h1]
theorem fmtL_no {n d : Int} (h : ¬ VR n d) : fmtL n d = [] := by unfold fmtL; rw [if_neg h]
theorem fmtL_ne {n d : Int} (h : VR n d) : fmtL n d ≠ [] := by
  by_cases h1 : d = 1
  · subst h1; rw [fmtL_one h]; exact itoa_ne n
  · rw [fmtL_two h h1]; intro e; exact itoa_ne n (List.append_eq_nil_iff.1 e).1
theorem itoa_len {n : Int} (h : I64 n) : (Lib.itoa n).length ≤ 21 := Lib.itoa_length_le n h.1 h.2
theorem fmtL_len {n d : Int} (hn : I64 n) (hd : I64 d) : (fmtL n d).length ≤ 43 := by
  have h1 := itoa_len hn
  have h2 := itoa_len hd
  unfold fmtL
  split
  · split
    · omega
    · rw [List.length_append, List.length_cons]; omega
  · simp
theorem itoa_f {n : Int} (h : I64 n) : strconv_Itoa.f n = some (bs (Lib.itoa n)) := by unfold strconv_Itoa.f; exact if_pos h
theorem slash_app (l : List UInt8) : (⟨#[47]⟩ : ByteArray) ++ bs l = bs (47 :: l) := bs_append [47] l
theorem ratio_Format_ev {n d : Int} (hn : I64 n) (hd : I64 d) : Ev (fun k => ratio_Format.f k n d) (bs (fmtL n d)) := by
  unfold ratio_Format.f
  refine Ev.bind (ratio_Valid_ev n d hn hd) ?_
  by_cases h : VR n d
  · refine Ev.ifp (decide_eq_true h) (Ev.bindc (itoa_f hn) ?_)
    by_cases h1 : d = 1
    · subst h1; rw [fmtL_one h]; exact Ev.ifp rfl (Ev.now _)
    · rw [fmtL_two h h1]
      have l1 := itoa_len hn
      have l2 := itoa_len hd
      refine Ev.ifn h1 (Ev.bindc (itoa_f hd) (Ev.ifp ?_ (Ev.ifp ?_ ?_)))
      · rw [bs_size]; omega
      · rw [slash_app, bs_size, bs_size, List.length_cons]; omega
      · rw [slash_app, bs_append]; exact Ev.now _
  · rw [fmtL_no h]; exact Ev.ifn (by simp [h]) (Ev.now _)
end Go.Proofs.YtighihhaljofdaaDoor.P
