/- Texts for the law RatioTexts (kept out of a larger one). -/
import Derived.Test.YtighihhaljofdaaDoorZRatioTexts9
import Derived.Test.YtighihhaljofdaaDoorZRatioTexts17
import Derived.Test.YtighihhaljofdaaDoorZRatioTexts18
import Derived.Test.YtighihhaljofdaaDoorZRatioTexts20
import Derived.Test.YtighihhaljofdaaDoorZRatioTexts15
import Derived.Test.YtighihhaljofdaaDoorZRatioTexts23
namespace Go.Proofs.YtighihhaljofdaaDoor.P
set_option linter.unusedVariables false
open Go.RowKit Go.Proofs.YtighihhaljofdaaDoorW.PrintWords
def ReadS (s : List UInt8) (r : Int × Int × Bool) : Prop := r = (0, 0, false) ∨ ∃ n d, VR n d ∧ fmtL n d = s ∧ r = (n, d, true)
theorem Ev.uniq {α : Type} {g : Nat → Option α} {a b : α} (h : Ev g a) (k : Ev g b) : a = b := by
  obtain ⟨K, hK⟩ := h
  obtain ⟨L, hL⟩ := k
  have := (hK (K + L) (by omega)).symm.trans (hL (K + L) (by omega))
  exact Option.some.inj this
theorem prog_tail (s : ByteArray) {n d : Int} (hn : I64 n) (hd : I64 d) : Ev (fun k => ratio_Parse.tail k s n d) (if bs (fmtL n d) = s then (if s.data.toList = [] then (0, 0, false) else (n, d, true)) else (0, 0, false)) := by
  unfold ratio_Parse.tail
  refine Ev.bind (ratio_Format_ev hn hd) (Ev.const ?_)
  by_cases h : bs (fmtL n d) = s
  · rw [if_pos (str_eq.2 h), if_pos h]
    by_cases h0 : s.data.toList = []
    · rw [if_pos (str_nil.2 h0), if_pos h0]
    · rw [if_neg (fun e => h0 (str_nil.1 e)), if_neg h0]
  · rw [if_neg (fun e => h (str_eq.1 e)), if_neg h]
theorem tail_reads (s : ByteArray) {n d : Int} : ReadS s.data.toList (if bs (fmtL n d) = s then (if s.data.toList = [] then (0, 0, false) else (n, d, true)) else (0, 0, false)) := by
  by_cases h : bs (fmtL n d) = s
  · rw [if_pos h]
    by_cases h0 : s.data.toList = []
    · rw [if_pos h0]; exact Or.inl rfl
    · rw [if_neg h0]
      have hl : fmtL n d = s.data.toList := by rw [← h, bs_list]
      refine Or.inr ⟨n, d, ?_, hl, rfl⟩
      by_cases hv : VR n d
      · exact hv
      · rw [fmtL_no hv] at hl; exact absurd hl.symm h0
  · rw [if_neg h]; exact Or.inl rfl
theorem prog_reads (s : ByteArray) (hs : s.size ≤ 281474976710656) : ∃ r, Ev (fun k => ratio_Parse.f k s) r ∧ ReadS s.data.toList r := by
  unfold ratio_Parse.f
  cases hc : cutAt s 47 with
  | none =>
    cases ha : Lib.atoiAll s.data.toList with
    | ok n => exact ⟨_, Ev.ifp hs (prog_tail s (Lib.atoiAll_bounds ha) (by unfold I64; omega)), tail_reads s⟩
    | range => exact ⟨_, Ev.ifp hs (Ev.now _), Or.inl rfl⟩
    | _ => exact ⟨_, Ev.ifp hs (Ev.now _), Or.inl rfl⟩
  | some p =>
    obtain ⟨x, y⟩ := p
    cases ha : Lib.atoiAll x.data.toList with
    | ok n =>
      cases hb : Lib.atoiAll y.data.toList with
      | ok d => 
        simp only [ha, hb]
        exact ⟨_, Ev.ifp hs (prog_tail s (Lib.atoiAll_bounds ha) (Lib.atoiAll_bounds hb)), tail_reads s⟩
      | range => simp only [ha, hb]; exact ⟨_, Ev.ifp hs (Ev.now _), Or.inl rfl⟩
      | _ => simp only [ha, hb]; exact ⟨_, Ev.ifp hs (Ev.now _), Or.inl rfl⟩
    | range => simp only [ha]; exact ⟨_, Ev.ifp hs (Ev.now _), Or.inl rfl⟩
    | _ => simp only [ha]; exact ⟨_, Ev.ifp hs (Ev.now _), Or.inl rfl⟩
theorem indexByte_not {c : UInt8} : ∀ {l : List UInt8}, c ∉ l → Lib.indexByte l c < 0 := by
  intro l h
  have hg := Lib.indexByte_ge l c
  by_cases hc : Lib.indexByte l c < 0
  · exact hc
  · obtain ⟨i, hi⟩ := Int.eq_ofNat_of_zero_le (Int.not_lt.1 hc)
    exact absurd (List.mem_of_getElem? (Lib.indexByte_some hi).1) h
theorem indexByte_at {c : UInt8} {l r : List UInt8} (h : c ∉ l) : Lib.indexByte (l ++ c :: r) c = l.length := by
  have hm : (l ++ c :: r)[l.length]? = some c := by simp
  have hg := Lib.indexByte_ge (l ++ c :: r) c
  by_cases hc : Lib.indexByte (l ++ c :: r) c < 0
  · have e : Lib.indexByte (l ++ c :: r) c = -1 := by omega
    exact absurd hm (Lib.indexByte_none e _)
  · obtain ⟨i, hi⟩ := Int.eq_ofNat_of_zero_le (Int.not_lt.1 hc)
    obtain ⟨h1, h2⟩ := Lib.indexByte_some hi
    rw [hi]
    rcases Nat.lt_trichotomy i l.length with hlt | he | hgt
    · rw [List.getElem?_append_left hlt] at h1
      exact absurd (List.mem_of_getElem? h1) h
    · rw [he]
    · exact absurd hm (h2 _ hgt)
theorem cut_no {l : List UInt8} (h : (47 : UInt8) ∉ l) : cutAt (bs l) 47 = none := by
  unfold cutAt
  rw [bs_list]
  simp [indexByte_not h]
theorem cut_yes {l r : List UInt8} (h : (47 : UInt8) ∉ l) : cutAt (bs (l ++ 47 :: r)) 47 = some (bs l, bs r) := by
  unfold cutAt
  rw [bs_list, indexByte_at h]
  have h0 : ¬ ((l.length : Int) < 0) := by omega
  simp only [h0, if_false]
  congr 2
  · apply ByteArray.ext
    simp [ByteArray.data_extract]
  · apply ByteArray.ext
    apply Array.toList_inj.1
    simp [ByteArray.data_extract, ByteArray.size]
    exact List.take_of_length_le (by omega)
theorem prog_finds {n d : Int} (h : VR n d) : Ev (fun k => ratio_Parse.f k (bs (fmtL n d))) (n, d, true) := by
  have hn := h.i64n
  have hd := h.i64d
  have hl := fmtL_len hn hd
  have hs : (bs (fmtL n d)).size ≤ 281474976710656 := by rw [bs_size]; omega
  have hne : ¬ (bs (fmtL n d)).data.toList = [] := by rw [bs_list]; exact fmtL_ne h
  have a1 := atoi_itoa h.2.2.1 h.2.2.2.1
  have a2 : Lib.atoiAll (Lib.itoa d) = .ok d := atoi_itoa (by have := h.1; omega) (by have := h.2.1; omega)
  have fin := prog_tail (bs (fmtL n d)) hn hd
  rw [if_pos rfl, if_neg hne] at fin
  by_cases h1 : d = 1
  · subst h1
    refine Ev.congr (fun k => ?_) fin
    unfold ratio_Parse.f
    rw [if_pos hs]
    have hc : cutAt (bs (fmtL n 1)) 47 = none := by rw [fmtL_one h]; exact cut_no (itoa_no_slash n)
    have ha : Lib.atoiAll (bs (fmtL n 1)).data.toList = .ok n := by rw [bs_list, fmtL_one h]; exact a1
    simp only [hc, ha]
  · refine Ev.congr (fun k => ?_) fin
    unfold ratio_Parse.f
    rw [if_pos hs]
    have hc : cutAt (bs (fmtL n d)) 47 = some (bs (Lib.itoa n), bs (Lib.itoa d)) := by rw [fmtL_two h h1]; exact cut_yes (itoa_no_slash n)
    have b1 : Lib.atoiAll (bs (Lib.itoa n)).data.toList = .ok n := by rw [bs_list]; exact a1
    have b2 : Lib.atoiAll (bs (Lib.itoa d)).data.toList = .ok d := by rw [bs_list]; exact a2
    simp only [hc, b1, b2]
theorem bt_zero {s : ByteArray} {c : UInt8} {r : List UInt8} (h : s.data.toList = c :: r) : bt s 0 = (c.toNat : Int) := by
  have hs : 0 < s.size := by rw [← data_length, h]; simp
  rw [← bt_at s 0 hs]
  have : s.data.toList[0]? = some c := by rw [h]; rfl
  show ((s.data[0]'hs).toNat : Int) = _
  have e : s.data[0]'hs = c := by
    rw [← Array.getElem_toList]
    exact (List.getElem?_eq_some_iff.1 this).2
  rw [e]
theorem tail_bs (c : UInt8) (l : List UInt8) : (bs (c :: l)).extract 1 (bs (c :: l)).size = bs l := by
  apply ByteArray.ext
  apply Array.toList_inj.1
  simp [ByteArray.data_extract, ByteArray.size]
theorem size_pos {s : ByteArray} : (0 : Int) < (s.size : Int) ↔ s.data.toList ≠ [] := by
  rw [← data_length]
  constructor
  · intro h e; rw [e] at h; exact absurd h (by decide)
  · intro h
    have : 0 < s.data.toList.length := List.length_pos_iff.2 h
    omega
theorem digits_any : ∀ (j : Nat) (i : Int) (s : ByteArray) (n : Int), 0 ≤ i → i + j = 13 → 0 ≤ n → n < 10 ^ (13 - j) → ∃ m r, 0 ≤ m ∧ m < 10 ^ 13 ∧ Ev (fun k => payrollref1_digits.l0 k s n i) (m, r) := by
  intro j
  induction j with
  | zero =>
    intro i s n h0 hi hn hm
    refine ⟨n, s, hn, by simpa using hm, Ev.step (fun k => by simp only [payrollref1_digits.l0]; rfl) (Ev.ifn (by omega) (Ev.now _))⟩
  | succ j ih =>
    intro i s n h0 hi hn hm
    have hp : (10 : Int) ^ (13 - j) = 10 ^ (13 - (j + 1)) * 10 := by rw [← Int.pow_succ]; congr 1; omega
    have hb : (10 : Int) ^ (13 - j) ≤ 10 ^ 13 := by
      have : (10 : Nat) ^ (13 - j) ≤ 10 ^ 13 := Nat.pow_le_pow_right (by decide) (by omega)
      exact_mod_cast this
    have e13 : (10 : Int) ^ 13 = 10000000000000 := by decide
    have stop : Ev (fun k => payrollref1_digits.j1 k s n i true) (n, s) := Ev.step (f := fun _ => some (n, s)) (fun k => by simp [payrollref1_digits.j1]) (Ev.now _)
    by_cases hz : s.data.toList = []
    · have hz' : (s.size : Int) = 0 := by rw [← data_length, hz]; rfl
      exact ⟨n, s, hn, by omega, Ev.step (fun k => by simp only [payrollref1_digits.l0]; rfl) (Ev.ifp (by omega) (Ev.ifp hz' stop))⟩
    · have hs := size_pos.2 hz
      by_cases h48 : bt s 0 < 48
      · exact ⟨n, s, hn, by omega, Ev.step (fun k => by simp only [payrollref1_digits.l0]; rfl) (Ev.ifp (by omega) (Ev.ifn (by omega) (Ev.ifp hs (Ev.ifp h48 stop))))⟩
      · by_cases h57 : bt s 0 > 57
        · refine ⟨n, s, hn, by omega, Ev.step (fun k => by simp only [payrollref1_digits.l0]; rfl) (Ev.ifp (by omega) (Ev.ifn (by omega) (Ev.ifp hs (Ev.ifn h48 ?_))))⟩
          rw [decide_eq_true h57]; exact stop
        · have w1 : wrap64 (n * 10) = n * 10 := wrap64_in (by unfold I64; omega)
          have w2 : wrap64 (n * 10 + (bt s 0 - 48) % 256) = n * 10 + (bt s 0 - 48) := by rw [Int.emod_eq_of_lt (by omega) (by omega)]; exact wrap64_in (by unfold I64; omega)
          have w3 : wrap64 (i + 1) = i + 1 := wrap64_in (by unfold I64; omega)
          obtain ⟨m, r, h1, h2, he⟩ := ih (i + 1) (s.extract 1 s.size) (n * 10 + (bt s 0 - 48)) (by omega) (by omega) (by omega) (by omega)
          refine ⟨m, r, h1, h2, Ev.step (fun k => by simp only [payrollref1_digits.l0]; rfl) (Ev.ifp (by omega) (Ev.ifn (by omega) (Ev.ifp hs (Ev.ifn h48 ?_))))⟩
          rw [decide_eq_false h57]
          refine Ev.step (f := fun k => payrollref1_digits.l0 k (s.extract 1 s.size) (n * 10 + (bt s 0 - 48)) (i + 1)) (fun k => ?_) he
          simp only [payrollref1_digits.j1]
          rw [if_neg (by decide), if_pos hs, if_pos (by omega), w1, w2, w3]
theorem digits_of (s : ByteArray) : ∃ m r, I64 m ∧ I64 (-m) ∧ Ev (fun k => payrollref1_digits.f k s) (m, r) := by
  obtain ⟨m, r, h1, h2, he⟩ := digits_any 13 0 s 0 (by omega) (by omega) (by omega) (by decide)
  have e13 : (10 : Int) ^ 13 = 10000000000000 := by decide
  exact ⟨m, r, by unfold I64; omega, by unfold I64; omega, he⟩
theorem digits_dec : ∀ (l : List UInt8) (t : List UInt8) (n m : Nat) (i : Int), (∀ b ∈ l, isDig b) → (t = [] ∨ ∃ r, t = 47 :: r) → 0 ≤ i → i + l.length ≤ 13 → Lib.decFrom n l = some m → n < 10 ^ i.toNat →
    Ev (fun k => payrollref1_digits.l0 k (bs (l ++ t)) (n : Int) i) ((m : Int), bs t)
  | [], t, n, m, i, _, ht, h0, hi, hm, hn => by
    obtain rfl : n = m := Option.some.inj hm
    refine Ev.step (fun k => by simp only [payrollref1_digits.l0]; rfl) ?_
    have stop : Ev (fun k => payrollref1_digits.j1 k (bs t) (n : Int) i true) ((n : Int), bs t) := Ev.step (f := fun _ => some ((n : Int), bs t)) (fun k => by simp [payrollref1_digits.j1]) (Ev.now _)
    by_cases h13 : i < 13
    · refine Ev.ifp h13 ?_
      rcases ht with rfl | ⟨r, rfl⟩
      · exact Ev.ifp (by simp [ByteArray.size]) stop
      · have hb : bt (bs (47 :: r)) 0 = 47 := bt_zero (by rw [bs_list])
        exact Ev.ifn (by rw [List.nil_append, bs_size]; simp; omega) (Ev.ifp (by rw [List.nil_append, bs_size]; simp) (Ev.ifp (by rw [List.nil_append, hb]; decide) stop))
    · exact Ev.ifn h13 (Ev.now _)
  | c :: l, t, n, m, i, hd, ht, h0, hi, hm, hn => by
    have hc := hd c List.mem_cons_self
    have hc2 := hc
    unfold isDig at hc2
    rw [List.length_cons] at hi
    have hb : bt (bs (c :: l ++ t)) 0 = (c.toNat : Int) := bt_zero (r := l ++ t) (by rw [bs_list]; rfl)
    have hz : (0 : Int) < ((bs (c :: l ++ t)).size : Int) := by rw [bs_size]; simp; omega
    have e : Lib.decFrom n (c :: l) = Lib.decFrom (n * 10 + (c.toNat - 48)) l := by simp only [Lib.decFrom, Lib.digitVal]; rw [if_pos hc2]
    rw [e] at hm
    have hp : (10 : Nat) ^ (i + 1).toNat = 10 ^ i.toNat * 10 := by rw [← Nat.pow_succ]; congr 1; omega
    have hq : (10 : Nat) ^ i.toNat ≤ 10 ^ 12 := Nat.pow_le_pow_right (by decide) (by omega)
    have e12 : (10 : Nat) ^ 12 = 1000000000000 := by decide
    have rec' := digits_dec l t (n * 10 + (c.toNat - 48)) m (i + 1) (fun b hb => hd b (List.mem_cons_of_mem _ hb)) ht (by omega) (by omega) hm (by omega)
    have w1 : wrap64 ((n : Int) * 10) = (n : Int) * 10 := wrap64_in (by unfold I64; omega)
    have w2 : wrap64 ((n : Int) * 10 + ((c.toNat : Int) - 48) % 256) = ((n * 10 + (c.toNat - 48) : Nat) : Int) := by
      rw [Int.emod_eq_of_lt (by omega) (by omega), wrap64_in (by unfold I64; omega)]; omega
    have w3 : wrap64 (i + 1) = i + 1 := wrap64_in (by unfold I64; omega)
    refine Ev.step (fun k => by simp only [payrollref1_digits.l0]; rfl) (Ev.ifp (by omega) (Ev.ifn (by omega) (Ev.ifp hz ?_)))
    rw [hb]
    refine Ev.ifn (by omega) ?_
    rw [decide_eq_false (by omega)]
    refine Ev.step (f := fun k => payrollref1_digits.l0 k (bs (l ++ t)) ((n * 10 + (c.toNat - 48) : Nat) : Int) (i + 1)) (fun k => ?_) rec'
    simp only [payrollref1_digits.j1]
    rw [if_neg (by decide), if_pos hz, if_pos (by omega), hb, w1, w2, w3]
    have := tail_bs c (l ++ t)
    rw [show c :: l ++ t = c :: (l ++ t) from rfl, this]
theorem digits_num {u : Nat} {t : List UInt8} (hu : u ≤ 1000000000000) (ht : t = [] ∨ ∃ r, t = 47 :: r) : Ev (fun k => payrollref1_digits.f k (bs (Lib.decDigits u ++ t))) ((u : Int), bs t) := by
  have := dec_len_le hu
  exact digits_dec (Lib.decDigits u) t 0 u 0 (dec_spells u).2 ht (by omega) (by omega) (dec_spells u).1 (by decide)
theorem ref_j6 (b : Bool) (n d : Int) : Ev (fun k => payrollref1_Parse.j6 k b n d) (if b = true then (0, 0, false) else (n, d, true)) := by
  refine Ev.step (f := fun _ => some (if b = true then (0, 0, false) else (n, d, true))) (fun k => ?_) (Ev.now _)
  simp only [payrollref1_Parse.j6]
  split <;> rfl
theorem ref_j5 (s x : ByteArray) {n d : Int} (hn : I64 n) (hd : I64 d) : Ev (fun k => payrollref1_Parse.j5 k s x n d)
    (if x.data.toList = [] then (if bs (fmtL n d) = s then (if s.data.toList = [] then (0, 0, false) else (n, d, true)) else (0, 0, false)) else (0, 0, false)) := by
  refine Ev.step (fun k => by simp only [payrollref1_Parse.j5]; rfl) ?_
  by_cases hx : x.data.toList = []
  · rw [if_pos hx]
    have hx' : ¬ ((x.size : Int) > 0) := fun h => size_pos.1 h hx
    refine Ev.ifn hx' (Ev.bind (ref1_Format_ev hn hd) ?_)
    by_cases h : bs (fmtL n d) = s
    · rw [if_pos h]
      refine Ev.ifp (str_eq.2 h) ?_
      by_cases h0 : s.data.toList = []
      · rw [if_pos h0]
        refine Ev.cast (ref_j6 _ n d) ?_
        rw [beq_iff_eq.2 (str_nil.2 h0)]; rfl
      · rw [if_neg h0]
        refine Ev.cast (ref_j6 _ n d) ?_
        rw [beq_eq_false_iff_ne.2 (fun e => h0 (str_nil.1 e))]; rfl
    · rw [if_neg h]
      exact Ev.ifn (fun e => h (str_eq.1 e)) (Ev.cast (ref_j6 true n d) rfl)
  · rw [if_neg hx]
    exact Ev.ifp (size_pos.2 hx) (Ev.cast (ref_j6 true n d) rfl)
theorem ref_j3 (s x : ByteArray) {n d : Int} (hn : I64 n) (hm : I64 (-n)) (hd : I64 d) : ∃ m, (m = n ∨ m = -n) ∧ I64 m ∧ (m = if bt s 0 = 45 ∧ s.data.toList ≠ [] then -n else n) ∧ ∀ r, Ev (fun k => payrollref1_Parse.j5 k s x m d) r → Ev (fun k => payrollref1_Parse.j3 k s x n d) r := by
  by_cases hz : s.data.toList = []
  · refine ⟨n, Or.inl rfl, hn, by rw [if_neg (fun h => h.2 hz)], fun r h => ?_⟩
    refine Ev.step (fun k => by simp only [payrollref1_Parse.j3]; rfl) (Ev.ifn (fun h => size_pos.1 h hz) ?_)
    exact Ev.step (fun k => by simp only [payrollref1_Parse.j4]; rfl) (Ev.ifn (by decide) h)
  · have hs := size_pos.2 hz
    by_cases h45 : bt s 0 = 45
    · refine ⟨-n, Or.inr rfl, hm, by rw [if_pos ⟨h45, hz⟩], fun r h => ?_⟩
      refine Ev.step (fun k => by simp only [payrollref1_Parse.j3]; rfl) (Ev.ifp hs (Ev.ifp hs ?_))
      rw [beq_iff_eq.2 h45]
      refine Ev.step (fun k => by simp only [payrollref1_Parse.j4]; rfl) (Ev.ifp (by decide) ?_)
      rw [wrap64_in hm]; exact h
    · refine ⟨n, Or.inl rfl, hn, by rw [if_neg (fun h => h45 h.1)], fun r h => ?_⟩
      refine Ev.step (fun k => by simp only [payrollref1_Parse.j3]; rfl) (Ev.ifp hs (Ev.ifp hs ?_))
      rw [beq_eq_false_iff_ne.2 h45]
      exact Ev.step (fun k => by simp only [payrollref1_Parse.j4]; rfl) (Ev.ifn (by decide) h)
theorem ref_end (s x : ByteArray) {n d : Int} (hn : I64 n) (hm : I64 (-n)) (hd : I64 d) : ∃ r, Ev (fun k => payrollref1_Parse.j3 k s x n d) r ∧ ReadS s.data.toList r := by
  obtain ⟨m, _, hm', _, h⟩ := ref_j3 s x hn hm hd
  refine ⟨_, h _ (ref_j5 s x hm' hd), ?_⟩
  by_cases hx : x.data.toList = []
  · rw [if_pos hx]; exact tail_reads s
  · rw [if_neg hx]; exact Or.inl rfl
theorem ref_j1 (s x : ByteArray) : ∃ r, Ev (fun k => payrollref1_Parse.j1 k s x) r ∧ ReadS s.data.toList r := by
  obtain ⟨n, y, hn, hm, he⟩ := digits_of x
  have one : I64 1 := by unfold I64; omega
  by_cases hy : y.data.toList = []
  · obtain ⟨r, h1, h2⟩ := ref_end s y hn hm one
    refine ⟨r, Ev.step (fun k => by simp only [payrollref1_Parse.j1]; rfl) (Ev.bind he (Ev.ifn (fun h => size_pos.1 h hy) ?_)), h2⟩
    exact Ev.step (fun k => by simp only [payrollref1_Parse.j2]; rfl) (Ev.ifn (by decide) h1)
  · have hs := size_pos.2 hy
    by_cases h47 : bt y 0 = 47
    · obtain ⟨d, z, hd, _, hf⟩ := digits_of (y.extract 1 y.size)
      obtain ⟨r, h1, h2⟩ := ref_end s z hn hm hd
      refine ⟨r, Ev.step (fun k => by simp only [payrollref1_Parse.j1]; rfl) (Ev.bind he (Ev.ifp hs (Ev.ifp hs ?_))), h2⟩
      rw [beq_iff_eq.2 h47]
      exact Ev.step (fun k => by simp only [payrollref1_Parse.j2]; rfl) (Ev.ifp (by decide) (Ev.ifp (by omega) (Ev.bind hf h1)))
    · obtain ⟨r, h1, h2⟩ := ref_end s y hn hm one
      refine ⟨r, Ev.step (fun k => by simp only [payrollref1_Parse.j1]; rfl) (Ev.bind he (Ev.ifp hs (Ev.ifp hs ?_))), h2⟩
      rw [beq_eq_false_iff_ne.2 h47]
      exact Ev.step (fun k => by simp only [payrollref1_Parse.j2]; rfl) (Ev.ifn (by decide) h1)
theorem ref_reads (s : ByteArray) : ∃ r, Ev (fun k => payrollref1_Parse.f k s) r ∧ ReadS s.data.toList r := by
  unfold payrollref1_Parse.f
  by_cases hz : s.data.toList = []
  · obtain ⟨r, h1, h2⟩ := ref_j1 s s
    refine ⟨r, Ev.ifn (fun h => size_pos.1 h hz) ?_, h2⟩
    exact Ev.step (fun k => by simp only [payrollref1_Parse.j0]; rfl) (Ev.ifn (by decide) h1)
  · have hs := size_pos.2 hz
    by_cases h45 : bt s 0 = 45
    · obtain ⟨r, h1, h2⟩ := ref_j1 s (s.extract 1 s.size)
      refine ⟨r, Ev.ifp hs (Ev.ifp hs ?_), h2⟩
      rw [beq_iff_eq.2 h45]
      exact Ev.step (fun k => by simp only [payrollref1_Parse.j0]; rfl) (Ev.ifp (by decide) (Ev.ifp (by omega) h1))
    · obtain ⟨r, h1, h2⟩ := ref_j1 s s
      refine ⟨r, Ev.ifp hs (Ev.ifp hs ?_), h2⟩
      rw [beq_eq_false_iff_ne.2 h45]
      exact Ev.step (fun k => by simp only [payrollref1_Parse.j0]; rfl) (Ev.ifn (by decide) h1)
def denL (d : Int) : List UInt8 := if d = 1 then [] else 47 :: Lib.itoa d
theorem fmtL_den {n d : Int} (h : VR n d) : fmtL n d = Lib.itoa n ++ denL d := by
  unfold denL
  by_cases h1 : d = 1
  · subst h1; rw [fmtL_one h, if_pos rfl, List.append_nil]
  · rw [fmtL_two h h1, if_neg h1]
theorem ref_num (s : ByteArray) {u : Nat} {d : Int} (hu : u ≤ 1000000000000) (h1 : 1 ≤ d) (h2 : d ≤ 1000000) {r : Int × Int × Bool} (h : Ev (fun k => payrollref1_Parse.j3 k s (bs []) (u : Int) d) r) : Ev (fun k => payrollref1_Parse.j1 k s (bs (Lib.decDigits u ++ denL d))) r := by
  refine Ev.step (fun k => by simp only [payrollref1_Parse.j1]; rfl) ?_
  unfold denL
  by_cases hd : d = 1
  · subst hd
    rw [if_pos rfl]
    refine Ev.bind (digits_num hu (Or.inl rfl)) (Ev.ifn (by simp [ByteArray.size]) ?_)
    exact Ev.step (fun k => by simp only [payrollref1_Parse.j2]; rfl) (Ev.ifn (by decide) h)
  · rw [if_neg hd]
    refine Ev.bind (digits_num hu (Or.inr ⟨_, rfl⟩)) ?_
    have hz : (0 : Int) < ((bs (47 :: Lib.itoa d)).size : Int) := by rw [bs_size, List.length_cons]; omega
    have hb : bt (bs (47 :: Lib.itoa d)) 0 = 47 := bt_zero (by rw [bs_list])
    refine Ev.ifp hz (Ev.ifp hz ?_)
    rw [hb]
    refine Ev.step (fun k => by simp only [payrollref1_Parse.j2]; rfl) (Ev.ifp (by decide) (Ev.ifp (by omega) ?_))
    rw [tail_bs]
    have e : Lib.itoa d = Lib.decDigits d.toNat ++ [] := by unfold Lib.itoa; rw [if_neg (by omega), List.append_nil]
    have ed : ((d.toNat : Nat) : Int) = d := by omega
    have := digits_num (u := d.toNat) (t := []) (by omega) (Or.inl rfl)
    rw [ed, ← e] at this
    exact Ev.bind this h
theorem ref_finds {n d : Int} (h : VR n d) : Ev (fun k => payrollref1_Parse.f k (bs (fmtL n d))) (n, d, true) := by
  have hn := h.i64n
  have hd := h.i64d
  have hne := fmtL_ne h
  have hu : n.natAbs ≤ 1000000000000 := by have := h.2.2.1; have := h.2.2.2.1; omega
  have hz : (0 : Int) < ((bs (fmtL n d)).size : Int) := size_pos.2 (by rw [bs_list]; exact hne)
  have j3 : ∀ b : Bool, b = decide (n < 0) → (bt (bs (fmtL n d)) 0 = 45 ↔ n < 0) → Ev (fun k => payrollref1_Parse.j3 k (bs (fmtL n d)) (bs []) (n.natAbs : Int) d) (n, d, true) := by
    intro b _ hb
    obtain ⟨m, _, hm, em, hh⟩ := ref_j3 (bs (fmtL n d)) (bs []) (n := (n.natAbs : Int)) (d := d) (by unfold I64; omega) (by unfold I64; omega) hd
    have e : m = n := by
      rw [em, bs_list]
      by_cases hneg : n < 0
      · rw [if_pos ⟨hb.2 hneg, hne⟩]; omega
      · rw [if_neg (fun h => hneg (hb.1 h.1))]; omega
    subst e
    refine hh _ (Ev.cast (ref_j5 _ _ hm hd) ?_)
    rw [if_pos (by rw [bs_list]), if_pos rfl, if_neg (by rw [bs_list]; exact hne)]
  unfold payrollref1_Parse.f
  refine Ev.ifp hz (Ev.ifp hz ?_)
  by_cases hneg : n < 0
  · have e : fmtL n d = 45 :: (Lib.decDigits n.natAbs ++ denL d) := by rw [fmtL_den h]; unfold Lib.itoa; rw [if_pos hneg]; rfl
    have hb : bt (bs (fmtL n d)) 0 = 45 := bt_zero (c := 45) (r := Lib.decDigits n.natAbs ++ denL d) (by rw [bs_list, e])
    rw [beq_iff_eq.2 hb]
    refine Ev.step (fun k => by simp only [payrollref1_Parse.j0]; rfl) (Ev.ifp (by decide) (Ev.ifp (by omega) ?_))
    have ex : (bs (fmtL n d)).extract 1 (bs (fmtL n d)).size = bs (Lib.decDigits n.natAbs ++ denL d) := by rw [e, tail_bs]
    rw [ex]
    exact ref_num _ hu h.1 h.2.1 (j3 true (by simp [hneg]) ⟨fun _ => hneg, fun _ => hb⟩)
  · have e : fmtL n d = Lib.decDigits n.natAbs ++ denL d := by
      rw [fmtL_den h]; unfold Lib.itoa; rw [if_neg hneg]; congr 2; omega
    obtain ⟨c, r, hc, hdg⟩ := dec_head n.natAbs
    have hb : bt (bs (fmtL n d)) 0 = (c.toNat : Int) := bt_zero (r := r ++ denL d) (by rw [bs_list, e, hc]; rfl)
    unfold isDig at hdg
    have hb2 : bt (bs (fmtL n d)) 0 ≠ 45 := by rw [hb]; omega
    rw [beq_eq_false_iff_ne.2 hb2]
    refine Ev.step (fun k => by simp only [payrollref1_Parse.j0]; rfl) (Ev.ifn (by decide) ?_)
    have := ref_num (bs (fmtL n d)) hu h.1 h.2.1 (j3 false (by simp [hneg]) ⟨fun h => absurd h hb2, fun h => absurd h hneg⟩)
    rw [← e] at this
    exact this
theorem both_read (s : ByteArray) (hs : s.size ≤ 281474976710656) : ∃ r, Ev (fun k => ratio_Parse.f k s) r ∧ Ev (fun k => payrollref1_Parse.f k s) r ∧ ReadS s.data.toList r := by
  obtain ⟨p, h1, h2⟩ := prog_reads s hs
  obtain ⟨q, h3, h4⟩ := ref_reads s
  rcases h2 with rfl | ⟨n, d, hv, hf, rfl⟩
  · rcases h4 with rfl | ⟨n, d, hv, hf, rfl⟩
    · exact ⟨_, h1, h3, Or.inl rfl⟩
    · have := prog_finds hv
      rw [hf, bs_of] at this
      exact absurd (Ev.uniq h1 this) (by simp)
  · have := ref_finds hv
    rw [hf, bs_of] at this
    obtain rfl := Ev.uniq h3 this
    exact ⟨_, h1, h3, Or.inr ⟨n, d, hv, hf, rfl⟩⟩
end Go.Proofs.YtighihhaljofdaaDoor.P
