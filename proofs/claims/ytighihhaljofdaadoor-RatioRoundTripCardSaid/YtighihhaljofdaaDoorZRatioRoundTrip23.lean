/- Texts for the law RatioRoundTrip (kept out of a larger one). -/
import Derived.Test.YtighihhaljofdaaDoorZRatioRoundTrip8
import Derived.Test.YtighihhaljofdaaDoorZRatioRoundTrip13
import Derived.Test.YtighihhaljofdaaDoorZRatioRoundTrip15
import Derived.Test.YtighihhaljofdaaDoorZRatioRoundTrip17
import Derived.Test.YtighihhaljofdaaDoorZRatioRoundTrip14
import Derived.Test.YtighihhaljofdaaDoorZRatioRoundTrip22
namespace Go.Proofs.YtighihhaljofdaaDoor.P
set_option linter.unusedVariables false
open Go.RowKit Go.Proofs.YtighihhaljofdaaDoorW.PrintWords
def ReadS (s : List UInt8) (r : Int × Int × Bool) : Prop := r = (0, 0, false) ∨ ∃ n d, VR n d ∧ fmtL n d = s ∧ r = (n, d, true)
theorem prog_tail (s : ByteArray) {n d : Int} (hn : I64 n) (hd : I64 d) : Ev (fun k => ratio_Parse.tail k s n d) (if bs (fmtL n d) = s then (if s.data.toList = [] then (0, 0, false) else (n, d, true)) else (0, 0, false)) := by
  unfold ratio_Parse.tail
  refine Ev.bind (ratio_Format_ev hn hd) (Ev.const ?_)
  by_cases h : bs (fmtL n d) = s
  · rw [if_pos (str_eq.2 h), if_pos h]
    by_cases h0 : s.data.toList = []
    · rw [if_pos (str_nil.2 h0), if_pos h0]
    · rw [if_neg (fun e => h0 (str_nil.1 e)), if_neg h0]
  · rw [if_neg (fun e => h (str_eq.1 e)), if_neg h]
theorem tail_reads (s : ByteArray) {n d : Int} : ReadS s.data.toList (if bs (fmtL n d) = s then (if s.data.toList = [] then (0, 0, false) else (n, d, true)) else (0, 0, false)) := by
  by_cases h : bs (fmtL n d) = s
  · rw [if_pos h]
    by_cases h0 : s.data.toList = []
    · rw [if_pos h0]; exact Or.inl rfl
    · rw [if_neg h0]
      have hl : fmtL n d = s.data.toList := by rw [← h, bs_list]
      refine Or.inr ⟨n, d, ?_, hl, rfl⟩
      by_cases hv : VR n d
      · exact hv
      · rw [fmtL_no hv] at hl; exact absurd hl.symm h0
  · rw [if_neg h]; exact Or.inl rfl
theorem prog_reads (s : ByteArray) (hs : s.size ≤ 281474976710656) : ∃ r, Ev (fun k => ratio_Parse.f k s) r ∧ ReadS s.data.toList r := by
  unfold ratio_Parse.f
  cases hc : cutAt s 47 with
  | none =>
    cases ha : Lib.atoiAll s.data.toList with
    | ok n => exact ⟨_, Ev.ifp hs (prog_tail s (Lib.atoiAll_bounds ha) (by unfold I64; omega)), tail_reads s⟩
    | range => exact ⟨_, Ev.ifp hs (Ev.now _), Or.inl rfl⟩
    | _ => exact ⟨_, Ev.ifp hs (Ev.now _), Or.inl rfl⟩
  | some p =>
    obtain ⟨x, y⟩ := p
    cases ha : Lib.atoiAll x.data.toList with
    | ok n =>
      cases hb : Lib.atoiAll y.data.toList with
      | ok d => 
        simp only [ha, hb]
        exact ⟨_, Ev.ifp hs (prog_tail s (Lib.atoiAll_bounds ha) (Lib.atoiAll_bounds hb)), tail_reads s⟩
      | range => simp only [ha, hb]; exact ⟨_, Ev.ifp hs (Ev.now _), Or.inl rfl⟩
      | _ => simp only [ha, hb]; exact ⟨_, Ev.ifp hs (Ev.now _), Or.inl rfl⟩
    | range => simp only [ha]; exact ⟨_, Ev.ifp hs (Ev.now _), Or.inl rfl⟩
    | _ => simp only [ha]; exact ⟨_, Ev.ifp hs (Ev.now _), Or.inl rfl⟩
theorem indexByte_not {c : UInt8} : ∀ {l : List UInt8}, c ∉ l → Lib.indexByte l c < 0 := by
  intro l h
  have hg := Lib.indexByte_ge l c
  by_cases hc : Lib.indexByte l c < 0
  · exact hc
  · obtain ⟨i, hi⟩ := Int.eq_ofNat_of_zero_le (Int.not_lt.1 hc)
    exact absurd (List.mem_of_getElem? (Lib.indexByte_some hi).1) h
theorem indexByte_at {c : UInt8} {l r : List UInt8} (h : c ∉ l) : Lib.indexByte (l ++ c :: r) c = l.length := by
  have hm : (l ++ c :: r)[l.length]? = some c := by simp
  have hg := Lib.indexByte_ge (l ++ c :: r) c
  by_cases hc : Lib.indexByte (l ++ c :: r) c < 0
  · have e : Lib.indexByte (l ++ c :: r) c = -1 := by omega
    exact absurd hm (Lib.indexByte_none e _)
  · obtain ⟨i, hi⟩ := Int.eq_ofNat_of_zero_le (Int.not_lt.1 hc)
    obtain ⟨h1, h2⟩ := Lib.indexByte_some hi
    rw [hi]
    rcases Nat.lt_trichotomy i l.length with hlt | he | hgt
    · rw [List.getElem?_append_left hlt] at h1
      exact absurd (List.mem_of_getElem? h1) h
    · rw [he]
    · exact absurd hm (h2 _ hgt)
theorem cut_no {l : List UInt8} (h : (47 : UInt8) ∉ l) : cutAt (bs l) 47 = none := by
  unfold cutAt
  rw [bs_list]
  simp [indexByte_not h]
theorem cut_yes {l r : List UInt8} (h : (47 : UInt8) ∉ l) : cutAt (bs (l ++ 47 :: r)) 47 = some (bs l, bs r) := by
  unfold cutAt
  rw [bs_list, indexByte_at h]
  have h0 : ¬ ((l.length : Int) < 0) := by omega
  simp only [h0, if_false]
  congr 2
  · apply ByteArray.ext
    simp [ByteArray.data_extract]
  · apply ByteArray.ext
    apply Array.toList_inj.1
    simp [ByteArray.data_extract, ByteArray.size]
    exact List.take_of_length_le (by omega)
theorem prog_finds {n d : Int} (h : VR n d) : Ev (fun k => ratio_Parse.f k (bs (fmtL n d))) (n, d, true) := by
  have hn := h.i64n
  have hd := h.i64d
  have hl := fmtL_len hn hd
  have hs : (bs (fmtL n d)).size ≤ 281474976710656 := by rw [bs_size]; omega
  have hne : ¬ (bs (fmtL n d)).data.toList = [] := by rw [bs_list]; exact fmtL_ne h
  have a1 := atoi_itoa h.2.2.1 h.2.2.2.1
  have a2 : Lib.atoiAll (Lib.itoa d) = .ok d := atoi_itoa (by have := h.1; omega) (by have := h.2.1; omega)
  have fin := prog_tail (bs (fmtL n d)) hn hd
  rw [if_pos rfl, if_neg hne] at fin
  by_cases h1 : d = 1
  · subst h1
    refine Ev.congr (fun k => ?_) fin
    unfold ratio_Parse.f
    rw [if_pos hs]
    have hc : cutAt (bs (fmtL n 1)) 47 = none := by rw [fmtL_one h]; exact cut_no (itoa_no_slash n)
    have ha : Lib.atoiAll (bs (fmtL n 1)).data.toList = .ok n := by rw [bs_list, fmtL_one h]; exact a1
    simp only [hc, ha]
  · refine Ev.congr (fun k => ?_) fin
    unfold ratio_Parse.f
    rw [if_pos hs]
    have hc : cutAt (bs (fmtL n d)) 47 = some (bs (Lib.itoa n), bs (Lib.itoa d)) := by rw [fmtL_two h h1]; exact cut_yes (itoa_no_slash n)
    have b1 : Lib.atoiAll (bs (Lib.itoa n)).data.toList = .ok n := by rw [bs_list]; exact a1
    have b2 : Lib.atoiAll (bs (Lib.itoa d)).data.toList = .ok d := by rw [bs_list]; exact a2
    simp only [hc, b1, b2]
end Go.Proofs.YtighihhaljofdaaDoor.P
