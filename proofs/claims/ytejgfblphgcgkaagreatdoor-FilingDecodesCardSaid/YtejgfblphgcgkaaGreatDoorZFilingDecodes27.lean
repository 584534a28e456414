/- Texts for the law FilingDecodes (kept out of a larger one). -/
import Derived.Test.YtejgfblphgcgkaaGreatDoorZFilingDecodes13
import Derived.Test.YtejgfblphgcgkaaGreatDoorZFilingDecodes25
import Derived.WalkKit
import Derived.Test.YtejgfblphgcgkaaGreatDoorZFilingDecodes18
import Derived.Lib.SplitLaws
import Derived.Lib.Strings
import Derived.Test.YtejgfblphgcgkaaGreatDoorZFilingDecodes19
import Derived.Laws.Strings
import Derived.Lib.Atoi
import Derived.Lib.AtoiTie
import Derived.Lib.ItoaMem
import Derived.Lib.ItoaLen
namespace Go.Proofs.YtejgfblphgcgkaaGreatDoor.P
set_option linter.unusedVariables false
set_option linter.unusedSimpArgs false
open Go.RowKit Go.Proofs.YtejgfblphgcgkaaGreatDoorW.PrintWords
theorem rlower_eq (c : UInt8) : payrollref17_lower.f (c.toNat : Int) = some (lowerB c) := by
 unfold payrollref17_lower.f lowerB
 by_cases h : 97 ≤ c.toNat
 · rw [if_pos (by omega)]; simp [h]; omega
 · rw [if_neg (by omega)]; simp [h]
theorem rdigit_eq (c : UInt8) : payrollref17_digit.f (c.toNat : Int) = some (digitB c) := by
 unfold payrollref17_digit.f digitB
 by_cases h : 48 ≤ c.toNat
 · rw [if_pos (by omega)]; simp [h]; omega
 · rw [if_neg (by omega)]; simp [h]
theorem rkw_loop (s : ByteArray) (X : List ByteArray) (hX : X.length < 1000) : ∀ (m i : Nat), i + m = X.length → Ev (fun k => payrollref17_IsKeyword.l0 k s X (i : Int)) (decide (s.data.toList ∈ (X.drop i).map (fun x => x.data.toList))) := by
 intro m
 induction m with
 | zero =>
  intro i hi
  refine Ev.step (fun k => by simp only [payrollref17_IsKeyword.l0]; rfl) (Ev.ifn (by omega) ?_)
  have e : X.drop i = [] := List.drop_eq_nil_of_le (by omega)
  rw [e]; simpa using Ev.now false
 | succ m ih =>
  intro i hi
  have hl : i < X.length := by omega
  have e1 : wrap64 ((i : Int) + 1) = ((i + 1 : Nat) : Int) := by unfold wrap64; omega
  have hg : rdOf ByteArray.empty X (i : Int) = X[i] := by
   unfold rdOf
   rw [Int.toNat_natCast, List.getD_eq_getElem?_getD, List.getElem?_eq_getElem hl]; rfl
  refine Ev.step (fun k => by simp only [payrollref17_IsKeyword.l0]; rfl) (Ev.ifp (by omega) (Ev.ifp (by omega) ?_))
  rw [hg, List.drop_eq_getElem_cons hl, List.map_cons]
  by_cases h : X[i].toList = s.toList
  · refine Ev.ifp h ?_
    rw [Lib.toList_data, Lib.toList_data] at h
    rw [decide_eq_true (by rw [h]; exact List.mem_cons_self)]
    exact Ev.now _
  · refine Ev.ifn h ?_
    rw [e1]
    refine (ih (i + 1) (by omega)).cast ?_
    rw [Lib.toList_data, Lib.toList_data] at h
    apply Bool.eq_iff_iff.2
    simp only [decide_eq_true_eq, List.mem_cons]
    exact ⟨fun hx => Or.inr hx, fun hx => hx.resolve_left (fun e => h e.symm)⟩
theorem ref17_IsKeyword_ev (s : ByteArray) : Ev (fun k => payrollref17_IsKeyword.f k s) (decide (s.data.toList ∈ kws)) := by
 unfold payrollref17_IsKeyword.f
 refine (rkw_loop s _ (by simp) _ 0 (Nat.zero_add _)).cast ?_
 rfl
theorem word_loop (s : ByteArray) (hs : s.size ≤ 281474976710656) : ∀ (m i : Nat), i + m = s.size → ∃ e : Nat, Ev (fun k => payrollref17_word.l0 k s (i : Int)) (e : Int) ∧ i ≤ e ∧ e ≤ s.size ∧ ((s.data.toList.drop i).all charB = true → e = s.size) ∧ ((s.data.toList.drop i).all charB = false → e < s.size) := by
 intro m
 induction m with
 | zero =>
  intro i hi
  have e : s.data.toList.drop i = [] := List.drop_eq_nil_of_le (by rw [data_length]; omega)
  refine ⟨i, ?_, Nat.le_refl _, by omega, fun _ => by omega, fun h => (by rw [e] at h; cases h)⟩
  refine Ev.step (fun k => by simp only [payrollref17_word.l0]; rfl) (Ev.ifn (by omega) ?_)
  exact Ev.step (fun k => by simp only [payrollref17_word.j2]; rfl) (Ev.ifn (by decide) (Ev.now _))
 | succ m ih =>
  intro i hi
  have hl : i < s.data.toList.length := by rw [data_length]; omega
  have e1 : wrap64 ((i : Int) + 1) = ((i + 1 : Nat) : Int) := by unfold wrap64; omega
  have hb : bt s (i : Int) = ((s.data.toList.getD i 0).toNat : Int) := bt_list s i
  obtain ⟨e, he, h1, h2, h3, h4⟩ := ih (i + 1) (by omega)
  rw [drop_all _ _ _ hl]
  generalize s.data.toList.getD i 0 = c at *
  have hj1 : Ev (fun k => payrollref17_word.j2 k s (i : Int) true) (e : Int) := by
   refine Ev.step (fun k => by simp only [payrollref17_word.j2]; rfl) (Ev.ifp (by first | rfl | trivial) ?_)
   rw [e1]; exact he
  have hj0 : Ev (fun k => payrollref17_word.j2 k s (i : Int) false) (i : Int) :=
   Ev.step (fun k => by simp only [payrollref17_word.j2]; rfl) (Ev.ifn (by decide) (Ev.now _))
  have hd : Ev (fun k => payrollref17_word.l0 k s (i : Int)) (if charB c = true then (e : Int) else (i : Int)) := by
   refine Ev.step (fun k => by simp only [payrollref17_word.l0]; rfl) (Ev.ifp (by omega) (Ev.ifp (by omega) ?_))
   rw [hb]
   refine Ev.bindc (rlower_eq c) ?_
   by_cases g1 : lowerB c = true
   · rw [if_pos (by rw [charB_eq, g1]; rfl)]
     exact Ev.ifp g1 hj1
   · have g1' : lowerB c = false := by simpa using g1
     refine Ev.ifn g1 (Ev.bindc (rdigit_eq c) ?_)
     by_cases g2 : digitB c = true
     · rw [if_pos (by rw [charB_eq, g2]; simp)]
       exact Ev.ifp g2 hj1
     · have g2' : digitB c = false := by simpa using g2
       refine Ev.ifn g2 ?_
       by_cases g3 : c.toNat = 95
       · rw [if_pos (by rw [charB_eq, g3]; simp)]
         have : ((c.toNat : Int) == 95) = true := by simp; omega
         rw [this]; exact hj1
       · rw [if_neg (by rw [charB_eq, g1', g2']; simpa using g3)]
         have : ((c.toNat : Int) == 95) = false := by simp; omega
         rw [this]; exact hj0
  by_cases hc : charB c = true
  · rw [if_pos hc] at hd
    exact ⟨e, hd, by omega, h2, fun h => h3 (by simpa [hc] using h), fun h => h4 (by simpa [hc] using h)⟩
  · rw [if_neg hc] at hd
    have hc' : charB c = false := by simpa using hc
    exact ⟨i, hd, Nat.le_refl _, by omega, fun h => (by rw [hc'] at h; cases h), fun _ => by omega⟩
theorem ref17_IsName_ev (s : ByteArray) : Ev (fun k => payrollref17_IsName.f k s) (nameB s.data.toList) := by
 unfold payrollref17_IsName.f
 have ht : s.toList = s.data.toList := Lib.toList_data s
 by_cases h0 : s.toList = []
 · have : nameB s.data.toList = false := by rw [← ht, h0]; rfl
   rw [this]
   exact Ev.ifp h0 (Ev.now _)
 · have hpos : 0 < s.size := by
    rw [← data_length, ← ht]
    exact List.length_pos_iff.2 h0
   refine Ev.ifn h0 ?_
   by_cases h1 : (s.size : Int) ≤ 24
   · refine Ev.ifp h1 ?_
     have hn : nameB s.data.toList = (lowerB (s.data.toList.getD 0 0) && (s.data.toList.all charB && !decide (s.data.toList ∈ kws))) := by
      unfold nameB
      rw [data_length, decide_eq_true hpos, decide_eq_true (show s.size ≤ 24 by omega)]; simp [Bool.and_assoc]
     rw [hn]
     have hw : Ev (fun k => payrollref17_word.f k s 0) (if lowerB (s.data.toList.getD 0 0) = true then (if s.data.toList.all charB = true then (s.size : Int) else -1) else 0) ∨ (lowerB (s.data.toList.getD 0 0) = true ∧ s.data.toList.all charB = false ∧ ∃ e : Nat, e < s.size ∧ Ev (fun k => payrollref17_word.f k s 0) (e : Int)) := by
      unfold payrollref17_word.f
      obtain ⟨e, he, _, g2, g3, g4⟩ := word_loop s (by omega) s.size 0 (by omega)
      by_cases g : lowerB (s.data.toList.getD 0 0) = true
      · by_cases ga : s.data.toList.all charB = true
        · left
          rw [if_pos g, if_pos ga]
          refine Ev.ifn (by omega) (Ev.ifp (by omega) (Ev.ifp (by omega) ?_))
          rw [bt_list]
          show Ev (fun n => (payrollref17_lower.f ((s.data.toList.getD 0 0).toNat : Int)).bind _) _
          refine Ev.bindc (rlower_eq _) (Ev.step (fun k => by simp only [payrollref17_word.j0]; rfl) (Ev.ifn (by rw [g]; decide) ?_))
          have : e = s.size := g3 (by simpa using ga)
          rw [← this]; exact he
        · right
          have ga' : s.data.toList.all charB = false := by simpa using ga
          refine ⟨g, ga', e, g4 (by simpa using ga'), ?_⟩
          refine Ev.ifn (by omega) (Ev.ifp (by omega) (Ev.ifp (by omega) ?_))
          rw [bt_list]
          show Ev (fun n => (payrollref17_lower.f ((s.data.toList.getD 0 0).toNat : Int)).bind _) _
          exact Ev.bindc (rlower_eq _) (Ev.step (fun k => by simp only [payrollref17_word.j0]; rfl) (Ev.ifn (by rw [g]; decide) he))
      · left
        have g' : lowerB (s.data.toList.getD 0 0) = false := by simpa using g
        rw [if_neg g]
        refine Ev.ifn (by omega) (Ev.ifp (by omega) (Ev.ifp (by omega) ?_))
        rw [bt_list]
        show Ev (fun n => (payrollref17_lower.f ((s.data.toList.getD 0 0).toNat : Int)).bind _) _
        exact Ev.bindc (rlower_eq _) (Ev.step (fun k => by simp only [payrollref17_word.j0]; rfl) (Ev.ifp (by rw [g']; rfl) (Ev.now _)))
     rcases hw with hw | ⟨g, ga, e, hlt, hw⟩
     · refine Ev.bind hw ?_
       by_cases g : lowerB (s.data.toList.getD 0 0) = true
       · rw [if_pos g, g]
         by_cases ga : s.data.toList.all charB = true
         · rw [if_pos ga, ga]
           refine Ev.ifp (by first | rfl | trivial) (Ev.bind (ref17_IsKeyword_ev s) (Ev.now _))
         · rw [if_neg ga]
           have ga' : s.data.toList.all charB = false := by simpa using ga
           rw [ga']
           exact Ev.ifn (by omega) (Ev.now _)
       · have g' : lowerB (s.data.toList.getD 0 0) = false := by simpa using g
         rw [if_neg g, g']
         exact Ev.ifn (by omega) (Ev.now _)
     · refine Ev.bind hw ?_
       rw [g, ga]
       exact Ev.ifn (by omega) (Ev.now _)
   · have : nameB s.data.toList = false := by
      unfold nameB
      rw [data_length, decide_eq_false (show ¬ s.size ≤ 24 by omega)]; simp
     rw [this]
     exact Ev.ifn h1 (Ev.now _)
end Go.Proofs.YtejgfblphgcgkaaGreatDoor.P
namespace Go.Proofs.YtejgfblphgcgkaaGreatDoor.P
set_option linter.unusedVariables false
set_option linter.unusedSimpArgs false
open Go.RowKit Go.Proofs.YtejgfblphgcgkaaGreatDoorW.PrintWords
theorem bare_eq (a : Int) : payrollref32_Bare.f a = some (bareB a) := by
 unfold payrollref32_Bare.f bareB
 by_cases h1 : a = 6
 · rw [if_pos h1]; simp [h1]
 · rw [if_neg h1]
   by_cases h2 : a = 9
   · rw [if_pos h2]; simp [h2]
   · rw [if_neg h2]; simp only [h1, h2, decide_false, Bool.false_or]; rfl
theorem ref32_tail (a : Int) (b : ByteArray) (c : Int) (t : Bool) : Ev (fun k => payrollref32_Form.j0 k t a b c) (!t && (if bareB a = true then decide (b.data.toList = []) else nameB b.data.toList)) := by
 refine Ev.step (fun k => by simp only [payrollref32_Form.j0]; rfl) ?_
 cases t with
 | true => exact Ev.ifp (by first | rfl | trivial) (Ev.now _)
 | false =>
  refine Ev.ifn (by decide) (Ev.bindc (bare_eq a) ?_)
  by_cases hb : bareB a = true
  · rw [hb, if_pos rfl]
    refine Ev.ifp (by first | rfl | trivial) ?_
    rw [Lib.toList_data]
    refine (Ev.now _).cast (Bool.eq_iff_iff.2 ?_)
    simp only [Bool.not_false, Bool.true_and, if_true]
    rw [beq_iff_eq, decide_eq_true_iff]
  · have hb' : bareB a = false := by simpa using hb
    rw [hb']
    refine Ev.ifn (by decide) (Ev.bind (ref17_IsName_ev b) ?_)
    simpa using Ev.now _
theorem ref32_Form_ev (a : Int) (b : ByteArray) (c : Int) : Ev (fun k => payrollref32_Form.f k a b c) (formP a b c) := by
 unfold payrollref32_Form.f formP
 by_cases h1 : a < 1
 · rw [decide_eq_false (show ¬ 1 ≤ a by omega)]
   exact Ev.ifp h1 ((ref32_tail a b c true).cast (by simp))
 · by_cases h2 : a > 10
   · rw [decide_eq_false (show ¬ a ≤ 10 by omega)]
     exact Ev.ifn h1 (Ev.ifp h2 ((ref32_tail a b c true).cast (by simp)))
   · rw [decide_eq_true (show 1 ≤ a by omega), decide_eq_true (show a ≤ 10 by omega)]
     refine Ev.ifn h1 (Ev.ifn h2 ?_)
     by_cases h3 : c < -1000000000000
     · refine Ev.ifp h3 ((ref32_tail a b c true).cast ?_)
       unfold totalB; rw [decide_eq_false (show ¬ -1000000000000 ≤ c by omega)]; simp
     · refine Ev.ifn h3 ((ref32_tail a b c _).cast ?_)
       unfold totalB; rw [decide_eq_true (show -1000000000000 ≤ c by omega)]
       by_cases h4 : c ≤ 1000000000000
       · rw [decide_eq_true h4, decide_eq_false (show ¬ c > 1000000000000 by omega)]; simp
       · rw [decide_eq_false h4, decide_eq_true (show c > 1000000000000 by omega)]; simp
theorem ref34_Form_ev (a : Int) (b : ByteArray) (c : Int) : Ev (fun k => payrollref34_Form.f k a b c) (FormP a b c) := by
 unfold payrollref34_Form.f FormP
 by_cases h : c = 0
 · exact Ev.ifp h ((Ev.now _).cast (by simp [h]))
 · exact Ev.ifn h (Ev.bind (ref32_Form_ev a b c) ((Ev.now _).cast (by simp [h])))
end Go.Proofs.YtejgfblphgcgkaaGreatDoor.P
namespace Go.Proofs.YtejgfblphgcgkaaGreatDoor.P
set_option linter.unusedVariables false
set_option linter.unusedSimpArgs false
open Go.RowKit Go.Proofs.YtejgfblphgcgkaaGreatDoorW.PrintWords
theorem ext_data {a b : ByteArray} (h : a.data.toList = b.data.toList) : a = b := ByteArray.ext (Array.toList_inj.1 h)
theorem ext_list (s : ByteArray) (i j : Nat) (h : i ≤ j) (hj : j ≤ s.size) : (s.extract i j).data.toList = (s.data.toList.drop i).take (j - i) := by
 rw [ByteArray.data_extract, Array.toList_extract]
 try rfl
theorem drop_at (s : ByteArray) (j : Nat) (hj : j < s.size) : s.data.toList.drop j = s.data.toList.getD j 0 :: s.data.toList.drop (j + 1) := by
 have hl : j < s.data.toList.length := hj
 rw [List.drop_eq_getElem_cons hl, List.getD_eq_getElem?_getD, List.getElem?_eq_getElem hl]; rfl
theorem take_more (s : ByteArray) (i j : Nat) (h : i ≤ j) (hj : j < s.size) : (s.data.toList.drop i).take (j + 1 - i) = (s.data.toList.drop i).take (j - i) ++ [s.data.toList.getD j 0] := by
 have hl : j < s.data.toList.length := hj
 have hd : j - i < (s.data.toList.drop i).length := by rw [List.length_drop]; omega
 rw [show j + 1 - i = (j - i) + 1 by omega, List.take_succ_eq_append_getElem hd, List.getElem_drop]
 congr 2
 rw [List.getD_eq_getElem?_getD]
 rw [List.getElem?_eq_getElem hl]
 simp [show i + (j - i) = j by omega]
def pieces (c : UInt8) (s : ByteArray) (i : Nat) : List ByteArray := (cutC c (s.data.toList.drop i)).map fun l => ⟨l.toArray⟩
theorem pieces_ne (c : UInt8) (s : ByteArray) (i : Nat) : pieces c s i ≠ [] := by unfold pieces; simp [cutC_ne]
theorem split_pieces (s : ByteArray) (c : UInt8) : splitP s c = pieces c s 0 := by
 unfold pieces
 rw [List.drop_zero, ← splitP_cut, List.map_map]
 have : ((fun l : List UInt8 => (⟨l.toArray⟩ : ByteArray)) ∘ fun x : ByteArray => x.data.toList) = id := by
  funext x
  exact ext_data (by simp)
 rw [this, List.map_id]
theorem ext_piece {s : ByteArray} {i j : Nat} {l : List UInt8} (h : i ≤ j) (hj : j ≤ s.size) (e : (s.data.toList.drop i).take (j - i) = l) : s.extract i j = ⟨l.toArray⟩ := by
 apply ext_data
 rw [ext_list s i j h hj, e]
theorem pieces_here {c : UInt8} {s : ByteArray} {i j : Nat} (h : i ≤ j) (hj : j < s.size) (hc : s.data.toList.getD j 0 = c) (hn : c ∉ (s.data.toList.drop i).take (j - i)) : pieces c s i = s.extract i j :: pieces c s (j + 1) := by
 unfold pieces
 have e : s.data.toList.drop i = (s.data.toList.drop i).take (j - i) ++ c :: s.data.toList.drop (j + 1) := by
  have h1 := (List.take_append_drop (j - i) (s.data.toList.drop i)).symm
  rw [List.drop_drop, show i + (j - i) = j by omega, drop_at s j hj, hc] at h1
  exact h1
 rw [e, cutC_piece c _ _ hn, List.map_cons, ext_piece h (by omega) rfl]
theorem pieces_end {c : UInt8} {s : ByteArray} {i : Nat} (h : i ≤ s.size) (hn : c ∉ (s.data.toList.drop i).take (s.size - i)) : pieces c s i = [s.extract i s.size] := by
 unfold pieces
 have e : (s.data.toList.drop i).take (s.size - i) = s.data.toList.drop i := List.take_of_length_le (by rw [List.length_drop]; show s.size - i ≤ s.size - i; omega)
 rw [e] at hn
 rw [cutC_last c _ hn, List.map_cons, List.map_nil, ext_piece h (Nat.le_refl _) e]
theorem bt_byte {s : ByteArray} {j : Nat} {n : Nat} (hn : n < 256) : bt s (j : Int) = (n : Int) ↔ s.data.toList.getD j 0 = UInt8.ofNat n := by
 rw [bt_list, Int.toNat_natCast]
 constructor
 · intro h
   apply UInt8.toNat_inj.1
   rw [UInt8.toNat_ofNat']; omega
 · intro h; rw [h, UInt8.toNat_ofNat']; omega
theorem lines_loop (s : ByteArray) (hs : s.size ≤ 1000000) : ∀ (m j i : Nat) (out : List ByteArray), j + m = s.size → i ≤ j → out.length ≤ j → (10 : UInt8) ∉ (s.data.toList.drop i).take (j - i) →
 Ev (fun k => payrollref34_Lines.l0 k s out (i : Int) (j : Int)) (out ++ (pieces 10 s i).dropLast, decide ((pieces 10 s i).getLast (pieces_ne 10 s i) = (⟨#[]⟩ : ByteArray))) := by
 intro m
 induction m with
 | zero =>
  intro j i out hj hi ho hn
  have : j = s.size := by omega
  subst this
  refine Ev.step (fun k => by simp only [payrollref34_Lines.l0]; rfl) (Ev.ifn (by omega) ((Ev.now _).cast ?_))
  have he := pieces_end hi hn
  simp only [he, List.dropLast_singleton, List.append_nil, List.getLast_singleton]
  congr 1
  rw [Bool.eq_iff_iff, beq_iff_eq, decide_eq_true_iff]
  constructor
  · intro h
    apply ext_data
    rw [ext_list s i s.size hi (Nat.le_refl _)]
    rw [show s.size - i = 0 by omega]; rfl
  · intro h
    have := congrArg (·.data.toList.length) h
    simp only [ext_list s i s.size hi (Nat.le_refl _), List.length_take, List.length_drop] at this
    have e2 : s.data.toList.length = s.size := rfl
    rw [e2] at this
    simp at this
    omega
 | succ m ih =>
  intro j i out hj hi ho hn
  have e1 : wrap64 ((j : Int) + 1) = ((j + 1 : Nat) : Int) := by unfold wrap64; omega
  refine Ev.step (fun k => by simp only [payrollref34_Lines.l0]; rfl) (Ev.ifp (by omega) (Ev.ifp (by omega) ?_))
  rw [e1]
  by_cases hb : s.data.toList.getD j 0 = 10
  · refine Ev.ifp ((bt_byte (n := 10) (by decide)).2 hb) (Ev.ifp (by omega) (Ev.ifp (by omega) (Ev.ifp (by omega) (Ev.ifp (by omega) ?_))))
    have := ih (j + 1) (j + 1) (out ++ [s.extract i j]) (by omega) (by omega) (by simp; omega) (by simp)
    have hp := pieces_here hi (by omega) hb hn
    refine this.cast ?_
    have hne := pieces_ne 10 s (j + 1)
    simp only [hp]
    rw [List.dropLast_cons_of_ne_nil hne, List.append_assoc]
    congr 2
    rw [List.getLast_cons hne]
  · refine Ev.ifn (fun h => hb ((bt_byte (n := 10) (by decide)).1 h)) ?_
    refine ih (j + 1) i out (by omega) (by omega) (by omega) ?_
    rw [take_more s i j hi (by omega), List.mem_append, List.mem_singleton]
    rintro (h | h)
    · exact hn h
    · exact hb h.symm
theorem lines_ref (s : ByteArray) (hs : s.size ≤ 1000000) : Ev (fun k => payrollref34_Lines.f k s) ((splitP s 10).dropLast, decide ((splitP s 10).getLast (splitP_ne s 10) = (⟨#[]⟩ : ByteArray))) := by
 unfold payrollref34_Lines.f
 have := lines_loop s hs s.size 0 0 [] (by omega) (by omega) (by simp) (by simp)
 refine this.cast ?_
 simp only [split_pieces, List.nil_append]
theorem words_loop (s : ByteArray) (hs : s.size ≤ 1000000) : ∀ (m j i : Nat) (out : List ByteArray), j + m = s.size → i ≤ j → out.length ≤ j → (32 : UInt8) ∉ (s.data.toList.drop i).take (j - i) →
 Ev (fun k => payrollref34_Words.l0 k s out (i : Int) (j : Int)) (out ++ pieces 32 s i) := by
 intro m
 induction m with
 | zero =>
  intro j i out hj hi ho hn
  have : j = s.size := by omega
  subst this
  have e1 : wrap64 ((s.size : Int) + 1) = ((s.size + 1 : Nat) : Int) := by unfold wrap64; omega
  refine Ev.step (fun k => by simp only [payrollref34_Words.l0]; rfl) ?_
  refine Ev.ifp (by omega) (Ev.ifp trivial (Ev.ifp (by omega) (Ev.ifp (by omega) (Ev.ifp (by omega) ?_))))
  rw [e1, Int.toNat_natCast, Int.toNat_natCast]
  refine Ev.step (fun k => by simp only [payrollref34_Words.l0]; rfl) (Ev.ifn (by omega) ((Ev.now _).cast ?_))
  rw [pieces_end hi hn]
 | succ m ih =>
  intro j i out hj hi ho hn
  have e1 : wrap64 ((j : Int) + 1) = ((j + 1 : Nat) : Int) := by unfold wrap64; omega
  refine Ev.step (fun k => by simp only [payrollref34_Words.l0]; rfl) (Ev.ifp (by omega) (Ev.ifn (by omega) (Ev.ifp (by omega) (Ev.ifp (by omega) ?_))))
  rw [e1]
  by_cases hb : s.data.toList.getD j 0 = 32
  · refine Ev.ifp ((bt_byte (n := 32) (by decide)).2 hb) (Ev.ifp (by omega) (Ev.ifp (by omega) (Ev.ifp (by omega) ?_)))
    rw [Int.toNat_natCast, Int.toNat_natCast]
    have := ih (j + 1) (j + 1) (out ++ [s.extract i j]) (by omega) (by omega) (by simp; omega) (by simp)
    refine this.cast ?_
    rw [pieces_here hi (by omega) hb hn, List.append_assoc]
    rfl
  · refine Ev.ifn (fun h => hb ((bt_byte (n := 32) (by decide)).1 h)) ?_
    refine ih (j + 1) i out (by omega) (by omega) (by omega) ?_
    rw [take_more s i j hi (by omega), List.mem_append, List.mem_singleton]
    rintro (h | h)
    · exact hn h
    · exact hb h.symm
theorem words_ref (s : ByteArray) (hs : s.size ≤ 1000000) : Ev (fun k => payrollref34_Words.f k s) (splitP s 32) := by
 unfold payrollref34_Words.f
 have := words_loop s hs s.size 0 0 [] (by omega) (by omega) (by simp) (by simp)
 refine this.cast ?_
 rw [split_pieces, List.nil_append]
end Go.Proofs.YtejgfblphgcgkaaGreatDoor.P
namespace Go.Proofs.YtejgfblphgcgkaaGreatDoor.P
set_option linter.unusedVariables false
set_option linter.unusedSimpArgs false
open Go.RowKit Go.Proofs.YtejgfblphgcgkaaGreatDoorW.PrintWords
theorem digit_byte {b : UInt8} {v : Nat} (h : Lib.digitVal b = some v) : b = UInt8.ofNat (48 + v) ∧ v < 10 ∧ b.toNat = 48 + v := by
 unfold Lib.digitVal at h
 split at h
 · injection h with h
   have e : b.toNat = 48 + v := by omega
   exact ⟨by rw [← e]; exact (UInt8.ofNat_toNat).symm, by omega, e⟩
 · cases h
theorem dec_canon : ∀ (n : Nat) (d : List UInt8) (u : Nat), d.length = n → d ≠ [] → Lib.decFrom 0 d = some u → (d.length = 1 ∨ d.head? ≠ some 48) → Lib.decDigits u = d ∧ (d.head? ≠ some 48 → 1 ≤ u) := by
 intro n
 induction n with
 | zero => intro d u h0 hn; exact absurd (List.length_eq_zero_iff.1 h0) hn
 | succ n ih =>
  intro d u hl hn hu hc
  rcases List.eq_nil_or_concat d with rfl | ⟨e, b, rfl⟩
  · exact absurd rfl hn
  · rw [List.concat_eq_append] at *
    rw [decFrom_append] at hu
    cases hm : Lib.decFrom 0 e with
    | none => rw [hm] at hu; cases hu
    | some m =>
     rw [hm] at hu
     simp only [Option.bind_some, Lib.decFrom] at hu
     cases hv : Lib.digitVal b with
     | none => rw [hv] at hu; cases hu
     | some v =>
      rw [hv] at hu
      obtain ⟨hb, h10, hbn⟩ := digit_byte hv
      have hu' : u = m * 10 + v := (Option.some.inj hu).symm
      by_cases he : e = []
      · subst he
        have : m = 0 := by simpa [Lib.decFrom] using hm.symm
        subst this
        have e1 : u = v := by omega
        subst e1
        rw [Lib.decDigits_one h10, hb]
        refine ⟨rfl, fun h => ?_⟩
        rcases Nat.eq_zero_or_pos u with h0 | h0
        · exact absurd (by rw [h0]; rfl) h
        · exact h0
      · have hh : (e ++ [b]).head? = e.head? := by
         cases e with
         | nil => exact absurd rfl he
         | cons x r => rfl
        have h2 : (e ++ [b]).head? ≠ some 48 := by
         rcases hc with hc | hc
         · rw [List.length_append, List.length_singleton] at hc
           have := List.length_pos_iff.2 he
           omega
         · exact hc
        rw [hh] at h2
        obtain ⟨i1, i2⟩ := ih e m (by rw [List.length_append, List.length_singleton] at hl; omega) he hm (Or.inr h2)
        have hm1 := i2 h2
        rw [Lib.decDigits, dif_neg (by omega), show u / 10 = m by omega, show u % 10 = v by omega, i1, ← hb]
        exact ⟨rfl, fun _ => by omega⟩
theorem dec_first (u : Nat) (h : 1 ≤ u) : (Lib.decDigits u).head? ≠ some 48 := by
 induction u using Nat.strongRecOn with
 | _ u ih =>
  by_cases h10 : u < 10
  · rw [Lib.decDigits_one h10]
    intro e
    simp only [List.head?_cons, Option.some.injEq] at e
    have := ofNat_dig h10
    rw [e] at this
    have h48 : (48 : UInt8).toNat = 48 := rfl
    omega
  · rw [Lib.decDigits, dif_neg h10]
    have hi := ih (u / 10) (by omega) (by omega)
    have hl := dec_len (u / 10)
    cases e : Lib.decDigits (u / 10) with
    | nil => rw [e] at hl; exact absurd hl (by decide)
    | cons x r => rw [e] at hi; exact hi
theorem itoaB_eq (n : Int) : (itoaB n).data.toList = Lib.itoa n := by unfold itoaB; simp
def big19 : List UInt8 := [49, 48, 48, 48, 48, 48, 48, 48, 48, 48, 48, 48, 48, 48, 48, 48, 48, 48, 48]
def numV (neg : Bool) (d : List UInt8) : Int × Bool := match Lib.decFrom 0 d with | some u => (if neg = true then -(u : Int) else (u : Int), true) | none => (0, false)
theorem num_loop (neg : Bool) (d : ByteArray) (hd : d.size ≤ 18 ∨ d.data.toList = big19) : ∀ (j i m : Nat), i + j = d.size → Lib.decFrom 0 (d.data.toList.take i) = some m →
 Ev (fun k => payrollref34_Number.l0 k neg d (m : Int) (i : Int)) (numV neg d.data.toList) := by
 have hsz : d.data.toList.length = d.size := rfl
 have h19 : d.size ≤ 19 := by
  rcases hd with h | h
  · omega
  · rw [← hsz, h]; decide
 have hbig : ∀ i m, i ≤ d.size → i < d.size → Lib.decFrom 0 (d.data.toList.take i) = some m → m ≤ 100000000000000000 := by
  intro i m hi hlt hm
  rcases Nat.lt_or_ge 17 i with c | c
  · rcases hd with h | h
    · omega
    · have : i = 18 := by omega
      subst this
      rw [h] at hm
      have h18 : Lib.decFrom 0 (big19.take 18) = some 100000000000000000 := by decide +kernel
      rw [h18] at hm
      injection hm with hm
      omega
  · have := Lib.decFrom_take_lt hm c; omega
 have hall : ∀ i m, i ≤ d.size → Lib.decFrom 0 (d.data.toList.take i) = some m → m ≤ 1000000000000000000 := by
  intro i m hi hm
  rcases Nat.lt_or_ge i d.size with c | c
  · have := hbig i m hi c hm; omega
  · rw [List.take_of_length_le (by omega)] at hm
    rcases hd with h | h
    · have := Lib.decFrom_lt18 hm (by omega); omega
    · rw [h] at hm
      have h18 : Lib.decFrom 0 big19 = some 1000000000000000000 := by decide +kernel
      rw [h18] at hm
      injection hm with hm
      omega
 intro j
 induction j with
 | zero =>
  intro i m hi hm
  have := hall i m (by omega) hm
  rw [List.take_of_length_le (by omega)] at hm
  have e1 : wrap64 (-(m : Int)) = -(m : Int) := by unfold wrap64; omega
  refine Ev.step (fun k => by simp only [payrollref34_Number.l0]; rfl) (Ev.ifn (by omega) ?_)
  unfold numV
  rw [hm, e1]
  cases neg with
  | true => exact Ev.ifp (by trivial) (Ev.now _)
  | false => exact Ev.ifn (by decide) (Ev.now _)
 | succ j ih =>
  intro i m hi hm
  have hlt : i < d.data.toList.length := by omega
  have hb := hbig i m (by omega) (by omega) hm
  have eb : bt d (i : Int) = ((d.data.toList[i]'hlt).toNat : Int) := by
   rw [bt_list, Int.toNat_natCast, List.getD_eq_getElem?_getD, List.getElem?_eq_getElem hlt]; rfl
  have hget : d.data.toList[i]? = some (d.data.toList[i]'hlt) := List.getElem?_eq_getElem hlt
  generalize d.data.toList[i]'hlt = b at eb hget
  refine Ev.step (fun k => by simp only [payrollref34_Number.l0]; rfl) (Ev.ifp (by omega) (Ev.ifp (by omega) ?_))
  rw [eb]
  have hbad : Lib.digitVal b = none → numV neg d.data.toList = (0, false) := by
   intro hv
   unfold numV
   cases hu : Lib.decFrom 0 d.data.toList with
   | none => rfl
   | some u =>
    obtain ⟨v, hv2⟩ := Lib.digit_of_decFrom _ _ _ hu i b hget
    rw [hv] at hv2; cases hv2
  by_cases h1 : (b.toNat : Int) < 48
  · refine Ev.ifp h1 ((Ev.now _).cast (hbad ?_).symm)
    unfold Lib.digitVal; rw [if_neg (by omega)]
  · refine Ev.ifn h1 ?_
    by_cases h2 : (b.toNat : Int) > 57
    · refine Ev.ifp h2 ((Ev.now _).cast (hbad ?_).symm)
      unfold Lib.digitVal; rw [if_neg (by omega)]
    · refine Ev.ifn h2 ?_
      have hv : Lib.digitVal b = some (b.toNat - 48) := by unfold Lib.digitVal; rw [if_pos (by omega)]
      have hm2 := Lib.decFrom_take d.data.toList i 0 m b (b.toNat - 48) hm hget hv
      have e2 : wrap64 ((i : Int) + 1) = ((i + 1 : Nat) : Int) := by unfold wrap64; omega
      have e3 : wrap64 ((wrap64 (10 * (m : Int))) + (((b.toNat : Int) - 48) % 256)) = ((m * 10 + (b.toNat - 48) : Nat) : Int) := by
       have hb256 := b.toNat_lt
       have e4 : ((b.toNat : Int) - 48) % 256 = ((b.toNat - 48 : Nat) : Int) := by omega
       rw [wrap64_in (n := 10 * (m : Int)) (by unfold I64; omega), e4, wrap64_in (by unfold I64; omega)]
       omega
      rw [e2, e3]
      exact ih (i + 1) _ (by omega) hm2
theorem num_start (neg : Bool) (d : ByteArray) (hd : d.size ≤ 18 ∨ d.data.toList = big19) : Ev (fun k => payrollref34_Number.l0 k neg d 0 0) (numV neg d.data.toList) := num_loop neg d hd d.size 0 0 (by omega) rfl
def numOk (neg : Bool) (d : List UInt8) : Bool := decide (d ≠ []) && decide (d.length ≤ 18 ∨ d = big19) && !(decide (d.head? = some 48) && (decide (1 < d.length) || neg))
theorem num_j1 (neg : Bool) (d : ByteArray) (hs : d.size ≤ 65536) : Ev (fun k => payrollref34_Number.j1 k neg d) (if numOk neg d.data.toList = true then numV neg d.data.toList else (0, false)) := by
 have hsz : d.data.toList.length = d.size := rfl
 have hb19 : big19.length = 19 := rfl
 have hbad : Ev (fun k => payrollref34_Number.j2 k neg d true) (0, false) := by
  refine Ev.step (fun k => by simp only [payrollref34_Number.j2]; rfl) ?_
  exact Ev.ifp (by trivial) (Ev.now _)
 have hgood : ∀ b : Bool, (d.size ≤ 18 ∨ d.data.toList = big19) → Ev (fun k => payrollref34_Number.j2 k neg d b) (if b = true then (0, false) else numV neg d.data.toList) := by
  intro b hd
  refine Ev.step (fun k => by simp only [payrollref34_Number.j2]; rfl) ?_
  cases b with
  | true => exact Ev.ifp (by trivial) (Ev.now _)
  | false => exact Ev.ifn (by decide) (num_start neg d hd)
 have htail : d.data.toList ≠ [] → (d.size ≤ 18 ∨ d.data.toList = big19) → Ev (fun k => if 0 < (d.size : Int) then (if (bt d 0) = 48 then (if (d.size : Int) > 1 then (payrollref34_Number.j2 k neg d true) else (payrollref34_Number.j2 k neg d neg)) else (payrollref34_Number.j2 k neg d false)) else none) (if numOk neg d.data.toList = true then numV neg d.data.toList else (0, false)) := by
  intro hne hd
  have hpos : 0 < d.data.toList.length := List.length_pos_iff.2 hne
  refine Ev.ifp (by omega) ?_
  have h0 : bt d 0 = 48 ↔ d.data.toList.head? = some 48 := by
   have := bt_byte (s := d) (j := 0) (n := 48) (by decide)
   rw [show ((0 : Nat) : Int) = 0 from rfl, show ((48 : Nat) : Int) = 48 from rfl] at this
   rw [this, List.head?_eq_getElem?, List.getD_eq_getElem?_getD]
   rw [List.getElem?_eq_getElem hpos]
   simp
  have hd2 : d.data.toList.length ≤ 18 ∨ d.data.toList = big19 := by rw [hsz]; exact hd
  by_cases c : bt d 0 = 48
  · refine Ev.ifp c ?_
    have c2 := h0.1 c
    by_cases g : (d.size : Int) > 1
    · refine Ev.ifp g (hbad.cast ?_)
      unfold numOk
      rw [if_neg]
      rw [decide_eq_true c2, decide_eq_true (show 1 < d.data.toList.length by omega)]
      simp
    · refine Ev.ifn g ((hgood neg hd).cast ?_)
      unfold numOk
      rw [decide_eq_true c2, decide_eq_true hne, decide_eq_true hd2, decide_eq_false (show ¬ 1 < d.data.toList.length by omega)]
      cases neg <;> simp
  · refine Ev.ifn c ((hgood false hd).cast ?_)
    unfold numOk
    rw [decide_eq_false (fun h => c (h0.2 h)), decide_eq_true hne, decide_eq_true hd2]
    simp
 refine Ev.step (fun k => by simp only [payrollref34_Number.j1]; rfl) ?_
 rw [Lib.toList_data]
 by_cases hne : d.data.toList = []
 · refine Ev.ifp hne (hbad.cast ?_)
   unfold numOk; rw [decide_eq_false (fun h => h hne)]; simp
 · refine Ev.ifn hne ?_
   by_cases h1 : (d.size : Int) > 19
   · refine Ev.ifp h1 (hbad.cast ?_)
     unfold numOk
     rw [decide_eq_false (show ¬ (d.data.toList.length ≤ 18 ∨ d.data.toList = big19) from fun h => by
      rcases h with h | h
      · omega
      · rw [h] at hsz; omega)]
     simp
   · refine Ev.ifn h1 ?_
     by_cases h2 : (d.size : Int) = 19
     · refine Ev.ifp h2 ?_
       by_cases h3 : d.data.toList = big19
       · exact Ev.ifp h3 (htail hne (Or.inr h3))
       · refine Ev.ifn h3 (hbad.cast ?_)
         unfold numOk
         rw [decide_eq_false (show ¬ (d.data.toList.length ≤ 18 ∨ d.data.toList = big19) from fun h => by
          rcases h with h | h
          · omega
          · exact h3 h)]
         simp
     · exact Ev.ifn h2 (htail hne (Or.inl (by omega)))
theorem numV_canon {neg : Bool} {d : List UInt8} (h : numOk neg d = true) {r : Int × Bool} (hr : numV neg d = r) (h2 : r.2 = true) : ∃ u : Nat, Lib.decDigits u = d ∧ r = (if neg = true then -(u : Int) else (u : Int), true) ∧ (neg = true → 1 ≤ u) := by
 unfold numOk at h
 simp only [Bool.and_eq_true, decide_eq_true_eq, Bool.not_eq_true', Bool.and_eq_false_iff, Bool.or_eq_false_iff, decide_eq_false_iff_not] at h
 obtain ⟨⟨hne, hl⟩, hz⟩ := h
 unfold numV at hr
 cases hu : Lib.decFrom 0 d with
 | none => rw [hu] at hr; subst hr; cases h2
 | some u =>
  rw [hu] at hr
  have hc : d.length = 1 ∨ d.head? ≠ some 48 := by
   rcases hz with hz | hz
   · exact Or.inr hz
   · left
     have := List.length_pos_iff.2 hne
     omega
  obtain ⟨k1, k2⟩ := dec_canon d.length d u rfl hne hu hc
  refine ⟨u, k1, hr.symm, fun hn => k2 ?_⟩
  rcases hz with hz | hz
  · exact hz
  · rw [hn] at hz; cases hz.2
theorem number_ref (s : ByteArray) (hs : s.size ≤ 65536) : ∃ r, Ev (fun k => payrollref34_Number.f k s) r ∧ (r.2 = true → itoaB r.1 = s) ∧ (∀ n : Int, -1000000000000000000 < n → n < 1000000000000000000 → s = itoaB n → r = (n, true)) := by
 have hsz : s.data.toList.length = s.size := rfl
 have hlen : ∀ u : Nat, u < 1000000000000000000 → (Lib.decDigits u).length ≤ 18 := by
  intro u hu; rw [Lib.decDigits_length]; exact nDigits_le 17 u (by omega)
 by_cases hneg : s.data.toList.head? = some 45 ∧ 1 < s.size
 · -- a sign
   obtain ⟨hh, h1⟩ := hneg
   have h0 : bt s 0 = 45 := by
    have := bt_byte (s := s) (j := 0) (n := 45) (by decide)
    rw [show ((0 : Nat) : Int) = 0 from rfl, show ((45 : Nat) : Int) = 45 from rfl] at this
    rw [this, List.getD_eq_getElem?_getD, ← List.head?_eq_getElem?, hh]; rfl
   have hd : (s.extract 1 s.size).data.toList = s.data.toList.tail := by
    rw [ext_list s 1 s.size (by omega) (Nat.le_refl _), List.drop_one, List.take_of_length_le (by rw [List.length_tail]; omega)]
   have hcons : s.data.toList = 45 :: s.data.toList.tail := by
    cases e : s.data.toList with
    | nil => rw [e] at hh; cases hh
    | cons x r => rw [e] at hh; injection hh with hh; rw [hh]; rfl
   have hj := num_j1 true (s.extract 1 s.size) (by rw [ByteArray.size_extract]; omega)
   rw [hd] at hj
   refine ⟨if numOk true s.data.toList.tail = true then numV true s.data.toList.tail else (0, false), ?_, ?_, ?_⟩
   · unfold payrollref34_Number.f
     refine Ev.ifp (by omega) (Ev.ifp (by omega) ?_)
     rw [h0]
     refine Ev.step (fun k => by simp only [payrollref34_Number.j0]; rfl) ?_
     exact Ev.ifp (by decide) (Ev.ifp (by omega) hj)
   · intro h2
     by_cases hok : numOk true s.data.toList.tail = true
     · rw [if_pos hok] at h2 ⊢
       obtain ⟨u, k1, k2, k3⟩ := numV_canon hok rfl h2
       rw [k2]
       apply ext_data
       rw [itoaB_eq, if_pos rfl, Lib.itoa_neg u (k3 rfl), k1, ← hcons]
     · rw [if_neg hok] at h2; cases h2
   · intro n hn1 hn2 he
     have hl : s.data.toList = Lib.itoa n := by rw [he, itoaB_eq]
     have hneg : n < 0 := by
      rcases Int.lt_or_le n 0 with h | h
      · exact h
      · exfalso
        unfold Lib.itoa at hl
        rw [if_neg (by omega)] at hl
        obtain ⟨c, r, hc, hdig⟩ := dec_head n.toNat
        rw [hc] at hl
        rw [hl] at hh
        injection hh with hh
        unfold isDig at hdig
        rw [hh] at hdig
        exact absurd hdig.1 (by decide)
     have ht : s.data.toList.tail = Lib.decDigits n.natAbs := by
      rw [hl]; unfold Lib.itoa; rw [if_pos hneg]; rfl
     rw [ht]
     have hu := (dec_spells n.natAbs).1
     have hok : numOk true (Lib.decDigits n.natAbs) = true := by
      unfold numOk
      have a1 := hlen n.natAbs (by omega)
      have a2 := dec_first n.natAbs (by omega)
      have a3 := dec_len n.natAbs
      rw [decide_eq_true (show Lib.decDigits n.natAbs ≠ [] from fun h => by rw [h] at a3; exact absurd a3 (by decide)), decide_eq_true (Or.inl a1), decide_eq_false a2]
      rfl
     rw [if_pos hok]
     unfold numV
     rw [hu]
     show ((-(n.natAbs : Int), true) : Int × Bool) = (n, true)
     congr 1; omega
 · -- none
   have hf : Ev (fun k => payrollref34_Number.f k s) (if numOk false s.data.toList = true then numV false s.data.toList else (0, false)) := by
    unfold payrollref34_Number.f
    by_cases h1 : (s.size : Int) > 1
    · refine Ev.ifp h1 (Ev.ifp (by omega) ?_)
      have h0 : ((bt s 0) == 45) = false := by
       rw [beq_eq_false_iff_ne]
       intro h
       apply hneg
       have := bt_byte (s := s) (j := 0) (n := 45) (by decide)
       rw [show ((0 : Nat) : Int) = 0 from rfl, show ((45 : Nat) : Int) = 45 from rfl] at this
       have h3 := this.1 h
       refine ⟨?_, by omega⟩
       rw [List.getD_eq_getElem?_getD, ← List.head?_eq_getElem?] at h3
       cases e : s.data.toList.head? with
       | none =>
        rw [List.head?_eq_none_iff] at e
        rw [e] at hsz; simp at hsz; omega
       | some x => rw [e] at h3; exact congrArg some h3
      rw [h0]
      refine Ev.step (fun k => by simp only [payrollref34_Number.j0]; rfl) ?_
      exact Ev.ifn (by decide) (num_j1 false s hs)
    · refine Ev.ifn h1 ?_
      refine Ev.step (fun k => by simp only [payrollref34_Number.j0]; rfl) ?_
      exact Ev.ifn (by decide) (num_j1 false s hs)
   refine ⟨_, hf, ?_, ?_⟩
   · intro h2
     by_cases hok : numOk false s.data.toList = true
     · rw [if_pos hok] at h2 ⊢
       obtain ⟨u, k1, k2, k3⟩ := numV_canon hok rfl h2
       rw [k2]
       apply ext_data
       rw [itoaB_eq, if_neg (by decide), Lib.itoa_nonneg, k1]
     · rw [if_neg hok] at h2; cases h2
   · intro n hn1 hn2 he
     have hl : s.data.toList = Lib.itoa n := by rw [he, itoaB_eq]
     have hpos : 0 ≤ n := by
      rcases Int.lt_or_le n 0 with h | h
      · exfalso
        apply hneg
        unfold Lib.itoa at hl
        rw [if_pos h] at hl
        have a3 := dec_len n.natAbs
        refine ⟨by rw [hl]; rfl, ?_⟩
        rw [← hsz, hl, List.length_cons]; omega
      · exact h
     have ht : s.data.toList = Lib.decDigits n.natAbs := by
      rw [hl]; unfold Lib.itoa; rw [if_neg (by omega)]; congr 1; omega
     rw [ht]
     have hu := (dec_spells n.natAbs).1
     have hok : numOk false (Lib.decDigits n.natAbs) = true := by
      unfold numOk
      have a1 := hlen n.natAbs (by omega)
      have a3 := dec_len n.natAbs
      rw [decide_eq_true (show Lib.decDigits n.natAbs ≠ [] from fun h => by rw [h] at a3; exact absurd a3 (by decide)), decide_eq_true (Or.inl a1)]
      rcases Nat.eq_zero_or_pos n.natAbs with z | z
      · rw [z, Lib.decDigits_one (by decide)]; rfl
      · rw [decide_eq_false (dec_first n.natAbs z)]; rfl
     rw [if_pos hok]
     unfold numV
     rw [hu]
     show (((n.natAbs : Nat) : Int), true) = (n, true)
     congr 1; omega
end Go.Proofs.YtejgfblphgcgkaaGreatDoor.P
