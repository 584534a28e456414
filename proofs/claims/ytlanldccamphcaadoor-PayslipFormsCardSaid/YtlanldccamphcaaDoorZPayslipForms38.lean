/- Texts for the law PayslipForms (kept out of a larger one). -/
import Derived.Test.YtlanldccamphcaaDoorZPayslipForms11
import Derived.Test.YtlanldccamphcaaDoorZPayslipForms14
import Derived.Test.YtlanldccamphcaaDoorZPayslipForms33
import Derived.Test.YtlanldccamphcaaDoorZPayslipForms34
import Derived.Test.YtlanldccamphcaaDoorZPayslipForms36
import Derived.Test.YtlanldccamphcaaDoorZPayslipForms13
import Derived.WalkKit
namespace Go.Proofs.YtlanldccamphcaaDoor.P
set_option linter.unusedVariables false
set_option linter.unusedSimpArgs false
open Go.RowKit Go.Proofs.YtlanldccamphcaaDoorW.PrintWords
theorem bt_list (s : ByteArray) (i : Int) : bt s i = ((s.data.toList.getD i.toNat 0).toNat : Int) := by
  unfold bt
  by_cases h : i.toNat < s.size
  · rw [dif_pos h]
    have h2 : i.toNat < s.data.toList.length := by rw [data_length]; exact h
    rw [List.getD_eq_getElem?_getD, List.getElem?_eq_getElem h2]
    rfl
  · rw [dif_neg h]
    have h2 : s.data.toList.length ≤ i.toNat := by rw [data_length]; omega
    rw [List.getD_eq_getElem?_getD, List.getElem?_eq_none h2]
    rfl
def charB (c : UInt8) : Bool := (decide (97 ≤ c.toNat) && decide (c.toNat ≤ 122)) || (decide (48 ≤ c.toNat) && decide (c.toNat ≤ 57)) || decide (c.toNat = 95)
def lowerB (c : UInt8) : Bool := decide (97 ≤ c.toNat) && decide (c.toNat ≤ 122)
def digitB (c : UInt8) : Bool := decide (48 ≤ c.toNat) && decide (c.toNat ≤ 57)
theorem letter_eq (c : UInt8) : token_letter.f (c.toNat : Int) = some (lowerB c) := by
  unfold token_letter.f lowerB
  by_cases h : 97 ≤ c.toNat
  · rw [if_pos (by omega)]; simp [h]; omega
  · rw [if_neg (by omega)]; simp [h]
theorem digit_eq (c : UInt8) : token_digit.f (c.toNat : Int) = some (digitB c) := by
  unfold token_digit.f digitB
  by_cases h : 48 ≤ c.toNat
  · rw [if_pos (by omega)]; simp [h]; omega
  · rw [if_neg (by omega)]; simp [h]
theorem rlower_eq (c : UInt8) : payrollref17_lower.f (c.toNat : Int) = some (lowerB c) := by
  unfold payrollref17_lower.f lowerB
  by_cases h : 97 ≤ c.toNat
  · rw [if_pos (by omega)]; simp [h]; omega
  · rw [if_neg (by omega)]; simp [h]
theorem rdigit_eq (c : UInt8) : payrollref17_digit.f (c.toNat : Int) = some (digitB c) := by
  unfold payrollref17_digit.f digitB
  by_cases h : 48 ≤ c.toNat
  · rw [if_pos (by omega)]; simp [h]; omega
  · rw [if_neg (by omega)]; simp [h]
theorem charB_eq (c : UInt8) : charB c = (lowerB c || digitB c || decide (c.toNat = 95)) := rfl
theorem drop_all (L : List UInt8) (p : UInt8 → Bool) (i : Nat) (h : i < L.length) : (L.drop i).all p = (p (L.getD i 0) && (L.drop (i + 1)).all p) := by
  rw [List.drop_eq_getElem_cons h, List.all_cons, List.getD_eq_getElem?_getD, List.getElem?_eq_getElem h]; rfl
def nameB (L : List UInt8) : Bool := decide (0 < L.length) && decide (L.length ≤ 24) && lowerB (L.getD 0 0) && L.all charB && !decide (L ∈ kws)
theorem keyword_eq (s : ByteArray) (h : s.size ≤ 281474976710656) : token_IsKeyword.f s = some (decide (s.data.toList ∈ kws)) := by
  unfold token_IsKeyword.f; rw [if_pos h]
theorem name_loop (s : ByteArray) (hs : s.size ≤ 24) : ∀ (m i : Nat), i + m = s.size → Ev (fun k => token_IsName.l0 k s (s.size : Int) (i : Int)) ((s.data.toList.drop i).all charB && !decide (s.data.toList ∈ kws)) := by
  intro m
  induction m with
  | zero =>
    intro i hi
    refine Ev.step (fun k => by simp only [token_IsName.l0]; rfl) (Ev.ifn (by omega) ?_)
    have e : s.data.toList.drop i = [] := List.drop_eq_nil_of_le (by rw [data_length]; omega)
    rw [e]
    exact Ev.bindc (keyword_eq s (by omega)) (Ev.now _)
  | succ m ih =>
    intro i hi
    have hl : i < s.data.toList.length := by rw [data_length]; omega
    have e1 : wrap64 ((i : Int) + 1) = ((i + 1 : Nat) : Int) := by unfold wrap64; omega
    have hb : bt s (i : Int) = ((s.data.toList.getD i 0).toNat : Int) := bt_list s i
    have ih := ih (i + 1) (by omega)
    rw [drop_all _ _ _ hl]
    generalize s.data.toList.getD i 0 = c at *
    have hj : ∀ b : Bool, Ev (fun k => token_IsName.j2 k s (s.size : Int) (i : Int) b) (!b && ((s.data.toList.drop (i + 1)).all charB && !decide (s.data.toList ∈ kws))) := by
      intro b
      refine Ev.step (fun k => by simp only [token_IsName.j2]; rfl) ?_
      cases b with
      | true => exact Ev.ifp (by first | rfl | trivial) (Ev.now _)
      | false => refine Ev.ifn (by decide) ?_; rw [e1]; simpa using ih
    refine Ev.step (fun k => by simp only [token_IsName.l0]; rfl) (Ev.ifp (by omega) (Ev.ifp (by omega) (Ev.ifp (by omega) ?_)))
    rw [hb]
    refine Ev.bindc (letter_eq c) ?_
    by_cases h1 : lowerB c = true
    · refine Ev.ifp h1 ?_
      rw [charB_eq, h1]
      simpa using hj false
    · refine Ev.ifn h1 (Ev.bindc (digit_eq c) ?_)
      have h1' : lowerB c = false := by simpa using h1
      by_cases h2 : digitB c = true
      · refine Ev.ifp h2 ?_
        rw [charB_eq, h1', h2]
        simpa using hj false
      · refine Ev.ifn h2 ?_
        have h2' : digitB c = false := by simpa using h2
        rw [charB_eq, h1', h2']
        have := hj (((c.toNat : Int)) != 95)
        refine this.cast ?_
        by_cases h3 : c.toNat = 95
        · simp [h3]
        · have : ((c.toNat : Int) != 95) = true := by simp; omega
          simp [h3, this]
theorem token_IsName_ev (s : ByteArray) : Ev (fun k => token_IsName.f k s) (nameB s.data.toList) := by
  unfold token_IsName.f
  have ht : s.toList = s.data.toList := Lib.toList_data s
  by_cases h0 : s.toList = []
  · have : nameB s.data.toList = false := by rw [← ht, h0]; rfl
    rw [this]
    refine Ev.ifp h0 (Ev.step (fun k => by simp only [token_IsName.j0]; rfl) (Ev.ifp (by first | rfl | trivial) (Ev.now _)))
  · have hpos : 0 < s.size := by
      rw [← data_length, ← ht]
      exact List.length_pos_iff.2 h0
    by_cases h1 : (s.size : Int) > 24
    · have : nameB s.data.toList = false := by
        unfold nameB
        rw [data_length, decide_eq_false (show ¬ s.size ≤ 24 by omega)]; simp
      rw [this]
      refine Ev.ifn h0 (Ev.ifp h1 (Ev.step (fun k => by simp only [token_IsName.j0]; rfl) (Ev.ifp (by first | rfl | trivial) (Ev.now _))))
    · refine Ev.ifn h0 (Ev.ifn h1 (Ev.ifp (by omega) ?_))
      rw [bt_list]
      show Ev (fun n => (token_letter.f ((s.data.toList.getD 0 0).toNat : Int)).bind _) _
      refine Ev.bindc (letter_eq _) (Ev.step (fun k => by simp only [token_IsName.j0]; rfl) ?_)
      have hn : nameB s.data.toList = (lowerB (s.data.toList.getD 0 0) && (s.data.toList.all charB && !decide (s.data.toList ∈ kws))) := by
        unfold nameB
        rw [data_length, decide_eq_true hpos, decide_eq_true (show s.size ≤ 24 by omega)]; simp [Bool.and_assoc]
      rw [hn]
      by_cases h2 : lowerB (s.data.toList.getD 0 0) = true
      · refine Ev.ifn (by rw [h2]; decide) ?_
        have := name_loop s (by omega) s.size 0 (by omega)
        refine this.cast ?_
        rw [h2]; simp
      · refine Ev.ifp (by simpa using h2) ?_
        have h2' : lowerB (s.data.toList.getD 0 0) = false := by simpa using h2
        rw [h2']; exact Ev.now _
theorem rkw_loop (s : ByteArray) (X : List ByteArray) (hX : X.length < 1000) : ∀ (m i : Nat), i + m = X.length → Ev (fun k => payrollref17_IsKeyword.l0 k s X (i : Int)) (decide (s.data.toList ∈ (X.drop i).map (fun x => x.data.toList))) := by
  intro m
  induction m with
  | zero =>
    intro i hi
    refine Ev.step (fun k => by simp only [payrollref17_IsKeyword.l0]; rfl) (Ev.ifn (by omega) ?_)
    have e : X.drop i = [] := List.drop_eq_nil_of_le (by omega)
    rw [e]; simpa using Ev.now false
  | succ m ih =>
    intro i hi
    have hl : i < X.length := by omega
    have e1 : wrap64 ((i : Int) + 1) = ((i + 1 : Nat) : Int) := by unfold wrap64; omega
    have hg : rdOf ByteArray.empty X (i : Int) = X[i] := by
      unfold rdOf
      rw [Int.toNat_natCast, List.getD_eq_getElem?_getD, List.getElem?_eq_getElem hl]; rfl
    refine Ev.step (fun k => by simp only [payrollref17_IsKeyword.l0]; rfl) (Ev.ifp (by omega) (Ev.ifp (by omega) ?_))
    rw [hg, List.drop_eq_getElem_cons hl, List.map_cons]
    by_cases h : X[i].toList = s.toList
    · refine Ev.ifp h ?_
      rw [Lib.toList_data, Lib.toList_data] at h
      rw [decide_eq_true (by rw [h]; exact List.mem_cons_self)]
      exact Ev.now _
    · refine Ev.ifn h ?_
      rw [e1]
      refine (ih (i + 1) (by omega)).cast ?_
      rw [Lib.toList_data, Lib.toList_data] at h
      apply Bool.eq_iff_iff.2
      simp only [decide_eq_true_eq, List.mem_cons]
      exact ⟨fun hx => Or.inr hx, fun hx => hx.resolve_left (fun e => h e.symm)⟩
theorem ref17_IsKeyword_ev (s : ByteArray) : Ev (fun k => payrollref17_IsKeyword.f k s) (decide (s.data.toList ∈ kws)) := by
  unfold payrollref17_IsKeyword.f
  refine (rkw_loop s _ (by simp) _ 0 (Nat.zero_add _)).cast ?_
  rfl
theorem word_loop (s : ByteArray) (hs : s.size ≤ 281474976710656) : ∀ (m i : Nat), i + m = s.size → ∃ e : Nat, Ev (fun k => payrollref17_word.l0 k s (i : Int)) (e : Int) ∧ i ≤ e ∧ e ≤ s.size ∧ ((s.data.toList.drop i).all charB = true → e = s.size) ∧ ((s.data.toList.drop i).all charB = false → e < s.size) := by
  intro m
  induction m with
  | zero =>
    intro i hi
    have e : s.data.toList.drop i = [] := List.drop_eq_nil_of_le (by rw [data_length]; omega)
    refine ⟨i, ?_, Nat.le_refl _, by omega, fun _ => by omega, fun h => (by rw [e] at h; cases h)⟩
    refine Ev.step (fun k => by simp only [payrollref17_word.l0]; rfl) (Ev.ifn (by omega) ?_)
    exact Ev.step (fun k => by simp only [payrollref17_word.j2]; rfl) (Ev.ifn (by decide) (Ev.now _))
  | succ m ih =>
    intro i hi
    have hl : i < s.data.toList.length := by rw [data_length]; omega
    have e1 : wrap64 ((i : Int) + 1) = ((i + 1 : Nat) : Int) := by unfold wrap64; omega
    have hb : bt s (i : Int) = ((s.data.toList.getD i 0).toNat : Int) := bt_list s i
    obtain ⟨e, he, h1, h2, h3, h4⟩ := ih (i + 1) (by omega)
    rw [drop_all _ _ _ hl]
    generalize s.data.toList.getD i 0 = c at *
    have hj1 : Ev (fun k => payrollref17_word.j2 k s (i : Int) true) (e : Int) := by
      refine Ev.step (fun k => by simp only [payrollref17_word.j2]; rfl) (Ev.ifp (by first | rfl | trivial) ?_)
      rw [e1]; exact he
    have hj0 : Ev (fun k => payrollref17_word.j2 k s (i : Int) false) (i : Int) :=
      Ev.step (fun k => by simp only [payrollref17_word.j2]; rfl) (Ev.ifn (by decide) (Ev.now _))
    have hd : Ev (fun k => payrollref17_word.l0 k s (i : Int)) (if charB c = true then (e : Int) else (i : Int)) := by
      refine Ev.step (fun k => by simp only [payrollref17_word.l0]; rfl) (Ev.ifp (by omega) (Ev.ifp (by omega) ?_))
      rw [hb]
      refine Ev.bindc (rlower_eq c) ?_
      by_cases g1 : lowerB c = true
      · rw [if_pos (by rw [charB_eq, g1]; rfl)]
        exact Ev.ifp g1 hj1
      · have g1' : lowerB c = false := by simpa using g1
        refine Ev.ifn g1 (Ev.bindc (rdigit_eq c) ?_)
        by_cases g2 : digitB c = true
        · rw [if_pos (by rw [charB_eq, g2]; simp)]
          exact Ev.ifp g2 hj1
        · have g2' : digitB c = false := by simpa using g2
          refine Ev.ifn g2 ?_
          by_cases g3 : c.toNat = 95
          · rw [if_pos (by rw [charB_eq, g3]; simp)]
            have : ((c.toNat : Int) == 95) = true := by simp; omega
            rw [this]; exact hj1
          · rw [if_neg (by rw [charB_eq, g1', g2']; simpa using g3)]
            have : ((c.toNat : Int) == 95) = false := by simp; omega
            rw [this]; exact hj0
    by_cases hc : charB c = true
    · rw [if_pos hc] at hd
      exact ⟨e, hd, by omega, h2, fun h => h3 (by simpa [hc] using h), fun h => h4 (by simpa [hc] using h)⟩
    · rw [if_neg hc] at hd
      have hc' : charB c = false := by simpa using hc
      exact ⟨i, hd, Nat.le_refl _, by omega, fun h => (by rw [hc'] at h; cases h), fun _ => by omega⟩
theorem ref17_IsName_ev (s : ByteArray) : Ev (fun k => payrollref17_IsName.f k s) (nameB s.data.toList) := by
  unfold payrollref17_IsName.f
  have ht : s.toList = s.data.toList := Lib.toList_data s
  by_cases h0 : s.toList = []
  · have : nameB s.data.toList = false := by rw [← ht, h0]; rfl
    rw [this]
    exact Ev.ifp h0 (Ev.now _)
  · have hpos : 0 < s.size := by
      rw [← data_length, ← ht]
      exact List.length_pos_iff.2 h0
    refine Ev.ifn h0 ?_
    by_cases h1 : (s.size : Int) ≤ 24
    · refine Ev.ifp h1 ?_
      have hn : nameB s.data.toList = (lowerB (s.data.toList.getD 0 0) && (s.data.toList.all charB && !decide (s.data.toList ∈ kws))) := by
        unfold nameB
        rw [data_length, decide_eq_true hpos, decide_eq_true (show s.size ≤ 24 by omega)]; simp [Bool.and_assoc]
      rw [hn]
      have hw : Ev (fun k => payrollref17_word.f k s 0) (if lowerB (s.data.toList.getD 0 0) = true then (if s.data.toList.all charB = true then (s.size : Int) else -1) else 0) ∨ (lowerB (s.data.toList.getD 0 0) = true ∧ s.data.toList.all charB = false ∧ ∃ e : Nat, e < s.size ∧ Ev (fun k => payrollref17_word.f k s 0) (e : Int)) := by
        unfold payrollref17_word.f
        obtain ⟨e, he, _, g2, g3, g4⟩ := word_loop s (by omega) s.size 0 (by omega)
        by_cases g : lowerB (s.data.toList.getD 0 0) = true
        · by_cases ga : s.data.toList.all charB = true
          · left
            rw [if_pos g, if_pos ga]
            refine Ev.ifn (by omega) (Ev.ifp (by omega) (Ev.ifp (by omega) ?_))
            rw [bt_list]
            show Ev (fun n => (payrollref17_lower.f ((s.data.toList.getD 0 0).toNat : Int)).bind _) _
            refine Ev.bindc (rlower_eq _) (Ev.step (fun k => by simp only [payrollref17_word.j0]; rfl) (Ev.ifn (by rw [g]; decide) ?_))
            have : e = s.size := g3 (by simpa using ga)
            rw [← this]; exact he
          · right
            have ga' : s.data.toList.all charB = false := by simpa using ga
            refine ⟨g, ga', e, g4 (by simpa using ga'), ?_⟩
            refine Ev.ifn (by omega) (Ev.ifp (by omega) (Ev.ifp (by omega) ?_))
            rw [bt_list]
            show Ev (fun n => (payrollref17_lower.f ((s.data.toList.getD 0 0).toNat : Int)).bind _) _
            exact Ev.bindc (rlower_eq _) (Ev.step (fun k => by simp only [payrollref17_word.j0]; rfl) (Ev.ifn (by rw [g]; decide) he))
        · left
          have g' : lowerB (s.data.toList.getD 0 0) = false := by simpa using g
          rw [if_neg g]
          refine Ev.ifn (by omega) (Ev.ifp (by omega) (Ev.ifp (by omega) ?_))
          rw [bt_list]
          show Ev (fun n => (payrollref17_lower.f ((s.data.toList.getD 0 0).toNat : Int)).bind _) _
          exact Ev.bindc (rlower_eq _) (Ev.step (fun k => by simp only [payrollref17_word.j0]; rfl) (Ev.ifp (by rw [g']; rfl) (Ev.now _)))
      rcases hw with hw | ⟨g, ga, e, hlt, hw⟩
      · refine Ev.bind hw ?_
        by_cases g : lowerB (s.data.toList.getD 0 0) = true
        · rw [if_pos g, g]
          by_cases ga : s.data.toList.all charB = true
          · rw [if_pos ga, ga]
            refine Ev.ifp (by first | rfl | trivial) (Ev.bind (ref17_IsKeyword_ev s) (Ev.now _))
          · rw [if_neg ga]
            have ga' : s.data.toList.all charB = false := by simpa using ga
            rw [ga']
            exact Ev.ifn (by omega) (Ev.now _)
        · have g' : lowerB (s.data.toList.getD 0 0) = false := by simpa using g
          rw [if_neg g, g']
          exact Ev.ifn (by omega) (Ev.now _)
      · refine Ev.bind hw ?_
        rw [g, ga]
        exact Ev.ifn (by omega) (Ev.now _)
    · have : nameB s.data.toList = false := by
        unfold nameB
        rw [data_length, decide_eq_false (show ¬ s.size ≤ 24 by omega)]; simp
      rw [this]
      exact Ev.ifn h1 (Ev.now _)
end Go.Proofs.YtlanldccamphcaaDoor.P
