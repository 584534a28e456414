/- Texts for the law FilingReturns (kept out of a larger one). -/
import Derived.Test.YtejgfblphgcgkaaDoorZFilingReturns12
import Derived.Test.YtejgfblphgcgkaaDoorZFilingReturns14
import Derived.Test.YtejgfblphgcgkaaDoorZFilingReturns35
import Derived.Test.YtejgfblphgcgkaaDoorZFilingReturns13
import Derived.WalkKit
import Derived.Lib.Strings
namespace Go.Proofs.YtejgfblphgcgkaaDoor.P
set_option linter.unusedVariables false
set_option linter.unusedSimpArgs false
open Go.RowKit Go.Proofs.YtejgfblphgcgkaaDoorW.PrintWords
theorem bt_list (s : ByteArray) (i : Int) : bt s i = ((s.data.toList.getD i.toNat 0).toNat : Int) := by
  unfold bt
  by_cases h : i.toNat < s.size
  · rw [dif_pos h]
    have h2 : i.toNat < s.data.toList.length := by rw [data_length]; exact h
    rw [List.getD_eq_getElem?_getD, List.getElem?_eq_getElem h2]
    rfl
  · rw [dif_neg h]
    have h2 : s.data.toList.length ≤ i.toNat := by rw [data_length]; omega
    rw [List.getD_eq_getElem?_getD, List.getElem?_eq_none h2]
    rfl
def charB (c : UInt8) : Bool := (decide (97 ≤ c.toNat) && decide (c.toNat ≤ 122)) || (decide (48 ≤ c.toNat) && decide (c.toNat ≤ 57)) || decide (c.toNat = 95)
def lowerB (c : UInt8) : Bool := decide (97 ≤ c.toNat) && decide (c.toNat ≤ 122)
def digitB (c : UInt8) : Bool := decide (48 ≤ c.toNat) && decide (c.toNat ≤ 57)
theorem letter_eq (c : UInt8) : token_letter.f (c.toNat : Int) = some (lowerB c) := by
  unfold token_letter.f lowerB
  by_cases h : 97 ≤ c.toNat
  · rw [if_pos (by omega)]; simp [h]; omega
  · rw [if_neg (by omega)]; simp [h]
theorem digit_eq (c : UInt8) : token_digit.f (c.toNat : Int) = some (digitB c) := by
  unfold token_digit.f digitB
  by_cases h : 48 ≤ c.toNat
  · rw [if_pos (by omega)]; simp [h]; omega
  · rw [if_neg (by omega)]; simp [h]
theorem charB_eq (c : UInt8) : charB c = (lowerB c || digitB c || decide (c.toNat = 95)) := rfl
theorem drop_all (L : List UInt8) (p : UInt8 → Bool) (i : Nat) (h : i < L.length) : (L.drop i).all p = (p (L.getD i 0) && (L.drop (i + 1)).all p) := by
  rw [List.drop_eq_getElem_cons h, List.all_cons, List.getD_eq_getElem?_getD, List.getElem?_eq_getElem h]; rfl
def nameB (L : List UInt8) : Bool := decide (0 < L.length) && decide (L.length ≤ 24) && lowerB (L.getD 0 0) && L.all charB && !decide (L ∈ kws)
theorem keyword_eq (s : ByteArray) (h : s.size ≤ 281474976710656) : token_IsKeyword.f s = some (decide (s.data.toList ∈ kws)) := by
  unfold token_IsKeyword.f; rw [if_pos h]
theorem name_loop (s : ByteArray) (hs : s.size ≤ 24) : ∀ (m i : Nat), i + m = s.size → Ev (fun k => token_IsName.l0 k s (s.size : Int) (i : Int)) ((s.data.toList.drop i).all charB && !decide (s.data.toList ∈ kws)) := by
  intro m
  induction m with
  | zero =>
    intro i hi
    refine Ev.step (fun k => by simp only [token_IsName.l0]; rfl) (Ev.ifn (by omega) ?_)
    have e : s.data.toList.drop i = [] := List.drop_eq_nil_of_le (by rw [data_length]; omega)
    rw [e]
    exact Ev.bindc (keyword_eq s (by omega)) (Ev.now _)
  | succ m ih =>
    intro i hi
    have hl : i < s.data.toList.length := by rw [data_length]; omega
    have e1 : wrap64 ((i : Int) + 1) = ((i + 1 : Nat) : Int) := by unfold wrap64; omega
    have hb : bt s (i : Int) = ((s.data.toList.getD i 0).toNat : Int) := bt_list s i
    have ih := ih (i + 1) (by omega)
    rw [drop_all _ _ _ hl]
    generalize s.data.toList.getD i 0 = c at *
    have hj : ∀ b : Bool, Ev (fun k => token_IsName.j2 k s (s.size : Int) (i : Int) b) (!b && ((s.data.toList.drop (i + 1)).all charB && !decide (s.data.toList ∈ kws))) := by
      intro b
      refine Ev.step (fun k => by simp only [token_IsName.j2]; rfl) ?_
      cases b with
      | true => exact Ev.ifp (by first | rfl | trivial) (Ev.now _)
      | false => refine Ev.ifn (by decide) ?_; rw [e1]; simpa using ih
    refine Ev.step (fun k => by simp only [token_IsName.l0]; rfl) (Ev.ifp (by omega) (Ev.ifp (by omega) (Ev.ifp (by omega) ?_)))
    rw [hb]
    refine Ev.bindc (letter_eq c) ?_
    by_cases h1 : lowerB c = true
    · refine Ev.ifp h1 ?_
      rw [charB_eq, h1]
      simpa using hj false
    · refine Ev.ifn h1 (Ev.bindc (digit_eq c) ?_)
      have h1' : lowerB c = false := by simpa using h1
      by_cases h2 : digitB c = true
      · refine Ev.ifp h2 ?_
        rw [charB_eq, h1', h2]
        simpa using hj false
      · refine Ev.ifn h2 ?_
        have h2' : digitB c = false := by simpa using h2
        rw [charB_eq, h1', h2']
        have := hj (((c.toNat : Int)) != 95)
        refine this.cast ?_
        by_cases h3 : c.toNat = 95
        · simp [h3]
        · have : ((c.toNat : Int) != 95) = true := by simp; omega
          simp [h3, this]
theorem token_IsName_ev (s : ByteArray) : Ev (fun k => token_IsName.f k s) (nameB s.data.toList) := by
  unfold token_IsName.f
  have ht : s.toList = s.data.toList := Lib.toList_data s
  by_cases h0 : s.toList = []
  · have : nameB s.data.toList = false := by rw [← ht, h0]; rfl
    rw [this]
    refine Ev.ifp h0 (Ev.step (fun k => by simp only [token_IsName.j0]; rfl) (Ev.ifp (by first | rfl | trivial) (Ev.now _)))
  · have hpos : 0 < s.size := by
      rw [← data_length, ← ht]
      exact List.length_pos_iff.2 h0
    by_cases h1 : (s.size : Int) > 24
    · have : nameB s.data.toList = false := by
        unfold nameB
        rw [data_length, decide_eq_false (show ¬ s.size ≤ 24 by omega)]; simp
      rw [this]
      refine Ev.ifn h0 (Ev.ifp h1 (Ev.step (fun k => by simp only [token_IsName.j0]; rfl) (Ev.ifp (by first | rfl | trivial) (Ev.now _))))
    · refine Ev.ifn h0 (Ev.ifn h1 (Ev.ifp (by omega) ?_))
      rw [bt_list]
      show Ev (fun n => (token_letter.f ((s.data.toList.getD 0 0).toNat : Int)).bind _) _
      refine Ev.bindc (letter_eq _) (Ev.step (fun k => by simp only [token_IsName.j0]; rfl) ?_)
      have hn : nameB s.data.toList = (lowerB (s.data.toList.getD 0 0) && (s.data.toList.all charB && !decide (s.data.toList ∈ kws))) := by
        unfold nameB
        rw [data_length, decide_eq_true hpos, decide_eq_true (show s.size ≤ 24 by omega)]; simp [Bool.and_assoc]
      rw [hn]
      by_cases h2 : lowerB (s.data.toList.getD 0 0) = true
      · refine Ev.ifn (by rw [h2]; decide) ?_
        have := name_loop s (by omega) s.size 0 (by omega)
        refine this.cast ?_
        rw [h2]; simp
      · refine Ev.ifp (by simpa using h2) ?_
        have h2' : lowerB (s.data.toList.getD 0 0) = false := by simpa using h2
        rw [h2']; exact Ev.now _
end Go.Proofs.YtejgfblphgcgkaaDoor.P
