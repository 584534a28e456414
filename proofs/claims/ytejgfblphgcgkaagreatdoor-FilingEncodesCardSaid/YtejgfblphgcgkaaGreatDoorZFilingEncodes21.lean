/- Texts for the law FilingEncodes (kept out of a larger one). -/
import Derived.Test.YtejgfblphgcgkaaGreatDoorZFilingEncodes3
import Derived.Test.YtejgfblphgcgkaaGreatDoorZFilingEncodes8
import Derived.Test.YtejgfblphgcgkaaGreatDoorZFilingEncodes9
import Derived.WalkKit
import Derived.Test.YtejgfblphgcgkaaGreatDoorZFilingEncodes4
import Derived.Lib.Strings
import Derived.Test.YtejgfblphgcgkaaGreatDoorZFilingEncodes5
import Derived.Test.YtejgfblphgcgkaaGreatDoorZFilingEncodes10
import Derived.Test.YtejgfblphgcgkaaGreatDoorZFilingEncodes14
import Derived.Laws.Strings
import Derived.Lib.AtoiTie
import Derived.Lib.ItoaMem
import Derived.Lib.ItoaLen
import Derived.Lib.IndexLaws
import Derived.Lib.SplitLaws
namespace Go.Proofs.YtejgfblphgcgkaaGreatDoor.P
set_option linter.unusedVariables false
open Go.RowKit Go.Proofs.YtejgfblphgcgkaaGreatDoorW.PrintWords
def Near (p : Int) : Prop := 0 ≤ p ∧ p ≤ 1000000000000
theorem tmod_range (x n : Int) (hn : 1 ≤ n) (hn2 : n ≤ 4611686018427387904) : ∃ v, 0 ≤ v ∧ v < n ∧ (if Int.tmod x n < 0 then wrap64 (Int.tmod x n + n) else Int.tmod x n) = v := by
  have h1 : Int.tmod x n < n := Int.tmod_lt_of_pos x (by omega)
  have h2 : -n < Int.tmod x n := by
    have h3 := Int.tmod_lt_of_pos (-x) (by omega : (0 : Int) < n)
    rw [Int.neg_tmod] at h3; omega
  by_cases h : Int.tmod x n < 0
  · exact ⟨Int.tmod x n + n, by omega, by omega, by rw [if_pos h]; unfold wrap64; omega⟩
  · exact ⟨Int.tmod x n, by omega, h1, by rw [if_neg h]⟩
theorem deck_mod (x n : Int) (hn : 1 ≤ n) (hn2 : n ≤ 4611686018427387904) : ∃ v, paygen_Mod.f x n = some v ∧ 0 ≤ v ∧ v < n := by
  obtain ⟨v, h1, h2, h3⟩ := tmod_range x n hn hn2
  refine ⟨v, ?_, h1, h2⟩
  unfold paygen_Mod.f
  rw [if_neg (by omega)]
  by_cases h : Int.tmod x n < 0
  · rw [if_pos h] at h3 ⊢; rw [h3]
  · rw [if_neg h] at h3 ⊢; rw [h3]
theorem deck_next (l : List Int) (p n : Int) (hp : Near p) (hn : 1 ≤ n) (hn2 : n ≤ 4611686018427387904) : ∃ v, Ev (fun k => paygen_Deck_Next.f k l p n) (v, p + 1) ∧ 0 ≤ v ∧ v < n := by
  have hj : ∀ x, ∃ v, Ev (fun k => paygen_Deck_Next.j0 k n x l p) (v, p + 1) ∧ 0 ≤ v ∧ v < n := by
    intro x
    obtain ⟨v, h1, h2, h3⟩ := tmod_range x n hn hn2
    have e : wrap64 (p + 1) = p + 1 := by unfold wrap64; unfold Near at hp; omega
    refine ⟨v, Ev.step (fun k => by simp only [paygen_Deck_Next.j0]; rfl) (Ev.ifn (by omega) ?_), h1, h2⟩
    rw [e]
    by_cases h : Int.tmod x n < 0
    · rw [if_pos h] at h3; exact Ev.ifp h (by rw [h3]; exact Ev.now _)
    · rw [if_neg h] at h3; exact Ev.ifn h (by rw [h3]; exact Ev.now _)
  unfold paygen_Deck_Next.f
  by_cases c : p < (l.length : Int)
  · obtain ⟨v, h1, h2⟩ := hj (rd l p)
    exact ⟨v, Ev.ifp c (Ev.ifp hp.1 h1), h2⟩
  · obtain ⟨v, h1, h2⟩ := hj (wrap64 ((wrap64 (5 * p)) + 2))
    exact ⟨v, Ev.ifn c h1, h2⟩
end Go.Proofs.YtejgfblphgcgkaaGreatDoor.P
namespace Go.Proofs.YtejgfblphgcgkaaGreatDoor.P
set_option linter.unusedVariables false
set_option linter.unusedSimpArgs false
open Go.RowKit Go.Proofs.YtejgfblphgcgkaaGreatDoorW.PrintWords
theorem bt_list (s : ByteArray) (i : Int) : bt s i = ((s.data.toList.getD i.toNat 0).toNat : Int) := by
  unfold bt
  by_cases h : i.toNat < s.size
  · rw [dif_pos h]
    have h2 : i.toNat < s.data.toList.length := by rw [data_length]; exact h
    rw [List.getD_eq_getElem?_getD, List.getElem?_eq_getElem h2]
    rfl
  · rw [dif_neg h]
    have h2 : s.data.toList.length ≤ i.toNat := by rw [data_length]; omega
    rw [List.getD_eq_getElem?_getD, List.getElem?_eq_none h2]
    rfl
def charB (c : UInt8) : Bool := (decide (97 ≤ c.toNat) && decide (c.toNat ≤ 122)) || (decide (48 ≤ c.toNat) && decide (c.toNat ≤ 57)) || decide (c.toNat = 95)
def lowerB (c : UInt8) : Bool := decide (97 ≤ c.toNat) && decide (c.toNat ≤ 122)
def digitB (c : UInt8) : Bool := decide (48 ≤ c.toNat) && decide (c.toNat ≤ 57)
theorem letter_eq (c : UInt8) : token_letter.f (c.toNat : Int) = some (lowerB c) := by
  unfold token_letter.f lowerB
  by_cases h : 97 ≤ c.toNat
  · rw [if_pos (by omega)]; simp [h]; omega
  · rw [if_neg (by omega)]; simp [h]
theorem digit_eq (c : UInt8) : token_digit.f (c.toNat : Int) = some (digitB c) := by
  unfold token_digit.f digitB
  by_cases h : 48 ≤ c.toNat
  · rw [if_pos (by omega)]; simp [h]; omega
  · rw [if_neg (by omega)]; simp [h]
theorem charB_eq (c : UInt8) : charB c = (lowerB c || digitB c || decide (c.toNat = 95)) := rfl
theorem drop_all (L : List UInt8) (p : UInt8 → Bool) (i : Nat) (h : i < L.length) : (L.drop i).all p = (p (L.getD i 0) && (L.drop (i + 1)).all p) := by
  rw [List.drop_eq_getElem_cons h, List.all_cons, List.getD_eq_getElem?_getD, List.getElem?_eq_getElem h]; rfl
def nameB (L : List UInt8) : Bool := decide (0 < L.length) && decide (L.length ≤ 24) && lowerB (L.getD 0 0) && L.all charB && !decide (L ∈ kws)
theorem keyword_eq (s : ByteArray) (h : s.size ≤ 281474976710656) : token_IsKeyword.f s = some (decide (s.data.toList ∈ kws)) := by
  unfold token_IsKeyword.f; rw [if_pos h]
theorem name_loop (s : ByteArray) (hs : s.size ≤ 24) : ∀ (m i : Nat), i + m = s.size → Ev (fun k => token_IsName.l0 k s (s.size : Int) (i : Int)) ((s.data.toList.drop i).all charB && !decide (s.data.toList ∈ kws)) := by
  intro m
  induction m with
  | zero =>
    intro i hi
    refine Ev.step (fun k => by simp only [token_IsName.l0]; rfl) (Ev.ifn (by omega) ?_)
    have e : s.data.toList.drop i = [] := List.drop_eq_nil_of_le (by rw [data_length]; omega)
    rw [e]
    exact Ev.bindc (keyword_eq s (by omega)) (Ev.now _)
  | succ m ih =>
    intro i hi
    have hl : i < s.data.toList.length := by rw [data_length]; omega
    have e1 : wrap64 ((i : Int) + 1) = ((i + 1 : Nat) : Int) := by unfold wrap64; omega
    have hb : bt s (i : Int) = ((s.data.toList.getD i 0).toNat : Int) := bt_list s i
    have ih := ih (i + 1) (by omega)
    rw [drop_all _ _ _ hl]
    generalize s.data.toList.getD i 0 = c at *
    have hj : ∀ b : Bool, Ev (fun k => token_IsName.j2 k s (s.size : Int) (i : Int) b) (!b && ((s.data.toList.drop (i + 1)).all charB && !decide (s.data.toList ∈ kws))) := by
      intro b
      refine Ev.step (fun k => by simp only [token_IsName.j2]; rfl) ?_
      cases b with
      | true => exact Ev.ifp (by first | rfl | trivial) (Ev.now _)
      | false => refine Ev.ifn (by decide) ?_; rw [e1]; simpa using ih
    refine Ev.step (fun k => by simp only [token_IsName.l0]; rfl) (Ev.ifp (by omega) (Ev.ifp (by omega) (Ev.ifp (by omega) ?_)))
    rw [hb]
    refine Ev.bindc (letter_eq c) ?_
    by_cases h1 : lowerB c = true
    · refine Ev.ifp h1 ?_
      rw [charB_eq, h1]
      simpa using hj false
    · refine Ev.ifn h1 (Ev.bindc (digit_eq c) ?_)
      have h1' : lowerB c = false := by simpa using h1
      by_cases h2 : digitB c = true
      · refine Ev.ifp h2 ?_
        rw [charB_eq, h1', h2]
        simpa using hj false
      · refine Ev.ifn h2 ?_
        have h2' : digitB c = false := by simpa using h2
        rw [charB_eq, h1', h2']
        have := hj (((c.toNat : Int)) != 95)
        refine this.cast ?_
        by_cases h3 : c.toNat = 95
        · simp [h3]
        · have : ((c.toNat : Int) != 95) = true := by simp; omega
          simp [h3, this]
theorem token_IsName_ev (s : ByteArray) : Ev (fun k => token_IsName.f k s) (nameB s.data.toList) := by
  unfold token_IsName.f
  have ht : s.toList = s.data.toList := Lib.toList_data s
  by_cases h0 : s.toList = []
  · have : nameB s.data.toList = false := by rw [← ht, h0]; rfl
    rw [this]
    refine Ev.ifp h0 (Ev.step (fun k => by simp only [token_IsName.j0]; rfl) (Ev.ifp (by first | rfl | trivial) (Ev.now _)))
  · have hpos : 0 < s.size := by
      rw [← data_length, ← ht]
      exact List.length_pos_iff.2 h0
    by_cases h1 : (s.size : Int) > 24
    · have : nameB s.data.toList = false := by
        unfold nameB
        rw [data_length, decide_eq_false (show ¬ s.size ≤ 24 by omega)]; simp
      rw [this]
      refine Ev.ifn h0 (Ev.ifp h1 (Ev.step (fun k => by simp only [token_IsName.j0]; rfl) (Ev.ifp (by first | rfl | trivial) (Ev.now _))))
    · refine Ev.ifn h0 (Ev.ifn h1 (Ev.ifp (by omega) ?_))
      rw [bt_list]
      show Ev (fun n => (token_letter.f ((s.data.toList.getD 0 0).toNat : Int)).bind _) _
      refine Ev.bindc (letter_eq _) (Ev.step (fun k => by simp only [token_IsName.j0]; rfl) ?_)
      have hn : nameB s.data.toList = (lowerB (s.data.toList.getD 0 0) && (s.data.toList.all charB && !decide (s.data.toList ∈ kws))) := by
        unfold nameB
        rw [data_length, decide_eq_true hpos, decide_eq_true (show s.size ≤ 24 by omega)]; simp [Bool.and_assoc]
      rw [hn]
      by_cases h2 : lowerB (s.data.toList.getD 0 0) = true
      · refine Ev.ifn (by rw [h2]; decide) ?_
        have := name_loop s (by omega) s.size 0 (by omega)
        refine this.cast ?_
        rw [h2]; simp
      · refine Ev.ifp (by simpa using h2) ?_
        have h2' : lowerB (s.data.toList.getD 0 0) = false := by simpa using h2
        rw [h2']; exact Ev.now _
end Go.Proofs.YtejgfblphgcgkaaGreatDoor.P
namespace Go.Proofs.YtejgfblphgcgkaaGreatDoor.P
set_option linter.unusedVariables false
open Go.RowKit Go.Proofs.YtejgfblphgcgkaaGreatDoorW.PrintWords
def deckCodes : List ByteArray := [(⟨#[98, 111, 110, 117, 115]⟩ : ByteArray), (⟨#[99, 97, 114]⟩ : ByteArray), (⟨#[110, 105, 103, 104, 116]⟩ : ByteArray), (⟨#[115, 97, 108, 97, 114, 121]⟩ : ByteArray), (⟨#[97]⟩ : ByteArray), (⟨#[98]⟩ : ByteArray), (⟨#[120, 49]⟩ : ByteArray), (⟨#[97, 98, 99, 100, 101, 102, 103, 104, 105, 106, 107, 108, 109, 110, 111, 112, 113, 114, 115, 116, 117, 118, 119, 120]⟩ : ByteArray)]
theorem deckCodes_names : ∀ c ∈ deckCodes, nameB c.data.toList = true := by
  have h : deckCodes.all (fun c => nameB c.data.toList) = true := by decide +kernel
  exact fun c hc => List.all_eq_true.1 h c hc
theorem deck_code (l : List Int) (p : Int) (hp : 0 ≤ p) (hp2 : p ≤ 100000000000) : ∃ c, Ev (fun k => paygen_Deck_Code.f k l p) (c, p + 1) ∧ nameB c.data.toList = true := by
  unfold paygen_Deck_Code.f
  obtain ⟨v, h1, h2, h3⟩ := deck_next l p 8 ⟨hp, by omega⟩ (by omega) (by omega)
  have hl : v.toNat < deckCodes.length := by show v.toNat < 8; omega
  refine ⟨rdOf ByteArray.empty deckCodes v, Ev.bindc (a := deckCodes) rfl (Ev.bind h1 (Ev.ifp h2 (Ev.ifp (by show v < ((8 : Nat) : Int); omega) (Ev.now _)))), ?_⟩
  unfold rdOf
  rw [List.getD_eq_getElem?_getD, List.getElem?_eq_getElem hl]
  exact deckCodes_names _ (List.getElem_mem hl)
end Go.Proofs.YtejgfblphgcgkaaGreatDoor.P
namespace Go.Proofs.YtejgfblphgcgkaaGreatDoor.P
set_option linter.unusedVariables false
open Go.RowKit Go.Proofs.YtejgfblphgcgkaaGreatDoorW.PrintWords
theorem deck_pick (l : List Int) (p : Int) (m : List Int) (hp : Near p) (hm : 0 < m.length) (hm2 : m.length ≤ 1000) : ∃ v, Ev (fun k => paygen_Deck_Pick.f k l p m) (v, p + 1) ∧ v ∈ m := by
  obtain ⟨v, h1, h2, h3⟩ := deck_next l p (m.length : Int) hp (by omega) (by omega)
  refine ⟨rd m v, ?_, ?_⟩
  · unfold paygen_Deck_Pick.f
    exact Ev.bind h1 (Ev.ifp h2 (Ev.ifp h3 (Ev.now _)))
  · unfold rd
    rw [List.getD_eq_getElem?_getD, List.getElem?_eq_getElem (by omega : v.toNat < m.length)]
    exact List.getElem_mem _
end Go.Proofs.YtejgfblphgcgkaaGreatDoor.P
namespace Go.Proofs.YtejgfblphgcgkaaGreatDoor.P
set_option linter.unusedVariables false
set_option linter.unusedSimpArgs false
open Go.RowKit Go.Proofs.YtejgfblphgcgkaaGreatDoorW.PrintWords
def totalB (n : Int) : Bool := decide (-1000000000000 ≤ n) && decide (n ≤ 1000000000000)
theorem total_eq (n : Int) : payslip_total.f n = some (totalB n) := by
  unfold payslip_total.f totalB
  by_cases h : -1000000000000 ≤ n
  · rw [if_pos h]; simp [h]
  · rw [if_neg h]; simp [h]
def bareB (k : Int) : Bool := decide (k = 6) || decide (k = 9) || decide (k = 10)
def formP (a : Int) (b : ByteArray) (c : Int) : Bool := decide (1 ≤ a) && decide (a ≤ 10) && (totalB c && (if bareB a = true then decide (b.data.toList = []) else nameB b.data.toList))
theorem coded_eq (a : Int) : payslip_coded.f a = some (!bareB a) := by
  unfold payslip_coded.f bareB
  by_cases h1 : a = 6
  · rw [if_pos h1]; simp [h1]
  · rw [if_neg h1]
    by_cases h2 : a = 9
    · rw [if_pos h2]; simp [h2]
    · rw [if_neg h2]; simp only [h1, h2, decide_false, Bool.false_or]; rfl
theorem form_tail (a : Int) (b : ByteArray) (c : Int) (t : Bool) : Ev (fun k => payslip_form.j0 k t a b c) (!t && (if bareB a = true then decide (b.data.toList = []) else nameB b.data.toList)) := by
  refine Ev.step (fun k => by simp only [payslip_form.j0]; rfl) ?_
  cases t with
  | true => exact Ev.ifp (by first | rfl | trivial) (Ev.now _)
  | false =>
    refine Ev.ifn (by decide) (Ev.bindc (coded_eq a) ?_)
    by_cases hb : bareB a = true
    · rw [hb, if_pos rfl]
      refine Ev.ifn (by decide) ?_
      rw [Lib.toList_data]
      refine (Ev.now _).cast (Bool.eq_iff_iff.2 ?_)
      simp only [Bool.not_false, Bool.true_and, if_true]
      rw [beq_iff_eq, decide_eq_true_iff]
    · have hb' : bareB a = false := by simpa using hb
      rw [hb']
      refine Ev.ifp (by first | rfl | trivial) (Ev.bind (token_IsName_ev b) ?_)
      simpa using Ev.now _
theorem payslip_form_ev (a : Int) (b : ByteArray) (c : Int) : Ev (fun k => payslip_form.f k a b c) (formP a b c) := by
  unfold payslip_form.f formP
  by_cases h1 : a < 1
  · rw [decide_eq_false (show ¬ 1 ≤ a by omega)]
    exact Ev.ifp h1 ((form_tail a b c true).cast (by simp))
  · by_cases h2 : a > 10
    · rw [decide_eq_false (show ¬ a ≤ 10 by omega)]
      exact Ev.ifn h1 (Ev.ifp h2 ((form_tail a b c true).cast (by simp)))
    · rw [decide_eq_true (show 1 ≤ a by omega), decide_eq_true (show a ≤ 10 by omega)]
      refine Ev.ifn h1 (Ev.ifn h2 (Ev.bindc (total_eq c) ?_))
      refine (form_tail a b c (!totalB c)).cast ?_
      simp
def FormP (a : Int) (b : ByteArray) (c : Int) : Bool := formP a b c && (c != 0)
theorem payslip_Form_ev (a : Int) (b : ByteArray) (c : Int) : Ev (fun k => payslip_Form.f k a b c) (FormP a b c) := by
  unfold payslip_Form.f FormP
  refine Ev.bind (payslip_form_ev a b c) ?_
  cases h : formP a b c with
  | true => exact Ev.ifp (by first | rfl | trivial) ((Ev.now _).cast (by simp))
  | false => exact Ev.ifn (by decide) ((Ev.now _).cast (by simp))
end Go.Proofs.YtejgfblphgcgkaaGreatDoor.P
namespace Go.Proofs.YtejgfblphgcgkaaGreatDoor.P
set_option linter.unusedVariables false
set_option linter.unusedSimpArgs false
open Go.RowKit Go.Proofs.YtejgfblphgcgkaaGreatDoorW.PrintWords
theorem rlower_eq (c : UInt8) : payrollref17_lower.f (c.toNat : Int) = some (lowerB c) := by
  unfold payrollref17_lower.f lowerB
  by_cases h : 97 ≤ c.toNat
  · rw [if_pos (by omega)]; simp [h]; omega
  · rw [if_neg (by omega)]; simp [h]
theorem rdigit_eq (c : UInt8) : payrollref17_digit.f (c.toNat : Int) = some (digitB c) := by
  unfold payrollref17_digit.f digitB
  by_cases h : 48 ≤ c.toNat
  · rw [if_pos (by omega)]; simp [h]; omega
  · rw [if_neg (by omega)]; simp [h]
theorem rkw_loop (s : ByteArray) (X : List ByteArray) (hX : X.length < 1000) : ∀ (m i : Nat), i + m = X.length → Ev (fun k => payrollref17_IsKeyword.l0 k s X (i : Int)) (decide (s.data.toList ∈ (X.drop i).map (fun x => x.data.toList))) := by
  intro m
  induction m with
  | zero =>
    intro i hi
    refine Ev.step (fun k => by simp only [payrollref17_IsKeyword.l0]; rfl) (Ev.ifn (by omega) ?_)
    have e : X.drop i = [] := List.drop_eq_nil_of_le (by omega)
    rw [e]; simpa using Ev.now false
  | succ m ih =>
    intro i hi
    have hl : i < X.length := by omega
    have e1 : wrap64 ((i : Int) + 1) = ((i + 1 : Nat) : Int) := by unfold wrap64; omega
    have hg : rdOf ByteArray.empty X (i : Int) = X[i] := by
      unfold rdOf
      rw [Int.toNat_natCast, List.getD_eq_getElem?_getD, List.getElem?_eq_getElem hl]; rfl
    refine Ev.step (fun k => by simp only [payrollref17_IsKeyword.l0]; rfl) (Ev.ifp (by omega) (Ev.ifp (by omega) ?_))
    rw [hg, List.drop_eq_getElem_cons hl, List.map_cons]
    by_cases h : X[i].toList = s.toList
    · refine Ev.ifp h ?_
      rw [Lib.toList_data, Lib.toList_data] at h
      rw [decide_eq_true (by rw [h]; exact List.mem_cons_self)]
      exact Ev.now _
    · refine Ev.ifn h ?_
      rw [e1]
      refine (ih (i + 1) (by omega)).cast ?_
      rw [Lib.toList_data, Lib.toList_data] at h
      apply Bool.eq_iff_iff.2
      simp only [decide_eq_true_eq, List.mem_cons]
      exact ⟨fun hx => Or.inr hx, fun hx => hx.resolve_left (fun e => h e.symm)⟩
theorem ref17_IsKeyword_ev (s : ByteArray) : Ev (fun k => payrollref17_IsKeyword.f k s) (decide (s.data.toList ∈ kws)) := by
  unfold payrollref17_IsKeyword.f
  refine (rkw_loop s _ (by simp) _ 0 (Nat.zero_add _)).cast ?_
  rfl
theorem word_loop (s : ByteArray) (hs : s.size ≤ 281474976710656) : ∀ (m i : Nat), i + m = s.size → ∃ e : Nat, Ev (fun k => payrollref17_word.l0 k s (i : Int)) (e : Int) ∧ i ≤ e ∧ e ≤ s.size ∧ ((s.data.toList.drop i).all charB = true → e = s.size) ∧ ((s.data.toList.drop i).all charB = false → e < s.size) := by
  intro m
  induction m with
  | zero =>
    intro i hi
    have e : s.data.toList.drop i = [] := List.drop_eq_nil_of_le (by rw [data_length]; omega)
    refine ⟨i, ?_, Nat.le_refl _, by omega, fun _ => by omega, fun h => (by rw [e] at h; cases h)⟩
    refine Ev.step (fun k => by simp only [payrollref17_word.l0]; rfl) (Ev.ifn (by omega) ?_)
    exact Ev.step (fun k => by simp only [payrollref17_word.j2]; rfl) (Ev.ifn (by decide) (Ev.now _))
  | succ m ih =>
    intro i hi
    have hl : i < s.data.toList.length := by rw [data_length]; omega
    have e1 : wrap64 ((i : Int) + 1) = ((i + 1 : Nat) : Int) := by unfold wrap64; omega
    have hb : bt s (i : Int) = ((s.data.toList.getD i 0).toNat : Int) := bt_list s i
    obtain ⟨e, he, h1, h2, h3, h4⟩ := ih (i + 1) (by omega)
    rw [drop_all _ _ _ hl]
    generalize s.data.toList.getD i 0 = c at *
    have hj1 : Ev (fun k => payrollref17_word.j2 k s (i : Int) true) (e : Int) := by
      refine Ev.step (fun k => by simp only [payrollref17_word.j2]; rfl) (Ev.ifp (by first | rfl | trivial) ?_)
      rw [e1]; exact he
    have hj0 : Ev (fun k => payrollref17_word.j2 k s (i : Int) false) (i : Int) :=
      Ev.step (fun k => by simp only [payrollref17_word.j2]; rfl) (Ev.ifn (by decide) (Ev.now _))
    have hd : Ev (fun k => payrollref17_word.l0 k s (i : Int)) (if charB c = true then (e : Int) else (i : Int)) := by
      refine Ev.step (fun k => by simp only [payrollref17_word.l0]; rfl) (Ev.ifp (by omega) (Ev.ifp (by omega) ?_))
      rw [hb]
      refine Ev.bindc (rlower_eq c) ?_
      by_cases g1 : lowerB c = true
      · rw [if_pos (by rw [charB_eq, g1]; rfl)]
        exact Ev.ifp g1 hj1
      · have g1' : lowerB c = false := by simpa using g1
        refine Ev.ifn g1 (Ev.bindc (rdigit_eq c) ?_)
        by_cases g2 : digitB c = true
        · rw [if_pos (by rw [charB_eq, g2]; simp)]
          exact Ev.ifp g2 hj1
        · have g2' : digitB c = false := by simpa using g2
          refine Ev.ifn g2 ?_
          by_cases g3 : c.toNat = 95
          · rw [if_pos (by rw [charB_eq, g3]; simp)]
            have : ((c.toNat : Int) == 95) = true := by simp; omega
            rw [this]; exact hj1
          · rw [if_neg (by rw [charB_eq, g1', g2']; simpa using g3)]
            have : ((c.toNat : Int) == 95) = false := by simp; omega
            rw [this]; exact hj0
    by_cases hc : charB c = true
    · rw [if_pos hc] at hd
      exact ⟨e, hd, by omega, h2, fun h => h3 (by simpa [hc] using h), fun h => h4 (by simpa [hc] using h)⟩
    · rw [if_neg hc] at hd
      have hc' : charB c = false := by simpa using hc
      exact ⟨i, hd, Nat.le_refl _, by omega, fun h => (by rw [hc'] at h; cases h), fun _ => by omega⟩
theorem ref17_IsName_ev (s : ByteArray) : Ev (fun k => payrollref17_IsName.f k s) (nameB s.data.toList) := by
  unfold payrollref17_IsName.f
  have ht : s.toList = s.data.toList := Lib.toList_data s
  by_cases h0 : s.toList = []
  · have : nameB s.data.toList = false := by rw [← ht, h0]; rfl
    rw [this]
    exact Ev.ifp h0 (Ev.now _)
  · have hpos : 0 < s.size := by
      rw [← data_length, ← ht]
      exact List.length_pos_iff.2 h0
    refine Ev.ifn h0 ?_
    by_cases h1 : (s.size : Int) ≤ 24
    · refine Ev.ifp h1 ?_
      have hn : nameB s.data.toList = (lowerB (s.data.toList.getD 0 0) && (s.data.toList.all charB && !decide (s.data.toList ∈ kws))) := by
        unfold nameB
        rw [data_length, decide_eq_true hpos, decide_eq_true (show s.size ≤ 24 by omega)]; simp [Bool.and_assoc]
      rw [hn]
      have hw : Ev (fun k => payrollref17_word.f k s 0) (if lowerB (s.data.toList.getD 0 0) = true then (if s.data.toList.all charB = true then (s.size : Int) else -1) else 0) ∨ (lowerB (s.data.toList.getD 0 0) = true ∧ s.data.toList.all charB = false ∧ ∃ e : Nat, e < s.size ∧ Ev (fun k => payrollref17_word.f k s 0) (e : Int)) := by
        unfold payrollref17_word.f
        obtain ⟨e, he, _, g2, g3, g4⟩ := word_loop s (by omega) s.size 0 (by omega)
        by_cases g : lowerB (s.data.toList.getD 0 0) = true
        · by_cases ga : s.data.toList.all charB = true
          · left
            rw [if_pos g, if_pos ga]
            refine Ev.ifn (by omega) (Ev.ifp (by omega) (Ev.ifp (by omega) ?_))
            rw [bt_list]
            show Ev (fun n => (payrollref17_lower.f ((s.data.toList.getD 0 0).toNat : Int)).bind _) _
            refine Ev.bindc (rlower_eq _) (Ev.step (fun k => by simp only [payrollref17_word.j0]; rfl) (Ev.ifn (by rw [g]; decide) ?_))
            have : e = s.size := g3 (by simpa using ga)
            rw [← this]; exact he
          · right
            have ga' : s.data.toList.all charB = false := by simpa using ga
            refine ⟨g, ga', e, g4 (by simpa using ga'), ?_⟩
            refine Ev.ifn (by omega) (Ev.ifp (by omega) (Ev.ifp (by omega) ?_))
            rw [bt_list]
            show Ev (fun n => (payrollref17_lower.f ((s.data.toList.getD 0 0).toNat : Int)).bind _) _
            exact Ev.bindc (rlower_eq _) (Ev.step (fun k => by simp only [payrollref17_word.j0]; rfl) (Ev.ifn (by rw [g]; decide) he))
        · left
          have g' : lowerB (s.data.toList.getD 0 0) = false := by simpa using g
          rw [if_neg g]
          refine Ev.ifn (by omega) (Ev.ifp (by omega) (Ev.ifp (by omega) ?_))
          rw [bt_list]
          show Ev (fun n => (payrollref17_lower.f ((s.data.toList.getD 0 0).toNat : Int)).bind _) _
          exact Ev.bindc (rlower_eq _) (Ev.step (fun k => by simp only [payrollref17_word.j0]; rfl) (Ev.ifp (by rw [g']; rfl) (Ev.now _)))
      rcases hw with hw | ⟨g, ga, e, hlt, hw⟩
      · refine Ev.bind hw ?_
        by_cases g : lowerB (s.data.toList.getD 0 0) = true
        · rw [if_pos g, g]
          by_cases ga : s.data.toList.all charB = true
          · rw [if_pos ga, ga]
            refine Ev.ifp (by first | rfl | trivial) (Ev.bind (ref17_IsKeyword_ev s) (Ev.now _))
          · rw [if_neg ga]
            have ga' : s.data.toList.all charB = false := by simpa using ga
            rw [ga']
            exact Ev.ifn (by omega) (Ev.now _)
        · have g' : lowerB (s.data.toList.getD 0 0) = false := by simpa using g
          rw [if_neg g, g']
          exact Ev.ifn (by omega) (Ev.now _)
      · refine Ev.bind hw ?_
        rw [g, ga]
        exact Ev.ifn (by omega) (Ev.now _)
    · have : nameB s.data.toList = false := by
        unfold nameB
        rw [data_length, decide_eq_false (show ¬ s.size ≤ 24 by omega)]; simp
      rw [this]
      exact Ev.ifn h1 (Ev.now _)
end Go.Proofs.YtejgfblphgcgkaaGreatDoor.P
namespace Go.Proofs.YtejgfblphgcgkaaGreatDoor.P
set_option linter.unusedVariables false
set_option linter.unusedSimpArgs false
open Go.RowKit Go.Proofs.YtejgfblphgcgkaaGreatDoorW.PrintWords
theorem bare_eq (a : Int) : payrollref32_Bare.f a = some (bareB a) := by
  unfold payrollref32_Bare.f bareB
  by_cases h1 : a = 6
  · rw [if_pos h1]; simp [h1]
  · rw [if_neg h1]
    by_cases h2 : a = 9
    · rw [if_pos h2]; simp [h2]
    · rw [if_neg h2]; simp only [h1, h2, decide_false, Bool.false_or]; rfl
theorem ref32_tail (a : Int) (b : ByteArray) (c : Int) (t : Bool) : Ev (fun k => payrollref32_Form.j0 k t a b c) (!t && (if bareB a = true then decide (b.data.toList = []) else nameB b.data.toList)) := by
  refine Ev.step (fun k => by simp only [payrollref32_Form.j0]; rfl) ?_
  cases t with
  | true => exact Ev.ifp (by first | rfl | trivial) (Ev.now _)
  | false =>
    refine Ev.ifn (by decide) (Ev.bindc (bare_eq a) ?_)
    by_cases hb : bareB a = true
    · rw [hb, if_pos rfl]
      refine Ev.ifp (by first | rfl | trivial) ?_
      rw [Lib.toList_data]
      refine (Ev.now _).cast (Bool.eq_iff_iff.2 ?_)
      simp only [Bool.not_false, Bool.true_and, if_true]
      rw [beq_iff_eq, decide_eq_true_iff]
    · have hb' : bareB a = false := by simpa using hb
      rw [hb']
      refine Ev.ifn (by decide) (Ev.bind (ref17_IsName_ev b) ?_)
      simpa using Ev.now _
theorem ref32_Form_ev (a : Int) (b : ByteArray) (c : Int) : Ev (fun k => payrollref32_Form.f k a b c) (formP a b c) := by
  unfold payrollref32_Form.f formP
  by_cases h1 : a < 1
  · rw [decide_eq_false (show ¬ 1 ≤ a by omega)]
    exact Ev.ifp h1 ((ref32_tail a b c true).cast (by simp))
  · by_cases h2 : a > 10
    · rw [decide_eq_false (show ¬ a ≤ 10 by omega)]
      exact Ev.ifn h1 (Ev.ifp h2 ((ref32_tail a b c true).cast (by simp)))
    · rw [decide_eq_true (show 1 ≤ a by omega), decide_eq_true (show a ≤ 10 by omega)]
      refine Ev.ifn h1 (Ev.ifn h2 ?_)
      by_cases h3 : c < -1000000000000
      · refine Ev.ifp h3 ((ref32_tail a b c true).cast ?_)
        unfold totalB; rw [decide_eq_false (show ¬ -1000000000000 ≤ c by omega)]; simp
      · refine Ev.ifn h3 ((ref32_tail a b c _).cast ?_)
        unfold totalB; rw [decide_eq_true (show -1000000000000 ≤ c by omega)]
        by_cases h4 : c ≤ 1000000000000
        · rw [decide_eq_true h4, decide_eq_false (show ¬ c > 1000000000000 by omega)]; simp
        · rw [decide_eq_false h4, decide_eq_true (show c > 1000000000000 by omega)]; simp
theorem ref34_Form_ev (a : Int) (b : ByteArray) (c : Int) : Ev (fun k => payrollref34_Form.f k a b c) (FormP a b c) := by
  unfold payrollref34_Form.f FormP
  by_cases h : c = 0
  · exact Ev.ifp h ((Ev.now _).cast (by simp [h]))
  · exact Ev.ifn h (Ev.bind (ref32_Form_ev a b c) ((Ev.now _).cast (by simp [h])))
end Go.Proofs.YtejgfblphgcgkaaGreatDoor.P
namespace Go.Proofs.YtejgfblphgcgkaaGreatDoor.P
set_option linter.unusedVariables false
set_option linter.unusedSimpArgs false
open Go.RowKit Go.Proofs.YtejgfblphgcgkaaGreatDoorW.PrintWords
theorem deck_small (l : List Int) (p : Int) (hp : 0 ≤ p) (hp2 : p ≤ 100000000000) : ∃ v p', Ev (fun k => paygen_Deck_Small.f k l p) (v, p') ∧ p ≤ p' ∧ p' ≤ p + 2 ∧ 0 ≤ v ∧ v < 600000 := by
  unfold paygen_Deck_Small.f
  obtain ⟨v, h1, h2, h3⟩ := deck_next l p 5 ⟨hp, by omega⟩ (by omega) (by omega)
  by_cases c : v = 0
  · obtain ⟨u, g1, g2⟩ := deck_pick l (p + 1) [0, 0, 1, 100] ⟨by omega, by omega⟩ (by decide) (by decide)
    refine ⟨u, p + 1 + 1, Ev.bind h1 (Ev.ifp c (Ev.bind g1 (Ev.now _))), by omega, by omega, ?_⟩
    simp only [List.mem_cons, List.not_mem_nil, or_false] at g2
    omega
  · obtain ⟨u, g1, g2, g3⟩ := deck_next l (p + 1) 600000 ⟨by omega, by omega⟩ (by omega) (by omega)
    exact ⟨u, p + 1 + 1, Ev.bind h1 (Ev.ifn c (Ev.bind g1 (Ev.now _))), by omega, by omega, g2, g3⟩
def Drawn (x : S60) : Prop := formP x.f0 x.f1 x.f2 = true ∧ x.f2 ≠ 0 ∧ -600000 ≤ x.f2 ∧ x.f2 ≤ 600000 ∧ x.f1.size ≤ 24
theorem deck_line (l : List Int) (p : Int) (hp : 0 ≤ p) (hp2 : p ≤ 10000000000) : ∃ a b c p', Ev (fun k => paygen_Deck_Line.f k l p) (a, b, c, p') ∧ p ≤ p' ∧ p' ≤ p + 5 ∧ Drawn ⟨a, b, c⟩ := by
  unfold paygen_Deck_Line.f
  obtain ⟨v, h1, h2, h3⟩ := deck_next l p 10 ⟨hp, by omega⟩ (by omega) (by omega)
  obtain ⟨u, p2, g1, g2, g3, g4, g5⟩ := deck_small l (p + 1) (by omega) (by omega)
  have e1 : wrap64 (1 + v) = 1 + v := by unfold wrap64; omega
  have e2 : wrap64 (1 + u) = 1 + u := by unfold wrap64; omega
  have hj : ∀ (b : ByteArray) (q : Int), 0 ≤ q → q ≤ 100000000000 → ∃ c, Ev (fun k => paygen_Deck_Line.j0 k l q (1 + v) b (1 + u)) (1 + v, b, c, q + 1) ∧ c ≠ 0 ∧ -600000 ≤ c ∧ c ≤ 600000 := by
    intro b q hq hq2
    obtain ⟨z, z1, z2, z3⟩ := deck_next l q 3 ⟨hq, by omega⟩ (by omega) (by omega)
    by_cases hz : z = 0
    · exact ⟨wrap64 (-(1 + u)), Ev.step (fun k => by simp only [paygen_Deck_Line.j0]; rfl) (Ev.bind z1 (Ev.ifp hz (Ev.now _))), by unfold wrap64; omega, by unfold wrap64; omega, by unfold wrap64; omega⟩
    · exact ⟨1 + u, Ev.step (fun k => by simp only [paygen_Deck_Line.j0]; rfl) (Ev.bind z1 (Ev.ifn hz (Ev.now _))), by omega, by omega, by omega⟩
  have hf : ∀ (b : ByteArray) (c : Int), -600000 ≤ c → c ≤ 600000 → (if bareB (1 + v) = true then decide (b.data.toList = []) else nameB b.data.toList) = true → formP (1 + v) b c = true := by
    intro b c c1 c2 hb
    unfold formP totalB
    rw [hb, decide_eq_true (show 1 ≤ 1 + v by omega), decide_eq_true (show 1 + v ≤ 10 by omega), decide_eq_true (show -1000000000000 ≤ c by omega), decide_eq_true (show c ≤ 1000000000000 by omega)]; rfl
  by_cases hb : bareB (1 + v) = true
  · obtain ⟨c, k1, k2, k3, k4⟩ := hj ⟨#[]⟩ p2 (by omega) (by omega)
    refine ⟨1 + v, ⟨#[]⟩, c, p2 + 1, Ev.bind h1 (Ev.bind g1 ?_), by omega, by omega, hf _ _ k3 k4 (by rw [if_pos hb]; rfl), k2, k3, k4, by show 0 ≤ 24; omega⟩
    rw [e1, e2]
    exact Ev.bindc (bare_eq _) (Ev.ifp hb k1)
  · obtain ⟨b, b1, b2⟩ := deck_code l p2 (by omega) (by omega)
    obtain ⟨c, k1, k2, k3, k4⟩ := hj b (p2 + 1) (by omega) (by omega)
    refine ⟨1 + v, b, c, p2 + 1 + 1, Ev.bind h1 (Ev.bind g1 ?_), by omega, by omega, hf _ _ k3 k4 (by rw [if_neg hb]; exact b2), k2, k3, k4, ?_⟩
    · rw [e1, e2]
      exact Ev.bindc (bare_eq _) (Ev.ifn hb (Ev.bind b1 k1))
    · unfold nameB at b2
      simp only [Bool.and_eq_true, decide_eq_true_eq] at b2
      rw [data_length] at b2
      show b.size ≤ 24
      omega
theorem deck_lines_loop (l : List Int) : ∀ (m : Nat) (C : List S60) (p : Int), m ≤ 1000 → 0 ≤ p → p + 5 * m ≤ 1000000000 → C.length + m ≤ 2000 → (∀ x ∈ C, Drawn x) →
    ∃ C' p', Ev (fun k => paygen_Deck_Lines.l0 k C (m : Int) l p) (C', p') ∧ p ≤ p' ∧ p' ≤ p + 5 * m ∧ (∀ x ∈ C', Drawn x) ∧ C'.length = C.length + m := by
  intro m
  induction m with
  | zero =>
    intro C p _ hp hp2 _ hC
    exact ⟨C, p, Ev.step (fun k => by simp only [paygen_Deck_Lines.l0]; rfl) (Ev.ifn (by omega) (Ev.now _)), by omega, by omega, hC, by omega⟩
  | succ m ih =>
    intro C p hm hp hp2 hl hC
    obtain ⟨a, b, c, p1, h1, h2, h3, h4⟩ := deck_line l p hp (by omega)
    obtain ⟨C', p', g1, g2, g3, g4, g5⟩ := ih (C ++ [⟨a, b, c⟩]) p1 (by omega) (by omega) (by omega) (by rw [List.length_append, List.length_singleton]; omega) (by
      intro x hx
      rcases List.mem_append.1 hx with hx | hx
      · exact hC x hx
      · rw [List.mem_singleton] at hx; exact hx ▸ h4)
    refine ⟨C', p', ?_, by omega, by omega, g4, by rw [g5, List.length_append, List.length_singleton]; omega⟩
    refine Ev.step (fun k => by simp only [paygen_Deck_Lines.l0]; rfl) ?_
    refine Ev.ifp (by omega) ?_
    refine Ev.bind h1 ?_
    refine Ev.ifp (by omega) ?_
    have e : wrap64 (((m + 1 : Nat) : Int) - 1) = (m : Int) := by unfold wrap64; omega
    rw [e]; exact g1
theorem deck_lines (l : List Int) (p n : Int) (hp : 0 ≤ p) (hp2 : p ≤ 100000000) (hn : 0 ≤ n) (hn2 : n ≤ 100) : ∃ C p', Ev (fun k => paygen_Deck_Lines.f k l p n) (C, p') ∧ p ≤ p' ∧ p' ≤ p + 1000 ∧ (∀ x ∈ C, Drawn x) ∧ (C.length : Int) ≤ n := by
  unfold paygen_Deck_Lines.f
  have e : wrap64 (n + 1) = n + 1 := by unfold wrap64; omega
  rw [e]
  obtain ⟨v, h1, h2, h3⟩ := deck_next l p (n + 1) ⟨hp, by omega⟩ (by omega) (by omega)
  obtain ⟨C, p', g1, g2, g3, g4, g5⟩ := deck_lines_loop l v.toNat [] (p + 1) (by omega) (by omega) (by omega) (by simp; omega) (fun x hx => by cases hx)
  refine ⟨C, p', Ev.bind h1 ?_, by omega, by omega, g4, by rw [g5]; simp; omega⟩
  rw [show ((v.toNat : Nat) : Int) = v from by omega] at g1
  exact g1
end Go.Proofs.YtejgfblphgcgkaaGreatDoor.P
namespace Go.Proofs.YtejgfblphgcgkaaGreatDoor.P
set_option linter.unusedVariables false
open Go.RowKit Go.Proofs.YtejgfblphgcgkaaGreatDoorW.PrintWords
abbrev bs (l : List UInt8) : ByteArray := ⟨l.toArray⟩
theorem bs_list (l : List UInt8) : (bs l).data.toList = l := by simp
theorem bs_size (l : List UInt8) : (bs l).size = l.length := by simp [ByteArray.size]
theorem bs_append (l r : List UInt8) : bs l ++ bs r = bs (l ++ r) := by
  apply ByteArray.ext
  simp [ByteArray.data_append]
theorem str_nil {x : ByteArray} : x.toList = ([] : List UInt8) ↔ x.data.toList = [] := by rw [ByteArray.toList_eq]
def isDig (b : UInt8) : Prop := 48 ≤ b.toNat ∧ b.toNat ≤ 57
theorem decFrom_append : ∀ (l r : List UInt8) (a : Nat), Lib.decFrom a (l ++ r) = (Lib.decFrom a l).bind fun m => Lib.decFrom m r
  | [], r, a => rfl
  | c :: l, r, a => by
    simp only [List.cons_append, Lib.decFrom]
    cases h : Lib.digitVal c with
    | none => rfl
    | some d => exact decFrom_append l r _
theorem ofNat_dig {d : Nat} (h : d < 10) : (UInt8.ofNat (48 + d)).toNat = 48 + d := by
  rw [UInt8.toNat_ofNat']; omega
theorem dec_spells (u : Nat) : Lib.decFrom 0 (Lib.decDigits u) = some u ∧ ∀ b ∈ Lib.decDigits u, isDig b := by
  induction u using Nat.strongRecOn with
  | _ u ih =>
    by_cases h : u < 10
    · have e := ofNat_dig h
      rw [Lib.decDigits, dif_pos h]
      refine ⟨?_, fun b hb => ?_⟩
      · simp only [Lib.decFrom, Lib.digitVal, e]
        rw [if_pos (by omega)]
        show some _ = some _
        congr 1; omega
      · rw [List.mem_singleton.1 hb]; unfold isDig; rw [e]; omega
    · obtain ⟨i1, i2⟩ := ih (u / 10) (by omega)
      have e := ofNat_dig (Nat.mod_lt u (by omega : 0 < 10))
      rw [Lib.decDigits, dif_neg h]
      refine ⟨?_, fun b hb => ?_⟩
      · rw [decFrom_append, i1]
        show Lib.decFrom (u / 10) [UInt8.ofNat (48 + u % 10)] = some u
        simp only [Lib.decFrom, Lib.digitVal, e]
        rw [if_pos (by omega)]
        show some _ = some _
        congr 1; omega
      · rcases List.mem_append.1 hb with hb | hb
        · exact i2 b hb
        · rw [List.mem_singleton.1 hb]; unfold isDig; rw [e]; omega
theorem nDigits_le : ∀ (k u : Nat), u < 10 ^ (k + 1) → Lib.nDigits u ≤ k + 1
  | 0, u, h => by rw [Lib.nDigits_small (by simpa using h)]; omega
  | k + 1, u, h => by
    by_cases h10 : u < 10
    · rw [Lib.nDigits_small h10]; omega
    · rw [Lib.nDigits_big h10]
      have := nDigits_le k (u / 10) (by rw [Nat.pow_succ] at h; omega)
      omega
theorem dec_len (u : Nat) : 1 ≤ (Lib.decDigits u).length := by rw [Lib.decDigits_length]; exact Lib.nDigits_pos u
theorem dec_len_le {u : Nat} (h : u ≤ 1000000000000) : (Lib.decDigits u).length ≤ 13 := by
  rw [Lib.decDigits_length]; exact nDigits_le 12 u (by omega)
theorem dec_nat {u : Nat} : Lib.decNat (Lib.decDigits u) = some u := by
  unfold Lib.decNat
  rw [if_neg, (dec_spells u).1]
  have := dec_len u
  intro h
  rw [List.isEmpty_iff.1 h] at this
  exact absurd this (by decide)
theorem dec_head (u : Nat) : ∃ c r, Lib.decDigits u = c :: r ∧ isDig c := by
  have h := dec_len u
  cases e : Lib.decDigits u with
  | nil => rw [e] at h; exact absurd h (by decide)
  | cons c r => exact ⟨c, r, rfl, (dec_spells u).2 c (by rw [e]; exact List.mem_cons_self)⟩
theorem atoi_itoa {n : Int} (h0 : -1000000000000 ≤ n) (h1 : n ≤ 1000000000000) : Lib.atoiAll (Lib.itoa n) = .ok n := by
  have hl := dec_len_le (u := n.natAbs) (by omega)
  by_cases hn : n < 0
  · unfold Lib.itoa
    rw [if_pos hn, Lib.atoiAll_minus, Lib.signed_short (by omega), dec_nat]
    show Lib.NumEnd.ok (-(n.natAbs : Int)) = .ok n
    congr 1; omega
  · unfold Lib.itoa
    have e : n.toNat = n.natAbs := by omega
    rw [if_neg hn, e]
    obtain ⟨c, r, hc, hd⟩ := dec_head n.natAbs
    unfold isDig at hd
    have := dec_nat (u := n.natAbs)
    rw [hc, Lib.atoiAll_plain c r (by omega) (by omega), Lib.signless_short (by rw [← hc]; omega), ← hc, this]
    show Lib.NumEnd.ok (n.natAbs : Int) = .ok n
    congr 1; omega
theorem itoa_mem {n : Int} {b : UInt8} (h : b ∈ Lib.itoa n) : b = 45 ∨ isDig b := by
  unfold Lib.itoa at h
  split at h
  · rcases List.mem_cons.1 h with h | h
    · exact Or.inl h
    · exact Or.inr ((dec_spells _).2 b h)
  · exact Or.inr ((dec_spells _).2 b h)
theorem numRead_itoa {n : Int} (h0 : -1000000000000 ≤ n) (h1 : n ≤ 1000000000000) : numRead (itoaB n) = (n, true) := by
  unfold numRead
  have e : (itoaB n).data.toList = Lib.itoa n := by unfold itoaB; simp
  rw [e, atoi_itoa h0 h1]
  simp
end Go.Proofs.YtejgfblphgcgkaaGreatDoor.P
namespace Go.Proofs.YtejgfblphgcgkaaGreatDoor.P
set_option linter.unusedVariables false
set_option linter.unusedSimpArgs false
open Go Go.RowKit
def cutC (c : UInt8) : List UInt8 → List (List UInt8)
  | [] => [[]]
  | x :: l => if x = c then [] :: cutC c l else match cutC c l with | [] => [[x]] | h :: t => (x :: h) :: t
theorem cutC_ne (c : UInt8) (l : List UInt8) : cutC c l ≠ [] := by
  cases l with
  | nil => simp [cutC]
  | cons x l =>
    unfold cutC
    split
    · simp
    · split <;> simp
theorem cutC_cons (c x : UInt8) (l : List UInt8) (h : x ≠ c) : ∃ a t, cutC c l = a :: t ∧ cutC c (x :: l) = (x :: a) :: t := by
  cases e : cutC c l with
  | nil => exact absurd e (cutC_ne c l)
  | cons a t => refine ⟨a, t, rfl, ?_⟩; rw [cutC, if_neg h, e]
theorem splitK_cons_eq (c : UInt8) (l : List UInt8) (k : Nat) : Lib.splitK [c] 0 (k + 1) (c :: l) = [] :: Lib.splitK [c] 0 k l := by
  have hix : Lib.index (c :: l) [c] = 0 := by rw [Lib.index]; simp [List.isPrefixOf]
  rw [Lib.splitK, hix]
  simp
theorem splitK_cons_ne (c x : UInt8) (l : List UInt8) (k : Nat) (h : x ≠ c) (a : List UInt8) (t : List (List UInt8)) (he : Lib.splitK [c] 0 k l = a :: t) : Lib.splitK [c] 0 k (x :: l) = (x :: a) :: t := by
  have hp : ([c] : List UInt8).isPrefixOf (x :: l) = false := by simp [List.isPrefixOf, Ne.symm h]
  have hix : Lib.index (x :: l) [c] = if Lib.index l [c] == -1 then -1 else Lib.index l [c] + 1 := by rw [Lib.index, hp]; simp
  cases k with
  | zero =>
    rw [Lib.splitK] at he ⊢
    injection he with h1 h2
    rw [← h1, ← h2]
  | succ k =>
    rw [Lib.splitK] at he ⊢
    by_cases hm : Lib.index l [c] = -1
    · rw [if_pos (by rw [hm]; rfl)] at he
      rw [if_pos (by rw [hix, hm]; rfl)]
      injection he with h1 h2
      rw [← h1, ← h2]
    · have hge := Lib.index_ge l [c]
      obtain ⟨j, hj⟩ : ∃ j : Nat, Lib.index l [c] = j := ⟨(Lib.index l [c]).toNat, by omega⟩
      have hb : (Lib.index l [c] == -1) = false := by simpa using hm
      rw [if_neg (by rw [hb]; simp)] at he
      have hix2 : Lib.index (x :: l) [c] = ((j + 1 : Nat) : Int) := by rw [hix, hb, hj]; simp
      have hb2 : (Lib.index (x :: l) [c] == -1) = false := by rw [hix2]; simp; omega
      rw [if_neg (by rw [hb2]; simp)]
      rw [hj] at he
      rw [hix2]
      simp only [Int.toNat_natCast, Nat.add_zero, List.length_singleton] at he ⊢
      injection he with h1 h2
      rw [← h1, ← h2]
      rfl
theorem splitK_cut (c : UInt8) : ∀ s : List UInt8, Lib.splitK [c] 0 (Lib.count s [c]) s = cutC c s
  | [] => by rw [Lib.count_miss (by simp [Lib.index])]; rfl
  | x :: l => by
    have ih := splitK_cut c l
    by_cases h : x = c
    · subst h
      rw [Lib.count_cons_eq, Nat.add_comm, splitK_cons_eq, ih, cutC, if_pos rfl]
    · obtain ⟨a, t, h1, h2⟩ := cutC_cons c x l h
      rw [h2, Lib.count_cons_ne x c l h]
      exact splitK_cons_ne c x l _ h a t (ih.trans h1)
theorem splitS_cut (s : ByteArray) (c : UInt8) : (splitS s ⟨#[c]⟩).map (·.data.toList) = cutC c s.data.toList := by
  unfold splitS
  rw [Lib.splitB_data]
  exact splitK_cut c s.data.toList
theorem cutC_piece (c : UInt8) : ∀ (a r : List UInt8), c ∉ a → cutC c (a ++ c :: r) = a :: cutC c r
  | [], r, _ => by rw [List.nil_append, cutC, if_pos rfl]
  | x :: a, r, h => by
    have hx : x ≠ c := fun e => h (by rw [e]; exact List.mem_cons_self ..)
    obtain ⟨b, t, h1, h2⟩ := cutC_cons c x (a ++ c :: r) hx
    rw [cutC_piece c a r (fun m => h (List.mem_cons_of_mem _ m))] at h1
    injection h1 with h3 h4
    rw [List.cons_append, h2, ← h3, ← h4]
theorem cutC_last (c : UInt8) : ∀ a : List UInt8, c ∉ a → cutC c a = [a]
  | [], _ => rfl
  | x :: a, h => by
    have hx : x ≠ c := fun e => h (by rw [e]; exact List.mem_cons_self ..)
    obtain ⟨b, t, h1, h2⟩ := cutC_cons c x a hx
    rw [cutC_last c a (fun m => h (List.mem_cons_of_mem _ m))] at h1
    injection h1 with h3 h4
    rw [h2, ← h3, ← h4]
end Go.Proofs.YtejgfblphgcgkaaGreatDoor.P
