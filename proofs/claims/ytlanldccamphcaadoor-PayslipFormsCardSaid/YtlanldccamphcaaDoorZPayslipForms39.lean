/- Texts for the law PayslipForms (kept out of a larger one). -/
import Derived.Test.YtlanldccamphcaaDoorZPayslipForms11
import Derived.Test.YtlanldccamphcaaDoorZPayslipForms14
import Derived.Test.YtlanldccamphcaaDoorZPayslipForms33
import Derived.Test.YtlanldccamphcaaDoorZPayslipForms34
import Derived.Test.YtlanldccamphcaaDoorZPayslipForms37
import Derived.Test.YtlanldccamphcaaDoorZPayslipForms36
import Derived.Test.YtlanldccamphcaaDoorZPayslipForms38
import Derived.Test.YtlanldccamphcaaDoorZPayslipForms28
import Derived.WalkKit
namespace Go.Proofs.YtlanldccamphcaaDoor.P
set_option linter.unusedVariables false
set_option linter.unusedSimpArgs false
open Go.RowKit Go.Proofs.YtlanldccamphcaaDoorW.PrintWords
def bareB (k : Int) : Bool := decide (k = 6) || decide (k = 9) || decide (k = 10)
def formP (a : Int) (b : ByteArray) (c : Int) : Bool := decide (1 ≤ a) && decide (a ≤ 10) && (totalB c && (if bareB a = true then decide (b.data.toList = []) else nameB b.data.toList))
theorem coded_eq (a : Int) : payslip_coded.f a = some (!bareB a) := by
  unfold payslip_coded.f bareB
  by_cases h1 : a = 6
  · rw [if_pos h1]; simp [h1]
  · rw [if_neg h1]
    by_cases h2 : a = 9
    · rw [if_pos h2]; simp [h2]
    · rw [if_neg h2]; simp only [h1, h2, decide_false, Bool.false_or]; rfl
theorem bare_eq (a : Int) : payrollref32_Bare.f a = some (bareB a) := by
  unfold payrollref32_Bare.f bareB
  by_cases h1 : a = 6
  · rw [if_pos h1]; simp [h1]
  · rw [if_neg h1]
    by_cases h2 : a = 9
    · rw [if_pos h2]; simp [h2]
    · rw [if_neg h2]; simp only [h1, h2, decide_false, Bool.false_or]; rfl
theorem form_tail (a : Int) (b : ByteArray) (c : Int) (t : Bool) : Ev (fun k => payslip_form.j0 k t a b c) (!t && (if bareB a = true then decide (b.data.toList = []) else nameB b.data.toList)) := by
  refine Ev.step (fun k => by simp only [payslip_form.j0]; rfl) ?_
  cases t with
  | true => exact Ev.ifp (by first | rfl | trivial) (Ev.now _)
  | false =>
    refine Ev.ifn (by decide) (Ev.bindc (coded_eq a) ?_)
    by_cases hb : bareB a = true
    · rw [hb, if_pos rfl]
      refine Ev.ifn (by decide) ?_
      rw [Lib.toList_data]
      refine (Ev.now _).cast (Bool.eq_iff_iff.2 ?_)
      simp only [Bool.not_false, Bool.true_and, if_true]
      rw [beq_iff_eq, decide_eq_true_iff]
    · have hb' : bareB a = false := by simpa using hb
      rw [hb']
      refine Ev.ifp (by first | rfl | trivial) (Ev.bind (token_IsName_ev b) ?_)
      simpa using Ev.now _
theorem payslip_form_ev (a : Int) (b : ByteArray) (c : Int) : Ev (fun k => payslip_form.f k a b c) (formP a b c) := by
  unfold payslip_form.f formP
  by_cases h1 : a < 1
  · rw [decide_eq_false (show ¬ 1 ≤ a by omega)]
    exact Ev.ifp h1 ((form_tail a b c true).cast (by simp))
  · by_cases h2 : a > 10
    · rw [decide_eq_false (show ¬ a ≤ 10 by omega)]
      exact Ev.ifn h1 (Ev.ifp h2 ((form_tail a b c true).cast (by simp)))
    · rw [decide_eq_true (show 1 ≤ a by omega), decide_eq_true (show a ≤ 10 by omega)]
      refine Ev.ifn h1 (Ev.ifn h2 (Ev.bindc (total_eq c) ?_))
      refine (form_tail a b c (!totalB c)).cast ?_
      simp
theorem ref32_tail (a : Int) (b : ByteArray) (c : Int) (t : Bool) : Ev (fun k => payrollref32_Form.j0 k t a b c) (!t && (if bareB a = true then decide (b.data.toList = []) else nameB b.data.toList)) := by
  refine Ev.step (fun k => by simp only [payrollref32_Form.j0]; rfl) ?_
  cases t with
  | true => exact Ev.ifp (by first | rfl | trivial) (Ev.now _)
  | false =>
    refine Ev.ifn (by decide) (Ev.bindc (bare_eq a) ?_)
    by_cases hb : bareB a = true
    · rw [hb, if_pos rfl]
      refine Ev.ifp (by first | rfl | trivial) ?_
      rw [Lib.toList_data]
      refine (Ev.now _).cast (Bool.eq_iff_iff.2 ?_)
      simp only [Bool.not_false, Bool.true_and, if_true]
      rw [beq_iff_eq, decide_eq_true_iff]
    · have hb' : bareB a = false := by simpa using hb
      rw [hb']
      refine Ev.ifn (by decide) (Ev.bind (ref17_IsName_ev b) ?_)
      simpa using Ev.now _
theorem ref32_Form_ev (a : Int) (b : ByteArray) (c : Int) : Ev (fun k => payrollref32_Form.f k a b c) (formP a b c) := by
  unfold payrollref32_Form.f formP
  by_cases h1 : a < 1
  · rw [decide_eq_false (show ¬ 1 ≤ a by omega)]
    exact Ev.ifp h1 ((ref32_tail a b c true).cast (by simp))
  · by_cases h2 : a > 10
    · rw [decide_eq_false (show ¬ a ≤ 10 by omega)]
      exact Ev.ifn h1 (Ev.ifp h2 ((ref32_tail a b c true).cast (by simp)))
    · rw [decide_eq_true (show 1 ≤ a by omega), decide_eq_true (show a ≤ 10 by omega)]
      refine Ev.ifn h1 (Ev.ifn h2 ?_)
      by_cases h3 : c < -1000000000000
      · refine Ev.ifp h3 ((ref32_tail a b c true).cast ?_)
        unfold totalB; rw [decide_eq_false (show ¬ -1000000000000 ≤ c by omega)]; simp
      · refine Ev.ifn h3 ((ref32_tail a b c _).cast ?_)
        unfold totalB; rw [decide_eq_true (show -1000000000000 ≤ c by omega)]
        by_cases h4 : c ≤ 1000000000000
        · rw [decide_eq_true h4, decide_eq_false (show ¬ c > 1000000000000 by omega)]; simp
        · rw [decide_eq_false h4, decide_eq_true (show c > 1000000000000 by omega)]; simp
def FormP (a : Int) (b : ByteArray) (c : Int) : Bool := formP a b c && (c != 0)
theorem payslip_Form_ev (a : Int) (b : ByteArray) (c : Int) : Ev (fun k => payslip_Form.f k a b c) (FormP a b c) := by
  unfold payslip_Form.f FormP
  refine Ev.bind (payslip_form_ev a b c) ?_
  cases h : formP a b c with
  | true => exact Ev.ifp (by first | rfl | trivial) ((Ev.now _).cast (by simp))
  | false => exact Ev.ifn (by decide) ((Ev.now _).cast (by simp))
theorem ref34_Form_ev (a : Int) (b : ByteArray) (c : Int) : Ev (fun k => payrollref34_Form.f k a b c) (FormP a b c) := by
  unfold payrollref34_Form.f FormP
  by_cases h : c = 0
  · exact Ev.ifp h ((Ev.now _).cast (by simp [h]))
  · exact Ev.ifn h (Ev.bind (ref32_Form_ev a b c) ((Ev.now _).cast (by simp [h])))
theorem deck_small (l : List Int) (p : Int) (hp : 0 ≤ p) (hp2 : p ≤ 100000000000) : ∃ v p', Ev (fun k => paygen_Deck_Small.f k l p) (v, p') ∧ p ≤ p' ∧ p' ≤ p + 2 ∧ 0 ≤ v ∧ v < 600000 := by
  unfold paygen_Deck_Small.f
  obtain ⟨v, h1, h2, h3⟩ := deck_next l p 5 ⟨hp, by omega⟩ (by omega) (by omega)
  by_cases c : v = 0
  · obtain ⟨u, g1, g2⟩ := deck_pick l (p + 1) [0, 0, 1, 100] ⟨by omega, by omega⟩ (by decide) (by decide)
    refine ⟨u, p + 1 + 1, Ev.bind h1 (Ev.ifp c (Ev.bind g1 (Ev.now _))), by omega, by omega, ?_⟩
    simp only [List.mem_cons, List.not_mem_nil, or_false] at g2
    omega
  · obtain ⟨u, g1, g2, g3⟩ := deck_next l (p + 1) 600000 ⟨by omega, by omega⟩ (by omega) (by omega)
    exact ⟨u, p + 1 + 1, Ev.bind h1 (Ev.ifn c (Ev.bind g1 (Ev.now _))), by omega, by omega, g2, g3⟩
def deckCodes : List ByteArray := [(⟨#[98, 111, 110, 117, 115]⟩ : ByteArray), (⟨#[99, 97, 114]⟩ : ByteArray), (⟨#[110, 105, 103, 104, 116]⟩ : ByteArray), (⟨#[115, 97, 108, 97, 114, 121]⟩ : ByteArray), (⟨#[97]⟩ : ByteArray), (⟨#[98]⟩ : ByteArray), (⟨#[120, 49]⟩ : ByteArray), (⟨#[97, 98, 99, 100, 101, 102, 103, 104, 105, 106, 107, 108, 109, 110, 111, 112, 113, 114, 115, 116, 117, 118, 119, 120]⟩ : ByteArray)]
theorem deckCodes_names : ∀ c ∈ deckCodes, nameB c.data.toList = true := by
  have h : deckCodes.all (fun c => nameB c.data.toList) = true := by decide +kernel
  exact fun c hc => List.all_eq_true.1 h c hc
theorem deck_code (l : List Int) (p : Int) (hp : 0 ≤ p) (hp2 : p ≤ 100000000000) : ∃ c, Ev (fun k => paygen_Deck_Code.f k l p) (c, p + 1) ∧ nameB c.data.toList = true := by
  unfold paygen_Deck_Code.f
  obtain ⟨v, h1, h2, h3⟩ := deck_next l p 8 ⟨hp, by omega⟩ (by omega) (by omega)
  have hl : v.toNat < deckCodes.length := by show v.toNat < 8; omega
  refine ⟨rdOf ByteArray.empty deckCodes v, Ev.bindc (a := deckCodes) rfl (Ev.bind h1 (Ev.ifp h2 (Ev.ifp (by show v < ((8 : Nat) : Int); omega) (Ev.now _)))), ?_⟩
  unfold rdOf
  rw [List.getD_eq_getElem?_getD, List.getElem?_eq_getElem hl]
  exact deckCodes_names _ (List.getElem_mem hl)
def Drawn (x : S23) : Prop := formP x.f0 x.f1 x.f2 = true ∧ x.f2 ≠ 0 ∧ -600000 ≤ x.f2 ∧ x.f2 ≤ 600000 ∧ x.f1.size ≤ 24
theorem deck_line (l : List Int) (p : Int) (hp : 0 ≤ p) (hp2 : p ≤ 10000000000) : ∃ a b c p', Ev (fun k => paygen_Deck_Line.f k l p) (a, b, c, p') ∧ p ≤ p' ∧ p' ≤ p + 5 ∧ Drawn ⟨a, b, c⟩ := by
  unfold paygen_Deck_Line.f
  obtain ⟨v, h1, h2, h3⟩ := deck_next l p 10 ⟨hp, by omega⟩ (by omega) (by omega)
  obtain ⟨u, p2, g1, g2, g3, g4, g5⟩ := deck_small l (p + 1) (by omega) (by omega)
  have e1 : wrap64 (1 + v) = 1 + v := by unfold wrap64; omega
  have e2 : wrap64 (1 + u) = 1 + u := by unfold wrap64; omega
  have hj : ∀ (b : ByteArray) (q : Int), 0 ≤ q → q ≤ 100000000000 → ∃ c, Ev (fun k => paygen_Deck_Line.j0 k l q (1 + v) b (1 + u)) (1 + v, b, c, q + 1) ∧ c ≠ 0 ∧ -600000 ≤ c ∧ c ≤ 600000 := by
    intro b q hq hq2
    obtain ⟨z, z1, z2, z3⟩ := deck_next l q 3 ⟨hq, by omega⟩ (by omega) (by omega)
    by_cases hz : z = 0
    · exact ⟨wrap64 (-(1 + u)), Ev.step (fun k => by simp only [paygen_Deck_Line.j0]; rfl) (Ev.bind z1 (Ev.ifp hz (Ev.now _))), by unfold wrap64; omega, by unfold wrap64; omega, by unfold wrap64; omega⟩
    · exact ⟨1 + u, Ev.step (fun k => by simp only [paygen_Deck_Line.j0]; rfl) (Ev.bind z1 (Ev.ifn hz (Ev.now _))), by omega, by omega, by omega⟩
  have hf : ∀ (b : ByteArray) (c : Int), -600000 ≤ c → c ≤ 600000 → (if bareB (1 + v) = true then decide (b.data.toList = []) else nameB b.data.toList) = true → formP (1 + v) b c = true := by
    intro b c c1 c2 hb
    unfold formP totalB
    rw [hb, decide_eq_true (show 1 ≤ 1 + v by omega), decide_eq_true (show 1 + v ≤ 10 by omega), decide_eq_true (show -1000000000000 ≤ c by omega), decide_eq_true (show c ≤ 1000000000000 by omega)]; rfl
  by_cases hb : bareB (1 + v) = true
  · obtain ⟨c, k1, k2, k3, k4⟩ := hj ⟨#[]⟩ p2 (by omega) (by omega)
    refine ⟨1 + v, ⟨#[]⟩, c, p2 + 1, Ev.bind h1 (Ev.bind g1 ?_), by omega, by omega, hf _ _ k3 k4 (by rw [if_pos hb]; rfl), k2, k3, k4, by show 0 ≤ 24; omega⟩
    rw [e1, e2]
    exact Ev.bindc (bare_eq _) (Ev.ifp hb k1)
  · obtain ⟨b, b1, b2⟩ := deck_code l p2 (by omega) (by omega)
    obtain ⟨c, k1, k2, k3, k4⟩ := hj b (p2 + 1) (by omega) (by omega)
    refine ⟨1 + v, b, c, p2 + 1 + 1, Ev.bind h1 (Ev.bind g1 ?_), by omega, by omega, hf _ _ k3 k4 (by rw [if_neg hb]; exact b2), k2, k3, k4, ?_⟩
    · rw [e1, e2]
      exact Ev.bindc (bare_eq _) (Ev.ifn hb (Ev.bind b1 k1))
    · unfold nameB at b2
      simp only [Bool.and_eq_true, decide_eq_true_eq] at b2
      rw [data_length] at b2
      show b.size ≤ 24
      omega
end Go.Proofs.YtlanldccamphcaaDoor.P
