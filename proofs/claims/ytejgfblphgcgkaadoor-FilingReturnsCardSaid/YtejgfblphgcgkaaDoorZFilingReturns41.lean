/- Texts for the law FilingReturns (kept out of a larger one). -/
import Derived.Test.YtejgfblphgcgkaaDoorZFilingReturns12
import Derived.Test.YtejgfblphgcgkaaDoorZFilingReturns14
import Derived.Test.YtejgfblphgcgkaaDoorZFilingReturns35
import Derived.Test.YtejgfblphgcgkaaDoorZFilingReturns40
import Derived.WalkKit
namespace Go.Proofs.YtejgfblphgcgkaaDoor.P
set_option linter.unusedVariables false
set_option linter.unusedSimpArgs false
open Go.RowKit Go.Proofs.YtejgfblphgcgkaaDoorW.PrintWords
def totalB (n : Int) : Bool := decide (-1000000000000 ≤ n) && decide (n ≤ 1000000000000)
theorem total_eq (n : Int) : payslip_total.f n = some (totalB n) := by
  unfold payslip_total.f totalB
  by_cases h : -1000000000000 ≤ n
  · rw [if_pos h]; simp [h]
  · rw [if_neg h]; simp [h]
def bareB (k : Int) : Bool := decide (k = 6) || decide (k = 9) || decide (k = 10)
def formP (a : Int) (b : ByteArray) (c : Int) : Bool := decide (1 ≤ a) && decide (a ≤ 10) && (totalB c && (if bareB a = true then decide (b.data.toList = []) else nameB b.data.toList))
theorem coded_eq (a : Int) : payslip_coded.f a = some (!bareB a) := by
  unfold payslip_coded.f bareB
  by_cases h1 : a = 6
  · rw [if_pos h1]; simp [h1]
  · rw [if_neg h1]
    by_cases h2 : a = 9
    · rw [if_pos h2]; simp [h2]
    · rw [if_neg h2]; simp only [h1, h2, decide_false, Bool.false_or]; rfl
theorem form_tail (a : Int) (b : ByteArray) (c : Int) (t : Bool) : Ev (fun k => payslip_form.j0 k t a b c) (!t && (if bareB a = true then decide (b.data.toList = []) else nameB b.data.toList)) := by
  refine Ev.step (fun k => by simp only [payslip_form.j0]; rfl) ?_
  cases t with
  | true => exact Ev.ifp (by first | rfl | trivial) (Ev.now _)
  | false =>
    refine Ev.ifn (by decide) (Ev.bindc (coded_eq a) ?_)
    by_cases hb : bareB a = true
    · rw [hb, if_pos rfl]
      refine Ev.ifn (by decide) ?_
      rw [Lib.toList_data]
      refine (Ev.now _).cast (Bool.eq_iff_iff.2 ?_)
      simp only [Bool.not_false, Bool.true_and, if_true]
      rw [beq_iff_eq, decide_eq_true_iff]
    · have hb' : bareB a = false := by simpa using hb
      rw [hb']
      refine Ev.ifp (by first | rfl | trivial) (Ev.bind (token_IsName_ev b) ?_)
      simpa using Ev.now _
theorem payslip_form_ev (a : Int) (b : ByteArray) (c : Int) : Ev (fun k => payslip_form.f k a b c) (formP a b c) := by
  unfold payslip_form.f formP
  by_cases h1 : a < 1
  · rw [decide_eq_false (show ¬ 1 ≤ a by omega)]
    exact Ev.ifp h1 ((form_tail a b c true).cast (by simp))
  · by_cases h2 : a > 10
    · rw [decide_eq_false (show ¬ a ≤ 10 by omega)]
      exact Ev.ifn h1 (Ev.ifp h2 ((form_tail a b c true).cast (by simp)))
    · rw [decide_eq_true (show 1 ≤ a by omega), decide_eq_true (show a ≤ 10 by omega)]
      refine Ev.ifn h1 (Ev.ifn h2 (Ev.bindc (total_eq c) ?_))
      refine (form_tail a b c (!totalB c)).cast ?_
      simp
def FormP (a : Int) (b : ByteArray) (c : Int) : Bool := formP a b c && (c != 0)
theorem payslip_Form_ev (a : Int) (b : ByteArray) (c : Int) : Ev (fun k => payslip_Form.f k a b c) (FormP a b c) := by
  unfold payslip_Form.f FormP
  refine Ev.bind (payslip_form_ev a b c) ?_
  cases h : formP a b c with
  | true => exact Ev.ifp (by first | rfl | trivial) ((Ev.now _).cast (by simp))
  | false => exact Ev.ifn (by decide) ((Ev.now _).cast (by simp))
end Go.Proofs.YtejgfblphgcgkaaDoor.P
