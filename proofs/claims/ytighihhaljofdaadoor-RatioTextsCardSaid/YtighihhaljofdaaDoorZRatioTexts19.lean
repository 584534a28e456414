/- Texts for the law RatioTexts (kept out of a larger one). -/
import Derived.Test.YtighihhaljofdaaDoorZRatioTexts9
import Derived.Test.YtighihhaljofdaaDoorZRatioTexts10
import Derived.Test.YtighihhaljofdaaDoorZRatioTexts14
import Derived.Test.YtighihhaljofdaaDoorZRatioTexts16
import Derived.Test.YtighihhaljofdaaDoorZRatioTexts17
import Derived.Test.YtighihhaljofdaaDoorZRatioTexts18
import Derived.Test.YtighihhaljofdaaDoorZRatioTexts15
import Derived.Test.YtighihhaljofdaaDoorZRatioTexts12
-- Written by a program of this session (wip/tools/xprint.py) out of the translation; Lean checks it.
namespace Go.Proofs.YtighihhaljofdaaDoor.P
open Go.RowKit Go.Proofs.YtighihhaljofdaaDoorW.PrintWords Go.Proofs.YtighihhaljofdaaDoorW.PrintLast Go.Proofs.YtighihhaljofdaaDoorW.PrintMore
attribute [local go_sem] max2_int min2_int max_two min_two max_three min_three max_four min_four   -- for this text's walks alone
set_option linter.unusedVariables false
set_option linter.unusedSimpArgs false
attribute [local go_sem high] eqA23
def payrolllaw1_RatioTexts.l0 : Nat → List ByteArray → Int → Int → Int → Int → Int → Option (Bool)
  | 0, _, _, _, _, _, _ => none
  | k + 1, x9, x10, x215000, x215001, x222000, x222001 => if x10 < (x9.length : Int) then (if 0 ≤ x10 then ((ratio_Parse.f k (rdOf ByteArray.empty x9 x10)).bind fun bt231 => ((payrollref1_Parse.f k (rdOf ByteArray.empty x9 x10)).bind fun bt236 => (if (!(bt231.1 == bt236.1) || (!(bt231.2.1 == bt236.2.1))) = true then (some false) else (if (bt231.2.2 != bt236.2.2) = true then (some false) else (payrolllaw1_RatioTexts.l0 k x9 (wrap64 (x10 + 1)) x215000 x215001 x222000 x222001))))) else (none)) else ((ratio_Format.f k x215000 x215001).bind fun t240 => ((payrollref1_Format.f k x215000 x215001).bind fun t241 => (if t240.toList = t241.toList then ((ratio_Format.f k x222000 x222001).bind fun t242 => ((payrollref1_Format.f k x222000 x222001).bind fun t243 => (if t242.toList = t243.toList then ((payrolllaw1_sane.f k).bind fun t244 => (some t244)) else (some false)))) else (some false))))
def payrolllaw1_RatioTexts.f (k : Nat) (l0 : List Int) (a1_0 : Int) (a1_1 : Int) (a2 : ByteArray) : Option (Bool) := (payrollgen_New.f l0).bind fun bt215 => ((payrollgen_Tape_Ratio.f k bt215.1 bt215.2).bind fun bt218 => ((ratio_Format.f k bt218.1 bt218.2.1).bind fun t222 => ((payrollref1_Format.f k bt218.1 bt218.2.1).bind fun t223 => ((payrollref1_Format.f k bt218.1 bt218.2.1).bind fun t224 => (if t224.size + 1 ≤ 9223372036854775807 then ((payrollref1_Format.f k bt218.1 bt218.2.1).bind fun t225 => (if 1 + t225.size ≤ 9223372036854775807 then ((payrollref1_Format.f k bt218.1 bt218.2.1).bind fun t226 => (if 1 + t226.size ≤ 9223372036854775807 then (payrolllaw1_RatioTexts.l0 k (([a2, t222, t223, t224 ++ (⟨#[48]⟩ : ByteArray), (⟨#[45]⟩ : ByteArray) ++ t225, (⟨#[48]⟩ : ByteArray) ++ t226, (⟨#[49, 48, 48, 48, 48, 48, 48, 48, 48, 48, 48, 48, 48]⟩ : ByteArray), (⟨#[49, 48, 48, 48, 48, 48, 48, 48, 48, 48, 48, 48, 49]⟩ : ByteArray), (⟨#[50, 47, 52]⟩ : ByteArray), (⟨#[45, 48]⟩ : ByteArray), (⟨#[49, 47, 48]⟩ : ByteArray), (⟨#[55, 47, 49, 48, 48, 48, 48, 48, 48]⟩ : ByteArray), (⟨#[55, 47, 49, 48, 48, 48, 48, 48, 49]⟩ : ByteArray)] : List ByteArray)) 0 a1_0 a1_1 bt218.1 bt218.2.1) else (none))) else (none))) else (none))))))
def payrolllaw1_RatioTexts.T3 : Bool × List (List Nat × List Nat) := (true, [([], []), ([], []), ([1], [1]), ([], []), ([3, 2], [3]), ([], []), ([5, 4], [5]), ([6], [6]), ([], []), ([8, 6], [8]), ([9], [9]), ([], []), ([11, 9], [11]), ([12], [12]), ([0, 2, 4, 7, 10, 13], [0, 2, 4, 7, 10, 13]), ([14, 12, 0, 1, 2, 3, 4, 5, 6, 7, 8, 9, 10, 11, 12, 13, 14], [14])])
def payrolllaw1_RatioTexts.B3 : List Nat := [0, 0, 2, 0, 14, 0, 62, 126, 0, 382, 894, 0, 2942, 7038, 16383, 32767]
theorem payrolllaw1_RatioTexts.tab3 : rtab .any (opsOf Tryd.f4 3) = payrolllaw1_RatioTexts.T3 := by kernel_rfl
theorem payrolllaw1_RatioTexts.bits3 : waitsOk payrolllaw1_RatioTexts.T3.2 payrolllaw1_RatioTexts.B3 = true := by kernel_rfl
def payrolllaw1_RatioTexts.T11 : Bool × List (List Nat × List Nat) := (true, [([], []), ([0], [0]), ([], []), ([2, 1], [2]), ([1, 3], [1, 3]), ([4, 3], [4]), ([5], [5]), ([6, 5, 5], [5, 6]), ([5], [5]), ([8, 7, 5], [5, 8]), ([7, 9, 5], [5, 7, 9]), ([5, 10], [5, 10]), ([11, 9], [11]), ([12, 12], [12]), ([12, 13], [12, 13]), ([14, 13, 0, 1, 2, 3, 4, 5, 6, 7, 8, 9, 10, 11, 12, 13, 14], [14])])
def payrolllaw1_RatioTexts.B11 : List Nat := [0, 1, 0, 7, 15, 31, 63, 127, 63, 511, 1023, 2047, 4095, 8191, 16383, 32767]
theorem payrolllaw1_RatioTexts.tab11 : rtab .any (opsOf Tryd.f4 11) = payrolllaw1_RatioTexts.T11 := by kernel_rfl
theorem payrolllaw1_RatioTexts.bits11 : waitsOk payrolllaw1_RatioTexts.T11.2 payrolllaw1_RatioTexts.B11 = true := by kernel_rfl
set_option maxHeartbeats 8000000 in
set_option maxRecDepth 100000 in
theorem payrolllaw1_RatioTexts.calls (k : Nat) (A0 : Option Addr) (c0 : Nat) (l0 : List Int) (a1_0 : Int) (a1_1 : Int) (a2 : ByteArray) (w : World) (hr0 : Kd.C (Kd.int .i64) w A0 l0.length l0) (hc0 : l0.length ≤ c0) (hT : Tabs w) (h : payrolllaw1_RatioTexts.f k l0 a1_0 a1_1 a2 = some true) :
    Calls Tryd.prog 4 #[.slice A0 l0.length c0, .agg #[.int .i64 a1_0, .int .i64 a1_1], .string a2] w fun e w' => e = .returned (.bool true) ∧ Below w.heap.size w w' := by
  have hu23 := Tryd.underlying23
  have HR0 := Aside0.mk hr0
  have HC0 := Aside0.mk hc0
  clear hr0 hc0
  have HB := Aside0.mk (Below.refl w.heap.size w)
  have HT := Aside0.mk hT
  clear hT
  have H : ((payrollgen_New.f l0).bind fun bt215 => ((payrollgen_Tape_Ratio.f k bt215.1 bt215.2).bind fun bt218 => ((ratio_Format.f k bt218.1 bt218.2.1).bind fun t222 => ((payrollref1_Format.f k bt218.1 bt218.2.1).bind fun t223 => ((payrollref1_Format.f k bt218.1 bt218.2.1).bind fun t224 => (if t224.size + 1 ≤ 9223372036854775807 then ((payrollref1_Format.f k bt218.1 bt218.2.1).bind fun t225 => (if 1 + t225.size ≤ 9223372036854775807 then ((payrollref1_Format.f k bt218.1 bt218.2.1).bind fun t226 => (if 1 + t226.size ≤ 9223372036854775807 then (payrolllaw1_RatioTexts.l0 k (([a2, t222, t223, t224 ++ (⟨#[48]⟩ : ByteArray), (⟨#[45]⟩ : ByteArray) ++ t225, (⟨#[48]⟩ : ByteArray) ++ t226, (⟨#[49, 48, 48, 48, 48, 48, 48, 48, 48, 48, 48, 48, 48]⟩ : ByteArray), (⟨#[49, 48, 48, 48, 48, 48, 48, 48, 48, 48, 48, 48, 49]⟩ : ByteArray), (⟨#[50, 47, 52]⟩ : ByteArray), (⟨#[45, 48]⟩ : ByteArray), (⟨#[49, 47, 48]⟩ : ByteArray), (⟨#[55, 47, 49, 48, 48, 48, 48, 48, 48]⟩ : ByteArray), (⟨#[55, 47, 49, 48, 48, 48, 48, 48, 49]⟩ : ByteArray)] : List ByteArray)) 0 a1_0 a1_1 bt218.1 bt218.2.1) else (none))) else (none))) else (none))))))) = some true := h
  clear h
  replace H := Option.bind_eq_some_iff.mp H
  obtain ⟨⟨t215, t216⟩, A40, H⟩ := H
  replace H : ((payrollgen_Tape_Ratio.f k t215 t216).bind fun bt218 => ((ratio_Format.f k bt218.1 bt218.2.1).bind fun t222 => ((payrollref1_Format.f k bt218.1 bt218.2.1).bind fun t223 => ((payrollref1_Format.f k bt218.1 bt218.2.1).bind fun t224 => (if t224.size + 1 ≤ 9223372036854775807 then ((payrollref1_Format.f k bt218.1 bt218.2.1).bind fun t225 => (if 1 + t225.size ≤ 9223372036854775807 then ((payrollref1_Format.f k bt218.1 bt218.2.1).bind fun t226 => (if 1 + t226.size ≤ 9223372036854775807 then (payrolllaw1_RatioTexts.l0 k (([a2, t222, t223, t224 ++ (⟨#[48]⟩ : ByteArray), (⟨#[45]⟩ : ByteArray) ++ t225, (⟨#[48]⟩ : ByteArray) ++ t226, (⟨#[49, 48, 48, 48, 48, 48, 48, 48, 48, 48, 48, 48, 48]⟩ : ByteArray), (⟨#[49, 48, 48, 48, 48, 48, 48, 48, 48, 48, 48, 48, 49]⟩ : ByteArray), (⟨#[50, 47, 52]⟩ : ByteArray), (⟨#[45, 48]⟩ : ByteArray), (⟨#[49, 47, 48]⟩ : ByteArray), (⟨#[55, 47, 49, 48, 48, 48, 48, 48, 48]⟩ : ByteArray), (⟨#[55, 47, 49, 48, 48, 48, 48, 48, 49]⟩ : ByteArray)] : List ByteArray)) 0 a1_0 a1_1 bt218.1 bt218.2.1) else (none))) else (none))) else (none)))))) = some true := H
  have A4 := Aside0.mk A40
  clear A40
  replace H := Option.bind_eq_some_iff.mp H
  obtain ⟨⟨t218, t219, t220⟩, A50, H⟩ := H
  replace H : ((ratio_Format.f k t218 t219).bind fun t222 => ((payrollref1_Format.f k t218 t219).bind fun t223 => ((payrollref1_Format.f k t218 t219).bind fun t224 => (if t224.size + 1 ≤ 9223372036854775807 then ((payrollref1_Format.f k t218 t219).bind fun t225 => (if 1 + t225.size ≤ 9223372036854775807 then ((payrollref1_Format.f k t218 t219).bind fun t226 => (if 1 + t226.size ≤ 9223372036854775807 then (payrolllaw1_RatioTexts.l0 k (([a2, t222, t223, t224 ++ (⟨#[48]⟩ : ByteArray), (⟨#[45]⟩ : ByteArray) ++ t225, (⟨#[48]⟩ : ByteArray) ++ t226, (⟨#[49, 48, 48, 48, 48, 48, 48, 48, 48, 48, 48, 48, 48]⟩ : ByteArray), (⟨#[49, 48, 48, 48, 48, 48, 48, 48, 48, 48, 48, 48, 49]⟩ : ByteArray), (⟨#[50, 47, 52]⟩ : ByteArray), (⟨#[45, 48]⟩ : ByteArray), (⟨#[49, 47, 48]⟩ : ByteArray), (⟨#[55, 47, 49, 48, 48, 48, 48, 48, 48]⟩ : ByteArray), (⟨#[55, 47, 49, 48, 48, 48, 48, 48, 49]⟩ : ByteArray)] : List ByteArray)) 0 a1_0 a1_1 t218 t219) else (none))) else (none))) else (none))))) = some true := H
  have A5 := Aside0.mk A50
  clear A50
  replace H := Option.bind_eq_some_iff.mp H
  obtain ⟨t222, A60, H⟩ := H
  replace H : ((payrollref1_Format.f k t218 t219).bind fun t223 => ((payrollref1_Format.f k t218 t219).bind fun t224 => (if t224.size + 1 ≤ 9223372036854775807 then ((payrollref1_Format.f k t218 t219).bind fun t225 => (if 1 + t225.size ≤ 9223372036854775807 then ((payrollref1_Format.f k t218 t219).bind fun t226 => (if 1 + t226.size ≤ 9223372036854775807 then (payrolllaw1_RatioTexts.l0 k (([a2, t222, t223, t224 ++ (⟨#[48]⟩ : ByteArray), (⟨#[45]⟩ : ByteArray) ++ t225, (⟨#[48]⟩ : ByteArray) ++ t226, (⟨#[49, 48, 48, 48, 48, 48, 48, 48, 48, 48, 48, 48, 48]⟩ : ByteArray), (⟨#[49, 48, 48, 48, 48, 48, 48, 48, 48, 48, 48, 48, 49]⟩ : ByteArray), (⟨#[50, 47, 52]⟩ : ByteArray), (⟨#[45, 48]⟩ : ByteArray), (⟨#[49, 47, 48]⟩ : ByteArray), (⟨#[55, 47, 49, 48, 48, 48, 48, 48, 48]⟩ : ByteArray), (⟨#[55, 47, 49, 48, 48, 48, 48, 48, 49]⟩ : ByteArray)] : List ByteArray)) 0 a1_0 a1_1 t218 t219) else (none))) else (none))) else (none)))) = some true := H
  have A6 := Aside0.mk A60
  clear A60
  replace H := Option.bind_eq_some_iff.mp H
  obtain ⟨t223, A70, H⟩ := H
  replace H : ((payrollref1_Format.f k t218 t219).bind fun t224 => (if t224.size + 1 ≤ 9223372036854775807 then ((payrollref1_Format.f k t218 t219).bind fun t225 => (if 1 + t225.size ≤ 9223372036854775807 then ((payrollref1_Format.f k t218 t219).bind fun t226 => (if 1 + t226.size ≤ 9223372036854775807 then (payrolllaw1_RatioTexts.l0 k (([a2, t222, t223, t224 ++ (⟨#[48]⟩ : ByteArray), (⟨#[45]⟩ : ByteArray) ++ t225, (⟨#[48]⟩ : ByteArray) ++ t226, (⟨#[49, 48, 48, 48, 48, 48, 48, 48, 48, 48, 48, 48, 48]⟩ : ByteArray), (⟨#[49, 48, 48, 48, 48, 48, 48, 48, 48, 48, 48, 48, 49]⟩ : ByteArray), (⟨#[50, 47, 52]⟩ : ByteArray), (⟨#[45, 48]⟩ : ByteArray), (⟨#[49, 47, 48]⟩ : ByteArray), (⟨#[55, 47, 49, 48, 48, 48, 48, 48, 48]⟩ : ByteArray), (⟨#[55, 47, 49, 48, 48, 48, 48, 48, 49]⟩ : ByteArray)] : List ByteArray)) 0 a1_0 a1_1 t218 t219) else (none))) else (none))) else (none))) = some true := H
  have A7 := Aside0.mk A70
  clear A70
  replace H := Option.bind_eq_some_iff.mp H
  obtain ⟨t224, A80, H⟩ := H
  replace H : (if t224.size + 1 ≤ 9223372036854775807 then ((payrollref1_Format.f k t218 t219).bind fun t225 => (if 1 + t225.size ≤ 9223372036854775807 then ((payrollref1_Format.f k t218 t219).bind fun t226 => (if 1 + t226.size ≤ 9223372036854775807 then (payrolllaw1_RatioTexts.l0 k (([a2, t222, t223, t224 ++ (⟨#[48]⟩ : ByteArray), (⟨#[45]⟩ : ByteArray) ++ t225, (⟨#[48]⟩ : ByteArray) ++ t226, (⟨#[49, 48, 48, 48, 48, 48, 48, 48, 48, 48, 48, 48, 48]⟩ : ByteArray), (⟨#[49, 48, 48, 48, 48, 48, 48, 48, 48, 48, 48, 48, 49]⟩ : ByteArray), (⟨#[50, 47, 52]⟩ : ByteArray), (⟨#[45, 48]⟩ : ByteArray), (⟨#[49, 47, 48]⟩ : ByteArray), (⟨#[55, 47, 49, 48, 48, 48, 48, 48, 48]⟩ : ByteArray), (⟨#[55, 47, 49, 48, 48, 48, 48, 48, 49]⟩ : ByteArray)] : List ByteArray)) 0 a1_0 a1_1 t218 t219) else (none))) else (none))) else (none)) = some true := H
  have A8 := Aside0.mk A80
  clear A80
  by_cases c9 : t224.size + 1 ≤ 9223372036854775807
  · rw [if_pos c9] at H
    have c9b0 := eq_true c9
    have c9b1 : decide (t224.size + 1 ≤ 9223372036854775807) = true := decide_eq_true c9
    try have c9b2 : (9223372036854775807 < t224.size + 1) = False := eq_false (Nat.not_lt.2 c9)
    replace H := Option.bind_eq_some_iff.mp H
    obtain ⟨t225, A100, H⟩ := H
    replace H : (if 1 + t225.size ≤ 9223372036854775807 then ((payrollref1_Format.f k t218 t219).bind fun t226 => (if 1 + t226.size ≤ 9223372036854775807 then (payrolllaw1_RatioTexts.l0 k (([a2, t222, t223, t224 ++ (⟨#[48]⟩ : ByteArray), (⟨#[45]⟩ : ByteArray) ++ t225, (⟨#[48]⟩ : ByteArray) ++ t226, (⟨#[49, 48, 48, 48, 48, 48, 48, 48, 48, 48, 48, 48, 48]⟩ : ByteArray), (⟨#[49, 48, 48, 48, 48, 48, 48, 48, 48, 48, 48, 48, 49]⟩ : ByteArray), (⟨#[50, 47, 52]⟩ : ByteArray), (⟨#[45, 48]⟩ : ByteArray), (⟨#[49, 47, 48]⟩ : ByteArray), (⟨#[55, 47, 49, 48, 48, 48, 48, 48, 48]⟩ : ByteArray), (⟨#[55, 47, 49, 48, 48, 48, 48, 48, 49]⟩ : ByteArray)] : List ByteArray)) 0 a1_0 a1_1 t218 t219) else (none))) else (none)) = some true := H
    have A10 := Aside0.mk A100
    clear A100
    by_cases c11 : 1 + t225.size ≤ 9223372036854775807
    · rw [if_pos c11] at H
      have c11b0 := eq_true c11
      have c11b1 : decide (1 + t225.size ≤ 9223372036854775807) = true := decide_eq_true c11
      try have c11b2 : (9223372036854775807 < 1 + t225.size) = False := eq_false (Nat.not_lt.2 c11)
      replace H := Option.bind_eq_some_iff.mp H
      obtain ⟨t226, A120, H⟩ := H
      replace H : (if 1 + t226.size ≤ 9223372036854775807 then (payrolllaw1_RatioTexts.l0 k (([a2, t222, t223, t224 ++ (⟨#[48]⟩ : ByteArray), (⟨#[45]⟩ : ByteArray) ++ t225, (⟨#[48]⟩ : ByteArray) ++ t226, (⟨#[49, 48, 48, 48, 48, 48, 48, 48, 48, 48, 48, 48, 48]⟩ : ByteArray), (⟨#[49, 48, 48, 48, 48, 48, 48, 48, 48, 48, 48, 48, 49]⟩ : ByteArray), (⟨#[50, 47, 52]⟩ : ByteArray), (⟨#[45, 48]⟩ : ByteArray), (⟨#[49, 47, 48]⟩ : ByteArray), (⟨#[55, 47, 49, 48, 48, 48, 48, 48, 48]⟩ : ByteArray), (⟨#[55, 47, 49, 48, 48, 48, 48, 48, 49]⟩ : ByteArray)] : List ByteArray)) 0 a1_0 a1_1 t218 t219) else (none)) = some true := H
      have A12 := Aside0.mk A120
      clear A120
      by_cases c13 : 1 + t226.size ≤ 9223372036854775807
      · rw [if_pos c13] at H
        have c13b0 := eq_true c13
        have c13b1 : decide (1 + t226.size ≤ 9223372036854775807) = true := decide_eq_true c13
        try have c13b2 : (9223372036854775807 < 1 + t226.size) = False := eq_false (Nat.not_lt.2 c13)
        obtain ⟨y227, hy227⟩ : ∃ y_ : List ByteArray, y_ = (([a2, t222, t223, t224 ++ (⟨#[48]⟩ : ByteArray), (⟨#[45]⟩ : ByteArray) ++ t225, (⟨#[48]⟩ : ByteArray) ++ t226, (⟨#[49, 48, 48, 48, 48, 48, 48, 48, 48, 48, 48, 48, 48]⟩ : ByteArray), (⟨#[49, 48, 48, 48, 48, 48, 48, 48, 48, 48, 48, 48, 49]⟩ : ByteArray), (⟨#[50, 47, 52]⟩ : ByteArray), (⟨#[45, 48]⟩ : ByteArray), (⟨#[49, 47, 48]⟩ : ByteArray), (⟨#[55, 47, 49, 48, 48, 48, 48, 48, 48]⟩ : ByteArray), (⟨#[55, 47, 49, 48, 48, 48, 48, 48, 49]⟩ : ByteArray)] : List ByteArray)) := ⟨_, rfl⟩
        replace H : (payrolllaw1_RatioTexts.l0 k y227 0 a1_0 a1_1 t218 t219) = some true := by first | (rw [hy227]; with_reducible exact H) | (have H2_ := (Option.bind_some _ _).symm.trans H; rw [hy227]; with_reducible exact H2_) | (have H2_ := (Option.bind_some _ _).symm.trans H; with_reducible exact H2_) | with_reducible exact H | (rw [hy227]; exact H) | exact H
        have Ny227 := Aside0.mk hy227
        clear hy227
        have H' := Aside0.mk H
        clear H
        go_enter Tryd.func4, Tryd.ntmps4
        try go_wp2_with (first | ((with_reducible refine gate_dst (N := 4) rfl ?_); refine box_event ?hg (N := 4) ?hd (cs := #[.int .i64 a1_0, .int .i64 a1_1]) (t := 23) ?hr ?_; (case hd => rfl); (case hg => rfl); (case hr => first | (go_simp; done) | (go_simp; rfl)); intro gb214 hg w14 hbox hb; have n0_ := Aside0.mk (below_step (by repeat (first | (with_reducible first | exact HB.out | apply below_alloc | apply pw_below_drewN | apply below_drew1) | exact HB.out)) hb); have n1_ := Aside0.mk (hbox); have n2_ := Aside0.mk ((by rw [hg]; exact (below_size (by repeat (first | (with_reducible first | exact HB.out | apply below_alloc | apply pw_below_drewN | apply below_drew1) | exact HB.out))) : w.heap.size ≤ gb214)); have n3_ := Aside0.mk ((by rw [hg]; exact (below_size (by repeat (first | (with_reducible first | exact HB.out | apply below_alloc | apply pw_below_drewN | apply below_drew1) | exact HB.out))) : w.heap.size ≤ gb214)); clear HB; have HB := n0_; have BK214 := n1_; have GW214 := n2_; have GE214 := n3_; clear n0_ n1_ n2_ n3_; clear hb hbox hg) | ((with_reducible refine gate_callee (f := 13) rfl ?_); refine goesL_ (some 16) rfl rfl Tryd.func13 (by kernel_rfl) rfl #[.slice A0 l0.length c0] rfl (by (try simp only [List.map_toArray, List.map_cons, List.map_nil]); first | done | rfl | (simp only [List.length_drop, List.length_take]; rfl)) ?_; (with_reducible refine (payrollgen_New.calls _ _ l0 t215 t216 w _ ?side1 ?side2 ?side3 A4.out).mono ?_); (case side1 => repeat (first | (with_reducible first | exact HB.out | apply below_alloc | apply pw_below_drewN | apply below_drew1 | refine below_set ?_ GE214.out) | exact HB.out)); (case side2 => exact HR0.out); (case side3 => exact HC0.out); rintro e w15 ⟨g217, rfl, hi, hb, hb2⟩; refine ⟨_, rfl, ?_⟩; have n0_ := Aside0.mk (blk_below (g := gb214) (o := .cells #[.int .i64 a1_0, .int .i64 a1_1] 23 (0, 0)) (by (with_reducible repeat (first | refine blk_drewN ?_ _ | refine blk_drew ?_ | refine blk_alloc ?_ _)); exact BK214.out) hb2); have n1_ := Aside0.mk (hb); have n2_ := Aside0.mk (hi); have n3_ := Aside0.mk (IsS51.ne_blk hi (blk_below (g := gb214) (o := .cells #[.int .i64 a1_0, .int .i64 a1_1] 23 (0, 0)) (by (with_reducible repeat (first | refine blk_drewN ?_ _ | refine blk_drew ?_ | refine blk_alloc ?_ _)); exact BK214.out) hb2) (by decide)); have n4_ := Aside0.mk (Ne.symm (IsS51.ne_blk hi (blk_below (g := gb214) (o := .cells #[.int .i64 a1_0, .int .i64 a1_1] 23 (0, 0)) (by (with_reducible repeat (first | refine blk_drewN ?_ _ | refine blk_drew ?_ | refine blk_alloc ?_ _)); exact BK214.out) hb2) (by decide))); clear BK214; clear HB; have BK214 := n0_; have HB := n1_; have HI217 := n2_; have NB217_214 := n3_; have NB214_217 := n4_; clear n0_ n1_ n2_ n3_ n4_; (try clear hb); (try clear hb2); (try clear hk); (try clear hi)) | ((with_reducible refine gate_callee (f := 14) rfl ?_); refine goesL_ (some 18) rfl rfl Tryd.func14 (by kernel_rfl) rfl #[.pointer (some ⟨g217, 0, none⟩)] rfl (by (try simp only [List.map_toArray, List.map_cons, List.map_nil]); first | done | rfl | (simp only [List.length_drop, List.length_take]; rfl)) ?_; (with_reducible refine (payrollgen_Tape_Ratio.calls k g217 t215 t216 t218 t219 t220 w _ ?side1 ?side2 A5.out).mono ?_); (case side1 => repeat (first | (with_reducible first | exact HI217.out | apply IsS51.alloc | apply IsS51.drewN | apply IsS51.drew | apply IsS51.set_1 | refine IsS51.far ?_ NB217_214.out _) | exact HI217.out)); (case side2 => repeat (first | (with_reducible first | exact HB.out | apply below_alloc | apply pw_below_drewN | apply below_drew1 | refine below_set ?_ (IsS51.ge HI217.out) | refine below_set ?_ GE214.out) | exact HB.out)); rintro e w16 ⟨rfl, hi, hb, hk⟩; refine ⟨_, rfl, ?_⟩; have n0_ := Aside0.mk (KeepBut.blk hk (g' := gb214) (o := .cells #[.int .i64 a1_0, .int .i64 a1_1] 23 (0, 0)) (by (with_reducible repeat (first | refine blk_drewN ?_ _ | refine blk_drew ?_ | refine blk_alloc ?_ _)); exact BK214.out) NB214_217.out (by simp)); have n1_ := Aside0.mk (hb); have n2_ := Aside0.mk (hi); clear BK214; clear HB; clear HI217; have BK214 := n0_; have HB := n1_; have HI217 := n2_; clear n0_ n1_ n2_; (try clear hb); (try clear hb2); (try clear hk); (try clear hi)) | ((with_reducible refine gate_dst (N := 8) rfl ?_); refine box_event ?hg (N := 8) ?hd (cs := #[.int .i64 0, .int .i64 0]) (t := 23) ?hr ?_; (case hd => rfl); (case hg => rfl); (case hr => first | (go_simp; done) | (go_simp; rfl)); intro gb221 hg w17 hbox hb; have n0_ := Aside0.mk (blk_below (g := gb214) (o := .cells #[.int .i64 a1_0, .int .i64 a1_1] 23 (0, 0)) (by (with_reducible repeat (first | refine blk_drewN ?_ _ | refine blk_drew ?_ | refine blk_alloc ?_ _)); exact BK214.out) hb); have n1_ := Aside0.mk (IsS51.below (by repeat (first | (with_reducible first | exact HI217.out | apply IsS51.alloc | apply IsS51.drewN | apply IsS51.drew | apply IsS51.set_1 | refine IsS51.far ?_ NB217_214.out _) | exact HI217.out)) hb); have n2_ := Aside0.mk (below_step (by repeat (first | (with_reducible first | exact HB.out | apply below_alloc | apply pw_below_drewN | apply below_drew1 | refine below_set ?_ (IsS51.ge HI217.out) | refine below_set ?_ GE214.out) | exact HB.out)) hb); have n3_ := Aside0.mk (hbox); have n4_ := Aside0.mk ((by rw [hg]; exact (below_size (by repeat (first | (with_reducible first | exact HB.out | apply below_alloc | apply pw_below_drewN | apply below_drew1 | refine below_set ?_ (IsS51.ge HI217.out) | refine below_set ?_ GE214.out) | exact HB.out))) : w.heap.size ≤ gb221)); have n5_ := Aside0.mk ((by rw [hg]; exact (below_size (by repeat (first | (with_reducible first | exact HB.out | apply below_alloc | apply pw_below_drewN | apply below_drew1 | refine below_set ?_ (IsS51.ge HI217.out) | refine below_set ?_ GE214.out) | exact HB.out))) : w.heap.size ≤ gb221)); have n6_ := Aside0.mk ((by rw [hg]; exact Nat.ne_of_lt (blk_lt (g := gb214) (o := .cells #[.int .i64 a1_0, .int .i64 a1_1] 23 (0, 0)) (by (with_reducible repeat (first | refine blk_drewN ?_ _ | refine blk_drew ?_ | refine blk_alloc ?_ _)); exact BK214.out)) : gb214 ≠ gb221)); have n7_ := Aside0.mk ((by rw [hg]; exact Nat.ne_of_gt (blk_lt (g := gb214) (o := .cells #[.int .i64 a1_0, .int .i64 a1_1] 23 (0, 0)) (by (with_reducible repeat (first | refine blk_drewN ?_ _ | refine blk_drew ?_ | refine blk_alloc ?_ _)); exact BK214.out)) : gb221 ≠ gb214)); have n8_ := Aside0.mk ((by rw [hg]; exact Nat.ne_of_lt (IsS51.lt (show IsS51 w _ g217 t215 t220 from by repeat (first | (with_reducible first | exact HI217.out | apply IsS51.alloc | apply IsS51.drewN | apply IsS51.drew | apply IsS51.set_1 | refine IsS51.far ?_ NB217_214.out _) | exact HI217.out))) : g217 ≠ gb221)); have n9_ := Aside0.mk ((by rw [hg]; exact Nat.ne_of_gt (IsS51.lt (show IsS51 w _ g217 t215 t220 from by repeat (first | (with_reducible first | exact HI217.out | apply IsS51.alloc | apply IsS51.drewN | apply IsS51.drew | apply IsS51.set_1 | refine IsS51.far ?_ NB217_214.out _) | exact HI217.out))) : gb221 ≠ g217)); clear BK214; clear HI217; clear HB; have BK214 := n0_; have HI217 := n1_; have HB := n2_; have BK221 := n3_; have GW221 := n4_; have GE221 := n5_; have NB214_221 := n6_; have NB221_214 := n7_; have NB217_221 := n8_; have NB221_217 := n9_; clear n0_ n1_ n2_ n3_ n4_ n5_ n6_ n7_ n8_ n9_; clear hb hbox hg; have hnb18 := NB221_214.out; have hnc18 := NB214_221.out; have hnb19 := NB221_217.out; have hnc19 := NB217_221.out; have hcz20_0 : w17.cell? ⟨gb221, 0, none⟩ = some (.int .i64 0) := (blk_cell BK221.out 0).trans rfl; have hcz20_1 : w17.cell? ⟨gb221, 1, none⟩ = some (.int .i64 0) := (blk_cell BK221.out 1).trans rfl; have hfz20_0 := blk_frozen BK221.out 0; have hfz20_1 := blk_frozen BK221.out 1))
        have n0_ : Aside0 (((w17.setCell ⟨gb221, 0, none⟩ (.int .i64 t218)).setCell ⟨gb221, 1, none⟩ (.int .i64 t219)).heap[gb214]? = some (.cells #[.int .i64 a1_0, .int .i64 a1_1] 23 (0, 0))) := ⟨by (with_reducible repeat (first | refine blk_drewN ?_ _ | refine blk_drew ?_ | refine blk_alloc ?_ _)); refine blk_far ?_ NB214_221.out _; (with_reducible repeat (first | refine blk_drewN ?_ _ | refine blk_drew ?_ | refine blk_alloc ?_ _)); refine blk_far ?_ NB214_221.out _; (with_reducible repeat (first | refine blk_drewN ?_ _ | refine blk_drew ?_ | refine blk_alloc ?_ _)); exact BK214.out⟩
        have n1_ : Aside0 (((w17.setCell ⟨gb221, 0, none⟩ (.int .i64 t218)).setCell ⟨gb221, 1, none⟩ (.int .i64 t219)).heap[gb221]? = some (.cells #[.int .i64 t218, .int .i64 t219] 23 (0, 0))) := ⟨by (with_reducible repeat (first | refine blk_drewN ?_ _ | refine blk_drew ?_ | refine blk_alloc ?_ _)); refine blk_put (cs := #[.int .i64 t218, .int .i64 0]) ?_ 1 _ rfl; (with_reducible repeat (first | refine blk_drewN ?_ _ | refine blk_drew ?_ | refine blk_alloc ?_ _)); refine blk_put (cs := #[.int .i64 0, .int .i64 0]) ?_ 0 _ rfl; (with_reducible repeat (first | refine blk_drewN ?_ _ | refine blk_drew ?_ | refine blk_alloc ?_ _)); exact BK221.out⟩
        have n2_ : Aside0 (IsS51 w ((w17.setCell ⟨gb221, 0, none⟩ (.int .i64 t218)).setCell ⟨gb221, 1, none⟩ (.int .i64 t219)) g217 t215 t220) := ⟨by repeat (first | (with_reducible first | exact HI217.out | apply IsS51.alloc | apply IsS51.drewN | apply IsS51.drew | apply IsS51.set_1 | refine IsS51.far ?_ NB217_214.out _ | refine IsS51.far ?_ NB217_221.out _) | exact HI217.out)⟩
        have n3_ : Aside0 (Below w.heap.size w ((w17.setCell ⟨gb221, 0, none⟩ (.int .i64 t218)).setCell ⟨gb221, 1, none⟩ (.int .i64 t219))) := ⟨by repeat (first | (with_reducible first | exact HB.out | apply below_alloc | apply pw_below_drewN | apply below_drew1 | refine below_set ?_ (IsS51.ge HI217.out) | refine below_set ?_ GE214.out | refine below_set ?_ GE221.out) | exact HB.out)⟩
        (try clear BK214)
        (try clear BK221)
        (try clear HI217)
        (try clear HB)
        generalize ((w17.setCell ⟨gb221, 0, none⟩ (.int .i64 t218)).setCell ⟨gb221, 1, none⟩ (.int .i64 t219)) = w21 at n0_ n1_ n2_ n3_ ⊢
        have BK214 := n0_
        have BK221 := n1_
        have HI217 := n2_
        have HB := n3_
        clear n0_ n1_ n2_ n3_
        have n0_ := Aside0.mk (blk_drew BK214.out)
        have n1_ := Aside0.mk (blk_drew BK221.out)
        have n2_ := Aside0.mk (IsS51.drew HI217.out)
        have n3_ := Aside0.mk (below_drew1 HB.out)
        clear BK214
        clear BK221
        clear HI217
        clear HB
        have BK214 := n0_
        have BK221 := n1_
        have HI217 := n2_
        have HB := n3_
        clear n0_ n1_ n2_ n3_
        refine start_ (n := 16) (S := fun w' => w'.cell? ⟨gb221, 0, none⟩ = some (.int .i64 t218) ∧ w'.cell? ⟨gb221, 1, none⟩ = some (.int .i64 t219)) (ds := []) #[false, false, false, false, false, false, false, false, false, false, false, false, false, false, false, false] (by kernel_rfl) rfl rfl ⟨(blk_cell BK221.out 0).trans rfl, (blk_cell BK221.out 1).trans rfl⟩ (fun hHeld => ?_); refine with_tabW payrolllaw1_RatioTexts.tab3 payrolllaw1_RatioTexts.bits3 (fun HT_ HW_ => ?_)
        generalize w21.drew = w22 at BK214 BK221 HI217 HB hHeld ⊢
        refine pure_ (i := 0) (N := some 19) (v := ?_) (a' := ?_) #[true, false, false, false, false, false, false, false, false, false, false, false, false, false, false, false] rfl rfl (any_of HT_.out (by kernel_rfl)) (fun _ _ _ h => h) (Or.inl ⟨by rfl, ?_⟩) ?_ ?_
        rotate_left
        · intro w'
          go_simp
          with_reducible rfl
        rotate_left
        · simp only [Act.put, List.setIfInBounds_toArray, List.set_cons_zero, List.set_cons_succ, i64_w, i32_w]
          rfl
        refine take_ (i := 1) (N := some 20) (v := ?_) (a' := ?_) #[true, true, false, false, false, false, false, false, false, false, false, false, false, false, false, false] rfl rfl (take_ofW HT_.out HW_.out (by kernel_rfl)) (fun _ _ _ h => h) (Or.inl ⟨by rfl, ?_⟩) hHeld ?_ ?_
        rotate_left
        · rintro w' ⟨s0, s1⟩
          go_simp
          with_reducible rfl
        rotate_left
        · simp only [Act.put, List.setIfInBounds_toArray, List.set_cons_zero, List.set_cons_succ, i64_w, i32_w]
          rfl
        refine take_ (i := 3) (N := some 22) (v := ?_) (a' := ?_) #[true, true, false, true, false, false, false, false, false, false, false, false, false, false, false, false] rfl rfl (take_ofW HT_.out HW_.out (by kernel_rfl)) (fun _ _ _ h => h) (Or.inl ⟨by rfl, ?_⟩) hHeld ?_ ?_
        rotate_left
        · rintro w' ⟨s0, s1⟩
          go_simp
          with_reducible rfl
        rotate_left
        · simp only [Act.put, List.setIfInBounds_toArray, List.set_cons_zero, List.set_cons_succ, i64_w, i32_w]
          rfl
        refine take_ (i := 5) (N := some 24) (v := ?_) (a' := ?_) #[true, true, false, true, false, true, false, false, false, false, false, false, false, false, false, false] rfl rfl (take_ofW HT_.out HW_.out (by kernel_rfl)) (fun _ _ _ h => h) (Or.inl ⟨by rfl, ?_⟩) hHeld ?_ ?_
        rotate_left
        · rintro w' ⟨s0, s1⟩
          go_simp
          with_reducible rfl
        rotate_left
        · simp only [Act.put, List.setIfInBounds_toArray, List.set_cons_zero, List.set_cons_succ, i64_w, i32_w]
          rfl
        refine take_ (i := 8) (N := some 27) (v := ?_) (a' := ?_) #[true, true, false, true, false, true, false, false, true, false, false, false, false, false, false, false] rfl rfl (take_ofW HT_.out HW_.out (by kernel_rfl)) (fun _ _ _ h => h) (Or.inl ⟨by rfl, ?_⟩) hHeld ?_ ?_
        rotate_left
        · rintro w' ⟨s0, s1⟩
          go_simp
          with_reducible rfl
        rotate_left
        · simp only [Act.put, List.setIfInBounds_toArray, List.set_cons_zero, List.set_cons_succ, i64_w, i32_w]
          rfl
        refine take_ (i := 11) (N := some 30) (v := ?_) (a' := ?_) #[true, true, false, true, false, true, false, false, true, false, false, true, false, false, false, false] rfl rfl (take_ofW HT_.out HW_.out (by kernel_rfl)) (fun _ _ _ h => h) (Or.inl ⟨by rfl, ?_⟩) hHeld ?_ ?_
        rotate_left
        · rintro w' ⟨s0, s1⟩
          go_simp
          with_reducible rfl
        rotate_left
        · simp only [Act.put, List.setIfInBounds_toArray, List.set_cons_zero, List.set_cons_succ, i64_w, i32_w]
          rfl
        refine one_ (i := 2) (N := some 21) #[true, true, true, true, false, true, false, false, true, false, false, true, false, false, false, false] rfl rfl (one_of HT_.out (by kernel_rfl)) (by decide) (fun K hK => ?_)
        refine goes_ Tryd.func15 (by kernel_rfl) rfl #[.agg #[.int .i64 t218, .int .i64 t219]] (by rfl) rfl rfl (by (try simp only [List.map_toArray, List.map_cons, List.map_nil]); first | done | rfl | (simp only [List.length_drop, List.length_take]; rfl)) ?_
        with_reducible refine (ratio_Format.calls k t218 t219 t222 _ ?side1 A6.out).mono ?_
        (case side1 => exact Tabs.below HT.out (by repeat (first | (with_reducible first | exact HB.out | apply below_alloc | apply pw_below_drewN | apply below_drew1 | refine below_set ?_ (IsS51.ge HI217.out) | refine below_set ?_ GE214.out | refine below_set ?_ GE221.out) | exact HB.out)))
        rintro e w23 ⟨rfl, hb⟩
        refine ⟨_, rfl, ?_⟩
        have n0_ := Aside0.mk (blk_below (g := gb214) (o := .cells #[.int .i64 a1_0, .int .i64 a1_1] 23 (0, 0)) (by (with_reducible repeat (first | refine blk_drewN ?_ _ | refine blk_drew ?_ | refine blk_alloc ?_ _)); exact BK214.out) hb)
        have n1_ := Aside0.mk (IsS51.below (by repeat (first | (with_reducible first | exact HI217.out | apply IsS51.alloc | apply IsS51.drewN | apply IsS51.drew | apply IsS51.set_1 | refine IsS51.far ?_ NB217_214.out _ | refine IsS51.far ?_ NB217_221.out _) | exact HI217.out)) hb)
        have n2_ := Aside0.mk (blk_below (g := gb221) (o := .cells #[.int .i64 t218, .int .i64 t219] 23 (0, 0)) (by (with_reducible repeat (first | refine blk_drewN ?_ _ | refine blk_drew ?_ | refine blk_alloc ?_ _)); exact BK221.out) hb)
        have n3_ := Aside0.mk (below_step (by repeat (first | (with_reducible first | exact HB.out | apply below_alloc | apply pw_below_drewN | apply below_drew1 | refine below_set ?_ (IsS51.ge HI217.out) | refine below_set ?_ GE214.out | refine below_set ?_ GE221.out) | exact HB.out)) hb)
        clear BK214
        clear HI217
        clear BK221
        clear HB
        have BK214 := n0_
        have HI217 := n1_
        have BK221 := n2_
        have HB := n3_
        clear n0_ n1_ n2_ n3_
        (try clear hb)
        (try clear hb2)
        (try clear hk)
        (try clear hi)
        refine hK.out _ _ ⟨(blk_cell BK221.out 0).trans rfl, (blk_cell BK221.out 1).trans rfl⟩ (fun hHeld => ?_)
        clear hK K
        refine norm_ (a' := ?_) ?_ ?_
        rotate_left
        · show Act.put _ (some 21) _ = _
          simp only [Act.put, List.setIfInBounds_toArray, List.set_cons_zero, List.set_cons_succ, i64_w, i32_w]
          rfl
        refine one_ (i := 4) (N := some 23) #[true, true, true, true, true, true, false, false, true, false, false, true, false, false, false, false] rfl rfl (one_of HT_.out (by kernel_rfl)) (by decide) (fun K hK => ?_)
        refine goes_ Tryd.func16 (by kernel_rfl) rfl #[.agg #[.int .i64 t218, .int .i64 t219]] (by rfl) rfl rfl (by (try simp only [List.map_toArray, List.map_cons, List.map_nil]); first | done | rfl | (simp only [List.length_drop, List.length_take]; rfl)) ?_
        with_reducible refine (payrollref1_Format.calls k t218 t219 t223 _ A7.out).mono ?_
        rintro e w24 ⟨rfl, hb⟩
        refine ⟨_, rfl, ?_⟩
        have n0_ := Aside0.mk (blk_below (g := gb214) (o := .cells #[.int .i64 a1_0, .int .i64 a1_1] 23 (0, 0)) (by (with_reducible repeat (first | refine blk_drewN ?_ _ | refine blk_drew ?_ | refine blk_alloc ?_ _)); exact BK214.out) hb)
        have n1_ := Aside0.mk (IsS51.below (by repeat (first | (with_reducible first | exact HI217.out | apply IsS51.alloc | apply IsS51.drewN | apply IsS51.drew | apply IsS51.set_1 | refine IsS51.far ?_ NB217_214.out _ | refine IsS51.far ?_ NB217_221.out _) | exact HI217.out)) hb)
        have n2_ := Aside0.mk (blk_below (g := gb221) (o := .cells #[.int .i64 t218, .int .i64 t219] 23 (0, 0)) (by (with_reducible repeat (first | refine blk_drewN ?_ _ | refine blk_drew ?_ | refine blk_alloc ?_ _)); exact BK221.out) hb)
        have n3_ := Aside0.mk (below_step (by repeat (first | (with_reducible first | exact HB.out | apply below_alloc | apply pw_below_drewN | apply below_drew1 | refine below_set ?_ (IsS51.ge HI217.out) | refine below_set ?_ GE214.out | refine below_set ?_ GE221.out) | exact HB.out)) hb)
        clear BK214
        clear HI217
        clear BK221
        clear HB
        have BK214 := n0_
        have HI217 := n1_
        have BK221 := n2_
        have HB := n3_
        clear n0_ n1_ n2_ n3_
        (try clear hb)
        (try clear hb2)
        (try clear hk)
        (try clear hi)
        refine hK.out _ _ ⟨(blk_cell BK221.out 0).trans rfl, (blk_cell BK221.out 1).trans rfl⟩ (fun hHeld => ?_)
        clear hK K
        refine norm_ (a' := ?_) ?_ ?_
        rotate_left
        · show Act.put _ (some 23) _ = _
          simp only [Act.put, List.setIfInBounds_toArray, List.set_cons_zero, List.set_cons_succ, i64_w, i32_w]
          rfl
        refine one_ (i := 6) (N := some 25) #[true, true, true, true, true, true, true, false, true, false, false, true, false, false, false, false] rfl rfl (one_of HT_.out (by kernel_rfl)) (by decide) (fun K hK => ?_)
        refine goes_ Tryd.func16 (by kernel_rfl) rfl #[.agg #[.int .i64 t218, .int .i64 t219]] (by rfl) rfl rfl (by (try simp only [List.map_toArray, List.map_cons, List.map_nil]); first | done | rfl | (simp only [List.length_drop, List.length_take]; rfl)) ?_
        with_reducible refine (payrollref1_Format.calls k t218 t219 t224 _ A8.out).mono ?_
        rintro e w25 ⟨rfl, hb⟩
        refine ⟨_, rfl, ?_⟩
        have n0_ := Aside0.mk (blk_below (g := gb214) (o := .cells #[.int .i64 a1_0, .int .i64 a1_1] 23 (0, 0)) (by (with_reducible repeat (first | refine blk_drewN ?_ _ | refine blk_drew ?_ | refine blk_alloc ?_ _)); exact BK214.out) hb)
        have n1_ := Aside0.mk (IsS51.below (by repeat (first | (with_reducible first | exact HI217.out | apply IsS51.alloc | apply IsS51.drewN | apply IsS51.drew | apply IsS51.set_1 | refine IsS51.far ?_ NB217_214.out _ | refine IsS51.far ?_ NB217_221.out _) | exact HI217.out)) hb)
        have n2_ := Aside0.mk (blk_below (g := gb221) (o := .cells #[.int .i64 t218, .int .i64 t219] 23 (0, 0)) (by (with_reducible repeat (first | refine blk_drewN ?_ _ | refine blk_drew ?_ | refine blk_alloc ?_ _)); exact BK221.out) hb)
        have n3_ := Aside0.mk (below_step (by repeat (first | (with_reducible first | exact HB.out | apply below_alloc | apply pw_below_drewN | apply below_drew1 | refine below_set ?_ (IsS51.ge HI217.out) | refine below_set ?_ GE214.out | refine below_set ?_ GE221.out) | exact HB.out)) hb)
        clear BK214
        clear HI217
        clear BK221
        clear HB
        have BK214 := n0_
        have HI217 := n1_
        have BK221 := n2_
        have HB := n3_
        clear n0_ n1_ n2_ n3_
        (try clear hb)
        (try clear hb2)
        (try clear hk)
        (try clear hi)
        refine hK.out _ _ ⟨(blk_cell BK221.out 0).trans rfl, (blk_cell BK221.out 1).trans rfl⟩ (fun hHeld => ?_)
        clear hK K
        refine norm_ (a' := ?_) ?_ ?_
        rotate_left
        · show Act.put _ (some 25) _ = _
          simp only [Act.put, List.setIfInBounds_toArray, List.set_cons_zero, List.set_cons_succ, i64_w, i32_w]
          rfl
        refine pure_ (i := 7) (N := some 26) (v := ?_) (a' := ?_) #[true, true, true, true, true, true, true, true, true, false, false, true, false, false, false, false] rfl rfl (any_of HT_.out (by kernel_rfl)) (fun _ _ _ h => h) (Or.inl ⟨by rfl, ?_⟩) ?_ ?_
        rotate_left
        · intro w'
          go_simp
          with_reducible rfl
        rotate_left
        · simp only [Act.put, List.setIfInBounds_toArray, List.set_cons_zero, List.set_cons_succ, i64_w, i32_w]
          rfl
        refine one_ (i := 9) (N := some 28) #[true, true, true, true, true, true, true, true, true, true, false, true, false, false, false, false] rfl rfl (one_of HT_.out (by kernel_rfl)) (by decide) (fun K hK => ?_)
        refine goes_ Tryd.func16 (by kernel_rfl) rfl #[.agg #[.int .i64 t218, .int .i64 t219]] (by rfl) rfl rfl (by (try simp only [List.map_toArray, List.map_cons, List.map_nil]); first | done | rfl | (simp only [List.length_drop, List.length_take]; rfl)) ?_
        with_reducible refine (payrollref1_Format.calls k t218 t219 t225 _ A10.out).mono ?_
        rintro e w26 ⟨rfl, hb⟩
        refine ⟨_, rfl, ?_⟩
        have n0_ := Aside0.mk (blk_below (g := gb214) (o := .cells #[.int .i64 a1_0, .int .i64 a1_1] 23 (0, 0)) (by (with_reducible repeat (first | refine blk_drewN ?_ _ | refine blk_drew ?_ | refine blk_alloc ?_ _)); exact BK214.out) hb)
        have n1_ := Aside0.mk (IsS51.below (by repeat (first | (with_reducible first | exact HI217.out | apply IsS51.alloc | apply IsS51.drewN | apply IsS51.drew | apply IsS51.set_1 | refine IsS51.far ?_ NB217_214.out _ | refine IsS51.far ?_ NB217_221.out _) | exact HI217.out)) hb)
        have n2_ := Aside0.mk (blk_below (g := gb221) (o := .cells #[.int .i64 t218, .int .i64 t219] 23 (0, 0)) (by (with_reducible repeat (first | refine blk_drewN ?_ _ | refine blk_drew ?_ | refine blk_alloc ?_ _)); exact BK221.out) hb)
        have n3_ := Aside0.mk (below_step (by repeat (first | (with_reducible first | exact HB.out | apply below_alloc | apply pw_below_drewN | apply below_drew1 | refine below_set ?_ (IsS51.ge HI217.out) | refine below_set ?_ GE214.out | refine below_set ?_ GE221.out) | exact HB.out)) hb)
        clear BK214
        clear HI217
        clear BK221
        clear HB
        have BK214 := n0_
        have HI217 := n1_
        have BK221 := n2_
        have HB := n3_
        clear n0_ n1_ n2_ n3_
        (try clear hb)
        (try clear hb2)
        (try clear hk)
        (try clear hi)
        refine hK.out _ _ ⟨(blk_cell BK221.out 0).trans rfl, (blk_cell BK221.out 1).trans rfl⟩ (fun hHeld => ?_)
        clear hK K
        refine norm_ (a' := ?_) ?_ ?_
        rotate_left
        · show Act.put _ (some 28) _ = _
          simp only [Act.put, List.setIfInBounds_toArray, List.set_cons_zero, List.set_cons_succ, i64_w, i32_w]
          rfl
        refine pure_ (i := 10) (N := some 29) (v := ?_) (a' := ?_) #[true, true, true, true, true, true, true, true, true, true, true, true, false, false, false, false] rfl rfl (any_of HT_.out (by kernel_rfl)) (fun _ _ _ h => h) (Or.inl ⟨by rfl, ?_⟩) ?_ ?_
        rotate_left
        · intro w'
          go_simp
          with_reducible rfl
        rotate_left
        · simp only [Act.put, List.setIfInBounds_toArray, List.set_cons_zero, List.set_cons_succ, i64_w, i32_w]
          rfl
        refine one_ (i := 12) (N := some 31) #[true, true, true, true, true, true, true, true, true, true, true, true, true, false, false, false] rfl rfl (one_of HT_.out (by kernel_rfl)) (by decide) (fun K hK => ?_)
        refine goes_ Tryd.func16 (by kernel_rfl) rfl #[.agg #[.int .i64 t218, .int .i64 t219]] (by rfl) rfl rfl (by (try simp only [List.map_toArray, List.map_cons, List.map_nil]); first | done | rfl | (simp only [List.length_drop, List.length_take]; rfl)) ?_
        with_reducible refine (payrollref1_Format.calls k t218 t219 t226 _ A12.out).mono ?_
        rintro e w27 ⟨rfl, hb⟩
        refine ⟨_, rfl, ?_⟩
        have n0_ := Aside0.mk (blk_below (g := gb214) (o := .cells #[.int .i64 a1_0, .int .i64 a1_1] 23 (0, 0)) (by (with_reducible repeat (first | refine blk_drewN ?_ _ | refine blk_drew ?_ | refine blk_alloc ?_ _)); exact BK214.out) hb)
        have n1_ := Aside0.mk (IsS51.below (by repeat (first | (with_reducible first | exact HI217.out | apply IsS51.alloc | apply IsS51.drewN | apply IsS51.drew | apply IsS51.set_1 | refine IsS51.far ?_ NB217_214.out _ | refine IsS51.far ?_ NB217_221.out _) | exact HI217.out)) hb)
        have n2_ := Aside0.mk (blk_below (g := gb221) (o := .cells #[.int .i64 t218, .int .i64 t219] 23 (0, 0)) (by (with_reducible repeat (first | refine blk_drewN ?_ _ | refine blk_drew ?_ | refine blk_alloc ?_ _)); exact BK221.out) hb)
        have n3_ := Aside0.mk (below_step (by repeat (first | (with_reducible first | exact HB.out | apply below_alloc | apply pw_below_drewN | apply below_drew1 | refine below_set ?_ (IsS51.ge HI217.out) | refine below_set ?_ GE214.out | refine below_set ?_ GE221.out) | exact HB.out)) hb)
        clear BK214
        clear HI217
        clear BK221
        clear HB
        have BK214 := n0_
        have HI217 := n1_
        have BK221 := n2_
        have HB := n3_
        clear n0_ n1_ n2_ n3_
        (try clear hb)
        (try clear hb2)
        (try clear hk)
        (try clear hi)
        refine hK.out _ _ ⟨(blk_cell BK221.out 0).trans rfl, (blk_cell BK221.out 1).trans rfl⟩ (fun hHeld => ?_)
        clear hK K
        refine norm_ (a' := ?_) ?_ ?_
        rotate_left
        · show Act.put _ (some 31) _ = _
          simp only [Act.put, List.setIfInBounds_toArray, List.set_cons_zero, List.set_cons_succ, i64_w, i32_w]
          rfl
        refine pure_ (i := 13) (N := some 32) (v := ?_) (a' := ?_) #[true, true, true, true, true, true, true, true, true, true, true, true, true, true, false, false] rfl rfl (any_of HT_.out (by kernel_rfl)) (fun _ _ _ h => h) (Or.inl ⟨by rfl, ?_⟩) ?_ ?_
        rotate_left
        · intro w'
          go_simp
          with_reducible rfl
        rotate_left
        · simp only [Act.put, List.setIfInBounds_toArray, List.set_cons_zero, List.set_cons_succ, i64_w, i32_w]
          rfl
        refine one_ (i := 14) (N := some 33) #[true, true, true, true, true, true, true, true, true, true, true, true, true, true, true, false] rfl rfl (one_of HT_.out (by kernel_rfl)) (by decide) (fun K hK => ?_)
        refine Kd.R_lit_step Kd.string _ 9 ?hg (N := 33) ?hd (xs := ([a2, t222, t223, t224 ++ (⟨#[48]⟩ : ByteArray), (⟨#[45]⟩ : ByteArray) ++ t225, (⟨#[48]⟩ : ByteArray) ++ t226, (⟨#[49, 48, 48, 48, 48, 48, 48, 48, 48, 48, 48, 48, 48]⟩ : ByteArray), (⟨#[49, 48, 48, 48, 48, 48, 48, 48, 48, 48, 48, 48, 49]⟩ : ByteArray), (⟨#[50, 47, 52]⟩ : ByteArray), (⟨#[45, 48]⟩ : ByteArray), (⟨#[49, 47, 48]⟩ : ByteArray), (⟨#[55, 47, 49, 48, 48, 48, 48, 48, 48]⟩ : ByteArray), (⟨#[55, 47, 49, 48, 48, 48, 48, 48, 49]⟩ : ByteArray)] : List ByteArray)) (inner := [.string a2, .string t222, .string t223, .string (t224 ++ (⟨#[48]⟩ : ByteArray)), .string ((⟨#[45]⟩ : ByteArray) ++ t225), .string ((⟨#[48]⟩ : ByteArray) ++ t226), .string (⟨#[49, 48, 48, 48, 48, 48, 48, 48, 48, 48, 48, 48, 48]⟩ : ByteArray), .string (⟨#[49, 48, 48, 48, 48, 48, 48, 48, 48, 48, 48, 48, 49]⟩ : ByteArray), .string (⟨#[50, 47, 52]⟩ : ByteArray), .string (⟨#[45, 48]⟩ : ByteArray), .string (⟨#[49, 47, 48]⟩ : ByteArray), .string (⟨#[55, 47, 49, 48, 48, 48, 48, 48, 48]⟩ : ByteArray), .string (⟨#[55, 47, 49, 48, 48, 48, 48, 48, 49]⟩ : ByteArray)]) (ok := fun _ => True) (okp := fun _ => True) ?hr ?hp (fun _ hk => hk) trivial (Below.refl _ _) (Nat.le_refl _) (by simp) ?_; (case hd => rfl); (case hg => rfl); (case hr => first | (go_simp; done) | (go_simp; rfl)); (case hp => exact (Reps.one (show Kd.M Kd.string _ _ _ a2 [.string a2] from rfl) (Reps.one (show Kd.M Kd.string _ _ _ t222 [.string t222] from rfl) (Reps.one (show Kd.M Kd.string _ _ _ t223 [.string t223] from rfl) (Reps.one (show Kd.M Kd.string _ _ _ (t224 ++ (⟨#[48]⟩ : ByteArray)) [.string (t224 ++ (⟨#[48]⟩ : ByteArray))] from rfl) (Reps.one (show Kd.M Kd.string _ _ _ ((⟨#[45]⟩ : ByteArray) ++ t225) [.string ((⟨#[45]⟩ : ByteArray) ++ t225)] from rfl) (Reps.one (show Kd.M Kd.string _ _ _ ((⟨#[48]⟩ : ByteArray) ++ t226) [.string ((⟨#[48]⟩ : ByteArray) ++ t226)] from rfl) (Reps.one (show Kd.M Kd.string _ _ _ (⟨#[49, 48, 48, 48, 48, 48, 48, 48, 48, 48, 48, 48, 48]⟩ : ByteArray) [.string (⟨#[49, 48, 48, 48, 48, 48, 48, 48, 48, 48, 48, 48, 48]⟩ : ByteArray)] from rfl) (Reps.one (show Kd.M Kd.string _ _ _ (⟨#[49, 48, 48, 48, 48, 48, 48, 48, 48, 48, 48, 48, 49]⟩ : ByteArray) [.string (⟨#[49, 48, 48, 48, 48, 48, 48, 48, 48, 48, 48, 48, 49]⟩ : ByteArray)] from rfl) (Reps.one (show Kd.M Kd.string _ _ _ (⟨#[50, 47, 52]⟩ : ByteArray) [.string (⟨#[50, 47, 52]⟩ : ByteArray)] from rfl) (Reps.one (show Kd.M Kd.string _ _ _ (⟨#[45, 48]⟩ : ByteArray) [.string (⟨#[45, 48]⟩ : ByteArray)] from rfl) (Reps.one (show Kd.M Kd.string _ _ _ (⟨#[49, 47, 48]⟩ : ByteArray) [.string (⟨#[49, 47, 48]⟩ : ByteArray)] from rfl) (Reps.one (show Kd.M Kd.string _ _ _ (⟨#[55, 47, 49, 48, 48, 48, 48, 48, 48]⟩ : ByteArray) [.string (⟨#[55, 47, 49, 48, 48, 48, 48, 48, 48]⟩ : ByteArray)] from rfl) (Reps.one (show Kd.M Kd.string _ _ _ (⟨#[55, 47, 49, 48, 48, 48, 48, 48, 49]⟩ : ByteArray) [.string (⟨#[55, 47, 49, 48, 48, 48, 48, 48, 49]⟩ : ByteArray)] from rfl) (Reps.none _ _)))))))))))))))
        intro v228 w28 ho29 hb hg_ hnew_
        clear hg_ hnew_
        (first | rw [← Ny227.out] at ho29 | (simp only [Int.reduceToNat] at ho29; rw [← Ny227.out] at ho29))
        have n0_ := Aside0.mk (Kd.R_lower ho29 (below_size (by repeat (first | (with_reducible first | exact HB.out | apply below_alloc | apply pw_below_drewN | apply below_drew1 | refine below_set ?_ (IsS51.ge HI217.out) | refine below_set ?_ GE214.out | refine below_set ?_ GE221.out) | exact HB.out))))
        have n1_ := Aside0.mk (blk_below (g := gb214) (o := .cells #[.int .i64 a1_0, .int .i64 a1_1] 23 (0, 0)) (by (with_reducible repeat (first | refine blk_drewN ?_ _ | refine blk_drew ?_ | refine blk_alloc ?_ _)); exact BK214.out) hb)
        have n2_ := Aside0.mk (IsS51.below (by repeat (first | (with_reducible first | exact HI217.out | apply IsS51.alloc | apply IsS51.drewN | apply IsS51.drew | apply IsS51.set_1 | refine IsS51.far ?_ NB217_214.out _ | refine IsS51.far ?_ NB217_221.out _) | exact HI217.out)) hb)
        have n3_ := Aside0.mk (blk_below (g := gb221) (o := .cells #[.int .i64 t218, .int .i64 t219] 23 (0, 0)) (by (with_reducible repeat (first | refine blk_drewN ?_ _ | refine blk_drew ?_ | refine blk_alloc ?_ _)); exact BK221.out) hb)
        have n4_ := Aside0.mk (below_step (by repeat (first | (with_reducible first | exact HB.out | apply below_alloc | apply pw_below_drewN | apply below_drew1 | refine below_set ?_ (IsS51.ge HI217.out) | refine below_set ?_ GE214.out | refine below_set ?_ GE221.out) | exact HB.out)) hb)
        clear BK214
        clear HI217
        clear BK221
        clear HB
        have HO229 := n0_
        have BK214 := n1_
        have HI217 := n2_
        have BK221 := n3_
        have HB := n4_
        clear n0_ n1_ n2_ n3_ n4_
        clear hb ho29
        refine hK.out _ _ ⟨(blk_cell BK221.out 0).trans rfl, (blk_cell BK221.out 1).trans rfl⟩ (fun hHeld => ?_)
        clear hK K
        refine norm_ (a' := ?_) ?_ ?_
        rotate_left
        · show Act.put _ (some 33) _ = _
          simp only [Act.put, List.setIfInBounds_toArray, List.set_cons_zero, List.set_cons_succ, i64_w, i32_w]
          rfl
        refine pure_ (i := 15) (N := some 9) (v := ?_) (a' := ?_) #[true, true, true, true, true, true, true, true, true, true, true, true, true, true, true, true] rfl rfl (any_of HT_.out (by kernel_rfl)) (fun _ _ _ h => h) (Or.inl ⟨by rfl, ?_⟩) ?_ ?_
        rotate_left
        · intro w'
          go_simp
          with_reducible rfl
        rotate_left
        · simp only [Act.put, List.setIfInBounds_toArray, List.set_cons_zero, List.set_cons_succ, i64_w, i32_w]
          rfl
        refine done_ (done_of HT_.out (by kernel_rfl)) ?_
        try go_wp2
        go_loopg [10] k (fun kq v10 w' => ∃ (x10_1 : Int), v10 = .int .i64 x10_1 ∧ Aside0 (payrolllaw1_RatioTexts.l0 kq y227 x10_1 a1_0 a1_1 t218 t219 = some true) ∧ Aside0 (kq ≤ k) ∧ Aside0 (Kd.R Kd.string 9 w' w.heap.size (fun _ => True) v228 y227) ∧ Aside0 (w'.heap[gb214]? = some (.cells #[.int .i64 a1_0, .int .i64 a1_1] 23 (0, 0))) ∧ Aside0 (w'.heap[gb221]? = some (.cells #[.int .i64 t218, .int .i64 t219] 23 (0, 0))) ∧ Aside0 (Below w.heap.size w w'))
        case atStart => exact ⟨(0), (by first | rfl | (simp; done) | (simp [*]; done)), H', ⟨Nat.le_refl _⟩, ⟨by (with_reducible repeat (first | apply Kd.R_alloc | apply Kd.R_drewN | apply Kd.R_drew)); exact HO229.out⟩, ⟨by (with_reducible repeat (first | refine blk_drewN ?_ _ | refine blk_drew ?_ | refine blk_alloc ?_ _)); exact BK214.out⟩, ⟨by (with_reducible repeat (first | refine blk_drewN ?_ _ | refine blk_drew ?_ | refine blk_alloc ?_ _)); exact BK221.out⟩, ⟨by repeat (first | (with_reducible first | exact HB.out | apply below_alloc | apply pw_below_drewN | apply below_drew1 | refine below_set ?_ (IsS51.ge HI217.out) | refine below_set ?_ GE214.out | refine below_set ?_ GE221.out) | exact HB.out)⟩⟩
        case round =>
          clear H'
          try clear c1
          try clear p2
          try clear c4
          try clear c9
          try clear c9b0
          try clear c9b1
          try clear c9b2
          try clear c11
          try clear c11b0
          try clear c11b1
          try clear c11b2
          try clear c13
          try clear c13b0
          try clear c13b1
          try clear c13b2
          try clear c14
          try clear c15
          try clear c16
          try clear c18
          try clear c19
          try clear hcz20_0
          try clear hcz20_1
          try clear hfz20_0
          try clear hfz20_1
          obtain ⟨x10_1, rfl, HA, HK1, HO_9, BK214, BK221, HB⟩ := hrel
          cases gk with
          | zero => exact absurd HA.out (by simp [payrolllaw1_RatioTexts.l0])
          | succ k1 =>
            have H := HA.out
            clear HA
            simp only [payrolllaw1_RatioTexts.l0] at H
            by_cases c30 : x10_1 < (y227.length : Int)
            · rw [if_pos c30] at H
              have c30b0 : decide (x10_1 < (y227.length : Int)) = true := decide_eq_true c30
              clear c30
              by_cases c31 : 0 ≤ x10_1
              · rw [if_pos c31] at H
                have c31b0 : decide (0 ≤ x10_1) = true := decide_eq_true c31
                clear c31
                replace H := Option.bind_eq_some_iff.mp H
                obtain ⟨⟨t231, t232, t233⟩, A320, H⟩ := H
                replace H : ((payrollref1_Parse.f k1 (rdOf ByteArray.empty y227 x10_1)).bind fun bt236 => (if (!(t231 == bt236.1) || (!(t232 == bt236.2.1))) = true then (some false) else (if (t233 != bt236.2.2) = true then (some false) else (payrolllaw1_RatioTexts.l0 k1 y227 (wrap64 (x10_1 + 1)) a1_0 a1_1 t218 t219)))) = some true := H
                have A32 := Aside0.mk A320
                clear A320
                replace H := Option.bind_eq_some_iff.mp H
                obtain ⟨⟨t236, t237, t238⟩, A330, H⟩ := H
                replace H : (if (!(t231 == t236) || (!(t232 == t237))) = true then (some false) else (if (t233 != t238) = true then (some false) else (payrolllaw1_RatioTexts.l0 k1 y227 (wrap64 (x10_1 + 1)) a1_0 a1_1 t218 t219))) = some true := H
                have A33 := Aside0.mk A330
                clear A330
                by_cases c34 : (!(t231 == t236) || (!(t232 == t237))) = true
                · rw [if_pos c34] at H
                  have c34b0 : (!(t231 == t236) || (!(t232 == t237))) = true := c34
                  clear c34
                  exact absurd H (by simp)
                · rw [if_neg c34] at H
                  have c34b0 : (!(t231 == t236) || (!(t232 == t237))) = false := by simpa using c34
                  clear c34
                  by_cases c35 : (t233 != t238) = true
                  · rw [if_pos c35] at H
                    have c35b0 : (t233 != t238) = true := c35
                    (try (have c35b1 : decide (t233 = t238) = false := by simpa using c35))
                    (try (have c35b2 : (t233 == t238) = false := by simpa using c35))
                    (try (have c35b3 : ¬ (t233 = t238) := by simpa using c35))
                    clear c35
                    exact absurd H (by simp)
                  · rw [if_neg c35] at H
                    have c35b0 : (t233 != t238) = false := by simpa using c35
                    (try (have c35b1 : decide (t233 = t238) = true := by simpa using c35))
                    (try (have c35b2 : (t233 == t238) = true := by simpa using c35))
                    clear c35
                    have H' := Aside0.mk H
                    clear H
                    obtain ⟨Ao36, co36, eo36⟩ := Kd.R_slice HO_9.out
                    subst eo36
                    have p230 : 0 ≤ (x10_1 : Int) := of_decide_eq_true (by first | (with_reducible assumption) | assumption)
                    have q230 : x10_1 < (y227.length : Int) := of_decide_eq_true (by first | (with_reducible assumption) | assumption)
                    obtain ⟨ad230, e230, hx230_0⟩ := Kd.at_string (Kd.R_reads' HO_9.out).2.2 x10_1 p230 q230
                    cases e230
                    replace p230 := eq_true p230
                    replace q230 := eq_true q230
                    go_wp2_with (first | ((with_reducible refine gate_callee (f := 17) rfl ?_); refine goesL_ (some 45) rfl rfl Tryd.func17 (by kernel_rfl) rfl #[.string (rdOf ByteArray.empty y227 x10_1)] rfl (by (try simp only [List.map_toArray, List.map_cons, List.map_nil]); first | done | rfl | (simp only [List.length_drop, List.length_take]; rfl)) ?_; (with_reducible refine (ratio_Parse.calls k1 (rdOf ByteArray.empty y227 x10_1) t231 t232 t233 _ ?side1 A32.out).mono ?_); (case side1 => exact Tabs.below HT.out (by repeat (first | (with_reducible first | exact HB.out | apply below_alloc | apply pw_below_drewN | apply below_drew1 | refine below_set ?_ GE214.out | refine below_set ?_ GE221.out) | exact HB.out))); rintro e w37 ⟨rfl, hb⟩; refine ⟨_, rfl, ?_⟩; have n0_ := Aside0.mk (Kd.R_below (by (with_reducible repeat (first | apply Kd.R_alloc | apply Kd.R_drewN | apply Kd.R_drew)); exact HO_9.out) hb); have n1_ := Aside0.mk (blk_below (g := gb214) (o := .cells #[.int .i64 a1_0, .int .i64 a1_1] 23 (0, 0)) (by (with_reducible repeat (first | refine blk_drewN ?_ _ | refine blk_drew ?_ | refine blk_alloc ?_ _)); exact BK214.out) hb); have n2_ := Aside0.mk (blk_below (g := gb221) (o := .cells #[.int .i64 t218, .int .i64 t219] 23 (0, 0)) (by (with_reducible repeat (first | refine blk_drewN ?_ _ | refine blk_drew ?_ | refine blk_alloc ?_ _)); exact BK221.out) hb); have n3_ := Aside0.mk (below_step (by repeat (first | (with_reducible first | exact HB.out | apply below_alloc | apply pw_below_drewN | apply below_drew1 | refine below_set ?_ GE214.out | refine below_set ?_ GE221.out) | exact HB.out)) hb); clear HO_9; clear BK214; clear BK221; clear HB; have HO_9 := n0_; have BK214 := n1_; have BK221 := n2_; have HB := n3_; clear n0_ n1_ n2_ n3_; (try clear hb); (try clear hb2); (try clear hk); (try clear hi)) | ((with_reducible refine gate_dst (N := 11) rfl ?_); refine box_event ?hg (N := 11) ?hd (cs := #[.int .i64 0, .int .i64 0]) (t := 23) ?hr ?_; (case hd => rfl); (case hg => rfl); (case hr => first | (go_simp; done) | (go_simp; rfl)); intro gb234 hg w38 hbox hb; have n0_ := Aside0.mk (Kd.R_below (by (with_reducible repeat (first | apply Kd.R_alloc | apply Kd.R_drewN | apply Kd.R_drew)); exact HO_9.out) hb); have n1_ := Aside0.mk (blk_below (g := gb214) (o := .cells #[.int .i64 a1_0, .int .i64 a1_1] 23 (0, 0)) (by (with_reducible repeat (first | refine blk_drewN ?_ _ | refine blk_drew ?_ | refine blk_alloc ?_ _)); exact BK214.out) hb); have n2_ := Aside0.mk (blk_below (g := gb221) (o := .cells #[.int .i64 t218, .int .i64 t219] 23 (0, 0)) (by (with_reducible repeat (first | refine blk_drewN ?_ _ | refine blk_drew ?_ | refine blk_alloc ?_ _)); exact BK221.out) hb); have n3_ := Aside0.mk (below_step (by repeat (first | (with_reducible first | exact HB.out | apply below_alloc | apply pw_below_drewN | apply below_drew1 | refine below_set ?_ GE214.out | refine below_set ?_ GE221.out) | exact HB.out)) hb); have n4_ := Aside0.mk (hbox); have n5_ := Aside0.mk ((by rw [hg]; exact (below_size (by repeat (first | (with_reducible first | exact HB.out | apply below_alloc | apply pw_below_drewN | apply below_drew1 | refine below_set ?_ GE214.out | refine below_set ?_ GE221.out) | exact HB.out))) : w.heap.size ≤ gb234)); have n6_ := Aside0.mk ((by rw [hg]; exact (below_size (by repeat (first | (with_reducible first | exact HB.out | apply below_alloc | apply pw_below_drewN | apply below_drew1 | refine below_set ?_ GE214.out | refine below_set ?_ GE221.out) | exact HB.out))) : w.heap.size ≤ gb234)); have n7_ := Aside0.mk ((by rw [hg]; exact Nat.ne_of_lt (blk_lt (g := gb214) (o := .cells #[.int .i64 a1_0, .int .i64 a1_1] 23 (0, 0)) (by (with_reducible repeat (first | refine blk_drewN ?_ _ | refine blk_drew ?_ | refine blk_alloc ?_ _)); exact BK214.out)) : gb214 ≠ gb234)); have n8_ := Aside0.mk ((by rw [hg]; exact Nat.ne_of_gt (blk_lt (g := gb214) (o := .cells #[.int .i64 a1_0, .int .i64 a1_1] 23 (0, 0)) (by (with_reducible repeat (first | refine blk_drewN ?_ _ | refine blk_drew ?_ | refine blk_alloc ?_ _)); exact BK214.out)) : gb234 ≠ gb214)); have n9_ := Aside0.mk ((by rw [hg]; exact Nat.ne_of_lt (blk_lt (g := gb221) (o := .cells #[.int .i64 t218, .int .i64 t219] 23 (0, 0)) (by (with_reducible repeat (first | refine blk_drewN ?_ _ | refine blk_drew ?_ | refine blk_alloc ?_ _)); exact BK221.out)) : gb221 ≠ gb234)); have n10_ := Aside0.mk ((by rw [hg]; exact Nat.ne_of_gt (blk_lt (g := gb221) (o := .cells #[.int .i64 t218, .int .i64 t219] 23 (0, 0)) (by (with_reducible repeat (first | refine blk_drewN ?_ _ | refine blk_drew ?_ | refine blk_alloc ?_ _)); exact BK221.out)) : gb234 ≠ gb221)); clear HO_9; clear BK214; clear BK221; clear HB; have HO_9 := n0_; have BK214 := n1_; have BK221 := n2_; have HB := n3_; have BK234 := n4_; have GW234 := n5_; have GE234 := n6_; have NB214_234 := n7_; have NB234_214 := n8_; have NB221_234 := n9_; have NB234_221 := n10_; clear n0_ n1_ n2_ n3_ n4_ n5_ n6_ n7_ n8_ n9_ n10_; clear hb hbox hg; have hnb39 := NB234_214.out; have hnc39 := NB214_234.out; have hnb40 := NB234_221.out; have hnc40 := NB221_234.out; have hcz41_0 : w38.cell? ⟨gb234, 0, none⟩ = some (.int .i64 0) := (blk_cell BK234.out 0).trans rfl; have hcz41_1 : w38.cell? ⟨gb234, 1, none⟩ = some (.int .i64 0) := (blk_cell BK234.out 1).trans rfl; have hfz41_0 := blk_frozen BK234.out 0; have hfz41_1 := blk_frozen BK234.out 1; have p235 : 0 ≤ (x10_1 : Int) := of_decide_eq_true (by first | (with_reducible assumption) | assumption); have q235 : x10_1 < (y227.length : Int) := of_decide_eq_true (by first | (with_reducible assumption) | assumption); obtain ⟨ad235, e235, hx235_0⟩ := Kd.at_string (Kd.R_reads' HO_9.out).2.2 x10_1 p235 q235; obtain rfl : ad230 = ad235 := (by injection e235); have hn235_0 : ad230.block ≠ gb234 := Kd.own_blk (Kd.R_ne HO_9.out BK234.out (by decide)); have hn235_1 : ad230.block ≠ gb234 := Kd.own_blk (Kd.R_ne HO_9.out BK234.out (by decide)); replace hx235_0 := (cell_far (p := ⟨gb234, 0, none⟩) (by first | (rw [add_block]; exact hn235_0) | (show (Addr.add _ _).block ≠ _; rw [add_block]; exact hn235_0) | exact hn235_0) (.int .i64 t231)).trans hx235_0; replace hx235_0 := (cell_far (p := ⟨gb234, 1, none⟩) (by first | (rw [add_block]; exact hn235_1) | (show (Addr.add _ _).block ≠ _; rw [add_block]; exact hn235_1) | exact hn235_1) (.int .i64 t232)).trans hx235_0; clear hn235_0; clear hn235_1; replace p235 := eq_true p235; replace q235 := eq_true q235) | ((with_reducible refine gate_callee (f := 18) rfl ?_); refine goesL_ (some 53) rfl rfl Tryd.func18 (by kernel_rfl) rfl #[.string (rdOf ByteArray.empty y227 x10_1)] rfl (by (try simp only [List.map_toArray, List.map_cons, List.map_nil]); first | done | rfl | (simp only [List.length_drop, List.length_take]; rfl)) ?_; (with_reducible refine (payrollref1_Parse.calls k1 (rdOf ByteArray.empty y227 x10_1) t236 t237 t238 _ A33.out).mono ?_); rintro e w42 ⟨rfl, hb⟩; refine ⟨_, rfl, ?_⟩; have n0_ := Aside0.mk (Kd.R_below (by (with_reducible repeat (first | apply Kd.R_alloc | apply Kd.R_drewN | apply Kd.R_drew)); exact (Kd.R_mono (Kd.R_far (p := ⟨gb234, 1, none⟩) (Kd.R_far (p := ⟨gb234, 0, none⟩) (Kd.R_types HO_9.out BK234.out (by decide)) (fun _ hk => hk.2) (.int .i64 t231)) (fun _ hk => hk.2) (.int .i64 t232)) (fun _ h_ => h_.1))) hb); have n1_ := Aside0.mk (blk_below (g := gb214) (o := .cells #[.int .i64 a1_0, .int .i64 a1_1] 23 (0, 0)) (by (with_reducible repeat (first | refine blk_drewN ?_ _ | refine blk_drew ?_ | refine blk_alloc ?_ _)); refine blk_far ?_ NB214_234.out _; (with_reducible repeat (first | refine blk_drewN ?_ _ | refine blk_drew ?_ | refine blk_alloc ?_ _)); refine blk_far ?_ NB214_234.out _; (with_reducible repeat (first | refine blk_drewN ?_ _ | refine blk_drew ?_ | refine blk_alloc ?_ _)); exact BK214.out) hb); have n2_ := Aside0.mk (blk_below (g := gb221) (o := .cells #[.int .i64 t218, .int .i64 t219] 23 (0, 0)) (by (with_reducible repeat (first | refine blk_drewN ?_ _ | refine blk_drew ?_ | refine blk_alloc ?_ _)); refine blk_far ?_ NB221_234.out _; (with_reducible repeat (first | refine blk_drewN ?_ _ | refine blk_drew ?_ | refine blk_alloc ?_ _)); refine blk_far ?_ NB221_234.out _; (with_reducible repeat (first | refine blk_drewN ?_ _ | refine blk_drew ?_ | refine blk_alloc ?_ _)); exact BK221.out) hb); have n3_ := Aside0.mk (blk_below (g := gb234) (o := .cells #[.int .i64 t231, .int .i64 t232] 23 (0, 0)) (by (with_reducible repeat (first | refine blk_drewN ?_ _ | refine blk_drew ?_ | refine blk_alloc ?_ _)); refine blk_put (cs := #[.int .i64 t231, .int .i64 0]) ?_ 1 _ rfl; (with_reducible repeat (first | refine blk_drewN ?_ _ | refine blk_drew ?_ | refine blk_alloc ?_ _)); refine blk_put (cs := #[.int .i64 0, .int .i64 0]) ?_ 0 _ rfl; (with_reducible repeat (first | refine blk_drewN ?_ _ | refine blk_drew ?_ | refine blk_alloc ?_ _)); exact BK234.out) hb); have n4_ := Aside0.mk (below_step (by repeat (first | (with_reducible first | exact HB.out | apply below_alloc | apply pw_below_drewN | apply below_drew1 | refine below_set ?_ GE214.out | refine below_set ?_ GE221.out | refine below_set ?_ GE234.out) | exact HB.out)) hb); clear HO_9; clear BK214; clear BK221; clear BK234; clear HB; have HO_9 := n0_; have BK214 := n1_; have BK221 := n2_; have BK234 := n3_; have HB := n4_; clear n0_ n1_ n2_ n3_ n4_; (try clear hb); (try clear hb2); (try clear hk); (try clear hi)) | ((with_reducible refine gate_dst (N := 13) rfl ?_); refine box_event ?hg (N := 13) ?hd (cs := #[.int .i64 0, .int .i64 0]) (t := 23) ?hr ?_; (case hd => rfl); (case hg => rfl); (case hr => first | (go_simp; done) | (go_simp; rfl)); intro gb239 hg w43 hbox hb; have n0_ := Aside0.mk (Kd.R_below (by (with_reducible repeat (first | apply Kd.R_alloc | apply Kd.R_drewN | apply Kd.R_drew)); exact HO_9.out) hb); have n1_ := Aside0.mk (blk_below (g := gb214) (o := .cells #[.int .i64 a1_0, .int .i64 a1_1] 23 (0, 0)) (by (with_reducible repeat (first | refine blk_drewN ?_ _ | refine blk_drew ?_ | refine blk_alloc ?_ _)); exact BK214.out) hb); have n2_ := Aside0.mk (blk_below (g := gb221) (o := .cells #[.int .i64 t218, .int .i64 t219] 23 (0, 0)) (by (with_reducible repeat (first | refine blk_drewN ?_ _ | refine blk_drew ?_ | refine blk_alloc ?_ _)); exact BK221.out) hb); have n3_ := Aside0.mk (blk_below (g := gb234) (o := .cells #[.int .i64 t231, .int .i64 t232] 23 (0, 0)) (by (with_reducible repeat (first | refine blk_drewN ?_ _ | refine blk_drew ?_ | refine blk_alloc ?_ _)); exact BK234.out) hb); have n4_ := Aside0.mk (below_step (by repeat (first | (with_reducible first | exact HB.out | apply below_alloc | apply pw_below_drewN | apply below_drew1 | refine below_set ?_ GE214.out | refine below_set ?_ GE221.out | refine below_set ?_ GE234.out) | exact HB.out)) hb); have n5_ := Aside0.mk (hbox); have n6_ := Aside0.mk ((by rw [hg]; exact (below_size (by repeat (first | (with_reducible first | exact HB.out | apply below_alloc | apply pw_below_drewN | apply below_drew1 | refine below_set ?_ GE214.out | refine below_set ?_ GE221.out | refine below_set ?_ GE234.out) | exact HB.out))) : w.heap.size ≤ gb239)); have n7_ := Aside0.mk ((by rw [hg]; exact (below_size (by repeat (first | (with_reducible first | exact HB.out | apply below_alloc | apply pw_below_drewN | apply below_drew1 | refine below_set ?_ GE214.out | refine below_set ?_ GE221.out | refine below_set ?_ GE234.out) | exact HB.out))) : w.heap.size ≤ gb239)); have n8_ := Aside0.mk ((by rw [hg]; exact Nat.ne_of_lt (blk_lt (g := gb214) (o := .cells #[.int .i64 a1_0, .int .i64 a1_1] 23 (0, 0)) (by (with_reducible repeat (first | refine blk_drewN ?_ _ | refine blk_drew ?_ | refine blk_alloc ?_ _)); exact BK214.out)) : gb214 ≠ gb239)); have n9_ := Aside0.mk ((by rw [hg]; exact Nat.ne_of_gt (blk_lt (g := gb214) (o := .cells #[.int .i64 a1_0, .int .i64 a1_1] 23 (0, 0)) (by (with_reducible repeat (first | refine blk_drewN ?_ _ | refine blk_drew ?_ | refine blk_alloc ?_ _)); exact BK214.out)) : gb239 ≠ gb214)); have n10_ := Aside0.mk ((by rw [hg]; exact Nat.ne_of_lt (blk_lt (g := gb221) (o := .cells #[.int .i64 t218, .int .i64 t219] 23 (0, 0)) (by (with_reducible repeat (first | refine blk_drewN ?_ _ | refine blk_drew ?_ | refine blk_alloc ?_ _)); exact BK221.out)) : gb221 ≠ gb239)); have n11_ := Aside0.mk ((by rw [hg]; exact Nat.ne_of_gt (blk_lt (g := gb221) (o := .cells #[.int .i64 t218, .int .i64 t219] 23 (0, 0)) (by (with_reducible repeat (first | refine blk_drewN ?_ _ | refine blk_drew ?_ | refine blk_alloc ?_ _)); exact BK221.out)) : gb239 ≠ gb221)); have n12_ := Aside0.mk ((by rw [hg]; exact Nat.ne_of_lt (blk_lt (g := gb234) (o := .cells #[.int .i64 t231, .int .i64 t232] 23 (0, 0)) (by (with_reducible repeat (first | refine blk_drewN ?_ _ | refine blk_drew ?_ | refine blk_alloc ?_ _)); exact BK234.out)) : gb234 ≠ gb239)); have n13_ := Aside0.mk ((by rw [hg]; exact Nat.ne_of_gt (blk_lt (g := gb234) (o := .cells #[.int .i64 t231, .int .i64 t232] 23 (0, 0)) (by (with_reducible repeat (first | refine blk_drewN ?_ _ | refine blk_drew ?_ | refine blk_alloc ?_ _)); exact BK234.out)) : gb239 ≠ gb234)); clear HO_9; clear BK214; clear BK221; clear BK234; clear HB; have HO_9 := n0_; have BK214 := n1_; have BK221 := n2_; have BK234 := n3_; have HB := n4_; have BK239 := n5_; have GW239 := n6_; have GE239 := n7_; have NB214_239 := n8_; have NB239_214 := n9_; have NB221_239 := n10_; have NB239_221 := n11_; have NB234_239 := n12_; have NB239_234 := n13_; clear n0_ n1_ n2_ n3_ n4_ n5_ n6_ n7_ n8_ n9_ n10_ n11_ n12_ n13_; clear hb hbox hg; have hnb44 := NB239_214.out; have hnc44 := NB214_239.out; have hnb45 := NB239_221.out; have hnc45 := NB221_239.out; have hnb46 := NB239_234.out; have hnc46 := NB234_239.out; have hcz47_0 : w43.cell? ⟨gb239, 0, none⟩ = some (.int .i64 0) := (blk_cell BK239.out 0).trans rfl; have hcz47_1 : w43.cell? ⟨gb239, 1, none⟩ = some (.int .i64 0) := (blk_cell BK239.out 1).trans rfl; have hfz47_0 := blk_frozen BK239.out 0; have hfz47_1 := blk_frozen BK239.out 1; have hcz48_0 : w43.cell? ⟨gb234, 0, none⟩ = some (.int .i64 t231) := (blk_cell BK234.out 0).trans rfl; have hcz48_1 : w43.cell? ⟨gb234, 1, none⟩ = some (.int .i64 t232) := (blk_cell BK234.out 1).trans rfl; have hfz48_0 := blk_frozen BK234.out 0; have hfz48_1 := blk_frozen BK234.out 1))
                    go_roundg k1
                    case measure => have := HK1.out; omega
                    case rel => exact ⟨(wrap64 (x10_1 + 1)), (by first | rfl | (simp; done) | (simp [*]; done)), H', ⟨by have := HK1.out; omega⟩, ⟨by (with_reducible repeat (first | apply Kd.R_alloc | apply Kd.R_drewN | apply Kd.R_drew)); exact Kd.R_mono (Kd.R_far (p := ⟨gb239, 1, none⟩) (Kd.R_far (p := ⟨gb239, 0, none⟩) (Kd.R_types HO_9.out BK239.out (by decide)) (fun _ hk => hk.2) (.int .i64 t236)) (fun _ hk => hk.2) (.int .i64 t237)) (fun _ hk => trivial)⟩, ⟨by (with_reducible repeat (first | refine blk_drewN ?_ _ | refine blk_drew ?_ | refine blk_alloc ?_ _)); refine blk_far ?_ NB214_239.out _; (with_reducible repeat (first | refine blk_drewN ?_ _ | refine blk_drew ?_ | refine blk_alloc ?_ _)); refine blk_far ?_ NB214_239.out _; (with_reducible repeat (first | refine blk_drewN ?_ _ | refine blk_drew ?_ | refine blk_alloc ?_ _)); exact BK214.out⟩, ⟨by (with_reducible repeat (first | refine blk_drewN ?_ _ | refine blk_drew ?_ | refine blk_alloc ?_ _)); refine blk_far ?_ NB221_239.out _; (with_reducible repeat (first | refine blk_drewN ?_ _ | refine blk_drew ?_ | refine blk_alloc ?_ _)); refine blk_far ?_ NB221_239.out _; (with_reducible repeat (first | refine blk_drewN ?_ _ | refine blk_drew ?_ | refine blk_alloc ?_ _)); exact BK221.out⟩, ⟨by repeat (first | (with_reducible first | exact HB.out | apply below_alloc | apply pw_below_drewN | apply below_drew1 | refine below_set ?_ GE214.out | refine below_set ?_ GE221.out | refine below_set ?_ GE234.out | refine below_set ?_ GE239.out) | exact HB.out)⟩⟩
              · rw [if_neg c31] at H
                exact absurd H (by simp)
            · rw [if_neg c30] at H
              have c30b0 : decide (x10_1 < (y227.length : Int)) = false := decide_eq_false c30
              clear c30
              replace H := Option.bind_eq_some_iff.mp H
              obtain ⟨t240, A490, H⟩ := H
              replace H : ((payrollref1_Format.f k1 a1_0 a1_1).bind fun t241 => (if t240.toList = t241.toList then ((ratio_Format.f k1 t218 t219).bind fun t242 => ((payrollref1_Format.f k1 t218 t219).bind fun t243 => (if t242.toList = t243.toList then ((payrolllaw1_sane.f k1).bind fun t244 => (some t244)) else (some false)))) else (some false))) = some true := H
              have A49 := Aside0.mk A490
              clear A490
              replace H := Option.bind_eq_some_iff.mp H
              obtain ⟨t241, A500, H⟩ := H
              replace H : (if t240.toList = t241.toList then ((ratio_Format.f k1 t218 t219).bind fun t242 => ((payrollref1_Format.f k1 t218 t219).bind fun t243 => (if t242.toList = t243.toList then ((payrolllaw1_sane.f k1).bind fun t244 => (some t244)) else (some false)))) else (some false)) = some true := H
              have A50 := Aside0.mk A500
              clear A500
              by_cases c51 : t240.toList = t241.toList
              · rw [if_pos c51] at H
                have c51b0 : (t240.toList == t241.toList) = true := beq_iff_eq.mpr c51
                have c51b1 : (t240.toList != t241.toList) = false := bne_eq_false_iff_eq.mpr c51
                clear c51
                replace H := Option.bind_eq_some_iff.mp H
                obtain ⟨t242, A520, H⟩ := H
                replace H : ((payrollref1_Format.f k1 t218 t219).bind fun t243 => (if t242.toList = t243.toList then ((payrolllaw1_sane.f k1).bind fun t244 => (some t244)) else (some false))) = some true := H
                have A52 := Aside0.mk A520
                clear A520
                replace H := Option.bind_eq_some_iff.mp H
                obtain ⟨t243, A530, H⟩ := H
                replace H : (if t242.toList = t243.toList then ((payrolllaw1_sane.f k1).bind fun t244 => (some t244)) else (some false)) = some true := H
                have A53 := Aside0.mk A530
                clear A530
                by_cases c54 : t242.toList = t243.toList
                · rw [if_pos c54] at H
                  have c54b0 : (t242.toList == t243.toList) = true := beq_iff_eq.mpr c54
                  have c54b1 : (t242.toList != t243.toList) = false := bne_eq_false_iff_eq.mpr c54
                  clear c54
                  replace H := Option.bind_eq_some_iff.mp H
                  obtain ⟨t244, A550, H⟩ := H
                  replace H : (some t244) = some true := H
                  have A55 := Aside0.mk A550
                  clear A550
                  obtain rfl := Option.some.inj H
                  obtain ⟨Ao56, co56, eo56⟩ := Kd.R_slice HO_9.out
                  subst eo56
                  try go_wp2
                  have n0_ := Aside0.mk (Kd.R_drew HO_9.out)
                  have n1_ := Aside0.mk (blk_drew BK214.out)
                  have n2_ := Aside0.mk (blk_drew BK221.out)
                  have n3_ := Aside0.mk (below_drew1 HB.out)
                  clear HO_9
                  clear BK214
                  clear BK221
                  clear HB
                  have HO_9 := n0_
                  have BK214 := n1_
                  have BK221 := n2_
                  have HB := n3_
                  clear n0_ n1_ n2_ n3_
                  refine start_ (n := 16) (S := fun w' => w'.cell? ⟨gb214, 0, none⟩ = some (.int .i64 a1_0) ∧ w'.cell? ⟨gb214, 1, none⟩ = some (.int .i64 a1_1) ∧ w'.cell? ⟨gb221, 0, none⟩ = some (.int .i64 t218) ∧ w'.cell? ⟨gb221, 1, none⟩ = some (.int .i64 t219)) (ds := []) #[false, false, false, false, false, false, false, false, false, false, false, false, false, false, false, false] (by kernel_rfl) rfl rfl ⟨(blk_cell BK214.out 0).trans rfl, (blk_cell BK214.out 1).trans rfl, (blk_cell BK221.out 0).trans rfl, (blk_cell BK221.out 1).trans rfl⟩ (fun hHeld => ?_); refine with_tabW payrolllaw1_RatioTexts.tab11 payrolllaw1_RatioTexts.bits11 (fun HT_ HW_ => ?_)
                  generalize wr.drew = w57 at HO_9 BK214 BK221 HB hHeld ⊢
                  refine take_ (i := 0) (N := some 64) (v := ?_) (a' := ?_) #[true, false, false, false, false, false, false, false, false, false, false, false, false, false, false, false] rfl rfl (take_ofW HT_.out HW_.out (by kernel_rfl)) (fun _ _ _ h => h) (Or.inl ⟨by rfl, ?_⟩) hHeld ?_ ?_
                  rotate_left
                  · rintro w' ⟨s0, s1, s2, s3⟩
                    go_simp
                    with_reducible rfl
                  rotate_left
                  · simp only [Act.put, List.setIfInBounds_toArray, List.set_cons_zero, List.set_cons_succ, i64_w, i32_w]
                    rfl
                  refine take_ (i := 2) (N := some 66) (v := ?_) (a' := ?_) #[true, false, true, false, false, false, false, false, false, false, false, false, false, false, false, false] rfl rfl (take_ofW HT_.out HW_.out (by kernel_rfl)) (fun _ _ _ h => h) (Or.inl ⟨by rfl, ?_⟩) hHeld ?_ ?_
                  rotate_left
                  · rintro w' ⟨s0, s1, s2, s3⟩
                    go_simp
                    with_reducible rfl
                  rotate_left
                  · simp only [Act.put, List.setIfInBounds_toArray, List.set_cons_zero, List.set_cons_succ, i64_w, i32_w]
                    rfl
                  refine one_ (i := 1) (N := some 65) #[true, true, true, false, false, false, false, false, false, false, false, false, false, false, false, false] rfl rfl (one_of HT_.out (by kernel_rfl)) (by decide) (fun K hK => ?_)
                  refine goes_ Tryd.func15 (by kernel_rfl) rfl #[.agg #[.int .i64 a1_0, .int .i64 a1_1]] (by rfl) rfl rfl (by (try simp only [List.map_toArray, List.map_cons, List.map_nil]); first | done | rfl | (simp only [List.length_drop, List.length_take]; rfl)) ?_
                  with_reducible refine (ratio_Format.calls k1 a1_0 a1_1 t240 _ ?side1 A49.out).mono ?_
                  (case side1 => exact Tabs.below HT.out (by repeat (first | (with_reducible first | exact HB.out | apply below_alloc | apply pw_below_drewN | apply below_drew1 | refine below_set ?_ GE214.out | refine below_set ?_ GE221.out) | exact HB.out)))
                  rintro e w58 ⟨rfl, hb⟩
                  refine ⟨_, rfl, ?_⟩
                  have n0_ := Aside0.mk (Kd.R_below (by (with_reducible repeat (first | apply Kd.R_alloc | apply Kd.R_drewN | apply Kd.R_drew)); exact HO_9.out) hb)
                  have n1_ := Aside0.mk (blk_below (g := gb214) (o := .cells #[.int .i64 a1_0, .int .i64 a1_1] 23 (0, 0)) (by (with_reducible repeat (first | refine blk_drewN ?_ _ | refine blk_drew ?_ | refine blk_alloc ?_ _)); exact BK214.out) hb)
                  have n2_ := Aside0.mk (blk_below (g := gb221) (o := .cells #[.int .i64 t218, .int .i64 t219] 23 (0, 0)) (by (with_reducible repeat (first | refine blk_drewN ?_ _ | refine blk_drew ?_ | refine blk_alloc ?_ _)); exact BK221.out) hb)
                  have n3_ := Aside0.mk (below_step (by repeat (first | (with_reducible first | exact HB.out | apply below_alloc | apply pw_below_drewN | apply below_drew1 | refine below_set ?_ GE214.out | refine below_set ?_ GE221.out) | exact HB.out)) hb)
                  clear HO_9
                  clear BK214
                  clear BK221
                  clear HB
                  have HO_9 := n0_
                  have BK214 := n1_
                  have BK221 := n2_
                  have HB := n3_
                  clear n0_ n1_ n2_ n3_
                  (try clear hb)
                  (try clear hb2)
                  (try clear hk)
                  (try clear hi)
                  refine hK.out _ _ ⟨(blk_cell BK214.out 0).trans rfl, (blk_cell BK214.out 1).trans rfl, (blk_cell BK221.out 0).trans rfl, (blk_cell BK221.out 1).trans rfl⟩ (fun hHeld => ?_)
                  clear hK K
                  refine norm_ (a' := ?_) ?_ ?_
                  rotate_left
                  · show Act.put _ (some 65) _ = _
                    simp only [Act.put, List.setIfInBounds_toArray, List.set_cons_zero, List.set_cons_succ, i64_w, i32_w]
                    rfl
                  refine one_ (i := 3) (N := some 67) #[true, true, true, true, false, false, false, false, false, false, false, false, false, false, false, false] rfl rfl (one_of HT_.out (by kernel_rfl)) (by decide) (fun K hK => ?_)
                  refine goes_ Tryd.func16 (by kernel_rfl) rfl #[.agg #[.int .i64 a1_0, .int .i64 a1_1]] (by rfl) rfl rfl (by (try simp only [List.map_toArray, List.map_cons, List.map_nil]); first | done | rfl | (simp only [List.length_drop, List.length_take]; rfl)) ?_
                  with_reducible refine (payrollref1_Format.calls k1 a1_0 a1_1 t241 _ A50.out).mono ?_
                  rintro e w59 ⟨rfl, hb⟩
                  refine ⟨_, rfl, ?_⟩
                  have n0_ := Aside0.mk (Kd.R_below (by (with_reducible repeat (first | apply Kd.R_alloc | apply Kd.R_drewN | apply Kd.R_drew)); exact HO_9.out) hb)
                  have n1_ := Aside0.mk (blk_below (g := gb214) (o := .cells #[.int .i64 a1_0, .int .i64 a1_1] 23 (0, 0)) (by (with_reducible repeat (first | refine blk_drewN ?_ _ | refine blk_drew ?_ | refine blk_alloc ?_ _)); exact BK214.out) hb)
                  have n2_ := Aside0.mk (blk_below (g := gb221) (o := .cells #[.int .i64 t218, .int .i64 t219] 23 (0, 0)) (by (with_reducible repeat (first | refine blk_drewN ?_ _ | refine blk_drew ?_ | refine blk_alloc ?_ _)); exact BK221.out) hb)
                  have n3_ := Aside0.mk (below_step (by repeat (first | (with_reducible first | exact HB.out | apply below_alloc | apply pw_below_drewN | apply below_drew1 | refine below_set ?_ GE214.out | refine below_set ?_ GE221.out) | exact HB.out)) hb)
                  clear HO_9
                  clear BK214
                  clear BK221
                  clear HB
                  have HO_9 := n0_
                  have BK214 := n1_
                  have BK221 := n2_
                  have HB := n3_
                  clear n0_ n1_ n2_ n3_
                  (try clear hb)
                  (try clear hb2)
                  (try clear hk)
                  (try clear hi)
                  refine hK.out _ _ ⟨(blk_cell BK214.out 0).trans rfl, (blk_cell BK214.out 1).trans rfl, (blk_cell BK221.out 0).trans rfl, (blk_cell BK221.out 1).trans rfl⟩ (fun hHeld => ?_)
                  clear hK K
                  refine norm_ (a' := ?_) ?_ ?_
                  rotate_left
                  · show Act.put _ (some 67) _ = _
                    simp only [Act.put, List.setIfInBounds_toArray, List.set_cons_zero, List.set_cons_succ, i64_w, i32_w]
                    rfl
                  refine pure_ (i := 4) (N := some 68) (v := ?_) (a' := ?_) #[true, true, true, true, true, false, false, false, false, false, false, false, false, false, false, false] rfl rfl (any_of HT_.out (by kernel_rfl)) (fun _ _ _ h => h) (Or.inl ⟨by rfl, ?_⟩) ?_ ?_
                  rotate_left
                  · intro w'
                    go_simp
                    with_reducible rfl
                  rotate_left
                  · simp only [Act.put, List.setIfInBounds_toArray, List.set_cons_zero, List.set_cons_succ, i64_w, i32_w]
                    rfl
                  refine pure_ (i := 5) (N := some 69) (v := ?_) (a' := ?_) #[true, true, true, true, true, true, false, false, false, false, false, false, false, false, false, false] rfl rfl (any_of HT_.out (by kernel_rfl)) (fun _ _ _ h => h) (Or.inl ⟨by rfl, ?_⟩) ?_ ?_
                  rotate_left
                  · intro w'
                    go_simp
                    with_reducible rfl
                  rotate_left
                  · simp only [Act.put, List.setIfInBounds_toArray, List.set_cons_zero, List.set_cons_succ, i64_w, i32_w]
                    rfl
                  refine take_ (i := 6) (N := some 70) (v := ?_) (a' := ?_) #[true, true, true, true, true, true, true, false, false, false, false, false, false, false, false, false] rfl rfl (take_ofW HT_.out HW_.out (by kernel_rfl)) (fun _ _ _ h => h) (Or.inl ⟨by rfl, ?_⟩) hHeld ?_ ?_
                  rotate_left
                  · rintro w' ⟨s0, s1, s2, s3⟩
                    go_simp
                    with_reducible rfl
                  rotate_left
                  · simp only [Act.put, List.setIfInBounds_toArray, List.set_cons_zero, List.set_cons_succ, i64_w, i32_w]
                    rfl
                  refine take_ (i := 8) (N := some 72) (v := ?_) (a' := ?_) #[true, true, true, true, true, true, true, false, true, false, false, false, false, false, false, false] rfl rfl (take_ofW HT_.out HW_.out (by kernel_rfl)) (fun _ _ _ h => h) (Or.inl ⟨by rfl, ?_⟩) hHeld ?_ ?_
                  rotate_left
                  · rintro w' ⟨s0, s1, s2, s3⟩
                    go_simp
                    with_reducible rfl
                  rotate_left
                  · simp only [Act.put, List.setIfInBounds_toArray, List.set_cons_zero, List.set_cons_succ, i64_w, i32_w]
                    rfl
                  refine one_ (i := 7) (N := some 71) #[true, true, true, true, true, true, true, true, true, false, false, false, false, false, false, false] rfl rfl (one_of HT_.out (by kernel_rfl)) (by decide) (fun K hK => ?_)
                  refine goes_ Tryd.func15 (by kernel_rfl) rfl #[.agg #[.int .i64 t218, .int .i64 t219]] (by rfl) rfl rfl (by (try simp only [List.map_toArray, List.map_cons, List.map_nil]); first | done | rfl | (simp only [List.length_drop, List.length_take]; rfl)) ?_
                  with_reducible refine (ratio_Format.calls k1 t218 t219 t242 _ ?side1 A52.out).mono ?_
                  (case side1 => exact Tabs.below HT.out (by repeat (first | (with_reducible first | exact HB.out | apply below_alloc | apply pw_below_drewN | apply below_drew1 | refine below_set ?_ GE214.out | refine below_set ?_ GE221.out) | exact HB.out)))
                  rintro e w60 ⟨rfl, hb⟩
                  refine ⟨_, rfl, ?_⟩
                  have n0_ := Aside0.mk (Kd.R_below (by (with_reducible repeat (first | apply Kd.R_alloc | apply Kd.R_drewN | apply Kd.R_drew)); exact HO_9.out) hb)
                  have n1_ := Aside0.mk (blk_below (g := gb214) (o := .cells #[.int .i64 a1_0, .int .i64 a1_1] 23 (0, 0)) (by (with_reducible repeat (first | refine blk_drewN ?_ _ | refine blk_drew ?_ | refine blk_alloc ?_ _)); exact BK214.out) hb)
                  have n2_ := Aside0.mk (blk_below (g := gb221) (o := .cells #[.int .i64 t218, .int .i64 t219] 23 (0, 0)) (by (with_reducible repeat (first | refine blk_drewN ?_ _ | refine blk_drew ?_ | refine blk_alloc ?_ _)); exact BK221.out) hb)
                  have n3_ := Aside0.mk (below_step (by repeat (first | (with_reducible first | exact HB.out | apply below_alloc | apply pw_below_drewN | apply below_drew1 | refine below_set ?_ GE214.out | refine below_set ?_ GE221.out) | exact HB.out)) hb)
                  clear HO_9
                  clear BK214
                  clear BK221
                  clear HB
                  have HO_9 := n0_
                  have BK214 := n1_
                  have BK221 := n2_
                  have HB := n3_
                  clear n0_ n1_ n2_ n3_
                  (try clear hb)
                  (try clear hb2)
                  (try clear hk)
                  (try clear hi)
                  refine hK.out _ _ ⟨(blk_cell BK214.out 0).trans rfl, (blk_cell BK214.out 1).trans rfl, (blk_cell BK221.out 0).trans rfl, (blk_cell BK221.out 1).trans rfl⟩ (fun hHeld => ?_)
                  clear hK K
                  refine norm_ (a' := ?_) ?_ ?_
                  rotate_left
                  · show Act.put _ (some 71) _ = _
                    simp only [Act.put, List.setIfInBounds_toArray, List.set_cons_zero, List.set_cons_succ, i64_w, i32_w]
                    rfl
                  refine one_ (i := 9) (N := some 73) #[true, true, true, true, true, true, true, true, true, true, false, false, false, false, false, false] rfl rfl (one_of HT_.out (by kernel_rfl)) (by decide) (fun K hK => ?_)
                  refine goes_ Tryd.func16 (by kernel_rfl) rfl #[.agg #[.int .i64 t218, .int .i64 t219]] (by rfl) rfl rfl (by (try simp only [List.map_toArray, List.map_cons, List.map_nil]); first | done | rfl | (simp only [List.length_drop, List.length_take]; rfl)) ?_
                  with_reducible refine (payrollref1_Format.calls k1 t218 t219 t243 _ A53.out).mono ?_
                  rintro e w61 ⟨rfl, hb⟩
                  refine ⟨_, rfl, ?_⟩
                  have n0_ := Aside0.mk (Kd.R_below (by (with_reducible repeat (first | apply Kd.R_alloc | apply Kd.R_drewN | apply Kd.R_drew)); exact HO_9.out) hb)
                  have n1_ := Aside0.mk (blk_below (g := gb214) (o := .cells #[.int .i64 a1_0, .int .i64 a1_1] 23 (0, 0)) (by (with_reducible repeat (first | refine blk_drewN ?_ _ | refine blk_drew ?_ | refine blk_alloc ?_ _)); exact BK214.out) hb)
                  have n2_ := Aside0.mk (blk_below (g := gb221) (o := .cells #[.int .i64 t218, .int .i64 t219] 23 (0, 0)) (by (with_reducible repeat (first | refine blk_drewN ?_ _ | refine blk_drew ?_ | refine blk_alloc ?_ _)); exact BK221.out) hb)
                  have n3_ := Aside0.mk (below_step (by repeat (first | (with_reducible first | exact HB.out | apply below_alloc | apply pw_below_drewN | apply below_drew1 | refine below_set ?_ GE214.out | refine below_set ?_ GE221.out) | exact HB.out)) hb)
                  clear HO_9
                  clear BK214
                  clear BK221
                  clear HB
                  have HO_9 := n0_
                  have BK214 := n1_
                  have BK221 := n2_
                  have HB := n3_
                  clear n0_ n1_ n2_ n3_
                  (try clear hb)
                  (try clear hb2)
                  (try clear hk)
                  (try clear hi)
                  refine hK.out _ _ ⟨(blk_cell BK214.out 0).trans rfl, (blk_cell BK214.out 1).trans rfl, (blk_cell BK221.out 0).trans rfl, (blk_cell BK221.out 1).trans rfl⟩ (fun hHeld => ?_)
                  clear hK K
                  refine norm_ (a' := ?_) ?_ ?_
                  rotate_left
                  · show Act.put _ (some 73) _ = _
                    simp only [Act.put, List.setIfInBounds_toArray, List.set_cons_zero, List.set_cons_succ, i64_w, i32_w]
                    rfl
                  refine pure_ (i := 10) (N := some 74) (v := ?_) (a' := ?_) #[true, true, true, true, true, true, true, true, true, true, true, false, false, false, false, false] rfl rfl (any_of HT_.out (by kernel_rfl)) (fun _ _ _ h => h) (Or.inl ⟨by rfl, ?_⟩) ?_ ?_
                  rotate_left
                  · intro w'
                    go_simp
                    with_reducible rfl
                  rotate_left
                  · simp only [Act.put, List.setIfInBounds_toArray, List.set_cons_zero, List.set_cons_succ, i64_w, i32_w]
                    rfl
                  refine pure_ (i := 11) (N := some 75) (v := ?_) (a' := ?_) #[true, true, true, true, true, true, true, true, true, true, true, true, false, false, false, false] rfl rfl (any_of HT_.out (by kernel_rfl)) (fun _ _ _ h => h) (Or.inl ⟨by rfl, ?_⟩) ?_ ?_
                  rotate_left
                  · intro w'
                    go_simp
                    with_reducible rfl
                  rotate_left
                  · simp only [Act.put, List.setIfInBounds_toArray, List.set_cons_zero, List.set_cons_succ, i64_w, i32_w]
                    rfl
                  refine pure_ (i := 12) (N := some 76) (v := ?_) (a' := ?_) #[true, true, true, true, true, true, true, true, true, true, true, true, true, false, false, false] rfl rfl (any_of HT_.out (by kernel_rfl)) (fun _ _ _ h => h) (Or.inl ⟨by rfl, ?_⟩) ?_ ?_
                  rotate_left
                  · intro w'
                    go_simp
                    with_reducible rfl
                  rotate_left
                  · simp only [Act.put, List.setIfInBounds_toArray, List.set_cons_zero, List.set_cons_succ, i64_w, i32_w]
                    rfl
                  refine one_ (i := 13) (N := some 77) #[true, true, true, true, true, true, true, true, true, true, true, true, true, true, false, false] rfl rfl (one_of HT_.out (by kernel_rfl)) (by decide) (fun K hK => ?_)
                  refine goes_ Tryd.func12 (by kernel_rfl) rfl #[] (by rfl) rfl rfl (by (try simp only [List.map_toArray, List.map_cons, List.map_nil]); first | done | rfl | (simp only [List.length_drop, List.length_take]; rfl)) ?_
                  with_reducible refine (payrolllaw1_sane.calls k1   _ ?side1 A55.out).mono ?_
                  (case side1 => exact Tabs.below HT.out (by repeat (first | (with_reducible first | exact HB.out | apply below_alloc | apply pw_below_drewN | apply below_drew1 | refine below_set ?_ GE214.out | refine below_set ?_ GE221.out) | exact HB.out)))
                  rintro e w62 ⟨rfl, hb⟩
                  refine ⟨_, rfl, ?_⟩
                  have n0_ := Aside0.mk (Kd.R_below (by (with_reducible repeat (first | apply Kd.R_alloc | apply Kd.R_drewN | apply Kd.R_drew)); exact HO_9.out) hb)
                  have n1_ := Aside0.mk (blk_below (g := gb214) (o := .cells #[.int .i64 a1_0, .int .i64 a1_1] 23 (0, 0)) (by (with_reducible repeat (first | refine blk_drewN ?_ _ | refine blk_drew ?_ | refine blk_alloc ?_ _)); exact BK214.out) hb)
                  have n2_ := Aside0.mk (blk_below (g := gb221) (o := .cells #[.int .i64 t218, .int .i64 t219] 23 (0, 0)) (by (with_reducible repeat (first | refine blk_drewN ?_ _ | refine blk_drew ?_ | refine blk_alloc ?_ _)); exact BK221.out) hb)
                  have n3_ := Aside0.mk (below_step (by repeat (first | (with_reducible first | exact HB.out | apply below_alloc | apply pw_below_drewN | apply below_drew1 | refine below_set ?_ GE214.out | refine below_set ?_ GE221.out) | exact HB.out)) hb)
                  clear HO_9
                  clear BK214
                  clear BK221
                  clear HB
                  have HO_9 := n0_
                  have BK214 := n1_
                  have BK221 := n2_
                  have HB := n3_
                  clear n0_ n1_ n2_ n3_
                  (try clear hb)
                  (try clear hb2)
                  (try clear hk)
                  (try clear hi)
                  refine hK.out _ _ ⟨(blk_cell BK214.out 0).trans rfl, (blk_cell BK214.out 1).trans rfl, (blk_cell BK221.out 0).trans rfl, (blk_cell BK221.out 1).trans rfl⟩ (fun hHeld => ?_)
                  clear hK K
                  refine norm_ (a' := ?_) ?_ ?_
                  rotate_left
                  · show Act.put _ (some 77) _ = _
                    simp only [Act.put, List.setIfInBounds_toArray, List.set_cons_zero, List.set_cons_succ, i64_w, i32_w]
                    rfl
                  refine pure_ (i := 14) (N := some 78) (v := ?_) (a' := ?_) #[true, true, true, true, true, true, true, true, true, true, true, true, true, true, true, false] rfl rfl (any_of HT_.out (by kernel_rfl)) (fun _ _ _ h => h) (Or.inl ⟨by rfl, ?_⟩) ?_ ?_
                  rotate_left
                  · intro w'
                    go_simp
                    with_reducible rfl
                  rotate_left
                  · simp only [Act.put, List.setIfInBounds_toArray, List.set_cons_zero, List.set_cons_succ, i64_w, i32_w]
                    rfl
                  refine pure_ (i := 15) (N := some 6) (v := ?_) (a' := ?_) #[true, true, true, true, true, true, true, true, true, true, true, true, true, true, true, true] rfl rfl (any_of HT_.out (by kernel_rfl)) (fun _ _ _ h => h) (Or.inl ⟨by rfl, ?_⟩) ?_ ?_
                  rotate_left
                  · intro w'
                    go_simp
                    with_reducible rfl
                  rotate_left
                  · simp only [Act.put, List.setIfInBounds_toArray, List.set_cons_zero, List.set_cons_succ, i64_w, i32_w]
                    rfl
                  refine done_ (done_of HT_.out (by kernel_rfl)) ?_
                  try go_wp2
                  go_ret
                  exact ⟨by first | rfl | (rw [HY.out] <;> rfl) | (simp [errW_none, errW_some] <;> rfl) | (simp [*, errW_none, errW_some] <;> rfl), by repeat (first | (with_reducible first | exact HB.out | apply below_alloc | apply pw_below_drewN | apply below_drew1 | refine below_set ?_ GE214.out | refine below_set ?_ GE221.out) | exact HB.out)⟩
                · rw [if_neg c54] at H
                  have c54b0 : (t242.toList == t243.toList) = false := beq_eq_false_iff_ne.mpr c54
                  have c54b1 : (t242.toList != t243.toList) = true := bne_iff_ne.mpr c54
                  exact absurd H (by simp)
              · rw [if_neg c51] at H
                have c51b0 : (t240.toList == t241.toList) = false := beq_eq_false_iff_ne.mpr c51
                have c51b1 : (t240.toList != t241.toList) = true := bne_iff_ne.mpr c51
                exact absurd H (by simp)
      · rw [if_neg c13] at H
        exact absurd H (by simp)
    · rw [if_neg c11] at H
      exact absurd H (by simp)
  · rw [if_neg c9] at H
    exact absurd H (by simp)
end Go.Proofs.YtighihhaljofdaaDoor.P
