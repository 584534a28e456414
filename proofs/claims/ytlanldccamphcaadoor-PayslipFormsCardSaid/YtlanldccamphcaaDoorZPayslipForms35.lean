/- Texts for the law PayslipForms (kept out of a larger one). -/
import Derived.Test.YtlanldccamphcaaDoorZPayslipForms11
import Derived.Test.YtlanldccamphcaaDoorZPayslipForms33
import Derived.Test.YtlanldccamphcaaDoorZPayslipForms34
import Derived.Test.YtlanldccamphcaaDoorZPayslipForms18
-- Written by a program of this session (wip/tools/xprint.py) out of the translation; Lean checks it.
namespace Go.Proofs.YtlanldccamphcaaDoor.P
open Go.RowKit Go.Proofs.YtlanldccamphcaaDoorW.PrintWords Go.Proofs.YtlanldccamphcaaDoorW.PrintLast Go.Proofs.YtlanldccamphcaaDoorW.PrintMore
attribute [local go_sem] max2_int min2_int max_two min_two max_three min_three max_four min_four   -- for this text's walks alone
set_option linter.unusedVariables false
set_option linter.unusedSimpArgs false
def payrolllaw34_PayslipForms.f (k : Nat) (a0_0 : Int) (a0_1 : ByteArray) (a0_2 : Int) (l1 : List Int) (a2 : Int) : Option (Bool) := if (a0_1.size : Int) > 60 then ((payrolllaw34_awake.f k).bind fun t171 => (some t171)) else ((paygen_New.f l1).bind fun bt172 => ((paygen_Deck_Line.f k bt172.1 bt172.2).bind fun bt175 => ((paygen_Mod.f a2 13).bind fun t182 => ((paygen_Deck_Pick.f k bt172.1 bt175.2.2.2 (([0, 1000000000000, 1000000000001, (-1000000000000), (-1000000000001)] : List Int))).bind fun bt186 => ((payslip_Form.f k a0_0 a0_1 a0_2).bind fun t188 => ((payrollref34_Form.f k a0_0 a0_1 a0_2).bind fun t189 => (if (t188 == t189) = true then ((payslip_Form.f k bt175.1 bt175.2.1 bt175.2.2.1).bind fun t190 => (if t190 = true then ((payslip_Form.f k (wrap64 (t182 - 1)) bt175.2.1 bt175.2.2.1).bind fun t191 => ((payrollref34_Form.f k (wrap64 (t182 - 1)) bt175.2.1 bt175.2.2.1).bind fun t192 => (if (t191 == t192) = true then ((payslip_Form.f k bt175.1 bt175.2.1 bt186.1).bind fun t193 => ((payrollref34_Form.f k bt175.1 bt175.2.1 bt186.1).bind fun t194 => (if (t193 == t194) = true then ((payrolllaw34_awake.f k).bind fun t195 => (some t195)) else (some false)))) else (some false)))) else (some false))) else (some false))))))))
def payrolllaw34_PayslipForms.T8 : Bool × List (List Nat × List Nat) := (true, [([], []), ([0], [0]), ([], []), ([2, 1], [2]), ([1, 3], [1, 3]), ([4, 3], [4]), ([5], [5]), ([6, 5, 5], [5, 6]), ([5, 7], [5, 7]), ([8, 7], [8]), ([9], [9]), ([10, 9, 9], [9, 10]), ([9], [9]), ([12, 11, 9], [9, 12]), ([11, 13, 9], [9, 11, 13]), ([9, 14], [9, 14]), ([15, 13], [15]), ([16], [16]), ([17, 16, 16], [16, 17]), ([16], [16]), ([19, 18, 16], [16, 19]), ([18, 20, 16], [16, 18, 20]), ([16, 21], [16, 21]), ([22, 20], [22]), ([23, 23], [23]), ([23, 24], [23, 24]), ([25, 24, 0, 1, 2, 3, 4, 5, 6, 7, 8, 9, 10, 11, 12, 13, 14, 15, 16, 17, 18, 19, 20, 21, 22, 23, 24, 25], [25])])
def payrolllaw34_PayslipForms.B8 : List Nat := [0, 1, 0, 7, 15, 31, 63, 127, 255, 511, 1023, 2047, 1023, 8191, 16383, 32767, 65535, 131071, 262143, 131071, 1048575, 2097151, 4194303, 8388607, 16777215, 33554431, 67108863]
theorem payrolllaw34_PayslipForms.tab8 : rtab .any (opsOf Tryd.f3 8) = payrolllaw34_PayslipForms.T8 := by kernel_rfl
theorem payrolllaw34_PayslipForms.bits8 : waitsOk payrolllaw34_PayslipForms.T8.2 payrolllaw34_PayslipForms.B8 = true := by kernel_rfl
set_option maxHeartbeats 8000000 in
set_option maxRecDepth 100000 in
theorem payrolllaw34_PayslipForms.calls (k : Nat) (a0_0 : Int) (a0_1 : ByteArray) (a0_2 : Int) (A1 : Option Addr) (c1 : Nat) (l1 : List Int) (a2 : Int) (w : World) (hr1 : Kd.C (Kd.int .i64) w A1 l1.length l1) (hc1 : l1.length ≤ c1) (hT : Tabs w) (h : payrolllaw34_PayslipForms.f k a0_0 a0_1 a0_2 l1 a2 = some true) :
    Calls Tryd.prog 3 #[.agg #[.int .i64 a0_0, .string a0_1, .int .i64 a0_2], .slice A1 l1.length c1, .int .i64 a2] w fun e w' => e = .returned (.bool true) ∧ Below w.heap.size w w' := by
  have hu23 := Tryd.underlying23
  have HR1 := Aside0.mk hr1
  have HC1 := Aside0.mk hc1
  clear hr1 hc1
  have HB := Aside0.mk (Below.refl w.heap.size w)
  have HT := Aside0.mk hT
  clear hT
  have H : (if (a0_1.size : Int) > 60 then ((payrolllaw34_awake.f k).bind fun t171 => (some t171)) else ((paygen_New.f l1).bind fun bt172 => ((paygen_Deck_Line.f k bt172.1 bt172.2).bind fun bt175 => ((paygen_Mod.f a2 13).bind fun t182 => ((paygen_Deck_Pick.f k bt172.1 bt175.2.2.2 (([0, 1000000000000, 1000000000001, (-1000000000000), (-1000000000001)] : List Int))).bind fun bt186 => ((payslip_Form.f k a0_0 a0_1 a0_2).bind fun t188 => ((payrollref34_Form.f k a0_0 a0_1 a0_2).bind fun t189 => (if (t188 == t189) = true then ((payslip_Form.f k bt175.1 bt175.2.1 bt175.2.2.1).bind fun t190 => (if t190 = true then ((payslip_Form.f k (wrap64 (t182 - 1)) bt175.2.1 bt175.2.2.1).bind fun t191 => ((payrollref34_Form.f k (wrap64 (t182 - 1)) bt175.2.1 bt175.2.2.1).bind fun t192 => (if (t191 == t192) = true then ((payslip_Form.f k bt175.1 bt175.2.1 bt186.1).bind fun t193 => ((payrollref34_Form.f k bt175.1 bt175.2.1 bt186.1).bind fun t194 => (if (t193 == t194) = true then ((payrolllaw34_awake.f k).bind fun t195 => (some t195)) else (some false)))) else (some false)))) else (some false))) else (some false))))))))) = some true := h
  clear h
  by_cases c4 : (a0_1.size : Int) > 60
  · rw [if_pos c4] at H
    have c4b0 : decide (60 < (a0_1.size : Int)) = true := decide_eq_true c4
    have c4b1 : decide (60 < a0_1.size) = true := decide_eq_true (by omega)
    clear c4
    replace H := Option.bind_eq_some_iff.mp H
    obtain ⟨t171, A50, H⟩ := H
    replace H : (some t171) = some true := H
    have A5 := Aside0.mk A50
    clear A50
    obtain rfl := Option.some.inj H
    go_enter Tryd.func3, Tryd.ntmps3
    go_wp2_with (first | ((with_reducible refine gate_dst (N := 3) rfl ?_); refine box_event ?hg (N := 3) ?hd (cs := #[.int .i64 a0_0, .string a0_1, .int .i64 a0_2]) (t := 23) ?hr ?_; (case hd => rfl); (case hg => rfl); (case hr => first | (go_simp; done) | (go_simp; rfl)); intro gb170 hg w6 hbox hb; have n0_ := Aside0.mk (below_step (by repeat (first | (with_reducible first | exact HB.out | apply below_alloc | apply pw_below_drewN | apply below_drew1) | exact HB.out)) hb); have n1_ := Aside0.mk (hbox); have n2_ := Aside0.mk ((by rw [hg]; exact (below_size (by repeat (first | (with_reducible first | exact HB.out | apply below_alloc | apply pw_below_drewN | apply below_drew1) | exact HB.out))) : w.heap.size ≤ gb170)); have n3_ := Aside0.mk ((by rw [hg]; exact (below_size (by repeat (first | (with_reducible first | exact HB.out | apply below_alloc | apply pw_below_drewN | apply below_drew1) | exact HB.out))) : w.heap.size ≤ gb170)); clear HB; have HB := n0_; have BK170 := n1_; have GW170 := n2_; have GE170 := n3_; clear n0_ n1_ n2_ n3_; clear hb hbox hg; have hcz7_0 : w6.cell? ⟨gb170, 0, none⟩ = some (.int .i64 a0_0) := (blk_cell BK170.out 0).trans rfl; have hcz7_1 : w6.cell? ⟨gb170, 1, none⟩ = some (.string a0_1) := (blk_cell BK170.out 1).trans rfl; have hcz7_2 : w6.cell? ⟨gb170, 2, none⟩ = some (.int .i64 a0_2) := (blk_cell BK170.out 2).trans rfl; have hfz7_0 := blk_frozen BK170.out 0; have hfz7_1 := blk_frozen BK170.out 1; have hfz7_2 := blk_frozen BK170.out 2) | ((with_reducible refine gate_callee (f := 8) rfl ?_); refine goesL_ (some 15) rfl rfl Tryd.func8 (by kernel_rfl) rfl #[] rfl (by (try simp only [List.map_toArray, List.map_cons, List.map_nil]); first | done | rfl | (simp only [List.length_drop, List.length_take]; rfl)) ?_; (with_reducible refine (payrolllaw34_awake.calls k   _ ?side1 A5.out).mono ?_); (case side1 => exact Tabs.below HT.out (by repeat (first | (with_reducible first | exact HB.out | apply below_alloc | apply pw_below_drewN | apply below_drew1 | refine below_set ?_ GE170.out) | exact HB.out))); rintro e w8 ⟨rfl, hb⟩; refine ⟨_, rfl, ?_⟩; have n0_ := Aside0.mk (blk_below (g := gb170) (o := .cells #[.int .i64 a0_0, .string a0_1, .int .i64 a0_2] 23 (0, 0)) (by (with_reducible repeat (first | refine blk_drewN ?_ _ | refine blk_drew ?_ | refine blk_alloc ?_ _)); exact BK170.out) hb); have n1_ := Aside0.mk (below_step (by repeat (first | (with_reducible first | exact HB.out | apply below_alloc | apply pw_below_drewN | apply below_drew1 | refine below_set ?_ GE170.out) | exact HB.out)) hb); clear BK170; clear HB; have BK170 := n0_; have HB := n1_; clear n0_ n1_; (try clear hb); (try clear hb2); (try clear hk); (try clear hi)))
    go_ret
    exact ⟨by first | rfl | (rw [HY.out] <;> rfl) | (simp [errW_none, errW_some] <;> rfl) | (simp [*, errW_none, errW_some] <;> rfl), by repeat (first | (with_reducible first | exact HB.out | apply below_alloc | apply pw_below_drewN | apply below_drew1 | refine below_set ?_ GE170.out) | exact HB.out)⟩
  · rw [if_neg c4] at H
    have c4b0 : decide (60 < (a0_1.size : Int)) = false := decide_eq_false c4
    have c4b1 : decide (60 < a0_1.size) = false := decide_eq_false (by omega)
    clear c4
    replace H := Option.bind_eq_some_iff.mp H
    obtain ⟨⟨t172, t173⟩, A90, H⟩ := H
    replace H : ((paygen_Deck_Line.f k t172 t173).bind fun bt175 => ((paygen_Mod.f a2 13).bind fun t182 => ((paygen_Deck_Pick.f k t172 bt175.2.2.2 (([0, 1000000000000, 1000000000001, (-1000000000000), (-1000000000001)] : List Int))).bind fun bt186 => ((payslip_Form.f k a0_0 a0_1 a0_2).bind fun t188 => ((payrollref34_Form.f k a0_0 a0_1 a0_2).bind fun t189 => (if (t188 == t189) = true then ((payslip_Form.f k bt175.1 bt175.2.1 bt175.2.2.1).bind fun t190 => (if t190 = true then ((payslip_Form.f k (wrap64 (t182 - 1)) bt175.2.1 bt175.2.2.1).bind fun t191 => ((payrollref34_Form.f k (wrap64 (t182 - 1)) bt175.2.1 bt175.2.2.1).bind fun t192 => (if (t191 == t192) = true then ((payslip_Form.f k bt175.1 bt175.2.1 bt186.1).bind fun t193 => ((payrollref34_Form.f k bt175.1 bt175.2.1 bt186.1).bind fun t194 => (if (t193 == t194) = true then ((payrolllaw34_awake.f k).bind fun t195 => (some t195)) else (some false)))) else (some false)))) else (some false))) else (some false))))))) = some true := H
    have A9 := Aside0.mk A90
    clear A90
    replace H := Option.bind_eq_some_iff.mp H
    obtain ⟨⟨t175, t176, t177, t178⟩, A100, H⟩ := H
    replace H : ((paygen_Mod.f a2 13).bind fun t182 => ((paygen_Deck_Pick.f k t172 t178 (([0, 1000000000000, 1000000000001, (-1000000000000), (-1000000000001)] : List Int))).bind fun bt186 => ((payslip_Form.f k a0_0 a0_1 a0_2).bind fun t188 => ((payrollref34_Form.f k a0_0 a0_1 a0_2).bind fun t189 => (if (t188 == t189) = true then ((payslip_Form.f k t175 t176 t177).bind fun t190 => (if t190 = true then ((payslip_Form.f k (wrap64 (t182 - 1)) t176 t177).bind fun t191 => ((payrollref34_Form.f k (wrap64 (t182 - 1)) t176 t177).bind fun t192 => (if (t191 == t192) = true then ((payslip_Form.f k t175 t176 bt186.1).bind fun t193 => ((payrollref34_Form.f k t175 t176 bt186.1).bind fun t194 => (if (t193 == t194) = true then ((payrolllaw34_awake.f k).bind fun t195 => (some t195)) else (some false)))) else (some false)))) else (some false))) else (some false)))))) = some true := H
    have A10 := Aside0.mk A100
    clear A100
    replace H := Option.bind_eq_some_iff.mp H
    obtain ⟨t182, A110, H⟩ := H
    replace H : ((paygen_Deck_Pick.f k t172 t178 (([0, 1000000000000, 1000000000001, (-1000000000000), (-1000000000001)] : List Int))).bind fun bt186 => ((payslip_Form.f k a0_0 a0_1 a0_2).bind fun t188 => ((payrollref34_Form.f k a0_0 a0_1 a0_2).bind fun t189 => (if (t188 == t189) = true then ((payslip_Form.f k t175 t176 t177).bind fun t190 => (if t190 = true then ((payslip_Form.f k (wrap64 (t182 - 1)) t176 t177).bind fun t191 => ((payrollref34_Form.f k (wrap64 (t182 - 1)) t176 t177).bind fun t192 => (if (t191 == t192) = true then ((payslip_Form.f k t175 t176 bt186.1).bind fun t193 => ((payrollref34_Form.f k t175 t176 bt186.1).bind fun t194 => (if (t193 == t194) = true then ((payrolllaw34_awake.f k).bind fun t195 => (some t195)) else (some false)))) else (some false)))) else (some false))) else (some false))))) = some true := H
    have A11 := Aside0.mk A110
    clear A110
    obtain ⟨y183, hy183⟩ : ∃ y_ : List Int, y_ = (([0, 1000000000000, 1000000000001, (-1000000000000), (-1000000000001)] : List Int)) := ⟨_, rfl⟩
    replace H : ((paygen_Deck_Pick.f k t172 t178 y183).bind fun bt186 => ((payslip_Form.f k a0_0 a0_1 a0_2).bind fun t188 => ((payrollref34_Form.f k a0_0 a0_1 a0_2).bind fun t189 => (if (t188 == t189) = true then ((payslip_Form.f k t175 t176 t177).bind fun t190 => (if t190 = true then ((payslip_Form.f k (wrap64 (t182 - 1)) t176 t177).bind fun t191 => ((payrollref34_Form.f k (wrap64 (t182 - 1)) t176 t177).bind fun t192 => (if (t191 == t192) = true then ((payslip_Form.f k t175 t176 bt186.1).bind fun t193 => ((payrollref34_Form.f k t175 t176 bt186.1).bind fun t194 => (if (t193 == t194) = true then ((payrolllaw34_awake.f k).bind fun t195 => (some t195)) else (some false)))) else (some false)))) else (some false))) else (some false))))) = some true := by first | (rw [hy183]; with_reducible exact H) | (have H2_ := (Option.bind_some _ _).symm.trans H; rw [hy183]; with_reducible exact H2_) | (have H2_ := (Option.bind_some _ _).symm.trans H; with_reducible exact H2_) | with_reducible exact H | (rw [hy183]; exact H) | exact H
    have Ny183 := Aside0.mk hy183
    clear hy183
    replace H := Option.bind_eq_some_iff.mp H
    obtain ⟨⟨t186, t187⟩, A120, H⟩ := H
    replace H : ((payslip_Form.f k a0_0 a0_1 a0_2).bind fun t188 => ((payrollref34_Form.f k a0_0 a0_1 a0_2).bind fun t189 => (if (t188 == t189) = true then ((payslip_Form.f k t175 t176 t177).bind fun t190 => (if t190 = true then ((payslip_Form.f k (wrap64 (t182 - 1)) t176 t177).bind fun t191 => ((payrollref34_Form.f k (wrap64 (t182 - 1)) t176 t177).bind fun t192 => (if (t191 == t192) = true then ((payslip_Form.f k t175 t176 t186).bind fun t193 => ((payrollref34_Form.f k t175 t176 t186).bind fun t194 => (if (t193 == t194) = true then ((payrolllaw34_awake.f k).bind fun t195 => (some t195)) else (some false)))) else (some false)))) else (some false))) else (some false)))) = some true := H
    have A12 := Aside0.mk A120
    clear A120
    replace H := Option.bind_eq_some_iff.mp H
    obtain ⟨t188, A130, H⟩ := H
    replace H : ((payrollref34_Form.f k a0_0 a0_1 a0_2).bind fun t189 => (if (t188 == t189) = true then ((payslip_Form.f k t175 t176 t177).bind fun t190 => (if t190 = true then ((payslip_Form.f k (wrap64 (t182 - 1)) t176 t177).bind fun t191 => ((payrollref34_Form.f k (wrap64 (t182 - 1)) t176 t177).bind fun t192 => (if (t191 == t192) = true then ((payslip_Form.f k t175 t176 t186).bind fun t193 => ((payrollref34_Form.f k t175 t176 t186).bind fun t194 => (if (t193 == t194) = true then ((payrolllaw34_awake.f k).bind fun t195 => (some t195)) else (some false)))) else (some false)))) else (some false))) else (some false))) = some true := H
    have A13 := Aside0.mk A130
    clear A130
    replace H := Option.bind_eq_some_iff.mp H
    obtain ⟨t189, A140, H⟩ := H
    replace H : (if (t188 == t189) = true then ((payslip_Form.f k t175 t176 t177).bind fun t190 => (if t190 = true then ((payslip_Form.f k (wrap64 (t182 - 1)) t176 t177).bind fun t191 => ((payrollref34_Form.f k (wrap64 (t182 - 1)) t176 t177).bind fun t192 => (if (t191 == t192) = true then ((payslip_Form.f k t175 t176 t186).bind fun t193 => ((payrollref34_Form.f k t175 t176 t186).bind fun t194 => (if (t193 == t194) = true then ((payrolllaw34_awake.f k).bind fun t195 => (some t195)) else (some false)))) else (some false)))) else (some false))) else (some false)) = some true := H
    have A14 := Aside0.mk A140
    clear A140
    by_cases c15 : (t188 == t189) = true
    · rw [if_pos c15] at H
      have c15b0 : (t188 == t189) = true := c15
      (try (have c15b1 : decide (t188 = t189) = true := by simpa using c15))
      (try (have c15b2 : (t188 == t189) = true := by simpa using c15))
      clear c15
      replace H := Option.bind_eq_some_iff.mp H
      obtain ⟨t190, A160, H⟩ := H
      replace H : (if t190 = true then ((payslip_Form.f k (wrap64 (t182 - 1)) t176 t177).bind fun t191 => ((payrollref34_Form.f k (wrap64 (t182 - 1)) t176 t177).bind fun t192 => (if (t191 == t192) = true then ((payslip_Form.f k t175 t176 t186).bind fun t193 => ((payrollref34_Form.f k t175 t176 t186).bind fun t194 => (if (t193 == t194) = true then ((payrolllaw34_awake.f k).bind fun t195 => (some t195)) else (some false)))) else (some false)))) else (some false)) = some true := H
      have A16 := Aside0.mk A160
      clear A160
      by_cases c17 : t190 = true
      · subst c17
        have H1 : ((payslip_Form.f k (wrap64 (t182 - 1)) t176 t177).bind fun t191 => ((payrollref34_Form.f k (wrap64 (t182 - 1)) t176 t177).bind fun t192 => (if (t191 == t192) = true then ((payslip_Form.f k t175 t176 t186).bind fun t193 => ((payrollref34_Form.f k t175 t176 t186).bind fun t194 => (if (t193 == t194) = true then ((payrolllaw34_awake.f k).bind fun t195 => (some t195)) else (some false)))) else (some false)))) = some true := by rw [if_pos rfl] at H; exact H
        clear H
        have H := H1
        clear H1
        replace H := Option.bind_eq_some_iff.mp H
        obtain ⟨t191, A180, H⟩ := H
        replace H : ((payrollref34_Form.f k (wrap64 (t182 - 1)) t176 t177).bind fun t192 => (if (t191 == t192) = true then ((payslip_Form.f k t175 t176 t186).bind fun t193 => ((payrollref34_Form.f k t175 t176 t186).bind fun t194 => (if (t193 == t194) = true then ((payrolllaw34_awake.f k).bind fun t195 => (some t195)) else (some false)))) else (some false))) = some true := H
        have A18 := Aside0.mk A180
        clear A180
        replace H := Option.bind_eq_some_iff.mp H
        obtain ⟨t192, A190, H⟩ := H
        replace H : (if (t191 == t192) = true then ((payslip_Form.f k t175 t176 t186).bind fun t193 => ((payrollref34_Form.f k t175 t176 t186).bind fun t194 => (if (t193 == t194) = true then ((payrolllaw34_awake.f k).bind fun t195 => (some t195)) else (some false)))) else (some false)) = some true := H
        have A19 := Aside0.mk A190
        clear A190
        by_cases c20 : (t191 == t192) = true
        · rw [if_pos c20] at H
          have c20b0 : (t191 == t192) = true := c20
          (try (have c20b1 : decide (t191 = t192) = true := by simpa using c20))
          (try (have c20b2 : (t191 == t192) = true := by simpa using c20))
          clear c20
          replace H := Option.bind_eq_some_iff.mp H
          obtain ⟨t193, A210, H⟩ := H
          replace H : ((payrollref34_Form.f k t175 t176 t186).bind fun t194 => (if (t193 == t194) = true then ((payrolllaw34_awake.f k).bind fun t195 => (some t195)) else (some false))) = some true := H
          have A21 := Aside0.mk A210
          clear A210
          replace H := Option.bind_eq_some_iff.mp H
          obtain ⟨t194, A220, H⟩ := H
          replace H : (if (t193 == t194) = true then ((payrolllaw34_awake.f k).bind fun t195 => (some t195)) else (some false)) = some true := H
          have A22 := Aside0.mk A220
          clear A220
          by_cases c23 : (t193 == t194) = true
          · rw [if_pos c23] at H
            have c23b0 : (t193 == t194) = true := c23
            (try (have c23b1 : decide (t193 = t194) = true := by simpa using c23))
            (try (have c23b2 : (t193 == t194) = true := by simpa using c23))
            clear c23
            replace H := Option.bind_eq_some_iff.mp H
            obtain ⟨t195, A240, H⟩ := H
            replace H : (some t195) = some true := H
            have A24 := Aside0.mk A240
            clear A240
            obtain rfl := Option.some.inj H
            go_enter Tryd.func3, Tryd.ntmps3
            try go_wp2_with (first | ((with_reducible refine gate_dst (N := 3) rfl ?_); refine box_event ?hg (N := 3) ?hd (cs := #[.int .i64 a0_0, .string a0_1, .int .i64 a0_2]) (t := 23) ?hr ?_; (case hd => rfl); (case hg => rfl); (case hr => first | (go_simp; done) | (go_simp; rfl)); intro gb170 hg w25 hbox hb; have n0_ := Aside0.mk (below_step (by repeat (first | (with_reducible first | exact HB.out | apply below_alloc | apply pw_below_drewN | apply below_drew1) | exact HB.out)) hb); have n1_ := Aside0.mk (hbox); have n2_ := Aside0.mk ((by rw [hg]; exact (below_size (by repeat (first | (with_reducible first | exact HB.out | apply below_alloc | apply pw_below_drewN | apply below_drew1) | exact HB.out))) : w.heap.size ≤ gb170)); have n3_ := Aside0.mk ((by rw [hg]; exact (below_size (by repeat (first | (with_reducible first | exact HB.out | apply below_alloc | apply pw_below_drewN | apply below_drew1) | exact HB.out))) : w.heap.size ≤ gb170)); clear HB; have HB := n0_; have BK170 := n1_; have GW170 := n2_; have GE170 := n3_; clear n0_ n1_ n2_ n3_; clear hb hbox hg; have hcz26_0 : w25.cell? ⟨gb170, 0, none⟩ = some (.int .i64 a0_0) := (blk_cell BK170.out 0).trans rfl; have hcz26_1 : w25.cell? ⟨gb170, 1, none⟩ = some (.string a0_1) := (blk_cell BK170.out 1).trans rfl; have hcz26_2 : w25.cell? ⟨gb170, 2, none⟩ = some (.int .i64 a0_2) := (blk_cell BK170.out 2).trans rfl; have hfz26_0 := blk_frozen BK170.out 0; have hfz26_1 := blk_frozen BK170.out 1; have hfz26_2 := blk_frozen BK170.out 2) | ((with_reducible refine gate_callee (f := 9) rfl ?_); refine goesL_ (some 17) rfl rfl Tryd.func9 (by kernel_rfl) rfl #[.slice A1 l1.length c1] rfl (by (try simp only [List.map_toArray, List.map_cons, List.map_nil]); first | done | rfl | (simp only [List.length_drop, List.length_take]; rfl)) ?_; (with_reducible refine (paygen_New.calls _ _ l1 t172 t173 w _ ?side1 ?side2 ?side3 A9.out).mono ?_); (case side1 => repeat (first | (with_reducible first | exact HB.out | apply below_alloc | apply pw_below_drewN | apply below_drew1 | refine below_set ?_ GE170.out) | exact HB.out)); (case side2 => exact HR1.out); (case side3 => exact HC1.out); rintro e w27 ⟨g174, rfl, hi, hb, hb2⟩; refine ⟨_, rfl, ?_⟩; have n0_ := Aside0.mk (blk_below (g := gb170) (o := .cells #[.int .i64 a0_0, .string a0_1, .int .i64 a0_2] 23 (0, 0)) (by (with_reducible repeat (first | refine blk_drewN ?_ _ | refine blk_drew ?_ | refine blk_alloc ?_ _)); exact BK170.out) hb2); have n1_ := Aside0.mk (hb); have n2_ := Aside0.mk (hi); have n3_ := Aside0.mk (IsS52.ne_blk hi (blk_below (g := gb170) (o := .cells #[.int .i64 a0_0, .string a0_1, .int .i64 a0_2] 23 (0, 0)) (by (with_reducible repeat (first | refine blk_drewN ?_ _ | refine blk_drew ?_ | refine blk_alloc ?_ _)); exact BK170.out) hb2) (by decide)); have n4_ := Aside0.mk (Ne.symm (IsS52.ne_blk hi (blk_below (g := gb170) (o := .cells #[.int .i64 a0_0, .string a0_1, .int .i64 a0_2] 23 (0, 0)) (by (with_reducible repeat (first | refine blk_drewN ?_ _ | refine blk_drew ?_ | refine blk_alloc ?_ _)); exact BK170.out) hb2) (by decide))); clear BK170; clear HB; have BK170 := n0_; have HB := n1_; have HI174 := n2_; have NB174_170 := n3_; have NB170_174 := n4_; clear n0_ n1_ n2_ n3_ n4_; (try clear hb); (try clear hb2); (try clear hk); (try clear hi)) | ((with_reducible refine gate_callee (f := 10) rfl ?_); refine goesL_ (some 19) rfl rfl Tryd.func10 (by kernel_rfl) rfl #[.pointer (some ⟨g174, 0, none⟩)] rfl (by (try simp only [List.map_toArray, List.map_cons, List.map_nil]); first | done | rfl | (simp only [List.length_drop, List.length_take]; rfl)) ?_; (with_reducible refine (paygen_Deck_Line.calls k g174 t172 t173 t175 t176 t177 t178 w _ ?side1 ?side2 A10.out).mono ?_); (case side1 => repeat (first | (with_reducible first | exact HI174.out | apply IsS52.alloc | apply IsS52.drewN | apply IsS52.drew | apply IsS52.set_1 | refine IsS52.far ?_ NB174_170.out _) | exact HI174.out)); (case side2 => repeat (first | (with_reducible first | exact HB.out | apply below_alloc | apply pw_below_drewN | apply below_drew1 | refine below_set ?_ (IsS52.ge HI174.out) | refine below_set ?_ GE170.out) | exact HB.out)); rintro e w28 ⟨rfl, hi, hb, hk⟩; refine ⟨_, rfl, ?_⟩; have n0_ := Aside0.mk (KeepBut.blk hk (g' := gb170) (o := .cells #[.int .i64 a0_0, .string a0_1, .int .i64 a0_2] 23 (0, 0)) (by (with_reducible repeat (first | refine blk_drewN ?_ _ | refine blk_drew ?_ | refine blk_alloc ?_ _)); exact BK170.out) NB170_174.out (by simp)); have n1_ := Aside0.mk (hb); have n2_ := Aside0.mk (hi); clear BK170; clear HB; clear HI174; have BK170 := n0_; have HB := n1_; have HI174 := n2_; clear n0_ n1_ n2_; (try clear hb); (try clear hb2); (try clear hk); (try clear hi)) | ((with_reducible refine gate_dst (N := 8) rfl ?_); refine box_event ?hg (N := 8) ?hd (cs := #[.int .i64 0, .string (⟨#[]⟩ : ByteArray), .int .i64 0]) (t := 23) ?hr ?_; (case hd => rfl); (case hg => rfl); (case hr => first | (go_simp; done) | (go_simp; rfl)); intro gb179 hg w29 hbox hb; have n0_ := Aside0.mk (blk_below (g := gb170) (o := .cells #[.int .i64 a0_0, .string a0_1, .int .i64 a0_2] 23 (0, 0)) (by (with_reducible repeat (first | refine blk_drewN ?_ _ | refine blk_drew ?_ | refine blk_alloc ?_ _)); exact BK170.out) hb); have n1_ := Aside0.mk (IsS52.below (by repeat (first | (with_reducible first | exact HI174.out | apply IsS52.alloc | apply IsS52.drewN | apply IsS52.drew | apply IsS52.set_1 | refine IsS52.far ?_ NB174_170.out _) | exact HI174.out)) hb); have n2_ := Aside0.mk (below_step (by repeat (first | (with_reducible first | exact HB.out | apply below_alloc | apply pw_below_drewN | apply below_drew1 | refine below_set ?_ (IsS52.ge HI174.out) | refine below_set ?_ GE170.out) | exact HB.out)) hb); have n3_ := Aside0.mk (hbox); have n4_ := Aside0.mk ((by rw [hg]; exact (below_size (by repeat (first | (with_reducible first | exact HB.out | apply below_alloc | apply pw_below_drewN | apply below_drew1 | refine below_set ?_ (IsS52.ge HI174.out) | refine below_set ?_ GE170.out) | exact HB.out))) : w.heap.size ≤ gb179)); have n5_ := Aside0.mk ((by rw [hg]; exact (below_size (by repeat (first | (with_reducible first | exact HB.out | apply below_alloc | apply pw_below_drewN | apply below_drew1 | refine below_set ?_ (IsS52.ge HI174.out) | refine below_set ?_ GE170.out) | exact HB.out))) : w.heap.size ≤ gb179)); have n6_ := Aside0.mk ((by rw [hg]; exact Nat.ne_of_lt (blk_lt (g := gb170) (o := .cells #[.int .i64 a0_0, .string a0_1, .int .i64 a0_2] 23 (0, 0)) (by (with_reducible repeat (first | refine blk_drewN ?_ _ | refine blk_drew ?_ | refine blk_alloc ?_ _)); exact BK170.out)) : gb170 ≠ gb179)); have n7_ := Aside0.mk ((by rw [hg]; exact Nat.ne_of_gt (blk_lt (g := gb170) (o := .cells #[.int .i64 a0_0, .string a0_1, .int .i64 a0_2] 23 (0, 0)) (by (with_reducible repeat (first | refine blk_drewN ?_ _ | refine blk_drew ?_ | refine blk_alloc ?_ _)); exact BK170.out)) : gb179 ≠ gb170)); have n8_ := Aside0.mk ((by rw [hg]; exact Nat.ne_of_lt (IsS52.lt (show IsS52 w _ g174 t172 t178 from by repeat (first | (with_reducible first | exact HI174.out | apply IsS52.alloc | apply IsS52.drewN | apply IsS52.drew | apply IsS52.set_1 | refine IsS52.far ?_ NB174_170.out _) | exact HI174.out))) : g174 ≠ gb179)); have n9_ := Aside0.mk ((by rw [hg]; exact Nat.ne_of_gt (IsS52.lt (show IsS52 w _ g174 t172 t178 from by repeat (first | (with_reducible first | exact HI174.out | apply IsS52.alloc | apply IsS52.drewN | apply IsS52.drew | apply IsS52.set_1 | refine IsS52.far ?_ NB174_170.out _) | exact HI174.out))) : gb179 ≠ g174)); clear BK170; clear HI174; clear HB; have BK170 := n0_; have HI174 := n1_; have HB := n2_; have BK179 := n3_; have GW179 := n4_; have GE179 := n5_; have NB170_179 := n6_; have NB179_170 := n7_; have NB174_179 := n8_; have NB179_174 := n9_; clear n0_ n1_ n2_ n3_ n4_ n5_ n6_ n7_ n8_ n9_; clear hb hbox hg; have hnb30 := NB179_170.out; have hnc30 := NB170_179.out; have hnb31 := NB179_174.out; have hnc31 := NB174_179.out; have hcz32_0 : w29.cell? ⟨gb179, 0, none⟩ = some (.int .i64 0) := (blk_cell BK179.out 0).trans rfl; have hcz32_1 : w29.cell? ⟨gb179, 1, none⟩ = some (.string (⟨#[]⟩ : ByteArray)) := (blk_cell BK179.out 1).trans rfl; have hcz32_2 : w29.cell? ⟨gb179, 2, none⟩ = some (.int .i64 0) := (blk_cell BK179.out 2).trans rfl; have hfz32_0 := blk_frozen BK179.out 0; have hfz32_1 := blk_frozen BK179.out 1; have hfz32_2 := blk_frozen BK179.out 2))
            have n0_ : Aside0 ((((w29.setCell ⟨gb179, 0, none⟩ (.int .i64 t175)).setCell ⟨gb179, 1, none⟩ (.string t176)).setCell ⟨gb179, 2, none⟩ (.int .i64 t177)).heap[gb170]? = some (.cells #[.int .i64 a0_0, .string a0_1, .int .i64 a0_2] 23 (0, 0))) := ⟨by (with_reducible repeat (first | refine blk_drewN ?_ _ | refine blk_drew ?_ | refine blk_alloc ?_ _)); refine blk_far ?_ NB170_179.out _; (with_reducible repeat (first | refine blk_drewN ?_ _ | refine blk_drew ?_ | refine blk_alloc ?_ _)); refine blk_far ?_ NB170_179.out _; (with_reducible repeat (first | refine blk_drewN ?_ _ | refine blk_drew ?_ | refine blk_alloc ?_ _)); refine blk_far ?_ NB170_179.out _; (with_reducible repeat (first | refine blk_drewN ?_ _ | refine blk_drew ?_ | refine blk_alloc ?_ _)); exact BK170.out⟩
            have n1_ : Aside0 ((((w29.setCell ⟨gb179, 0, none⟩ (.int .i64 t175)).setCell ⟨gb179, 1, none⟩ (.string t176)).setCell ⟨gb179, 2, none⟩ (.int .i64 t177)).heap[gb179]? = some (.cells #[.int .i64 t175, .string t176, .int .i64 t177] 23 (0, 0))) := ⟨by (with_reducible repeat (first | refine blk_drewN ?_ _ | refine blk_drew ?_ | refine blk_alloc ?_ _)); refine blk_put (cs := #[.int .i64 t175, .string t176, .int .i64 0]) ?_ 2 _ rfl; (with_reducible repeat (first | refine blk_drewN ?_ _ | refine blk_drew ?_ | refine blk_alloc ?_ _)); refine blk_put (cs := #[.int .i64 t175, .string (⟨#[]⟩ : ByteArray), .int .i64 0]) ?_ 1 _ rfl; (with_reducible repeat (first | refine blk_drewN ?_ _ | refine blk_drew ?_ | refine blk_alloc ?_ _)); refine blk_put (cs := #[.int .i64 0, .string (⟨#[]⟩ : ByteArray), .int .i64 0]) ?_ 0 _ rfl; (with_reducible repeat (first | refine blk_drewN ?_ _ | refine blk_drew ?_ | refine blk_alloc ?_ _)); exact BK179.out⟩
            have n2_ : Aside0 (IsS52 w (((w29.setCell ⟨gb179, 0, none⟩ (.int .i64 t175)).setCell ⟨gb179, 1, none⟩ (.string t176)).setCell ⟨gb179, 2, none⟩ (.int .i64 t177)) g174 t172 t178) := ⟨by repeat (first | (with_reducible first | exact HI174.out | apply IsS52.alloc | apply IsS52.drewN | apply IsS52.drew | apply IsS52.set_1 | refine IsS52.far ?_ NB174_170.out _ | refine IsS52.far ?_ NB174_179.out _) | exact HI174.out)⟩
            have n3_ : Aside0 (Below w.heap.size w (((w29.setCell ⟨gb179, 0, none⟩ (.int .i64 t175)).setCell ⟨gb179, 1, none⟩ (.string t176)).setCell ⟨gb179, 2, none⟩ (.int .i64 t177))) := ⟨by repeat (first | (with_reducible first | exact HB.out | apply below_alloc | apply pw_below_drewN | apply below_drew1 | refine below_set ?_ (IsS52.ge HI174.out) | refine below_set ?_ GE170.out | refine below_set ?_ GE179.out) | exact HB.out)⟩
            (try clear BK170)
            (try clear BK179)
            (try clear HI174)
            (try clear HB)
            generalize (((w29.setCell ⟨gb179, 0, none⟩ (.int .i64 t175)).setCell ⟨gb179, 1, none⟩ (.string t176)).setCell ⟨gb179, 2, none⟩ (.int .i64 t177)) = w33 at n0_ n1_ n2_ n3_ ⊢
            have BK170 := n0_
            have BK179 := n1_
            have HI174 := n2_
            have HB := n3_
            clear n0_ n1_ n2_ n3_
            have n0_ := Aside0.mk (blk_drew BK170.out)
            have n1_ := Aside0.mk (blk_drew BK179.out)
            have n2_ := Aside0.mk (IsS52.drew HI174.out)
            have n3_ := Aside0.mk (below_drew1 HB.out)
            clear BK170
            clear BK179
            clear HI174
            clear HB
            have BK170 := n0_
            have BK179 := n1_
            have HI174 := n2_
            have HB := n3_
            clear n0_ n1_ n2_ n3_
            refine start_ (n := 6) (S := fun w' => w'.cell? ⟨gb179, 0, none⟩ = some (.int .i64 t175) ∧ w'.cell? ⟨gb179, 1, none⟩ = some (.string t176) ∧ w'.cell? ⟨gb179, 2, none⟩ = some (.int .i64 t177)) (ds := []) #[false, false, false, false, false, false] (by kernel_rfl) rfl rfl ⟨(blk_cell BK179.out 0).trans rfl, (blk_cell BK179.out 1).trans rfl, (blk_cell BK179.out 2).trans rfl⟩ (fun hHeld => ?_)
            generalize w33.drew = w34 at BK170 BK179 HI174 HB hHeld ⊢
            refine take_ (i := 0) (N := some 20) (v := ?_) (a' := ?_) #[true, false, false, false, false, false] rfl rfl (by kernel_rfl) (fun _ _ _ h => h) (Or.inl ⟨by rfl, ?_⟩) hHeld ?_ ?_
            rotate_left
            · rintro w' ⟨s0, s1, s2⟩
              go_simp
              with_reducible rfl
            rotate_left
            · simp only [Act.put, List.setIfInBounds_toArray, List.set_cons_zero, List.set_cons_succ, i64_w, i32_w]
              rfl
            refine take_ (i := 1) (N := some 21) (v := ?_) (a' := ?_) #[true, true, false, false, false, false] rfl rfl (by kernel_rfl) (fun _ _ _ h => h) (Or.inl ⟨by rfl, ?_⟩) hHeld ?_ ?_
            rotate_left
            · rintro w' ⟨s0, s1, s2⟩
              go_simp
              with_reducible rfl
            rotate_left
            · simp only [Act.put, List.setIfInBounds_toArray, List.set_cons_zero, List.set_cons_succ, i64_w, i32_w]
              rfl
            refine join_ (σ := Nat × Nat) 2 #[true, true, true, true, false, false] (fun s_ => [(9, .pointer (some ⟨s_.1, 0, none⟩)), (10, .pointer (some ⟨s_.2, 0, none⟩))]) (fun s_ w' => (w'.cell? ⟨gb179, 0, none⟩ = some (.int .i64 t175) ∧ w'.cell? ⟨gb179, 1, none⟩ = some (.string t176) ∧ w'.cell? ⟨gb179, 2, none⟩ = some (.int .i64 t177)) ∧ (w'.heap[gb170]? = some (.cells #[.int .i64 a0_0, .string a0_1, .int .i64 a0_2] 23 (0, 0))) ∧ (w'.heap[gb179]? = some (.cells #[.int .i64 t175, .string t176, .int .i64 t177] 23 (0, 0))) ∧ (w'.heap[s_.1]? = some (.cells #[.int .i64 0, .string (⟨#[]⟩ : ByteArray), .int .i64 0] 23 (0, 0))) ∧ (w'.heap[s_.2]? = some (.cells #[.int .i64 0, .string (⟨#[]⟩ : ByteArray), .int .i64 0] 23 (0, 0))) ∧ (w.heap.size ≤ s_.1) ∧ (w.heap.size ≤ s_.1) ∧ (g174 ≠ s_.1) ∧ (s_.1 ≠ g174) ∧ (gb170 ≠ s_.1) ∧ (s_.1 ≠ gb170) ∧ (gb179 ≠ s_.1) ∧ (s_.1 ≠ gb179) ∧ (s_.2 ≠ s_.1) ∧ (s_.1 ≠ s_.2) ∧ (w.heap.size ≤ s_.2) ∧ (w.heap.size ≤ s_.2) ∧ (g174 ≠ s_.2) ∧ (s_.2 ≠ g174) ∧ (gb170 ≠ s_.2) ∧ (s_.2 ≠ gb170) ∧ (gb179 ≠ s_.2) ∧ (s_.2 ≠ gb179) ∧ (IsS52 w w' g174 t172 t178) ∧ (Below w.heap.size w w')) ?_ ?_
            rotate_left
            · intro hCont
              refine two_ (i := 2) (j := 3) (Ni := some 9) (Nj := some 10) #[true, true, true, false, false, false] #[true, true, false, true, false, false] rfl rfl rfl rfl (by kernel_rfl) (by decide) (by decide) (fun K hK => ?_) (fun K hK => ?_)
              · skip
                refine box_step ?hg (N := 9) ?hd (cs := #[.int .i64 0, .string (⟨#[]⟩ : ByteArray), .int .i64 0]) (t := 23) ?hr ?_; (case hd => rfl); (case hg => rfl); (case hr => first | (go_simp; done) | (go_simp; rfl))
                intro gb180 hg w35 hbox hb
                have n0_ := Aside0.mk (blk_below (g := gb170) (o := .cells #[.int .i64 a0_0, .string a0_1, .int .i64 a0_2] 23 (0, 0)) (by (with_reducible repeat (first | refine blk_drewN ?_ _ | refine blk_drew ?_ | refine blk_alloc ?_ _)); exact BK170.out) hb)
                have n1_ := Aside0.mk (IsS52.below (by repeat (first | (with_reducible first | exact HI174.out | apply IsS52.alloc | apply IsS52.drewN | apply IsS52.drew | apply IsS52.set_1 | refine IsS52.far ?_ NB174_170.out _ | refine IsS52.far ?_ NB174_179.out _) | exact HI174.out)) hb)
                have n2_ := Aside0.mk (blk_below (g := gb179) (o := .cells #[.int .i64 t175, .string t176, .int .i64 t177] 23 (0, 0)) (by (with_reducible repeat (first | refine blk_drewN ?_ _ | refine blk_drew ?_ | refine blk_alloc ?_ _)); exact BK179.out) hb)
                have n3_ := Aside0.mk (below_step (by repeat (first | (with_reducible first | exact HB.out | apply below_alloc | apply pw_below_drewN | apply below_drew1 | refine below_set ?_ (IsS52.ge HI174.out) | refine below_set ?_ GE170.out | refine below_set ?_ GE179.out) | exact HB.out)) hb)
                have n4_ := Aside0.mk (hbox)
                have n5_ := Aside0.mk ((by rw [hg]; exact (below_size (by repeat (first | (with_reducible first | exact HB.out | apply below_alloc | apply pw_below_drewN | apply below_drew1 | refine below_set ?_ (IsS52.ge HI174.out) | refine below_set ?_ GE170.out | refine below_set ?_ GE179.out) | exact HB.out))) : w.heap.size ≤ gb180))
                have n6_ := Aside0.mk ((by rw [hg]; exact (below_size (by repeat (first | (with_reducible first | exact HB.out | apply below_alloc | apply pw_below_drewN | apply below_drew1 | refine below_set ?_ (IsS52.ge HI174.out) | refine below_set ?_ GE170.out | refine below_set ?_ GE179.out) | exact HB.out))) : w.heap.size ≤ gb180))
                have n7_ := Aside0.mk ((by rw [hg]; exact Nat.ne_of_lt (blk_lt (g := gb170) (o := .cells #[.int .i64 a0_0, .string a0_1, .int .i64 a0_2] 23 (0, 0)) (by (with_reducible repeat (first | refine blk_drewN ?_ _ | refine blk_drew ?_ | refine blk_alloc ?_ _)); exact BK170.out)) : gb170 ≠ gb180))
                have n8_ := Aside0.mk ((by rw [hg]; exact Nat.ne_of_gt (blk_lt (g := gb170) (o := .cells #[.int .i64 a0_0, .string a0_1, .int .i64 a0_2] 23 (0, 0)) (by (with_reducible repeat (first | refine blk_drewN ?_ _ | refine blk_drew ?_ | refine blk_alloc ?_ _)); exact BK170.out)) : gb180 ≠ gb170))
                have n9_ := Aside0.mk ((by rw [hg]; exact Nat.ne_of_lt (blk_lt (g := gb179) (o := .cells #[.int .i64 t175, .string t176, .int .i64 t177] 23 (0, 0)) (by (with_reducible repeat (first | refine blk_drewN ?_ _ | refine blk_drew ?_ | refine blk_alloc ?_ _)); exact BK179.out)) : gb179 ≠ gb180))
                have n10_ := Aside0.mk ((by rw [hg]; exact Nat.ne_of_gt (blk_lt (g := gb179) (o := .cells #[.int .i64 t175, .string t176, .int .i64 t177] 23 (0, 0)) (by (with_reducible repeat (first | refine blk_drewN ?_ _ | refine blk_drew ?_ | refine blk_alloc ?_ _)); exact BK179.out)) : gb180 ≠ gb179))
                have n11_ := Aside0.mk ((by rw [hg]; exact Nat.ne_of_lt (IsS52.lt (show IsS52 w _ g174 t172 t178 from by repeat (first | (with_reducible first | exact HI174.out | apply IsS52.alloc | apply IsS52.drewN | apply IsS52.drew | apply IsS52.set_1 | refine IsS52.far ?_ NB174_170.out _ | refine IsS52.far ?_ NB174_179.out _) | exact HI174.out))) : g174 ≠ gb180))
                have n12_ := Aside0.mk ((by rw [hg]; exact Nat.ne_of_gt (IsS52.lt (show IsS52 w _ g174 t172 t178 from by repeat (first | (with_reducible first | exact HI174.out | apply IsS52.alloc | apply IsS52.drewN | apply IsS52.drew | apply IsS52.set_1 | refine IsS52.far ?_ NB174_170.out _ | refine IsS52.far ?_ NB174_179.out _) | exact HI174.out))) : gb180 ≠ g174))
                clear BK170
                clear HI174
                clear BK179
                clear HB
                have BK170 := n0_
                have HI174 := n1_
                have BK179 := n2_
                have HB := n3_
                have BK180 := n4_
                have GW180 := n5_
                have GE180 := n6_
                have NB170_180 := n7_
                have NB180_170 := n8_
                have NB179_180 := n9_
                have NB180_179 := n10_
                have NB174_180 := n11_
                have NB180_174 := n12_
                clear n0_ n1_ n2_ n3_ n4_ n5_ n6_ n7_ n8_ n9_ n10_ n11_ n12_
                clear hb hbox hg
                refine hK.out _ _ ⟨(blk_cell BK179.out 0).trans rfl, (blk_cell BK179.out 1).trans rfl, (blk_cell BK179.out 2).trans rfl⟩ (fun hHeld => ?_)
                clear hK K
                refine norm_ (a' := ?_) ?_ ?_
                rotate_left
                · show Act.put _ (some 9) _ = _
                  simp only [Act.put, List.setIfInBounds_toArray, List.set_cons_zero, List.set_cons_succ, i64_w, i32_w]
                  rfl
                refine one_ (i := 3) (N := some 10) #[true, true, true, true, false, false] rfl rfl (by kernel_rfl) (by decide) (fun K hK => ?_)
                refine box_step ?hg (N := 10) ?hd (cs := #[.int .i64 0, .string (⟨#[]⟩ : ByteArray), .int .i64 0]) (t := 23) ?hr ?_; (case hd => rfl); (case hg => rfl); (case hr => first | (go_simp; done) | (go_simp; rfl))
                intro gb181 hg w36 hbox hb
                have n0_ := Aside0.mk (blk_below (g := gb170) (o := .cells #[.int .i64 a0_0, .string a0_1, .int .i64 a0_2] 23 (0, 0)) (by (with_reducible repeat (first | refine blk_drewN ?_ _ | refine blk_drew ?_ | refine blk_alloc ?_ _)); exact BK170.out) hb)
                have n1_ := Aside0.mk (IsS52.below (by repeat (first | (with_reducible first | exact HI174.out | apply IsS52.alloc | apply IsS52.drewN | apply IsS52.drew | apply IsS52.set_1 | refine IsS52.far ?_ NB174_170.out _ | refine IsS52.far ?_ NB174_179.out _ | refine IsS52.far ?_ NB174_180.out _) | exact HI174.out)) hb)
                have n2_ := Aside0.mk (blk_below (g := gb179) (o := .cells #[.int .i64 t175, .string t176, .int .i64 t177] 23 (0, 0)) (by (with_reducible repeat (first | refine blk_drewN ?_ _ | refine blk_drew ?_ | refine blk_alloc ?_ _)); exact BK179.out) hb)
                have n3_ := Aside0.mk (blk_below (g := gb180) (o := .cells #[.int .i64 0, .string (⟨#[]⟩ : ByteArray), .int .i64 0] 23 (0, 0)) (by (with_reducible repeat (first | refine blk_drewN ?_ _ | refine blk_drew ?_ | refine blk_alloc ?_ _)); exact BK180.out) hb)
                have n4_ := Aside0.mk (below_step (by repeat (first | (with_reducible first | exact HB.out | apply below_alloc | apply pw_below_drewN | apply below_drew1 | refine below_set ?_ (IsS52.ge HI174.out) | refine below_set ?_ GE170.out | refine below_set ?_ GE179.out | refine below_set ?_ GE180.out) | exact HB.out)) hb)
                have n5_ := Aside0.mk (hbox)
                have n6_ := Aside0.mk ((by rw [hg]; exact (below_size (by repeat (first | (with_reducible first | exact HB.out | apply below_alloc | apply pw_below_drewN | apply below_drew1 | refine below_set ?_ (IsS52.ge HI174.out) | refine below_set ?_ GE170.out | refine below_set ?_ GE179.out | refine below_set ?_ GE180.out) | exact HB.out))) : w.heap.size ≤ gb181))
                have n7_ := Aside0.mk ((by rw [hg]; exact (below_size (by repeat (first | (with_reducible first | exact HB.out | apply below_alloc | apply pw_below_drewN | apply below_drew1 | refine below_set ?_ (IsS52.ge HI174.out) | refine below_set ?_ GE170.out | refine below_set ?_ GE179.out | refine below_set ?_ GE180.out) | exact HB.out))) : w.heap.size ≤ gb181))
                have n8_ := Aside0.mk ((by rw [hg]; exact Nat.ne_of_lt (blk_lt (g := gb170) (o := .cells #[.int .i64 a0_0, .string a0_1, .int .i64 a0_2] 23 (0, 0)) (by (with_reducible repeat (first | refine blk_drewN ?_ _ | refine blk_drew ?_ | refine blk_alloc ?_ _)); exact BK170.out)) : gb170 ≠ gb181))
                have n9_ := Aside0.mk ((by rw [hg]; exact Nat.ne_of_gt (blk_lt (g := gb170) (o := .cells #[.int .i64 a0_0, .string a0_1, .int .i64 a0_2] 23 (0, 0)) (by (with_reducible repeat (first | refine blk_drewN ?_ _ | refine blk_drew ?_ | refine blk_alloc ?_ _)); exact BK170.out)) : gb181 ≠ gb170))
                have n10_ := Aside0.mk ((by rw [hg]; exact Nat.ne_of_lt (blk_lt (g := gb179) (o := .cells #[.int .i64 t175, .string t176, .int .i64 t177] 23 (0, 0)) (by (with_reducible repeat (first | refine blk_drewN ?_ _ | refine blk_drew ?_ | refine blk_alloc ?_ _)); exact BK179.out)) : gb179 ≠ gb181))
                have n11_ := Aside0.mk ((by rw [hg]; exact Nat.ne_of_gt (blk_lt (g := gb179) (o := .cells #[.int .i64 t175, .string t176, .int .i64 t177] 23 (0, 0)) (by (with_reducible repeat (first | refine blk_drewN ?_ _ | refine blk_drew ?_ | refine blk_alloc ?_ _)); exact BK179.out)) : gb181 ≠ gb179))
                have n12_ := Aside0.mk ((by rw [hg]; exact Nat.ne_of_lt (blk_lt (g := gb180) (o := .cells #[.int .i64 0, .string (⟨#[]⟩ : ByteArray), .int .i64 0] 23 (0, 0)) (by (with_reducible repeat (first | refine blk_drewN ?_ _ | refine blk_drew ?_ | refine blk_alloc ?_ _)); exact BK180.out)) : gb180 ≠ gb181))
                have n13_ := Aside0.mk ((by rw [hg]; exact Nat.ne_of_gt (blk_lt (g := gb180) (o := .cells #[.int .i64 0, .string (⟨#[]⟩ : ByteArray), .int .i64 0] 23 (0, 0)) (by (with_reducible repeat (first | refine blk_drewN ?_ _ | refine blk_drew ?_ | refine blk_alloc ?_ _)); exact BK180.out)) : gb181 ≠ gb180))
                have n14_ := Aside0.mk ((by rw [hg]; exact Nat.ne_of_lt (IsS52.lt (show IsS52 w _ g174 t172 t178 from by repeat (first | (with_reducible first | exact HI174.out | apply IsS52.alloc | apply IsS52.drewN | apply IsS52.drew | apply IsS52.set_1 | refine IsS52.far ?_ NB174_170.out _ | refine IsS52.far ?_ NB174_179.out _ | refine IsS52.far ?_ NB174_180.out _) | exact HI174.out))) : g174 ≠ gb181))
                have n15_ := Aside0.mk ((by rw [hg]; exact Nat.ne_of_gt (IsS52.lt (show IsS52 w _ g174 t172 t178 from by repeat (first | (with_reducible first | exact HI174.out | apply IsS52.alloc | apply IsS52.drewN | apply IsS52.drew | apply IsS52.set_1 | refine IsS52.far ?_ NB174_170.out _ | refine IsS52.far ?_ NB174_179.out _ | refine IsS52.far ?_ NB174_180.out _) | exact HI174.out))) : gb181 ≠ g174))
                clear BK170
                clear HI174
                clear BK179
                clear BK180
                clear HB
                have BK170 := n0_
                have HI174 := n1_
                have BK179 := n2_
                have BK180 := n3_
                have HB := n4_
                have BK181 := n5_
                have GW181 := n6_
                have GE181 := n7_
                have NB170_181 := n8_
                have NB181_170 := n9_
                have NB179_181 := n10_
                have NB181_179 := n11_
                have NB180_181 := n12_
                have NB181_180 := n13_
                have NB174_181 := n14_
                have NB181_174 := n15_
                clear n0_ n1_ n2_ n3_ n4_ n5_ n6_ n7_ n8_ n9_ n10_ n11_ n12_ n13_ n14_ n15_
                clear hb hbox hg
                refine hK.out _ _ ⟨(blk_cell BK179.out 0).trans rfl, (blk_cell BK179.out 1).trans rfl, (blk_cell BK179.out 2).trans rfl⟩ (fun hHeld => ?_)
                clear hK K
                refine norm_ (a' := ?_) ?_ ?_
                rotate_left
                · show Act.put _ (some 10) _ = _
                  simp only [Act.put, List.setIfInBounds_toArray, List.set_cons_zero, List.set_cons_succ, i64_w, i32_w]
                  rfl
                exact norm_ (by simp only [putAll, Act.put, List.setIfInBounds_toArray, List.set_cons_zero, List.set_cons_succ]) (hCont (gb180, gb181) _ ⟨hHeld, (by (with_reducible repeat (first | refine blk_drewN ?_ _ | refine blk_drew ?_ | refine blk_alloc ?_ _)); exact BK170.out), (by (with_reducible repeat (first | refine blk_drewN ?_ _ | refine blk_drew ?_ | refine blk_alloc ?_ _)); exact BK179.out), (by (with_reducible repeat (first | refine blk_drewN ?_ _ | refine blk_drew ?_ | refine blk_alloc ?_ _)); exact BK180.out), (by (with_reducible repeat (first | refine blk_drewN ?_ _ | refine blk_drew ?_ | refine blk_alloc ?_ _)); exact BK181.out), GW180.out, GE180.out, NB174_180.out, NB180_174.out, NB170_180.out, NB180_170.out, NB179_180.out, NB180_179.out, NB181_180.out, NB180_181.out, GW181.out, GE181.out, NB174_181.out, NB181_174.out, NB170_181.out, NB181_170.out, NB179_181.out, NB181_179.out, (by repeat (first | (with_reducible first | exact HI174.out | apply IsS52.alloc | apply IsS52.drewN | apply IsS52.drew | apply IsS52.set_1 | refine IsS52.far ?_ NB174_170.out _ | refine IsS52.far ?_ NB174_179.out _ | refine IsS52.far ?_ NB174_180.out _ | refine IsS52.far ?_ NB174_181.out _) | exact HI174.out)), (by repeat (first | (with_reducible first | exact HB.out | apply below_alloc | apply pw_below_drewN | apply below_drew1 | refine below_set ?_ (IsS52.ge HI174.out) | refine below_set ?_ GE170.out | refine below_set ?_ GE179.out | refine below_set ?_ GE180.out | refine below_set ?_ GE181.out) | exact HB.out))⟩)
              · skip
                refine box_step ?hg (N := 10) ?hd (cs := #[.int .i64 0, .string (⟨#[]⟩ : ByteArray), .int .i64 0]) (t := 23) ?hr ?_; (case hd => rfl); (case hg => rfl); (case hr => first | (go_simp; done) | (go_simp; rfl))
                intro gb181 hg w35 hbox hb
                have n0_ := Aside0.mk (blk_below (g := gb170) (o := .cells #[.int .i64 a0_0, .string a0_1, .int .i64 a0_2] 23 (0, 0)) (by (with_reducible repeat (first | refine blk_drewN ?_ _ | refine blk_drew ?_ | refine blk_alloc ?_ _)); exact BK170.out) hb)
                have n1_ := Aside0.mk (IsS52.below (by repeat (first | (with_reducible first | exact HI174.out | apply IsS52.alloc | apply IsS52.drewN | apply IsS52.drew | apply IsS52.set_1 | refine IsS52.far ?_ NB174_170.out _ | refine IsS52.far ?_ NB174_179.out _) | exact HI174.out)) hb)
                have n2_ := Aside0.mk (blk_below (g := gb179) (o := .cells #[.int .i64 t175, .string t176, .int .i64 t177] 23 (0, 0)) (by (with_reducible repeat (first | refine blk_drewN ?_ _ | refine blk_drew ?_ | refine blk_alloc ?_ _)); exact BK179.out) hb)
                have n3_ := Aside0.mk (below_step (by repeat (first | (with_reducible first | exact HB.out | apply below_alloc | apply pw_below_drewN | apply below_drew1 | refine below_set ?_ (IsS52.ge HI174.out) | refine below_set ?_ GE170.out | refine below_set ?_ GE179.out) | exact HB.out)) hb)
                have n4_ := Aside0.mk (hbox)
                have n5_ := Aside0.mk ((by rw [hg]; exact (below_size (by repeat (first | (with_reducible first | exact HB.out | apply below_alloc | apply pw_below_drewN | apply below_drew1 | refine below_set ?_ (IsS52.ge HI174.out) | refine below_set ?_ GE170.out | refine below_set ?_ GE179.out) | exact HB.out))) : w.heap.size ≤ gb181))
                have n6_ := Aside0.mk ((by rw [hg]; exact (below_size (by repeat (first | (with_reducible first | exact HB.out | apply below_alloc | apply pw_below_drewN | apply below_drew1 | refine below_set ?_ (IsS52.ge HI174.out) | refine below_set ?_ GE170.out | refine below_set ?_ GE179.out) | exact HB.out))) : w.heap.size ≤ gb181))
                have n7_ := Aside0.mk ((by rw [hg]; exact Nat.ne_of_lt (blk_lt (g := gb170) (o := .cells #[.int .i64 a0_0, .string a0_1, .int .i64 a0_2] 23 (0, 0)) (by (with_reducible repeat (first | refine blk_drewN ?_ _ | refine blk_drew ?_ | refine blk_alloc ?_ _)); exact BK170.out)) : gb170 ≠ gb181))
                have n8_ := Aside0.mk ((by rw [hg]; exact Nat.ne_of_gt (blk_lt (g := gb170) (o := .cells #[.int .i64 a0_0, .string a0_1, .int .i64 a0_2] 23 (0, 0)) (by (with_reducible repeat (first | refine blk_drewN ?_ _ | refine blk_drew ?_ | refine blk_alloc ?_ _)); exact BK170.out)) : gb181 ≠ gb170))
                have n9_ := Aside0.mk ((by rw [hg]; exact Nat.ne_of_lt (blk_lt (g := gb179) (o := .cells #[.int .i64 t175, .string t176, .int .i64 t177] 23 (0, 0)) (by (with_reducible repeat (first | refine blk_drewN ?_ _ | refine blk_drew ?_ | refine blk_alloc ?_ _)); exact BK179.out)) : gb179 ≠ gb181))
                have n10_ := Aside0.mk ((by rw [hg]; exact Nat.ne_of_gt (blk_lt (g := gb179) (o := .cells #[.int .i64 t175, .string t176, .int .i64 t177] 23 (0, 0)) (by (with_reducible repeat (first | refine blk_drewN ?_ _ | refine blk_drew ?_ | refine blk_alloc ?_ _)); exact BK179.out)) : gb181 ≠ gb179))
                have n11_ := Aside0.mk ((by rw [hg]; exact Nat.ne_of_lt (IsS52.lt (show IsS52 w _ g174 t172 t178 from by repeat (first | (with_reducible first | exact HI174.out | apply IsS52.alloc | apply IsS52.drewN | apply IsS52.drew | apply IsS52.set_1 | refine IsS52.far ?_ NB174_170.out _ | refine IsS52.far ?_ NB174_179.out _) | exact HI174.out))) : g174 ≠ gb181))
                have n12_ := Aside0.mk ((by rw [hg]; exact Nat.ne_of_gt (IsS52.lt (show IsS52 w _ g174 t172 t178 from by repeat (first | (with_reducible first | exact HI174.out | apply IsS52.alloc | apply IsS52.drewN | apply IsS52.drew | apply IsS52.set_1 | refine IsS52.far ?_ NB174_170.out _ | refine IsS52.far ?_ NB174_179.out _) | exact HI174.out))) : gb181 ≠ g174))
                clear BK170
                clear HI174
                clear BK179
                clear HB
                have BK170 := n0_
                have HI174 := n1_
                have BK179 := n2_
                have HB := n3_
                have BK181 := n4_
                have GW181 := n5_
                have GE181 := n6_
                have NB170_181 := n7_
                have NB181_170 := n8_
                have NB179_181 := n9_
                have NB181_179 := n10_
                have NB174_181 := n11_
                have NB181_174 := n12_
                clear n0_ n1_ n2_ n3_ n4_ n5_ n6_ n7_ n8_ n9_ n10_ n11_ n12_
                clear hb hbox hg
                refine hK.out _ _ ⟨(blk_cell BK179.out 0).trans rfl, (blk_cell BK179.out 1).trans rfl, (blk_cell BK179.out 2).trans rfl⟩ (fun hHeld => ?_)
                clear hK K
                refine norm_ (a' := ?_) ?_ ?_
                rotate_left
                · show Act.put _ (some 10) _ = _
                  simp only [Act.put, List.setIfInBounds_toArray, List.set_cons_zero, List.set_cons_succ, i64_w, i32_w]
                  rfl
                refine one_ (i := 2) (N := some 9) #[true, true, true, true, false, false] rfl rfl (by kernel_rfl) (by decide) (fun K hK => ?_)
                refine box_step ?hg (N := 9) ?hd (cs := #[.int .i64 0, .string (⟨#[]⟩ : ByteArray), .int .i64 0]) (t := 23) ?hr ?_; (case hd => rfl); (case hg => rfl); (case hr => first | (go_simp; done) | (go_simp; rfl))
                intro gb180 hg w36 hbox hb
                have n0_ := Aside0.mk (blk_below (g := gb170) (o := .cells #[.int .i64 a0_0, .string a0_1, .int .i64 a0_2] 23 (0, 0)) (by (with_reducible repeat (first | refine blk_drewN ?_ _ | refine blk_drew ?_ | refine blk_alloc ?_ _)); exact BK170.out) hb)
                have n1_ := Aside0.mk (IsS52.below (by repeat (first | (with_reducible first | exact HI174.out | apply IsS52.alloc | apply IsS52.drewN | apply IsS52.drew | apply IsS52.set_1 | refine IsS52.far ?_ NB174_170.out _ | refine IsS52.far ?_ NB174_179.out _ | refine IsS52.far ?_ NB174_181.out _) | exact HI174.out)) hb)
                have n2_ := Aside0.mk (blk_below (g := gb179) (o := .cells #[.int .i64 t175, .string t176, .int .i64 t177] 23 (0, 0)) (by (with_reducible repeat (first | refine blk_drewN ?_ _ | refine blk_drew ?_ | refine blk_alloc ?_ _)); exact BK179.out) hb)
                have n3_ := Aside0.mk (blk_below (g := gb181) (o := .cells #[.int .i64 0, .string (⟨#[]⟩ : ByteArray), .int .i64 0] 23 (0, 0)) (by (with_reducible repeat (first | refine blk_drewN ?_ _ | refine blk_drew ?_ | refine blk_alloc ?_ _)); exact BK181.out) hb)
                have n4_ := Aside0.mk (below_step (by repeat (first | (with_reducible first | exact HB.out | apply below_alloc | apply pw_below_drewN | apply below_drew1 | refine below_set ?_ (IsS52.ge HI174.out) | refine below_set ?_ GE170.out | refine below_set ?_ GE179.out | refine below_set ?_ GE181.out) | exact HB.out)) hb)
                have n5_ := Aside0.mk (hbox)
                have n6_ := Aside0.mk ((by rw [hg]; exact (below_size (by repeat (first | (with_reducible first | exact HB.out | apply below_alloc | apply pw_below_drewN | apply below_drew1 | refine below_set ?_ (IsS52.ge HI174.out) | refine below_set ?_ GE170.out | refine below_set ?_ GE179.out | refine below_set ?_ GE181.out) | exact HB.out))) : w.heap.size ≤ gb180))
                have n7_ := Aside0.mk ((by rw [hg]; exact (below_size (by repeat (first | (with_reducible first | exact HB.out | apply below_alloc | apply pw_below_drewN | apply below_drew1 | refine below_set ?_ (IsS52.ge HI174.out) | refine below_set ?_ GE170.out | refine below_set ?_ GE179.out | refine below_set ?_ GE181.out) | exact HB.out))) : w.heap.size ≤ gb180))
                have n8_ := Aside0.mk ((by rw [hg]; exact Nat.ne_of_lt (blk_lt (g := gb170) (o := .cells #[.int .i64 a0_0, .string a0_1, .int .i64 a0_2] 23 (0, 0)) (by (with_reducible repeat (first | refine blk_drewN ?_ _ | refine blk_drew ?_ | refine blk_alloc ?_ _)); exact BK170.out)) : gb170 ≠ gb180))
                have n9_ := Aside0.mk ((by rw [hg]; exact Nat.ne_of_gt (blk_lt (g := gb170) (o := .cells #[.int .i64 a0_0, .string a0_1, .int .i64 a0_2] 23 (0, 0)) (by (with_reducible repeat (first | refine blk_drewN ?_ _ | refine blk_drew ?_ | refine blk_alloc ?_ _)); exact BK170.out)) : gb180 ≠ gb170))
                have n10_ := Aside0.mk ((by rw [hg]; exact Nat.ne_of_lt (blk_lt (g := gb179) (o := .cells #[.int .i64 t175, .string t176, .int .i64 t177] 23 (0, 0)) (by (with_reducible repeat (first | refine blk_drewN ?_ _ | refine blk_drew ?_ | refine blk_alloc ?_ _)); exact BK179.out)) : gb179 ≠ gb180))
                have n11_ := Aside0.mk ((by rw [hg]; exact Nat.ne_of_gt (blk_lt (g := gb179) (o := .cells #[.int .i64 t175, .string t176, .int .i64 t177] 23 (0, 0)) (by (with_reducible repeat (first | refine blk_drewN ?_ _ | refine blk_drew ?_ | refine blk_alloc ?_ _)); exact BK179.out)) : gb180 ≠ gb179))
                have n12_ := Aside0.mk ((by rw [hg]; exact Nat.ne_of_lt (blk_lt (g := gb181) (o := .cells #[.int .i64 0, .string (⟨#[]⟩ : ByteArray), .int .i64 0] 23 (0, 0)) (by (with_reducible repeat (first | refine blk_drewN ?_ _ | refine blk_drew ?_ | refine blk_alloc ?_ _)); exact BK181.out)) : gb181 ≠ gb180))
                have n13_ := Aside0.mk ((by rw [hg]; exact Nat.ne_of_gt (blk_lt (g := gb181) (o := .cells #[.int .i64 0, .string (⟨#[]⟩ : ByteArray), .int .i64 0] 23 (0, 0)) (by (with_reducible repeat (first | refine blk_drewN ?_ _ | refine blk_drew ?_ | refine blk_alloc ?_ _)); exact BK181.out)) : gb180 ≠ gb181))
                have n14_ := Aside0.mk ((by rw [hg]; exact Nat.ne_of_lt (IsS52.lt (show IsS52 w _ g174 t172 t178 from by repeat (first | (with_reducible first | exact HI174.out | apply IsS52.alloc | apply IsS52.drewN | apply IsS52.drew | apply IsS52.set_1 | refine IsS52.far ?_ NB174_170.out _ | refine IsS52.far ?_ NB174_179.out _ | refine IsS52.far ?_ NB174_181.out _) | exact HI174.out))) : g174 ≠ gb180))
                have n15_ := Aside0.mk ((by rw [hg]; exact Nat.ne_of_gt (IsS52.lt (show IsS52 w _ g174 t172 t178 from by repeat (first | (with_reducible first | exact HI174.out | apply IsS52.alloc | apply IsS52.drewN | apply IsS52.drew | apply IsS52.set_1 | refine IsS52.far ?_ NB174_170.out _ | refine IsS52.far ?_ NB174_179.out _ | refine IsS52.far ?_ NB174_181.out _) | exact HI174.out))) : gb180 ≠ g174))
                clear BK170
                clear HI174
                clear BK179
                clear BK181
                clear HB
                have BK170 := n0_
                have HI174 := n1_
                have BK179 := n2_
                have BK181 := n3_
                have HB := n4_
                have BK180 := n5_
                have GW180 := n6_
                have GE180 := n7_
                have NB170_180 := n8_
                have NB180_170 := n9_
                have NB179_180 := n10_
                have NB180_179 := n11_
                have NB181_180 := n12_
                have NB180_181 := n13_
                have NB174_180 := n14_
                have NB180_174 := n15_
                clear n0_ n1_ n2_ n3_ n4_ n5_ n6_ n7_ n8_ n9_ n10_ n11_ n12_ n13_ n14_ n15_
                clear hb hbox hg
                refine hK.out _ _ ⟨(blk_cell BK179.out 0).trans rfl, (blk_cell BK179.out 1).trans rfl, (blk_cell BK179.out 2).trans rfl⟩ (fun hHeld => ?_)
                clear hK K
                refine norm_ (a' := ?_) ?_ ?_
                rotate_left
                · show Act.put _ (some 9) _ = _
                  simp only [Act.put, List.setIfInBounds_toArray, List.set_cons_zero, List.set_cons_succ, i64_w, i32_w]
                  rfl
                exact norm_ (by simp only [putAll, Act.put, List.setIfInBounds_toArray, List.set_cons_zero, List.set_cons_succ]) (hCont (gb180, gb181) _ ⟨hHeld, (by (with_reducible repeat (first | refine blk_drewN ?_ _ | refine blk_drew ?_ | refine blk_alloc ?_ _)); exact BK170.out), (by (with_reducible repeat (first | refine blk_drewN ?_ _ | refine blk_drew ?_ | refine blk_alloc ?_ _)); exact BK179.out), (by (with_reducible repeat (first | refine blk_drewN ?_ _ | refine blk_drew ?_ | refine blk_alloc ?_ _)); exact BK180.out), (by (with_reducible repeat (first | refine blk_drewN ?_ _ | refine blk_drew ?_ | refine blk_alloc ?_ _)); exact BK181.out), GW180.out, GE180.out, NB174_180.out, NB180_174.out, NB170_180.out, NB180_170.out, NB179_180.out, NB180_179.out, NB181_180.out, NB180_181.out, GW181.out, GE181.out, NB174_181.out, NB181_174.out, NB170_181.out, NB181_170.out, NB179_181.out, NB181_179.out, (by repeat (first | (with_reducible first | exact HI174.out | apply IsS52.alloc | apply IsS52.drewN | apply IsS52.drew | apply IsS52.set_1 | refine IsS52.far ?_ NB174_170.out _ | refine IsS52.far ?_ NB174_179.out _ | refine IsS52.far ?_ NB174_181.out _ | refine IsS52.far ?_ NB174_180.out _) | exact HI174.out)), (by repeat (first | (with_reducible first | exact HB.out | apply below_alloc | apply pw_below_drewN | apply below_drew1 | refine below_set ?_ (IsS52.ge HI174.out) | refine below_set ?_ GE170.out | refine below_set ?_ GE179.out | refine below_set ?_ GE181.out | refine below_set ?_ GE180.out) | exact HB.out))⟩)
            rintro ⟨gb180, gb181⟩ w37 ⟨hS_, h0_, h1_, h2_, h3_, h4_, h5_, h6_, h7_, h8_, h9_, h10_, h11_, h12_, h13_, h14_, h15_, h16_, h17_, h18_, h19_, h20_, h21_, h22_, h23_⟩
            have n0_ : Aside0 (w37.heap[gb170]? = some (.cells #[.int .i64 a0_0, .string a0_1, .int .i64 a0_2] 23 (0, 0))) := ⟨h0_⟩
            have n1_ : Aside0 (w37.heap[gb179]? = some (.cells #[.int .i64 t175, .string t176, .int .i64 t177] 23 (0, 0))) := ⟨h1_⟩
            have n2_ : Aside0 (w37.heap[gb180]? = some (.cells #[.int .i64 0, .string (⟨#[]⟩ : ByteArray), .int .i64 0] 23 (0, 0))) := ⟨h2_⟩
            have n3_ : Aside0 (w37.heap[gb181]? = some (.cells #[.int .i64 0, .string (⟨#[]⟩ : ByteArray), .int .i64 0] 23 (0, 0))) := ⟨h3_⟩
            have n4_ : Aside0 (w.heap.size ≤ gb180) := ⟨h4_⟩
            have n5_ : Aside0 (w.heap.size ≤ gb180) := ⟨h5_⟩
            have n6_ : Aside0 (g174 ≠ gb180) := ⟨h6_⟩
            have n7_ : Aside0 (gb180 ≠ g174) := ⟨h7_⟩
            have n8_ : Aside0 (gb170 ≠ gb180) := ⟨h8_⟩
            have n9_ : Aside0 (gb180 ≠ gb170) := ⟨h9_⟩
            have n10_ : Aside0 (gb179 ≠ gb180) := ⟨h10_⟩
            have n11_ : Aside0 (gb180 ≠ gb179) := ⟨h11_⟩
            have n12_ : Aside0 (gb181 ≠ gb180) := ⟨h12_⟩
            have n13_ : Aside0 (gb180 ≠ gb181) := ⟨h13_⟩
            have n14_ : Aside0 (w.heap.size ≤ gb181) := ⟨h14_⟩
            have n15_ : Aside0 (w.heap.size ≤ gb181) := ⟨h15_⟩
            have n16_ : Aside0 (g174 ≠ gb181) := ⟨h16_⟩
            have n17_ : Aside0 (gb181 ≠ g174) := ⟨h17_⟩
            have n18_ : Aside0 (gb170 ≠ gb181) := ⟨h18_⟩
            have n19_ : Aside0 (gb181 ≠ gb170) := ⟨h19_⟩
            have n20_ : Aside0 (gb179 ≠ gb181) := ⟨h20_⟩
            have n21_ : Aside0 (gb181 ≠ gb179) := ⟨h21_⟩
            have n22_ : Aside0 (IsS52 w w37 g174 t172 t178) := ⟨h22_⟩
            have n23_ : Aside0 (Below w.heap.size w w37) := ⟨h23_⟩
            clear BK170
            clear BK179
            clear HI174
            clear HB
            clear h0_ h1_ h2_ h3_ h4_ h5_ h6_ h7_ h8_ h9_ h10_ h11_ h12_ h13_ h14_ h15_ h16_ h17_ h18_ h19_ h20_ h21_ h22_ h23_
            have BK170 := n0_
            have BK179 := n1_
            have BK180 := n2_
            have BK181 := n3_
            have GW180 := n4_
            have GE180 := n5_
            have NB174_180 := n6_
            have NB180_174 := n7_
            have NB170_180 := n8_
            have NB180_170 := n9_
            have NB179_180 := n10_
            have NB180_179 := n11_
            have NB181_180 := n12_
            have NB180_181 := n13_
            have GW181 := n14_
            have GE181 := n15_
            have NB174_181 := n16_
            have NB181_174 := n17_
            have NB170_181 := n18_
            have NB181_170 := n19_
            have NB179_181 := n20_
            have NB181_179 := n21_
            have HI174 := n22_
            have HB := n23_
            clear n0_ n1_ n2_ n3_ n4_ n5_ n6_ n7_ n8_ n9_ n10_ n11_ n12_ n13_ n14_ n15_ n16_ n17_ n18_ n19_ n20_ n21_ n22_ n23_
            have hHeld : w37.cell? ⟨gb179, 0, none⟩ = some (.int .i64 t175) ∧ w37.cell? ⟨gb179, 1, none⟩ = some (.string t176) ∧ w37.cell? ⟨gb179, 2, none⟩ = some (.int .i64 t177) := hS_
            refine norm_ (a' := ?_) ?_ ?_
            rotate_left
            · simp only [putAll, Act.put, List.setIfInBounds_toArray, List.set_cons_zero, List.set_cons_succ]
              rfl
            refine one_ (i := 4) (N := none) #[true, true, true, true, true, false] rfl rfl (by kernel_rfl) (by decide) (fun K hK => ?_)
            have hs38 : w37.cell? ⟨gb180, 0, none⟩ = some (.int .i64 0) := (blk_cell BK180.out 0).trans rfl
            have hfs38 := blk_frozen BK180.out 0
            have hns38_0 := NB170_180.out
            have hns38_1 := NB179_180.out
            have hns38_3 := NB181_180.out
            have hms38_0 := NB180_170.out
            have hms38_1 := NB180_179.out
            have hms38_3 := NB180_181.out
            have hs39 : w37.cell? ⟨gb180, 1, none⟩ = some (.string (⟨#[]⟩ : ByteArray)) := (blk_cell BK180.out 1).trans rfl
            have hfs39 := blk_frozen BK180.out 1
            have hns39_0 := NB170_180.out
            have hns39_1 := NB179_180.out
            have hns39_3 := NB181_180.out
            have hms39_0 := NB180_170.out
            have hms39_1 := NB180_179.out
            have hms39_3 := NB180_181.out
            have hs40 : w37.cell? ⟨gb180, 2, none⟩ = some (.int .i64 0) := (blk_cell BK180.out 2).trans rfl
            have hfs40 := blk_frozen BK180.out 2
            have hns40_0 := NB170_180.out
            have hns40_1 := NB179_180.out
            have hns40_3 := NB181_180.out
            have hms40_0 := NB180_170.out
            have hms40_1 := NB180_179.out
            have hms40_3 := NB180_181.out
            refine skip_ (w1 := ?_) (by rfl) rfl ?_ ?_
            rotate_left
            · go_simp
              rfl
            refine hK.out _ _ ⟨((cell_far (p := ⟨gb180, _, none⟩) NB179_180.out _).trans (((cell_far (p := ⟨gb180, _, none⟩) NB179_180.out _).trans (((cell_far (p := ⟨gb180, _, none⟩) NB179_180.out _).trans (hHeld.1)))))), ((cell_far (p := ⟨gb180, _, none⟩) NB179_180.out _).trans (((cell_far (p := ⟨gb180, _, none⟩) NB179_180.out _).trans (((cell_far (p := ⟨gb180, _, none⟩) NB179_180.out _).trans (hHeld.2.1)))))), ((cell_far (p := ⟨gb180, _, none⟩) NB179_180.out _).trans (((cell_far (p := ⟨gb180, _, none⟩) NB179_180.out _).trans (((cell_far (p := ⟨gb180, _, none⟩) NB179_180.out _).trans (hHeld.2.2))))))⟩ (fun hHeld => ?_)
            clear hK K
            refine one_ (i := 5) (N := none) #[true, true, true, true, true, true] rfl rfl (by kernel_rfl) (by decide) (fun K hK => ?_)
            have hs41 : w37.cell? ⟨gb181, 0, none⟩ = some (.int .i64 0) := (blk_cell BK181.out 0).trans rfl
            have hfs41 := blk_frozen BK181.out 0
            have hns41_0 := NB170_181.out
            have hns41_1 := NB179_181.out
            have hns41_2 := NB180_181.out
            have hms41_0 := NB181_170.out
            have hms41_1 := NB181_179.out
            have hms41_2 := NB181_180.out
            have hs42 : w37.cell? ⟨gb181, 1, none⟩ = some (.string (⟨#[]⟩ : ByteArray)) := (blk_cell BK181.out 1).trans rfl
            have hfs42 := blk_frozen BK181.out 1
            have hns42_0 := NB170_181.out
            have hns42_1 := NB179_181.out
            have hns42_2 := NB180_181.out
            have hms42_0 := NB181_170.out
            have hms42_1 := NB181_179.out
            have hms42_2 := NB181_180.out
            have hs43 : w37.cell? ⟨gb181, 2, none⟩ = some (.int .i64 0) := (blk_cell BK181.out 2).trans rfl
            have hfs43 := blk_frozen BK181.out 2
            have hns43_0 := NB170_181.out
            have hns43_1 := NB179_181.out
            have hns43_2 := NB180_181.out
            have hms43_0 := NB181_170.out
            have hms43_1 := NB181_179.out
            have hms43_2 := NB181_180.out
            refine skip_ (w1 := ?_) (by rfl) rfl ?_ ?_
            rotate_left
            · go_simp
              rfl
            refine hK.out _ _ ⟨((cell_far (p := ⟨gb181, _, none⟩) NB179_181.out _).trans (((cell_far (p := ⟨gb181, _, none⟩) NB179_181.out _).trans (((cell_far (p := ⟨gb181, _, none⟩) NB179_181.out _).trans (hHeld.1)))))), ((cell_far (p := ⟨gb181, _, none⟩) NB179_181.out _).trans (((cell_far (p := ⟨gb181, _, none⟩) NB179_181.out _).trans (((cell_far (p := ⟨gb181, _, none⟩) NB179_181.out _).trans (hHeld.2.1)))))), ((cell_far (p := ⟨gb181, _, none⟩) NB179_181.out _).trans (((cell_far (p := ⟨gb181, _, none⟩) NB179_181.out _).trans (((cell_far (p := ⟨gb181, _, none⟩) NB179_181.out _).trans (hHeld.2.2))))))⟩ (fun hHeld => ?_)
            clear hK K
            refine done_ (by kernel_rfl) ?_
            try go_wp2_with (first | ((with_reducible refine gate_callee (f := 11) rfl ?_); refine goesL_ (some 23) rfl rfl Tryd.func11 (by kernel_rfl) rfl #[.int .i64 a2, .int .i64 13] rfl (by (try simp only [List.map_toArray, List.map_cons, List.map_nil]); first | done | rfl | (simp only [List.length_drop, List.length_take]; rfl)) ?_; (with_reducible refine (paygen_Mod.calls a2 13 t182 _ A11.out).mono ?_); rintro e w' ⟨rfl, ⟨nd, rfl⟩⟩; refine ⟨_, rfl, ?_⟩; have hnb44 := NB180_170.out; have hnc44 := NB170_180.out; have hnb45 := NB180_179.out; have hnc45 := NB179_180.out; have hnb46 := NB180_181.out; have hnc46 := NB181_180.out; have hnb47 := NB180_174.out; have hnc47 := NB174_180.out; have hcz48_0 : w37.cell? ⟨gb180, 0, none⟩ = some (.int .i64 0) := (blk_cell BK180.out 0).trans rfl; have hcz48_1 : w37.cell? ⟨gb180, 1, none⟩ = some (.string (⟨#[]⟩ : ByteArray)) := (blk_cell BK180.out 1).trans rfl; have hcz48_2 : w37.cell? ⟨gb180, 2, none⟩ = some (.int .i64 0) := (blk_cell BK180.out 2).trans rfl; have hfz48_0 := blk_frozen BK180.out 0; have hfz48_1 := blk_frozen BK180.out 1; have hfz48_2 := blk_frozen BK180.out 2) | ((with_reducible refine gate_dst (N := 27) rfl ?_); refine Kd.R_lit (Kd.int .i64) _ 3 ?hg (N := 27) ?hd (xs := ([0, 1000000000000, 1000000000001, (-1000000000000), (-1000000000001)] : List Int)) (inner := [.int .i64 0, .int .i64 1000000000000, .int .i64 1000000000001, .int .i64 (-1000000000000), .int .i64 (-1000000000001)]) (ok := fun _ => True) (okp := fun _ => True) ?hr ?hp (fun _ hk => hk) trivial (Below.refl _ _) (Nat.le_refl _) (by simp) ?_; (case hd => rfl); (case hg => rfl); (case hr => first | (go_simp; done) | (go_simp; rfl)); (case hp => exact (Reps.one (show Kd.M (Kd.int .i64) _ _ _ 0 [.int .i64 0] from rfl) (Reps.one (show Kd.M (Kd.int .i64) _ _ _ 1000000000000 [.int .i64 1000000000000] from rfl) (Reps.one (show Kd.M (Kd.int .i64) _ _ _ 1000000000001 [.int .i64 1000000000001] from rfl) (Reps.one (show Kd.M (Kd.int .i64) _ _ _ (-1000000000000) [.int .i64 (-1000000000000)] from rfl) (Reps.one (show Kd.M (Kd.int .i64) _ _ _ (-1000000000001) [.int .i64 (-1000000000001)] from rfl) (Reps.none _ _))))))); intro v184 w49 ho50 hb hg_ hnew_; clear hg_ hnew_; (first | rw [← Ny183.out] at ho50 | (simp only [Int.reduceToNat] at ho50; rw [← Ny183.out] at ho50)); have n0_ := Aside0.mk (Kd.R_lower ho50 (below_size (by repeat (first | (with_reducible first | exact HB.out | apply below_alloc | apply pw_below_drewN | apply below_drew1 | refine below_set ?_ (IsS52.ge HI174.out) | refine below_set ?_ GE170.out | refine below_set ?_ GE179.out | refine below_set ?_ GE180.out | refine below_set ?_ GE181.out) | exact HB.out)))); have n1_ := Aside0.mk (blk_below (g := gb170) (o := .cells #[.int .i64 a0_0, .string a0_1, .int .i64 a0_2] 23 (0, 0)) (by (with_reducible repeat (first | refine blk_drewN ?_ _ | refine blk_drew ?_ | refine blk_alloc ?_ _)); refine blk_far ?_ NB170_180.out _; (with_reducible repeat (first | refine blk_drewN ?_ _ | refine blk_drew ?_ | refine blk_alloc ?_ _)); refine blk_far ?_ NB170_181.out _; (with_reducible repeat (first | refine blk_drewN ?_ _ | refine blk_drew ?_ | refine blk_alloc ?_ _)); refine blk_far ?_ NB170_181.out _; (with_reducible repeat (first | refine blk_drewN ?_ _ | refine blk_drew ?_ | refine blk_alloc ?_ _)); refine blk_far ?_ NB170_181.out _; (with_reducible repeat (first | refine blk_drewN ?_ _ | refine blk_drew ?_ | refine blk_alloc ?_ _)); refine blk_far ?_ NB170_180.out _; (with_reducible repeat (first | refine blk_drewN ?_ _ | refine blk_drew ?_ | refine blk_alloc ?_ _)); refine blk_far ?_ NB170_180.out _; (with_reducible repeat (first | refine blk_drewN ?_ _ | refine blk_drew ?_ | refine blk_alloc ?_ _)); refine blk_far ?_ NB170_180.out _; (with_reducible repeat (first | refine blk_drewN ?_ _ | refine blk_drew ?_ | refine blk_alloc ?_ _)); exact BK170.out) hb); have n2_ := Aside0.mk (IsS52.below (show IsS52 w _ g174 t172 t178 from by repeat (first | (with_reducible first | exact HI174.out | apply IsS52.alloc | apply IsS52.drewN | apply IsS52.drew | apply IsS52.set_1 | refine IsS52.far ?_ NB174_170.out _ | refine IsS52.far ?_ NB174_179.out _ | refine IsS52.far ?_ NB174_180.out _ | refine IsS52.far ?_ NB174_181.out _) | exact HI174.out)) hb); have n3_ := Aside0.mk (blk_below (g := gb179) (o := .cells #[.int .i64 t175, .string t176, .int .i64 t177] 23 (0, 0)) (by (with_reducible repeat (first | refine blk_drewN ?_ _ | refine blk_drew ?_ | refine blk_alloc ?_ _)); refine blk_far ?_ NB179_180.out _; (with_reducible repeat (first | refine blk_drewN ?_ _ | refine blk_drew ?_ | refine blk_alloc ?_ _)); refine blk_far ?_ NB179_181.out _; (with_reducible repeat (first | refine blk_drewN ?_ _ | refine blk_drew ?_ | refine blk_alloc ?_ _)); refine blk_far ?_ NB179_181.out _; (with_reducible repeat (first | refine blk_drewN ?_ _ | refine blk_drew ?_ | refine blk_alloc ?_ _)); refine blk_far ?_ NB179_181.out _; (with_reducible repeat (first | refine blk_drewN ?_ _ | refine blk_drew ?_ | refine blk_alloc ?_ _)); refine blk_far ?_ NB179_180.out _; (with_reducible repeat (first | refine blk_drewN ?_ _ | refine blk_drew ?_ | refine blk_alloc ?_ _)); refine blk_far ?_ NB179_180.out _; (with_reducible repeat (first | refine blk_drewN ?_ _ | refine blk_drew ?_ | refine blk_alloc ?_ _)); refine blk_far ?_ NB179_180.out _; (with_reducible repeat (first | refine blk_drewN ?_ _ | refine blk_drew ?_ | refine blk_alloc ?_ _)); exact BK179.out) hb); have n4_ := Aside0.mk (blk_below (g := gb180) (o := .cells #[.int .i64 (wrap64 (t182 - 1)), .string t176, .int .i64 t177] 23 (0, 0)) (by (with_reducible repeat (first | refine blk_drewN ?_ _ | refine blk_drew ?_ | refine blk_alloc ?_ _)); refine blk_put (cs := #[.int .i64 t175, .string t176, .int .i64 t177]) ?_ 0 _ rfl; (with_reducible repeat (first | refine blk_drewN ?_ _ | refine blk_drew ?_ | refine blk_alloc ?_ _)); refine blk_far ?_ NB180_181.out _; (with_reducible repeat (first | refine blk_drewN ?_ _ | refine blk_drew ?_ | refine blk_alloc ?_ _)); refine blk_far ?_ NB180_181.out _; (with_reducible repeat (first | refine blk_drewN ?_ _ | refine blk_drew ?_ | refine blk_alloc ?_ _)); refine blk_far ?_ NB180_181.out _; (with_reducible repeat (first | refine blk_drewN ?_ _ | refine blk_drew ?_ | refine blk_alloc ?_ _)); refine blk_put (cs := #[.int .i64 t175, .string t176, .int .i64 0]) ?_ 2 _ rfl; (with_reducible repeat (first | refine blk_drewN ?_ _ | refine blk_drew ?_ | refine blk_alloc ?_ _)); refine blk_put (cs := #[.int .i64 t175, .string (⟨#[]⟩ : ByteArray), .int .i64 0]) ?_ 1 _ rfl; (with_reducible repeat (first | refine blk_drewN ?_ _ | refine blk_drew ?_ | refine blk_alloc ?_ _)); refine blk_put (cs := #[.int .i64 0, .string (⟨#[]⟩ : ByteArray), .int .i64 0]) ?_ 0 _ rfl; (with_reducible repeat (first | refine blk_drewN ?_ _ | refine blk_drew ?_ | refine blk_alloc ?_ _)); exact BK180.out) hb); have n5_ := Aside0.mk (blk_below (g := gb181) (o := .cells #[.int .i64 t175, .string t176, .int .i64 t177] 23 (0, 0)) (by (with_reducible repeat (first | refine blk_drewN ?_ _ | refine blk_drew ?_ | refine blk_alloc ?_ _)); refine blk_far ?_ NB181_180.out _; (with_reducible repeat (first | refine blk_drewN ?_ _ | refine blk_drew ?_ | refine blk_alloc ?_ _)); refine blk_put (cs := #[.int .i64 t175, .string t176, .int .i64 0]) ?_ 2 _ rfl; (with_reducible repeat (first | refine blk_drewN ?_ _ | refine blk_drew ?_ | refine blk_alloc ?_ _)); refine blk_put (cs := #[.int .i64 t175, .string (⟨#[]⟩ : ByteArray), .int .i64 0]) ?_ 1 _ rfl; (with_reducible repeat (first | refine blk_drewN ?_ _ | refine blk_drew ?_ | refine blk_alloc ?_ _)); refine blk_put (cs := #[.int .i64 0, .string (⟨#[]⟩ : ByteArray), .int .i64 0]) ?_ 0 _ rfl; (with_reducible repeat (first | refine blk_drewN ?_ _ | refine blk_drew ?_ | refine blk_alloc ?_ _)); refine blk_far ?_ NB181_180.out _; (with_reducible repeat (first | refine blk_drewN ?_ _ | refine blk_drew ?_ | refine blk_alloc ?_ _)); refine blk_far ?_ NB181_180.out _; (with_reducible repeat (first | refine blk_drewN ?_ _ | refine blk_drew ?_ | refine blk_alloc ?_ _)); refine blk_far ?_ NB181_180.out _; (with_reducible repeat (first | refine blk_drewN ?_ _ | refine blk_drew ?_ | refine blk_alloc ?_ _)); exact BK181.out) hb); have n6_ := Aside0.mk (below_step (by repeat (first | (with_reducible first | exact HB.out | apply below_alloc | apply pw_below_drewN | apply below_drew1 | refine below_set ?_ (IsS52.ge HI174.out) | refine below_set ?_ GE170.out | refine below_set ?_ GE179.out | refine below_set ?_ GE180.out | refine below_set ?_ GE181.out) | exact HB.out)) hb); clear BK170; clear HI174; clear BK179; clear BK180; clear BK181; clear HB; have HO185 := n0_; have BK170 := n1_; have HI174 := n2_; have BK179 := n3_; have BK180 := n4_; have BK181 := n5_; have HB := n6_; clear n0_ n1_ n2_ n3_ n4_ n5_ n6_; clear hb ho50; obtain ⟨Ao51, co51, eo51⟩ := Kd.R_slice HO185.out; subst eo51) | ((with_reducible refine gate_callee (f := 12) rfl ?_); refine goesL_ (some 28) rfl rfl Tryd.func12 (by kernel_rfl) rfl #[.pointer (some ⟨g174, 0, none⟩), .slice Ao51 y183.length co51] rfl (by (try simp only [List.map_toArray, List.map_cons, List.map_nil]); first | done | rfl | (simp only [List.length_drop, List.length_take]; rfl)) ?_; (with_reducible refine (paygen_Deck_Pick.calls k g174 t172 t178 _ _ y183 t186 t187 w _ ?side1 ?side2 ?side3 ?side4 ?side5 A12.out).mono ?_); (case side1 => repeat (first | (with_reducible first | exact HI174.out | apply IsS52.alloc | apply IsS52.drewN | apply IsS52.drew | apply IsS52.set_1 | refine IsS52.far ?_ NB174_170.out _ | refine IsS52.far ?_ NB174_179.out _ | refine IsS52.far ?_ NB174_180.out _ | refine IsS52.far ?_ NB174_181.out _) | exact HI174.out)); (case side2 => repeat (first | (with_reducible first | exact HB.out | apply below_alloc | apply pw_below_drewN | apply below_drew1 | refine below_set ?_ (IsS52.ge HI174.out) | refine below_set ?_ GE170.out | refine below_set ?_ GE179.out | refine below_set ?_ GE180.out | refine below_set ?_ GE181.out) | exact HB.out)); (case side3 => repeat (first | exact (Kd.R_reads' HO185.out).2.2 | (with_reducible refine Kd.C_alloc ?_ _) | (with_reducible refine Kd.C_drewN ?_ _) | (with_reducible refine Kd.C_drew ?_))); (case side4 => exact (Kd.R_reads' HO185.out).2.1); (case side5 => exact far_slice (IsS52.own_ne HI174.out HO185.out (by decide))); rintro e w52 ⟨rfl, hi, hb, hk⟩; refine ⟨_, rfl, ?_⟩; have n0_ := Aside0.mk (KeepBut.blk hk (g' := gb170) (o := .cells #[.int .i64 a0_0, .string a0_1, .int .i64 a0_2] 23 (0, 0)) (by (with_reducible repeat (first | refine blk_drewN ?_ _ | refine blk_drew ?_ | refine blk_alloc ?_ _)); exact BK170.out) NB170_174.out (by simp)); have n1_ := Aside0.mk (KeepBut.blk hk (g' := gb179) (o := .cells #[.int .i64 t175, .string t176, .int .i64 t177] 23 (0, 0)) (by (with_reducible repeat (first | refine blk_drewN ?_ _ | refine blk_drew ?_ | refine blk_alloc ?_ _)); exact BK179.out) NB179_174.out (by simp)); have n2_ := Aside0.mk (KeepBut.blk hk (g' := gb180) (o := .cells #[.int .i64 (wrap64 (t182 - 1)), .string t176, .int .i64 t177] 23 (0, 0)) (by (with_reducible repeat (first | refine blk_drewN ?_ _ | refine blk_drew ?_ | refine blk_alloc ?_ _)); exact BK180.out) NB180_174.out (by simp)); have n3_ := Aside0.mk (KeepBut.blk hk (g' := gb181) (o := .cells #[.int .i64 t175, .string t176, .int .i64 t177] 23 (0, 0)) (by (with_reducible repeat (first | refine blk_drewN ?_ _ | refine blk_drew ?_ | refine blk_alloc ?_ _)); exact BK181.out) NB181_174.out (by simp)); have n4_ := Aside0.mk (Kd.R_mono (Kd.R_keep (IsS52.apart (show IsS52 w _ g174 t172 t178 from by repeat (first | (with_reducible first | exact HI174.out | apply IsS52.alloc | apply IsS52.drewN | apply IsS52.drew | apply IsS52.set_1 | refine IsS52.far ?_ NB174_170.out _ | refine IsS52.far ?_ NB174_179.out _ | refine IsS52.far ?_ NB174_180.out _ | refine IsS52.far ?_ NB174_181.out _) | exact HI174.out)) (by (with_reducible repeat (first | apply Kd.R_alloc | apply Kd.R_drewN | apply Kd.R_drew)); exact HO185.out) (by decide)) hk (fun _ h => h.2)) (fun _ h => h.1)); have n5_ := Aside0.mk (hb); have n6_ := Aside0.mk (hi); clear BK170; clear BK179; clear BK180; clear BK181; clear HO185; clear HB; clear HI174; have BK170 := n0_; have BK179 := n1_; have BK180 := n2_; have BK181 := n3_; have HO185 := n4_; have HB := n5_; have HI174 := n6_; clear n0_ n1_ n2_ n3_ n4_ n5_ n6_; (try clear hb); (try clear hb2); (try clear hk); (try clear hi); have hnb53 := NB181_170.out; have hnc53 := NB170_181.out; have hnb54 := NB181_179.out; have hnc54 := NB179_181.out; have hnb55 := NB181_174.out; have hnc55 := NB174_181.out; have hcz56_0 : w52.cell? ⟨gb181, 0, none⟩ = some (.int .i64 t175) := (blk_cell BK181.out 0).trans rfl; have hcz56_1 : w52.cell? ⟨gb181, 1, none⟩ = some (.string t176) := (blk_cell BK181.out 1).trans rfl; have hcz56_2 : w52.cell? ⟨gb181, 2, none⟩ = some (.int .i64 t177) := (blk_cell BK181.out 2).trans rfl; have hfz56_0 := blk_frozen BK181.out 0; have hfz56_1 := blk_frozen BK181.out 1; have hfz56_2 := blk_frozen BK181.out 2))
            have n0_ : Aside0 (Kd.R (Kd.int .i64) 3 (w52.setCell ⟨gb181, 2, none⟩ (.int .i64 t186)) w.heap.size (fun _ => True) (.slice Ao51 y183.length co51) y183) := ⟨by (with_reducible repeat (first | apply Kd.R_alloc | apply Kd.R_drewN | apply Kd.R_drew)); exact Kd.R_mono (Kd.R_far (p := ⟨gb181, 2, none⟩) (Kd.R_types HO185.out BK181.out (by decide)) (fun _ hk => hk.2) (.int .i64 t186)) (fun _ hk => trivial)⟩
            have n1_ : Aside0 ((w52.setCell ⟨gb181, 2, none⟩ (.int .i64 t186)).heap[gb170]? = some (.cells #[.int .i64 a0_0, .string a0_1, .int .i64 a0_2] 23 (0, 0))) := ⟨by (with_reducible repeat (first | refine blk_drewN ?_ _ | refine blk_drew ?_ | refine blk_alloc ?_ _)); refine blk_far ?_ NB170_181.out _; (with_reducible repeat (first | refine blk_drewN ?_ _ | refine blk_drew ?_ | refine blk_alloc ?_ _)); exact BK170.out⟩
            have n2_ : Aside0 ((w52.setCell ⟨gb181, 2, none⟩ (.int .i64 t186)).heap[gb179]? = some (.cells #[.int .i64 t175, .string t176, .int .i64 t177] 23 (0, 0))) := ⟨by (with_reducible repeat (first | refine blk_drewN ?_ _ | refine blk_drew ?_ | refine blk_alloc ?_ _)); refine blk_far ?_ NB179_181.out _; (with_reducible repeat (first | refine blk_drewN ?_ _ | refine blk_drew ?_ | refine blk_alloc ?_ _)); exact BK179.out⟩
            have n3_ : Aside0 ((w52.setCell ⟨gb181, 2, none⟩ (.int .i64 t186)).heap[gb180]? = some (.cells #[.int .i64 (wrap64 (t182 - 1)), .string t176, .int .i64 t177] 23 (0, 0))) := ⟨by (with_reducible repeat (first | refine blk_drewN ?_ _ | refine blk_drew ?_ | refine blk_alloc ?_ _)); refine blk_far ?_ NB180_181.out _; (with_reducible repeat (first | refine blk_drewN ?_ _ | refine blk_drew ?_ | refine blk_alloc ?_ _)); exact BK180.out⟩
            have n4_ : Aside0 ((w52.setCell ⟨gb181, 2, none⟩ (.int .i64 t186)).heap[gb181]? = some (.cells #[.int .i64 t175, .string t176, .int .i64 t186] 23 (0, 0))) := ⟨by (with_reducible repeat (first | refine blk_drewN ?_ _ | refine blk_drew ?_ | refine blk_alloc ?_ _)); refine blk_put (cs := #[.int .i64 t175, .string t176, .int .i64 t177]) ?_ 2 _ rfl; (with_reducible repeat (first | refine blk_drewN ?_ _ | refine blk_drew ?_ | refine blk_alloc ?_ _)); exact BK181.out⟩
            have n5_ : Aside0 (IsS52 w (w52.setCell ⟨gb181, 2, none⟩ (.int .i64 t186)) g174 t172 t187) := ⟨by repeat (first | (with_reducible first | exact HI174.out | apply IsS52.alloc | apply IsS52.drewN | apply IsS52.drew | apply IsS52.set_1 | refine IsS52.far ?_ NB174_170.out _ | refine IsS52.far ?_ NB174_179.out _ | refine IsS52.far ?_ NB174_180.out _ | refine IsS52.far ?_ NB174_181.out _) | exact HI174.out)⟩
            have n6_ : Aside0 (Below w.heap.size w (w52.setCell ⟨gb181, 2, none⟩ (.int .i64 t186))) := ⟨by repeat (first | (with_reducible first | exact HB.out | apply below_alloc | apply pw_below_drewN | apply below_drew1 | refine below_set ?_ (IsS52.ge HI174.out) | refine below_set ?_ GE170.out | refine below_set ?_ GE179.out | refine below_set ?_ GE180.out | refine below_set ?_ GE181.out) | exact HB.out)⟩
            (try clear HO185)
            (try clear BK170)
            (try clear BK179)
            (try clear BK180)
            (try clear BK181)
            (try clear HI174)
            (try clear HB)
            generalize (w52.setCell ⟨gb181, 2, none⟩ (.int .i64 t186)) = w57 at n0_ n1_ n2_ n3_ n4_ n5_ n6_ ⊢
            have HO185 := n0_
            have BK170 := n1_
            have BK179 := n2_
            have BK180 := n3_
            have BK181 := n4_
            have HI174 := n5_
            have HB := n6_
            clear n0_ n1_ n2_ n3_ n4_ n5_ n6_
            have n0_ := Aside0.mk (Kd.R_drew HO185.out)
            have n1_ := Aside0.mk (blk_drew BK170.out)
            have n2_ := Aside0.mk (blk_drew BK179.out)
            have n3_ := Aside0.mk (blk_drew BK180.out)
            have n4_ := Aside0.mk (blk_drew BK181.out)
            have n5_ := Aside0.mk (IsS52.drew HI174.out)
            have n6_ := Aside0.mk (below_drew1 HB.out)
            clear HO185
            clear BK170
            clear BK179
            clear BK180
            clear BK181
            clear HI174
            clear HB
            have HO185 := n0_
            have BK170 := n1_
            have BK179 := n2_
            have BK180 := n3_
            have BK181 := n4_
            have HI174 := n5_
            have HB := n6_
            clear n0_ n1_ n2_ n3_ n4_ n5_ n6_
            refine start_ (n := 27) (S := fun w' => w'.cell? ⟨gb170, 0, none⟩ = some (.int .i64 a0_0) ∧ w'.cell? ⟨gb170, 1, none⟩ = some (.string a0_1) ∧ w'.cell? ⟨gb170, 2, none⟩ = some (.int .i64 a0_2) ∧ w'.cell? ⟨gb179, 0, none⟩ = some (.int .i64 t175) ∧ w'.cell? ⟨gb179, 1, none⟩ = some (.string t176) ∧ w'.cell? ⟨gb179, 2, none⟩ = some (.int .i64 t177) ∧ w'.cell? ⟨gb180, 0, none⟩ = some (.int .i64 (wrap64 (t182 - 1))) ∧ w'.cell? ⟨gb180, 1, none⟩ = some (.string t176) ∧ w'.cell? ⟨gb180, 2, none⟩ = some (.int .i64 t177) ∧ w'.cell? ⟨gb181, 0, none⟩ = some (.int .i64 t175) ∧ w'.cell? ⟨gb181, 1, none⟩ = some (.string t176) ∧ w'.cell? ⟨gb181, 2, none⟩ = some (.int .i64 t186)) (ds := []) #[false, false, false, false, false, false, false, false, false, false, false, false, false, false, false, false, false, false, false, false, false, false, false, false, false, false, false] (by kernel_rfl) rfl rfl ⟨(blk_cell BK170.out 0).trans rfl, (blk_cell BK170.out 1).trans rfl, (blk_cell BK170.out 2).trans rfl, (blk_cell BK179.out 0).trans rfl, (blk_cell BK179.out 1).trans rfl, (blk_cell BK179.out 2).trans rfl, (blk_cell BK180.out 0).trans rfl, (blk_cell BK180.out 1).trans rfl, (blk_cell BK180.out 2).trans rfl, (blk_cell BK181.out 0).trans rfl, (blk_cell BK181.out 1).trans rfl, (blk_cell BK181.out 2).trans rfl⟩ (fun hHeld => ?_); refine with_tabW payrolllaw34_PayslipForms.tab8 payrolllaw34_PayslipForms.bits8 (fun HT_ HW_ => ?_)
            generalize w57.drew = w58 at HO185 BK170 BK179 BK180 BK181 HI174 HB hHeld ⊢
            refine take_ (i := 0) (N := some 30) (v := ?_) (a' := ?_) #[true, false, false, false, false, false, false, false, false, false, false, false, false, false, false, false, false, false, false, false, false, false, false, false, false, false, false] rfl rfl (take_ofW HT_.out HW_.out (by kernel_rfl)) (fun _ _ _ h => h) (Or.inl ⟨by rfl, ?_⟩) hHeld ?_ ?_
            rotate_left
            · rintro w' ⟨s0, s1, s2, s3, s4, s5, s6, s7, s8, s9, s10, s11⟩
              go_simp
              with_reducible rfl
            rotate_left
            · simp only [Act.put, List.setIfInBounds_toArray, List.set_cons_zero, List.set_cons_succ, i64_w, i32_w]
              rfl
            refine take_ (i := 2) (N := some 32) (v := ?_) (a' := ?_) #[true, false, true, false, false, false, false, false, false, false, false, false, false, false, false, false, false, false, false, false, false, false, false, false, false, false, false] rfl rfl (take_ofW HT_.out HW_.out (by kernel_rfl)) (fun _ _ _ h => h) (Or.inl ⟨by rfl, ?_⟩) hHeld ?_ ?_
            rotate_left
            · rintro w' ⟨s0, s1, s2, s3, s4, s5, s6, s7, s8, s9, s10, s11⟩
              go_simp
              with_reducible rfl
            rotate_left
            · simp only [Act.put, List.setIfInBounds_toArray, List.set_cons_zero, List.set_cons_succ, i64_w, i32_w]
              rfl
            refine one_ (i := 1) (N := some 31) #[true, true, true, false, false, false, false, false, false, false, false, false, false, false, false, false, false, false, false, false, false, false, false, false, false, false, false] rfl rfl (one_of HT_.out (by kernel_rfl)) (by decide) (fun K hK => ?_)
            refine goes_ Tryd.func13 (by kernel_rfl) rfl #[.agg #[.int .i64 a0_0, .string a0_1, .int .i64 a0_2]] (by rfl) rfl rfl (by (try simp only [List.map_toArray, List.map_cons, List.map_nil]); first | done | rfl | (simp only [List.length_drop, List.length_take]; rfl)) ?_
            with_reducible refine (payslip_Form.calls k a0_0 a0_1 a0_2 t188 _ A13.out).mono ?_
            rintro e w59 ⟨rfl, hb⟩
            refine ⟨_, rfl, ?_⟩
            have n0_ := Aside0.mk (Kd.R_below (by (with_reducible repeat (first | apply Kd.R_alloc | apply Kd.R_drewN | apply Kd.R_drew)); exact HO185.out) hb)
            have n1_ := Aside0.mk (blk_below (g := gb170) (o := .cells #[.int .i64 a0_0, .string a0_1, .int .i64 a0_2] 23 (0, 0)) (by (with_reducible repeat (first | refine blk_drewN ?_ _ | refine blk_drew ?_ | refine blk_alloc ?_ _)); exact BK170.out) hb)
            have n2_ := Aside0.mk (IsS52.below (by repeat (first | (with_reducible first | exact HI174.out | apply IsS52.alloc | apply IsS52.drewN | apply IsS52.drew | apply IsS52.set_1 | refine IsS52.far ?_ NB174_170.out _ | refine IsS52.far ?_ NB174_179.out _ | refine IsS52.far ?_ NB174_180.out _ | refine IsS52.far ?_ NB174_181.out _) | exact HI174.out)) hb)
            have n3_ := Aside0.mk (blk_below (g := gb179) (o := .cells #[.int .i64 t175, .string t176, .int .i64 t177] 23 (0, 0)) (by (with_reducible repeat (first | refine blk_drewN ?_ _ | refine blk_drew ?_ | refine blk_alloc ?_ _)); exact BK179.out) hb)
            have n4_ := Aside0.mk (blk_below (g := gb180) (o := .cells #[.int .i64 (wrap64 (t182 - 1)), .string t176, .int .i64 t177] 23 (0, 0)) (by (with_reducible repeat (first | refine blk_drewN ?_ _ | refine blk_drew ?_ | refine blk_alloc ?_ _)); exact BK180.out) hb)
            have n5_ := Aside0.mk (blk_below (g := gb181) (o := .cells #[.int .i64 t175, .string t176, .int .i64 t186] 23 (0, 0)) (by (with_reducible repeat (first | refine blk_drewN ?_ _ | refine blk_drew ?_ | refine blk_alloc ?_ _)); exact BK181.out) hb)
            have n6_ := Aside0.mk (below_step (by repeat (first | (with_reducible first | exact HB.out | apply below_alloc | apply pw_below_drewN | apply below_drew1 | refine below_set ?_ (IsS52.ge HI174.out) | refine below_set ?_ GE170.out | refine below_set ?_ GE179.out | refine below_set ?_ GE180.out | refine below_set ?_ GE181.out) | exact HB.out)) hb)
            clear HO185
            clear BK170
            clear HI174
            clear BK179
            clear BK180
            clear BK181
            clear HB
            have HO185 := n0_
            have BK170 := n1_
            have HI174 := n2_
            have BK179 := n3_
            have BK180 := n4_
            have BK181 := n5_
            have HB := n6_
            clear n0_ n1_ n2_ n3_ n4_ n5_ n6_
            (try clear hb)
            (try clear hb2)
            (try clear hk)
            (try clear hi)
            refine hK.out _ _ ⟨(blk_cell BK170.out 0).trans rfl, (blk_cell BK170.out 1).trans rfl, (blk_cell BK170.out 2).trans rfl, (blk_cell BK179.out 0).trans rfl, (blk_cell BK179.out 1).trans rfl, (blk_cell BK179.out 2).trans rfl, (blk_cell BK180.out 0).trans rfl, (blk_cell BK180.out 1).trans rfl, (blk_cell BK180.out 2).trans rfl, (blk_cell BK181.out 0).trans rfl, (blk_cell BK181.out 1).trans rfl, (blk_cell BK181.out 2).trans rfl⟩ (fun hHeld => ?_)
            clear hK K
            refine norm_ (a' := ?_) ?_ ?_
            rotate_left
            · show Act.put _ (some 31) _ = _
              simp only [Act.put, List.setIfInBounds_toArray, List.set_cons_zero, List.set_cons_succ, i64_w, i32_w]
              rfl
            refine one_ (i := 3) (N := some 33) #[true, true, true, true, false, false, false, false, false, false, false, false, false, false, false, false, false, false, false, false, false, false, false, false, false, false, false] rfl rfl (one_of HT_.out (by kernel_rfl)) (by decide) (fun K hK => ?_)
            refine goes_ Tryd.func14 (by kernel_rfl) rfl #[.agg #[.int .i64 a0_0, .string a0_1, .int .i64 a0_2]] (by rfl) rfl rfl (by (try simp only [List.map_toArray, List.map_cons, List.map_nil]); first | done | rfl | (simp only [List.length_drop, List.length_take]; rfl)) ?_
            with_reducible refine (payrollref34_Form.calls k a0_0 a0_1 a0_2 t189 _ A14.out).mono ?_
            rintro e w60 ⟨rfl, hb⟩
            refine ⟨_, rfl, ?_⟩
            have n0_ := Aside0.mk (Kd.R_below (by (with_reducible repeat (first | apply Kd.R_alloc | apply Kd.R_drewN | apply Kd.R_drew)); exact HO185.out) hb)
            have n1_ := Aside0.mk (blk_below (g := gb170) (o := .cells #[.int .i64 a0_0, .string a0_1, .int .i64 a0_2] 23 (0, 0)) (by (with_reducible repeat (first | refine blk_drewN ?_ _ | refine blk_drew ?_ | refine blk_alloc ?_ _)); exact BK170.out) hb)
            have n2_ := Aside0.mk (IsS52.below (by repeat (first | (with_reducible first | exact HI174.out | apply IsS52.alloc | apply IsS52.drewN | apply IsS52.drew | apply IsS52.set_1 | refine IsS52.far ?_ NB174_170.out _ | refine IsS52.far ?_ NB174_179.out _ | refine IsS52.far ?_ NB174_180.out _ | refine IsS52.far ?_ NB174_181.out _) | exact HI174.out)) hb)
            have n3_ := Aside0.mk (blk_below (g := gb179) (o := .cells #[.int .i64 t175, .string t176, .int .i64 t177] 23 (0, 0)) (by (with_reducible repeat (first | refine blk_drewN ?_ _ | refine blk_drew ?_ | refine blk_alloc ?_ _)); exact BK179.out) hb)
            have n4_ := Aside0.mk (blk_below (g := gb180) (o := .cells #[.int .i64 (wrap64 (t182 - 1)), .string t176, .int .i64 t177] 23 (0, 0)) (by (with_reducible repeat (first | refine blk_drewN ?_ _ | refine blk_drew ?_ | refine blk_alloc ?_ _)); exact BK180.out) hb)
            have n5_ := Aside0.mk (blk_below (g := gb181) (o := .cells #[.int .i64 t175, .string t176, .int .i64 t186] 23 (0, 0)) (by (with_reducible repeat (first | refine blk_drewN ?_ _ | refine blk_drew ?_ | refine blk_alloc ?_ _)); exact BK181.out) hb)
            have n6_ := Aside0.mk (below_step (by repeat (first | (with_reducible first | exact HB.out | apply below_alloc | apply pw_below_drewN | apply below_drew1 | refine below_set ?_ (IsS52.ge HI174.out) | refine below_set ?_ GE170.out | refine below_set ?_ GE179.out | refine below_set ?_ GE180.out | refine below_set ?_ GE181.out) | exact HB.out)) hb)
            clear HO185
            clear BK170
            clear HI174
            clear BK179
            clear BK180
            clear BK181
            clear HB
            have HO185 := n0_
            have BK170 := n1_
            have HI174 := n2_
            have BK179 := n3_
            have BK180 := n4_
            have BK181 := n5_
            have HB := n6_
            clear n0_ n1_ n2_ n3_ n4_ n5_ n6_
            (try clear hb)
            (try clear hb2)
            (try clear hk)
            (try clear hi)
            refine hK.out _ _ ⟨(blk_cell BK170.out 0).trans rfl, (blk_cell BK170.out 1).trans rfl, (blk_cell BK170.out 2).trans rfl, (blk_cell BK179.out 0).trans rfl, (blk_cell BK179.out 1).trans rfl, (blk_cell BK179.out 2).trans rfl, (blk_cell BK180.out 0).trans rfl, (blk_cell BK180.out 1).trans rfl, (blk_cell BK180.out 2).trans rfl, (blk_cell BK181.out 0).trans rfl, (blk_cell BK181.out 1).trans rfl, (blk_cell BK181.out 2).trans rfl⟩ (fun hHeld => ?_)
            clear hK K
            refine norm_ (a' := ?_) ?_ ?_
            rotate_left
            · show Act.put _ (some 33) _ = _
              simp only [Act.put, List.setIfInBounds_toArray, List.set_cons_zero, List.set_cons_succ, i64_w, i32_w]
              rfl
            refine pure_ (i := 4) (N := some 34) (v := ?_) (a' := ?_) #[true, true, true, true, true, false, false, false, false, false, false, false, false, false, false, false, false, false, false, false, false, false, false, false, false, false, false] rfl rfl (any_of HT_.out (by kernel_rfl)) (fun _ _ _ h => h) (Or.inl ⟨by rfl, ?_⟩) ?_ ?_
            rotate_left
            · intro w'
              go_simp
              with_reducible rfl
            rotate_left
            · simp only [Act.put, List.setIfInBounds_toArray, List.set_cons_zero, List.set_cons_succ, i64_w, i32_w]
              rfl
            refine pure_ (i := 5) (N := some 35) (v := ?_) (a' := ?_) #[true, true, true, true, true, true, false, false, false, false, false, false, false, false, false, false, false, false, false, false, false, false, false, false, false, false, false] rfl rfl (any_of HT_.out (by kernel_rfl)) (fun _ _ _ h => h) (Or.inl ⟨by rfl, ?_⟩) ?_ ?_
            rotate_left
            · intro w'
              go_simp
              with_reducible rfl
            rotate_left
            · simp only [Act.put, List.setIfInBounds_toArray, List.set_cons_zero, List.set_cons_succ, i64_w, i32_w]
              rfl
            refine take_ (i := 6) (N := some 36) (v := ?_) (a' := ?_) #[true, true, true, true, true, true, true, false, false, false, false, false, false, false, false, false, false, false, false, false, false, false, false, false, false, false, false] rfl rfl (take_ofW HT_.out HW_.out (by kernel_rfl)) (fun _ _ _ h => h) (Or.inl ⟨by rfl, ?_⟩) hHeld ?_ ?_
            rotate_left
            · rintro w' ⟨s0, s1, s2, s3, s4, s5, s6, s7, s8, s9, s10, s11⟩
              go_simp
              with_reducible rfl
            rotate_left
            · simp only [Act.put, List.setIfInBounds_toArray, List.set_cons_zero, List.set_cons_succ, i64_w, i32_w]
              rfl
            refine one_ (i := 7) (N := some 37) #[true, true, true, true, true, true, true, true, false, false, false, false, false, false, false, false, false, false, false, false, false, false, false, false, false, false, false] rfl rfl (one_of HT_.out (by kernel_rfl)) (by decide) (fun K hK => ?_)
            refine goes_ Tryd.func13 (by kernel_rfl) rfl #[.agg #[.int .i64 t175, .string t176, .int .i64 t177]] (by rfl) rfl rfl (by (try simp only [List.map_toArray, List.map_cons, List.map_nil]); first | done | rfl | (simp only [List.length_drop, List.length_take]; rfl)) ?_
            with_reducible refine (payslip_Form.calls k t175 t176 t177 true _ A16.out).mono ?_
            rintro e w61 ⟨rfl, hb⟩
            refine ⟨_, rfl, ?_⟩
            have n0_ := Aside0.mk (Kd.R_below (by (with_reducible repeat (first | apply Kd.R_alloc | apply Kd.R_drewN | apply Kd.R_drew)); exact HO185.out) hb)
            have n1_ := Aside0.mk (blk_below (g := gb170) (o := .cells #[.int .i64 a0_0, .string a0_1, .int .i64 a0_2] 23 (0, 0)) (by (with_reducible repeat (first | refine blk_drewN ?_ _ | refine blk_drew ?_ | refine blk_alloc ?_ _)); exact BK170.out) hb)
            have n2_ := Aside0.mk (IsS52.below (by repeat (first | (with_reducible first | exact HI174.out | apply IsS52.alloc | apply IsS52.drewN | apply IsS52.drew | apply IsS52.set_1 | refine IsS52.far ?_ NB174_170.out _ | refine IsS52.far ?_ NB174_179.out _ | refine IsS52.far ?_ NB174_180.out _ | refine IsS52.far ?_ NB174_181.out _) | exact HI174.out)) hb)
            have n3_ := Aside0.mk (blk_below (g := gb179) (o := .cells #[.int .i64 t175, .string t176, .int .i64 t177] 23 (0, 0)) (by (with_reducible repeat (first | refine blk_drewN ?_ _ | refine blk_drew ?_ | refine blk_alloc ?_ _)); exact BK179.out) hb)
            have n4_ := Aside0.mk (blk_below (g := gb180) (o := .cells #[.int .i64 (wrap64 (t182 - 1)), .string t176, .int .i64 t177] 23 (0, 0)) (by (with_reducible repeat (first | refine blk_drewN ?_ _ | refine blk_drew ?_ | refine blk_alloc ?_ _)); exact BK180.out) hb)
            have n5_ := Aside0.mk (blk_below (g := gb181) (o := .cells #[.int .i64 t175, .string t176, .int .i64 t186] 23 (0, 0)) (by (with_reducible repeat (first | refine blk_drewN ?_ _ | refine blk_drew ?_ | refine blk_alloc ?_ _)); exact BK181.out) hb)
            have n6_ := Aside0.mk (below_step (by repeat (first | (with_reducible first | exact HB.out | apply below_alloc | apply pw_below_drewN | apply below_drew1 | refine below_set ?_ (IsS52.ge HI174.out) | refine below_set ?_ GE170.out | refine below_set ?_ GE179.out | refine below_set ?_ GE180.out | refine below_set ?_ GE181.out) | exact HB.out)) hb)
            clear HO185
            clear BK170
            clear HI174
            clear BK179
            clear BK180
            clear BK181
            clear HB
            have HO185 := n0_
            have BK170 := n1_
            have HI174 := n2_
            have BK179 := n3_
            have BK180 := n4_
            have BK181 := n5_
            have HB := n6_
            clear n0_ n1_ n2_ n3_ n4_ n5_ n6_
            (try clear hb)
            (try clear hb2)
            (try clear hk)
            (try clear hi)
            refine hK.out _ _ ⟨(blk_cell BK170.out 0).trans rfl, (blk_cell BK170.out 1).trans rfl, (blk_cell BK170.out 2).trans rfl, (blk_cell BK179.out 0).trans rfl, (blk_cell BK179.out 1).trans rfl, (blk_cell BK179.out 2).trans rfl, (blk_cell BK180.out 0).trans rfl, (blk_cell BK180.out 1).trans rfl, (blk_cell BK180.out 2).trans rfl, (blk_cell BK181.out 0).trans rfl, (blk_cell BK181.out 1).trans rfl, (blk_cell BK181.out 2).trans rfl⟩ (fun hHeld => ?_)
            clear hK K
            refine norm_ (a' := ?_) ?_ ?_
            rotate_left
            · show Act.put _ (some 37) _ = _
              simp only [Act.put, List.setIfInBounds_toArray, List.set_cons_zero, List.set_cons_succ, i64_w, i32_w]
              rfl
            refine pure_ (i := 8) (N := some 38) (v := ?_) (a' := ?_) #[true, true, true, true, true, true, true, true, true, false, false, false, false, false, false, false, false, false, false, false, false, false, false, false, false, false, false] rfl rfl (any_of HT_.out (by kernel_rfl)) (fun _ _ _ h => h) (Or.inl ⟨by rfl, ?_⟩) ?_ ?_
            rotate_left
            · intro w'
              go_simp
              with_reducible rfl
            rotate_left
            · simp only [Act.put, List.setIfInBounds_toArray, List.set_cons_zero, List.set_cons_succ, i64_w, i32_w]
              rfl
            refine pure_ (i := 9) (N := some 39) (v := ?_) (a' := ?_) #[true, true, true, true, true, true, true, true, true, true, false, false, false, false, false, false, false, false, false, false, false, false, false, false, false, false, false] rfl rfl (any_of HT_.out (by kernel_rfl)) (fun _ _ _ h => h) (Or.inl ⟨by rfl, ?_⟩) ?_ ?_
            rotate_left
            · intro w'
              go_simp
              with_reducible rfl
            rotate_left
            · simp only [Act.put, List.setIfInBounds_toArray, List.set_cons_zero, List.set_cons_succ, i64_w, i32_w]
              rfl
            refine take_ (i := 10) (N := some 40) (v := ?_) (a' := ?_) #[true, true, true, true, true, true, true, true, true, true, true, false, false, false, false, false, false, false, false, false, false, false, false, false, false, false, false] rfl rfl (take_ofW HT_.out HW_.out (by kernel_rfl)) (fun _ _ _ h => h) (Or.inl ⟨by rfl, ?_⟩) hHeld ?_ ?_
            rotate_left
            · rintro w' ⟨s0, s1, s2, s3, s4, s5, s6, s7, s8, s9, s10, s11⟩
              go_simp
              with_reducible rfl
            rotate_left
            · simp only [Act.put, List.setIfInBounds_toArray, List.set_cons_zero, List.set_cons_succ, i64_w, i32_w]
              rfl
            refine take_ (i := 12) (N := some 42) (v := ?_) (a' := ?_) #[true, true, true, true, true, true, true, true, true, true, true, false, true, false, false, false, false, false, false, false, false, false, false, false, false, false, false] rfl rfl (take_ofW HT_.out HW_.out (by kernel_rfl)) (fun _ _ _ h => h) (Or.inl ⟨by rfl, ?_⟩) hHeld ?_ ?_
            rotate_left
            · rintro w' ⟨s0, s1, s2, s3, s4, s5, s6, s7, s8, s9, s10, s11⟩
              go_simp
              with_reducible rfl
            rotate_left
            · simp only [Act.put, List.setIfInBounds_toArray, List.set_cons_zero, List.set_cons_succ, i64_w, i32_w]
              rfl
            refine one_ (i := 11) (N := some 41) #[true, true, true, true, true, true, true, true, true, true, true, true, true, false, false, false, false, false, false, false, false, false, false, false, false, false, false] rfl rfl (one_of HT_.out (by kernel_rfl)) (by decide) (fun K hK => ?_)
            refine goes_ Tryd.func13 (by kernel_rfl) rfl #[.agg #[.int .i64 (wrap64 (t182 - 1)), .string t176, .int .i64 t177]] (by rfl) rfl rfl (by (try simp only [List.map_toArray, List.map_cons, List.map_nil]); first | done | rfl | (simp only [List.length_drop, List.length_take]; rfl)) ?_
            with_reducible refine (payslip_Form.calls k (wrap64 (t182 - 1)) t176 t177 t191 _ A18.out).mono ?_
            rintro e w62 ⟨rfl, hb⟩
            refine ⟨_, rfl, ?_⟩
            have n0_ := Aside0.mk (Kd.R_below (by (with_reducible repeat (first | apply Kd.R_alloc | apply Kd.R_drewN | apply Kd.R_drew)); exact HO185.out) hb)
            have n1_ := Aside0.mk (blk_below (g := gb170) (o := .cells #[.int .i64 a0_0, .string a0_1, .int .i64 a0_2] 23 (0, 0)) (by (with_reducible repeat (first | refine blk_drewN ?_ _ | refine blk_drew ?_ | refine blk_alloc ?_ _)); exact BK170.out) hb)
            have n2_ := Aside0.mk (IsS52.below (by repeat (first | (with_reducible first | exact HI174.out | apply IsS52.alloc | apply IsS52.drewN | apply IsS52.drew | apply IsS52.set_1 | refine IsS52.far ?_ NB174_170.out _ | refine IsS52.far ?_ NB174_179.out _ | refine IsS52.far ?_ NB174_180.out _ | refine IsS52.far ?_ NB174_181.out _) | exact HI174.out)) hb)
            have n3_ := Aside0.mk (blk_below (g := gb179) (o := .cells #[.int .i64 t175, .string t176, .int .i64 t177] 23 (0, 0)) (by (with_reducible repeat (first | refine blk_drewN ?_ _ | refine blk_drew ?_ | refine blk_alloc ?_ _)); exact BK179.out) hb)
            have n4_ := Aside0.mk (blk_below (g := gb180) (o := .cells #[.int .i64 (wrap64 (t182 - 1)), .string t176, .int .i64 t177] 23 (0, 0)) (by (with_reducible repeat (first | refine blk_drewN ?_ _ | refine blk_drew ?_ | refine blk_alloc ?_ _)); exact BK180.out) hb)
            have n5_ := Aside0.mk (blk_below (g := gb181) (o := .cells #[.int .i64 t175, .string t176, .int .i64 t186] 23 (0, 0)) (by (with_reducible repeat (first | refine blk_drewN ?_ _ | refine blk_drew ?_ | refine blk_alloc ?_ _)); exact BK181.out) hb)
            have n6_ := Aside0.mk (below_step (by repeat (first | (with_reducible first | exact HB.out | apply below_alloc | apply pw_below_drewN | apply below_drew1 | refine below_set ?_ (IsS52.ge HI174.out) | refine below_set ?_ GE170.out | refine below_set ?_ GE179.out | refine below_set ?_ GE180.out | refine below_set ?_ GE181.out) | exact HB.out)) hb)
            clear HO185
            clear BK170
            clear HI174
            clear BK179
            clear BK180
            clear BK181
            clear HB
            have HO185 := n0_
            have BK170 := n1_
            have HI174 := n2_
            have BK179 := n3_
            have BK180 := n4_
            have BK181 := n5_
            have HB := n6_
            clear n0_ n1_ n2_ n3_ n4_ n5_ n6_
            (try clear hb)
            (try clear hb2)
            (try clear hk)
            (try clear hi)
            refine hK.out _ _ ⟨(blk_cell BK170.out 0).trans rfl, (blk_cell BK170.out 1).trans rfl, (blk_cell BK170.out 2).trans rfl, (blk_cell BK179.out 0).trans rfl, (blk_cell BK179.out 1).trans rfl, (blk_cell BK179.out 2).trans rfl, (blk_cell BK180.out 0).trans rfl, (blk_cell BK180.out 1).trans rfl, (blk_cell BK180.out 2).trans rfl, (blk_cell BK181.out 0).trans rfl, (blk_cell BK181.out 1).trans rfl, (blk_cell BK181.out 2).trans rfl⟩ (fun hHeld => ?_)
            clear hK K
            refine norm_ (a' := ?_) ?_ ?_
            rotate_left
            · show Act.put _ (some 41) _ = _
              simp only [Act.put, List.setIfInBounds_toArray, List.set_cons_zero, List.set_cons_succ, i64_w, i32_w]
              rfl
            refine one_ (i := 13) (N := some 43) #[true, true, true, true, true, true, true, true, true, true, true, true, true, true, false, false, false, false, false, false, false, false, false, false, false, false, false] rfl rfl (one_of HT_.out (by kernel_rfl)) (by decide) (fun K hK => ?_)
            refine goes_ Tryd.func14 (by kernel_rfl) rfl #[.agg #[.int .i64 (wrap64 (t182 - 1)), .string t176, .int .i64 t177]] (by rfl) rfl rfl (by (try simp only [List.map_toArray, List.map_cons, List.map_nil]); first | done | rfl | (simp only [List.length_drop, List.length_take]; rfl)) ?_
            with_reducible refine (payrollref34_Form.calls k (wrap64 (t182 - 1)) t176 t177 t192 _ A19.out).mono ?_
            rintro e w63 ⟨rfl, hb⟩
            refine ⟨_, rfl, ?_⟩
            have n0_ := Aside0.mk (Kd.R_below (by (with_reducible repeat (first | apply Kd.R_alloc | apply Kd.R_drewN | apply Kd.R_drew)); exact HO185.out) hb)
            have n1_ := Aside0.mk (blk_below (g := gb170) (o := .cells #[.int .i64 a0_0, .string a0_1, .int .i64 a0_2] 23 (0, 0)) (by (with_reducible repeat (first | refine blk_drewN ?_ _ | refine blk_drew ?_ | refine blk_alloc ?_ _)); exact BK170.out) hb)
            have n2_ := Aside0.mk (IsS52.below (by repeat (first | (with_reducible first | exact HI174.out | apply IsS52.alloc | apply IsS52.drewN | apply IsS52.drew | apply IsS52.set_1 | refine IsS52.far ?_ NB174_170.out _ | refine IsS52.far ?_ NB174_179.out _ | refine IsS52.far ?_ NB174_180.out _ | refine IsS52.far ?_ NB174_181.out _) | exact HI174.out)) hb)
            have n3_ := Aside0.mk (blk_below (g := gb179) (o := .cells #[.int .i64 t175, .string t176, .int .i64 t177] 23 (0, 0)) (by (with_reducible repeat (first | refine blk_drewN ?_ _ | refine blk_drew ?_ | refine blk_alloc ?_ _)); exact BK179.out) hb)
            have n4_ := Aside0.mk (blk_below (g := gb180) (o := .cells #[.int .i64 (wrap64 (t182 - 1)), .string t176, .int .i64 t177] 23 (0, 0)) (by (with_reducible repeat (first | refine blk_drewN ?_ _ | refine blk_drew ?_ | refine blk_alloc ?_ _)); exact BK180.out) hb)
            have n5_ := Aside0.mk (blk_below (g := gb181) (o := .cells #[.int .i64 t175, .string t176, .int .i64 t186] 23 (0, 0)) (by (with_reducible repeat (first | refine blk_drewN ?_ _ | refine blk_drew ?_ | refine blk_alloc ?_ _)); exact BK181.out) hb)
            have n6_ := Aside0.mk (below_step (by repeat (first | (with_reducible first | exact HB.out | apply below_alloc | apply pw_below_drewN | apply below_drew1 | refine below_set ?_ (IsS52.ge HI174.out) | refine below_set ?_ GE170.out | refine below_set ?_ GE179.out | refine below_set ?_ GE180.out | refine below_set ?_ GE181.out) | exact HB.out)) hb)
            clear HO185
            clear BK170
            clear HI174
            clear BK179
            clear BK180
            clear BK181
            clear HB
            have HO185 := n0_
            have BK170 := n1_
            have HI174 := n2_
            have BK179 := n3_
            have BK180 := n4_
            have BK181 := n5_
            have HB := n6_
            clear n0_ n1_ n2_ n3_ n4_ n5_ n6_
            (try clear hb)
            (try clear hb2)
            (try clear hk)
            (try clear hi)
            refine hK.out _ _ ⟨(blk_cell BK170.out 0).trans rfl, (blk_cell BK170.out 1).trans rfl, (blk_cell BK170.out 2).trans rfl, (blk_cell BK179.out 0).trans rfl, (blk_cell BK179.out 1).trans rfl, (blk_cell BK179.out 2).trans rfl, (blk_cell BK180.out 0).trans rfl, (blk_cell BK180.out 1).trans rfl, (blk_cell BK180.out 2).trans rfl, (blk_cell BK181.out 0).trans rfl, (blk_cell BK181.out 1).trans rfl, (blk_cell BK181.out 2).trans rfl⟩ (fun hHeld => ?_)
            clear hK K
            refine norm_ (a' := ?_) ?_ ?_
            rotate_left
            · show Act.put _ (some 43) _ = _
              simp only [Act.put, List.setIfInBounds_toArray, List.set_cons_zero, List.set_cons_succ, i64_w, i32_w]
              rfl
            refine pure_ (i := 14) (N := some 44) (v := ?_) (a' := ?_) #[true, true, true, true, true, true, true, true, true, true, true, true, true, true, true, false, false, false, false, false, false, false, false, false, false, false, false] rfl rfl (any_of HT_.out (by kernel_rfl)) (fun _ _ _ h => h) (Or.inl ⟨by rfl, ?_⟩) ?_ ?_
            rotate_left
            · intro w'
              go_simp
              with_reducible rfl
            rotate_left
            · simp only [Act.put, List.setIfInBounds_toArray, List.set_cons_zero, List.set_cons_succ, i64_w, i32_w]
              rfl
            refine pure_ (i := 15) (N := some 45) (v := ?_) (a' := ?_) #[true, true, true, true, true, true, true, true, true, true, true, true, true, true, true, true, false, false, false, false, false, false, false, false, false, false, false] rfl rfl (any_of HT_.out (by kernel_rfl)) (fun _ _ _ h => h) (Or.inl ⟨by rfl, ?_⟩) ?_ ?_
            rotate_left
            · intro w'
              go_simp
              with_reducible rfl
            rotate_left
            · simp only [Act.put, List.setIfInBounds_toArray, List.set_cons_zero, List.set_cons_succ, i64_w, i32_w]
              rfl
            refine pure_ (i := 16) (N := some 46) (v := ?_) (a' := ?_) #[true, true, true, true, true, true, true, true, true, true, true, true, true, true, true, true, true, false, false, false, false, false, false, false, false, false, false] rfl rfl (any_of HT_.out (by kernel_rfl)) (fun _ _ _ h => h) (Or.inl ⟨by rfl, ?_⟩) ?_ ?_
            rotate_left
            · intro w'
              go_simp
              with_reducible rfl
            rotate_left
            · simp only [Act.put, List.setIfInBounds_toArray, List.set_cons_zero, List.set_cons_succ, i64_w, i32_w]
              rfl
            refine take_ (i := 17) (N := some 47) (v := ?_) (a' := ?_) #[true, true, true, true, true, true, true, true, true, true, true, true, true, true, true, true, true, true, false, false, false, false, false, false, false, false, false] rfl rfl (take_ofW HT_.out HW_.out (by kernel_rfl)) (fun _ _ _ h => h) (Or.inl ⟨by rfl, ?_⟩) hHeld ?_ ?_
            rotate_left
            · rintro w' ⟨s0, s1, s2, s3, s4, s5, s6, s7, s8, s9, s10, s11⟩
              go_simp
              with_reducible rfl
            rotate_left
            · simp only [Act.put, List.setIfInBounds_toArray, List.set_cons_zero, List.set_cons_succ, i64_w, i32_w]
              rfl
            refine take_ (i := 19) (N := some 49) (v := ?_) (a' := ?_) #[true, true, true, true, true, true, true, true, true, true, true, true, true, true, true, true, true, true, false, true, false, false, false, false, false, false, false] rfl rfl (take_ofW HT_.out HW_.out (by kernel_rfl)) (fun _ _ _ h => h) (Or.inl ⟨by rfl, ?_⟩) hHeld ?_ ?_
            rotate_left
            · rintro w' ⟨s0, s1, s2, s3, s4, s5, s6, s7, s8, s9, s10, s11⟩
              go_simp
              with_reducible rfl
            rotate_left
            · simp only [Act.put, List.setIfInBounds_toArray, List.set_cons_zero, List.set_cons_succ, i64_w, i32_w]
              rfl
            refine one_ (i := 18) (N := some 48) #[true, true, true, true, true, true, true, true, true, true, true, true, true, true, true, true, true, true, true, true, false, false, false, false, false, false, false] rfl rfl (one_of HT_.out (by kernel_rfl)) (by decide) (fun K hK => ?_)
            refine goes_ Tryd.func13 (by kernel_rfl) rfl #[.agg #[.int .i64 t175, .string t176, .int .i64 t186]] (by rfl) rfl rfl (by (try simp only [List.map_toArray, List.map_cons, List.map_nil]); first | done | rfl | (simp only [List.length_drop, List.length_take]; rfl)) ?_
            with_reducible refine (payslip_Form.calls k t175 t176 t186 t193 _ A21.out).mono ?_
            rintro e w64 ⟨rfl, hb⟩
            refine ⟨_, rfl, ?_⟩
            have n0_ := Aside0.mk (Kd.R_below (by (with_reducible repeat (first | apply Kd.R_alloc | apply Kd.R_drewN | apply Kd.R_drew)); exact HO185.out) hb)
            have n1_ := Aside0.mk (blk_below (g := gb170) (o := .cells #[.int .i64 a0_0, .string a0_1, .int .i64 a0_2] 23 (0, 0)) (by (with_reducible repeat (first | refine blk_drewN ?_ _ | refine blk_drew ?_ | refine blk_alloc ?_ _)); exact BK170.out) hb)
            have n2_ := Aside0.mk (IsS52.below (by repeat (first | (with_reducible first | exact HI174.out | apply IsS52.alloc | apply IsS52.drewN | apply IsS52.drew | apply IsS52.set_1 | refine IsS52.far ?_ NB174_170.out _ | refine IsS52.far ?_ NB174_179.out _ | refine IsS52.far ?_ NB174_180.out _ | refine IsS52.far ?_ NB174_181.out _) | exact HI174.out)) hb)
            have n3_ := Aside0.mk (blk_below (g := gb179) (o := .cells #[.int .i64 t175, .string t176, .int .i64 t177] 23 (0, 0)) (by (with_reducible repeat (first | refine blk_drewN ?_ _ | refine blk_drew ?_ | refine blk_alloc ?_ _)); exact BK179.out) hb)
            have n4_ := Aside0.mk (blk_below (g := gb180) (o := .cells #[.int .i64 (wrap64 (t182 - 1)), .string t176, .int .i64 t177] 23 (0, 0)) (by (with_reducible repeat (first | refine blk_drewN ?_ _ | refine blk_drew ?_ | refine blk_alloc ?_ _)); exact BK180.out) hb)
            have n5_ := Aside0.mk (blk_below (g := gb181) (o := .cells #[.int .i64 t175, .string t176, .int .i64 t186] 23 (0, 0)) (by (with_reducible repeat (first | refine blk_drewN ?_ _ | refine blk_drew ?_ | refine blk_alloc ?_ _)); exact BK181.out) hb)
            have n6_ := Aside0.mk (below_step (by repeat (first | (with_reducible first | exact HB.out | apply below_alloc | apply pw_below_drewN | apply below_drew1 | refine below_set ?_ (IsS52.ge HI174.out) | refine below_set ?_ GE170.out | refine below_set ?_ GE179.out | refine below_set ?_ GE180.out | refine below_set ?_ GE181.out) | exact HB.out)) hb)
            clear HO185
            clear BK170
            clear HI174
            clear BK179
            clear BK180
            clear BK181
            clear HB
            have HO185 := n0_
            have BK170 := n1_
            have HI174 := n2_
            have BK179 := n3_
            have BK180 := n4_
            have BK181 := n5_
            have HB := n6_
            clear n0_ n1_ n2_ n3_ n4_ n5_ n6_
            (try clear hb)
            (try clear hb2)
            (try clear hk)
            (try clear hi)
            refine hK.out _ _ ⟨(blk_cell BK170.out 0).trans rfl, (blk_cell BK170.out 1).trans rfl, (blk_cell BK170.out 2).trans rfl, (blk_cell BK179.out 0).trans rfl, (blk_cell BK179.out 1).trans rfl, (blk_cell BK179.out 2).trans rfl, (blk_cell BK180.out 0).trans rfl, (blk_cell BK180.out 1).trans rfl, (blk_cell BK180.out 2).trans rfl, (blk_cell BK181.out 0).trans rfl, (blk_cell BK181.out 1).trans rfl, (blk_cell BK181.out 2).trans rfl⟩ (fun hHeld => ?_)
            clear hK K
            refine norm_ (a' := ?_) ?_ ?_
            rotate_left
            · show Act.put _ (some 48) _ = _
              simp only [Act.put, List.setIfInBounds_toArray, List.set_cons_zero, List.set_cons_succ, i64_w, i32_w]
              rfl
            refine one_ (i := 20) (N := some 50) #[true, true, true, true, true, true, true, true, true, true, true, true, true, true, true, true, true, true, true, true, true, false, false, false, false, false, false] rfl rfl (one_of HT_.out (by kernel_rfl)) (by decide) (fun K hK => ?_)
            refine goes_ Tryd.func14 (by kernel_rfl) rfl #[.agg #[.int .i64 t175, .string t176, .int .i64 t186]] (by rfl) rfl rfl (by (try simp only [List.map_toArray, List.map_cons, List.map_nil]); first | done | rfl | (simp only [List.length_drop, List.length_take]; rfl)) ?_
            with_reducible refine (payrollref34_Form.calls k t175 t176 t186 t194 _ A22.out).mono ?_
            rintro e w65 ⟨rfl, hb⟩
            refine ⟨_, rfl, ?_⟩
            have n0_ := Aside0.mk (Kd.R_below (by (with_reducible repeat (first | apply Kd.R_alloc | apply Kd.R_drewN | apply Kd.R_drew)); exact HO185.out) hb)
            have n1_ := Aside0.mk (blk_below (g := gb170) (o := .cells #[.int .i64 a0_0, .string a0_1, .int .i64 a0_2] 23 (0, 0)) (by (with_reducible repeat (first | refine blk_drewN ?_ _ | refine blk_drew ?_ | refine blk_alloc ?_ _)); exact BK170.out) hb)
            have n2_ := Aside0.mk (IsS52.below (by repeat (first | (with_reducible first | exact HI174.out | apply IsS52.alloc | apply IsS52.drewN | apply IsS52.drew | apply IsS52.set_1 | refine IsS52.far ?_ NB174_170.out _ | refine IsS52.far ?_ NB174_179.out _ | refine IsS52.far ?_ NB174_180.out _ | refine IsS52.far ?_ NB174_181.out _) | exact HI174.out)) hb)
            have n3_ := Aside0.mk (blk_below (g := gb179) (o := .cells #[.int .i64 t175, .string t176, .int .i64 t177] 23 (0, 0)) (by (with_reducible repeat (first | refine blk_drewN ?_ _ | refine blk_drew ?_ | refine blk_alloc ?_ _)); exact BK179.out) hb)
            have n4_ := Aside0.mk (blk_below (g := gb180) (o := .cells #[.int .i64 (wrap64 (t182 - 1)), .string t176, .int .i64 t177] 23 (0, 0)) (by (with_reducible repeat (first | refine blk_drewN ?_ _ | refine blk_drew ?_ | refine blk_alloc ?_ _)); exact BK180.out) hb)
            have n5_ := Aside0.mk (blk_below (g := gb181) (o := .cells #[.int .i64 t175, .string t176, .int .i64 t186] 23 (0, 0)) (by (with_reducible repeat (first | refine blk_drewN ?_ _ | refine blk_drew ?_ | refine blk_alloc ?_ _)); exact BK181.out) hb)
            have n6_ := Aside0.mk (below_step (by repeat (first | (with_reducible first | exact HB.out | apply below_alloc | apply pw_below_drewN | apply below_drew1 | refine below_set ?_ (IsS52.ge HI174.out) | refine below_set ?_ GE170.out | refine below_set ?_ GE179.out | refine below_set ?_ GE180.out | refine below_set ?_ GE181.out) | exact HB.out)) hb)
            clear HO185
            clear BK170
            clear HI174
            clear BK179
            clear BK180
            clear BK181
            clear HB
            have HO185 := n0_
            have BK170 := n1_
            have HI174 := n2_
            have BK179 := n3_
            have BK180 := n4_
            have BK181 := n5_
            have HB := n6_
            clear n0_ n1_ n2_ n3_ n4_ n5_ n6_
            (try clear hb)
            (try clear hb2)
            (try clear hk)
            (try clear hi)
            refine hK.out _ _ ⟨(blk_cell BK170.out 0).trans rfl, (blk_cell BK170.out 1).trans rfl, (blk_cell BK170.out 2).trans rfl, (blk_cell BK179.out 0).trans rfl, (blk_cell BK179.out 1).trans rfl, (blk_cell BK179.out 2).trans rfl, (blk_cell BK180.out 0).trans rfl, (blk_cell BK180.out 1).trans rfl, (blk_cell BK180.out 2).trans rfl, (blk_cell BK181.out 0).trans rfl, (blk_cell BK181.out 1).trans rfl, (blk_cell BK181.out 2).trans rfl⟩ (fun hHeld => ?_)
            clear hK K
            refine norm_ (a' := ?_) ?_ ?_
            rotate_left
            · show Act.put _ (some 50) _ = _
              simp only [Act.put, List.setIfInBounds_toArray, List.set_cons_zero, List.set_cons_succ, i64_w, i32_w]
              rfl
            refine pure_ (i := 21) (N := some 51) (v := ?_) (a' := ?_) #[true, true, true, true, true, true, true, true, true, true, true, true, true, true, true, true, true, true, true, true, true, true, false, false, false, false, false] rfl rfl (any_of HT_.out (by kernel_rfl)) (fun _ _ _ h => h) (Or.inl ⟨by rfl, ?_⟩) ?_ ?_
            rotate_left
            · intro w'
              go_simp
              with_reducible rfl
            rotate_left
            · simp only [Act.put, List.setIfInBounds_toArray, List.set_cons_zero, List.set_cons_succ, i64_w, i32_w]
              rfl
            refine pure_ (i := 22) (N := some 52) (v := ?_) (a' := ?_) #[true, true, true, true, true, true, true, true, true, true, true, true, true, true, true, true, true, true, true, true, true, true, true, false, false, false, false] rfl rfl (any_of HT_.out (by kernel_rfl)) (fun _ _ _ h => h) (Or.inl ⟨by rfl, ?_⟩) ?_ ?_
            rotate_left
            · intro w'
              go_simp
              with_reducible rfl
            rotate_left
            · simp only [Act.put, List.setIfInBounds_toArray, List.set_cons_zero, List.set_cons_succ, i64_w, i32_w]
              rfl
            refine pure_ (i := 23) (N := some 53) (v := ?_) (a' := ?_) #[true, true, true, true, true, true, true, true, true, true, true, true, true, true, true, true, true, true, true, true, true, true, true, true, false, false, false] rfl rfl (any_of HT_.out (by kernel_rfl)) (fun _ _ _ h => h) (Or.inl ⟨by rfl, ?_⟩) ?_ ?_
            rotate_left
            · intro w'
              go_simp
              with_reducible rfl
            rotate_left
            · simp only [Act.put, List.setIfInBounds_toArray, List.set_cons_zero, List.set_cons_succ, i64_w, i32_w]
              rfl
            refine one_ (i := 24) (N := some 54) #[true, true, true, true, true, true, true, true, true, true, true, true, true, true, true, true, true, true, true, true, true, true, true, true, true, false, false] rfl rfl (one_of HT_.out (by kernel_rfl)) (by decide) (fun K hK => ?_)
            refine goes_ Tryd.func8 (by kernel_rfl) rfl #[] (by rfl) rfl rfl (by (try simp only [List.map_toArray, List.map_cons, List.map_nil]); first | done | rfl | (simp only [List.length_drop, List.length_take]; rfl)) ?_
            with_reducible refine (payrolllaw34_awake.calls k   _ ?side1 A24.out).mono ?_
            (case side1 => exact Tabs.below HT.out (by repeat (first | (with_reducible first | exact HB.out | apply below_alloc | apply pw_below_drewN | apply below_drew1 | refine below_set ?_ (IsS52.ge HI174.out) | refine below_set ?_ GE170.out | refine below_set ?_ GE179.out | refine below_set ?_ GE180.out | refine below_set ?_ GE181.out) | exact HB.out)))
            rintro e w66 ⟨rfl, hb⟩
            refine ⟨_, rfl, ?_⟩
            have n0_ := Aside0.mk (Kd.R_below (by (with_reducible repeat (first | apply Kd.R_alloc | apply Kd.R_drewN | apply Kd.R_drew)); exact HO185.out) hb)
            have n1_ := Aside0.mk (blk_below (g := gb170) (o := .cells #[.int .i64 a0_0, .string a0_1, .int .i64 a0_2] 23 (0, 0)) (by (with_reducible repeat (first | refine blk_drewN ?_ _ | refine blk_drew ?_ | refine blk_alloc ?_ _)); exact BK170.out) hb)
            have n2_ := Aside0.mk (IsS52.below (by repeat (first | (with_reducible first | exact HI174.out | apply IsS52.alloc | apply IsS52.drewN | apply IsS52.drew | apply IsS52.set_1 | refine IsS52.far ?_ NB174_170.out _ | refine IsS52.far ?_ NB174_179.out _ | refine IsS52.far ?_ NB174_180.out _ | refine IsS52.far ?_ NB174_181.out _) | exact HI174.out)) hb)
            have n3_ := Aside0.mk (blk_below (g := gb179) (o := .cells #[.int .i64 t175, .string t176, .int .i64 t177] 23 (0, 0)) (by (with_reducible repeat (first | refine blk_drewN ?_ _ | refine blk_drew ?_ | refine blk_alloc ?_ _)); exact BK179.out) hb)
            have n4_ := Aside0.mk (blk_below (g := gb180) (o := .cells #[.int .i64 (wrap64 (t182 - 1)), .string t176, .int .i64 t177] 23 (0, 0)) (by (with_reducible repeat (first | refine blk_drewN ?_ _ | refine blk_drew ?_ | refine blk_alloc ?_ _)); exact BK180.out) hb)
            have n5_ := Aside0.mk (blk_below (g := gb181) (o := .cells #[.int .i64 t175, .string t176, .int .i64 t186] 23 (0, 0)) (by (with_reducible repeat (first | refine blk_drewN ?_ _ | refine blk_drew ?_ | refine blk_alloc ?_ _)); exact BK181.out) hb)
            have n6_ := Aside0.mk (below_step (by repeat (first | (with_reducible first | exact HB.out | apply below_alloc | apply pw_below_drewN | apply below_drew1 | refine below_set ?_ (IsS52.ge HI174.out) | refine below_set ?_ GE170.out | refine below_set ?_ GE179.out | refine below_set ?_ GE180.out | refine below_set ?_ GE181.out) | exact HB.out)) hb)
            clear HO185
            clear BK170
            clear HI174
            clear BK179
            clear BK180
            clear BK181
            clear HB
            have HO185 := n0_
            have BK170 := n1_
            have HI174 := n2_
            have BK179 := n3_
            have BK180 := n4_
            have BK181 := n5_
            have HB := n6_
            clear n0_ n1_ n2_ n3_ n4_ n5_ n6_
            (try clear hb)
            (try clear hb2)
            (try clear hk)
            (try clear hi)
            refine hK.out _ _ ⟨(blk_cell BK170.out 0).trans rfl, (blk_cell BK170.out 1).trans rfl, (blk_cell BK170.out 2).trans rfl, (blk_cell BK179.out 0).trans rfl, (blk_cell BK179.out 1).trans rfl, (blk_cell BK179.out 2).trans rfl, (blk_cell BK180.out 0).trans rfl, (blk_cell BK180.out 1).trans rfl, (blk_cell BK180.out 2).trans rfl, (blk_cell BK181.out 0).trans rfl, (blk_cell BK181.out 1).trans rfl, (blk_cell BK181.out 2).trans rfl⟩ (fun hHeld => ?_)
            clear hK K
            refine norm_ (a' := ?_) ?_ ?_
            rotate_left
            · show Act.put _ (some 54) _ = _
              simp only [Act.put, List.setIfInBounds_toArray, List.set_cons_zero, List.set_cons_succ, i64_w, i32_w]
              rfl
            refine pure_ (i := 25) (N := some 55) (v := ?_) (a' := ?_) #[true, true, true, true, true, true, true, true, true, true, true, true, true, true, true, true, true, true, true, true, true, true, true, true, true, true, false] rfl rfl (any_of HT_.out (by kernel_rfl)) (fun _ _ _ h => h) (Or.inl ⟨by rfl, ?_⟩) ?_ ?_
            rotate_left
            · intro w'
              go_simp
              with_reducible rfl
            rotate_left
            · simp only [Act.put, List.setIfInBounds_toArray, List.set_cons_zero, List.set_cons_succ, i64_w, i32_w]
              rfl
            refine pure_ (i := 26) (N := some 6) (v := ?_) (a' := ?_) #[true, true, true, true, true, true, true, true, true, true, true, true, true, true, true, true, true, true, true, true, true, true, true, true, true, true, true] rfl rfl (any_of HT_.out (by kernel_rfl)) (fun _ _ _ h => h) (Or.inl ⟨by rfl, ?_⟩) ?_ ?_
            rotate_left
            · intro w'
              go_simp
              with_reducible rfl
            rotate_left
            · simp only [Act.put, List.setIfInBounds_toArray, List.set_cons_zero, List.set_cons_succ, i64_w, i32_w]
              rfl
            refine done_ (done_of HT_.out (by kernel_rfl)) ?_
            try go_wp2
            go_ret
            exact ⟨by first | rfl | (rw [HY.out] <;> rfl) | (simp [errW_none, errW_some] <;> rfl) | (simp [*, errW_none, errW_some] <;> rfl), by repeat (first | (with_reducible first | exact HB.out | apply below_alloc | apply pw_below_drewN | apply below_drew1 | refine below_set ?_ (IsS52.ge HI174.out) | refine below_set ?_ GE170.out | refine below_set ?_ GE179.out | refine below_set ?_ GE180.out | refine below_set ?_ GE181.out) | exact HB.out)⟩
          · rw [if_neg c23] at H
            have c23b0 : (t193 == t194) = false := by simpa using c23
            (try (have c23b1 : decide (t193 = t194) = false := by simpa using c23))
            (try (have c23b2 : (t193 == t194) = false := by simpa using c23))
            (try (have c23b3 : ¬ (t193 = t194) := by simpa using c23))
            clear c23
            exact absurd H (by simp)
        · rw [if_neg c20] at H
          have c20b0 : (t191 == t192) = false := by simpa using c20
          (try (have c20b1 : decide (t191 = t192) = false := by simpa using c20))
          (try (have c20b2 : (t191 == t192) = false := by simpa using c20))
          (try (have c20b3 : ¬ (t191 = t192) := by simpa using c20))
          clear c20
          exact absurd H (by simp)
      · replace c17 := Bool.eq_false_iff.mpr c17
        subst c17
        have H1 : (some false) = some true := by rw [if_neg (show ¬ (false = true) by decide)] at H; exact H
        clear H
        have H := H1
        clear H1
        exact absurd H (by simp)
    · rw [if_neg c15] at H
      have c15b0 : (t188 == t189) = false := by simpa using c15
      (try (have c15b1 : decide (t188 = t189) = false := by simpa using c15))
      (try (have c15b2 : (t188 == t189) = false := by simpa using c15))
      (try (have c15b3 : ¬ (t188 = t189) := by simpa using c15))
      clear c15
      exact absurd H (by simp)
end Go.Proofs.YtlanldccamphcaaDoor.P
