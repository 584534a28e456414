/- Texts for the law PayslipMerges (kept out of a larger one). -/
import Derived.Test.YtlanldccamphcaaDoorZPayslipMerges13
import Derived.Test.YtlanldccamphcaaDoorZPayslipMerges35
import Derived.Test.YtlanldccamphcaaDoorZPayslipMerges36
import Derived.Test.YtlanldccamphcaaDoorZPayslipMerges39
import Derived.Test.YtlanldccamphcaaDoorZPayslipMerges41
import Derived.Test.YtlanldccamphcaaDoorZPayslipMerges34
import Derived.Test.YtlanldccamphcaaDoorZPayslipMerges20
-- Written by a program of this session (wip/tools/xprint.py) out of the translation; Lean checks it.
namespace Go.Proofs.YtlanldccamphcaaDoor.P
open Go.RowKit Go.Proofs.YtlanldccamphcaaDoorW.PrintWords Go.Proofs.YtlanldccamphcaaDoorW.PrintLast Go.Proofs.YtlanldccamphcaaDoorW.PrintMore
attribute [local go_sem] max2_int min2_int max_two min_two max_three min_three max_four min_four   -- for this text's walks alone
set_option linter.unusedVariables false
set_option linter.unusedSimpArgs false

-- given by hand: function 20 (payslip_Merge), in needs
def payrolllaw34_PayslipMerges.f (k : Nat) (l0 : List (S23)) (l1 : List Int) : Option (Bool) := (paygen_ShortLines.f k l0).bind fun t325 => (if t325 = true then ((paygen_New.f l1).bind fun bt327 => ((paygen_Deck_Lines.f k bt327.1 bt327.2 12).bind fun bt330 => ((payslip_Merge.f k l0).bind fun bt334 => ((payrollref34_Merge.f k l0).bind fun bt338 => ((payslip_Merge.f k bt330.1).bind fun bt342 => ((payrollref34_Merge.f k bt330.1).bind fun bt346 => (if bt334.2 = bt338.2 then ((payrollref32_Same.f k bt334.1 bt338.1).bind fun t350 => (if t350 = true then (if bt342.2 = bt346.2 then ((payrollref32_Same.f k bt342.1 bt346.1).bind fun t351 => (if t351 = true then ((payrolllaw34_awake.f k).bind fun t352 => (some t352)) else (some false))) else (some false)) else (some false))) else (some false)))))))) else ((payrolllaw34_awake.f k).bind fun t326 => (some t326)))
set_option maxHeartbeats 8000000 in
set_option maxRecDepth 100000 in
theorem payrolllaw34_PayslipMerges.calls (k : Nat) (A0 : Option Addr) (c0 : Nat) (l0 : List (S23)) (A1 : Option Addr) (c1 : Nat) (l1 : List Int) (w : World) (hr0 : Kd.C k23 w A0 l0.length l0) (hc0 : l0.length ≤ c0) (hr1 : Kd.C (Kd.int .i64) w A1 l1.length l1) (hc1 : l1.length ≤ c1) (hT : Tabs w) (h : payrolllaw34_PayslipMerges.f k l0 l1 = some true) :
    Calls Tryd.prog 6 #[.slice A0 l0.length c0, .slice A1 l1.length c1] w fun e w' => e = .returned (.bool true) ∧ Below w.heap.size w w' := by
  have HR0 := Aside0.mk hr0
  have HC0 := Aside0.mk hc0
  clear hr0 hc0
  have HR1 := Aside0.mk hr1
  have HC1 := Aside0.mk hc1
  clear hr1 hc1
  have HB := Aside0.mk (Below.refl w.heap.size w)
  have HT := Aside0.mk hT
  clear hT
  have H : ((paygen_ShortLines.f k l0).bind fun t325 => (if t325 = true then ((paygen_New.f l1).bind fun bt327 => ((paygen_Deck_Lines.f k bt327.1 bt327.2 12).bind fun bt330 => ((payslip_Merge.f k l0).bind fun bt334 => ((payrollref34_Merge.f k l0).bind fun bt338 => ((payslip_Merge.f k bt330.1).bind fun bt342 => ((payrollref34_Merge.f k bt330.1).bind fun bt346 => (if bt334.2 = bt338.2 then ((payrollref32_Same.f k bt334.1 bt338.1).bind fun t350 => (if t350 = true then (if bt342.2 = bt346.2 then ((payrollref32_Same.f k bt342.1 bt346.1).bind fun t351 => (if t351 = true then ((payrolllaw34_awake.f k).bind fun t352 => (some t352)) else (some false))) else (some false)) else (some false))) else (some false)))))))) else ((payrolllaw34_awake.f k).bind fun t326 => (some t326)))) = some true := h
  clear h
  replace H := Option.bind_eq_some_iff.mp H
  obtain ⟨t325, A30, H⟩ := H
  replace H : (if t325 = true then ((paygen_New.f l1).bind fun bt327 => ((paygen_Deck_Lines.f k bt327.1 bt327.2 12).bind fun bt330 => ((payslip_Merge.f k l0).bind fun bt334 => ((payrollref34_Merge.f k l0).bind fun bt338 => ((payslip_Merge.f k bt330.1).bind fun bt342 => ((payrollref34_Merge.f k bt330.1).bind fun bt346 => (if bt334.2 = bt338.2 then ((payrollref32_Same.f k bt334.1 bt338.1).bind fun t350 => (if t350 = true then (if bt342.2 = bt346.2 then ((payrollref32_Same.f k bt342.1 bt346.1).bind fun t351 => (if t351 = true then ((payrolllaw34_awake.f k).bind fun t352 => (some t352)) else (some false))) else (some false)) else (some false))) else (some false)))))))) else ((payrolllaw34_awake.f k).bind fun t326 => (some t326))) = some true := H
  have A3 := Aside0.mk A30
  clear A30
  by_cases c4 : t325 = true
  · subst c4
    have H1 : ((paygen_New.f l1).bind fun bt327 => ((paygen_Deck_Lines.f k bt327.1 bt327.2 12).bind fun bt330 => ((payslip_Merge.f k l0).bind fun bt334 => ((payrollref34_Merge.f k l0).bind fun bt338 => ((payslip_Merge.f k bt330.1).bind fun bt342 => ((payrollref34_Merge.f k bt330.1).bind fun bt346 => (if bt334.2 = bt338.2 then ((payrollref32_Same.f k bt334.1 bt338.1).bind fun t350 => (if t350 = true then (if bt342.2 = bt346.2 then ((payrollref32_Same.f k bt342.1 bt346.1).bind fun t351 => (if t351 = true then ((payrolllaw34_awake.f k).bind fun t352 => (some t352)) else (some false))) else (some false)) else (some false))) else (some false)))))))) = some true := by rw [if_pos rfl] at H; exact H
    clear H
    have H := H1
    clear H1
    replace H := Option.bind_eq_some_iff.mp H
    obtain ⟨⟨t327, t328⟩, A50, H⟩ := H
    replace H : ((paygen_Deck_Lines.f k t327 t328 12).bind fun bt330 => ((payslip_Merge.f k l0).bind fun bt334 => ((payrollref34_Merge.f k l0).bind fun bt338 => ((payslip_Merge.f k bt330.1).bind fun bt342 => ((payrollref34_Merge.f k bt330.1).bind fun bt346 => (if bt334.2 = bt338.2 then ((payrollref32_Same.f k bt334.1 bt338.1).bind fun t350 => (if t350 = true then (if bt342.2 = bt346.2 then ((payrollref32_Same.f k bt342.1 bt346.1).bind fun t351 => (if t351 = true then ((payrolllaw34_awake.f k).bind fun t352 => (some t352)) else (some false))) else (some false)) else (some false))) else (some false))))))) = some true := H
    have A5 := Aside0.mk A50
    clear A50
    replace H := Option.bind_eq_some_iff.mp H
    obtain ⟨⟨t330, t333⟩, A60, H⟩ := H
    replace H : ((payslip_Merge.f k l0).bind fun bt334 => ((payrollref34_Merge.f k l0).bind fun bt338 => ((payslip_Merge.f k t330).bind fun bt342 => ((payrollref34_Merge.f k t330).bind fun bt346 => (if bt334.2 = bt338.2 then ((payrollref32_Same.f k bt334.1 bt338.1).bind fun t350 => (if t350 = true then (if bt342.2 = bt346.2 then ((payrollref32_Same.f k bt342.1 bt346.1).bind fun t351 => (if t351 = true then ((payrolllaw34_awake.f k).bind fun t352 => (some t352)) else (some false))) else (some false)) else (some false))) else (some false)))))) = some true := H
    have A6 := Aside0.mk A60
    clear A60
    replace H := Option.bind_eq_some_iff.mp H
    obtain ⟨⟨t334, t335⟩, A70, H⟩ := H
    replace H : ((payrollref34_Merge.f k l0).bind fun bt338 => ((payslip_Merge.f k t330).bind fun bt342 => ((payrollref34_Merge.f k t330).bind fun bt346 => (if t335 = bt338.2 then ((payrollref32_Same.f k t334 bt338.1).bind fun t350 => (if t350 = true then (if bt342.2 = bt346.2 then ((payrollref32_Same.f k bt342.1 bt346.1).bind fun t351 => (if t351 = true then ((payrolllaw34_awake.f k).bind fun t352 => (some t352)) else (some false))) else (some false)) else (some false))) else (some false))))) = some true := H
    have A7 := Aside0.mk A70
    clear A70
    replace H := Option.bind_eq_some_iff.mp H
    obtain ⟨⟨t338, t339⟩, A80, H⟩ := H
    replace H : ((payslip_Merge.f k t330).bind fun bt342 => ((payrollref34_Merge.f k t330).bind fun bt346 => (if t335 = t339 then ((payrollref32_Same.f k t334 t338).bind fun t350 => (if t350 = true then (if bt342.2 = bt346.2 then ((payrollref32_Same.f k bt342.1 bt346.1).bind fun t351 => (if t351 = true then ((payrolllaw34_awake.f k).bind fun t352 => (some t352)) else (some false))) else (some false)) else (some false))) else (some false)))) = some true := H
    have A8 := Aside0.mk A80
    clear A80
    replace H := Option.bind_eq_some_iff.mp H
    obtain ⟨⟨t342, t343⟩, A90, H⟩ := H
    replace H : ((payrollref34_Merge.f k t330).bind fun bt346 => (if t335 = t339 then ((payrollref32_Same.f k t334 t338).bind fun t350 => (if t350 = true then (if t343 = bt346.2 then ((payrollref32_Same.f k t342 bt346.1).bind fun t351 => (if t351 = true then ((payrolllaw34_awake.f k).bind fun t352 => (some t352)) else (some false))) else (some false)) else (some false))) else (some false))) = some true := H
    have A9 := Aside0.mk A90
    clear A90
    replace H := Option.bind_eq_some_iff.mp H
    obtain ⟨⟨t346, t347⟩, A100, H⟩ := H
    replace H : (if t335 = t339 then ((payrollref32_Same.f k t334 t338).bind fun t350 => (if t350 = true then (if t343 = t347 then ((payrollref32_Same.f k t342 t346).bind fun t351 => (if t351 = true then ((payrolllaw34_awake.f k).bind fun t352 => (some t352)) else (some false))) else (some false)) else (some false))) else (some false)) = some true := H
    have A10 := Aside0.mk A100
    clear A100
    by_cases c11 : t335 = t339
    · rw [if_pos c11] at H
      have c11b0 : (t335 == t339) = true := beq_iff_eq.mpr c11
      have c11b1 : (t335 != t339) = false := bne_eq_false_iff_eq.mpr c11
      clear c11
      replace H := Option.bind_eq_some_iff.mp H
      obtain ⟨t350, A120, H⟩ := H
      replace H : (if t350 = true then (if t343 = t347 then ((payrollref32_Same.f k t342 t346).bind fun t351 => (if t351 = true then ((payrolllaw34_awake.f k).bind fun t352 => (some t352)) else (some false))) else (some false)) else (some false)) = some true := H
      have A12 := Aside0.mk A120
      clear A120
      by_cases c13 : t350 = true
      · subst c13
        have H1 : (if t343 = t347 then ((payrollref32_Same.f k t342 t346).bind fun t351 => (if t351 = true then ((payrolllaw34_awake.f k).bind fun t352 => (some t352)) else (some false))) else (some false)) = some true := by rw [if_pos rfl] at H; exact H
        clear H
        have H := H1
        clear H1
        by_cases c14 : t343 = t347
        · rw [if_pos c14] at H
          have c14b0 : (t343 == t347) = true := beq_iff_eq.mpr c14
          have c14b1 : (t343 != t347) = false := bne_eq_false_iff_eq.mpr c14
          clear c14
          replace H := Option.bind_eq_some_iff.mp H
          obtain ⟨t351, A150, H⟩ := H
          replace H : (if t351 = true then ((payrolllaw34_awake.f k).bind fun t352 => (some t352)) else (some false)) = some true := H
          have A15 := Aside0.mk A150
          clear A150
          by_cases c16 : t351 = true
          · subst c16
            have H1 : ((payrolllaw34_awake.f k).bind fun t352 => (some t352)) = some true := by rw [if_pos rfl] at H; exact H
            clear H
            have H := H1
            clear H1
            replace H := Option.bind_eq_some_iff.mp H
            obtain ⟨t352, A170, H⟩ := H
            replace H : (some t352) = some true := H
            have A17 := Aside0.mk A170
            clear A170
            obtain rfl := Option.some.inj H
            go_enter Tryd.func6, Tryd.ntmps6
            go_wp2_with (first | ((with_reducible refine gate_callee (f := 15) rfl ?_); refine goesL_ (some 15) rfl rfl Tryd.func15 (by kernel_rfl) rfl #[.slice A0 l0.length c0] rfl (by (try simp only [List.map_toArray, List.map_cons, List.map_nil]); first | done | rfl | (simp only [List.length_drop, List.length_take]; rfl)) ?_; (with_reducible refine (paygen_ShortLines.calls k _ _ l0 true _ ?side1 ?side2 A3.out).mono ?_); (case side1 => repeat (first | exact HR0.out | (with_reducible refine Kd.C_alloc ?_ _) | (with_reducible refine Kd.C_drewN ?_ _) | (with_reducible refine Kd.C_drew ?_))); (case side2 => exact HC0.out); rintro e w' ⟨rfl, ⟨nd, rfl⟩⟩; refine ⟨_, rfl, ?_⟩) | ((with_reducible refine gate_callee (f := 9) rfl ?_); refine goesL_ (some 19) rfl rfl Tryd.func9 (by kernel_rfl) rfl #[.slice A1 l1.length c1] rfl (by (try simp only [List.map_toArray, List.map_cons, List.map_nil]); first | done | rfl | (simp only [List.length_drop, List.length_take]; rfl)) ?_; (with_reducible refine (paygen_New.calls _ _ l1 t327 t328 w _ ?side1 ?side2 ?side3 A5.out).mono ?_); (case side1 => repeat (first | (with_reducible first | exact HB.out | apply below_alloc | apply pw_below_drewN | apply below_drew1) | exact HB.out)); (case side2 => exact HR1.out); (case side3 => exact HC1.out); rintro e w18 ⟨g329, rfl, hi, hb, hb2⟩; refine ⟨_, rfl, ?_⟩; have n0_ := Aside0.mk (hb); have n1_ := Aside0.mk (hi); clear HB; have HB := n0_; have HI329 := n1_; clear n0_ n1_; (try clear hb); (try clear hb2); (try clear hk); (try clear hi)) | ((with_reducible refine gate_callee (f := 16) rfl ?_); refine goesL_ (some 20) rfl rfl Tryd.func16 (by kernel_rfl) rfl #[.pointer (some ⟨g329, 0, none⟩), .int .i64 12] rfl (by (try simp only [List.map_toArray, List.map_cons, List.map_nil]); first | done | rfl | (simp only [List.length_drop, List.length_take]; rfl)) ?_; (with_reducible refine (paygen_Deck_Lines.calls k g329 t327 t328 12 t330 t333 w _ ?side1 ?side2 A6.out).mono ?_); (case side1 => repeat (first | (with_reducible first | exact HI329.out | apply IsS52.alloc | apply IsS52.drewN | apply IsS52.drew | apply IsS52.set_1) | exact HI329.out)); (case side2 => repeat (first | (with_reducible first | exact HB.out | apply below_alloc | apply pw_below_drewN | apply below_drew1 | refine below_set ?_ (IsS52.ge HI329.out)) | exact HB.out)); rintro e w19 ⟨v331, rfl, ho0, hi, hb, hk⟩; refine ⟨_, rfl, ?_⟩; have n0_ := Aside0.mk (Kd.R_lower ho0 (below_size (by repeat (first | (with_reducible first | exact HB.out | apply below_alloc | apply pw_below_drewN | apply below_drew1 | refine below_set ?_ (IsS52.ge HI329.out)) | exact HB.out)))); have n1_ := Aside0.mk (hb); have n2_ := Aside0.mk (hi); clear HB; clear HI329; have HO332 := n0_; have HB := n1_; have HI329 := n2_; clear n0_ n1_ n2_; (try clear hb); (try clear hb2); (try clear hk); (try clear hi); (try clear ho0)) | ((with_reducible refine gate_callee (f := 20) rfl ?_); refine goesL_ (some 23) rfl rfl Tryd.func20 (by kernel_rfl) rfl #[.slice A0 l0.length c0] rfl (by (try simp only [List.map_toArray, List.map_cons, List.map_nil]); first | done | rfl | (simp only [List.length_drop, List.length_take]; rfl)) ?_; (with_reducible refine (payslip_Merge.calls k _ _ l0 t334 t335 _ ?side1 ?side2 A7.out).mono ?_); (case side1 => repeat (first | exact (Kd.C_below HR0.out HB.out) | (with_reducible refine Kd.C_alloc ?_ _) | (with_reducible refine Kd.C_drewN ?_ _) | (with_reducible refine Kd.C_drew ?_))); (case side2 => exact HC0.out); rintro e w20 ⟨v336, rfl, ho0, hb⟩; refine ⟨_, rfl, ?_⟩; have n0_ := Aside0.mk (Kd.R_elder' (by (with_reducible repeat (first | apply Kd.R_alloc | apply Kd.R_drewN | apply Kd.R_drew)); exact HO332.out) (Kd.R_base ho0) hb); have n1_ := Aside0.mk (Kd.R_lower (Kd.R_new' ho0 (Kd.R_lt (by (with_reducible repeat (first | apply Kd.R_alloc | apply Kd.R_drewN | apply Kd.R_drew)); exact HO332.out))) (below_size (by repeat (first | (with_reducible first | exact HB.out | apply below_alloc | apply pw_below_drewN | apply below_drew1 | refine below_set ?_ (IsS52.ge HI329.out)) | exact HB.out)))); have n2_ := Aside0.mk (IsS52.below (by repeat (first | (with_reducible first | exact HI329.out | apply IsS52.alloc | apply IsS52.drewN | apply IsS52.drew | apply IsS52.set_1) | exact HI329.out)) hb); have n3_ := Aside0.mk (below_step (by repeat (first | (with_reducible first | exact HB.out | apply below_alloc | apply pw_below_drewN | apply below_drew1 | refine below_set ?_ (IsS52.ge HI329.out)) | exact HB.out)) hb); clear HO332; clear HI329; clear HB; have HO332 := n0_; have HO337 := n1_; have HI329 := n2_; have HB := n3_; clear n0_ n1_ n2_ n3_; (try clear hb); (try clear hb2); (try clear hk); (try clear hi); (try clear ho0)) | ((with_reducible refine gate_callee (f := 21) rfl ?_); refine goesL_ (some 28) rfl rfl Tryd.func21 (by kernel_rfl) rfl #[.slice A0 l0.length c0] rfl (by (try simp only [List.map_toArray, List.map_cons, List.map_nil]); first | done | rfl | (simp only [List.length_drop, List.length_take]; rfl)) ?_; (with_reducible refine (payrollref34_Merge.calls k _ _ l0 t338 t339 _ ?side1 ?side2 A8.out).mono ?_); (case side1 => repeat (first | exact (Kd.C_below HR0.out HB.out) | (with_reducible refine Kd.C_alloc ?_ _) | (with_reducible refine Kd.C_drewN ?_ _) | (with_reducible refine Kd.C_drew ?_))); (case side2 => exact HC0.out); rintro e w21 ⟨v340, rfl, ho0, hb⟩; refine ⟨_, rfl, ?_⟩; have n0_ := Aside0.mk (Kd.R_elder' (by (with_reducible repeat (first | apply Kd.R_alloc | apply Kd.R_drewN | apply Kd.R_drew)); exact HO332.out) (Kd.R_base ho0) hb); have n1_ := Aside0.mk (Kd.R_elder' (by (with_reducible repeat (first | apply Kd.R_alloc | apply Kd.R_drewN | apply Kd.R_drew)); exact HO337.out) (Kd.R_base ho0) hb); have n2_ := Aside0.mk (Kd.R_lower (Kd.R_new' (Kd.R_new' ho0 (Kd.R_lt (by (with_reducible repeat (first | apply Kd.R_alloc | apply Kd.R_drewN | apply Kd.R_drew)); exact HO332.out))) (Kd.R_lt (by (with_reducible repeat (first | apply Kd.R_alloc | apply Kd.R_drewN | apply Kd.R_drew)); exact HO337.out))) (below_size (by repeat (first | (with_reducible first | exact HB.out | apply below_alloc | apply pw_below_drewN | apply below_drew1 | refine below_set ?_ (IsS52.ge HI329.out)) | exact HB.out)))); have n3_ := Aside0.mk (IsS52.below (by repeat (first | (with_reducible first | exact HI329.out | apply IsS52.alloc | apply IsS52.drewN | apply IsS52.drew | apply IsS52.set_1) | exact HI329.out)) hb); have n4_ := Aside0.mk (below_step (by repeat (first | (with_reducible first | exact HB.out | apply below_alloc | apply pw_below_drewN | apply below_drew1 | refine below_set ?_ (IsS52.ge HI329.out)) | exact HB.out)) hb); clear HO332; clear HO337; clear HI329; clear HB; have HO332 := n0_; have HO337 := n1_; have HO341 := n2_; have HI329 := n3_; have HB := n4_; clear n0_ n1_ n2_ n3_ n4_; (try clear hb); (try clear hb2); (try clear hk); (try clear hi); (try clear ho0); obtain ⟨Ao22, co22, eo22⟩ := Kd.R_slice HO332.out; subst eo22) | ((with_reducible refine gate_callee (f := 20) rfl ?_); refine goesL_ (some 33) rfl rfl Tryd.func20 (by kernel_rfl) rfl #[.slice Ao22 t330.length co22] rfl (by (try simp only [List.map_toArray, List.map_cons, List.map_nil]); first | done | rfl | (simp only [List.length_drop, List.length_take]; rfl)) ?_; (with_reducible refine (payslip_Merge.calls k _ _ t330 t342 t343 _ ?side1 ?side2 A9.out).mono ?_); (case side1 => repeat (first | exact (Kd.R_reads' HO332.out).2.2 | (with_reducible refine Kd.C_alloc ?_ _) | (with_reducible refine Kd.C_drewN ?_ _) | (with_reducible refine Kd.C_drew ?_))); (case side2 => exact (Kd.R_reads' HO332.out).2.1); rintro e w23 ⟨v344, rfl, ho0, hb⟩; refine ⟨_, rfl, ?_⟩; have n0_ := Aside0.mk (Kd.R_elder' (by (with_reducible repeat (first | apply Kd.R_alloc | apply Kd.R_drewN | apply Kd.R_drew)); exact HO332.out) (Kd.R_base ho0) hb); have n1_ := Aside0.mk (Kd.R_elder' (by (with_reducible repeat (first | apply Kd.R_alloc | apply Kd.R_drewN | apply Kd.R_drew)); exact HO337.out) (Kd.R_base ho0) hb); have n2_ := Aside0.mk (Kd.R_elder' (by (with_reducible repeat (first | apply Kd.R_alloc | apply Kd.R_drewN | apply Kd.R_drew)); exact HO341.out) (Kd.R_base ho0) hb); have n3_ := Aside0.mk (Kd.R_lower (Kd.R_new' (Kd.R_new' (Kd.R_new' ho0 (Kd.R_lt (by (with_reducible repeat (first | apply Kd.R_alloc | apply Kd.R_drewN | apply Kd.R_drew)); exact HO332.out))) (Kd.R_lt (by (with_reducible repeat (first | apply Kd.R_alloc | apply Kd.R_drewN | apply Kd.R_drew)); exact HO337.out))) (Kd.R_lt (by (with_reducible repeat (first | apply Kd.R_alloc | apply Kd.R_drewN | apply Kd.R_drew)); exact HO341.out))) (below_size (by repeat (first | (with_reducible first | exact HB.out | apply below_alloc | apply pw_below_drewN | apply below_drew1 | refine below_set ?_ (IsS52.ge HI329.out)) | exact HB.out)))); have n4_ := Aside0.mk (IsS52.below (by repeat (first | (with_reducible first | exact HI329.out | apply IsS52.alloc | apply IsS52.drewN | apply IsS52.drew | apply IsS52.set_1) | exact HI329.out)) hb); have n5_ := Aside0.mk (below_step (by repeat (first | (with_reducible first | exact HB.out | apply below_alloc | apply pw_below_drewN | apply below_drew1 | refine below_set ?_ (IsS52.ge HI329.out)) | exact HB.out)) hb); clear HO332; clear HO337; clear HO341; clear HI329; clear HB; have HO332 := n0_; have HO337 := n1_; have HO341 := n2_; have HO345 := n3_; have HI329 := n4_; have HB := n5_; clear n0_ n1_ n2_ n3_ n4_ n5_; (try clear hb); (try clear hb2); (try clear hk); (try clear hi); (try clear ho0)) | ((with_reducible refine gate_callee (f := 21) rfl ?_); refine goesL_ (some 38) rfl rfl Tryd.func21 (by kernel_rfl) rfl #[.slice Ao22 t330.length co22] rfl (by (try simp only [List.map_toArray, List.map_cons, List.map_nil]); first | done | rfl | (simp only [List.length_drop, List.length_take]; rfl)) ?_; (with_reducible refine (payrollref34_Merge.calls k _ _ t330 t346 t347 _ ?side1 ?side2 A10.out).mono ?_); (case side1 => repeat (first | exact (Kd.R_reads' HO332.out).2.2 | (with_reducible refine Kd.C_alloc ?_ _) | (with_reducible refine Kd.C_drewN ?_ _) | (with_reducible refine Kd.C_drew ?_))); (case side2 => exact (Kd.R_reads' HO332.out).2.1); rintro e w24 ⟨v348, rfl, ho0, hb⟩; refine ⟨_, rfl, ?_⟩; have n0_ := Aside0.mk (Kd.R_elder' (by (with_reducible repeat (first | apply Kd.R_alloc | apply Kd.R_drewN | apply Kd.R_drew)); exact HO332.out) (Kd.R_base ho0) hb); have n1_ := Aside0.mk (Kd.R_elder' (by (with_reducible repeat (first | apply Kd.R_alloc | apply Kd.R_drewN | apply Kd.R_drew)); exact HO337.out) (Kd.R_base ho0) hb); have n2_ := Aside0.mk (Kd.R_elder' (by (with_reducible repeat (first | apply Kd.R_alloc | apply Kd.R_drewN | apply Kd.R_drew)); exact HO341.out) (Kd.R_base ho0) hb); have n3_ := Aside0.mk (Kd.R_elder' (by (with_reducible repeat (first | apply Kd.R_alloc | apply Kd.R_drewN | apply Kd.R_drew)); exact HO345.out) (Kd.R_base ho0) hb); have n4_ := Aside0.mk (Kd.R_lower (Kd.R_new' (Kd.R_new' (Kd.R_new' (Kd.R_new' ho0 (Kd.R_lt (by (with_reducible repeat (first | apply Kd.R_alloc | apply Kd.R_drewN | apply Kd.R_drew)); exact HO332.out))) (Kd.R_lt (by (with_reducible repeat (first | apply Kd.R_alloc | apply Kd.R_drewN | apply Kd.R_drew)); exact HO337.out))) (Kd.R_lt (by (with_reducible repeat (first | apply Kd.R_alloc | apply Kd.R_drewN | apply Kd.R_drew)); exact HO341.out))) (Kd.R_lt (by (with_reducible repeat (first | apply Kd.R_alloc | apply Kd.R_drewN | apply Kd.R_drew)); exact HO345.out))) (below_size (by repeat (first | (with_reducible first | exact HB.out | apply below_alloc | apply pw_below_drewN | apply below_drew1 | refine below_set ?_ (IsS52.ge HI329.out)) | exact HB.out)))); have n5_ := Aside0.mk (IsS52.below (by repeat (first | (with_reducible first | exact HI329.out | apply IsS52.alloc | apply IsS52.drewN | apply IsS52.drew | apply IsS52.set_1) | exact HI329.out)) hb); have n6_ := Aside0.mk (below_step (by repeat (first | (with_reducible first | exact HB.out | apply below_alloc | apply pw_below_drewN | apply below_drew1 | refine below_set ?_ (IsS52.ge HI329.out)) | exact HB.out)) hb); clear HO332; clear HO337; clear HO341; clear HO345; clear HI329; clear HB; have HO332 := n0_; have HO337 := n1_; have HO341 := n2_; have HO345 := n3_; have HO349 := n4_; have HI329 := n5_; have HB := n6_; clear n0_ n1_ n2_ n3_ n4_ n5_ n6_; (try clear hb); (try clear hb2); (try clear hk); (try clear hi); (try clear ho0); obtain ⟨Ao25, co25, eo25⟩ := Kd.R_slice HO337.out; subst eo25; obtain ⟨Ao26, co26, eo26⟩ := Kd.R_slice HO341.out; subst eo26) | (go_at_call 19; (with_reducible refine (payrollref32_Same.calls k _ _ t334 _ _ t338 true _ ?side1 ?side2 ?side3 ?side4 A12.out).mono ?_); (case side1 => repeat (first | exact (Kd.R_reads' HO337.out).2.2 | (with_reducible refine Kd.C_alloc ?_ _) | (with_reducible refine Kd.C_drewN ?_ _) | (with_reducible refine Kd.C_drew ?_))); (case side2 => exact (Kd.R_reads' HO337.out).2.1); (case side3 => repeat (first | exact (Kd.R_reads' HO341.out).2.2 | (with_reducible refine Kd.C_alloc ?_ _) | (with_reducible refine Kd.C_drewN ?_ _) | (with_reducible refine Kd.C_drew ?_))); (case side4 => exact (Kd.R_reads' HO341.out).2.1); rintro e w' ⟨rfl, ⟨nd, rfl⟩⟩; obtain ⟨Ao27, co27, eo27⟩ := Kd.R_slice HO345.out; subst eo27; obtain ⟨Ao28, co28, eo28⟩ := Kd.R_slice HO349.out; subst eo28) | (go_at_call 19; (with_reducible refine (payrollref32_Same.calls k _ _ t342 _ _ t346 true _ ?side1 ?side2 ?side3 ?side4 A15.out).mono ?_); (case side1 => repeat (first | exact (Kd.R_reads' HO345.out).2.2 | (with_reducible refine Kd.C_alloc ?_ _) | (with_reducible refine Kd.C_drewN ?_ _) | (with_reducible refine Kd.C_drew ?_))); (case side2 => exact (Kd.R_reads' HO345.out).2.1); (case side3 => repeat (first | exact (Kd.R_reads' HO349.out).2.2 | (with_reducible refine Kd.C_alloc ?_ _) | (with_reducible refine Kd.C_drewN ?_ _) | (with_reducible refine Kd.C_drew ?_))); (case side4 => exact (Kd.R_reads' HO349.out).2.1); rintro e w' ⟨rfl, ⟨nd, rfl⟩⟩) | (go_at_call 8; (with_reducible refine (payrolllaw34_awake.calls k   _ ?side1 A17.out).mono ?_); (case side1 => exact Tabs.below HT.out (by repeat (first | (with_reducible first | exact HB.out | apply below_alloc | apply pw_below_drewN | apply below_drew1 | refine below_set ?_ (IsS52.ge HI329.out)) | exact HB.out))); rintro e w29 ⟨rfl, hb⟩; have n0_ := Aside0.mk (Kd.R_below (by (with_reducible repeat (first | apply Kd.R_alloc | apply Kd.R_drewN | apply Kd.R_drew)); exact HO332.out) hb); have n1_ := Aside0.mk (Kd.R_below (by (with_reducible repeat (first | apply Kd.R_alloc | apply Kd.R_drewN | apply Kd.R_drew)); exact HO337.out) hb); have n2_ := Aside0.mk (Kd.R_below (by (with_reducible repeat (first | apply Kd.R_alloc | apply Kd.R_drewN | apply Kd.R_drew)); exact HO341.out) hb); have n3_ := Aside0.mk (Kd.R_below (by (with_reducible repeat (first | apply Kd.R_alloc | apply Kd.R_drewN | apply Kd.R_drew)); exact HO345.out) hb); have n4_ := Aside0.mk (Kd.R_below (by (with_reducible repeat (first | apply Kd.R_alloc | apply Kd.R_drewN | apply Kd.R_drew)); exact HO349.out) hb); have n5_ := Aside0.mk (IsS52.below (by repeat (first | (with_reducible first | exact HI329.out | apply IsS52.alloc | apply IsS52.drewN | apply IsS52.drew | apply IsS52.set_1) | exact HI329.out)) hb); have n6_ := Aside0.mk (below_step (by repeat (first | (with_reducible first | exact HB.out | apply below_alloc | apply pw_below_drewN | apply below_drew1 | refine below_set ?_ (IsS52.ge HI329.out)) | exact HB.out)) hb); clear HO332; clear HO337; clear HO341; clear HO345; clear HO349; clear HI329; clear HB; have HO332 := n0_; have HO337 := n1_; have HO341 := n2_; have HO345 := n3_; have HO349 := n4_; have HI329 := n5_; have HB := n6_; clear n0_ n1_ n2_ n3_ n4_ n5_ n6_; (try clear hb); (try clear hb2); (try clear hk); (try clear hi)))
            go_ret
            exact ⟨by first | rfl | (rw [HY.out] <;> rfl) | (simp [errW_none, errW_some] <;> rfl) | (simp [*, errW_none, errW_some] <;> rfl), by repeat (first | (with_reducible first | exact HB.out | apply below_alloc | apply pw_below_drewN | apply below_drew1 | refine below_set ?_ (IsS52.ge HI329.out)) | exact HB.out)⟩
          · replace c16 := Bool.eq_false_iff.mpr c16
            subst c16
            have H1 : (some false) = some true := by rw [if_neg (show ¬ (false = true) by decide)] at H; exact H
            clear H
            have H := H1
            clear H1
            exact absurd H (by simp)
        · rw [if_neg c14] at H
          have c14b0 : (t343 == t347) = false := beq_eq_false_iff_ne.mpr c14
          have c14b1 : (t343 != t347) = true := bne_iff_ne.mpr c14
          exact absurd H (by simp)
      · replace c13 := Bool.eq_false_iff.mpr c13
        subst c13
        have H1 : (some false) = some true := by rw [if_neg (show ¬ (false = true) by decide)] at H; exact H
        clear H
        have H := H1
        clear H1
        exact absurd H (by simp)
    · rw [if_neg c11] at H
      have c11b0 : (t335 == t339) = false := beq_eq_false_iff_ne.mpr c11
      have c11b1 : (t335 != t339) = true := bne_iff_ne.mpr c11
      exact absurd H (by simp)
  · replace c4 := Bool.eq_false_iff.mpr c4
    subst c4
    have H1 : ((payrolllaw34_awake.f k).bind fun t326 => (some t326)) = some true := by rw [if_neg (show ¬ (false = true) by decide)] at H; exact H
    clear H
    have H := H1
    clear H1
    replace H := Option.bind_eq_some_iff.mp H
    obtain ⟨t326, A300, H⟩ := H
    replace H : (some t326) = some true := H
    have A30 := Aside0.mk A300
    clear A300
    obtain rfl := Option.some.inj H
    go_enter Tryd.func6, Tryd.ntmps6
    go_wp2_with (first | ((with_reducible refine gate_callee (f := 15) rfl ?_); refine goesL_ (some 15) rfl rfl Tryd.func15 (by kernel_rfl) rfl #[.slice A0 l0.length c0] rfl (by (try simp only [List.map_toArray, List.map_cons, List.map_nil]); first | done | rfl | (simp only [List.length_drop, List.length_take]; rfl)) ?_; (with_reducible refine (paygen_ShortLines.calls k _ _ l0 false _ ?side1 ?side2 A3.out).mono ?_); (case side1 => repeat (first | exact HR0.out | (with_reducible refine Kd.C_alloc ?_ _) | (with_reducible refine Kd.C_drewN ?_ _) | (with_reducible refine Kd.C_drew ?_))); (case side2 => exact HC0.out); rintro e w' ⟨rfl, ⟨nd, rfl⟩⟩; refine ⟨_, rfl, ?_⟩) | ((with_reducible refine gate_callee (f := 8) rfl ?_); refine goesL_ (some 17) rfl rfl Tryd.func8 (by kernel_rfl) rfl #[] rfl (by (try simp only [List.map_toArray, List.map_cons, List.map_nil]); first | done | rfl | (simp only [List.length_drop, List.length_take]; rfl)) ?_; (with_reducible refine (payrolllaw34_awake.calls k   _ ?side1 A30.out).mono ?_); (case side1 => exact Tabs.below HT.out (by repeat (first | (with_reducible first | exact HB.out | apply below_alloc | apply pw_below_drewN | apply below_drew1) | exact HB.out))); rintro e w31 ⟨rfl, hb⟩; refine ⟨_, rfl, ?_⟩; have n0_ := Aside0.mk (below_step (by repeat (first | (with_reducible first | exact HB.out | apply below_alloc | apply pw_below_drewN | apply below_drew1) | exact HB.out)) hb); clear HB; have HB := n0_; clear n0_; (try clear hb); (try clear hb2); (try clear hk); (try clear hi)))
    go_ret
    exact ⟨by first | rfl | (rw [HY.out] <;> rfl) | (simp [errW_none, errW_some] <;> rfl) | (simp [*, errW_none, errW_some] <;> rfl), by repeat (first | (with_reducible first | exact HB.out | apply below_alloc | apply pw_below_drewN | apply below_drew1) | exact HB.out)⟩
end Go.Proofs.YtlanldccamphcaaDoor.P
