/- Texts for the law PayslipCompares (kept out of a larger one). -/
import Derived.Test.YtlanldccamphcaaDoorZPayslipCompares13
import Derived.Test.YtlanldccamphcaaDoorZPayslipCompares14
import Derived.Test.YtlanldccamphcaaDoorZPayslipCompares36
import Derived.Test.YtlanldccamphcaaDoorZPayslipCompares37
import Derived.Test.YtlanldccamphcaaDoorZPayslipCompares40
import Derived.Test.YtlanldccamphcaaDoorZPayslipCompares35
import Derived.Test.YtlanldccamphcaaDoorZPayslipCompares21
-- Written by a program of this session (wip/tools/xprint.py) out of the translation; Lean checks it.
namespace Go.Proofs.YtlanldccamphcaaDoor.P
open Go.RowKit Go.Proofs.YtlanldccamphcaaDoorW.PrintWords Go.Proofs.YtlanldccamphcaaDoorW.PrintLast Go.Proofs.YtlanldccamphcaaDoorW.PrintMore
attribute [local go_sem] max2_int min2_int max_two min_two max_three min_three max_four min_four   -- for this text's walks alone
set_option linter.unusedVariables false
set_option linter.unusedSimpArgs false
attribute [local go_sem high] eqA23
def payrollref32_Same.l0 : Nat → List (S23) → List (S23) → Int → Option (Bool)
  | 0, _, _, _ => none
  | k + 1, x0, x1, x5 => if x5 < (x0.length : Int) then (if 0 ≤ x5 then (if x5 < (x1.length : Int) then (if (!(((rd_T23 x0 x5).f0) == ((rd_T23 x1 x5).f0)) || (!((((rd_T23 x0 x5).f1).toList) == (((rd_T23 x1 x5).f1).toList)) || (!(((rd_T23 x0 x5).f2) == ((rd_T23 x1 x5).f2))))) = true then (some false) else (payrollref32_Same.l0 k x0 x1 (wrap64 (x5 + 1)))) else (none)) else (none)) else (some true)
def payrollref32_Same.f (k : Nat) (l0 : List (S23)) (l1 : List (S23)) : Option (Bool) := if (l0.length : Int) = (l1.length : Int) then (payrollref32_Same.l0 k l0 l1 0) else (some false)
set_option maxHeartbeats 8000000 in
set_option maxRecDepth 100000 in
theorem payrollref32_Same.calls (k : Nat) (A0 : Option Addr) (c0 : Nat) (l0 : List (S23)) (A1 : Option Addr) (c1 : Nat) (l1 : List (S23)) (r : Bool) (w : World) (hr0 : Kd.C k23 w A0 l0.length l0) (hc0 : l0.length ≤ c0) (hr1 : Kd.C k23 w A1 l1.length l1) (hc1 : l1.length ≤ c1) (h : payrollref32_Same.f k l0 l1 = some r) :
    Calls Tryd.prog 19 #[.slice A0 l0.length c0, .slice A1 l1.length c1] w fun e w' => e = .returned (.bool r) ∧ Drawn0 w w' := by
  have hu23 := Tryd.underlying23
  have HR0 := Aside0.mk hr0
  have HC0 := Aside0.mk hc0
  clear hr0 hc0
  have HR1 := Aside0.mk hr1
  have HC1 := Aside0.mk hc1
  clear hr1 hc1
  have H : (if (l0.length : Int) = (l1.length : Int) then (payrollref32_Same.l0 k l0 l1 0) else (some false)) = some r := h
  clear h
  by_cases c3 : (l0.length : Int) = (l1.length : Int)
  · rw [if_pos c3] at H
    have c3b0 : ((l0.length : Int) == (l1.length : Int)) = true := beq_iff_eq.mpr c3
    have c3b1 : ((l0.length : Int) != (l1.length : Int)) = false := bne_eq_false_iff_eq.mpr c3
    have c3b2 : (l0.length == l1.length) = true := by first | simpa using c3 | (simp at c3 ⊢; omega)
    clear c3
    have H' := Aside0.mk H
    clear H
    go_enter Tryd.func19, Tryd.ntmps19
    go_wp2
    repeat (go_quiet (fail); try go_wp2)
    go_loopg [5] k (fun kq v5 w' => ∃ (x5_1 : Int), v5 = .int .i64 x5_1 ∧ Aside0 (payrollref32_Same.l0 kq l0 l1 x5_1 = some r) ∧ Aside0 (kq ≤ k) ∧ Drawn0 w w')
    case atStart => exact ⟨(0), (by first | rfl | (simp; done) | (simp [*]; done)), H', ⟨Nat.le_refl _⟩, by repeat (first | exact Drawn0.refl _ | apply Drawn0.step)⟩
    case round =>
      clear H'
      try clear c1
      try clear p2
      try clear c3
      try clear c3b0
      try clear c3b1
      try clear c3b2
      obtain ⟨x5_1, rfl, HA, HK1, ⟨m1, rfl⟩⟩ := hrel
      cases gk with
      | zero => exact absurd HA.out (by simp [payrollref32_Same.l0])
      | succ k1 =>
        have H := HA.out
        clear HA
        simp only [payrollref32_Same.l0] at H
        by_cases c4 : x5_1 < (l0.length : Int)
        · rw [if_pos c4] at H
          have c4b0 : decide (x5_1 < (l0.length : Int)) = true := decide_eq_true c4
          clear c4
          by_cases c5 : 0 ≤ x5_1
          · rw [if_pos c5] at H
            have c5b0 : decide (0 ≤ x5_1) = true := decide_eq_true c5
            clear c5
            by_cases c6 : x5_1 < (l1.length : Int)
            · rw [if_pos c6] at H
              have c6b0 : decide (x5_1 < (l1.length : Int)) = true := decide_eq_true c6
              clear c6
              by_cases c7 : (!(((rd_T23 l0 x5_1).f0) == ((rd_T23 l1 x5_1).f0)) || (!((((rd_T23 l0 x5_1).f1).toList) == (((rd_T23 l1 x5_1).f1).toList)) || (!(((rd_T23 l0 x5_1).f2) == ((rd_T23 l1 x5_1).f2))))) = true
              · rw [if_pos c7] at H
                have c7b0 : (!(((rd_T23 l0 x5_1).f0) == ((rd_T23 l1 x5_1).f0)) || (!((((rd_T23 l0 x5_1).f1).toList) == (((rd_T23 l1 x5_1).f1).toList)) || (!(((rd_T23 l0 x5_1).f2) == ((rd_T23 l1 x5_1).f2))))) = true := c7
                clear c7
                obtain rfl := Option.some.inj H
                have p273 : 0 ≤ (x5_1 : Int) := of_decide_eq_true (by first | (with_reducible assumption) | assumption)
                have q273 : x5_1 < (l0.length : Int) := of_decide_eq_true (by first | (with_reducible assumption) | assumption)
                obtain ⟨ad273, e273, hx273_0, hx273_1, hx273_2⟩ := at_T23 HR0.out x5_1 p273 q273
                cases e273
                replace p273 := eq_true p273
                replace q273 := eq_true q273
                have p274 : 0 ≤ (x5_1 : Int) := of_decide_eq_true (by first | (with_reducible assumption) | assumption)
                have q274 : x5_1 < (l1.length : Int) := of_decide_eq_true (by first | (with_reducible assumption) | assumption)
                obtain ⟨ad274, e274, hx274_0, hx274_1, hx274_2⟩ := at_T23 HR1.out x5_1 p274 q274
                cases e274
                replace p274 := eq_true p274
                replace q274 := eq_true q274
                go_wp2
                repeat (go_quiet (fail); try go_wp2)
                go_ret
                exact ⟨by first | rfl | (simp; done) | (simp [*]; done), by repeat (first | exact Drawn0.refl _ | apply Drawn0.step)⟩
              · rw [if_neg c7] at H
                have c7b0 : (!(((rd_T23 l0 x5_1).f0) == ((rd_T23 l1 x5_1).f0)) || (!((((rd_T23 l0 x5_1).f1).toList) == (((rd_T23 l1 x5_1).f1).toList)) || (!(((rd_T23 l0 x5_1).f2) == ((rd_T23 l1 x5_1).f2))))) = false := by simpa using c7
                clear c7
                have H' := Aside0.mk H
                clear H
                have p273 : 0 ≤ (x5_1 : Int) := of_decide_eq_true (by first | (with_reducible assumption) | assumption)
                have q273 : x5_1 < (l0.length : Int) := of_decide_eq_true (by first | (with_reducible assumption) | assumption)
                obtain ⟨ad273, e273, hx273_0, hx273_1, hx273_2⟩ := at_T23 HR0.out x5_1 p273 q273
                cases e273
                replace p273 := eq_true p273
                replace q273 := eq_true q273
                have p274 : 0 ≤ (x5_1 : Int) := of_decide_eq_true (by first | (with_reducible assumption) | assumption)
                have q274 : x5_1 < (l1.length : Int) := of_decide_eq_true (by first | (with_reducible assumption) | assumption)
                obtain ⟨ad274, e274, hx274_0, hx274_1, hx274_2⟩ := at_T23 HR1.out x5_1 p274 q274
                cases e274
                replace p274 := eq_true p274
                replace q274 := eq_true q274
                go_wp2
                repeat (go_quiet (fail); try go_wp2)
                go_roundg k1
                case measure => have := HK1.out; omega
                case rel => exact ⟨(wrap64 (x5_1 + 1)), (by first | rfl | (simp; done) | (simp [*]; done)), H', ⟨by have := HK1.out; omega⟩, by repeat (first | exact Drawn0.refl _ | apply Drawn0.step)⟩
            · rw [if_neg c6] at H
              exact absurd H (by simp)
          · rw [if_neg c5] at H
            exact absurd H (by simp)
        · rw [if_neg c4] at H
          have c4b0 : decide (x5_1 < (l0.length : Int)) = false := decide_eq_false c4
          clear c4
          obtain rfl := Option.some.inj H
          go_wp2
          repeat (go_quiet (fail); try go_wp2)
          go_ret
          exact ⟨by first | rfl | (simp; done) | (simp [*]; done), by repeat (first | exact Drawn0.refl _ | apply Drawn0.step)⟩
  · rw [if_neg c3] at H
    have c3b0 : ((l0.length : Int) == (l1.length : Int)) = false := beq_eq_false_iff_ne.mpr c3
    have c3b1 : ((l0.length : Int) != (l1.length : Int)) = true := bne_iff_ne.mpr c3
    have c3b2 : (l0.length == l1.length) = false := by first | simpa using c3 | (simp at c3 ⊢; omega)
    obtain rfl := Option.some.inj H
    go_enter Tryd.func19, Tryd.ntmps19
    go_wp2
    repeat (go_quiet (fail); try go_wp2)
    go_ret
    exact ⟨by first | rfl | (simp; done) | (simp [*]; done), by repeat (first | exact Drawn0.refl _ | apply Drawn0.step)⟩
def payrolllaw34_PayslipCompares.j0 : Nat → List (S23) → List (S23) → List Int → Bool → Option (Bool)
  | 0, _, _, _, _ => none
  | k + 1, x0, x1, x2, x25 => if x25 = true then ((payrolllaw34_awake.f k).bind fun t277 => (some t277)) else ((paygen_New.f x2).bind fun bt278 => ((paygen_Deck_Lines.f k bt278.1 bt278.2 8).bind fun bt281 => ((paygen_Deck_Lines.f k bt278.1 bt281.2 8).bind fun bt285 => ((payslip_Compare.f k x0 x1).bind fun bt289 => ((payrollref34_Compare.f k x0 x1).bind fun bt293 => ((payslip_Compare.f k bt281.1 bt285.1).bind fun bt297 => ((payrollref34_Compare.f k bt281.1 bt285.1).bind fun bt301 => (if bt289.2 = bt293.2 then ((payrollref32_Same.f k bt289.1 bt293.1).bind fun t305 => (if t305 = true then (if bt297.2 = bt301.2 then ((payrollref32_Same.f k bt297.1 bt301.1).bind fun t306 => (if t306 = true then ((payrolllaw34_awake.f k).bind fun t307 => (some t307)) else (some false))) else (some false)) else (some false))) else (some false)))))))))
def payrolllaw34_PayslipCompares.f (k : Nat) (l0 : List (S23)) (l1 : List (S23)) (l2 : List Int) : Option (Bool) := (paygen_ShortLines.f k l0).bind fun t275 => (if t275 = true then ((paygen_ShortLines.f k l1).bind fun t276 => (payrolllaw34_PayslipCompares.j0 k l0 l1 l2 (!t276))) else (payrolllaw34_PayslipCompares.j0 k l0 l1 l2 true))
set_option maxHeartbeats 8000000 in
set_option maxRecDepth 100000 in
theorem payrolllaw34_PayslipCompares.calls (k : Nat) (A0 : Option Addr) (c0 : Nat) (l0 : List (S23)) (A1 : Option Addr) (c1 : Nat) (l1 : List (S23)) (A2 : Option Addr) (c2 : Nat) (l2 : List Int) (w : World) (hr0 : Kd.C k23 w A0 l0.length l0) (hc0 : l0.length ≤ c0) (hr1 : Kd.C k23 w A1 l1.length l1) (hc1 : l1.length ≤ c1) (hr2 : Kd.C (Kd.int .i64) w A2 l2.length l2) (hc2 : l2.length ≤ c2) (hT : Tabs w) (h : payrolllaw34_PayslipCompares.f k l0 l1 l2 = some true) :
    Calls Tryd.prog 4 #[.slice A0 l0.length c0, .slice A1 l1.length c1, .slice A2 l2.length c2] w fun e w' => e = .returned (.bool true) ∧ Below w.heap.size w w' := by
  have HR0 := Aside0.mk hr0
  have HC0 := Aside0.mk hc0
  clear hr0 hc0
  have HR1 := Aside0.mk hr1
  have HC1 := Aside0.mk hc1
  clear hr1 hc1
  have HR2 := Aside0.mk hr2
  have HC2 := Aside0.mk hc2
  clear hr2 hc2
  have HB := Aside0.mk (Below.refl w.heap.size w)
  have HT := Aside0.mk hT
  clear hT
  have H : ((paygen_ShortLines.f k l0).bind fun t275 => (if t275 = true then ((paygen_ShortLines.f k l1).bind fun t276 => (payrolllaw34_PayslipCompares.j0 k l0 l1 l2 (!t276))) else (payrolllaw34_PayslipCompares.j0 k l0 l1 l2 true))) = some true := h
  clear h
  have HC4 := Aside0.mk H
  clear H
  go_enter Tryd.func4, Tryd.ntmps4
  go_upto_region 1 with (fail)
  go_cut [25] (fun v25 wc => ∃ (kq : Nat) (x25_3 : Bool), v25 = .bool x25_3 ∧ Aside0 (payrolllaw34_PayslipCompares.j0 kq l0 l1 l2 x25_3 = some true) ∧ Aside0 (kq ≤ k) ∧ Aside0 (Below w.heap.size w wc))
  case first =>
    have H := HC4.out
    clear HC4
    replace H := Option.bind_eq_some_iff.mp H
    obtain ⟨t275, A50, H⟩ := H
    replace H : (if t275 = true then ((paygen_ShortLines.f k l1).bind fun t276 => (payrolllaw34_PayslipCompares.j0 k l0 l1 l2 (!t276))) else (payrolllaw34_PayslipCompares.j0 k l0 l1 l2 true)) = some true := H
    have A5 := Aside0.mk A50
    clear A50
    by_cases c6 : t275 = true
    · subst c6
      have H1 : ((paygen_ShortLines.f k l1).bind fun t276 => (payrolllaw34_PayslipCompares.j0 k l0 l1 l2 (!t276))) = some true := by rw [if_pos rfl] at H; exact H
      clear H
      have H := H1
      clear H1
      replace H := Option.bind_eq_some_iff.mp H
      obtain ⟨t276, A70, H⟩ := H
      replace H : (payrolllaw34_PayslipCompares.j0 k l0 l1 l2 (!t276)) = some true := H
      have A7 := Aside0.mk A70
      clear A70
      have H' := Aside0.mk H
      clear H
      go_wp2_with (first | ((with_reducible refine gate_callee (f := 15) rfl ?_); refine goesL_ (some 19) rfl rfl Tryd.func15 (by kernel_rfl) rfl #[.slice A0 l0.length c0] rfl (by (try simp only [List.map_toArray, List.map_cons, List.map_nil]); first | done | rfl | (simp only [List.length_drop, List.length_take]; rfl)) ?_; (with_reducible refine (paygen_ShortLines.calls k _ _ l0 true _ ?side1 ?side2 A5.out).mono ?_); (case side1 => repeat (first | exact (Kd.C_below HR0.out HB.out) | (with_reducible refine Kd.C_alloc ?_ _) | (with_reducible refine Kd.C_drewN ?_ _) | (with_reducible refine Kd.C_drew ?_))); (case side2 => exact HC0.out); rintro e w' ⟨rfl, ⟨nd, rfl⟩⟩; refine ⟨_, rfl, ?_⟩) | (go_at_call 15; (with_reducible refine (paygen_ShortLines.calls k _ _ l1 t276 _ ?side1 ?side2 A7.out).mono ?_); (case side1 => repeat (first | exact (Kd.C_below HR1.out (by repeat (first | (with_reducible first | exact HB.out | apply below_alloc | apply pw_below_drewN | apply below_drew1) | exact HB.out))) | (with_reducible refine Kd.C_alloc ?_ _) | (with_reducible refine Kd.C_drewN ?_ _) | (with_reducible refine Kd.C_drew ?_))); (case side2 => exact HC1.out); rintro e w' ⟨rfl, ⟨nd, rfl⟩⟩))
      go_meet
      case rel => exact ⟨_, (!t276), (by first | rfl | (simp; done) | (simp [*]; done)), H', ⟨by first | omega | exact Nat.le_refl _⟩, ⟨by repeat (first | (with_reducible first | exact HB.out | apply below_alloc | apply pw_below_drewN | apply below_drew1) | exact HB.out)⟩⟩
    · replace c6 := Bool.eq_false_iff.mpr c6
      subst c6
      have H1 : (payrolllaw34_PayslipCompares.j0 k l0 l1 l2 true) = some true := by rw [if_neg (show ¬ (false = true) by decide)] at H; exact H
      clear H
      have H := H1
      clear H1
      have H' := Aside0.mk H
      clear H
      go_wp2_with (first | ((with_reducible refine gate_callee (f := 15) rfl ?_); refine goesL_ (some 19) rfl rfl Tryd.func15 (by kernel_rfl) rfl #[.slice A0 l0.length c0] rfl (by (try simp only [List.map_toArray, List.map_cons, List.map_nil]); first | done | rfl | (simp only [List.length_drop, List.length_take]; rfl)) ?_; (with_reducible refine (paygen_ShortLines.calls k _ _ l0 false _ ?side1 ?side2 A5.out).mono ?_); (case side1 => repeat (first | exact (Kd.C_below HR0.out HB.out) | (with_reducible refine Kd.C_alloc ?_ _) | (with_reducible refine Kd.C_drewN ?_ _) | (with_reducible refine Kd.C_drew ?_))); (case side2 => exact HC0.out); rintro e w' ⟨rfl, ⟨nd, rfl⟩⟩; refine ⟨_, rfl, ?_⟩))
      go_meet
      case rel => exact ⟨_, (true), (by first | rfl | (simp; done) | (simp [*]; done)), H', ⟨by first | omega | exact Nat.le_refl _⟩, ⟨by repeat (first | (with_reducible first | exact HB.out | apply below_alloc | apply pw_below_drewN | apply below_drew1) | exact HB.out)⟩⟩
  case rest =>
    clear HC4
    try clear c1
    try clear c2
    try clear p2
    try clear c4
    try clear c6
    obtain ⟨kq, x25_3, rfl, HA, HJ3, HB⟩ := hcut
    cases kq with
    | zero => exact absurd HA.out (by simp [payrolllaw34_PayslipCompares.j0])
    | succ kj3 =>
      have H := HA.out
      clear HA
      simp only [payrolllaw34_PayslipCompares.j0] at H
      by_cases c8 : x25_3 = true
      · subst c8
        have H1 : ((payrolllaw34_awake.f kj3).bind fun t277 => (some t277)) = some true := by rw [if_pos rfl] at H; exact H
        clear H
        have H := H1
        clear H1
        replace H := Option.bind_eq_some_iff.mp H
        obtain ⟨t277, A90, H⟩ := H
        replace H : (some t277) = some true := H
        have A9 := Aside0.mk A90
        clear A90
        obtain rfl := Option.some.inj H
        go_wp2_with (first | ((with_reducible refine gate_callee (f := 8) rfl ?_); refine goesL_ (some 26) rfl rfl Tryd.func8 (by kernel_rfl) rfl #[] rfl (by (try simp only [List.map_toArray, List.map_cons, List.map_nil]); first | done | rfl | (simp only [List.length_drop, List.length_take]; rfl)) ?_; (with_reducible refine (payrolllaw34_awake.calls kj3   _ ?side1 A9.out).mono ?_); (case side1 => exact Tabs.below HT.out (by repeat (first | (with_reducible first | exact HB.out | apply below_alloc | apply pw_below_drewN | apply below_drew1) | exact HB.out))); rintro e w10 ⟨rfl, hb⟩; refine ⟨_, rfl, ?_⟩; have n0_ := Aside0.mk (below_step (by repeat (first | (with_reducible first | exact HB.out | apply below_alloc | apply pw_below_drewN | apply below_drew1) | exact HB.out)) hb); clear HB; have HB := n0_; clear n0_; (try clear hb); (try clear hb2); (try clear hk); (try clear hi)))
        go_ret
        exact ⟨by first | rfl | (rw [HY.out] <;> rfl) | (simp [errW_none, errW_some] <;> rfl) | (simp [*, errW_none, errW_some] <;> rfl), by repeat (first | (with_reducible first | exact HB.out | apply below_alloc | apply pw_below_drewN | apply below_drew1) | exact HB.out)⟩
      · replace c8 := Bool.eq_false_iff.mpr c8
        subst c8
        have H1 : ((paygen_New.f l2).bind fun bt278 => ((paygen_Deck_Lines.f kj3 bt278.1 bt278.2 8).bind fun bt281 => ((paygen_Deck_Lines.f kj3 bt278.1 bt281.2 8).bind fun bt285 => ((payslip_Compare.f kj3 l0 l1).bind fun bt289 => ((payrollref34_Compare.f kj3 l0 l1).bind fun bt293 => ((payslip_Compare.f kj3 bt281.1 bt285.1).bind fun bt297 => ((payrollref34_Compare.f kj3 bt281.1 bt285.1).bind fun bt301 => (if bt289.2 = bt293.2 then ((payrollref32_Same.f kj3 bt289.1 bt293.1).bind fun t305 => (if t305 = true then (if bt297.2 = bt301.2 then ((payrollref32_Same.f kj3 bt297.1 bt301.1).bind fun t306 => (if t306 = true then ((payrolllaw34_awake.f kj3).bind fun t307 => (some t307)) else (some false))) else (some false)) else (some false))) else (some false))))))))) = some true := by rw [if_neg (show ¬ (false = true) by decide)] at H; exact H
        clear H
        have H := H1
        clear H1
        replace H := Option.bind_eq_some_iff.mp H
        obtain ⟨⟨t278, t279⟩, A110, H⟩ := H
        replace H : ((paygen_Deck_Lines.f kj3 t278 t279 8).bind fun bt281 => ((paygen_Deck_Lines.f kj3 t278 bt281.2 8).bind fun bt285 => ((payslip_Compare.f kj3 l0 l1).bind fun bt289 => ((payrollref34_Compare.f kj3 l0 l1).bind fun bt293 => ((payslip_Compare.f kj3 bt281.1 bt285.1).bind fun bt297 => ((payrollref34_Compare.f kj3 bt281.1 bt285.1).bind fun bt301 => (if bt289.2 = bt293.2 then ((payrollref32_Same.f kj3 bt289.1 bt293.1).bind fun t305 => (if t305 = true then (if bt297.2 = bt301.2 then ((payrollref32_Same.f kj3 bt297.1 bt301.1).bind fun t306 => (if t306 = true then ((payrolllaw34_awake.f kj3).bind fun t307 => (some t307)) else (some false))) else (some false)) else (some false))) else (some false)))))))) = some true := H
        have A11 := Aside0.mk A110
        clear A110
        replace H := Option.bind_eq_some_iff.mp H
        obtain ⟨⟨t281, t284⟩, A120, H⟩ := H
        replace H : ((paygen_Deck_Lines.f kj3 t278 t284 8).bind fun bt285 => ((payslip_Compare.f kj3 l0 l1).bind fun bt289 => ((payrollref34_Compare.f kj3 l0 l1).bind fun bt293 => ((payslip_Compare.f kj3 t281 bt285.1).bind fun bt297 => ((payrollref34_Compare.f kj3 t281 bt285.1).bind fun bt301 => (if bt289.2 = bt293.2 then ((payrollref32_Same.f kj3 bt289.1 bt293.1).bind fun t305 => (if t305 = true then (if bt297.2 = bt301.2 then ((payrollref32_Same.f kj3 bt297.1 bt301.1).bind fun t306 => (if t306 = true then ((payrolllaw34_awake.f kj3).bind fun t307 => (some t307)) else (some false))) else (some false)) else (some false))) else (some false))))))) = some true := H
        have A12 := Aside0.mk A120
        clear A120
        replace H := Option.bind_eq_some_iff.mp H
        obtain ⟨⟨t285, t288⟩, A130, H⟩ := H
        replace H : ((payslip_Compare.f kj3 l0 l1).bind fun bt289 => ((payrollref34_Compare.f kj3 l0 l1).bind fun bt293 => ((payslip_Compare.f kj3 t281 t285).bind fun bt297 => ((payrollref34_Compare.f kj3 t281 t285).bind fun bt301 => (if bt289.2 = bt293.2 then ((payrollref32_Same.f kj3 bt289.1 bt293.1).bind fun t305 => (if t305 = true then (if bt297.2 = bt301.2 then ((payrollref32_Same.f kj3 bt297.1 bt301.1).bind fun t306 => (if t306 = true then ((payrolllaw34_awake.f kj3).bind fun t307 => (some t307)) else (some false))) else (some false)) else (some false))) else (some false)))))) = some true := H
        have A13 := Aside0.mk A130
        clear A130
        replace H := Option.bind_eq_some_iff.mp H
        obtain ⟨⟨t289, t290⟩, A140, H⟩ := H
        replace H : ((payrollref34_Compare.f kj3 l0 l1).bind fun bt293 => ((payslip_Compare.f kj3 t281 t285).bind fun bt297 => ((payrollref34_Compare.f kj3 t281 t285).bind fun bt301 => (if t290 = bt293.2 then ((payrollref32_Same.f kj3 t289 bt293.1).bind fun t305 => (if t305 = true then (if bt297.2 = bt301.2 then ((payrollref32_Same.f kj3 bt297.1 bt301.1).bind fun t306 => (if t306 = true then ((payrolllaw34_awake.f kj3).bind fun t307 => (some t307)) else (some false))) else (some false)) else (some false))) else (some false))))) = some true := H
        have A14 := Aside0.mk A140
        clear A140
        replace H := Option.bind_eq_some_iff.mp H
        obtain ⟨⟨t293, t294⟩, A150, H⟩ := H
        replace H : ((payslip_Compare.f kj3 t281 t285).bind fun bt297 => ((payrollref34_Compare.f kj3 t281 t285).bind fun bt301 => (if t290 = t294 then ((payrollref32_Same.f kj3 t289 t293).bind fun t305 => (if t305 = true then (if bt297.2 = bt301.2 then ((payrollref32_Same.f kj3 bt297.1 bt301.1).bind fun t306 => (if t306 = true then ((payrolllaw34_awake.f kj3).bind fun t307 => (some t307)) else (some false))) else (some false)) else (some false))) else (some false)))) = some true := H
        have A15 := Aside0.mk A150
        clear A150
        replace H := Option.bind_eq_some_iff.mp H
        obtain ⟨⟨t297, t298⟩, A160, H⟩ := H
        replace H : ((payrollref34_Compare.f kj3 t281 t285).bind fun bt301 => (if t290 = t294 then ((payrollref32_Same.f kj3 t289 t293).bind fun t305 => (if t305 = true then (if t298 = bt301.2 then ((payrollref32_Same.f kj3 t297 bt301.1).bind fun t306 => (if t306 = true then ((payrolllaw34_awake.f kj3).bind fun t307 => (some t307)) else (some false))) else (some false)) else (some false))) else (some false))) = some true := H
        have A16 := Aside0.mk A160
        clear A160
        replace H := Option.bind_eq_some_iff.mp H
        obtain ⟨⟨t301, t302⟩, A170, H⟩ := H
        replace H : (if t290 = t294 then ((payrollref32_Same.f kj3 t289 t293).bind fun t305 => (if t305 = true then (if t298 = t302 then ((payrollref32_Same.f kj3 t297 t301).bind fun t306 => (if t306 = true then ((payrolllaw34_awake.f kj3).bind fun t307 => (some t307)) else (some false))) else (some false)) else (some false))) else (some false)) = some true := H
        have A17 := Aside0.mk A170
        clear A170
        by_cases c18 : t290 = t294
        · rw [if_pos c18] at H
          have c18b0 : (t290 == t294) = true := beq_iff_eq.mpr c18
          have c18b1 : (t290 != t294) = false := bne_eq_false_iff_eq.mpr c18
          clear c18
          replace H := Option.bind_eq_some_iff.mp H
          obtain ⟨t305, A190, H⟩ := H
          replace H : (if t305 = true then (if t298 = t302 then ((payrollref32_Same.f kj3 t297 t301).bind fun t306 => (if t306 = true then ((payrolllaw34_awake.f kj3).bind fun t307 => (some t307)) else (some false))) else (some false)) else (some false)) = some true := H
          have A19 := Aside0.mk A190
          clear A190
          by_cases c20 : t305 = true
          · subst c20
            have H1 : (if t298 = t302 then ((payrollref32_Same.f kj3 t297 t301).bind fun t306 => (if t306 = true then ((payrolllaw34_awake.f kj3).bind fun t307 => (some t307)) else (some false))) else (some false)) = some true := by rw [if_pos rfl] at H; exact H
            clear H
            have H := H1
            clear H1
            by_cases c21 : t298 = t302
            · rw [if_pos c21] at H
              have c21b0 : (t298 == t302) = true := beq_iff_eq.mpr c21
              have c21b1 : (t298 != t302) = false := bne_eq_false_iff_eq.mpr c21
              clear c21
              replace H := Option.bind_eq_some_iff.mp H
              obtain ⟨t306, A220, H⟩ := H
              replace H : (if t306 = true then ((payrolllaw34_awake.f kj3).bind fun t307 => (some t307)) else (some false)) = some true := H
              have A22 := Aside0.mk A220
              clear A220
              by_cases c23 : t306 = true
              · subst c23
                have H1 : ((payrolllaw34_awake.f kj3).bind fun t307 => (some t307)) = some true := by rw [if_pos rfl] at H; exact H
                clear H
                have H := H1
                clear H1
                replace H := Option.bind_eq_some_iff.mp H
                obtain ⟨t307, A240, H⟩ := H
                replace H : (some t307) = some true := H
                have A24 := Aside0.mk A240
                clear A240
                obtain rfl := Option.some.inj H
                go_wp2_with (first | ((with_reducible refine gate_callee (f := 9) rfl ?_); refine goesL_ (some 28) rfl rfl Tryd.func9 (by kernel_rfl) rfl #[.slice A2 l2.length c2] rfl (by (try simp only [List.map_toArray, List.map_cons, List.map_nil]); first | done | rfl | (simp only [List.length_drop, List.length_take]; rfl)) ?_; (with_reducible refine (paygen_New.calls _ _ l2 t278 t279 w _ ?side1 ?side2 ?side3 A11.out).mono ?_); (case side1 => repeat (first | (with_reducible first | exact HB.out | apply below_alloc | apply pw_below_drewN | apply below_drew1) | exact HB.out)); (case side2 => exact HR2.out); (case side3 => exact HC2.out); rintro e w25 ⟨g280, rfl, hi, hb, hb2⟩; refine ⟨_, rfl, ?_⟩; have n0_ := Aside0.mk (hb); have n1_ := Aside0.mk (hi); clear HB; have HB := n0_; have HI280 := n1_; clear n0_ n1_; (try clear hb); (try clear hb2); (try clear hk); (try clear hi)) | ((with_reducible refine gate_callee (f := 16) rfl ?_); refine goesL_ (some 30) rfl rfl Tryd.func16 (by kernel_rfl) rfl #[.pointer (some ⟨g280, 0, none⟩), .int .i64 8] rfl (by (try simp only [List.map_toArray, List.map_cons, List.map_nil]); first | done | rfl | (simp only [List.length_drop, List.length_take]; rfl)) ?_; (with_reducible refine (paygen_Deck_Lines.calls kj3 g280 t278 t279 8 t281 t284 w _ ?side1 ?side2 A12.out).mono ?_); (case side1 => repeat (first | (with_reducible first | exact HI280.out | apply IsS52.alloc | apply IsS52.drewN | apply IsS52.drew | apply IsS52.set_1) | exact HI280.out)); (case side2 => repeat (first | (with_reducible first | exact HB.out | apply below_alloc | apply pw_below_drewN | apply below_drew1 | refine below_set ?_ (IsS52.ge HI280.out)) | exact HB.out)); rintro e w26 ⟨v282, rfl, ho0, hi, hb, hk⟩; refine ⟨_, rfl, ?_⟩; have n0_ := Aside0.mk (Kd.R_lower ho0 (below_size (by repeat (first | (with_reducible first | exact HB.out | apply below_alloc | apply pw_below_drewN | apply below_drew1 | refine below_set ?_ (IsS52.ge HI280.out)) | exact HB.out)))); have n1_ := Aside0.mk (hb); have n2_ := Aside0.mk (hi); clear HB; clear HI280; have HO283 := n0_; have HB := n1_; have HI280 := n2_; clear n0_ n1_ n2_; (try clear hb); (try clear hb2); (try clear hk); (try clear hi); (try clear ho0)) | ((with_reducible refine gate_callee (f := 16) rfl ?_); refine goesL_ (some 32) rfl rfl Tryd.func16 (by kernel_rfl) rfl #[.pointer (some ⟨g280, 0, none⟩), .int .i64 8] rfl (by (try simp only [List.map_toArray, List.map_cons, List.map_nil]); first | done | rfl | (simp only [List.length_drop, List.length_take]; rfl)) ?_; (with_reducible refine (paygen_Deck_Lines.calls kj3 g280 t278 t284 8 t285 t288 w _ ?side1 ?side2 A13.out).mono ?_); (case side1 => repeat (first | (with_reducible first | exact HI280.out | apply IsS52.alloc | apply IsS52.drewN | apply IsS52.drew | apply IsS52.set_1) | exact HI280.out)); (case side2 => repeat (first | (with_reducible first | exact HB.out | apply below_alloc | apply pw_below_drewN | apply below_drew1 | refine below_set ?_ (IsS52.ge HI280.out)) | exact HB.out)); rintro e w27 ⟨v286, rfl, ho0, hi, hb, hk⟩; refine ⟨_, rfl, ?_⟩; have n0_ := Aside0.mk (Kd.R_mono (Kd.R_told (Kd.R_oldK (IsS52.apart (show IsS52 w _ g280 t278 t284 from by repeat (first | (with_reducible first | exact HI280.out | apply IsS52.alloc | apply IsS52.drewN | apply IsS52.drew | apply IsS52.set_1) | exact HI280.out)) (by (with_reducible repeat (first | apply Kd.R_alloc | apply Kd.R_drewN | apply Kd.R_drew)); exact HO283.out) (by decide)) hk) (Kd.R_base ho0)) (fun _ h_ => h_.1)); have n1_ := Aside0.mk (Kd.R_lower (Kd.R_new' ho0 (Kd.R_lt (by (with_reducible repeat (first | apply Kd.R_alloc | apply Kd.R_drewN | apply Kd.R_drew)); exact HO283.out))) (below_size (by repeat (first | (with_reducible first | exact HB.out | apply below_alloc | apply pw_below_drewN | apply below_drew1 | refine below_set ?_ (IsS52.ge HI280.out)) | exact HB.out)))); have n2_ := Aside0.mk (hb); have n3_ := Aside0.mk (hi); clear HO283; clear HB; clear HI280; have HO283 := n0_; have HO287 := n1_; have HB := n2_; have HI280 := n3_; clear n0_ n1_ n2_ n3_; (try clear hb); (try clear hb2); (try clear hk); (try clear hi); (try clear ho0)) | ((with_reducible refine gate_callee (f := 17) rfl ?_); refine goesL_ (some 36) rfl rfl Tryd.func17 (by kernel_rfl) rfl #[.slice A0 l0.length c0, .slice A1 l1.length c1] rfl (by (try simp only [List.map_toArray, List.map_cons, List.map_nil]); first | done | rfl | (simp only [List.length_drop, List.length_take]; rfl)) ?_; (with_reducible refine (payslip_Compare.calls kj3 _ _ l0 _ _ l1 t289 t290 _ ?side1 ?side2 ?side3 ?side4 A14.out).mono ?_); (case side1 => repeat (first | exact (Kd.C_below HR0.out HB.out) | (with_reducible refine Kd.C_alloc ?_ _) | (with_reducible refine Kd.C_drewN ?_ _) | (with_reducible refine Kd.C_drew ?_))); (case side2 => exact HC0.out); (case side3 => repeat (first | exact (Kd.C_below HR1.out HB.out) | (with_reducible refine Kd.C_alloc ?_ _) | (with_reducible refine Kd.C_drewN ?_ _) | (with_reducible refine Kd.C_drew ?_))); (case side4 => exact HC1.out); rintro e w28 ⟨v291, rfl, ho0, hb⟩; refine ⟨_, rfl, ?_⟩; have n0_ := Aside0.mk (Kd.R_elder' (by (with_reducible repeat (first | apply Kd.R_alloc | apply Kd.R_drewN | apply Kd.R_drew)); exact HO283.out) (Kd.R_base ho0) hb); have n1_ := Aside0.mk (Kd.R_elder' (by (with_reducible repeat (first | apply Kd.R_alloc | apply Kd.R_drewN | apply Kd.R_drew)); exact HO287.out) (Kd.R_base ho0) hb); have n2_ := Aside0.mk (Kd.R_lower (Kd.R_new' (Kd.R_new' ho0 (Kd.R_lt (by (with_reducible repeat (first | apply Kd.R_alloc | apply Kd.R_drewN | apply Kd.R_drew)); exact HO283.out))) (Kd.R_lt (by (with_reducible repeat (first | apply Kd.R_alloc | apply Kd.R_drewN | apply Kd.R_drew)); exact HO287.out))) (below_size (by repeat (first | (with_reducible first | exact HB.out | apply below_alloc | apply pw_below_drewN | apply below_drew1 | refine below_set ?_ (IsS52.ge HI280.out)) | exact HB.out)))); have n3_ := Aside0.mk (IsS52.below (by repeat (first | (with_reducible first | exact HI280.out | apply IsS52.alloc | apply IsS52.drewN | apply IsS52.drew | apply IsS52.set_1) | exact HI280.out)) hb); have n4_ := Aside0.mk (below_step (by repeat (first | (with_reducible first | exact HB.out | apply below_alloc | apply pw_below_drewN | apply below_drew1 | refine below_set ?_ (IsS52.ge HI280.out)) | exact HB.out)) hb); clear HO283; clear HO287; clear HI280; clear HB; have HO283 := n0_; have HO287 := n1_; have HO292 := n2_; have HI280 := n3_; have HB := n4_; clear n0_ n1_ n2_ n3_ n4_; (try clear hb); (try clear hb2); (try clear hk); (try clear hi); (try clear ho0)) | ((with_reducible refine gate_callee (f := 18) rfl ?_); refine goesL_ (some 42) rfl rfl Tryd.func18 (by kernel_rfl) rfl #[.slice A0 l0.length c0, .slice A1 l1.length c1] rfl (by (try simp only [List.map_toArray, List.map_cons, List.map_nil]); first | done | rfl | (simp only [List.length_drop, List.length_take]; rfl)) ?_; (with_reducible refine (payrollref34_Compare.calls kj3 _ _ l0 _ _ l1 t293 t294 _ ?side1 ?side2 ?side3 ?side4 A15.out).mono ?_); (case side1 => repeat (first | exact (Kd.C_below HR0.out HB.out) | (with_reducible refine Kd.C_alloc ?_ _) | (with_reducible refine Kd.C_drewN ?_ _) | (with_reducible refine Kd.C_drew ?_))); (case side2 => exact HC0.out); (case side3 => repeat (first | exact (Kd.C_below HR1.out HB.out) | (with_reducible refine Kd.C_alloc ?_ _) | (with_reducible refine Kd.C_drewN ?_ _) | (with_reducible refine Kd.C_drew ?_))); (case side4 => exact HC1.out); rintro e w29 ⟨v295, rfl, ho0, hb⟩; refine ⟨_, rfl, ?_⟩; have n0_ := Aside0.mk (Kd.R_elder' (by (with_reducible repeat (first | apply Kd.R_alloc | apply Kd.R_drewN | apply Kd.R_drew)); exact HO283.out) (Kd.R_base ho0) hb); have n1_ := Aside0.mk (Kd.R_elder' (by (with_reducible repeat (first | apply Kd.R_alloc | apply Kd.R_drewN | apply Kd.R_drew)); exact HO287.out) (Kd.R_base ho0) hb); have n2_ := Aside0.mk (Kd.R_elder' (by (with_reducible repeat (first | apply Kd.R_alloc | apply Kd.R_drewN | apply Kd.R_drew)); exact HO292.out) (Kd.R_base ho0) hb); have n3_ := Aside0.mk (Kd.R_lower (Kd.R_new' (Kd.R_new' (Kd.R_new' ho0 (Kd.R_lt (by (with_reducible repeat (first | apply Kd.R_alloc | apply Kd.R_drewN | apply Kd.R_drew)); exact HO283.out))) (Kd.R_lt (by (with_reducible repeat (first | apply Kd.R_alloc | apply Kd.R_drewN | apply Kd.R_drew)); exact HO287.out))) (Kd.R_lt (by (with_reducible repeat (first | apply Kd.R_alloc | apply Kd.R_drewN | apply Kd.R_drew)); exact HO292.out))) (below_size (by repeat (first | (with_reducible first | exact HB.out | apply below_alloc | apply pw_below_drewN | apply below_drew1 | refine below_set ?_ (IsS52.ge HI280.out)) | exact HB.out)))); have n4_ := Aside0.mk (IsS52.below (by repeat (first | (with_reducible first | exact HI280.out | apply IsS52.alloc | apply IsS52.drewN | apply IsS52.drew | apply IsS52.set_1) | exact HI280.out)) hb); have n5_ := Aside0.mk (below_step (by repeat (first | (with_reducible first | exact HB.out | apply below_alloc | apply pw_below_drewN | apply below_drew1 | refine below_set ?_ (IsS52.ge HI280.out)) | exact HB.out)) hb); clear HO283; clear HO287; clear HO292; clear HI280; clear HB; have HO283 := n0_; have HO287 := n1_; have HO292 := n2_; have HO296 := n3_; have HI280 := n4_; have HB := n5_; clear n0_ n1_ n2_ n3_ n4_ n5_; (try clear hb); (try clear hb2); (try clear hk); (try clear hi); (try clear ho0); obtain ⟨Ao30, co30, eo30⟩ := Kd.R_slice HO283.out; subst eo30; obtain ⟨Ao31, co31, eo31⟩ := Kd.R_slice HO287.out; subst eo31) | ((with_reducible refine gate_callee (f := 17) rfl ?_); refine goesL_ (some 48) rfl rfl Tryd.func17 (by kernel_rfl) rfl #[.slice Ao30 t281.length co30, .slice Ao31 t285.length co31] rfl (by (try simp only [List.map_toArray, List.map_cons, List.map_nil]); first | done | rfl | (simp only [List.length_drop, List.length_take]; rfl)) ?_; (with_reducible refine (payslip_Compare.calls kj3 _ _ t281 _ _ t285 t297 t298 _ ?side1 ?side2 ?side3 ?side4 A16.out).mono ?_); (case side1 => repeat (first | exact (Kd.R_reads' HO283.out).2.2 | (with_reducible refine Kd.C_alloc ?_ _) | (with_reducible refine Kd.C_drewN ?_ _) | (with_reducible refine Kd.C_drew ?_))); (case side2 => exact (Kd.R_reads' HO283.out).2.1); (case side3 => repeat (first | exact (Kd.R_reads' HO287.out).2.2 | (with_reducible refine Kd.C_alloc ?_ _) | (with_reducible refine Kd.C_drewN ?_ _) | (with_reducible refine Kd.C_drew ?_))); (case side4 => exact (Kd.R_reads' HO287.out).2.1); rintro e w32 ⟨v299, rfl, ho0, hb⟩; refine ⟨_, rfl, ?_⟩; have n0_ := Aside0.mk (Kd.R_elder' (by (with_reducible repeat (first | apply Kd.R_alloc | apply Kd.R_drewN | apply Kd.R_drew)); exact HO283.out) (Kd.R_base ho0) hb); have n1_ := Aside0.mk (Kd.R_elder' (by (with_reducible repeat (first | apply Kd.R_alloc | apply Kd.R_drewN | apply Kd.R_drew)); exact HO287.out) (Kd.R_base ho0) hb); have n2_ := Aside0.mk (Kd.R_elder' (by (with_reducible repeat (first | apply Kd.R_alloc | apply Kd.R_drewN | apply Kd.R_drew)); exact HO292.out) (Kd.R_base ho0) hb); have n3_ := Aside0.mk (Kd.R_elder' (by (with_reducible repeat (first | apply Kd.R_alloc | apply Kd.R_drewN | apply Kd.R_drew)); exact HO296.out) (Kd.R_base ho0) hb); have n4_ := Aside0.mk (Kd.R_lower (Kd.R_new' (Kd.R_new' (Kd.R_new' (Kd.R_new' ho0 (Kd.R_lt (by (with_reducible repeat (first | apply Kd.R_alloc | apply Kd.R_drewN | apply Kd.R_drew)); exact HO283.out))) (Kd.R_lt (by (with_reducible repeat (first | apply Kd.R_alloc | apply Kd.R_drewN | apply Kd.R_drew)); exact HO287.out))) (Kd.R_lt (by (with_reducible repeat (first | apply Kd.R_alloc | apply Kd.R_drewN | apply Kd.R_drew)); exact HO292.out))) (Kd.R_lt (by (with_reducible repeat (first | apply Kd.R_alloc | apply Kd.R_drewN | apply Kd.R_drew)); exact HO296.out))) (below_size (by repeat (first | (with_reducible first | exact HB.out | apply below_alloc | apply pw_below_drewN | apply below_drew1 | refine below_set ?_ (IsS52.ge HI280.out)) | exact HB.out)))); have n5_ := Aside0.mk (IsS52.below (by repeat (first | (with_reducible first | exact HI280.out | apply IsS52.alloc | apply IsS52.drewN | apply IsS52.drew | apply IsS52.set_1) | exact HI280.out)) hb); have n6_ := Aside0.mk (below_step (by repeat (first | (with_reducible first | exact HB.out | apply below_alloc | apply pw_below_drewN | apply below_drew1 | refine below_set ?_ (IsS52.ge HI280.out)) | exact HB.out)) hb); clear HO283; clear HO287; clear HO292; clear HO296; clear HI280; clear HB; have HO283 := n0_; have HO287 := n1_; have HO292 := n2_; have HO296 := n3_; have HO300 := n4_; have HI280 := n5_; have HB := n6_; clear n0_ n1_ n2_ n3_ n4_ n5_ n6_; (try clear hb); (try clear hb2); (try clear hk); (try clear hi); (try clear ho0)) | ((with_reducible refine gate_callee (f := 18) rfl ?_); refine goesL_ (some 54) rfl rfl Tryd.func18 (by kernel_rfl) rfl #[.slice Ao30 t281.length co30, .slice Ao31 t285.length co31] rfl (by (try simp only [List.map_toArray, List.map_cons, List.map_nil]); first | done | rfl | (simp only [List.length_drop, List.length_take]; rfl)) ?_; (with_reducible refine (payrollref34_Compare.calls kj3 _ _ t281 _ _ t285 t301 t302 _ ?side1 ?side2 ?side3 ?side4 A17.out).mono ?_); (case side1 => repeat (first | exact (Kd.R_reads' HO283.out).2.2 | (with_reducible refine Kd.C_alloc ?_ _) | (with_reducible refine Kd.C_drewN ?_ _) | (with_reducible refine Kd.C_drew ?_))); (case side2 => exact (Kd.R_reads' HO283.out).2.1); (case side3 => repeat (first | exact (Kd.R_reads' HO287.out).2.2 | (with_reducible refine Kd.C_alloc ?_ _) | (with_reducible refine Kd.C_drewN ?_ _) | (with_reducible refine Kd.C_drew ?_))); (case side4 => exact (Kd.R_reads' HO287.out).2.1); rintro e w33 ⟨v303, rfl, ho0, hb⟩; refine ⟨_, rfl, ?_⟩; have n0_ := Aside0.mk (Kd.R_elder' (by (with_reducible repeat (first | apply Kd.R_alloc | apply Kd.R_drewN | apply Kd.R_drew)); exact HO283.out) (Kd.R_base ho0) hb); have n1_ := Aside0.mk (Kd.R_elder' (by (with_reducible repeat (first | apply Kd.R_alloc | apply Kd.R_drewN | apply Kd.R_drew)); exact HO287.out) (Kd.R_base ho0) hb); have n2_ := Aside0.mk (Kd.R_elder' (by (with_reducible repeat (first | apply Kd.R_alloc | apply Kd.R_drewN | apply Kd.R_drew)); exact HO292.out) (Kd.R_base ho0) hb); have n3_ := Aside0.mk (Kd.R_elder' (by (with_reducible repeat (first | apply Kd.R_alloc | apply Kd.R_drewN | apply Kd.R_drew)); exact HO296.out) (Kd.R_base ho0) hb); have n4_ := Aside0.mk (Kd.R_elder' (by (with_reducible repeat (first | apply Kd.R_alloc | apply Kd.R_drewN | apply Kd.R_drew)); exact HO300.out) (Kd.R_base ho0) hb); have n5_ := Aside0.mk (Kd.R_lower (Kd.R_new' (Kd.R_new' (Kd.R_new' (Kd.R_new' (Kd.R_new' ho0 (Kd.R_lt (by (with_reducible repeat (first | apply Kd.R_alloc | apply Kd.R_drewN | apply Kd.R_drew)); exact HO283.out))) (Kd.R_lt (by (with_reducible repeat (first | apply Kd.R_alloc | apply Kd.R_drewN | apply Kd.R_drew)); exact HO287.out))) (Kd.R_lt (by (with_reducible repeat (first | apply Kd.R_alloc | apply Kd.R_drewN | apply Kd.R_drew)); exact HO292.out))) (Kd.R_lt (by (with_reducible repeat (first | apply Kd.R_alloc | apply Kd.R_drewN | apply Kd.R_drew)); exact HO296.out))) (Kd.R_lt (by (with_reducible repeat (first | apply Kd.R_alloc | apply Kd.R_drewN | apply Kd.R_drew)); exact HO300.out))) (below_size (by repeat (first | (with_reducible first | exact HB.out | apply below_alloc | apply pw_below_drewN | apply below_drew1 | refine below_set ?_ (IsS52.ge HI280.out)) | exact HB.out)))); have n6_ := Aside0.mk (IsS52.below (by repeat (first | (with_reducible first | exact HI280.out | apply IsS52.alloc | apply IsS52.drewN | apply IsS52.drew | apply IsS52.set_1) | exact HI280.out)) hb); have n7_ := Aside0.mk (below_step (by repeat (first | (with_reducible first | exact HB.out | apply below_alloc | apply pw_below_drewN | apply below_drew1 | refine below_set ?_ (IsS52.ge HI280.out)) | exact HB.out)) hb); clear HO283; clear HO287; clear HO292; clear HO296; clear HO300; clear HI280; clear HB; have HO283 := n0_; have HO287 := n1_; have HO292 := n2_; have HO296 := n3_; have HO300 := n4_; have HO304 := n5_; have HI280 := n6_; have HB := n7_; clear n0_ n1_ n2_ n3_ n4_ n5_ n6_ n7_; (try clear hb); (try clear hb2); (try clear hk); (try clear hi); (try clear ho0); obtain ⟨Ao34, co34, eo34⟩ := Kd.R_slice HO292.out; subst eo34; obtain ⟨Ao35, co35, eo35⟩ := Kd.R_slice HO296.out; subst eo35) | (go_at_call 19; (with_reducible refine (payrollref32_Same.calls kj3 _ _ t289 _ _ t293 true _ ?side1 ?side2 ?side3 ?side4 A19.out).mono ?_); (case side1 => repeat (first | exact (Kd.R_reads' HO292.out).2.2 | (with_reducible refine Kd.C_alloc ?_ _) | (with_reducible refine Kd.C_drewN ?_ _) | (with_reducible refine Kd.C_drew ?_))); (case side2 => exact (Kd.R_reads' HO292.out).2.1); (case side3 => repeat (first | exact (Kd.R_reads' HO296.out).2.2 | (with_reducible refine Kd.C_alloc ?_ _) | (with_reducible refine Kd.C_drewN ?_ _) | (with_reducible refine Kd.C_drew ?_))); (case side4 => exact (Kd.R_reads' HO296.out).2.1); rintro e w' ⟨rfl, ⟨nd, rfl⟩⟩; obtain ⟨Ao36, co36, eo36⟩ := Kd.R_slice HO300.out; subst eo36; obtain ⟨Ao37, co37, eo37⟩ := Kd.R_slice HO304.out; subst eo37) | (go_at_call 19; (with_reducible refine (payrollref32_Same.calls kj3 _ _ t297 _ _ t301 true _ ?side1 ?side2 ?side3 ?side4 A22.out).mono ?_); (case side1 => repeat (first | exact (Kd.R_reads' HO300.out).2.2 | (with_reducible refine Kd.C_alloc ?_ _) | (with_reducible refine Kd.C_drewN ?_ _) | (with_reducible refine Kd.C_drew ?_))); (case side2 => exact (Kd.R_reads' HO300.out).2.1); (case side3 => repeat (first | exact (Kd.R_reads' HO304.out).2.2 | (with_reducible refine Kd.C_alloc ?_ _) | (with_reducible refine Kd.C_drewN ?_ _) | (with_reducible refine Kd.C_drew ?_))); (case side4 => exact (Kd.R_reads' HO304.out).2.1); rintro e w' ⟨rfl, ⟨nd, rfl⟩⟩) | (go_at_call 8; (with_reducible refine (payrolllaw34_awake.calls kj3   _ ?side1 A24.out).mono ?_); (case side1 => exact Tabs.below HT.out (by repeat (first | (with_reducible first | exact HB.out | apply below_alloc | apply pw_below_drewN | apply below_drew1 | refine below_set ?_ (IsS52.ge HI280.out)) | exact HB.out))); rintro e w38 ⟨rfl, hb⟩; have n0_ := Aside0.mk (Kd.R_below (by (with_reducible repeat (first | apply Kd.R_alloc | apply Kd.R_drewN | apply Kd.R_drew)); exact HO283.out) hb); have n1_ := Aside0.mk (Kd.R_below (by (with_reducible repeat (first | apply Kd.R_alloc | apply Kd.R_drewN | apply Kd.R_drew)); exact HO287.out) hb); have n2_ := Aside0.mk (Kd.R_below (by (with_reducible repeat (first | apply Kd.R_alloc | apply Kd.R_drewN | apply Kd.R_drew)); exact HO292.out) hb); have n3_ := Aside0.mk (Kd.R_below (by (with_reducible repeat (first | apply Kd.R_alloc | apply Kd.R_drewN | apply Kd.R_drew)); exact HO296.out) hb); have n4_ := Aside0.mk (Kd.R_below (by (with_reducible repeat (first | apply Kd.R_alloc | apply Kd.R_drewN | apply Kd.R_drew)); exact HO300.out) hb); have n5_ := Aside0.mk (Kd.R_below (by (with_reducible repeat (first | apply Kd.R_alloc | apply Kd.R_drewN | apply Kd.R_drew)); exact HO304.out) hb); have n6_ := Aside0.mk (IsS52.below (by repeat (first | (with_reducible first | exact HI280.out | apply IsS52.alloc | apply IsS52.drewN | apply IsS52.drew | apply IsS52.set_1) | exact HI280.out)) hb); have n7_ := Aside0.mk (below_step (by repeat (first | (with_reducible first | exact HB.out | apply below_alloc | apply pw_below_drewN | apply below_drew1 | refine below_set ?_ (IsS52.ge HI280.out)) | exact HB.out)) hb); clear HO283; clear HO287; clear HO292; clear HO296; clear HO300; clear HO304; clear HI280; clear HB; have HO283 := n0_; have HO287 := n1_; have HO292 := n2_; have HO296 := n3_; have HO300 := n4_; have HO304 := n5_; have HI280 := n6_; have HB := n7_; clear n0_ n1_ n2_ n3_ n4_ n5_ n6_ n7_; (try clear hb); (try clear hb2); (try clear hk); (try clear hi)))
                go_ret
                exact ⟨by first | rfl | (rw [HY.out] <;> rfl) | (simp [errW_none, errW_some] <;> rfl) | (simp [*, errW_none, errW_some] <;> rfl), by repeat (first | (with_reducible first | exact HB.out | apply below_alloc | apply pw_below_drewN | apply below_drew1 | refine below_set ?_ (IsS52.ge HI280.out)) | exact HB.out)⟩
              · replace c23 := Bool.eq_false_iff.mpr c23
                subst c23
                have H1 : (some false) = some true := by rw [if_neg (show ¬ (false = true) by decide)] at H; exact H
                clear H
                have H := H1
                clear H1
                exact absurd H (by simp)
            · rw [if_neg c21] at H
              have c21b0 : (t298 == t302) = false := beq_eq_false_iff_ne.mpr c21
              have c21b1 : (t298 != t302) = true := bne_iff_ne.mpr c21
              exact absurd H (by simp)
          · replace c20 := Bool.eq_false_iff.mpr c20
            subst c20
            have H1 : (some false) = some true := by rw [if_neg (show ¬ (false = true) by decide)] at H; exact H
            clear H
            have H := H1
            clear H1
            exact absurd H (by simp)
        · rw [if_neg c18] at H
          have c18b0 : (t290 == t294) = false := beq_eq_false_iff_ne.mpr c18
          have c18b1 : (t290 != t294) = true := bne_iff_ne.mpr c18
          exact absurd H (by simp)
end Go.Proofs.YtlanldccamphcaaDoor.P
