/- Texts for the law RatioComputes (kept out of a larger one). -/
import Derived.Test.YtighihhaljofdaaDoorZRatioComputes9
import Derived.Test.YtighihhaljofdaaDoorZRatioComputes16
import Derived.Test.YtighihhaljofdaaDoorZRatioComputes17
import Derived.Test.YtighihhaljofdaaDoorZRatioComputes21
import Derived.Test.YtighihhaljofdaaDoorZRatioComputes12
-- Written by a program of this session (wip/tools/xprint.py) out of the translation; Lean checks it.
namespace Go.Proofs.YtighihhaljofdaaDoor.P
open Go.RowKit Go.Proofs.YtighihhaljofdaaDoorW.PrintWords Go.Proofs.YtighihhaljofdaaDoorW.PrintLast Go.Proofs.YtighihhaljofdaaDoorW.PrintMore
attribute [local go_sem] max2_int min2_int max_two min_two max_three min_three max_four min_four   -- for this text's walks alone
set_option linter.unusedVariables false
set_option linter.unusedSimpArgs false
def payrolllaw1_RatioComputes.l0 : Nat → Int → Int → Int → Int → Int → List Int → Int → Option (Bool)
  | 0, _, _, _, _, _, _, _ => none
  | k + 1, x8, x520000, x520001, x521000, x521001, x524000, x524001 => if x8 < 6 then ((payrollgen_Tape_Fraction.f k x524000 x524001).bind fun bt524 => ((payrollgen_Tape_Fraction.f k x524000 bt524.2.2).bind fun bt527 => ((payrolllaw1_agrees.f k bt524.1 bt524.2.1 bt527.1 bt527.2.1).bind fun t530 => (if t530 = true then (payrolllaw1_RatioComputes.l0 k (wrap64 (x8 + 1)) x520000 x520001 x521000 x521001 x524000 bt527.2.2) else (some false))))) else ((payrolllaw1_agrees.f k x520000 x520001 x521000 x521001).bind fun t531 => (if t531 = true then ((payrolllaw1_agrees.f k x521000 x521001 x520000 x520001).bind fun t532 => (if t532 = true then ((payrolllaw1_sane.f k).bind fun t533 => (some t533)) else (some false))) else (some false)))
def payrolllaw1_RatioComputes.f (k : Nat) (l0 : List Int) (a1_0 : Int) (a1_1 : Int) (a2_0 : Int) (a2_1 : Int) : Option (Bool) := (payrollgen_New.f l0).bind fun bt521 => (payrolllaw1_RatioComputes.l0 k 0 a1_0 a1_1 a2_0 a2_1 bt521.1 bt521.2)
set_option maxHeartbeats 8000000 in
set_option maxRecDepth 100000 in
theorem payrolllaw1_RatioComputes.calls (k : Nat) (A0 : Option Addr) (c0 : Nat) (l0 : List Int) (a1_0 : Int) (a1_1 : Int) (a2_0 : Int) (a2_1 : Int) (w : World) (hr0 : Kd.C (Kd.int .i64) w A0 l0.length l0) (hc0 : l0.length ≤ c0) (hT : Tabs w) (h : payrolllaw1_RatioComputes.f k l0 a1_0 a1_1 a2_0 a2_1 = some true) :
    Calls Tryd.prog 8 #[.slice A0 l0.length c0, .agg #[.int .i64 a1_0, .int .i64 a1_1], .agg #[.int .i64 a2_0, .int .i64 a2_1]] w fun e w' => e = .returned (.bool true) ∧ Below w.heap.size w w' := by
  have hu23 := Tryd.underlying23
  have HR0 := Aside0.mk hr0
  have HC0 := Aside0.mk hc0
  clear hr0 hc0
  have HB := Aside0.mk (Below.refl w.heap.size w)
  have HT := Aside0.mk hT
  clear hT
  have H : ((payrollgen_New.f l0).bind fun bt521 => (payrolllaw1_RatioComputes.l0 k 0 a1_0 a1_1 a2_0 a2_1 bt521.1 bt521.2)) = some true := h
  clear h
  replace H := Option.bind_eq_some_iff.mp H
  obtain ⟨⟨t521, t522⟩, A40, H⟩ := H
  replace H : (payrolllaw1_RatioComputes.l0 k 0 a1_0 a1_1 a2_0 a2_1 t521 t522) = some true := H
  have A4 := Aside0.mk A40
  clear A40
  have H' := Aside0.mk H
  clear H
  go_enter Tryd.func8, Tryd.ntmps8
  go_wp2_with (first | ((with_reducible refine gate_dst (N := 4) rfl ?_); refine box_event ?hg (N := 4) ?hd (cs := #[.int .i64 a1_0, .int .i64 a1_1]) (t := 23) ?hr ?_; (case hd => rfl); (case hg => rfl); (case hr => first | (go_simp; done) | (go_simp; rfl)); intro gb519 hg w5 hbox hb; have n0_ := Aside0.mk (below_step (by repeat (first | (with_reducible first | exact HB.out | apply below_alloc | apply pw_below_drewN | apply below_drew1) | exact HB.out)) hb); have n1_ := Aside0.mk (hbox); have n2_ := Aside0.mk ((by rw [hg]; exact (below_size (by repeat (first | (with_reducible first | exact HB.out | apply below_alloc | apply pw_below_drewN | apply below_drew1) | exact HB.out))) : w.heap.size ≤ gb519)); have n3_ := Aside0.mk ((by rw [hg]; exact (below_size (by repeat (first | (with_reducible first | exact HB.out | apply below_alloc | apply pw_below_drewN | apply below_drew1) | exact HB.out))) : w.heap.size ≤ gb519)); clear HB; have HB := n0_; have BK519 := n1_; have GW519 := n2_; have GE519 := n3_; clear n0_ n1_ n2_ n3_; clear hb hbox hg) | ((with_reducible refine gate_dst (N := 5) rfl ?_); refine box_event ?hg (N := 5) ?hd (cs := #[.int .i64 a2_0, .int .i64 a2_1]) (t := 23) ?hr ?_; (case hd => rfl); (case hg => rfl); (case hr => first | (go_simp; done) | (go_simp; rfl)); intro gb520 hg w6 hbox hb; have n0_ := Aside0.mk (blk_below (g := gb519) (o := .cells #[.int .i64 a1_0, .int .i64 a1_1] 23 (0, 0)) (by (with_reducible repeat (first | refine blk_drewN ?_ _ | refine blk_drew ?_ | refine blk_alloc ?_ _)); exact BK519.out) hb); have n1_ := Aside0.mk (below_step (by repeat (first | (with_reducible first | exact HB.out | apply below_alloc | apply pw_below_drewN | apply below_drew1 | refine below_set ?_ GE519.out) | exact HB.out)) hb); have n2_ := Aside0.mk (hbox); have n3_ := Aside0.mk ((by rw [hg]; exact (below_size (by repeat (first | (with_reducible first | exact HB.out | apply below_alloc | apply pw_below_drewN | apply below_drew1 | refine below_set ?_ GE519.out) | exact HB.out))) : w.heap.size ≤ gb520)); have n4_ := Aside0.mk ((by rw [hg]; exact (below_size (by repeat (first | (with_reducible first | exact HB.out | apply below_alloc | apply pw_below_drewN | apply below_drew1 | refine below_set ?_ GE519.out) | exact HB.out))) : w.heap.size ≤ gb520)); have n5_ := Aside0.mk ((by rw [hg]; exact Nat.ne_of_lt (blk_lt (g := gb519) (o := .cells #[.int .i64 a1_0, .int .i64 a1_1] 23 (0, 0)) (by (with_reducible repeat (first | refine blk_drewN ?_ _ | refine blk_drew ?_ | refine blk_alloc ?_ _)); exact BK519.out)) : gb519 ≠ gb520)); have n6_ := Aside0.mk ((by rw [hg]; exact Nat.ne_of_gt (blk_lt (g := gb519) (o := .cells #[.int .i64 a1_0, .int .i64 a1_1] 23 (0, 0)) (by (with_reducible repeat (first | refine blk_drewN ?_ _ | refine blk_drew ?_ | refine blk_alloc ?_ _)); exact BK519.out)) : gb520 ≠ gb519)); clear BK519; clear HB; have BK519 := n0_; have HB := n1_; have BK520 := n2_; have GW520 := n3_; have GE520 := n4_; have NB519_520 := n5_; have NB520_519 := n6_; clear n0_ n1_ n2_ n3_ n4_ n5_ n6_; clear hb hbox hg) | ((with_reducible refine gate_callee (f := 13) rfl ?_); refine goesL_ (some 10) rfl rfl Tryd.func13 (by kernel_rfl) rfl #[.slice A0 l0.length c0] rfl (by (try simp only [List.map_toArray, List.map_cons, List.map_nil]); first | done | rfl | (simp only [List.length_drop, List.length_take]; rfl)) ?_; (with_reducible refine (payrollgen_New.calls _ _ l0 t521 t522 w _ ?side1 ?side2 ?side3 A4.out).mono ?_); (case side1 => repeat (first | (with_reducible first | exact HB.out | apply below_alloc | apply pw_below_drewN | apply below_drew1 | refine below_set ?_ GE519.out | refine below_set ?_ GE520.out) | exact HB.out)); (case side2 => exact HR0.out); (case side3 => exact HC0.out); rintro e w7 ⟨g523, rfl, hi, hb, hb2⟩; refine ⟨_, rfl, ?_⟩; have n0_ := Aside0.mk (blk_below (g := gb519) (o := .cells #[.int .i64 a1_0, .int .i64 a1_1] 23 (0, 0)) (by (with_reducible repeat (first | refine blk_drewN ?_ _ | refine blk_drew ?_ | refine blk_alloc ?_ _)); exact BK519.out) hb2); have n1_ := Aside0.mk (blk_below (g := gb520) (o := .cells #[.int .i64 a2_0, .int .i64 a2_1] 23 (0, 0)) (by (with_reducible repeat (first | refine blk_drewN ?_ _ | refine blk_drew ?_ | refine blk_alloc ?_ _)); exact BK520.out) hb2); have n2_ := Aside0.mk (hb); have n3_ := Aside0.mk (hi); have n4_ := Aside0.mk (IsS51.ne_blk hi (blk_below (g := gb519) (o := .cells #[.int .i64 a1_0, .int .i64 a1_1] 23 (0, 0)) (by (with_reducible repeat (first | refine blk_drewN ?_ _ | refine blk_drew ?_ | refine blk_alloc ?_ _)); exact BK519.out) hb2) (by decide)); have n5_ := Aside0.mk (Ne.symm (IsS51.ne_blk hi (blk_below (g := gb519) (o := .cells #[.int .i64 a1_0, .int .i64 a1_1] 23 (0, 0)) (by (with_reducible repeat (first | refine blk_drewN ?_ _ | refine blk_drew ?_ | refine blk_alloc ?_ _)); exact BK519.out) hb2) (by decide))); have n6_ := Aside0.mk (IsS51.ne_blk hi (blk_below (g := gb520) (o := .cells #[.int .i64 a2_0, .int .i64 a2_1] 23 (0, 0)) (by (with_reducible repeat (first | refine blk_drewN ?_ _ | refine blk_drew ?_ | refine blk_alloc ?_ _)); exact BK520.out) hb2) (by decide)); have n7_ := Aside0.mk (Ne.symm (IsS51.ne_blk hi (blk_below (g := gb520) (o := .cells #[.int .i64 a2_0, .int .i64 a2_1] 23 (0, 0)) (by (with_reducible repeat (first | refine blk_drewN ?_ _ | refine blk_drew ?_ | refine blk_alloc ?_ _)); exact BK520.out) hb2) (by decide))); clear BK519; clear BK520; clear HB; have BK519 := n0_; have BK520 := n1_; have HB := n2_; have HI523 := n3_; have NB523_519 := n4_; have NB519_523 := n5_; have NB523_520 := n6_; have NB520_523 := n7_; clear n0_ n1_ n2_ n3_ n4_ n5_ n6_ n7_; (try clear hb); (try clear hb2); (try clear hk); (try clear hi)))
  go_loopg [8] k (fun kq v8 w' => ∃ (x8_1 : Int) (x524001_1 : Int), v8 = .int .i64 x8_1 ∧ Aside0 (payrolllaw1_RatioComputes.l0 kq x8_1 a1_0 a1_1 a2_0 a2_1 t521 x524001_1 = some true) ∧ Aside0 (kq ≤ k) ∧ Aside0 (w'.heap[gb519]? = some (.cells #[.int .i64 a1_0, .int .i64 a1_1] 23 (0, 0))) ∧ Aside0 (w'.heap[gb520]? = some (.cells #[.int .i64 a2_0, .int .i64 a2_1] 23 (0, 0))) ∧ Aside0 (IsS51 w w' g523 t521 x524001_1) ∧ Aside0 (Below w.heap.size w w'))
  case atStart => exact ⟨(0), (t522), (by first | rfl | (simp; done) | (simp [*]; done)), H', ⟨Nat.le_refl _⟩, ⟨by (with_reducible repeat (first | refine blk_drewN ?_ _ | refine blk_drew ?_ | refine blk_alloc ?_ _)); exact BK519.out⟩, ⟨by (with_reducible repeat (first | refine blk_drewN ?_ _ | refine blk_drew ?_ | refine blk_alloc ?_ _)); exact BK520.out⟩, ⟨by repeat (first | (with_reducible first | exact HI523.out | apply IsS51.alloc | apply IsS51.drewN | apply IsS51.drew | apply IsS51.set_1 | refine IsS51.far ?_ NB523_519.out _ | refine IsS51.far ?_ NB523_520.out _) | exact HI523.out)⟩, ⟨by repeat (first | (with_reducible first | exact HB.out | apply below_alloc | apply pw_below_drewN | apply below_drew1 | refine below_set ?_ (IsS51.ge HI523.out) | refine below_set ?_ GE519.out | refine below_set ?_ GE520.out) | exact HB.out)⟩⟩
  case round =>
    clear H'
    try clear c1
    try clear p2
    obtain ⟨x8_1, x524001_1, rfl, HA, HK1, BK519, BK520, HI523, HB⟩ := hrel
    cases gk with
    | zero => exact absurd HA.out (by simp [payrolllaw1_RatioComputes.l0])
    | succ k1 =>
      have H := HA.out
      clear HA
      simp only [payrolllaw1_RatioComputes.l0] at H
      by_cases c8 : x8_1 < 6
      · rw [if_pos c8] at H
        have c8b0 : decide (x8_1 < 6) = true := decide_eq_true c8
        clear c8
        replace H := Option.bind_eq_some_iff.mp H
        obtain ⟨⟨t524, t525, t526⟩, A90, H⟩ := H
        replace H : ((payrollgen_Tape_Fraction.f k1 t521 t526).bind fun bt527 => ((payrolllaw1_agrees.f k1 t524 t525 bt527.1 bt527.2.1).bind fun t530 => (if t530 = true then (payrolllaw1_RatioComputes.l0 k1 (wrap64 (x8_1 + 1)) a1_0 a1_1 a2_0 a2_1 t521 bt527.2.2) else (some false)))) = some true := H
        have A9 := Aside0.mk A90
        clear A90
        replace H := Option.bind_eq_some_iff.mp H
        obtain ⟨⟨t527, t528, t529⟩, A100, H⟩ := H
        replace H : ((payrolllaw1_agrees.f k1 t524 t525 t527 t528).bind fun t530 => (if t530 = true then (payrolllaw1_RatioComputes.l0 k1 (wrap64 (x8_1 + 1)) a1_0 a1_1 a2_0 a2_1 t521 t529) else (some false))) = some true := H
        have A10 := Aside0.mk A100
        clear A100
        replace H := Option.bind_eq_some_iff.mp H
        obtain ⟨t530, A110, H⟩ := H
        replace H : (if t530 = true then (payrolllaw1_RatioComputes.l0 k1 (wrap64 (x8_1 + 1)) a1_0 a1_1 a2_0 a2_1 t521 t529) else (some false)) = some true := H
        have A11 := Aside0.mk A110
        clear A110
        by_cases c12 : t530 = true
        · subst c12
          have H1 : (payrolllaw1_RatioComputes.l0 k1 (wrap64 (x8_1 + 1)) a1_0 a1_1 a2_0 a2_1 t521 t529) = some true := by rw [if_pos rfl] at H; exact H
          clear H
          have H := H1
          clear H1
          have H' := Aside0.mk H
          clear H
          go_wp2_with (first | ((with_reducible refine gate_callee (f := 20) rfl ?_); refine goesL_ (some 16) rfl rfl Tryd.func20 (by kernel_rfl) rfl #[.pointer (some ⟨g523, 0, none⟩)] rfl (by (try simp only [List.map_toArray, List.map_cons, List.map_nil]); first | done | rfl | (simp only [List.length_drop, List.length_take]; rfl)) ?_; (with_reducible refine (payrollgen_Tape_Fraction.calls k1 g523 t521 x524001_1 t524 t525 t526 w _ ?side1 ?side2 A9.out).mono ?_); (case side1 => repeat (first | (with_reducible first | exact HI523.out | apply IsS51.alloc | apply IsS51.drewN | apply IsS51.drew | apply IsS51.set_1 | refine IsS51.far ?_ NB523_519.out _ | refine IsS51.far ?_ NB523_520.out _) | exact HI523.out)); (case side2 => repeat (first | (with_reducible first | exact HB.out | apply below_alloc | apply pw_below_drewN | apply below_drew1 | refine below_set ?_ (IsS51.ge HI523.out) | refine below_set ?_ GE519.out | refine below_set ?_ GE520.out) | exact HB.out)); rintro e w13 ⟨rfl, hi, hb, hk⟩; refine ⟨_, rfl, ?_⟩; have n0_ := Aside0.mk (KeepBut.blk hk (g' := gb519) (o := .cells #[.int .i64 a1_0, .int .i64 a1_1] 23 (0, 0)) (by (with_reducible repeat (first | refine blk_drewN ?_ _ | refine blk_drew ?_ | refine blk_alloc ?_ _)); exact BK519.out) NB519_523.out (by simp)); have n1_ := Aside0.mk (KeepBut.blk hk (g' := gb520) (o := .cells #[.int .i64 a2_0, .int .i64 a2_1] 23 (0, 0)) (by (with_reducible repeat (first | refine blk_drewN ?_ _ | refine blk_drew ?_ | refine blk_alloc ?_ _)); exact BK520.out) NB520_523.out (by simp)); have n2_ := Aside0.mk (hb); have n3_ := Aside0.mk (hi); clear BK519; clear BK520; clear HB; clear HI523; have BK519 := n0_; have BK520 := n1_; have HB := n2_; have HI523 := n3_; clear n0_ n1_ n2_ n3_; (try clear hb); (try clear hb2); (try clear hk); (try clear hi)) | ((with_reducible refine gate_callee (f := 20) rfl ?_); refine goesL_ (some 18) rfl rfl Tryd.func20 (by kernel_rfl) rfl #[.pointer (some ⟨g523, 0, none⟩)] rfl (by (try simp only [List.map_toArray, List.map_cons, List.map_nil]); first | done | rfl | (simp only [List.length_drop, List.length_take]; rfl)) ?_; (with_reducible refine (payrollgen_Tape_Fraction.calls k1 g523 t521 t526 t527 t528 t529 w _ ?side1 ?side2 A10.out).mono ?_); (case side1 => repeat (first | (with_reducible first | exact HI523.out | apply IsS51.alloc | apply IsS51.drewN | apply IsS51.drew | apply IsS51.set_1 | refine IsS51.far ?_ NB523_519.out _ | refine IsS51.far ?_ NB523_520.out _) | exact HI523.out)); (case side2 => repeat (first | (with_reducible first | exact HB.out | apply below_alloc | apply pw_below_drewN | apply below_drew1 | refine below_set ?_ (IsS51.ge HI523.out) | refine below_set ?_ GE519.out | refine below_set ?_ GE520.out) | exact HB.out)); rintro e w14 ⟨rfl, hi, hb, hk⟩; refine ⟨_, rfl, ?_⟩; have n0_ := Aside0.mk (KeepBut.blk hk (g' := gb519) (o := .cells #[.int .i64 a1_0, .int .i64 a1_1] 23 (0, 0)) (by (with_reducible repeat (first | refine blk_drewN ?_ _ | refine blk_drew ?_ | refine blk_alloc ?_ _)); exact BK519.out) NB519_523.out (by simp)); have n1_ := Aside0.mk (KeepBut.blk hk (g' := gb520) (o := .cells #[.int .i64 a2_0, .int .i64 a2_1] 23 (0, 0)) (by (with_reducible repeat (first | refine blk_drewN ?_ _ | refine blk_drew ?_ | refine blk_alloc ?_ _)); exact BK520.out) NB520_523.out (by simp)); have n2_ := Aside0.mk (hb); have n3_ := Aside0.mk (hi); clear BK519; clear BK520; clear HB; clear HI523; have BK519 := n0_; have BK520 := n1_; have HB := n2_; have HI523 := n3_; clear n0_ n1_ n2_ n3_; (try clear hb); (try clear hb2); (try clear hk); (try clear hi)) | ((with_reducible refine gate_callee (f := 29) rfl ?_); refine goesL_ (some 19) rfl rfl Tryd.func29 (by kernel_rfl) rfl #[.agg #[.int .i64 t524, .int .i64 t525], .agg #[.int .i64 t527, .int .i64 t528]] rfl (by (try simp only [List.map_toArray, List.map_cons, List.map_nil]); first | done | rfl | (simp only [List.length_drop, List.length_take]; rfl)) ?_; (with_reducible refine (payrolllaw1_agrees.calls k1 t524 t525 t527 t528  _ A11.out).mono ?_); rintro e w15 ⟨rfl, hb⟩; refine ⟨_, rfl, ?_⟩; have n0_ := Aside0.mk (blk_below (g := gb519) (o := .cells #[.int .i64 a1_0, .int .i64 a1_1] 23 (0, 0)) (by (with_reducible repeat (first | refine blk_drewN ?_ _ | refine blk_drew ?_ | refine blk_alloc ?_ _)); exact BK519.out) hb); have n1_ := Aside0.mk (blk_below (g := gb520) (o := .cells #[.int .i64 a2_0, .int .i64 a2_1] 23 (0, 0)) (by (with_reducible repeat (first | refine blk_drewN ?_ _ | refine blk_drew ?_ | refine blk_alloc ?_ _)); exact BK520.out) hb); have n2_ := Aside0.mk (IsS51.below (by repeat (first | (with_reducible first | exact HI523.out | apply IsS51.alloc | apply IsS51.drewN | apply IsS51.drew | apply IsS51.set_1 | refine IsS51.far ?_ NB523_519.out _ | refine IsS51.far ?_ NB523_520.out _) | exact HI523.out)) hb); have n3_ := Aside0.mk (below_step (by repeat (first | (with_reducible first | exact HB.out | apply below_alloc | apply pw_below_drewN | apply below_drew1 | refine below_set ?_ (IsS51.ge HI523.out) | refine below_set ?_ GE519.out | refine below_set ?_ GE520.out) | exact HB.out)) hb); clear BK519; clear BK520; clear HI523; clear HB; have BK519 := n0_; have BK520 := n1_; have HI523 := n2_; have HB := n3_; clear n0_ n1_ n2_ n3_; (try clear hb); (try clear hb2); (try clear hk); (try clear hi)))
          go_roundg k1
          case measure => have := HK1.out; omega
          case rel => exact ⟨(wrap64 (x8_1 + 1)), (t529), (by first | rfl | (simp; done) | (simp [*]; done)), H', ⟨by have := HK1.out; omega⟩, ⟨by (with_reducible repeat (first | refine blk_drewN ?_ _ | refine blk_drew ?_ | refine blk_alloc ?_ _)); exact BK519.out⟩, ⟨by (with_reducible repeat (first | refine blk_drewN ?_ _ | refine blk_drew ?_ | refine blk_alloc ?_ _)); exact BK520.out⟩, ⟨by repeat (first | (with_reducible first | exact HI523.out | apply IsS51.alloc | apply IsS51.drewN | apply IsS51.drew | apply IsS51.set_1 | refine IsS51.far ?_ NB523_519.out _ | refine IsS51.far ?_ NB523_520.out _) | exact HI523.out)⟩, ⟨by repeat (first | (with_reducible first | exact HB.out | apply below_alloc | apply pw_below_drewN | apply below_drew1 | refine below_set ?_ (IsS51.ge HI523.out) | refine below_set ?_ GE519.out | refine below_set ?_ GE520.out) | exact HB.out)⟩⟩
        · replace c12 := Bool.eq_false_iff.mpr c12
          subst c12
          have H1 : (some false) = some true := by rw [if_neg (show ¬ (false = true) by decide)] at H; exact H
          clear H
          have H := H1
          clear H1
          exact absurd H (by simp)
      · rw [if_neg c8] at H
        have c8b0 : decide (x8_1 < 6) = false := decide_eq_false c8
        clear c8
        replace H := Option.bind_eq_some_iff.mp H
        obtain ⟨t531, A160, H⟩ := H
        replace H : (if t531 = true then ((payrolllaw1_agrees.f k1 a2_0 a2_1 a1_0 a1_1).bind fun t532 => (if t532 = true then ((payrolllaw1_sane.f k1).bind fun t533 => (some t533)) else (some false))) else (some false)) = some true := H
        have A16 := Aside0.mk A160
        clear A160
        by_cases c17 : t531 = true
        · subst c17
          have H1 : ((payrolllaw1_agrees.f k1 a2_0 a2_1 a1_0 a1_1).bind fun t532 => (if t532 = true then ((payrolllaw1_sane.f k1).bind fun t533 => (some t533)) else (some false))) = some true := by rw [if_pos rfl] at H; exact H
          clear H
          have H := H1
          clear H1
          replace H := Option.bind_eq_some_iff.mp H
          obtain ⟨t532, A180, H⟩ := H
          replace H : (if t532 = true then ((payrolllaw1_sane.f k1).bind fun t533 => (some t533)) else (some false)) = some true := H
          have A18 := Aside0.mk A180
          clear A180
          by_cases c19 : t532 = true
          · subst c19
            have H1 : ((payrolllaw1_sane.f k1).bind fun t533 => (some t533)) = some true := by rw [if_pos rfl] at H; exact H
            clear H
            have H := H1
            clear H1
            replace H := Option.bind_eq_some_iff.mp H
            obtain ⟨t533, A200, H⟩ := H
            replace H : (some t533) = some true := H
            have A20 := Aside0.mk A200
            clear A200
            obtain rfl := Option.some.inj H
            have hnb21 := NB519_520.out
            have hnc21 := NB520_519.out
            have hnb22 := NB519_523.out
            have hnc22 := NB523_519.out
            have hcz23_0 : wr.cell? ⟨gb519, 0, none⟩ = some (.int .i64 a1_0) := (blk_cell BK519.out 0).trans rfl
            have hcz23_1 : wr.cell? ⟨gb519, 1, none⟩ = some (.int .i64 a1_1) := (blk_cell BK519.out 1).trans rfl
            have hfz23_0 := blk_frozen BK519.out 0
            have hfz23_1 := blk_frozen BK519.out 1
            have hnb24 := NB520_523.out
            have hnc24 := NB523_520.out
            have hcz25_0 : wr.cell? ⟨gb520, 0, none⟩ = some (.int .i64 a2_0) := (blk_cell BK520.out 0).trans rfl
            have hcz25_1 : wr.cell? ⟨gb520, 1, none⟩ = some (.int .i64 a2_1) := (blk_cell BK520.out 1).trans rfl
            have hfz25_0 := blk_frozen BK520.out 0
            have hfz25_1 := blk_frozen BK520.out 1
            go_wp2_with (first | ((with_reducible refine gate_callee (f := 29) rfl ?_); refine goesL_ (some 23) rfl rfl Tryd.func29 (by kernel_rfl) rfl #[.agg #[.int .i64 a1_0, .int .i64 a1_1], .agg #[.int .i64 a2_0, .int .i64 a2_1]] rfl (by (try simp only [List.map_toArray, List.map_cons, List.map_nil]); first | done | rfl | (simp only [List.length_drop, List.length_take]; rfl)) ?_; (with_reducible refine (payrolllaw1_agrees.calls k1 a1_0 a1_1 a2_0 a2_1  _ A16.out).mono ?_); rintro e w26 ⟨rfl, hb⟩; refine ⟨_, rfl, ?_⟩; have n0_ := Aside0.mk (blk_below (g := gb519) (o := .cells #[.int .i64 a1_0, .int .i64 a1_1] 23 (0, 0)) (by (with_reducible repeat (first | refine blk_drewN ?_ _ | refine blk_drew ?_ | refine blk_alloc ?_ _)); exact BK519.out) hb); have n1_ := Aside0.mk (blk_below (g := gb520) (o := .cells #[.int .i64 a2_0, .int .i64 a2_1] 23 (0, 0)) (by (with_reducible repeat (first | refine blk_drewN ?_ _ | refine blk_drew ?_ | refine blk_alloc ?_ _)); exact BK520.out) hb); have n2_ := Aside0.mk (IsS51.below (by repeat (first | (with_reducible first | exact HI523.out | apply IsS51.alloc | apply IsS51.drewN | apply IsS51.drew | apply IsS51.set_1 | refine IsS51.far ?_ NB523_519.out _ | refine IsS51.far ?_ NB523_520.out _) | exact HI523.out)) hb); have n3_ := Aside0.mk (below_step (by repeat (first | (with_reducible first | exact HB.out | apply below_alloc | apply pw_below_drewN | apply below_drew1 | refine below_set ?_ (IsS51.ge HI523.out) | refine below_set ?_ GE519.out | refine below_set ?_ GE520.out) | exact HB.out)) hb); clear BK519; clear BK520; clear HI523; clear HB; have BK519 := n0_; have BK520 := n1_; have HI523 := n2_; have HB := n3_; clear n0_ n1_ n2_ n3_; (try clear hb); (try clear hb2); (try clear hk); (try clear hi); have hcz27_0 : w26.cell? ⟨gb520, 0, none⟩ = some (.int .i64 a2_0) := (blk_cell BK520.out 0).trans rfl; have hcz27_1 : w26.cell? ⟨gb520, 1, none⟩ = some (.int .i64 a2_1) := (blk_cell BK520.out 1).trans rfl; have hfz27_0 := blk_frozen BK520.out 0; have hfz27_1 := blk_frozen BK520.out 1; have hcz28_0 : w26.cell? ⟨gb519, 0, none⟩ = some (.int .i64 a1_0) := (blk_cell BK519.out 0).trans rfl; have hcz28_1 : w26.cell? ⟨gb519, 1, none⟩ = some (.int .i64 a1_1) := (blk_cell BK519.out 1).trans rfl; have hfz28_0 := blk_frozen BK519.out 0; have hfz28_1 := blk_frozen BK519.out 1) | (go_at_call 29; (with_reducible refine (payrolllaw1_agrees.calls k1 a2_0 a2_1 a1_0 a1_1  _ A18.out).mono ?_); rintro e w29 ⟨rfl, hb⟩; have n0_ := Aside0.mk (blk_below (g := gb519) (o := .cells #[.int .i64 a1_0, .int .i64 a1_1] 23 (0, 0)) (by (with_reducible repeat (first | refine blk_drewN ?_ _ | refine blk_drew ?_ | refine blk_alloc ?_ _)); exact BK519.out) hb); have n1_ := Aside0.mk (blk_below (g := gb520) (o := .cells #[.int .i64 a2_0, .int .i64 a2_1] 23 (0, 0)) (by (with_reducible repeat (first | refine blk_drewN ?_ _ | refine blk_drew ?_ | refine blk_alloc ?_ _)); exact BK520.out) hb); have n2_ := Aside0.mk (IsS51.below (by repeat (first | (with_reducible first | exact HI523.out | apply IsS51.alloc | apply IsS51.drewN | apply IsS51.drew | apply IsS51.set_1 | refine IsS51.far ?_ NB523_519.out _ | refine IsS51.far ?_ NB523_520.out _) | exact HI523.out)) hb); have n3_ := Aside0.mk (below_step (by repeat (first | (with_reducible first | exact HB.out | apply below_alloc | apply pw_below_drewN | apply below_drew1 | refine below_set ?_ (IsS51.ge HI523.out) | refine below_set ?_ GE519.out | refine below_set ?_ GE520.out) | exact HB.out)) hb); clear BK519; clear BK520; clear HI523; clear HB; have BK519 := n0_; have BK520 := n1_; have HI523 := n2_; have HB := n3_; clear n0_ n1_ n2_ n3_; (try clear hb); (try clear hb2); (try clear hk); (try clear hi)) | (go_at_call 12; (with_reducible refine (payrolllaw1_sane.calls k1   _ ?side1 A20.out).mono ?_); (case side1 => exact Tabs.below HT.out (by repeat (first | (with_reducible first | exact HB.out | apply below_alloc | apply pw_below_drewN | apply below_drew1 | refine below_set ?_ (IsS51.ge HI523.out) | refine below_set ?_ GE519.out | refine below_set ?_ GE520.out) | exact HB.out))); rintro e w30 ⟨rfl, hb⟩; have n0_ := Aside0.mk (blk_below (g := gb519) (o := .cells #[.int .i64 a1_0, .int .i64 a1_1] 23 (0, 0)) (by (with_reducible repeat (first | refine blk_drewN ?_ _ | refine blk_drew ?_ | refine blk_alloc ?_ _)); exact BK519.out) hb); have n1_ := Aside0.mk (blk_below (g := gb520) (o := .cells #[.int .i64 a2_0, .int .i64 a2_1] 23 (0, 0)) (by (with_reducible repeat (first | refine blk_drewN ?_ _ | refine blk_drew ?_ | refine blk_alloc ?_ _)); exact BK520.out) hb); have n2_ := Aside0.mk (IsS51.below (by repeat (first | (with_reducible first | exact HI523.out | apply IsS51.alloc | apply IsS51.drewN | apply IsS51.drew | apply IsS51.set_1 | refine IsS51.far ?_ NB523_519.out _ | refine IsS51.far ?_ NB523_520.out _) | exact HI523.out)) hb); have n3_ := Aside0.mk (below_step (by repeat (first | (with_reducible first | exact HB.out | apply below_alloc | apply pw_below_drewN | apply below_drew1 | refine below_set ?_ (IsS51.ge HI523.out) | refine below_set ?_ GE519.out | refine below_set ?_ GE520.out) | exact HB.out)) hb); clear BK519; clear BK520; clear HI523; clear HB; have BK519 := n0_; have BK520 := n1_; have HI523 := n2_; have HB := n3_; clear n0_ n1_ n2_ n3_; (try clear hb); (try clear hb2); (try clear hk); (try clear hi)))
            go_ret
            exact ⟨by first | rfl | (rw [HY.out] <;> rfl) | (simp [errW_none, errW_some] <;> rfl) | (simp [*, errW_none, errW_some] <;> rfl), by repeat (first | (with_reducible first | exact HB.out | apply below_alloc | apply pw_below_drewN | apply below_drew1 | refine below_set ?_ (IsS51.ge HI523.out) | refine below_set ?_ GE519.out | refine below_set ?_ GE520.out) | exact HB.out)⟩
          · replace c19 := Bool.eq_false_iff.mpr c19
            subst c19
            have H1 : (some false) = some true := by rw [if_neg (show ¬ (false = true) by decide)] at H; exact H
            clear H
            have H := H1
            clear H1
            exact absurd H (by simp)
        · replace c17 := Bool.eq_false_iff.mpr c17
          subst c17
          have H1 : (some false) = some true := by rw [if_neg (show ¬ (false = true) by decide)] at H; exact H
          clear H
          have H := H1
          clear H1
          exact absurd H (by simp)
end Go.Proofs.YtighihhaljofdaaDoor.P
