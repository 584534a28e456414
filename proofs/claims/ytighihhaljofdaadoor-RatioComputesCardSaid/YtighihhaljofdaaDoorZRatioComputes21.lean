/- Texts for the law RatioComputes (kept out of a larger one). -/
import Derived.Test.YtighihhaljofdaaDoorZRatioComputes9
import Derived.Test.YtighihhaljofdaaDoorZRatioComputes10
import Derived.Test.YtighihhaljofdaaDoorZRatioComputes14
import Derived.Test.YtighihhaljofdaaDoorZRatioComputes16
import Derived.Test.YtighihhaljofdaaDoorZRatioComputes17
import Derived.Test.YtighihhaljofdaaDoorZRatioComputes18
import Derived.Test.YtighihhaljofdaaDoorZRatioComputes19
import Derived.Test.YtighihhaljofdaaDoorZRatioComputes20
-- Written by a program of this session (wip/tools/xprint.py) out of the translation; Lean checks it.
namespace Go.Proofs.YtighihhaljofdaaDoor.P
open Go.RowKit Go.Proofs.YtighihhaljofdaaDoorW.PrintWords Go.Proofs.YtighihhaljofdaaDoorW.PrintLast Go.Proofs.YtighihhaljofdaaDoorW.PrintMore
attribute [local go_sem] max2_int min2_int max_two min_two max_three min_three max_four min_four   -- for this text's walks alone
set_option linter.unusedVariables false
set_option linter.unusedSimpArgs false
attribute [local go_sem high] eqA23
def payrolllaw1_agrees.j0 : Nat → Bool → Int → Int → Int → Int → Option (Bool)
  | 0, _, _, _, _, _ => none
  | k + 1, x58, x476000, x476001, x477000, x477001 => if x58 = true then (some false) else ((ratio_Mul.f k x476000 x476001 x477000 x477001).bind fun bt493 => ((payrollref1_Mul.f k x476000 x476001 x477000 x477001).bind fun bt496 => ((ratio_Div.f k x476000 x476001 x477000 x477001).bind fun bt499 => ((payrollref1_Div.f k x476000 x476001 x477000 x477001).bind fun bt502 => ((ratio_Neg.f k x476000 x476001).bind fun bt505 => ((payrollref1_Neg.f k x476000 x476001).bind fun bt509 => (if (bt493.1 == bt496.1 && (bt493.2.1 == bt496.2.1)) = true then (if bt493.2.2 = bt496.2.2 then (if (bt499.1 == bt502.1 && (bt499.2.1 == bt502.2.1)) = true then (if bt499.2.2 = bt502.2.2 then (if (bt505.1 == bt509.1 && (bt505.2.1 == bt509.2.1)) = true then (if bt505.2.2 = bt509.2.2 then ((ratio_Valid.f k x476000 x476001).bind fun t513 => ((payrollref1_Valid.f k x476000 x476001).bind fun t514 => (if (t513 == t514) = true then ((ratio_Compare.f k x476000 x476001 x477000 x477001).bind fun t515 => ((payrollref1_Compare.f k x476000 x476001 x477000 x477001).bind fun t516 => (if t515 = t516 then ((ratio_Floor.f k x476000 x476001).bind fun t517 => ((payrollref1_Floor.f k x476000 x476001).bind fun t518 => (some (t517 == t518)))) else (some false)))) else (some false)))) else (some false)) else (some false)) else (some false)) else (some false)) else (some false)) else (some false))))))))
def payrolllaw1_agrees.f (k : Nat) (a0_0 : Int) (a0_1 : Int) (a1_0 : Int) (a1_1 : Int) : Option (Bool) := (ratio_Add.f k a0_0 a0_1 a1_0 a1_1).bind fun bt477 => ((payrollref1_Add.f k a0_0 a0_1 a1_0 a1_1).bind fun bt481 => ((ratio_Sub.f k a0_0 a0_1 a1_0 a1_1).bind fun bt485 => ((payrollref1_Sub.f k a0_0 a0_1 a1_0 a1_1).bind fun bt489 => (if (!(bt477.1 == bt481.1) || (!(bt477.2.1 == bt481.2.1))) = true then (payrolllaw1_agrees.j0 k true a0_0 a0_1 a1_0 a1_1) else (if bt477.2.2 = bt481.2.2 then (if (!(bt485.1 == bt489.1) || (!(bt485.2.1 == bt489.2.1))) = true then (payrolllaw1_agrees.j0 k true a0_0 a0_1 a1_0 a1_1) else (payrolllaw1_agrees.j0 k (bt485.2.2 != bt489.2.2) a0_0 a0_1 a1_0 a1_1)) else (payrolllaw1_agrees.j0 k true a0_0 a0_1 a1_0 a1_1))))))
def payrolllaw1_agrees.T13 : Bool × List (List Nat × List Nat) := (true, [([], []), ([], []), ([0, 1], [0, 1]), ([2], [2]), ([3], [3]), ([3], [3]), ([4, 5, 3], [3, 4, 5]), ([3, 6], [3, 6]), ([7, 3], [7]), ([8], [8]), ([8], [8]), ([9, 10, 8], [8, 9, 10]), ([8, 11], [8, 11]), ([12, 8], [12]), ([13], [13]), ([13], [13]), ([14, 15, 13], [13, 14, 15]), ([13, 16], [13, 16]), ([17, 13], [17]), ([18], [18]), ([18], [18]), ([19, 20, 18], [18, 19, 20]), ([18, 21], [18, 21]), ([22, 18], [22]), ([23], [23]), ([23], [23]), ([24, 25, 23], [23, 24, 25]), ([23, 26], [23, 26]), ([27, 23], [27]), ([28], [28]), ([29, 28, 28], [28, 29]), ([28], [28]), ([31, 30, 28], [28, 31]), ([30, 32, 28], [28, 30, 32]), ([28, 33], [28, 33]), ([34, 32], [34]), ([35], [35]), ([35], [35]), ([36, 37, 35, 35], [35, 36, 37]), ([35], [35]), ([35], [35]), ([39, 40, 38, 35], [35, 39, 40]), ([38, 41, 35], [35, 38, 41]), ([35, 42], [35, 42]), ([43, 41], [43]), ([44], [44]), ([45, 44, 44], [44, 45]), ([44], [44]), ([47, 46, 44], [44, 47]), ([46, 48, 44], [44, 46, 48]), ([44, 49], [44, 49]), ([50, 48, 0, 1, 2, 3, 4, 5, 6, 7, 8, 9, 10, 11, 12, 13, 14, 15, 16, 17, 18, 19, 20, 21, 22, 23, 24, 25, 26, 27, 28, 29, 30, 31, 32, 33, 34, 35, 36, 37, 38, 39, 40, 41, 42, 43, 44, 45, 46, 47, 48, 49, 50], [50])])
def payrolllaw1_agrees.B13 : List Nat := [0, 0, 3, 7, 15, 15, 63, 127, 255, 511, 511, 2047, 4095, 8191, 16383, 16383, 65535, 131071, 262143, 524287, 524287, 2097151, 4194303, 8388607, 16777215, 16777215, 67108863, 134217727, 268435455, 536870911, 1073741823, 536870911, 4294967295, 8589934591, 17179869183, 34359738367, 68719476735, 68719476735, 274877906943, 68719476735, 68719476735, 2199023255551, 4398046511103, 8796093022207, 17592186044415, 35184372088831, 70368744177663, 35184372088831, 281474976710655, 562949953421311, 1125899906842623, 2251799813685247]
theorem payrolllaw1_agrees.tab13 : rtab .any (opsOf Tryd.f29 13) = payrolllaw1_agrees.T13 := by kernel_rfl
theorem payrolllaw1_agrees.bits13 : waitsOk payrolllaw1_agrees.T13.2 payrolllaw1_agrees.B13 = true := by kernel_rfl
set_option maxHeartbeats 8000000 in
set_option maxRecDepth 100000 in
theorem payrolllaw1_agrees.calls (k : Nat) (a0_0 : Int) (a0_1 : Int) (a1_0 : Int) (a1_1 : Int) (w : World) (h : payrolllaw1_agrees.f k a0_0 a0_1 a1_0 a1_1 = some true) :
    Calls Tryd.prog 29 #[.agg #[.int .i64 a0_0, .int .i64 a0_1], .agg #[.int .i64 a1_0, .int .i64 a1_1]] w fun e w' => e = .returned (.bool true) ∧ Below w.heap.size w w' := by
  have hu23 := Tryd.underlying23
  have HB := Aside0.mk (Below.refl w.heap.size w)
  have H : ((ratio_Add.f k a0_0 a0_1 a1_0 a1_1).bind fun bt477 => ((payrollref1_Add.f k a0_0 a0_1 a1_0 a1_1).bind fun bt481 => ((ratio_Sub.f k a0_0 a0_1 a1_0 a1_1).bind fun bt485 => ((payrollref1_Sub.f k a0_0 a0_1 a1_0 a1_1).bind fun bt489 => (if (!(bt477.1 == bt481.1) || (!(bt477.2.1 == bt481.2.1))) = true then (payrolllaw1_agrees.j0 k true a0_0 a0_1 a1_0 a1_1) else (if bt477.2.2 = bt481.2.2 then (if (!(bt485.1 == bt489.1) || (!(bt485.2.1 == bt489.2.1))) = true then (payrolllaw1_agrees.j0 k true a0_0 a0_1 a1_0 a1_1) else (payrolllaw1_agrees.j0 k (bt485.2.2 != bt489.2.2) a0_0 a0_1 a1_0 a1_1)) else (payrolllaw1_agrees.j0 k true a0_0 a0_1 a1_0 a1_1))))))) = some true := h
  clear h
  replace H := Option.bind_eq_some_iff.mp H
  obtain ⟨⟨t477, t478, t479⟩, A30, H⟩ := H
  replace H : ((payrollref1_Add.f k a0_0 a0_1 a1_0 a1_1).bind fun bt481 => ((ratio_Sub.f k a0_0 a0_1 a1_0 a1_1).bind fun bt485 => ((payrollref1_Sub.f k a0_0 a0_1 a1_0 a1_1).bind fun bt489 => (if (!(t477 == bt481.1) || (!(t478 == bt481.2.1))) = true then (payrolllaw1_agrees.j0 k true a0_0 a0_1 a1_0 a1_1) else (if t479 = bt481.2.2 then (if (!(bt485.1 == bt489.1) || (!(bt485.2.1 == bt489.2.1))) = true then (payrolllaw1_agrees.j0 k true a0_0 a0_1 a1_0 a1_1) else (payrolllaw1_agrees.j0 k (bt485.2.2 != bt489.2.2) a0_0 a0_1 a1_0 a1_1)) else (payrolllaw1_agrees.j0 k true a0_0 a0_1 a1_0 a1_1)))))) = some true := H
  have A3 := Aside0.mk A30
  clear A30
  replace H := Option.bind_eq_some_iff.mp H
  obtain ⟨⟨t481, t482, t483⟩, A40, H⟩ := H
  replace H : ((ratio_Sub.f k a0_0 a0_1 a1_0 a1_1).bind fun bt485 => ((payrollref1_Sub.f k a0_0 a0_1 a1_0 a1_1).bind fun bt489 => (if (!(t477 == t481) || (!(t478 == t482))) = true then (payrolllaw1_agrees.j0 k true a0_0 a0_1 a1_0 a1_1) else (if t479 = t483 then (if (!(bt485.1 == bt489.1) || (!(bt485.2.1 == bt489.2.1))) = true then (payrolllaw1_agrees.j0 k true a0_0 a0_1 a1_0 a1_1) else (payrolllaw1_agrees.j0 k (bt485.2.2 != bt489.2.2) a0_0 a0_1 a1_0 a1_1)) else (payrolllaw1_agrees.j0 k true a0_0 a0_1 a1_0 a1_1))))) = some true := H
  have A4 := Aside0.mk A40
  clear A40
  replace H := Option.bind_eq_some_iff.mp H
  obtain ⟨⟨t485, t486, t487⟩, A50, H⟩ := H
  replace H : ((payrollref1_Sub.f k a0_0 a0_1 a1_0 a1_1).bind fun bt489 => (if (!(t477 == t481) || (!(t478 == t482))) = true then (payrolllaw1_agrees.j0 k true a0_0 a0_1 a1_0 a1_1) else (if t479 = t483 then (if (!(t485 == bt489.1) || (!(t486 == bt489.2.1))) = true then (payrolllaw1_agrees.j0 k true a0_0 a0_1 a1_0 a1_1) else (payrolllaw1_agrees.j0 k (t487 != bt489.2.2) a0_0 a0_1 a1_0 a1_1)) else (payrolllaw1_agrees.j0 k true a0_0 a0_1 a1_0 a1_1)))) = some true := H
  have A5 := Aside0.mk A50
  clear A50
  replace H := Option.bind_eq_some_iff.mp H
  obtain ⟨⟨t489, t490, t491⟩, A60, H⟩ := H
  replace H : (if (!(t477 == t481) || (!(t478 == t482))) = true then (payrolllaw1_agrees.j0 k true a0_0 a0_1 a1_0 a1_1) else (if t479 = t483 then (if (!(t485 == t489) || (!(t486 == t490))) = true then (payrolllaw1_agrees.j0 k true a0_0 a0_1 a1_0 a1_1) else (payrolllaw1_agrees.j0 k (t487 != t491) a0_0 a0_1 a1_0 a1_1)) else (payrolllaw1_agrees.j0 k true a0_0 a0_1 a1_0 a1_1))) = some true := H
  have A6 := Aside0.mk A60
  clear A60
  have HC7 := Aside0.mk H
  clear H
  go_enter Tryd.func29, Tryd.ntmps29
  go_upto_region 5 with (first | ((with_reducible refine gate_dst (N := 2) rfl ?_); refine box_event ?hg (N := 2) ?hd (cs := #[.int .i64 a0_0, .int .i64 a0_1]) (t := 23) ?hr ?_; (case hd => rfl); (case hg => rfl); (case hr => first | (go_simp; done) | (go_simp; rfl)); intro gb475 hg w8 hbox hb; have n0_ := Aside0.mk (below_step (by repeat (first | (with_reducible first | exact HB.out | apply below_alloc | apply pw_below_drewN | apply below_drew1) | exact HB.out)) hb); have n1_ := Aside0.mk (hbox); have n2_ := Aside0.mk ((by rw [hg]; exact (below_size (by repeat (first | (with_reducible first | exact HB.out | apply below_alloc | apply pw_below_drewN | apply below_drew1) | exact HB.out))) : w.heap.size ≤ gb475)); have n3_ := Aside0.mk ((by rw [hg]; exact (below_size (by repeat (first | (with_reducible first | exact HB.out | apply below_alloc | apply pw_below_drewN | apply below_drew1) | exact HB.out))) : w.heap.size ≤ gb475)); clear HB; have HB := n0_; have BK475 := n1_; have GW475 := n2_; have GE475 := n3_; clear n0_ n1_ n2_ n3_; clear hb hbox hg) | ((with_reducible refine gate_dst (N := 3) rfl ?_); refine box_event ?hg (N := 3) ?hd (cs := #[.int .i64 a1_0, .int .i64 a1_1]) (t := 23) ?hr ?_; (case hd => rfl); (case hg => rfl); (case hr => first | (go_simp; done) | (go_simp; rfl)); intro gb476 hg w9 hbox hb; have n0_ := Aside0.mk (blk_below (g := gb475) (o := .cells #[.int .i64 a0_0, .int .i64 a0_1] 23 (0, 0)) (by (with_reducible repeat (first | refine blk_drewN ?_ _ | refine blk_drew ?_ | refine blk_alloc ?_ _)); exact BK475.out) hb); have n1_ := Aside0.mk (below_step (by repeat (first | (with_reducible first | exact HB.out | apply below_alloc | apply pw_below_drewN | apply below_drew1 | refine below_set ?_ GE475.out) | exact HB.out)) hb); have n2_ := Aside0.mk (hbox); have n3_ := Aside0.mk ((by rw [hg]; exact (below_size (by repeat (first | (with_reducible first | exact HB.out | apply below_alloc | apply pw_below_drewN | apply below_drew1 | refine below_set ?_ GE475.out) | exact HB.out))) : w.heap.size ≤ gb476)); have n4_ := Aside0.mk ((by rw [hg]; exact (below_size (by repeat (first | (with_reducible first | exact HB.out | apply below_alloc | apply pw_below_drewN | apply below_drew1 | refine below_set ?_ GE475.out) | exact HB.out))) : w.heap.size ≤ gb476)); have n5_ := Aside0.mk ((by rw [hg]; exact Nat.ne_of_lt (blk_lt (g := gb475) (o := .cells #[.int .i64 a0_0, .int .i64 a0_1] 23 (0, 0)) (by (with_reducible repeat (first | refine blk_drewN ?_ _ | refine blk_drew ?_ | refine blk_alloc ?_ _)); exact BK475.out)) : gb475 ≠ gb476)); have n6_ := Aside0.mk ((by rw [hg]; exact Nat.ne_of_gt (blk_lt (g := gb475) (o := .cells #[.int .i64 a0_0, .int .i64 a0_1] 23 (0, 0)) (by (with_reducible repeat (first | refine blk_drewN ?_ _ | refine blk_drew ?_ | refine blk_alloc ?_ _)); exact BK475.out)) : gb476 ≠ gb475)); clear BK475; clear HB; have BK475 := n0_; have HB := n1_; have BK476 := n2_; have GW476 := n3_; have GE476 := n4_; have NB475_476 := n5_; have NB476_475 := n6_; clear n0_ n1_ n2_ n3_ n4_ n5_ n6_; clear hb hbox hg; have hnb10 := NB475_476.out; have hnc10 := NB476_475.out; have hcz11_0 : w9.cell? ⟨gb475, 0, none⟩ = some (.int .i64 a0_0) := (blk_cell BK475.out 0).trans rfl; have hcz11_1 : w9.cell? ⟨gb475, 1, none⟩ = some (.int .i64 a0_1) := (blk_cell BK475.out 1).trans rfl; have hfz11_0 := blk_frozen BK475.out 0; have hfz11_1 := blk_frozen BK475.out 1; have hcz12_0 : w9.cell? ⟨gb476, 0, none⟩ = some (.int .i64 a1_0) := (blk_cell BK476.out 0).trans rfl; have hcz12_1 : w9.cell? ⟨gb476, 1, none⟩ = some (.int .i64 a1_1) := (blk_cell BK476.out 1).trans rfl; have hfz12_0 := blk_frozen BK476.out 0; have hfz12_1 := blk_frozen BK476.out 1) | ((with_reducible refine gate_callee (f := 24) rfl ?_); refine goesL_ (some 20) rfl rfl Tryd.func24 (by kernel_rfl) rfl #[.agg #[.int .i64 a0_0, .int .i64 a0_1], .agg #[.int .i64 a1_0, .int .i64 a1_1]] rfl (by (try simp only [List.map_toArray, List.map_cons, List.map_nil]); first | done | rfl | (simp only [List.length_drop, List.length_take]; rfl)) ?_; (with_reducible refine (ratio_Add.calls k a0_0 a0_1 a1_0 a1_1 t477 t478 t479 _ A3.out).mono ?_); rintro e w13 ⟨rfl, hb⟩; refine ⟨_, rfl, ?_⟩; have n0_ := Aside0.mk (blk_below (g := gb475) (o := .cells #[.int .i64 a0_0, .int .i64 a0_1] 23 (0, 0)) (by (with_reducible repeat (first | refine blk_drewN ?_ _ | refine blk_drew ?_ | refine blk_alloc ?_ _)); exact BK475.out) hb); have n1_ := Aside0.mk (blk_below (g := gb476) (o := .cells #[.int .i64 a1_0, .int .i64 a1_1] 23 (0, 0)) (by (with_reducible repeat (first | refine blk_drewN ?_ _ | refine blk_drew ?_ | refine blk_alloc ?_ _)); exact BK476.out) hb); have n2_ := Aside0.mk (below_step (by repeat (first | (with_reducible first | exact HB.out | apply below_alloc | apply pw_below_drewN | apply below_drew1 | refine below_set ?_ GE475.out | refine below_set ?_ GE476.out) | exact HB.out)) hb); clear BK475; clear BK476; clear HB; have BK475 := n0_; have BK476 := n1_; have HB := n2_; clear n0_ n1_ n2_; (try clear hb); (try clear hb2); (try clear hk); (try clear hi)) | ((with_reducible refine gate_dst (N := 5) rfl ?_); refine box_event ?hg (N := 5) ?hd (cs := #[.int .i64 0, .int .i64 0]) (t := 23) ?hr ?_; (case hd => rfl); (case hg => rfl); (case hr => first | (go_simp; done) | (go_simp; rfl)); intro gb480 hg w14 hbox hb; have n0_ := Aside0.mk (blk_below (g := gb475) (o := .cells #[.int .i64 a0_0, .int .i64 a0_1] 23 (0, 0)) (by (with_reducible repeat (first | refine blk_drewN ?_ _ | refine blk_drew ?_ | refine blk_alloc ?_ _)); exact BK475.out) hb); have n1_ := Aside0.mk (blk_below (g := gb476) (o := .cells #[.int .i64 a1_0, .int .i64 a1_1] 23 (0, 0)) (by (with_reducible repeat (first | refine blk_drewN ?_ _ | refine blk_drew ?_ | refine blk_alloc ?_ _)); exact BK476.out) hb); have n2_ := Aside0.mk (below_step (by repeat (first | (with_reducible first | exact HB.out | apply below_alloc | apply pw_below_drewN | apply below_drew1 | refine below_set ?_ GE475.out | refine below_set ?_ GE476.out) | exact HB.out)) hb); have n3_ := Aside0.mk (hbox); have n4_ := Aside0.mk ((by rw [hg]; exact (below_size (by repeat (first | (with_reducible first | exact HB.out | apply below_alloc | apply pw_below_drewN | apply below_drew1 | refine below_set ?_ GE475.out | refine below_set ?_ GE476.out) | exact HB.out))) : w.heap.size ≤ gb480)); have n5_ := Aside0.mk ((by rw [hg]; exact (below_size (by repeat (first | (with_reducible first | exact HB.out | apply below_alloc | apply pw_below_drewN | apply below_drew1 | refine below_set ?_ GE475.out | refine below_set ?_ GE476.out) | exact HB.out))) : w.heap.size ≤ gb480)); have n6_ := Aside0.mk ((by rw [hg]; exact Nat.ne_of_lt (blk_lt (g := gb475) (o := .cells #[.int .i64 a0_0, .int .i64 a0_1] 23 (0, 0)) (by (with_reducible repeat (first | refine blk_drewN ?_ _ | refine blk_drew ?_ | refine blk_alloc ?_ _)); exact BK475.out)) : gb475 ≠ gb480)); have n7_ := Aside0.mk ((by rw [hg]; exact Nat.ne_of_gt (blk_lt (g := gb475) (o := .cells #[.int .i64 a0_0, .int .i64 a0_1] 23 (0, 0)) (by (with_reducible repeat (first | refine blk_drewN ?_ _ | refine blk_drew ?_ | refine blk_alloc ?_ _)); exact BK475.out)) : gb480 ≠ gb475)); have n8_ := Aside0.mk ((by rw [hg]; exact Nat.ne_of_lt (blk_lt (g := gb476) (o := .cells #[.int .i64 a1_0, .int .i64 a1_1] 23 (0, 0)) (by (with_reducible repeat (first | refine blk_drewN ?_ _ | refine blk_drew ?_ | refine blk_alloc ?_ _)); exact BK476.out)) : gb476 ≠ gb480)); have n9_ := Aside0.mk ((by rw [hg]; exact Nat.ne_of_gt (blk_lt (g := gb476) (o := .cells #[.int .i64 a1_0, .int .i64 a1_1] 23 (0, 0)) (by (with_reducible repeat (first | refine blk_drewN ?_ _ | refine blk_drew ?_ | refine blk_alloc ?_ _)); exact BK476.out)) : gb480 ≠ gb476)); clear BK475; clear BK476; clear HB; have BK475 := n0_; have BK476 := n1_; have HB := n2_; have BK480 := n3_; have GW480 := n4_; have GE480 := n5_; have NB475_480 := n6_; have NB480_475 := n7_; have NB476_480 := n8_; have NB480_476 := n9_; clear n0_ n1_ n2_ n3_ n4_ n5_ n6_ n7_ n8_ n9_; clear hb hbox hg; have hnb15 := NB480_475.out; have hnc15 := NB475_480.out; have hnb16 := NB480_476.out; have hnc16 := NB476_480.out; have hcz17_0 : w14.cell? ⟨gb480, 0, none⟩ = some (.int .i64 0) := (blk_cell BK480.out 0).trans rfl; have hcz17_1 : w14.cell? ⟨gb480, 1, none⟩ = some (.int .i64 0) := (blk_cell BK480.out 1).trans rfl; have hfz17_0 := blk_frozen BK480.out 0; have hfz17_1 := blk_frozen BK480.out 1; have hcz18_0 : w14.cell? ⟨gb475, 0, none⟩ = some (.int .i64 a0_0) := (blk_cell BK475.out 0).trans rfl; have hcz18_1 : w14.cell? ⟨gb475, 1, none⟩ = some (.int .i64 a0_1) := (blk_cell BK475.out 1).trans rfl; have hfz18_0 := blk_frozen BK475.out 0; have hfz18_1 := blk_frozen BK475.out 1; have hcz19_0 : w14.cell? ⟨gb476, 0, none⟩ = some (.int .i64 a1_0) := (blk_cell BK476.out 0).trans rfl; have hcz19_1 : w14.cell? ⟨gb476, 1, none⟩ = some (.int .i64 a1_1) := (blk_cell BK476.out 1).trans rfl; have hfz19_0 := blk_frozen BK476.out 0; have hfz19_1 := blk_frozen BK476.out 1) | ((with_reducible refine gate_callee (f := 41) rfl ?_); refine goesL_ (some 26) rfl rfl Tryd.func41 (by kernel_rfl) rfl #[.agg #[.int .i64 a0_0, .int .i64 a0_1], .agg #[.int .i64 a1_0, .int .i64 a1_1]] rfl (by (try simp only [List.map_toArray, List.map_cons, List.map_nil]); first | done | rfl | (simp only [List.length_drop, List.length_take]; rfl)) ?_; (with_reducible refine (payrollref1_Add.calls k a0_0 a0_1 a1_0 a1_1 t481 t482 t483 _ A4.out).mono ?_); rintro e w20 ⟨rfl, hb⟩; refine ⟨_, rfl, ?_⟩; have n0_ := Aside0.mk (blk_below (g := gb475) (o := .cells #[.int .i64 a0_0, .int .i64 a0_1] 23 (0, 0)) (by (with_reducible repeat (first | refine blk_drewN ?_ _ | refine blk_drew ?_ | refine blk_alloc ?_ _)); refine blk_far ?_ NB475_480.out _; (with_reducible repeat (first | refine blk_drewN ?_ _ | refine blk_drew ?_ | refine blk_alloc ?_ _)); refine blk_far ?_ NB475_480.out _; (with_reducible repeat (first | refine blk_drewN ?_ _ | refine blk_drew ?_ | refine blk_alloc ?_ _)); exact BK475.out) hb); have n1_ := Aside0.mk (blk_below (g := gb476) (o := .cells #[.int .i64 a1_0, .int .i64 a1_1] 23 (0, 0)) (by (with_reducible repeat (first | refine blk_drewN ?_ _ | refine blk_drew ?_ | refine blk_alloc ?_ _)); refine blk_far ?_ NB476_480.out _; (with_reducible repeat (first | refine blk_drewN ?_ _ | refine blk_drew ?_ | refine blk_alloc ?_ _)); refine blk_far ?_ NB476_480.out _; (with_reducible repeat (first | refine blk_drewN ?_ _ | refine blk_drew ?_ | refine blk_alloc ?_ _)); exact BK476.out) hb); have n2_ := Aside0.mk (blk_below (g := gb480) (o := .cells #[.int .i64 t477, .int .i64 t478] 23 (0, 0)) (by (with_reducible repeat (first | refine blk_drewN ?_ _ | refine blk_drew ?_ | refine blk_alloc ?_ _)); refine blk_put (cs := #[.int .i64 t477, .int .i64 0]) ?_ 1 _ rfl; (with_reducible repeat (first | refine blk_drewN ?_ _ | refine blk_drew ?_ | refine blk_alloc ?_ _)); refine blk_put (cs := #[.int .i64 0, .int .i64 0]) ?_ 0 _ rfl; (with_reducible repeat (first | refine blk_drewN ?_ _ | refine blk_drew ?_ | refine blk_alloc ?_ _)); exact BK480.out) hb); have n3_ := Aside0.mk (below_step (by repeat (first | (with_reducible first | exact HB.out | apply below_alloc | apply pw_below_drewN | apply below_drew1 | refine below_set ?_ GE475.out | refine below_set ?_ GE476.out | refine below_set ?_ GE480.out) | exact HB.out)) hb); clear BK475; clear BK476; clear BK480; clear HB; have BK475 := n0_; have BK476 := n1_; have BK480 := n2_; have HB := n3_; clear n0_ n1_ n2_ n3_; (try clear hb); (try clear hb2); (try clear hk); (try clear hi)) | ((with_reducible refine gate_dst (N := 7) rfl ?_); refine box_event ?hg (N := 7) ?hd (cs := #[.int .i64 0, .int .i64 0]) (t := 23) ?hr ?_; (case hd => rfl); (case hg => rfl); (case hr => first | (go_simp; done) | (go_simp; rfl)); intro gb484 hg w21 hbox hb; have n0_ := Aside0.mk (blk_below (g := gb475) (o := .cells #[.int .i64 a0_0, .int .i64 a0_1] 23 (0, 0)) (by (with_reducible repeat (first | refine blk_drewN ?_ _ | refine blk_drew ?_ | refine blk_alloc ?_ _)); exact BK475.out) hb); have n1_ := Aside0.mk (blk_below (g := gb476) (o := .cells #[.int .i64 a1_0, .int .i64 a1_1] 23 (0, 0)) (by (with_reducible repeat (first | refine blk_drewN ?_ _ | refine blk_drew ?_ | refine blk_alloc ?_ _)); exact BK476.out) hb); have n2_ := Aside0.mk (blk_below (g := gb480) (o := .cells #[.int .i64 t477, .int .i64 t478] 23 (0, 0)) (by (with_reducible repeat (first | refine blk_drewN ?_ _ | refine blk_drew ?_ | refine blk_alloc ?_ _)); exact BK480.out) hb); have n3_ := Aside0.mk (below_step (by repeat (first | (with_reducible first | exact HB.out | apply below_alloc | apply pw_below_drewN | apply below_drew1 | refine below_set ?_ GE475.out | refine below_set ?_ GE476.out | refine below_set ?_ GE480.out) | exact HB.out)) hb); have n4_ := Aside0.mk (hbox); have n5_ := Aside0.mk ((by rw [hg]; exact (below_size (by repeat (first | (with_reducible first | exact HB.out | apply below_alloc | apply pw_below_drewN | apply below_drew1 | refine below_set ?_ GE475.out | refine below_set ?_ GE476.out | refine below_set ?_ GE480.out) | exact HB.out))) : w.heap.size ≤ gb484)); have n6_ := Aside0.mk ((by rw [hg]; exact (below_size (by repeat (first | (with_reducible first | exact HB.out | apply below_alloc | apply pw_below_drewN | apply below_drew1 | refine below_set ?_ GE475.out | refine below_set ?_ GE476.out | refine below_set ?_ GE480.out) | exact HB.out))) : w.heap.size ≤ gb484)); have n7_ := Aside0.mk ((by rw [hg]; exact Nat.ne_of_lt (blk_lt (g := gb475) (o := .cells #[.int .i64 a0_0, .int .i64 a0_1] 23 (0, 0)) (by (with_reducible repeat (first | refine blk_drewN ?_ _ | refine blk_drew ?_ | refine blk_alloc ?_ _)); exact BK475.out)) : gb475 ≠ gb484)); have n8_ := Aside0.mk ((by rw [hg]; exact Nat.ne_of_gt (blk_lt (g := gb475) (o := .cells #[.int .i64 a0_0, .int .i64 a0_1] 23 (0, 0)) (by (with_reducible repeat (first | refine blk_drewN ?_ _ | refine blk_drew ?_ | refine blk_alloc ?_ _)); exact BK475.out)) : gb484 ≠ gb475)); have n9_ := Aside0.mk ((by rw [hg]; exact Nat.ne_of_lt (blk_lt (g := gb476) (o := .cells #[.int .i64 a1_0, .int .i64 a1_1] 23 (0, 0)) (by (with_reducible repeat (first | refine blk_drewN ?_ _ | refine blk_drew ?_ | refine blk_alloc ?_ _)); exact BK476.out)) : gb476 ≠ gb484)); have n10_ := Aside0.mk ((by rw [hg]; exact Nat.ne_of_gt (blk_lt (g := gb476) (o := .cells #[.int .i64 a1_0, .int .i64 a1_1] 23 (0, 0)) (by (with_reducible repeat (first | refine blk_drewN ?_ _ | refine blk_drew ?_ | refine blk_alloc ?_ _)); exact BK476.out)) : gb484 ≠ gb476)); have n11_ := Aside0.mk ((by rw [hg]; exact Nat.ne_of_lt (blk_lt (g := gb480) (o := .cells #[.int .i64 t477, .int .i64 t478] 23 (0, 0)) (by (with_reducible repeat (first | refine blk_drewN ?_ _ | refine blk_drew ?_ | refine blk_alloc ?_ _)); exact BK480.out)) : gb480 ≠ gb484)); have n12_ := Aside0.mk ((by rw [hg]; exact Nat.ne_of_gt (blk_lt (g := gb480) (o := .cells #[.int .i64 t477, .int .i64 t478] 23 (0, 0)) (by (with_reducible repeat (first | refine blk_drewN ?_ _ | refine blk_drew ?_ | refine blk_alloc ?_ _)); exact BK480.out)) : gb484 ≠ gb480)); clear BK475; clear BK476; clear BK480; clear HB; have BK475 := n0_; have BK476 := n1_; have BK480 := n2_; have HB := n3_; have BK484 := n4_; have GW484 := n5_; have GE484 := n6_; have NB475_484 := n7_; have NB484_475 := n8_; have NB476_484 := n9_; have NB484_476 := n10_; have NB480_484 := n11_; have NB484_480 := n12_; clear n0_ n1_ n2_ n3_ n4_ n5_ n6_ n7_ n8_ n9_ n10_ n11_ n12_; clear hb hbox hg; have hnb22 := NB484_475.out; have hnc22 := NB475_484.out; have hnb23 := NB484_476.out; have hnc23 := NB476_484.out; have hnb24 := NB484_480.out; have hnc24 := NB480_484.out; have hcz25_0 : w21.cell? ⟨gb484, 0, none⟩ = some (.int .i64 0) := (blk_cell BK484.out 0).trans rfl; have hcz25_1 : w21.cell? ⟨gb484, 1, none⟩ = some (.int .i64 0) := (blk_cell BK484.out 1).trans rfl; have hfz25_0 := blk_frozen BK484.out 0; have hfz25_1 := blk_frozen BK484.out 1; have hcz26_0 : w21.cell? ⟨gb475, 0, none⟩ = some (.int .i64 a0_0) := (blk_cell BK475.out 0).trans rfl; have hcz26_1 : w21.cell? ⟨gb475, 1, none⟩ = some (.int .i64 a0_1) := (blk_cell BK475.out 1).trans rfl; have hfz26_0 := blk_frozen BK475.out 0; have hfz26_1 := blk_frozen BK475.out 1; have hcz27_0 : w21.cell? ⟨gb476, 0, none⟩ = some (.int .i64 a1_0) := (blk_cell BK476.out 0).trans rfl; have hcz27_1 : w21.cell? ⟨gb476, 1, none⟩ = some (.int .i64 a1_1) := (blk_cell BK476.out 1).trans rfl; have hfz27_0 := blk_frozen BK476.out 0; have hfz27_1 := blk_frozen BK476.out 1) | ((with_reducible refine gate_callee (f := 27) rfl ?_); refine goesL_ (some 32) rfl rfl Tryd.func27 (by kernel_rfl) rfl #[.agg #[.int .i64 a0_0, .int .i64 a0_1], .agg #[.int .i64 a1_0, .int .i64 a1_1]] rfl (by (try simp only [List.map_toArray, List.map_cons, List.map_nil]); first | done | rfl | (simp only [List.length_drop, List.length_take]; rfl)) ?_; (with_reducible refine (ratio_Sub.calls k a0_0 a0_1 a1_0 a1_1 t485 t486 t487 _ A5.out).mono ?_); rintro e w28 ⟨rfl, hb⟩; refine ⟨_, rfl, ?_⟩; have n0_ := Aside0.mk (blk_below (g := gb475) (o := .cells #[.int .i64 a0_0, .int .i64 a0_1] 23 (0, 0)) (by (with_reducible repeat (first | refine blk_drewN ?_ _ | refine blk_drew ?_ | refine blk_alloc ?_ _)); refine blk_far ?_ NB475_484.out _; (with_reducible repeat (first | refine blk_drewN ?_ _ | refine blk_drew ?_ | refine blk_alloc ?_ _)); refine blk_far ?_ NB475_484.out _; (with_reducible repeat (first | refine blk_drewN ?_ _ | refine blk_drew ?_ | refine blk_alloc ?_ _)); exact BK475.out) hb); have n1_ := Aside0.mk (blk_below (g := gb476) (o := .cells #[.int .i64 a1_0, .int .i64 a1_1] 23 (0, 0)) (by (with_reducible repeat (first | refine blk_drewN ?_ _ | refine blk_drew ?_ | refine blk_alloc ?_ _)); refine blk_far ?_ NB476_484.out _; (with_reducible repeat (first | refine blk_drewN ?_ _ | refine blk_drew ?_ | refine blk_alloc ?_ _)); refine blk_far ?_ NB476_484.out _; (with_reducible repeat (first | refine blk_drewN ?_ _ | refine blk_drew ?_ | refine blk_alloc ?_ _)); exact BK476.out) hb); have n2_ := Aside0.mk (blk_below (g := gb480) (o := .cells #[.int .i64 t477, .int .i64 t478] 23 (0, 0)) (by (with_reducible repeat (first | refine blk_drewN ?_ _ | refine blk_drew ?_ | refine blk_alloc ?_ _)); refine blk_far ?_ NB480_484.out _; (with_reducible repeat (first | refine blk_drewN ?_ _ | refine blk_drew ?_ | refine blk_alloc ?_ _)); refine blk_far ?_ NB480_484.out _; (with_reducible repeat (first | refine blk_drewN ?_ _ | refine blk_drew ?_ | refine blk_alloc ?_ _)); exact BK480.out) hb); have n3_ := Aside0.mk (blk_below (g := gb484) (o := .cells #[.int .i64 t481, .int .i64 t482] 23 (0, 0)) (by (with_reducible repeat (first | refine blk_drewN ?_ _ | refine blk_drew ?_ | refine blk_alloc ?_ _)); refine blk_put (cs := #[.int .i64 t481, .int .i64 0]) ?_ 1 _ rfl; (with_reducible repeat (first | refine blk_drewN ?_ _ | refine blk_drew ?_ | refine blk_alloc ?_ _)); refine blk_put (cs := #[.int .i64 0, .int .i64 0]) ?_ 0 _ rfl; (with_reducible repeat (first | refine blk_drewN ?_ _ | refine blk_drew ?_ | refine blk_alloc ?_ _)); exact BK484.out) hb); have n4_ := Aside0.mk (below_step (by repeat (first | (with_reducible first | exact HB.out | apply below_alloc | apply pw_below_drewN | apply below_drew1 | refine below_set ?_ GE475.out | refine below_set ?_ GE476.out | refine below_set ?_ GE480.out | refine below_set ?_ GE484.out) | exact HB.out)) hb); clear BK475; clear BK476; clear BK480; clear BK484; clear HB; have BK475 := n0_; have BK476 := n1_; have BK480 := n2_; have BK484 := n3_; have HB := n4_; clear n0_ n1_ n2_ n3_ n4_; (try clear hb); (try clear hb2); (try clear hk); (try clear hi)) | ((with_reducible refine gate_dst (N := 9) rfl ?_); refine box_event ?hg (N := 9) ?hd (cs := #[.int .i64 0, .int .i64 0]) (t := 23) ?hr ?_; (case hd => rfl); (case hg => rfl); (case hr => first | (go_simp; done) | (go_simp; rfl)); intro gb488 hg w29 hbox hb; have n0_ := Aside0.mk (blk_below (g := gb475) (o := .cells #[.int .i64 a0_0, .int .i64 a0_1] 23 (0, 0)) (by (with_reducible repeat (first | refine blk_drewN ?_ _ | refine blk_drew ?_ | refine blk_alloc ?_ _)); exact BK475.out) hb); have n1_ := Aside0.mk (blk_below (g := gb476) (o := .cells #[.int .i64 a1_0, .int .i64 a1_1] 23 (0, 0)) (by (with_reducible repeat (first | refine blk_drewN ?_ _ | refine blk_drew ?_ | refine blk_alloc ?_ _)); exact BK476.out) hb); have n2_ := Aside0.mk (blk_below (g := gb480) (o := .cells #[.int .i64 t477, .int .i64 t478] 23 (0, 0)) (by (with_reducible repeat (first | refine blk_drewN ?_ _ | refine blk_drew ?_ | refine blk_alloc ?_ _)); exact BK480.out) hb); have n3_ := Aside0.mk (blk_below (g := gb484) (o := .cells #[.int .i64 t481, .int .i64 t482] 23 (0, 0)) (by (with_reducible repeat (first | refine blk_drewN ?_ _ | refine blk_drew ?_ | refine blk_alloc ?_ _)); exact BK484.out) hb); have n4_ := Aside0.mk (below_step (by repeat (first | (with_reducible first | exact HB.out | apply below_alloc | apply pw_below_drewN | apply below_drew1 | refine below_set ?_ GE475.out | refine below_set ?_ GE476.out | refine below_set ?_ GE480.out | refine below_set ?_ GE484.out) | exact HB.out)) hb); have n5_ := Aside0.mk (hbox); have n6_ := Aside0.mk ((by rw [hg]; exact (below_size (by repeat (first | (with_reducible first | exact HB.out | apply below_alloc | apply pw_below_drewN | apply below_drew1 | refine below_set ?_ GE475.out | refine below_set ?_ GE476.out | refine below_set ?_ GE480.out | refine below_set ?_ GE484.out) | exact HB.out))) : w.heap.size ≤ gb488)); have n7_ := Aside0.mk ((by rw [hg]; exact (below_size (by repeat (first | (with_reducible first | exact HB.out | apply below_alloc | apply pw_below_drewN | apply below_drew1 | refine below_set ?_ GE475.out | refine below_set ?_ GE476.out | refine below_set ?_ GE480.out | refine below_set ?_ GE484.out) | exact HB.out))) : w.heap.size ≤ gb488)); have n8_ := Aside0.mk ((by rw [hg]; exact Nat.ne_of_lt (blk_lt (g := gb475) (o := .cells #[.int .i64 a0_0, .int .i64 a0_1] 23 (0, 0)) (by (with_reducible repeat (first | refine blk_drewN ?_ _ | refine blk_drew ?_ | refine blk_alloc ?_ _)); exact BK475.out)) : gb475 ≠ gb488)); have n9_ := Aside0.mk ((by rw [hg]; exact Nat.ne_of_gt (blk_lt (g := gb475) (o := .cells #[.int .i64 a0_0, .int .i64 a0_1] 23 (0, 0)) (by (with_reducible repeat (first | refine blk_drewN ?_ _ | refine blk_drew ?_ | refine blk_alloc ?_ _)); exact BK475.out)) : gb488 ≠ gb475)); have n10_ := Aside0.mk ((by rw [hg]; exact Nat.ne_of_lt (blk_lt (g := gb476) (o := .cells #[.int .i64 a1_0, .int .i64 a1_1] 23 (0, 0)) (by (with_reducible repeat (first | refine blk_drewN ?_ _ | refine blk_drew ?_ | refine blk_alloc ?_ _)); exact BK476.out)) : gb476 ≠ gb488)); have n11_ := Aside0.mk ((by rw [hg]; exact Nat.ne_of_gt (blk_lt (g := gb476) (o := .cells #[.int .i64 a1_0, .int .i64 a1_1] 23 (0, 0)) (by (with_reducible repeat (first | refine blk_drewN ?_ _ | refine blk_drew ?_ | refine blk_alloc ?_ _)); exact BK476.out)) : gb488 ≠ gb476)); have n12_ := Aside0.mk ((by rw [hg]; exact Nat.ne_of_lt (blk_lt (g := gb480) (o := .cells #[.int .i64 t477, .int .i64 t478] 23 (0, 0)) (by (with_reducible repeat (first | refine blk_drewN ?_ _ | refine blk_drew ?_ | refine blk_alloc ?_ _)); exact BK480.out)) : gb480 ≠ gb488)); have n13_ := Aside0.mk ((by rw [hg]; exact Nat.ne_of_gt (blk_lt (g := gb480) (o := .cells #[.int .i64 t477, .int .i64 t478] 23 (0, 0)) (by (with_reducible repeat (first | refine blk_drewN ?_ _ | refine blk_drew ?_ | refine blk_alloc ?_ _)); exact BK480.out)) : gb488 ≠ gb480)); have n14_ := Aside0.mk ((by rw [hg]; exact Nat.ne_of_lt (blk_lt (g := gb484) (o := .cells #[.int .i64 t481, .int .i64 t482] 23 (0, 0)) (by (with_reducible repeat (first | refine blk_drewN ?_ _ | refine blk_drew ?_ | refine blk_alloc ?_ _)); exact BK484.out)) : gb484 ≠ gb488)); have n15_ := Aside0.mk ((by rw [hg]; exact Nat.ne_of_gt (blk_lt (g := gb484) (o := .cells #[.int .i64 t481, .int .i64 t482] 23 (0, 0)) (by (with_reducible repeat (first | refine blk_drewN ?_ _ | refine blk_drew ?_ | refine blk_alloc ?_ _)); exact BK484.out)) : gb488 ≠ gb484)); clear BK475; clear BK476; clear BK480; clear BK484; clear HB; have BK475 := n0_; have BK476 := n1_; have BK480 := n2_; have BK484 := n3_; have HB := n4_; have BK488 := n5_; have GW488 := n6_; have GE488 := n7_; have NB475_488 := n8_; have NB488_475 := n9_; have NB476_488 := n10_; have NB488_476 := n11_; have NB480_488 := n12_; have NB488_480 := n13_; have NB484_488 := n14_; have NB488_484 := n15_; clear n0_ n1_ n2_ n3_ n4_ n5_ n6_ n7_ n8_ n9_ n10_ n11_ n12_ n13_ n14_ n15_; clear hb hbox hg; have hnb30 := NB488_475.out; have hnc30 := NB475_488.out; have hnb31 := NB488_476.out; have hnc31 := NB476_488.out; have hnb32 := NB488_480.out; have hnc32 := NB480_488.out; have hnb33 := NB488_484.out; have hnc33 := NB484_488.out; have hcz34_0 : w29.cell? ⟨gb488, 0, none⟩ = some (.int .i64 0) := (blk_cell BK488.out 0).trans rfl; have hcz34_1 : w29.cell? ⟨gb488, 1, none⟩ = some (.int .i64 0) := (blk_cell BK488.out 1).trans rfl; have hfz34_0 := blk_frozen BK488.out 0; have hfz34_1 := blk_frozen BK488.out 1; have hcz35_0 : w29.cell? ⟨gb475, 0, none⟩ = some (.int .i64 a0_0) := (blk_cell BK475.out 0).trans rfl; have hcz35_1 : w29.cell? ⟨gb475, 1, none⟩ = some (.int .i64 a0_1) := (blk_cell BK475.out 1).trans rfl; have hfz35_0 := blk_frozen BK475.out 0; have hfz35_1 := blk_frozen BK475.out 1; have hcz36_0 : w29.cell? ⟨gb476, 0, none⟩ = some (.int .i64 a1_0) := (blk_cell BK476.out 0).trans rfl; have hcz36_1 : w29.cell? ⟨gb476, 1, none⟩ = some (.int .i64 a1_1) := (blk_cell BK476.out 1).trans rfl; have hfz36_0 := blk_frozen BK476.out 0; have hfz36_1 := blk_frozen BK476.out 1) | ((with_reducible refine gate_callee (f := 42) rfl ?_); refine goesL_ (some 38) rfl rfl Tryd.func42 (by kernel_rfl) rfl #[.agg #[.int .i64 a0_0, .int .i64 a0_1], .agg #[.int .i64 a1_0, .int .i64 a1_1]] rfl (by (try simp only [List.map_toArray, List.map_cons, List.map_nil]); first | done | rfl | (simp only [List.length_drop, List.length_take]; rfl)) ?_; (with_reducible refine (payrollref1_Sub.calls k a0_0 a0_1 a1_0 a1_1 t489 t490 t491 _ A6.out).mono ?_); rintro e w37 ⟨rfl, hb⟩; refine ⟨_, rfl, ?_⟩; have n0_ := Aside0.mk (blk_below (g := gb475) (o := .cells #[.int .i64 a0_0, .int .i64 a0_1] 23 (0, 0)) (by (with_reducible repeat (first | refine blk_drewN ?_ _ | refine blk_drew ?_ | refine blk_alloc ?_ _)); refine blk_far ?_ NB475_488.out _; (with_reducible repeat (first | refine blk_drewN ?_ _ | refine blk_drew ?_ | refine blk_alloc ?_ _)); refine blk_far ?_ NB475_488.out _; (with_reducible repeat (first | refine blk_drewN ?_ _ | refine blk_drew ?_ | refine blk_alloc ?_ _)); exact BK475.out) hb); have n1_ := Aside0.mk (blk_below (g := gb476) (o := .cells #[.int .i64 a1_0, .int .i64 a1_1] 23 (0, 0)) (by (with_reducible repeat (first | refine blk_drewN ?_ _ | refine blk_drew ?_ | refine blk_alloc ?_ _)); refine blk_far ?_ NB476_488.out _; (with_reducible repeat (first | refine blk_drewN ?_ _ | refine blk_drew ?_ | refine blk_alloc ?_ _)); refine blk_far ?_ NB476_488.out _; (with_reducible repeat (first | refine blk_drewN ?_ _ | refine blk_drew ?_ | refine blk_alloc ?_ _)); exact BK476.out) hb); have n2_ := Aside0.mk (blk_below (g := gb480) (o := .cells #[.int .i64 t477, .int .i64 t478] 23 (0, 0)) (by (with_reducible repeat (first | refine blk_drewN ?_ _ | refine blk_drew ?_ | refine blk_alloc ?_ _)); refine blk_far ?_ NB480_488.out _; (with_reducible repeat (first | refine blk_drewN ?_ _ | refine blk_drew ?_ | refine blk_alloc ?_ _)); refine blk_far ?_ NB480_488.out _; (with_reducible repeat (first | refine blk_drewN ?_ _ | refine blk_drew ?_ | refine blk_alloc ?_ _)); exact BK480.out) hb); have n3_ := Aside0.mk (blk_below (g := gb484) (o := .cells #[.int .i64 t481, .int .i64 t482] 23 (0, 0)) (by (with_reducible repeat (first | refine blk_drewN ?_ _ | refine blk_drew ?_ | refine blk_alloc ?_ _)); refine blk_far ?_ NB484_488.out _; (with_reducible repeat (first | refine blk_drewN ?_ _ | refine blk_drew ?_ | refine blk_alloc ?_ _)); refine blk_far ?_ NB484_488.out _; (with_reducible repeat (first | refine blk_drewN ?_ _ | refine blk_drew ?_ | refine blk_alloc ?_ _)); exact BK484.out) hb); have n4_ := Aside0.mk (blk_below (g := gb488) (o := .cells #[.int .i64 t485, .int .i64 t486] 23 (0, 0)) (by (with_reducible repeat (first | refine blk_drewN ?_ _ | refine blk_drew ?_ | refine blk_alloc ?_ _)); refine blk_put (cs := #[.int .i64 t485, .int .i64 0]) ?_ 1 _ rfl; (with_reducible repeat (first | refine blk_drewN ?_ _ | refine blk_drew ?_ | refine blk_alloc ?_ _)); refine blk_put (cs := #[.int .i64 0, .int .i64 0]) ?_ 0 _ rfl; (with_reducible repeat (first | refine blk_drewN ?_ _ | refine blk_drew ?_ | refine blk_alloc ?_ _)); exact BK488.out) hb); have n5_ := Aside0.mk (below_step (by repeat (first | (with_reducible first | exact HB.out | apply below_alloc | apply pw_below_drewN | apply below_drew1 | refine below_set ?_ GE475.out | refine below_set ?_ GE476.out | refine below_set ?_ GE480.out | refine below_set ?_ GE484.out | refine below_set ?_ GE488.out) | exact HB.out)) hb); clear BK475; clear BK476; clear BK480; clear BK484; clear BK488; clear HB; have BK475 := n0_; have BK476 := n1_; have BK480 := n2_; have BK484 := n3_; have BK488 := n4_; have HB := n5_; clear n0_ n1_ n2_ n3_ n4_ n5_; (try clear hb); (try clear hb2); (try clear hk); (try clear hi)) | ((with_reducible refine gate_dst (N := 11) rfl ?_); refine box_event ?hg (N := 11) ?hd (cs := #[.int .i64 0, .int .i64 0]) (t := 23) ?hr ?_; (case hd => rfl); (case hg => rfl); (case hr => first | (go_simp; done) | (go_simp; rfl)); intro gb492 hg w38 hbox hb; have n0_ := Aside0.mk (blk_below (g := gb475) (o := .cells #[.int .i64 a0_0, .int .i64 a0_1] 23 (0, 0)) (by (with_reducible repeat (first | refine blk_drewN ?_ _ | refine blk_drew ?_ | refine blk_alloc ?_ _)); exact BK475.out) hb); have n1_ := Aside0.mk (blk_below (g := gb476) (o := .cells #[.int .i64 a1_0, .int .i64 a1_1] 23 (0, 0)) (by (with_reducible repeat (first | refine blk_drewN ?_ _ | refine blk_drew ?_ | refine blk_alloc ?_ _)); exact BK476.out) hb); have n2_ := Aside0.mk (blk_below (g := gb480) (o := .cells #[.int .i64 t477, .int .i64 t478] 23 (0, 0)) (by (with_reducible repeat (first | refine blk_drewN ?_ _ | refine blk_drew ?_ | refine blk_alloc ?_ _)); exact BK480.out) hb); have n3_ := Aside0.mk (blk_below (g := gb484) (o := .cells #[.int .i64 t481, .int .i64 t482] 23 (0, 0)) (by (with_reducible repeat (first | refine blk_drewN ?_ _ | refine blk_drew ?_ | refine blk_alloc ?_ _)); exact BK484.out) hb); have n4_ := Aside0.mk (blk_below (g := gb488) (o := .cells #[.int .i64 t485, .int .i64 t486] 23 (0, 0)) (by (with_reducible repeat (first | refine blk_drewN ?_ _ | refine blk_drew ?_ | refine blk_alloc ?_ _)); exact BK488.out) hb); have n5_ := Aside0.mk (below_step (by repeat (first | (with_reducible first | exact HB.out | apply below_alloc | apply pw_below_drewN | apply below_drew1 | refine below_set ?_ GE475.out | refine below_set ?_ GE476.out | refine below_set ?_ GE480.out | refine below_set ?_ GE484.out | refine below_set ?_ GE488.out) | exact HB.out)) hb); have n6_ := Aside0.mk (hbox); have n7_ := Aside0.mk ((by rw [hg]; exact (below_size (by repeat (first | (with_reducible first | exact HB.out | apply below_alloc | apply pw_below_drewN | apply below_drew1 | refine below_set ?_ GE475.out | refine below_set ?_ GE476.out | refine below_set ?_ GE480.out | refine below_set ?_ GE484.out | refine below_set ?_ GE488.out) | exact HB.out))) : w.heap.size ≤ gb492)); have n8_ := Aside0.mk ((by rw [hg]; exact (below_size (by repeat (first | (with_reducible first | exact HB.out | apply below_alloc | apply pw_below_drewN | apply below_drew1 | refine below_set ?_ GE475.out | refine below_set ?_ GE476.out | refine below_set ?_ GE480.out | refine below_set ?_ GE484.out | refine below_set ?_ GE488.out) | exact HB.out))) : w.heap.size ≤ gb492)); have n9_ := Aside0.mk ((by rw [hg]; exact Nat.ne_of_lt (blk_lt (g := gb475) (o := .cells #[.int .i64 a0_0, .int .i64 a0_1] 23 (0, 0)) (by (with_reducible repeat (first | refine blk_drewN ?_ _ | refine blk_drew ?_ | refine blk_alloc ?_ _)); exact BK475.out)) : gb475 ≠ gb492)); have n10_ := Aside0.mk ((by rw [hg]; exact Nat.ne_of_gt (blk_lt (g := gb475) (o := .cells #[.int .i64 a0_0, .int .i64 a0_1] 23 (0, 0)) (by (with_reducible repeat (first | refine blk_drewN ?_ _ | refine blk_drew ?_ | refine blk_alloc ?_ _)); exact BK475.out)) : gb492 ≠ gb475)); have n11_ := Aside0.mk ((by rw [hg]; exact Nat.ne_of_lt (blk_lt (g := gb476) (o := .cells #[.int .i64 a1_0, .int .i64 a1_1] 23 (0, 0)) (by (with_reducible repeat (first | refine blk_drewN ?_ _ | refine blk_drew ?_ | refine blk_alloc ?_ _)); exact BK476.out)) : gb476 ≠ gb492)); have n12_ := Aside0.mk ((by rw [hg]; exact Nat.ne_of_gt (blk_lt (g := gb476) (o := .cells #[.int .i64 a1_0, .int .i64 a1_1] 23 (0, 0)) (by (with_reducible repeat (first | refine blk_drewN ?_ _ | refine blk_drew ?_ | refine blk_alloc ?_ _)); exact BK476.out)) : gb492 ≠ gb476)); have n13_ := Aside0.mk ((by rw [hg]; exact Nat.ne_of_lt (blk_lt (g := gb480) (o := .cells #[.int .i64 t477, .int .i64 t478] 23 (0, 0)) (by (with_reducible repeat (first | refine blk_drewN ?_ _ | refine blk_drew ?_ | refine blk_alloc ?_ _)); exact BK480.out)) : gb480 ≠ gb492)); have n14_ := Aside0.mk ((by rw [hg]; exact Nat.ne_of_gt (blk_lt (g := gb480) (o := .cells #[.int .i64 t477, .int .i64 t478] 23 (0, 0)) (by (with_reducible repeat (first | refine blk_drewN ?_ _ | refine blk_drew ?_ | refine blk_alloc ?_ _)); exact BK480.out)) : gb492 ≠ gb480)); have n15_ := Aside0.mk ((by rw [hg]; exact Nat.ne_of_lt (blk_lt (g := gb484) (o := .cells #[.int .i64 t481, .int .i64 t482] 23 (0, 0)) (by (with_reducible repeat (first | refine blk_drewN ?_ _ | refine blk_drew ?_ | refine blk_alloc ?_ _)); exact BK484.out)) : gb484 ≠ gb492)); have n16_ := Aside0.mk ((by rw [hg]; exact Nat.ne_of_gt (blk_lt (g := gb484) (o := .cells #[.int .i64 t481, .int .i64 t482] 23 (0, 0)) (by (with_reducible repeat (first | refine blk_drewN ?_ _ | refine blk_drew ?_ | refine blk_alloc ?_ _)); exact BK484.out)) : gb492 ≠ gb484)); have n17_ := Aside0.mk ((by rw [hg]; exact Nat.ne_of_lt (blk_lt (g := gb488) (o := .cells #[.int .i64 t485, .int .i64 t486] 23 (0, 0)) (by (with_reducible repeat (first | refine blk_drewN ?_ _ | refine blk_drew ?_ | refine blk_alloc ?_ _)); exact BK488.out)) : gb488 ≠ gb492)); have n18_ := Aside0.mk ((by rw [hg]; exact Nat.ne_of_gt (blk_lt (g := gb488) (o := .cells #[.int .i64 t485, .int .i64 t486] 23 (0, 0)) (by (with_reducible repeat (first | refine blk_drewN ?_ _ | refine blk_drew ?_ | refine blk_alloc ?_ _)); exact BK488.out)) : gb492 ≠ gb488)); clear BK475; clear BK476; clear BK480; clear BK484; clear BK488; clear HB; have BK475 := n0_; have BK476 := n1_; have BK480 := n2_; have BK484 := n3_; have BK488 := n4_; have HB := n5_; have BK492 := n6_; have GW492 := n7_; have GE492 := n8_; have NB475_492 := n9_; have NB492_475 := n10_; have NB476_492 := n11_; have NB492_476 := n12_; have NB480_492 := n13_; have NB492_480 := n14_; have NB484_492 := n15_; have NB492_484 := n16_; have NB488_492 := n17_; have NB492_488 := n18_; clear n0_ n1_ n2_ n3_ n4_ n5_ n6_ n7_ n8_ n9_ n10_ n11_ n12_ n13_ n14_ n15_ n16_ n17_ n18_; clear hb hbox hg; have hnb39 := NB492_475.out; have hnc39 := NB475_492.out; have hnb40 := NB492_476.out; have hnc40 := NB476_492.out; have hnb41 := NB492_480.out; have hnc41 := NB480_492.out; have hnb42 := NB492_484.out; have hnc42 := NB484_492.out; have hnb43 := NB492_488.out; have hnc43 := NB488_492.out; have hcz44_0 : w38.cell? ⟨gb492, 0, none⟩ = some (.int .i64 0) := (blk_cell BK492.out 0).trans rfl; have hcz44_1 : w38.cell? ⟨gb492, 1, none⟩ = some (.int .i64 0) := (blk_cell BK492.out 1).trans rfl; have hfz44_0 := blk_frozen BK492.out 0; have hfz44_1 := blk_frozen BK492.out 1))
  (try simp only [Act.put, List.setIfInBounds_toArray, List.set_cons_zero, List.set_cons_succ])
  go_cut [58] (fun v58 wc => ∃ (kq : Nat) (x58_6 : Bool), v58 = .bool x58_6 ∧ Aside0 (payrolllaw1_agrees.j0 kq x58_6 a0_0 a0_1 a1_0 a1_1 = some true) ∧ Aside0 (kq ≤ k) ∧ Aside0 (wc.heap[gb475]? = some (.cells #[.int .i64 a0_0, .int .i64 a0_1] 23 (0, 0))) ∧ Aside0 (wc.heap[gb476]? = some (.cells #[.int .i64 a1_0, .int .i64 a1_1] 23 (0, 0))) ∧ Aside0 (wc.heap[gb480]? = some (.cells #[.int .i64 t477, .int .i64 t478] 23 (0, 0))) ∧ Aside0 (wc.heap[gb484]? = some (.cells #[.int .i64 t481, .int .i64 t482] 23 (0, 0))) ∧ Aside0 (wc.heap[gb488]? = some (.cells #[.int .i64 t485, .int .i64 t486] 23 (0, 0))) ∧ Aside0 (wc.heap[gb492]? = some (.cells #[.int .i64 t489, .int .i64 t490] 23 (0, 0))) ∧ Aside0 (Below w.heap.size w wc))
  case first =>
    have H := HC7.out
    clear HC7
    by_cases c45 : (!(t477 == t481) || (!(t478 == t482))) = true
    · rw [if_pos c45] at H
      have c45b0 : (!(t477 == t481) || (!(t478 == t482))) = true := c45
      clear c45
      (first | rw [c45b0] | (simp only [i64_w, i32_w]; rw [c45b0]) | skip)
      have H' := Aside0.mk H
      clear H
      have hnb46 := NB480_475.out
      have hnc46 := NB475_480.out
      have hnb47 := NB480_476.out
      have hnc47 := NB476_480.out
      have hnb48 := NB480_484.out
      have hnc48 := NB484_480.out
      have hnb49 := NB480_488.out
      have hnc49 := NB488_480.out
      have hnb50 := NB480_492.out
      have hnc50 := NB492_480.out
      have hcz51_0 : w38.cell? ⟨gb480, 0, none⟩ = some (.int .i64 t477) := (blk_cell BK480.out 0).trans rfl
      have hcz51_1 : w38.cell? ⟨gb480, 1, none⟩ = some (.int .i64 t478) := (blk_cell BK480.out 1).trans rfl
      have hfz51_0 := blk_frozen BK480.out 0
      have hfz51_1 := blk_frozen BK480.out 1
      have hnb52 := NB484_475.out
      have hnc52 := NB475_484.out
      have hnb53 := NB484_476.out
      have hnc53 := NB476_484.out
      have hnb54 := NB484_488.out
      have hnc54 := NB488_484.out
      have hnb55 := NB484_492.out
      have hnc55 := NB492_484.out
      have hcz56_0 : w38.cell? ⟨gb484, 0, none⟩ = some (.int .i64 t481) := (blk_cell BK484.out 0).trans rfl
      have hcz56_1 : w38.cell? ⟨gb484, 1, none⟩ = some (.int .i64 t482) := (blk_cell BK484.out 1).trans rfl
      have hfz56_0 := blk_frozen BK484.out 0
      have hfz56_1 := blk_frozen BK484.out 1
      go_wp2
      go_meet
      case rel => exact ⟨_, (true), (by first | rfl | (simp; done) | (simp [*]; done)), H', ⟨by first | omega | exact Nat.le_refl _⟩, ⟨by (with_reducible repeat (first | refine blk_drewN ?_ _ | refine blk_drew ?_ | refine blk_alloc ?_ _)); refine blk_far ?_ NB475_492.out _; (with_reducible repeat (first | refine blk_drewN ?_ _ | refine blk_drew ?_ | refine blk_alloc ?_ _)); refine blk_far ?_ NB475_492.out _; (with_reducible repeat (first | refine blk_drewN ?_ _ | refine blk_drew ?_ | refine blk_alloc ?_ _)); exact BK475.out⟩, ⟨by (with_reducible repeat (first | refine blk_drewN ?_ _ | refine blk_drew ?_ | refine blk_alloc ?_ _)); refine blk_far ?_ NB476_492.out _; (with_reducible repeat (first | refine blk_drewN ?_ _ | refine blk_drew ?_ | refine blk_alloc ?_ _)); refine blk_far ?_ NB476_492.out _; (with_reducible repeat (first | refine blk_drewN ?_ _ | refine blk_drew ?_ | refine blk_alloc ?_ _)); exact BK476.out⟩, ⟨by (with_reducible repeat (first | refine blk_drewN ?_ _ | refine blk_drew ?_ | refine blk_alloc ?_ _)); refine blk_far ?_ NB480_492.out _; (with_reducible repeat (first | refine blk_drewN ?_ _ | refine blk_drew ?_ | refine blk_alloc ?_ _)); refine blk_far ?_ NB480_492.out _; (with_reducible repeat (first | refine blk_drewN ?_ _ | refine blk_drew ?_ | refine blk_alloc ?_ _)); exact BK480.out⟩, ⟨by (with_reducible repeat (first | refine blk_drewN ?_ _ | refine blk_drew ?_ | refine blk_alloc ?_ _)); refine blk_far ?_ NB484_492.out _; (with_reducible repeat (first | refine blk_drewN ?_ _ | refine blk_drew ?_ | refine blk_alloc ?_ _)); refine blk_far ?_ NB484_492.out _; (with_reducible repeat (first | refine blk_drewN ?_ _ | refine blk_drew ?_ | refine blk_alloc ?_ _)); exact BK484.out⟩, ⟨by (with_reducible repeat (first | refine blk_drewN ?_ _ | refine blk_drew ?_ | refine blk_alloc ?_ _)); refine blk_far ?_ NB488_492.out _; (with_reducible repeat (first | refine blk_drewN ?_ _ | refine blk_drew ?_ | refine blk_alloc ?_ _)); refine blk_far ?_ NB488_492.out _; (with_reducible repeat (first | refine blk_drewN ?_ _ | refine blk_drew ?_ | refine blk_alloc ?_ _)); exact BK488.out⟩, ⟨by (with_reducible repeat (first | refine blk_drewN ?_ _ | refine blk_drew ?_ | refine blk_alloc ?_ _)); refine blk_put (cs := #[.int .i64 t489, .int .i64 0]) ?_ 1 _ rfl; (with_reducible repeat (first | refine blk_drewN ?_ _ | refine blk_drew ?_ | refine blk_alloc ?_ _)); refine blk_put (cs := #[.int .i64 0, .int .i64 0]) ?_ 0 _ rfl; (with_reducible repeat (first | refine blk_drewN ?_ _ | refine blk_drew ?_ | refine blk_alloc ?_ _)); exact BK492.out⟩, ⟨by repeat (first | (with_reducible first | exact HB.out | apply below_alloc | apply pw_below_drewN | apply below_drew1 | refine below_set ?_ GE475.out | refine below_set ?_ GE476.out | refine below_set ?_ GE480.out | refine below_set ?_ GE484.out | refine below_set ?_ GE488.out | refine below_set ?_ GE492.out) | exact HB.out)⟩⟩
    · rw [if_neg c45] at H
      have c45b0 : (!(t477 == t481) || (!(t478 == t482))) = false := by simpa using c45
      clear c45
      (first | rw [c45b0] | (simp only [i64_w, i32_w]; rw [c45b0]) | skip)
      by_cases c57 : t479 = t483
      · rw [if_pos c57] at H
        have c57b0 : (t479 == t483) = true := beq_iff_eq.mpr c57
        have c57b1 : (t479 != t483) = false := bne_eq_false_iff_eq.mpr c57
        clear c57
        by_cases c58 : (!(t485 == t489) || (!(t486 == t490))) = true
        · rw [if_pos c58] at H
          have c58b0 : (!(t485 == t489) || (!(t486 == t490))) = true := c58
          clear c58
          have H' := Aside0.mk H
          clear H
          have hnb59 := NB480_475.out
          have hnc59 := NB475_480.out
          have hnb60 := NB480_476.out
          have hnc60 := NB476_480.out
          have hnb61 := NB480_484.out
          have hnc61 := NB484_480.out
          have hnb62 := NB480_488.out
          have hnc62 := NB488_480.out
          have hnb63 := NB480_492.out
          have hnc63 := NB492_480.out
          have hcz64_0 : w38.cell? ⟨gb480, 0, none⟩ = some (.int .i64 t477) := (blk_cell BK480.out 0).trans rfl
          have hcz64_1 : w38.cell? ⟨gb480, 1, none⟩ = some (.int .i64 t478) := (blk_cell BK480.out 1).trans rfl
          have hfz64_0 := blk_frozen BK480.out 0
          have hfz64_1 := blk_frozen BK480.out 1
          have hnb65 := NB484_475.out
          have hnc65 := NB475_484.out
          have hnb66 := NB484_476.out
          have hnc66 := NB476_484.out
          have hnb67 := NB484_488.out
          have hnc67 := NB488_484.out
          have hnb68 := NB484_492.out
          have hnc68 := NB492_484.out
          have hcz69_0 : w38.cell? ⟨gb484, 0, none⟩ = some (.int .i64 t481) := (blk_cell BK484.out 0).trans rfl
          have hcz69_1 : w38.cell? ⟨gb484, 1, none⟩ = some (.int .i64 t482) := (blk_cell BK484.out 1).trans rfl
          have hfz69_0 := blk_frozen BK484.out 0
          have hfz69_1 := blk_frozen BK484.out 1
          have hnb70 := NB488_475.out
          have hnc70 := NB475_488.out
          have hnb71 := NB488_476.out
          have hnc71 := NB476_488.out
          have hnb72 := NB488_492.out
          have hnc72 := NB492_488.out
          have hcz73_0 : w38.cell? ⟨gb488, 0, none⟩ = some (.int .i64 t485) := (blk_cell BK488.out 0).trans rfl
          have hcz73_1 : w38.cell? ⟨gb488, 1, none⟩ = some (.int .i64 t486) := (blk_cell BK488.out 1).trans rfl
          have hfz73_0 := blk_frozen BK488.out 0
          have hfz73_1 := blk_frozen BK488.out 1
          have hnb74 := NB492_475.out
          have hnc74 := NB475_492.out
          have hnb75 := NB492_476.out
          have hnc75 := NB476_492.out
          have hcz76_0 : w38.cell? ⟨gb492, 0, none⟩ = some (.int .i64 0) := (blk_cell BK492.out 0).trans rfl
          have hcz76_1 : w38.cell? ⟨gb492, 1, none⟩ = some (.int .i64 0) := (blk_cell BK492.out 1).trans rfl
          have hfz76_0 := blk_frozen BK492.out 0
          have hfz76_1 := blk_frozen BK492.out 1
          go_wp2
          go_meet
          case rel => exact ⟨_, (true), (by first | rfl | (simp; done) | (simp [*]; done)), H', ⟨by first | omega | exact Nat.le_refl _⟩, ⟨by (with_reducible repeat (first | refine blk_drewN ?_ _ | refine blk_drew ?_ | refine blk_alloc ?_ _)); refine blk_far ?_ NB475_492.out _; (with_reducible repeat (first | refine blk_drewN ?_ _ | refine blk_drew ?_ | refine blk_alloc ?_ _)); refine blk_far ?_ NB475_492.out _; (with_reducible repeat (first | refine blk_drewN ?_ _ | refine blk_drew ?_ | refine blk_alloc ?_ _)); exact BK475.out⟩, ⟨by (with_reducible repeat (first | refine blk_drewN ?_ _ | refine blk_drew ?_ | refine blk_alloc ?_ _)); refine blk_far ?_ NB476_492.out _; (with_reducible repeat (first | refine blk_drewN ?_ _ | refine blk_drew ?_ | refine blk_alloc ?_ _)); refine blk_far ?_ NB476_492.out _; (with_reducible repeat (first | refine blk_drewN ?_ _ | refine blk_drew ?_ | refine blk_alloc ?_ _)); exact BK476.out⟩, ⟨by (with_reducible repeat (first | refine blk_drewN ?_ _ | refine blk_drew ?_ | refine blk_alloc ?_ _)); refine blk_far ?_ NB480_492.out _; (with_reducible repeat (first | refine blk_drewN ?_ _ | refine blk_drew ?_ | refine blk_alloc ?_ _)); refine blk_far ?_ NB480_492.out _; (with_reducible repeat (first | refine blk_drewN ?_ _ | refine blk_drew ?_ | refine blk_alloc ?_ _)); exact BK480.out⟩, ⟨by (with_reducible repeat (first | refine blk_drewN ?_ _ | refine blk_drew ?_ | refine blk_alloc ?_ _)); refine blk_far ?_ NB484_492.out _; (with_reducible repeat (first | refine blk_drewN ?_ _ | refine blk_drew ?_ | refine blk_alloc ?_ _)); refine blk_far ?_ NB484_492.out _; (with_reducible repeat (first | refine blk_drewN ?_ _ | refine blk_drew ?_ | refine blk_alloc ?_ _)); exact BK484.out⟩, ⟨by (with_reducible repeat (first | refine blk_drewN ?_ _ | refine blk_drew ?_ | refine blk_alloc ?_ _)); refine blk_far ?_ NB488_492.out _; (with_reducible repeat (first | refine blk_drewN ?_ _ | refine blk_drew ?_ | refine blk_alloc ?_ _)); refine blk_far ?_ NB488_492.out _; (with_reducible repeat (first | refine blk_drewN ?_ _ | refine blk_drew ?_ | refine blk_alloc ?_ _)); exact BK488.out⟩, ⟨by (with_reducible repeat (first | refine blk_drewN ?_ _ | refine blk_drew ?_ | refine blk_alloc ?_ _)); refine blk_put (cs := #[.int .i64 t489, .int .i64 0]) ?_ 1 _ rfl; (with_reducible repeat (first | refine blk_drewN ?_ _ | refine blk_drew ?_ | refine blk_alloc ?_ _)); refine blk_put (cs := #[.int .i64 0, .int .i64 0]) ?_ 0 _ rfl; (with_reducible repeat (first | refine blk_drewN ?_ _ | refine blk_drew ?_ | refine blk_alloc ?_ _)); exact BK492.out⟩, ⟨by repeat (first | (with_reducible first | exact HB.out | apply below_alloc | apply pw_below_drewN | apply below_drew1 | refine below_set ?_ GE475.out | refine below_set ?_ GE476.out | refine below_set ?_ GE480.out | refine below_set ?_ GE484.out | refine below_set ?_ GE488.out | refine below_set ?_ GE492.out) | exact HB.out)⟩⟩
        · rw [if_neg c58] at H
          have c58b0 : (!(t485 == t489) || (!(t486 == t490))) = false := by simpa using c58
          clear c58
          have H' := Aside0.mk H
          clear H
          have hnb77 := NB480_475.out
          have hnc77 := NB475_480.out
          have hnb78 := NB480_476.out
          have hnc78 := NB476_480.out
          have hnb79 := NB480_484.out
          have hnc79 := NB484_480.out
          have hnb80 := NB480_488.out
          have hnc80 := NB488_480.out
          have hnb81 := NB480_492.out
          have hnc81 := NB492_480.out
          have hcz82_0 : w38.cell? ⟨gb480, 0, none⟩ = some (.int .i64 t477) := (blk_cell BK480.out 0).trans rfl
          have hcz82_1 : w38.cell? ⟨gb480, 1, none⟩ = some (.int .i64 t478) := (blk_cell BK480.out 1).trans rfl
          have hfz82_0 := blk_frozen BK480.out 0
          have hfz82_1 := blk_frozen BK480.out 1
          have hnb83 := NB484_475.out
          have hnc83 := NB475_484.out
          have hnb84 := NB484_476.out
          have hnc84 := NB476_484.out
          have hnb85 := NB484_488.out
          have hnc85 := NB488_484.out
          have hnb86 := NB484_492.out
          have hnc86 := NB492_484.out
          have hcz87_0 : w38.cell? ⟨gb484, 0, none⟩ = some (.int .i64 t481) := (blk_cell BK484.out 0).trans rfl
          have hcz87_1 : w38.cell? ⟨gb484, 1, none⟩ = some (.int .i64 t482) := (blk_cell BK484.out 1).trans rfl
          have hfz87_0 := blk_frozen BK484.out 0
          have hfz87_1 := blk_frozen BK484.out 1
          have hnb88 := NB488_475.out
          have hnc88 := NB475_488.out
          have hnb89 := NB488_476.out
          have hnc89 := NB476_488.out
          have hnb90 := NB488_492.out
          have hnc90 := NB492_488.out
          have hcz91_0 : w38.cell? ⟨gb488, 0, none⟩ = some (.int .i64 t485) := (blk_cell BK488.out 0).trans rfl
          have hcz91_1 : w38.cell? ⟨gb488, 1, none⟩ = some (.int .i64 t486) := (blk_cell BK488.out 1).trans rfl
          have hfz91_0 := blk_frozen BK488.out 0
          have hfz91_1 := blk_frozen BK488.out 1
          have hnb92 := NB492_475.out
          have hnc92 := NB475_492.out
          have hnb93 := NB492_476.out
          have hnc93 := NB476_492.out
          have hcz94_0 : w38.cell? ⟨gb492, 0, none⟩ = some (.int .i64 0) := (blk_cell BK492.out 0).trans rfl
          have hcz94_1 : w38.cell? ⟨gb492, 1, none⟩ = some (.int .i64 0) := (blk_cell BK492.out 1).trans rfl
          have hfz94_0 := blk_frozen BK492.out 0
          have hfz94_1 := blk_frozen BK492.out 1
          go_wp2
          go_meet
          case rel => exact ⟨_, ((t487 != t491)), (by first | rfl | (simp; done) | (simp [*]; done)), H', ⟨by first | omega | exact Nat.le_refl _⟩, ⟨by (with_reducible repeat (first | refine blk_drewN ?_ _ | refine blk_drew ?_ | refine blk_alloc ?_ _)); refine blk_far ?_ NB475_492.out _; (with_reducible repeat (first | refine blk_drewN ?_ _ | refine blk_drew ?_ | refine blk_alloc ?_ _)); refine blk_far ?_ NB475_492.out _; (with_reducible repeat (first | refine blk_drewN ?_ _ | refine blk_drew ?_ | refine blk_alloc ?_ _)); exact BK475.out⟩, ⟨by (with_reducible repeat (first | refine blk_drewN ?_ _ | refine blk_drew ?_ | refine blk_alloc ?_ _)); refine blk_far ?_ NB476_492.out _; (with_reducible repeat (first | refine blk_drewN ?_ _ | refine blk_drew ?_ | refine blk_alloc ?_ _)); refine blk_far ?_ NB476_492.out _; (with_reducible repeat (first | refine blk_drewN ?_ _ | refine blk_drew ?_ | refine blk_alloc ?_ _)); exact BK476.out⟩, ⟨by (with_reducible repeat (first | refine blk_drewN ?_ _ | refine blk_drew ?_ | refine blk_alloc ?_ _)); refine blk_far ?_ NB480_492.out _; (with_reducible repeat (first | refine blk_drewN ?_ _ | refine blk_drew ?_ | refine blk_alloc ?_ _)); refine blk_far ?_ NB480_492.out _; (with_reducible repeat (first | refine blk_drewN ?_ _ | refine blk_drew ?_ | refine blk_alloc ?_ _)); exact BK480.out⟩, ⟨by (with_reducible repeat (first | refine blk_drewN ?_ _ | refine blk_drew ?_ | refine blk_alloc ?_ _)); refine blk_far ?_ NB484_492.out _; (with_reducible repeat (first | refine blk_drewN ?_ _ | refine blk_drew ?_ | refine blk_alloc ?_ _)); refine blk_far ?_ NB484_492.out _; (with_reducible repeat (first | refine blk_drewN ?_ _ | refine blk_drew ?_ | refine blk_alloc ?_ _)); exact BK484.out⟩, ⟨by (with_reducible repeat (first | refine blk_drewN ?_ _ | refine blk_drew ?_ | refine blk_alloc ?_ _)); refine blk_far ?_ NB488_492.out _; (with_reducible repeat (first | refine blk_drewN ?_ _ | refine blk_drew ?_ | refine blk_alloc ?_ _)); refine blk_far ?_ NB488_492.out _; (with_reducible repeat (first | refine blk_drewN ?_ _ | refine blk_drew ?_ | refine blk_alloc ?_ _)); exact BK488.out⟩, ⟨by (with_reducible repeat (first | refine blk_drewN ?_ _ | refine blk_drew ?_ | refine blk_alloc ?_ _)); refine blk_put (cs := #[.int .i64 t489, .int .i64 0]) ?_ 1 _ rfl; (with_reducible repeat (first | refine blk_drewN ?_ _ | refine blk_drew ?_ | refine blk_alloc ?_ _)); refine blk_put (cs := #[.int .i64 0, .int .i64 0]) ?_ 0 _ rfl; (with_reducible repeat (first | refine blk_drewN ?_ _ | refine blk_drew ?_ | refine blk_alloc ?_ _)); exact BK492.out⟩, ⟨by repeat (first | (with_reducible first | exact HB.out | apply below_alloc | apply pw_below_drewN | apply below_drew1 | refine below_set ?_ GE475.out | refine below_set ?_ GE476.out | refine below_set ?_ GE480.out | refine below_set ?_ GE484.out | refine below_set ?_ GE488.out | refine below_set ?_ GE492.out) | exact HB.out)⟩⟩
      · rw [if_neg c57] at H
        have c57b0 : (t479 == t483) = false := beq_eq_false_iff_ne.mpr c57
        have c57b1 : (t479 != t483) = true := bne_iff_ne.mpr c57
        have H' := Aside0.mk H
        clear H
        have hnb95 := NB480_475.out
        have hnc95 := NB475_480.out
        have hnb96 := NB480_476.out
        have hnc96 := NB476_480.out
        have hnb97 := NB480_484.out
        have hnc97 := NB484_480.out
        have hnb98 := NB480_488.out
        have hnc98 := NB488_480.out
        have hnb99 := NB480_492.out
        have hnc99 := NB492_480.out
        have hcz100_0 : w38.cell? ⟨gb480, 0, none⟩ = some (.int .i64 t477) := (blk_cell BK480.out 0).trans rfl
        have hcz100_1 : w38.cell? ⟨gb480, 1, none⟩ = some (.int .i64 t478) := (blk_cell BK480.out 1).trans rfl
        have hfz100_0 := blk_frozen BK480.out 0
        have hfz100_1 := blk_frozen BK480.out 1
        have hnb101 := NB484_475.out
        have hnc101 := NB475_484.out
        have hnb102 := NB484_476.out
        have hnc102 := NB476_484.out
        have hnb103 := NB484_488.out
        have hnc103 := NB488_484.out
        have hnb104 := NB484_492.out
        have hnc104 := NB492_484.out
        have hcz105_0 : w38.cell? ⟨gb484, 0, none⟩ = some (.int .i64 t481) := (blk_cell BK484.out 0).trans rfl
        have hcz105_1 : w38.cell? ⟨gb484, 1, none⟩ = some (.int .i64 t482) := (blk_cell BK484.out 1).trans rfl
        have hfz105_0 := blk_frozen BK484.out 0
        have hfz105_1 := blk_frozen BK484.out 1
        go_wp2
        go_meet
        case rel => exact ⟨_, (true), (by first | rfl | (simp; done) | (simp [*]; done)), H', ⟨by first | omega | exact Nat.le_refl _⟩, ⟨by (with_reducible repeat (first | refine blk_drewN ?_ _ | refine blk_drew ?_ | refine blk_alloc ?_ _)); refine blk_far ?_ NB475_492.out _; (with_reducible repeat (first | refine blk_drewN ?_ _ | refine blk_drew ?_ | refine blk_alloc ?_ _)); refine blk_far ?_ NB475_492.out _; (with_reducible repeat (first | refine blk_drewN ?_ _ | refine blk_drew ?_ | refine blk_alloc ?_ _)); exact BK475.out⟩, ⟨by (with_reducible repeat (first | refine blk_drewN ?_ _ | refine blk_drew ?_ | refine blk_alloc ?_ _)); refine blk_far ?_ NB476_492.out _; (with_reducible repeat (first | refine blk_drewN ?_ _ | refine blk_drew ?_ | refine blk_alloc ?_ _)); refine blk_far ?_ NB476_492.out _; (with_reducible repeat (first | refine blk_drewN ?_ _ | refine blk_drew ?_ | refine blk_alloc ?_ _)); exact BK476.out⟩, ⟨by (with_reducible repeat (first | refine blk_drewN ?_ _ | refine blk_drew ?_ | refine blk_alloc ?_ _)); refine blk_far ?_ NB480_492.out _; (with_reducible repeat (first | refine blk_drewN ?_ _ | refine blk_drew ?_ | refine blk_alloc ?_ _)); refine blk_far ?_ NB480_492.out _; (with_reducible repeat (first | refine blk_drewN ?_ _ | refine blk_drew ?_ | refine blk_alloc ?_ _)); exact BK480.out⟩, ⟨by (with_reducible repeat (first | refine blk_drewN ?_ _ | refine blk_drew ?_ | refine blk_alloc ?_ _)); refine blk_far ?_ NB484_492.out _; (with_reducible repeat (first | refine blk_drewN ?_ _ | refine blk_drew ?_ | refine blk_alloc ?_ _)); refine blk_far ?_ NB484_492.out _; (with_reducible repeat (first | refine blk_drewN ?_ _ | refine blk_drew ?_ | refine blk_alloc ?_ _)); exact BK484.out⟩, ⟨by (with_reducible repeat (first | refine blk_drewN ?_ _ | refine blk_drew ?_ | refine blk_alloc ?_ _)); refine blk_far ?_ NB488_492.out _; (with_reducible repeat (first | refine blk_drewN ?_ _ | refine blk_drew ?_ | refine blk_alloc ?_ _)); refine blk_far ?_ NB488_492.out _; (with_reducible repeat (first | refine blk_drewN ?_ _ | refine blk_drew ?_ | refine blk_alloc ?_ _)); exact BK488.out⟩, ⟨by (with_reducible repeat (first | refine blk_drewN ?_ _ | refine blk_drew ?_ | refine blk_alloc ?_ _)); refine blk_put (cs := #[.int .i64 t489, .int .i64 0]) ?_ 1 _ rfl; (with_reducible repeat (first | refine blk_drewN ?_ _ | refine blk_drew ?_ | refine blk_alloc ?_ _)); refine blk_put (cs := #[.int .i64 0, .int .i64 0]) ?_ 0 _ rfl; (with_reducible repeat (first | refine blk_drewN ?_ _ | refine blk_drew ?_ | refine blk_alloc ?_ _)); exact BK492.out⟩, ⟨by repeat (first | (with_reducible first | exact HB.out | apply below_alloc | apply pw_below_drewN | apply below_drew1 | refine below_set ?_ GE475.out | refine below_set ?_ GE476.out | refine below_set ?_ GE480.out | refine below_set ?_ GE484.out | refine below_set ?_ GE488.out | refine below_set ?_ GE492.out) | exact HB.out)⟩⟩
  case rest =>
    clear HC7
    try clear c1
    try clear c2
    try clear p2
    try clear c3
    try clear c4
    try clear c5
    try clear c6
    try clear c7
    try clear c8
    try clear c9
    try clear c10
    try clear c15
    try clear c16
    try clear c22
    try clear c23
    try clear c24
    try clear c27
    try clear c29
    try clear c30
    try clear c31
    try clear c32
    try clear c33
    try clear c39
    try clear c40
    try clear c41
    try clear c42
    try clear c43
    try clear c45
    try clear c45b0
    try clear c46
    try clear c47
    try clear c48
    try clear c49
    try clear c50
    try clear c52
    try clear c53
    try clear c54
    try clear c55
    try clear c57
    try clear c57b0
    try clear c57b1
    try clear c58
    try clear c58b0
    try clear c59
    try clear c60
    try clear c61
    try clear c62
    try clear c63
    try clear c65
    try clear c66
    try clear c67
    try clear c68
    try clear c70
    try clear c71
    try clear c72
    try clear c74
    try clear c75
    try clear c77
    try clear c78
    try clear c79
    try clear c80
    try clear c81
    try clear c83
    try clear c84
    try clear c85
    try clear c86
    try clear c88
    try clear c89
    try clear c90
    try clear c92
    try clear c93
    try clear c95
    try clear c96
    try clear c97
    try clear c98
    try clear c99
    try clear c101
    try clear c102
    try clear c103
    try clear c104
    try clear hcz100_0
    try clear hcz100_1
    try clear hcz105_0
    try clear hcz105_1
    try clear hcz11_0
    try clear hcz11_1
    try clear hcz12_0
    try clear hcz12_1
    try clear hcz17_0
    try clear hcz17_1
    try clear hcz18_0
    try clear hcz18_1
    try clear hcz19_0
    try clear hcz19_1
    try clear hcz25_0
    try clear hcz25_1
    try clear hcz26_0
    try clear hcz26_1
    try clear hcz27_0
    try clear hcz27_1
    try clear hcz34_0
    try clear hcz34_1
    try clear hcz35_0
    try clear hcz35_1
    try clear hcz36_0
    try clear hcz36_1
    try clear hcz44_0
    try clear hcz44_1
    try clear hcz51_0
    try clear hcz51_1
    try clear hcz56_0
    try clear hcz56_1
    try clear hcz64_0
    try clear hcz64_1
    try clear hcz69_0
    try clear hcz69_1
    try clear hcz73_0
    try clear hcz73_1
    try clear hcz76_0
    try clear hcz76_1
    try clear hcz82_0
    try clear hcz82_1
    try clear hcz87_0
    try clear hcz87_1
    try clear hcz91_0
    try clear hcz91_1
    try clear hcz94_0
    try clear hcz94_1
    try clear hfz100_0
    try clear hfz100_1
    try clear hfz105_0
    try clear hfz105_1
    try clear hfz11_0
    try clear hfz11_1
    try clear hfz12_0
    try clear hfz12_1
    try clear hfz17_0
    try clear hfz17_1
    try clear hfz18_0
    try clear hfz18_1
    try clear hfz19_0
    try clear hfz19_1
    try clear hfz25_0
    try clear hfz25_1
    try clear hfz26_0
    try clear hfz26_1
    try clear hfz27_0
    try clear hfz27_1
    try clear hfz34_0
    try clear hfz34_1
    try clear hfz35_0
    try clear hfz35_1
    try clear hfz36_0
    try clear hfz36_1
    try clear hfz44_0
    try clear hfz44_1
    try clear hfz51_0
    try clear hfz51_1
    try clear hfz56_0
    try clear hfz56_1
    try clear hfz64_0
    try clear hfz64_1
    try clear hfz69_0
    try clear hfz69_1
    try clear hfz73_0
    try clear hfz73_1
    try clear hfz76_0
    try clear hfz76_1
    try clear hfz82_0
    try clear hfz82_1
    try clear hfz87_0
    try clear hfz87_1
    try clear hfz91_0
    try clear hfz91_1
    try clear hfz94_0
    try clear hfz94_1
    obtain ⟨kq, x58_6, rfl, HA, HJ6, BK475, BK476, BK480, BK484, BK488, BK492, HB⟩ := hcut
    cases kq with
    | zero => exact absurd HA.out (by simp [payrolllaw1_agrees.j0])
    | succ kj6 =>
      have H := HA.out
      clear HA
      simp only [payrolllaw1_agrees.j0] at H
      by_cases c106 : x58_6 = true
      · subst c106
        have H1 : (some false) = some true := by rw [if_pos rfl] at H; exact H
        clear H
        have H := H1
        clear H1
        exact absurd H (by simp)
      · replace c106 := Bool.eq_false_iff.mpr c106
        subst c106
        have H1 : ((ratio_Mul.f kj6 a0_0 a0_1 a1_0 a1_1).bind fun bt493 => ((payrollref1_Mul.f kj6 a0_0 a0_1 a1_0 a1_1).bind fun bt496 => ((ratio_Div.f kj6 a0_0 a0_1 a1_0 a1_1).bind fun bt499 => ((payrollref1_Div.f kj6 a0_0 a0_1 a1_0 a1_1).bind fun bt502 => ((ratio_Neg.f kj6 a0_0 a0_1).bind fun bt505 => ((payrollref1_Neg.f kj6 a0_0 a0_1).bind fun bt509 => (if (bt493.1 == bt496.1 && (bt493.2.1 == bt496.2.1)) = true then (if bt493.2.2 = bt496.2.2 then (if (bt499.1 == bt502.1 && (bt499.2.1 == bt502.2.1)) = true then (if bt499.2.2 = bt502.2.2 then (if (bt505.1 == bt509.1 && (bt505.2.1 == bt509.2.1)) = true then (if bt505.2.2 = bt509.2.2 then ((ratio_Valid.f kj6 a0_0 a0_1).bind fun t513 => ((payrollref1_Valid.f kj6 a0_0 a0_1).bind fun t514 => (if (t513 == t514) = true then ((ratio_Compare.f kj6 a0_0 a0_1 a1_0 a1_1).bind fun t515 => ((payrollref1_Compare.f kj6 a0_0 a0_1 a1_0 a1_1).bind fun t516 => (if t515 = t516 then ((ratio_Floor.f kj6 a0_0 a0_1).bind fun t517 => ((payrollref1_Floor.f kj6 a0_0 a0_1).bind fun t518 => (some (t517 == t518)))) else (some false)))) else (some false)))) else (some false)) else (some false)) else (some false)) else (some false)) else (some false)) else (some false)))))))) = some true := by rw [if_neg (show ¬ (false = true) by decide)] at H; exact H
        clear H
        have H := H1
        clear H1
        replace H := Option.bind_eq_some_iff.mp H
        obtain ⟨⟨t493, t494, t495⟩, A1070, H⟩ := H
        replace H : ((payrollref1_Mul.f kj6 a0_0 a0_1 a1_0 a1_1).bind fun bt496 => ((ratio_Div.f kj6 a0_0 a0_1 a1_0 a1_1).bind fun bt499 => ((payrollref1_Div.f kj6 a0_0 a0_1 a1_0 a1_1).bind fun bt502 => ((ratio_Neg.f kj6 a0_0 a0_1).bind fun bt505 => ((payrollref1_Neg.f kj6 a0_0 a0_1).bind fun bt509 => (if (t493 == bt496.1 && (t494 == bt496.2.1)) = true then (if t495 = bt496.2.2 then (if (bt499.1 == bt502.1 && (bt499.2.1 == bt502.2.1)) = true then (if bt499.2.2 = bt502.2.2 then (if (bt505.1 == bt509.1 && (bt505.2.1 == bt509.2.1)) = true then (if bt505.2.2 = bt509.2.2 then ((ratio_Valid.f kj6 a0_0 a0_1).bind fun t513 => ((payrollref1_Valid.f kj6 a0_0 a0_1).bind fun t514 => (if (t513 == t514) = true then ((ratio_Compare.f kj6 a0_0 a0_1 a1_0 a1_1).bind fun t515 => ((payrollref1_Compare.f kj6 a0_0 a0_1 a1_0 a1_1).bind fun t516 => (if t515 = t516 then ((ratio_Floor.f kj6 a0_0 a0_1).bind fun t517 => ((payrollref1_Floor.f kj6 a0_0 a0_1).bind fun t518 => (some (t517 == t518)))) else (some false)))) else (some false)))) else (some false)) else (some false)) else (some false)) else (some false)) else (some false)) else (some false))))))) = some true := H
        have A107 := Aside0.mk A1070
        clear A1070
        replace H := Option.bind_eq_some_iff.mp H
        obtain ⟨⟨t496, t497, t498⟩, A1080, H⟩ := H
        replace H : ((ratio_Div.f kj6 a0_0 a0_1 a1_0 a1_1).bind fun bt499 => ((payrollref1_Div.f kj6 a0_0 a0_1 a1_0 a1_1).bind fun bt502 => ((ratio_Neg.f kj6 a0_0 a0_1).bind fun bt505 => ((payrollref1_Neg.f kj6 a0_0 a0_1).bind fun bt509 => (if (t493 == t496 && (t494 == t497)) = true then (if t495 = t498 then (if (bt499.1 == bt502.1 && (bt499.2.1 == bt502.2.1)) = true then (if bt499.2.2 = bt502.2.2 then (if (bt505.1 == bt509.1 && (bt505.2.1 == bt509.2.1)) = true then (if bt505.2.2 = bt509.2.2 then ((ratio_Valid.f kj6 a0_0 a0_1).bind fun t513 => ((payrollref1_Valid.f kj6 a0_0 a0_1).bind fun t514 => (if (t513 == t514) = true then ((ratio_Compare.f kj6 a0_0 a0_1 a1_0 a1_1).bind fun t515 => ((payrollref1_Compare.f kj6 a0_0 a0_1 a1_0 a1_1).bind fun t516 => (if t515 = t516 then ((ratio_Floor.f kj6 a0_0 a0_1).bind fun t517 => ((payrollref1_Floor.f kj6 a0_0 a0_1).bind fun t518 => (some (t517 == t518)))) else (some false)))) else (some false)))) else (some false)) else (some false)) else (some false)) else (some false)) else (some false)) else (some false)))))) = some true := H
        have A108 := Aside0.mk A1080
        clear A1080
        replace H := Option.bind_eq_some_iff.mp H
        obtain ⟨⟨t499, t500, t501⟩, A1090, H⟩ := H
        replace H : ((payrollref1_Div.f kj6 a0_0 a0_1 a1_0 a1_1).bind fun bt502 => ((ratio_Neg.f kj6 a0_0 a0_1).bind fun bt505 => ((payrollref1_Neg.f kj6 a0_0 a0_1).bind fun bt509 => (if (t493 == t496 && (t494 == t497)) = true then (if t495 = t498 then (if (t499 == bt502.1 && (t500 == bt502.2.1)) = true then (if t501 = bt502.2.2 then (if (bt505.1 == bt509.1 && (bt505.2.1 == bt509.2.1)) = true then (if bt505.2.2 = bt509.2.2 then ((ratio_Valid.f kj6 a0_0 a0_1).bind fun t513 => ((payrollref1_Valid.f kj6 a0_0 a0_1).bind fun t514 => (if (t513 == t514) = true then ((ratio_Compare.f kj6 a0_0 a0_1 a1_0 a1_1).bind fun t515 => ((payrollref1_Compare.f kj6 a0_0 a0_1 a1_0 a1_1).bind fun t516 => (if t515 = t516 then ((ratio_Floor.f kj6 a0_0 a0_1).bind fun t517 => ((payrollref1_Floor.f kj6 a0_0 a0_1).bind fun t518 => (some (t517 == t518)))) else (some false)))) else (some false)))) else (some false)) else (some false)) else (some false)) else (some false)) else (some false)) else (some false))))) = some true := H
        have A109 := Aside0.mk A1090
        clear A1090
        replace H := Option.bind_eq_some_iff.mp H
        obtain ⟨⟨t502, t503, t504⟩, A1100, H⟩ := H
        replace H : ((ratio_Neg.f kj6 a0_0 a0_1).bind fun bt505 => ((payrollref1_Neg.f kj6 a0_0 a0_1).bind fun bt509 => (if (t493 == t496 && (t494 == t497)) = true then (if t495 = t498 then (if (t499 == t502 && (t500 == t503)) = true then (if t501 = t504 then (if (bt505.1 == bt509.1 && (bt505.2.1 == bt509.2.1)) = true then (if bt505.2.2 = bt509.2.2 then ((ratio_Valid.f kj6 a0_0 a0_1).bind fun t513 => ((payrollref1_Valid.f kj6 a0_0 a0_1).bind fun t514 => (if (t513 == t514) = true then ((ratio_Compare.f kj6 a0_0 a0_1 a1_0 a1_1).bind fun t515 => ((payrollref1_Compare.f kj6 a0_0 a0_1 a1_0 a1_1).bind fun t516 => (if t515 = t516 then ((ratio_Floor.f kj6 a0_0 a0_1).bind fun t517 => ((payrollref1_Floor.f kj6 a0_0 a0_1).bind fun t518 => (some (t517 == t518)))) else (some false)))) else (some false)))) else (some false)) else (some false)) else (some false)) else (some false)) else (some false)) else (some false)))) = some true := H
        have A110 := Aside0.mk A1100
        clear A1100
        replace H := Option.bind_eq_some_iff.mp H
        obtain ⟨⟨t505, t506, t507⟩, A1110, H⟩ := H
        replace H : ((payrollref1_Neg.f kj6 a0_0 a0_1).bind fun bt509 => (if (t493 == t496 && (t494 == t497)) = true then (if t495 = t498 then (if (t499 == t502 && (t500 == t503)) = true then (if t501 = t504 then (if (t505 == bt509.1 && (t506 == bt509.2.1)) = true then (if t507 = bt509.2.2 then ((ratio_Valid.f kj6 a0_0 a0_1).bind fun t513 => ((payrollref1_Valid.f kj6 a0_0 a0_1).bind fun t514 => (if (t513 == t514) = true then ((ratio_Compare.f kj6 a0_0 a0_1 a1_0 a1_1).bind fun t515 => ((payrollref1_Compare.f kj6 a0_0 a0_1 a1_0 a1_1).bind fun t516 => (if t515 = t516 then ((ratio_Floor.f kj6 a0_0 a0_1).bind fun t517 => ((payrollref1_Floor.f kj6 a0_0 a0_1).bind fun t518 => (some (t517 == t518)))) else (some false)))) else (some false)))) else (some false)) else (some false)) else (some false)) else (some false)) else (some false)) else (some false))) = some true := H
        have A111 := Aside0.mk A1110
        clear A1110
        replace H := Option.bind_eq_some_iff.mp H
        obtain ⟨⟨t509, t510, t511⟩, A1120, H⟩ := H
        replace H : (if (t493 == t496 && (t494 == t497)) = true then (if t495 = t498 then (if (t499 == t502 && (t500 == t503)) = true then (if t501 = t504 then (if (t505 == t509 && (t506 == t510)) = true then (if t507 = t511 then ((ratio_Valid.f kj6 a0_0 a0_1).bind fun t513 => ((payrollref1_Valid.f kj6 a0_0 a0_1).bind fun t514 => (if (t513 == t514) = true then ((ratio_Compare.f kj6 a0_0 a0_1 a1_0 a1_1).bind fun t515 => ((payrollref1_Compare.f kj6 a0_0 a0_1 a1_0 a1_1).bind fun t516 => (if t515 = t516 then ((ratio_Floor.f kj6 a0_0 a0_1).bind fun t517 => ((payrollref1_Floor.f kj6 a0_0 a0_1).bind fun t518 => (some (t517 == t518)))) else (some false)))) else (some false)))) else (some false)) else (some false)) else (some false)) else (some false)) else (some false)) else (some false)) = some true := H
        have A112 := Aside0.mk A1120
        clear A1120
        by_cases c113 : (t493 == t496 && (t494 == t497)) = true
        · rw [if_pos c113] at H
          have c113b0 : (t493 == t496 && (t494 == t497)) = true := c113
          (try (have c113b1 : decide (t493 = t496 && (t494 == t497)) = true := by simpa using c113))
          (try (have c113b2 : (t493 == t496 && (t494 == t497)) = true := by simpa using c113))
          clear c113
          by_cases c114 : t495 = t498
          · rw [if_pos c114] at H
            have c114b0 : (t495 == t498) = true := beq_iff_eq.mpr c114
            have c114b1 : (t495 != t498) = false := bne_eq_false_iff_eq.mpr c114
            clear c114
            by_cases c115 : (t499 == t502 && (t500 == t503)) = true
            · rw [if_pos c115] at H
              have c115b0 : (t499 == t502 && (t500 == t503)) = true := c115
              (try (have c115b1 : decide (t499 = t502 && (t500 == t503)) = true := by simpa using c115))
              (try (have c115b2 : (t499 == t502 && (t500 == t503)) = true := by simpa using c115))
              clear c115
              by_cases c116 : t501 = t504
              · rw [if_pos c116] at H
                have c116b0 : (t501 == t504) = true := beq_iff_eq.mpr c116
                have c116b1 : (t501 != t504) = false := bne_eq_false_iff_eq.mpr c116
                clear c116
                by_cases c117 : (t505 == t509 && (t506 == t510)) = true
                · rw [if_pos c117] at H
                  have c117b0 : (t505 == t509 && (t506 == t510)) = true := c117
                  (try (have c117b1 : decide (t505 = t509 && (t506 == t510)) = true := by simpa using c117))
                  (try (have c117b2 : (t505 == t509 && (t506 == t510)) = true := by simpa using c117))
                  clear c117
                  by_cases c118 : t507 = t511
                  · rw [if_pos c118] at H
                    have c118b0 : (t507 == t511) = true := beq_iff_eq.mpr c118
                    have c118b1 : (t507 != t511) = false := bne_eq_false_iff_eq.mpr c118
                    clear c118
                    replace H := Option.bind_eq_some_iff.mp H
                    obtain ⟨t513, A1190, H⟩ := H
                    replace H : ((payrollref1_Valid.f kj6 a0_0 a0_1).bind fun t514 => (if (t513 == t514) = true then ((ratio_Compare.f kj6 a0_0 a0_1 a1_0 a1_1).bind fun t515 => ((payrollref1_Compare.f kj6 a0_0 a0_1 a1_0 a1_1).bind fun t516 => (if t515 = t516 then ((ratio_Floor.f kj6 a0_0 a0_1).bind fun t517 => ((payrollref1_Floor.f kj6 a0_0 a0_1).bind fun t518 => (some (t517 == t518)))) else (some false)))) else (some false))) = some true := H
                    have A119 := Aside0.mk A1190
                    clear A1190
                    replace H := Option.bind_eq_some_iff.mp H
                    obtain ⟨t514, A1200, H⟩ := H
                    replace H : (if (t513 == t514) = true then ((ratio_Compare.f kj6 a0_0 a0_1 a1_0 a1_1).bind fun t515 => ((payrollref1_Compare.f kj6 a0_0 a0_1 a1_0 a1_1).bind fun t516 => (if t515 = t516 then ((ratio_Floor.f kj6 a0_0 a0_1).bind fun t517 => ((payrollref1_Floor.f kj6 a0_0 a0_1).bind fun t518 => (some (t517 == t518)))) else (some false)))) else (some false)) = some true := H
                    have A120 := Aside0.mk A1200
                    clear A1200
                    by_cases c121 : (t513 == t514) = true
                    · rw [if_pos c121] at H
                      have c121b0 : (t513 == t514) = true := c121
                      (try (have c121b1 : decide (t513 = t514) = true := by simpa using c121))
                      (try (have c121b2 : (t513 == t514) = true := by simpa using c121))
                      clear c121
                      replace H := Option.bind_eq_some_iff.mp H
                      obtain ⟨t515, A1220, H⟩ := H
                      replace H : ((payrollref1_Compare.f kj6 a0_0 a0_1 a1_0 a1_1).bind fun t516 => (if t515 = t516 then ((ratio_Floor.f kj6 a0_0 a0_1).bind fun t517 => ((payrollref1_Floor.f kj6 a0_0 a0_1).bind fun t518 => (some (t517 == t518)))) else (some false))) = some true := H
                      have A122 := Aside0.mk A1220
                      clear A1220
                      replace H := Option.bind_eq_some_iff.mp H
                      obtain ⟨t516, A1230, H⟩ := H
                      replace H : (if t515 = t516 then ((ratio_Floor.f kj6 a0_0 a0_1).bind fun t517 => ((payrollref1_Floor.f kj6 a0_0 a0_1).bind fun t518 => (some (t517 == t518)))) else (some false)) = some true := H
                      have A123 := Aside0.mk A1230
                      clear A1230
                      by_cases c124 : t515 = t516
                      · rw [if_pos c124] at H
                        have c124b0 : (t515 == t516) = true := beq_iff_eq.mpr c124
                        have c124b1 : (t515 != t516) = false := bne_eq_false_iff_eq.mpr c124
                        clear c124
                        replace H := Option.bind_eq_some_iff.mp H
                        obtain ⟨t517, A1250, H⟩ := H
                        replace H : ((payrollref1_Floor.f kj6 a0_0 a0_1).bind fun t518 => (some (t517 == t518))) = some true := H
                        have A125 := Aside0.mk A1250
                        clear A1250
                        replace H := Option.bind_eq_some_iff.mp H
                        obtain ⟨t518, A1260, H⟩ := H
                        replace H : (some (t517 == t518)) = some true := H
                        have A126 := Aside0.mk A1260
                        clear A1260
                        have HY := Aside0.mk (Option.some.inj H)
                        clear H
                        have hnb127 := NB475_476.out
                        have hnc127 := NB476_475.out
                        have hnb128 := NB475_480.out
                        have hnc128 := NB480_475.out
                        have hnb129 := NB475_484.out
                        have hnc129 := NB484_475.out
                        have hnb130 := NB475_488.out
                        have hnc130 := NB488_475.out
                        have hnb131 := NB475_492.out
                        have hnc131 := NB492_475.out
                        have hcz132_0 : wc.cell? ⟨gb475, 0, none⟩ = some (.int .i64 a0_0) := (blk_cell BK475.out 0).trans rfl
                        have hcz132_1 : wc.cell? ⟨gb475, 1, none⟩ = some (.int .i64 a0_1) := (blk_cell BK475.out 1).trans rfl
                        have hfz132_0 := blk_frozen BK475.out 0
                        have hfz132_1 := blk_frozen BK475.out 1
                        have hnb133 := NB476_480.out
                        have hnc133 := NB480_476.out
                        have hnb134 := NB476_484.out
                        have hnc134 := NB484_476.out
                        have hnb135 := NB476_488.out
                        have hnc135 := NB488_476.out
                        have hnb136 := NB476_492.out
                        have hnc136 := NB492_476.out
                        have hcz137_0 : wc.cell? ⟨gb476, 0, none⟩ = some (.int .i64 a1_0) := (blk_cell BK476.out 0).trans rfl
                        have hcz137_1 : wc.cell? ⟨gb476, 1, none⟩ = some (.int .i64 a1_1) := (blk_cell BK476.out 1).trans rfl
                        have hfz137_0 := blk_frozen BK476.out 0
                        have hfz137_1 := blk_frozen BK476.out 1
                        try go_wp2_with (first | ((with_reducible refine gate_callee (f := 25) rfl ?_); refine goesL_ (some 62) rfl rfl Tryd.func25 (by kernel_rfl) rfl #[.agg #[.int .i64 a0_0, .int .i64 a0_1], .agg #[.int .i64 a1_0, .int .i64 a1_1]] rfl (by (try simp only [List.map_toArray, List.map_cons, List.map_nil]); first | done | rfl | (simp only [List.length_drop, List.length_take]; rfl)) ?_; (with_reducible refine (ratio_Mul.calls kj6 a0_0 a0_1 a1_0 a1_1 t493 t494 t495 _ A107.out).mono ?_); rintro e w138 ⟨rfl, hb⟩; refine ⟨_, rfl, ?_⟩; have n0_ := Aside0.mk (blk_below (g := gb475) (o := .cells #[.int .i64 a0_0, .int .i64 a0_1] 23 (0, 0)) (by (with_reducible repeat (first | refine blk_drewN ?_ _ | refine blk_drew ?_ | refine blk_alloc ?_ _)); exact BK475.out) hb); have n1_ := Aside0.mk (blk_below (g := gb476) (o := .cells #[.int .i64 a1_0, .int .i64 a1_1] 23 (0, 0)) (by (with_reducible repeat (first | refine blk_drewN ?_ _ | refine blk_drew ?_ | refine blk_alloc ?_ _)); exact BK476.out) hb); have n2_ := Aside0.mk (blk_below (g := gb480) (o := .cells #[.int .i64 t477, .int .i64 t478] 23 (0, 0)) (by (with_reducible repeat (first | refine blk_drewN ?_ _ | refine blk_drew ?_ | refine blk_alloc ?_ _)); exact BK480.out) hb); have n3_ := Aside0.mk (blk_below (g := gb484) (o := .cells #[.int .i64 t481, .int .i64 t482] 23 (0, 0)) (by (with_reducible repeat (first | refine blk_drewN ?_ _ | refine blk_drew ?_ | refine blk_alloc ?_ _)); exact BK484.out) hb); have n4_ := Aside0.mk (blk_below (g := gb488) (o := .cells #[.int .i64 t485, .int .i64 t486] 23 (0, 0)) (by (with_reducible repeat (first | refine blk_drewN ?_ _ | refine blk_drew ?_ | refine blk_alloc ?_ _)); exact BK488.out) hb); have n5_ := Aside0.mk (blk_below (g := gb492) (o := .cells #[.int .i64 t489, .int .i64 t490] 23 (0, 0)) (by (with_reducible repeat (first | refine blk_drewN ?_ _ | refine blk_drew ?_ | refine blk_alloc ?_ _)); exact BK492.out) hb); have n6_ := Aside0.mk (below_step (by repeat (first | (with_reducible first | exact HB.out | apply below_alloc | apply pw_below_drewN | apply below_drew1 | refine below_set ?_ GE475.out | refine below_set ?_ GE476.out | refine below_set ?_ GE480.out | refine below_set ?_ GE484.out | refine below_set ?_ GE488.out | refine below_set ?_ GE492.out) | exact HB.out)) hb); clear BK475; clear BK476; clear BK480; clear BK484; clear BK488; clear BK492; clear HB; have BK475 := n0_; have BK476 := n1_; have BK480 := n2_; have BK484 := n3_; have BK488 := n4_; have BK492 := n5_; have HB := n6_; clear n0_ n1_ n2_ n3_ n4_ n5_ n6_; (try clear hb); (try clear hb2); (try clear hk); (try clear hi); have hnb139 := NB480_484.out; have hnc139 := NB484_480.out; have hnb140 := NB480_488.out; have hnc140 := NB488_480.out; have hnb141 := NB480_492.out; have hnc141 := NB492_480.out; have hcz142_0 : w138.cell? ⟨gb480, 0, none⟩ = some (.int .i64 t477) := (blk_cell BK480.out 0).trans rfl; have hcz142_1 : w138.cell? ⟨gb480, 1, none⟩ = some (.int .i64 t478) := (blk_cell BK480.out 1).trans rfl; have hfz142_0 := blk_frozen BK480.out 0; have hfz142_1 := blk_frozen BK480.out 1; have hcz143_0 : w138.cell? ⟨gb475, 0, none⟩ = some (.int .i64 a0_0) := (blk_cell BK475.out 0).trans rfl; have hcz143_1 : w138.cell? ⟨gb475, 1, none⟩ = some (.int .i64 a0_1) := (blk_cell BK475.out 1).trans rfl; have hfz143_0 := blk_frozen BK475.out 0; have hfz143_1 := blk_frozen BK475.out 1; have hcz144_0 : w138.cell? ⟨gb476, 0, none⟩ = some (.int .i64 a1_0) := (blk_cell BK476.out 0).trans rfl; have hcz144_1 : w138.cell? ⟨gb476, 1, none⟩ = some (.int .i64 a1_1) := (blk_cell BK476.out 1).trans rfl; have hfz144_0 := blk_frozen BK476.out 0; have hfz144_1 := blk_frozen BK476.out 1) | ((with_reducible refine gate_callee (f := 43) rfl ?_); refine goesL_ (some 68) rfl rfl Tryd.func43 (by kernel_rfl) rfl #[.agg #[.int .i64 a0_0, .int .i64 a0_1], .agg #[.int .i64 a1_0, .int .i64 a1_1]] rfl (by (try simp only [List.map_toArray, List.map_cons, List.map_nil]); first | done | rfl | (simp only [List.length_drop, List.length_take]; rfl)) ?_; (with_reducible refine (payrollref1_Mul.calls kj6 a0_0 a0_1 a1_0 a1_1 t496 t497 t498 _ A108.out).mono ?_); rintro e w145 ⟨rfl, hb⟩; refine ⟨_, rfl, ?_⟩; have n0_ := Aside0.mk (blk_below (g := gb475) (o := .cells #[.int .i64 a0_0, .int .i64 a0_1] 23 (0, 0)) (by (with_reducible repeat (first | refine blk_drewN ?_ _ | refine blk_drew ?_ | refine blk_alloc ?_ _)); refine blk_far ?_ NB475_480.out _; (with_reducible repeat (first | refine blk_drewN ?_ _ | refine blk_drew ?_ | refine blk_alloc ?_ _)); refine blk_far ?_ NB475_480.out _; (with_reducible repeat (first | refine blk_drewN ?_ _ | refine blk_drew ?_ | refine blk_alloc ?_ _)); exact BK475.out) hb); have n1_ := Aside0.mk (blk_below (g := gb476) (o := .cells #[.int .i64 a1_0, .int .i64 a1_1] 23 (0, 0)) (by (with_reducible repeat (first | refine blk_drewN ?_ _ | refine blk_drew ?_ | refine blk_alloc ?_ _)); refine blk_far ?_ NB476_480.out _; (with_reducible repeat (first | refine blk_drewN ?_ _ | refine blk_drew ?_ | refine blk_alloc ?_ _)); refine blk_far ?_ NB476_480.out _; (with_reducible repeat (first | refine blk_drewN ?_ _ | refine blk_drew ?_ | refine blk_alloc ?_ _)); exact BK476.out) hb); have n2_ := Aside0.mk (blk_below (g := gb480) (o := .cells #[.int .i64 t493, .int .i64 t494] 23 (0, 0)) (by (with_reducible repeat (first | refine blk_drewN ?_ _ | refine blk_drew ?_ | refine blk_alloc ?_ _)); refine blk_put (cs := #[.int .i64 t493, .int .i64 t478]) ?_ 1 _ rfl; (with_reducible repeat (first | refine blk_drewN ?_ _ | refine blk_drew ?_ | refine blk_alloc ?_ _)); refine blk_put (cs := #[.int .i64 t477, .int .i64 t478]) ?_ 0 _ rfl; (with_reducible repeat (first | refine blk_drewN ?_ _ | refine blk_drew ?_ | refine blk_alloc ?_ _)); exact BK480.out) hb); have n3_ := Aside0.mk (blk_below (g := gb484) (o := .cells #[.int .i64 t481, .int .i64 t482] 23 (0, 0)) (by (with_reducible repeat (first | refine blk_drewN ?_ _ | refine blk_drew ?_ | refine blk_alloc ?_ _)); refine blk_far ?_ NB484_480.out _; (with_reducible repeat (first | refine blk_drewN ?_ _ | refine blk_drew ?_ | refine blk_alloc ?_ _)); refine blk_far ?_ NB484_480.out _; (with_reducible repeat (first | refine blk_drewN ?_ _ | refine blk_drew ?_ | refine blk_alloc ?_ _)); exact BK484.out) hb); have n4_ := Aside0.mk (blk_below (g := gb488) (o := .cells #[.int .i64 t485, .int .i64 t486] 23 (0, 0)) (by (with_reducible repeat (first | refine blk_drewN ?_ _ | refine blk_drew ?_ | refine blk_alloc ?_ _)); refine blk_far ?_ NB488_480.out _; (with_reducible repeat (first | refine blk_drewN ?_ _ | refine blk_drew ?_ | refine blk_alloc ?_ _)); refine blk_far ?_ NB488_480.out _; (with_reducible repeat (first | refine blk_drewN ?_ _ | refine blk_drew ?_ | refine blk_alloc ?_ _)); exact BK488.out) hb); have n5_ := Aside0.mk (blk_below (g := gb492) (o := .cells #[.int .i64 t489, .int .i64 t490] 23 (0, 0)) (by (with_reducible repeat (first | refine blk_drewN ?_ _ | refine blk_drew ?_ | refine blk_alloc ?_ _)); refine blk_far ?_ NB492_480.out _; (with_reducible repeat (first | refine blk_drewN ?_ _ | refine blk_drew ?_ | refine blk_alloc ?_ _)); refine blk_far ?_ NB492_480.out _; (with_reducible repeat (first | refine blk_drewN ?_ _ | refine blk_drew ?_ | refine blk_alloc ?_ _)); exact BK492.out) hb); have n6_ := Aside0.mk (below_step (by repeat (first | (with_reducible first | exact HB.out | apply below_alloc | apply pw_below_drewN | apply below_drew1 | refine below_set ?_ GE475.out | refine below_set ?_ GE476.out | refine below_set ?_ GE480.out | refine below_set ?_ GE484.out | refine below_set ?_ GE488.out | refine below_set ?_ GE492.out) | exact HB.out)) hb); clear BK475; clear BK476; clear BK480; clear BK484; clear BK488; clear BK492; clear HB; have BK475 := n0_; have BK476 := n1_; have BK480 := n2_; have BK484 := n3_; have BK488 := n4_; have BK492 := n5_; have HB := n6_; clear n0_ n1_ n2_ n3_ n4_ n5_ n6_; (try clear hb); (try clear hb2); (try clear hk); (try clear hi); have hnb146 := NB484_488.out; have hnc146 := NB488_484.out; have hnb147 := NB484_492.out; have hnc147 := NB492_484.out; have hcz148_0 : w145.cell? ⟨gb484, 0, none⟩ = some (.int .i64 t481) := (blk_cell BK484.out 0).trans rfl; have hcz148_1 : w145.cell? ⟨gb484, 1, none⟩ = some (.int .i64 t482) := (blk_cell BK484.out 1).trans rfl; have hfz148_0 := blk_frozen BK484.out 0; have hfz148_1 := blk_frozen BK484.out 1; have hcz149_0 : w145.cell? ⟨gb475, 0, none⟩ = some (.int .i64 a0_0) := (blk_cell BK475.out 0).trans rfl; have hcz149_1 : w145.cell? ⟨gb475, 1, none⟩ = some (.int .i64 a0_1) := (blk_cell BK475.out 1).trans rfl; have hfz149_0 := blk_frozen BK475.out 0; have hfz149_1 := blk_frozen BK475.out 1; have hcz150_0 : w145.cell? ⟨gb476, 0, none⟩ = some (.int .i64 a1_0) := (blk_cell BK476.out 0).trans rfl; have hcz150_1 : w145.cell? ⟨gb476, 1, none⟩ = some (.int .i64 a1_1) := (blk_cell BK476.out 1).trans rfl; have hfz150_0 := blk_frozen BK476.out 0; have hfz150_1 := blk_frozen BK476.out 1) | ((with_reducible refine gate_callee (f := 28) rfl ?_); refine goesL_ (some 74) rfl rfl Tryd.func28 (by kernel_rfl) rfl #[.agg #[.int .i64 a0_0, .int .i64 a0_1], .agg #[.int .i64 a1_0, .int .i64 a1_1]] rfl (by (try simp only [List.map_toArray, List.map_cons, List.map_nil]); first | done | rfl | (simp only [List.length_drop, List.length_take]; rfl)) ?_; (with_reducible refine (ratio_Div.calls kj6 a0_0 a0_1 a1_0 a1_1 t499 t500 t501 _ A109.out).mono ?_); rintro e w151 ⟨rfl, hb⟩; refine ⟨_, rfl, ?_⟩; have n0_ := Aside0.mk (blk_below (g := gb475) (o := .cells #[.int .i64 a0_0, .int .i64 a0_1] 23 (0, 0)) (by (with_reducible repeat (first | refine blk_drewN ?_ _ | refine blk_drew ?_ | refine blk_alloc ?_ _)); refine blk_far ?_ NB475_484.out _; (with_reducible repeat (first | refine blk_drewN ?_ _ | refine blk_drew ?_ | refine blk_alloc ?_ _)); refine blk_far ?_ NB475_484.out _; (with_reducible repeat (first | refine blk_drewN ?_ _ | refine blk_drew ?_ | refine blk_alloc ?_ _)); exact BK475.out) hb); have n1_ := Aside0.mk (blk_below (g := gb476) (o := .cells #[.int .i64 a1_0, .int .i64 a1_1] 23 (0, 0)) (by (with_reducible repeat (first | refine blk_drewN ?_ _ | refine blk_drew ?_ | refine blk_alloc ?_ _)); refine blk_far ?_ NB476_484.out _; (with_reducible repeat (first | refine blk_drewN ?_ _ | refine blk_drew ?_ | refine blk_alloc ?_ _)); refine blk_far ?_ NB476_484.out _; (with_reducible repeat (first | refine blk_drewN ?_ _ | refine blk_drew ?_ | refine blk_alloc ?_ _)); exact BK476.out) hb); have n2_ := Aside0.mk (blk_below (g := gb480) (o := .cells #[.int .i64 t493, .int .i64 t494] 23 (0, 0)) (by (with_reducible repeat (first | refine blk_drewN ?_ _ | refine blk_drew ?_ | refine blk_alloc ?_ _)); refine blk_far ?_ NB480_484.out _; (with_reducible repeat (first | refine blk_drewN ?_ _ | refine blk_drew ?_ | refine blk_alloc ?_ _)); refine blk_far ?_ NB480_484.out _; (with_reducible repeat (first | refine blk_drewN ?_ _ | refine blk_drew ?_ | refine blk_alloc ?_ _)); exact BK480.out) hb); have n3_ := Aside0.mk (blk_below (g := gb484) (o := .cells #[.int .i64 t496, .int .i64 t497] 23 (0, 0)) (by (with_reducible repeat (first | refine blk_drewN ?_ _ | refine blk_drew ?_ | refine blk_alloc ?_ _)); refine blk_put (cs := #[.int .i64 t496, .int .i64 t482]) ?_ 1 _ rfl; (with_reducible repeat (first | refine blk_drewN ?_ _ | refine blk_drew ?_ | refine blk_alloc ?_ _)); refine blk_put (cs := #[.int .i64 t481, .int .i64 t482]) ?_ 0 _ rfl; (with_reducible repeat (first | refine blk_drewN ?_ _ | refine blk_drew ?_ | refine blk_alloc ?_ _)); exact BK484.out) hb); have n4_ := Aside0.mk (blk_below (g := gb488) (o := .cells #[.int .i64 t485, .int .i64 t486] 23 (0, 0)) (by (with_reducible repeat (first | refine blk_drewN ?_ _ | refine blk_drew ?_ | refine blk_alloc ?_ _)); refine blk_far ?_ NB488_484.out _; (with_reducible repeat (first | refine blk_drewN ?_ _ | refine blk_drew ?_ | refine blk_alloc ?_ _)); refine blk_far ?_ NB488_484.out _; (with_reducible repeat (first | refine blk_drewN ?_ _ | refine blk_drew ?_ | refine blk_alloc ?_ _)); exact BK488.out) hb); have n5_ := Aside0.mk (blk_below (g := gb492) (o := .cells #[.int .i64 t489, .int .i64 t490] 23 (0, 0)) (by (with_reducible repeat (first | refine blk_drewN ?_ _ | refine blk_drew ?_ | refine blk_alloc ?_ _)); refine blk_far ?_ NB492_484.out _; (with_reducible repeat (first | refine blk_drewN ?_ _ | refine blk_drew ?_ | refine blk_alloc ?_ _)); refine blk_far ?_ NB492_484.out _; (with_reducible repeat (first | refine blk_drewN ?_ _ | refine blk_drew ?_ | refine blk_alloc ?_ _)); exact BK492.out) hb); have n6_ := Aside0.mk (below_step (by repeat (first | (with_reducible first | exact HB.out | apply below_alloc | apply pw_below_drewN | apply below_drew1 | refine below_set ?_ GE475.out | refine below_set ?_ GE476.out | refine below_set ?_ GE480.out | refine below_set ?_ GE484.out | refine below_set ?_ GE488.out | refine below_set ?_ GE492.out) | exact HB.out)) hb); clear BK475; clear BK476; clear BK480; clear BK484; clear BK488; clear BK492; clear HB; have BK475 := n0_; have BK476 := n1_; have BK480 := n2_; have BK484 := n3_; have BK488 := n4_; have BK492 := n5_; have HB := n6_; clear n0_ n1_ n2_ n3_ n4_ n5_ n6_; (try clear hb); (try clear hb2); (try clear hk); (try clear hi); have hnb152 := NB488_492.out; have hnc152 := NB492_488.out; have hcz153_0 : w151.cell? ⟨gb488, 0, none⟩ = some (.int .i64 t485) := (blk_cell BK488.out 0).trans rfl; have hcz153_1 : w151.cell? ⟨gb488, 1, none⟩ = some (.int .i64 t486) := (blk_cell BK488.out 1).trans rfl; have hfz153_0 := blk_frozen BK488.out 0; have hfz153_1 := blk_frozen BK488.out 1; have hcz154_0 : w151.cell? ⟨gb475, 0, none⟩ = some (.int .i64 a0_0) := (blk_cell BK475.out 0).trans rfl; have hcz154_1 : w151.cell? ⟨gb475, 1, none⟩ = some (.int .i64 a0_1) := (blk_cell BK475.out 1).trans rfl; have hfz154_0 := blk_frozen BK475.out 0; have hfz154_1 := blk_frozen BK475.out 1; have hcz155_0 : w151.cell? ⟨gb476, 0, none⟩ = some (.int .i64 a1_0) := (blk_cell BK476.out 0).trans rfl; have hcz155_1 : w151.cell? ⟨gb476, 1, none⟩ = some (.int .i64 a1_1) := (blk_cell BK476.out 1).trans rfl; have hfz155_0 := blk_frozen BK476.out 0; have hfz155_1 := blk_frozen BK476.out 1) | ((with_reducible refine gate_callee (f := 44) rfl ?_); refine goesL_ (some 80) rfl rfl Tryd.func44 (by kernel_rfl) rfl #[.agg #[.int .i64 a0_0, .int .i64 a0_1], .agg #[.int .i64 a1_0, .int .i64 a1_1]] rfl (by (try simp only [List.map_toArray, List.map_cons, List.map_nil]); first | done | rfl | (simp only [List.length_drop, List.length_take]; rfl)) ?_; (with_reducible refine (payrollref1_Div.calls kj6 a0_0 a0_1 a1_0 a1_1 t502 t503 t504 _ A110.out).mono ?_); rintro e w156 ⟨rfl, hb⟩; refine ⟨_, rfl, ?_⟩; have n0_ := Aside0.mk (blk_below (g := gb475) (o := .cells #[.int .i64 a0_0, .int .i64 a0_1] 23 (0, 0)) (by (with_reducible repeat (first | refine blk_drewN ?_ _ | refine blk_drew ?_ | refine blk_alloc ?_ _)); refine blk_far ?_ NB475_488.out _; (with_reducible repeat (first | refine blk_drewN ?_ _ | refine blk_drew ?_ | refine blk_alloc ?_ _)); refine blk_far ?_ NB475_488.out _; (with_reducible repeat (first | refine blk_drewN ?_ _ | refine blk_drew ?_ | refine blk_alloc ?_ _)); exact BK475.out) hb); have n1_ := Aside0.mk (blk_below (g := gb476) (o := .cells #[.int .i64 a1_0, .int .i64 a1_1] 23 (0, 0)) (by (with_reducible repeat (first | refine blk_drewN ?_ _ | refine blk_drew ?_ | refine blk_alloc ?_ _)); refine blk_far ?_ NB476_488.out _; (with_reducible repeat (first | refine blk_drewN ?_ _ | refine blk_drew ?_ | refine blk_alloc ?_ _)); refine blk_far ?_ NB476_488.out _; (with_reducible repeat (first | refine blk_drewN ?_ _ | refine blk_drew ?_ | refine blk_alloc ?_ _)); exact BK476.out) hb); have n2_ := Aside0.mk (blk_below (g := gb480) (o := .cells #[.int .i64 t493, .int .i64 t494] 23 (0, 0)) (by (with_reducible repeat (first | refine blk_drewN ?_ _ | refine blk_drew ?_ | refine blk_alloc ?_ _)); refine blk_far ?_ NB480_488.out _; (with_reducible repeat (first | refine blk_drewN ?_ _ | refine blk_drew ?_ | refine blk_alloc ?_ _)); refine blk_far ?_ NB480_488.out _; (with_reducible repeat (first | refine blk_drewN ?_ _ | refine blk_drew ?_ | refine blk_alloc ?_ _)); exact BK480.out) hb); have n3_ := Aside0.mk (blk_below (g := gb484) (o := .cells #[.int .i64 t496, .int .i64 t497] 23 (0, 0)) (by (with_reducible repeat (first | refine blk_drewN ?_ _ | refine blk_drew ?_ | refine blk_alloc ?_ _)); refine blk_far ?_ NB484_488.out _; (with_reducible repeat (first | refine blk_drewN ?_ _ | refine blk_drew ?_ | refine blk_alloc ?_ _)); refine blk_far ?_ NB484_488.out _; (with_reducible repeat (first | refine blk_drewN ?_ _ | refine blk_drew ?_ | refine blk_alloc ?_ _)); exact BK484.out) hb); have n4_ := Aside0.mk (blk_below (g := gb488) (o := .cells #[.int .i64 t499, .int .i64 t500] 23 (0, 0)) (by (with_reducible repeat (first | refine blk_drewN ?_ _ | refine blk_drew ?_ | refine blk_alloc ?_ _)); refine blk_put (cs := #[.int .i64 t499, .int .i64 t486]) ?_ 1 _ rfl; (with_reducible repeat (first | refine blk_drewN ?_ _ | refine blk_drew ?_ | refine blk_alloc ?_ _)); refine blk_put (cs := #[.int .i64 t485, .int .i64 t486]) ?_ 0 _ rfl; (with_reducible repeat (first | refine blk_drewN ?_ _ | refine blk_drew ?_ | refine blk_alloc ?_ _)); exact BK488.out) hb); have n5_ := Aside0.mk (blk_below (g := gb492) (o := .cells #[.int .i64 t489, .int .i64 t490] 23 (0, 0)) (by (with_reducible repeat (first | refine blk_drewN ?_ _ | refine blk_drew ?_ | refine blk_alloc ?_ _)); refine blk_far ?_ NB492_488.out _; (with_reducible repeat (first | refine blk_drewN ?_ _ | refine blk_drew ?_ | refine blk_alloc ?_ _)); refine blk_far ?_ NB492_488.out _; (with_reducible repeat (first | refine blk_drewN ?_ _ | refine blk_drew ?_ | refine blk_alloc ?_ _)); exact BK492.out) hb); have n6_ := Aside0.mk (below_step (by repeat (first | (with_reducible first | exact HB.out | apply below_alloc | apply pw_below_drewN | apply below_drew1 | refine below_set ?_ GE475.out | refine below_set ?_ GE476.out | refine below_set ?_ GE480.out | refine below_set ?_ GE484.out | refine below_set ?_ GE488.out | refine below_set ?_ GE492.out) | exact HB.out)) hb); clear BK475; clear BK476; clear BK480; clear BK484; clear BK488; clear BK492; clear HB; have BK475 := n0_; have BK476 := n1_; have BK480 := n2_; have BK484 := n3_; have BK488 := n4_; have BK492 := n5_; have HB := n6_; clear n0_ n1_ n2_ n3_ n4_ n5_ n6_; (try clear hb); (try clear hb2); (try clear hk); (try clear hi); have hcz157_0 : w156.cell? ⟨gb492, 0, none⟩ = some (.int .i64 t489) := (blk_cell BK492.out 0).trans rfl; have hcz157_1 : w156.cell? ⟨gb492, 1, none⟩ = some (.int .i64 t490) := (blk_cell BK492.out 1).trans rfl; have hfz157_0 := blk_frozen BK492.out 0; have hfz157_1 := blk_frozen BK492.out 1; have hcz158_0 : w156.cell? ⟨gb475, 0, none⟩ = some (.int .i64 a0_0) := (blk_cell BK475.out 0).trans rfl; have hcz158_1 : w156.cell? ⟨gb475, 1, none⟩ = some (.int .i64 a0_1) := (blk_cell BK475.out 1).trans rfl; have hfz158_0 := blk_frozen BK475.out 0; have hfz158_1 := blk_frozen BK475.out 1) | ((with_reducible refine gate_callee (f := 45) rfl ?_); refine goesL_ (some 85) rfl rfl Tryd.func45 (by kernel_rfl) rfl #[.agg #[.int .i64 a0_0, .int .i64 a0_1]] rfl (by (try simp only [List.map_toArray, List.map_cons, List.map_nil]); first | done | rfl | (simp only [List.length_drop, List.length_take]; rfl)) ?_; (with_reducible refine (ratio_Neg.calls kj6 a0_0 a0_1 t505 t506 t507 _ A111.out).mono ?_); rintro e w159 ⟨rfl, hb⟩; refine ⟨_, rfl, ?_⟩; have n0_ := Aside0.mk (blk_below (g := gb475) (o := .cells #[.int .i64 a0_0, .int .i64 a0_1] 23 (0, 0)) (by (with_reducible repeat (first | refine blk_drewN ?_ _ | refine blk_drew ?_ | refine blk_alloc ?_ _)); refine blk_far ?_ NB475_492.out _; (with_reducible repeat (first | refine blk_drewN ?_ _ | refine blk_drew ?_ | refine blk_alloc ?_ _)); refine blk_far ?_ NB475_492.out _; (with_reducible repeat (first | refine blk_drewN ?_ _ | refine blk_drew ?_ | refine blk_alloc ?_ _)); exact BK475.out) hb); have n1_ := Aside0.mk (blk_below (g := gb476) (o := .cells #[.int .i64 a1_0, .int .i64 a1_1] 23 (0, 0)) (by (with_reducible repeat (first | refine blk_drewN ?_ _ | refine blk_drew ?_ | refine blk_alloc ?_ _)); refine blk_far ?_ NB476_492.out _; (with_reducible repeat (first | refine blk_drewN ?_ _ | refine blk_drew ?_ | refine blk_alloc ?_ _)); refine blk_far ?_ NB476_492.out _; (with_reducible repeat (first | refine blk_drewN ?_ _ | refine blk_drew ?_ | refine blk_alloc ?_ _)); exact BK476.out) hb); have n2_ := Aside0.mk (blk_below (g := gb480) (o := .cells #[.int .i64 t493, .int .i64 t494] 23 (0, 0)) (by (with_reducible repeat (first | refine blk_drewN ?_ _ | refine blk_drew ?_ | refine blk_alloc ?_ _)); refine blk_far ?_ NB480_492.out _; (with_reducible repeat (first | refine blk_drewN ?_ _ | refine blk_drew ?_ | refine blk_alloc ?_ _)); refine blk_far ?_ NB480_492.out _; (with_reducible repeat (first | refine blk_drewN ?_ _ | refine blk_drew ?_ | refine blk_alloc ?_ _)); exact BK480.out) hb); have n3_ := Aside0.mk (blk_below (g := gb484) (o := .cells #[.int .i64 t496, .int .i64 t497] 23 (0, 0)) (by (with_reducible repeat (first | refine blk_drewN ?_ _ | refine blk_drew ?_ | refine blk_alloc ?_ _)); refine blk_far ?_ NB484_492.out _; (with_reducible repeat (first | refine blk_drewN ?_ _ | refine blk_drew ?_ | refine blk_alloc ?_ _)); refine blk_far ?_ NB484_492.out _; (with_reducible repeat (first | refine blk_drewN ?_ _ | refine blk_drew ?_ | refine blk_alloc ?_ _)); exact BK484.out) hb); have n4_ := Aside0.mk (blk_below (g := gb488) (o := .cells #[.int .i64 t499, .int .i64 t500] 23 (0, 0)) (by (with_reducible repeat (first | refine blk_drewN ?_ _ | refine blk_drew ?_ | refine blk_alloc ?_ _)); refine blk_far ?_ NB488_492.out _; (with_reducible repeat (first | refine blk_drewN ?_ _ | refine blk_drew ?_ | refine blk_alloc ?_ _)); refine blk_far ?_ NB488_492.out _; (with_reducible repeat (first | refine blk_drewN ?_ _ | refine blk_drew ?_ | refine blk_alloc ?_ _)); exact BK488.out) hb); have n5_ := Aside0.mk (blk_below (g := gb492) (o := .cells #[.int .i64 t502, .int .i64 t503] 23 (0, 0)) (by (with_reducible repeat (first | refine blk_drewN ?_ _ | refine blk_drew ?_ | refine blk_alloc ?_ _)); refine blk_put (cs := #[.int .i64 t502, .int .i64 t490]) ?_ 1 _ rfl; (with_reducible repeat (first | refine blk_drewN ?_ _ | refine blk_drew ?_ | refine blk_alloc ?_ _)); refine blk_put (cs := #[.int .i64 t489, .int .i64 t490]) ?_ 0 _ rfl; (with_reducible repeat (first | refine blk_drewN ?_ _ | refine blk_drew ?_ | refine blk_alloc ?_ _)); exact BK492.out) hb); have n6_ := Aside0.mk (below_step (by repeat (first | (with_reducible first | exact HB.out | apply below_alloc | apply pw_below_drewN | apply below_drew1 | refine below_set ?_ GE475.out | refine below_set ?_ GE476.out | refine below_set ?_ GE480.out | refine below_set ?_ GE484.out | refine below_set ?_ GE488.out | refine below_set ?_ GE492.out) | exact HB.out)) hb); clear BK475; clear BK476; clear BK480; clear BK484; clear BK488; clear BK492; clear HB; have BK475 := n0_; have BK476 := n1_; have BK480 := n2_; have BK484 := n3_; have BK488 := n4_; have BK492 := n5_; have HB := n6_; clear n0_ n1_ n2_ n3_ n4_ n5_ n6_; (try clear hb); (try clear hb2); (try clear hk); (try clear hi)) | ((with_reducible refine gate_dst (N := 13) rfl ?_); refine box_event ?hg (N := 13) ?hd (cs := #[.int .i64 0, .int .i64 0]) (t := 23) ?hr ?_; (case hd => rfl); (case hg => rfl); (case hr => first | (go_simp; done) | (go_simp; rfl)); intro gb508 hg w160 hbox hb; have n0_ := Aside0.mk (blk_below (g := gb475) (o := .cells #[.int .i64 a0_0, .int .i64 a0_1] 23 (0, 0)) (by (with_reducible repeat (first | refine blk_drewN ?_ _ | refine blk_drew ?_ | refine blk_alloc ?_ _)); exact BK475.out) hb); have n1_ := Aside0.mk (blk_below (g := gb476) (o := .cells #[.int .i64 a1_0, .int .i64 a1_1] 23 (0, 0)) (by (with_reducible repeat (first | refine blk_drewN ?_ _ | refine blk_drew ?_ | refine blk_alloc ?_ _)); exact BK476.out) hb); have n2_ := Aside0.mk (blk_below (g := gb480) (o := .cells #[.int .i64 t493, .int .i64 t494] 23 (0, 0)) (by (with_reducible repeat (first | refine blk_drewN ?_ _ | refine blk_drew ?_ | refine blk_alloc ?_ _)); exact BK480.out) hb); have n3_ := Aside0.mk (blk_below (g := gb484) (o := .cells #[.int .i64 t496, .int .i64 t497] 23 (0, 0)) (by (with_reducible repeat (first | refine blk_drewN ?_ _ | refine blk_drew ?_ | refine blk_alloc ?_ _)); exact BK484.out) hb); have n4_ := Aside0.mk (blk_below (g := gb488) (o := .cells #[.int .i64 t499, .int .i64 t500] 23 (0, 0)) (by (with_reducible repeat (first | refine blk_drewN ?_ _ | refine blk_drew ?_ | refine blk_alloc ?_ _)); exact BK488.out) hb); have n5_ := Aside0.mk (blk_below (g := gb492) (o := .cells #[.int .i64 t502, .int .i64 t503] 23 (0, 0)) (by (with_reducible repeat (first | refine blk_drewN ?_ _ | refine blk_drew ?_ | refine blk_alloc ?_ _)); exact BK492.out) hb); have n6_ := Aside0.mk (below_step (by repeat (first | (with_reducible first | exact HB.out | apply below_alloc | apply pw_below_drewN | apply below_drew1 | refine below_set ?_ GE475.out | refine below_set ?_ GE476.out | refine below_set ?_ GE480.out | refine below_set ?_ GE484.out | refine below_set ?_ GE488.out | refine below_set ?_ GE492.out) | exact HB.out)) hb); have n7_ := Aside0.mk (hbox); have n8_ := Aside0.mk ((by rw [hg]; exact (below_size (by repeat (first | (with_reducible first | exact HB.out | apply below_alloc | apply pw_below_drewN | apply below_drew1 | refine below_set ?_ GE475.out | refine below_set ?_ GE476.out | refine below_set ?_ GE480.out | refine below_set ?_ GE484.out | refine below_set ?_ GE488.out | refine below_set ?_ GE492.out) | exact HB.out))) : w.heap.size ≤ gb508)); have n9_ := Aside0.mk ((by rw [hg]; exact (below_size (by repeat (first | (with_reducible first | exact HB.out | apply below_alloc | apply pw_below_drewN | apply below_drew1 | refine below_set ?_ GE475.out | refine below_set ?_ GE476.out | refine below_set ?_ GE480.out | refine below_set ?_ GE484.out | refine below_set ?_ GE488.out | refine below_set ?_ GE492.out) | exact HB.out))) : w.heap.size ≤ gb508)); have n10_ := Aside0.mk ((by rw [hg]; exact Nat.ne_of_lt (blk_lt (g := gb475) (o := .cells #[.int .i64 a0_0, .int .i64 a0_1] 23 (0, 0)) (by (with_reducible repeat (first | refine blk_drewN ?_ _ | refine blk_drew ?_ | refine blk_alloc ?_ _)); exact BK475.out)) : gb475 ≠ gb508)); have n11_ := Aside0.mk ((by rw [hg]; exact Nat.ne_of_gt (blk_lt (g := gb475) (o := .cells #[.int .i64 a0_0, .int .i64 a0_1] 23 (0, 0)) (by (with_reducible repeat (first | refine blk_drewN ?_ _ | refine blk_drew ?_ | refine blk_alloc ?_ _)); exact BK475.out)) : gb508 ≠ gb475)); have n12_ := Aside0.mk ((by rw [hg]; exact Nat.ne_of_lt (blk_lt (g := gb476) (o := .cells #[.int .i64 a1_0, .int .i64 a1_1] 23 (0, 0)) (by (with_reducible repeat (first | refine blk_drewN ?_ _ | refine blk_drew ?_ | refine blk_alloc ?_ _)); exact BK476.out)) : gb476 ≠ gb508)); have n13_ := Aside0.mk ((by rw [hg]; exact Nat.ne_of_gt (blk_lt (g := gb476) (o := .cells #[.int .i64 a1_0, .int .i64 a1_1] 23 (0, 0)) (by (with_reducible repeat (first | refine blk_drewN ?_ _ | refine blk_drew ?_ | refine blk_alloc ?_ _)); exact BK476.out)) : gb508 ≠ gb476)); have n14_ := Aside0.mk ((by rw [hg]; exact Nat.ne_of_lt (blk_lt (g := gb480) (o := .cells #[.int .i64 t493, .int .i64 t494] 23 (0, 0)) (by (with_reducible repeat (first | refine blk_drewN ?_ _ | refine blk_drew ?_ | refine blk_alloc ?_ _)); exact BK480.out)) : gb480 ≠ gb508)); have n15_ := Aside0.mk ((by rw [hg]; exact Nat.ne_of_gt (blk_lt (g := gb480) (o := .cells #[.int .i64 t493, .int .i64 t494] 23 (0, 0)) (by (with_reducible repeat (first | refine blk_drewN ?_ _ | refine blk_drew ?_ | refine blk_alloc ?_ _)); exact BK480.out)) : gb508 ≠ gb480)); have n16_ := Aside0.mk ((by rw [hg]; exact Nat.ne_of_lt (blk_lt (g := gb484) (o := .cells #[.int .i64 t496, .int .i64 t497] 23 (0, 0)) (by (with_reducible repeat (first | refine blk_drewN ?_ _ | refine blk_drew ?_ | refine blk_alloc ?_ _)); exact BK484.out)) : gb484 ≠ gb508)); have n17_ := Aside0.mk ((by rw [hg]; exact Nat.ne_of_gt (blk_lt (g := gb484) (o := .cells #[.int .i64 t496, .int .i64 t497] 23 (0, 0)) (by (with_reducible repeat (first | refine blk_drewN ?_ _ | refine blk_drew ?_ | refine blk_alloc ?_ _)); exact BK484.out)) : gb508 ≠ gb484)); have n18_ := Aside0.mk ((by rw [hg]; exact Nat.ne_of_lt (blk_lt (g := gb488) (o := .cells #[.int .i64 t499, .int .i64 t500] 23 (0, 0)) (by (with_reducible repeat (first | refine blk_drewN ?_ _ | refine blk_drew ?_ | refine blk_alloc ?_ _)); exact BK488.out)) : gb488 ≠ gb508)); have n19_ := Aside0.mk ((by rw [hg]; exact Nat.ne_of_gt (blk_lt (g := gb488) (o := .cells #[.int .i64 t499, .int .i64 t500] 23 (0, 0)) (by (with_reducible repeat (first | refine blk_drewN ?_ _ | refine blk_drew ?_ | refine blk_alloc ?_ _)); exact BK488.out)) : gb508 ≠ gb488)); have n20_ := Aside0.mk ((by rw [hg]; exact Nat.ne_of_lt (blk_lt (g := gb492) (o := .cells #[.int .i64 t502, .int .i64 t503] 23 (0, 0)) (by (with_reducible repeat (first | refine blk_drewN ?_ _ | refine blk_drew ?_ | refine blk_alloc ?_ _)); exact BK492.out)) : gb492 ≠ gb508)); have n21_ := Aside0.mk ((by rw [hg]; exact Nat.ne_of_gt (blk_lt (g := gb492) (o := .cells #[.int .i64 t502, .int .i64 t503] 23 (0, 0)) (by (with_reducible repeat (first | refine blk_drewN ?_ _ | refine blk_drew ?_ | refine blk_alloc ?_ _)); exact BK492.out)) : gb508 ≠ gb492)); clear BK475; clear BK476; clear BK480; clear BK484; clear BK488; clear BK492; clear HB; have BK475 := n0_; have BK476 := n1_; have BK480 := n2_; have BK484 := n3_; have BK488 := n4_; have BK492 := n5_; have HB := n6_; have BK508 := n7_; have GW508 := n8_; have GE508 := n9_; have NB475_508 := n10_; have NB508_475 := n11_; have NB476_508 := n12_; have NB508_476 := n13_; have NB480_508 := n14_; have NB508_480 := n15_; have NB484_508 := n16_; have NB508_484 := n17_; have NB488_508 := n18_; have NB508_488 := n19_; have NB492_508 := n20_; have NB508_492 := n21_; clear n0_ n1_ n2_ n3_ n4_ n5_ n6_ n7_ n8_ n9_ n10_ n11_ n12_ n13_ n14_ n15_ n16_ n17_ n18_ n19_ n20_ n21_; clear hb hbox hg; have hnb161 := NB508_475.out; have hnc161 := NB475_508.out; have hnb162 := NB508_476.out; have hnc162 := NB476_508.out; have hnb163 := NB508_480.out; have hnc163 := NB480_508.out; have hnb164 := NB508_484.out; have hnc164 := NB484_508.out; have hnb165 := NB508_488.out; have hnc165 := NB488_508.out; have hnb166 := NB508_492.out; have hnc166 := NB492_508.out; have hcz167_0 : w160.cell? ⟨gb508, 0, none⟩ = some (.int .i64 0) := (blk_cell BK508.out 0).trans rfl; have hcz167_1 : w160.cell? ⟨gb508, 1, none⟩ = some (.int .i64 0) := (blk_cell BK508.out 1).trans rfl; have hfz167_0 := blk_frozen BK508.out 0; have hfz167_1 := blk_frozen BK508.out 1; have hcz168_0 : w160.cell? ⟨gb475, 0, none⟩ = some (.int .i64 a0_0) := (blk_cell BK475.out 0).trans rfl; have hcz168_1 : w160.cell? ⟨gb475, 1, none⟩ = some (.int .i64 a0_1) := (blk_cell BK475.out 1).trans rfl; have hfz168_0 := blk_frozen BK475.out 0; have hfz168_1 := blk_frozen BK475.out 1) | ((with_reducible refine gate_callee (f := 46) rfl ?_); refine goesL_ (some 90) rfl rfl Tryd.func46 (by kernel_rfl) rfl #[.agg #[.int .i64 a0_0, .int .i64 a0_1]] rfl (by (try simp only [List.map_toArray, List.map_cons, List.map_nil]); first | done | rfl | (simp only [List.length_drop, List.length_take]; rfl)) ?_; (with_reducible refine (payrollref1_Neg.calls kj6 a0_0 a0_1 t509 t510 t511 _ A112.out).mono ?_); rintro e w169 ⟨rfl, hb⟩; refine ⟨_, rfl, ?_⟩; have n0_ := Aside0.mk (blk_below (g := gb475) (o := .cells #[.int .i64 a0_0, .int .i64 a0_1] 23 (0, 0)) (by (with_reducible repeat (first | refine blk_drewN ?_ _ | refine blk_drew ?_ | refine blk_alloc ?_ _)); refine blk_far ?_ NB475_508.out _; (with_reducible repeat (first | refine blk_drewN ?_ _ | refine blk_drew ?_ | refine blk_alloc ?_ _)); refine blk_far ?_ NB475_508.out _; (with_reducible repeat (first | refine blk_drewN ?_ _ | refine blk_drew ?_ | refine blk_alloc ?_ _)); exact BK475.out) hb); have n1_ := Aside0.mk (blk_below (g := gb476) (o := .cells #[.int .i64 a1_0, .int .i64 a1_1] 23 (0, 0)) (by (with_reducible repeat (first | refine blk_drewN ?_ _ | refine blk_drew ?_ | refine blk_alloc ?_ _)); refine blk_far ?_ NB476_508.out _; (with_reducible repeat (first | refine blk_drewN ?_ _ | refine blk_drew ?_ | refine blk_alloc ?_ _)); refine blk_far ?_ NB476_508.out _; (with_reducible repeat (first | refine blk_drewN ?_ _ | refine blk_drew ?_ | refine blk_alloc ?_ _)); exact BK476.out) hb); have n2_ := Aside0.mk (blk_below (g := gb480) (o := .cells #[.int .i64 t493, .int .i64 t494] 23 (0, 0)) (by (with_reducible repeat (first | refine blk_drewN ?_ _ | refine blk_drew ?_ | refine blk_alloc ?_ _)); refine blk_far ?_ NB480_508.out _; (with_reducible repeat (first | refine blk_drewN ?_ _ | refine blk_drew ?_ | refine blk_alloc ?_ _)); refine blk_far ?_ NB480_508.out _; (with_reducible repeat (first | refine blk_drewN ?_ _ | refine blk_drew ?_ | refine blk_alloc ?_ _)); exact BK480.out) hb); have n3_ := Aside0.mk (blk_below (g := gb484) (o := .cells #[.int .i64 t496, .int .i64 t497] 23 (0, 0)) (by (with_reducible repeat (first | refine blk_drewN ?_ _ | refine blk_drew ?_ | refine blk_alloc ?_ _)); refine blk_far ?_ NB484_508.out _; (with_reducible repeat (first | refine blk_drewN ?_ _ | refine blk_drew ?_ | refine blk_alloc ?_ _)); refine blk_far ?_ NB484_508.out _; (with_reducible repeat (first | refine blk_drewN ?_ _ | refine blk_drew ?_ | refine blk_alloc ?_ _)); exact BK484.out) hb); have n4_ := Aside0.mk (blk_below (g := gb488) (o := .cells #[.int .i64 t499, .int .i64 t500] 23 (0, 0)) (by (with_reducible repeat (first | refine blk_drewN ?_ _ | refine blk_drew ?_ | refine blk_alloc ?_ _)); refine blk_far ?_ NB488_508.out _; (with_reducible repeat (first | refine blk_drewN ?_ _ | refine blk_drew ?_ | refine blk_alloc ?_ _)); refine blk_far ?_ NB488_508.out _; (with_reducible repeat (first | refine blk_drewN ?_ _ | refine blk_drew ?_ | refine blk_alloc ?_ _)); exact BK488.out) hb); have n5_ := Aside0.mk (blk_below (g := gb492) (o := .cells #[.int .i64 t502, .int .i64 t503] 23 (0, 0)) (by (with_reducible repeat (first | refine blk_drewN ?_ _ | refine blk_drew ?_ | refine blk_alloc ?_ _)); refine blk_far ?_ NB492_508.out _; (with_reducible repeat (first | refine blk_drewN ?_ _ | refine blk_drew ?_ | refine blk_alloc ?_ _)); refine blk_far ?_ NB492_508.out _; (with_reducible repeat (first | refine blk_drewN ?_ _ | refine blk_drew ?_ | refine blk_alloc ?_ _)); exact BK492.out) hb); have n6_ := Aside0.mk (blk_below (g := gb508) (o := .cells #[.int .i64 t505, .int .i64 t506] 23 (0, 0)) (by (with_reducible repeat (first | refine blk_drewN ?_ _ | refine blk_drew ?_ | refine blk_alloc ?_ _)); refine blk_put (cs := #[.int .i64 t505, .int .i64 0]) ?_ 1 _ rfl; (with_reducible repeat (first | refine blk_drewN ?_ _ | refine blk_drew ?_ | refine blk_alloc ?_ _)); refine blk_put (cs := #[.int .i64 0, .int .i64 0]) ?_ 0 _ rfl; (with_reducible repeat (first | refine blk_drewN ?_ _ | refine blk_drew ?_ | refine blk_alloc ?_ _)); exact BK508.out) hb); have n7_ := Aside0.mk (below_step (by repeat (first | (with_reducible first | exact HB.out | apply below_alloc | apply pw_below_drewN | apply below_drew1 | refine below_set ?_ GE475.out | refine below_set ?_ GE476.out | refine below_set ?_ GE480.out | refine below_set ?_ GE484.out | refine below_set ?_ GE488.out | refine below_set ?_ GE492.out | refine below_set ?_ GE508.out) | exact HB.out)) hb); clear BK475; clear BK476; clear BK480; clear BK484; clear BK488; clear BK492; clear BK508; clear HB; have BK475 := n0_; have BK476 := n1_; have BK480 := n2_; have BK484 := n3_; have BK488 := n4_; have BK492 := n5_; have BK508 := n6_; have HB := n7_; clear n0_ n1_ n2_ n3_ n4_ n5_ n6_ n7_; (try clear hb); (try clear hb2); (try clear hk); (try clear hi)) | ((with_reducible refine gate_dst (N := 15) rfl ?_); refine box_event ?hg (N := 15) ?hd (cs := #[.int .i64 0, .int .i64 0]) (t := 23) ?hr ?_; (case hd => rfl); (case hg => rfl); (case hr => first | (go_simp; done) | (go_simp; rfl)); intro gb512 hg w170 hbox hb; have n0_ := Aside0.mk (blk_below (g := gb475) (o := .cells #[.int .i64 a0_0, .int .i64 a0_1] 23 (0, 0)) (by (with_reducible repeat (first | refine blk_drewN ?_ _ | refine blk_drew ?_ | refine blk_alloc ?_ _)); exact BK475.out) hb); have n1_ := Aside0.mk (blk_below (g := gb476) (o := .cells #[.int .i64 a1_0, .int .i64 a1_1] 23 (0, 0)) (by (with_reducible repeat (first | refine blk_drewN ?_ _ | refine blk_drew ?_ | refine blk_alloc ?_ _)); exact BK476.out) hb); have n2_ := Aside0.mk (blk_below (g := gb480) (o := .cells #[.int .i64 t493, .int .i64 t494] 23 (0, 0)) (by (with_reducible repeat (first | refine blk_drewN ?_ _ | refine blk_drew ?_ | refine blk_alloc ?_ _)); exact BK480.out) hb); have n3_ := Aside0.mk (blk_below (g := gb484) (o := .cells #[.int .i64 t496, .int .i64 t497] 23 (0, 0)) (by (with_reducible repeat (first | refine blk_drewN ?_ _ | refine blk_drew ?_ | refine blk_alloc ?_ _)); exact BK484.out) hb); have n4_ := Aside0.mk (blk_below (g := gb488) (o := .cells #[.int .i64 t499, .int .i64 t500] 23 (0, 0)) (by (with_reducible repeat (first | refine blk_drewN ?_ _ | refine blk_drew ?_ | refine blk_alloc ?_ _)); exact BK488.out) hb); have n5_ := Aside0.mk (blk_below (g := gb492) (o := .cells #[.int .i64 t502, .int .i64 t503] 23 (0, 0)) (by (with_reducible repeat (first | refine blk_drewN ?_ _ | refine blk_drew ?_ | refine blk_alloc ?_ _)); exact BK492.out) hb); have n6_ := Aside0.mk (blk_below (g := gb508) (o := .cells #[.int .i64 t505, .int .i64 t506] 23 (0, 0)) (by (with_reducible repeat (first | refine blk_drewN ?_ _ | refine blk_drew ?_ | refine blk_alloc ?_ _)); exact BK508.out) hb); have n7_ := Aside0.mk (below_step (by repeat (first | (with_reducible first | exact HB.out | apply below_alloc | apply pw_below_drewN | apply below_drew1 | refine below_set ?_ GE475.out | refine below_set ?_ GE476.out | refine below_set ?_ GE480.out | refine below_set ?_ GE484.out | refine below_set ?_ GE488.out | refine below_set ?_ GE492.out | refine below_set ?_ GE508.out) | exact HB.out)) hb); have n8_ := Aside0.mk (hbox); have n9_ := Aside0.mk ((by rw [hg]; exact (below_size (by repeat (first | (with_reducible first | exact HB.out | apply below_alloc | apply pw_below_drewN | apply below_drew1 | refine below_set ?_ GE475.out | refine below_set ?_ GE476.out | refine below_set ?_ GE480.out | refine below_set ?_ GE484.out | refine below_set ?_ GE488.out | refine below_set ?_ GE492.out | refine below_set ?_ GE508.out) | exact HB.out))) : w.heap.size ≤ gb512)); have n10_ := Aside0.mk ((by rw [hg]; exact (below_size (by repeat (first | (with_reducible first | exact HB.out | apply below_alloc | apply pw_below_drewN | apply below_drew1 | refine below_set ?_ GE475.out | refine below_set ?_ GE476.out | refine below_set ?_ GE480.out | refine below_set ?_ GE484.out | refine below_set ?_ GE488.out | refine below_set ?_ GE492.out | refine below_set ?_ GE508.out) | exact HB.out))) : w.heap.size ≤ gb512)); have n11_ := Aside0.mk ((by rw [hg]; exact Nat.ne_of_lt (blk_lt (g := gb475) (o := .cells #[.int .i64 a0_0, .int .i64 a0_1] 23 (0, 0)) (by (with_reducible repeat (first | refine blk_drewN ?_ _ | refine blk_drew ?_ | refine blk_alloc ?_ _)); exact BK475.out)) : gb475 ≠ gb512)); have n12_ := Aside0.mk ((by rw [hg]; exact Nat.ne_of_gt (blk_lt (g := gb475) (o := .cells #[.int .i64 a0_0, .int .i64 a0_1] 23 (0, 0)) (by (with_reducible repeat (first | refine blk_drewN ?_ _ | refine blk_drew ?_ | refine blk_alloc ?_ _)); exact BK475.out)) : gb512 ≠ gb475)); have n13_ := Aside0.mk ((by rw [hg]; exact Nat.ne_of_lt (blk_lt (g := gb476) (o := .cells #[.int .i64 a1_0, .int .i64 a1_1] 23 (0, 0)) (by (with_reducible repeat (first | refine blk_drewN ?_ _ | refine blk_drew ?_ | refine blk_alloc ?_ _)); exact BK476.out)) : gb476 ≠ gb512)); have n14_ := Aside0.mk ((by rw [hg]; exact Nat.ne_of_gt (blk_lt (g := gb476) (o := .cells #[.int .i64 a1_0, .int .i64 a1_1] 23 (0, 0)) (by (with_reducible repeat (first | refine blk_drewN ?_ _ | refine blk_drew ?_ | refine blk_alloc ?_ _)); exact BK476.out)) : gb512 ≠ gb476)); have n15_ := Aside0.mk ((by rw [hg]; exact Nat.ne_of_lt (blk_lt (g := gb480) (o := .cells #[.int .i64 t493, .int .i64 t494] 23 (0, 0)) (by (with_reducible repeat (first | refine blk_drewN ?_ _ | refine blk_drew ?_ | refine blk_alloc ?_ _)); exact BK480.out)) : gb480 ≠ gb512)); have n16_ := Aside0.mk ((by rw [hg]; exact Nat.ne_of_gt (blk_lt (g := gb480) (o := .cells #[.int .i64 t493, .int .i64 t494] 23 (0, 0)) (by (with_reducible repeat (first | refine blk_drewN ?_ _ | refine blk_drew ?_ | refine blk_alloc ?_ _)); exact BK480.out)) : gb512 ≠ gb480)); have n17_ := Aside0.mk ((by rw [hg]; exact Nat.ne_of_lt (blk_lt (g := gb484) (o := .cells #[.int .i64 t496, .int .i64 t497] 23 (0, 0)) (by (with_reducible repeat (first | refine blk_drewN ?_ _ | refine blk_drew ?_ | refine blk_alloc ?_ _)); exact BK484.out)) : gb484 ≠ gb512)); have n18_ := Aside0.mk ((by rw [hg]; exact Nat.ne_of_gt (blk_lt (g := gb484) (o := .cells #[.int .i64 t496, .int .i64 t497] 23 (0, 0)) (by (with_reducible repeat (first | refine blk_drewN ?_ _ | refine blk_drew ?_ | refine blk_alloc ?_ _)); exact BK484.out)) : gb512 ≠ gb484)); have n19_ := Aside0.mk ((by rw [hg]; exact Nat.ne_of_lt (blk_lt (g := gb488) (o := .cells #[.int .i64 t499, .int .i64 t500] 23 (0, 0)) (by (with_reducible repeat (first | refine blk_drewN ?_ _ | refine blk_drew ?_ | refine blk_alloc ?_ _)); exact BK488.out)) : gb488 ≠ gb512)); have n20_ := Aside0.mk ((by rw [hg]; exact Nat.ne_of_gt (blk_lt (g := gb488) (o := .cells #[.int .i64 t499, .int .i64 t500] 23 (0, 0)) (by (with_reducible repeat (first | refine blk_drewN ?_ _ | refine blk_drew ?_ | refine blk_alloc ?_ _)); exact BK488.out)) : gb512 ≠ gb488)); have n21_ := Aside0.mk ((by rw [hg]; exact Nat.ne_of_lt (blk_lt (g := gb492) (o := .cells #[.int .i64 t502, .int .i64 t503] 23 (0, 0)) (by (with_reducible repeat (first | refine blk_drewN ?_ _ | refine blk_drew ?_ | refine blk_alloc ?_ _)); exact BK492.out)) : gb492 ≠ gb512)); have n22_ := Aside0.mk ((by rw [hg]; exact Nat.ne_of_gt (blk_lt (g := gb492) (o := .cells #[.int .i64 t502, .int .i64 t503] 23 (0, 0)) (by (with_reducible repeat (first | refine blk_drewN ?_ _ | refine blk_drew ?_ | refine blk_alloc ?_ _)); exact BK492.out)) : gb512 ≠ gb492)); have n23_ := Aside0.mk ((by rw [hg]; exact Nat.ne_of_lt (blk_lt (g := gb508) (o := .cells #[.int .i64 t505, .int .i64 t506] 23 (0, 0)) (by (with_reducible repeat (first | refine blk_drewN ?_ _ | refine blk_drew ?_ | refine blk_alloc ?_ _)); exact BK508.out)) : gb508 ≠ gb512)); have n24_ := Aside0.mk ((by rw [hg]; exact Nat.ne_of_gt (blk_lt (g := gb508) (o := .cells #[.int .i64 t505, .int .i64 t506] 23 (0, 0)) (by (with_reducible repeat (first | refine blk_drewN ?_ _ | refine blk_drew ?_ | refine blk_alloc ?_ _)); exact BK508.out)) : gb512 ≠ gb508)); clear BK475; clear BK476; clear BK480; clear BK484; clear BK488; clear BK492; clear BK508; clear HB; have BK475 := n0_; have BK476 := n1_; have BK480 := n2_; have BK484 := n3_; have BK488 := n4_; have BK492 := n5_; have BK508 := n6_; have HB := n7_; have BK512 := n8_; have GW512 := n9_; have GE512 := n10_; have NB475_512 := n11_; have NB512_475 := n12_; have NB476_512 := n13_; have NB512_476 := n14_; have NB480_512 := n15_; have NB512_480 := n16_; have NB484_512 := n17_; have NB512_484 := n18_; have NB488_512 := n19_; have NB512_488 := n20_; have NB492_512 := n21_; have NB512_492 := n22_; have NB508_512 := n23_; have NB512_508 := n24_; clear n0_ n1_ n2_ n3_ n4_ n5_ n6_ n7_ n8_ n9_ n10_ n11_ n12_ n13_ n14_ n15_ n16_ n17_ n18_ n19_ n20_ n21_ n22_ n23_ n24_; clear hb hbox hg; have hnb171 := NB512_475.out; have hnc171 := NB475_512.out; have hnb172 := NB512_476.out; have hnc172 := NB476_512.out; have hnb173 := NB512_480.out; have hnc173 := NB480_512.out; have hnb174 := NB512_484.out; have hnc174 := NB484_512.out; have hnb175 := NB512_488.out; have hnc175 := NB488_512.out; have hnb176 := NB512_492.out; have hnc176 := NB492_512.out; have hnb177 := NB512_508.out; have hnc177 := NB508_512.out; have hcz178_0 : w170.cell? ⟨gb512, 0, none⟩ = some (.int .i64 0) := (blk_cell BK512.out 0).trans rfl; have hcz178_1 : w170.cell? ⟨gb512, 1, none⟩ = some (.int .i64 0) := (blk_cell BK512.out 1).trans rfl; have hfz178_0 := blk_frozen BK512.out 0; have hfz178_1 := blk_frozen BK512.out 1))
                        have n0_ : Aside0 (((w170.setCell ⟨gb512, 0, none⟩ (.int .i64 t509)).setCell ⟨gb512, 1, none⟩ (.int .i64 t510)).heap[gb475]? = some (.cells #[.int .i64 a0_0, .int .i64 a0_1] 23 (0, 0))) := ⟨by (with_reducible repeat (first | refine blk_drewN ?_ _ | refine blk_drew ?_ | refine blk_alloc ?_ _)); refine blk_far ?_ NB475_512.out _; (with_reducible repeat (first | refine blk_drewN ?_ _ | refine blk_drew ?_ | refine blk_alloc ?_ _)); refine blk_far ?_ NB475_512.out _; (with_reducible repeat (first | refine blk_drewN ?_ _ | refine blk_drew ?_ | refine blk_alloc ?_ _)); exact BK475.out⟩
                        have n1_ : Aside0 (((w170.setCell ⟨gb512, 0, none⟩ (.int .i64 t509)).setCell ⟨gb512, 1, none⟩ (.int .i64 t510)).heap[gb476]? = some (.cells #[.int .i64 a1_0, .int .i64 a1_1] 23 (0, 0))) := ⟨by (with_reducible repeat (first | refine blk_drewN ?_ _ | refine blk_drew ?_ | refine blk_alloc ?_ _)); refine blk_far ?_ NB476_512.out _; (with_reducible repeat (first | refine blk_drewN ?_ _ | refine blk_drew ?_ | refine blk_alloc ?_ _)); refine blk_far ?_ NB476_512.out _; (with_reducible repeat (first | refine blk_drewN ?_ _ | refine blk_drew ?_ | refine blk_alloc ?_ _)); exact BK476.out⟩
                        have n2_ : Aside0 (((w170.setCell ⟨gb512, 0, none⟩ (.int .i64 t509)).setCell ⟨gb512, 1, none⟩ (.int .i64 t510)).heap[gb480]? = some (.cells #[.int .i64 t493, .int .i64 t494] 23 (0, 0))) := ⟨by (with_reducible repeat (first | refine blk_drewN ?_ _ | refine blk_drew ?_ | refine blk_alloc ?_ _)); refine blk_far ?_ NB480_512.out _; (with_reducible repeat (first | refine blk_drewN ?_ _ | refine blk_drew ?_ | refine blk_alloc ?_ _)); refine blk_far ?_ NB480_512.out _; (with_reducible repeat (first | refine blk_drewN ?_ _ | refine blk_drew ?_ | refine blk_alloc ?_ _)); exact BK480.out⟩
                        have n3_ : Aside0 (((w170.setCell ⟨gb512, 0, none⟩ (.int .i64 t509)).setCell ⟨gb512, 1, none⟩ (.int .i64 t510)).heap[gb484]? = some (.cells #[.int .i64 t496, .int .i64 t497] 23 (0, 0))) := ⟨by (with_reducible repeat (first | refine blk_drewN ?_ _ | refine blk_drew ?_ | refine blk_alloc ?_ _)); refine blk_far ?_ NB484_512.out _; (with_reducible repeat (first | refine blk_drewN ?_ _ | refine blk_drew ?_ | refine blk_alloc ?_ _)); refine blk_far ?_ NB484_512.out _; (with_reducible repeat (first | refine blk_drewN ?_ _ | refine blk_drew ?_ | refine blk_alloc ?_ _)); exact BK484.out⟩
                        have n4_ : Aside0 (((w170.setCell ⟨gb512, 0, none⟩ (.int .i64 t509)).setCell ⟨gb512, 1, none⟩ (.int .i64 t510)).heap[gb488]? = some (.cells #[.int .i64 t499, .int .i64 t500] 23 (0, 0))) := ⟨by (with_reducible repeat (first | refine blk_drewN ?_ _ | refine blk_drew ?_ | refine blk_alloc ?_ _)); refine blk_far ?_ NB488_512.out _; (with_reducible repeat (first | refine blk_drewN ?_ _ | refine blk_drew ?_ | refine blk_alloc ?_ _)); refine blk_far ?_ NB488_512.out _; (with_reducible repeat (first | refine blk_drewN ?_ _ | refine blk_drew ?_ | refine blk_alloc ?_ _)); exact BK488.out⟩
                        have n5_ : Aside0 (((w170.setCell ⟨gb512, 0, none⟩ (.int .i64 t509)).setCell ⟨gb512, 1, none⟩ (.int .i64 t510)).heap[gb492]? = some (.cells #[.int .i64 t502, .int .i64 t503] 23 (0, 0))) := ⟨by (with_reducible repeat (first | refine blk_drewN ?_ _ | refine blk_drew ?_ | refine blk_alloc ?_ _)); refine blk_far ?_ NB492_512.out _; (with_reducible repeat (first | refine blk_drewN ?_ _ | refine blk_drew ?_ | refine blk_alloc ?_ _)); refine blk_far ?_ NB492_512.out _; (with_reducible repeat (first | refine blk_drewN ?_ _ | refine blk_drew ?_ | refine blk_alloc ?_ _)); exact BK492.out⟩
                        have n6_ : Aside0 (((w170.setCell ⟨gb512, 0, none⟩ (.int .i64 t509)).setCell ⟨gb512, 1, none⟩ (.int .i64 t510)).heap[gb508]? = some (.cells #[.int .i64 t505, .int .i64 t506] 23 (0, 0))) := ⟨by (with_reducible repeat (first | refine blk_drewN ?_ _ | refine blk_drew ?_ | refine blk_alloc ?_ _)); refine blk_far ?_ NB508_512.out _; (with_reducible repeat (first | refine blk_drewN ?_ _ | refine blk_drew ?_ | refine blk_alloc ?_ _)); refine blk_far ?_ NB508_512.out _; (with_reducible repeat (first | refine blk_drewN ?_ _ | refine blk_drew ?_ | refine blk_alloc ?_ _)); exact BK508.out⟩
                        have n7_ : Aside0 (((w170.setCell ⟨gb512, 0, none⟩ (.int .i64 t509)).setCell ⟨gb512, 1, none⟩ (.int .i64 t510)).heap[gb512]? = some (.cells #[.int .i64 t509, .int .i64 t510] 23 (0, 0))) := ⟨by (with_reducible repeat (first | refine blk_drewN ?_ _ | refine blk_drew ?_ | refine blk_alloc ?_ _)); refine blk_put (cs := #[.int .i64 t509, .int .i64 0]) ?_ 1 _ rfl; (with_reducible repeat (first | refine blk_drewN ?_ _ | refine blk_drew ?_ | refine blk_alloc ?_ _)); refine blk_put (cs := #[.int .i64 0, .int .i64 0]) ?_ 0 _ rfl; (with_reducible repeat (first | refine blk_drewN ?_ _ | refine blk_drew ?_ | refine blk_alloc ?_ _)); exact BK512.out⟩
                        have n8_ : Aside0 (Below w.heap.size w ((w170.setCell ⟨gb512, 0, none⟩ (.int .i64 t509)).setCell ⟨gb512, 1, none⟩ (.int .i64 t510))) := ⟨by repeat (first | (with_reducible first | exact HB.out | apply below_alloc | apply pw_below_drewN | apply below_drew1 | refine below_set ?_ GE475.out | refine below_set ?_ GE476.out | refine below_set ?_ GE480.out | refine below_set ?_ GE484.out | refine below_set ?_ GE488.out | refine below_set ?_ GE492.out | refine below_set ?_ GE508.out | refine below_set ?_ GE512.out) | exact HB.out)⟩
                        (try clear BK475)
                        (try clear BK476)
                        (try clear BK480)
                        (try clear BK484)
                        (try clear BK488)
                        (try clear BK492)
                        (try clear BK508)
                        (try clear BK512)
                        (try clear HB)
                        generalize ((w170.setCell ⟨gb512, 0, none⟩ (.int .i64 t509)).setCell ⟨gb512, 1, none⟩ (.int .i64 t510)) = w179 at n0_ n1_ n2_ n3_ n4_ n5_ n6_ n7_ n8_ ⊢
                        have BK475 := n0_
                        have BK476 := n1_
                        have BK480 := n2_
                        have BK484 := n3_
                        have BK488 := n4_
                        have BK492 := n5_
                        have BK508 := n6_
                        have BK512 := n7_
                        have HB := n8_
                        clear n0_ n1_ n2_ n3_ n4_ n5_ n6_ n7_ n8_
                        have n0_ := Aside0.mk (blk_drew BK475.out)
                        have n1_ := Aside0.mk (blk_drew BK476.out)
                        have n2_ := Aside0.mk (blk_drew BK480.out)
                        have n3_ := Aside0.mk (blk_drew BK484.out)
                        have n4_ := Aside0.mk (blk_drew BK488.out)
                        have n5_ := Aside0.mk (blk_drew BK492.out)
                        have n6_ := Aside0.mk (blk_drew BK508.out)
                        have n7_ := Aside0.mk (blk_drew BK512.out)
                        have n8_ := Aside0.mk (below_drew1 HB.out)
                        clear BK475
                        clear BK476
                        clear BK480
                        clear BK484
                        clear BK488
                        clear BK492
                        clear BK508
                        clear BK512
                        clear HB
                        have BK475 := n0_
                        have BK476 := n1_
                        have BK480 := n2_
                        have BK484 := n3_
                        have BK488 := n4_
                        have BK492 := n5_
                        have BK508 := n6_
                        have BK512 := n7_
                        have HB := n8_
                        clear n0_ n1_ n2_ n3_ n4_ n5_ n6_ n7_ n8_
                        refine start_ (n := 52) (S := fun w' => w'.cell? ⟨gb480, 0, none⟩ = some (.int .i64 t493) ∧ w'.cell? ⟨gb480, 1, none⟩ = some (.int .i64 t494) ∧ w'.cell? ⟨gb484, 0, none⟩ = some (.int .i64 t496) ∧ w'.cell? ⟨gb484, 1, none⟩ = some (.int .i64 t497) ∧ w'.cell? ⟨gb488, 0, none⟩ = some (.int .i64 t499) ∧ w'.cell? ⟨gb488, 1, none⟩ = some (.int .i64 t500) ∧ w'.cell? ⟨gb492, 0, none⟩ = some (.int .i64 t502) ∧ w'.cell? ⟨gb492, 1, none⟩ = some (.int .i64 t503) ∧ w'.cell? ⟨gb508, 0, none⟩ = some (.int .i64 t505) ∧ w'.cell? ⟨gb508, 1, none⟩ = some (.int .i64 t506) ∧ w'.cell? ⟨gb512, 0, none⟩ = some (.int .i64 t509) ∧ w'.cell? ⟨gb512, 1, none⟩ = some (.int .i64 t510) ∧ w'.cell? ⟨gb475, 0, none⟩ = some (.int .i64 a0_0) ∧ w'.cell? ⟨gb475, 1, none⟩ = some (.int .i64 a0_1) ∧ w'.cell? ⟨gb476, 0, none⟩ = some (.int .i64 a1_0) ∧ w'.cell? ⟨gb476, 1, none⟩ = some (.int .i64 a1_1)) (ds := []) #[false, false, false, false, false, false, false, false, false, false, false, false, false, false, false, false, false, false, false, false, false, false, false, false, false, false, false, false, false, false, false, false, false, false, false, false, false, false, false, false, false, false, false, false, false, false, false, false, false, false, false, false] (by kernel_rfl) rfl rfl ⟨(blk_cell BK480.out 0).trans rfl, (blk_cell BK480.out 1).trans rfl, (blk_cell BK484.out 0).trans rfl, (blk_cell BK484.out 1).trans rfl, (blk_cell BK488.out 0).trans rfl, (blk_cell BK488.out 1).trans rfl, (blk_cell BK492.out 0).trans rfl, (blk_cell BK492.out 1).trans rfl, (blk_cell BK508.out 0).trans rfl, (blk_cell BK508.out 1).trans rfl, (blk_cell BK512.out 0).trans rfl, (blk_cell BK512.out 1).trans rfl, (blk_cell BK475.out 0).trans rfl, (blk_cell BK475.out 1).trans rfl, (blk_cell BK476.out 0).trans rfl, (blk_cell BK476.out 1).trans rfl⟩ (fun hHeld => ?_); refine with_tabW payrolllaw1_agrees.tab13 payrolllaw1_agrees.bits13 (fun HT_ HW_ => ?_)
                        generalize w179.drew = w180 at BK475 BK476 BK480 BK484 BK488 BK492 BK508 BK512 HB hHeld ⊢
                        refine take_ (i := 0) (N := some 93) (v := ?_) (a' := ?_) #[true, false, false, false, false, false, false, false, false, false, false, false, false, false, false, false, false, false, false, false, false, false, false, false, false, false, false, false, false, false, false, false, false, false, false, false, false, false, false, false, false, false, false, false, false, false, false, false, false, false, false, false] rfl rfl (take_ofW HT_.out HW_.out (by kernel_rfl)) (fun _ _ _ h => h) (Or.inl ⟨by rfl, ?_⟩) hHeld ?_ ?_
                        rotate_left
                        · rintro w' ⟨s0, s1, s2, s3, s4, s5, s6, s7, s8, s9, s10, s11, s12, s13, s14, s15⟩
                          go_simp
                          with_reducible rfl
                        rotate_left
                        · simp only [Act.put, List.setIfInBounds_toArray, List.set_cons_zero, List.set_cons_succ, i64_w, i32_w]
                          rfl
                        refine take_ (i := 1) (N := some 94) (v := ?_) (a' := ?_) #[true, true, false, false, false, false, false, false, false, false, false, false, false, false, false, false, false, false, false, false, false, false, false, false, false, false, false, false, false, false, false, false, false, false, false, false, false, false, false, false, false, false, false, false, false, false, false, false, false, false, false, false] rfl rfl (take_ofW HT_.out HW_.out (by kernel_rfl)) (fun _ _ _ h => h) (Or.inl ⟨by rfl, ?_⟩) hHeld ?_ ?_
                        rotate_left
                        · rintro w' ⟨s0, s1, s2, s3, s4, s5, s6, s7, s8, s9, s10, s11, s12, s13, s14, s15⟩
                          go_simp
                          with_reducible rfl
                        rotate_left
                        · simp only [Act.put, List.setIfInBounds_toArray, List.set_cons_zero, List.set_cons_succ, i64_w, i32_w]
                          rfl
                        refine pure_ (i := 2) (N := some 95) (v := ?_) (a' := ?_) #[true, true, true, false, false, false, false, false, false, false, false, false, false, false, false, false, false, false, false, false, false, false, false, false, false, false, false, false, false, false, false, false, false, false, false, false, false, false, false, false, false, false, false, false, false, false, false, false, false, false, false, false] rfl rfl (any_of HT_.out (by kernel_rfl)) (fun _ _ _ h => h) (Or.inl ⟨by rfl, ?_⟩) ?_ ?_
                        rotate_left
                        · intro w'
                          go_simp
                          with_reducible rfl
                        rotate_left
                        · simp only [Act.put, List.setIfInBounds_toArray, List.set_cons_zero, List.set_cons_succ, i64_w, i32_w]
                          rfl
                        refine pure_ (i := 3) (N := some 96) (v := ?_) (a' := ?_) #[true, true, true, true, false, false, false, false, false, false, false, false, false, false, false, false, false, false, false, false, false, false, false, false, false, false, false, false, false, false, false, false, false, false, false, false, false, false, false, false, false, false, false, false, false, false, false, false, false, false, false, false] rfl rfl (any_of HT_.out (by kernel_rfl)) (fun _ _ _ h => h) (Or.inl ⟨by rfl, ?_⟩) ?_ ?_
                        rotate_left
                        · intro w'
                          go_simp
                          with_reducible rfl
                        rotate_left
                        · simp only [Act.put, List.setIfInBounds_toArray, List.set_cons_zero, List.set_cons_succ, i64_w, i32_w]
                          rfl
                        refine pure_ (i := 4) (N := some 97) (v := ?_) (a' := ?_) #[true, true, true, true, true, false, false, false, false, false, false, false, false, false, false, false, false, false, false, false, false, false, false, false, false, false, false, false, false, false, false, false, false, false, false, false, false, false, false, false, false, false, false, false, false, false, false, false, false, false, false, false] rfl rfl (any_of HT_.out (by kernel_rfl)) (fun _ _ _ h => h) (Or.inl ⟨by rfl, ?_⟩) ?_ ?_
                        rotate_left
                        · intro w'
                          go_simp
                          with_reducible rfl
                        rotate_left
                        · simp only [Act.put, List.setIfInBounds_toArray, List.set_cons_zero, List.set_cons_succ, i64_w, i32_w]
                          rfl
                        refine pure_ (i := 5) (N := some 98) (v := ?_) (a' := ?_) #[true, true, true, true, true, true, false, false, false, false, false, false, false, false, false, false, false, false, false, false, false, false, false, false, false, false, false, false, false, false, false, false, false, false, false, false, false, false, false, false, false, false, false, false, false, false, false, false, false, false, false, false] rfl rfl (any_of HT_.out (by kernel_rfl)) (fun _ _ _ h => h) (Or.inl ⟨by rfl, ?_⟩) ?_ ?_
                        rotate_left
                        · intro w'
                          go_simp
                          with_reducible rfl
                        rotate_left
                        · simp only [Act.put, List.setIfInBounds_toArray, List.set_cons_zero, List.set_cons_succ, i64_w, i32_w]
                          rfl
                        refine pure_ (i := 6) (N := some 99) (v := ?_) (a' := ?_) #[true, true, true, true, true, true, true, false, false, false, false, false, false, false, false, false, false, false, false, false, false, false, false, false, false, false, false, false, false, false, false, false, false, false, false, false, false, false, false, false, false, false, false, false, false, false, false, false, false, false, false, false] rfl rfl (any_of HT_.out (by kernel_rfl)) (fun _ _ _ h => h) (Or.inl ⟨by rfl, ?_⟩) ?_ ?_
                        rotate_left
                        · intro w'
                          go_simp
                          with_reducible rfl
                        rotate_left
                        · simp only [Act.put, List.setIfInBounds_toArray, List.set_cons_zero, List.set_cons_succ, i64_w, i32_w]
                          rfl
                        refine pure_ (i := 7) (N := some 100) (v := ?_) (a' := ?_) #[true, true, true, true, true, true, true, true, false, false, false, false, false, false, false, false, false, false, false, false, false, false, false, false, false, false, false, false, false, false, false, false, false, false, false, false, false, false, false, false, false, false, false, false, false, false, false, false, false, false, false, false] rfl rfl (any_of HT_.out (by kernel_rfl)) (fun _ _ _ h => h) (Or.inl ⟨by rfl, ?_⟩) ?_ ?_
                        rotate_left
                        · intro w'
                          go_simp
                          with_reducible rfl
                        rotate_left
                        · simp only [Act.put, List.setIfInBounds_toArray, List.set_cons_zero, List.set_cons_succ, i64_w, i32_w]
                          rfl
                        refine pure_ (i := 8) (N := some 101) (v := ?_) (a' := ?_) #[true, true, true, true, true, true, true, true, true, false, false, false, false, false, false, false, false, false, false, false, false, false, false, false, false, false, false, false, false, false, false, false, false, false, false, false, false, false, false, false, false, false, false, false, false, false, false, false, false, false, false, false] rfl rfl (any_of HT_.out (by kernel_rfl)) (fun _ _ _ h => h) (Or.inl ⟨by rfl, ?_⟩) ?_ ?_
                        rotate_left
                        · intro w'
                          go_simp
                          with_reducible rfl
                        rotate_left
                        · simp only [Act.put, List.setIfInBounds_toArray, List.set_cons_zero, List.set_cons_succ, i64_w, i32_w]
                          rfl
                        refine take_ (i := 9) (N := some 102) (v := ?_) (a' := ?_) #[true, true, true, true, true, true, true, true, true, true, false, false, false, false, false, false, false, false, false, false, false, false, false, false, false, false, false, false, false, false, false, false, false, false, false, false, false, false, false, false, false, false, false, false, false, false, false, false, false, false, false, false] rfl rfl (take_ofW HT_.out HW_.out (by kernel_rfl)) (fun _ _ _ h => h) (Or.inl ⟨by rfl, ?_⟩) hHeld ?_ ?_
                        rotate_left
                        · rintro w' ⟨s0, s1, s2, s3, s4, s5, s6, s7, s8, s9, s10, s11, s12, s13, s14, s15⟩
                          go_simp
                          with_reducible rfl
                        rotate_left
                        · simp only [Act.put, List.setIfInBounds_toArray, List.set_cons_zero, List.set_cons_succ, i64_w, i32_w]
                          rfl
                        refine take_ (i := 10) (N := some 103) (v := ?_) (a' := ?_) #[true, true, true, true, true, true, true, true, true, true, true, false, false, false, false, false, false, false, false, false, false, false, false, false, false, false, false, false, false, false, false, false, false, false, false, false, false, false, false, false, false, false, false, false, false, false, false, false, false, false, false, false] rfl rfl (take_ofW HT_.out HW_.out (by kernel_rfl)) (fun _ _ _ h => h) (Or.inl ⟨by rfl, ?_⟩) hHeld ?_ ?_
                        rotate_left
                        · rintro w' ⟨s0, s1, s2, s3, s4, s5, s6, s7, s8, s9, s10, s11, s12, s13, s14, s15⟩
                          go_simp
                          with_reducible rfl
                        rotate_left
                        · simp only [Act.put, List.setIfInBounds_toArray, List.set_cons_zero, List.set_cons_succ, i64_w, i32_w]
                          rfl
                        refine pure_ (i := 11) (N := some 104) (v := ?_) (a' := ?_) #[true, true, true, true, true, true, true, true, true, true, true, true, false, false, false, false, false, false, false, false, false, false, false, false, false, false, false, false, false, false, false, false, false, false, false, false, false, false, false, false, false, false, false, false, false, false, false, false, false, false, false, false] rfl rfl (any_of HT_.out (by kernel_rfl)) (fun _ _ _ h => h) (Or.inl ⟨by rfl, ?_⟩) ?_ ?_
                        rotate_left
                        · intro w'
                          go_simp
                          with_reducible rfl
                        rotate_left
                        · simp only [Act.put, List.setIfInBounds_toArray, List.set_cons_zero, List.set_cons_succ, i64_w, i32_w]
                          rfl
                        refine pure_ (i := 12) (N := some 105) (v := ?_) (a' := ?_) #[true, true, true, true, true, true, true, true, true, true, true, true, true, false, false, false, false, false, false, false, false, false, false, false, false, false, false, false, false, false, false, false, false, false, false, false, false, false, false, false, false, false, false, false, false, false, false, false, false, false, false, false] rfl rfl (any_of HT_.out (by kernel_rfl)) (fun _ _ _ h => h) (Or.inl ⟨by rfl, ?_⟩) ?_ ?_
                        rotate_left
                        · intro w'
                          go_simp
                          with_reducible rfl
                        rotate_left
                        · simp only [Act.put, List.setIfInBounds_toArray, List.set_cons_zero, List.set_cons_succ, i64_w, i32_w]
                          rfl
                        refine pure_ (i := 13) (N := some 106) (v := ?_) (a' := ?_) #[true, true, true, true, true, true, true, true, true, true, true, true, true, true, false, false, false, false, false, false, false, false, false, false, false, false, false, false, false, false, false, false, false, false, false, false, false, false, false, false, false, false, false, false, false, false, false, false, false, false, false, false] rfl rfl (any_of HT_.out (by kernel_rfl)) (fun _ _ _ h => h) (Or.inl ⟨by rfl, ?_⟩) ?_ ?_
                        rotate_left
                        · intro w'
                          go_simp
                          with_reducible rfl
                        rotate_left
                        · simp only [Act.put, List.setIfInBounds_toArray, List.set_cons_zero, List.set_cons_succ, i64_w, i32_w]
                          rfl
                        refine pure_ (i := 14) (N := some 107) (v := ?_) (a' := ?_) #[true, true, true, true, true, true, true, true, true, true, true, true, true, true, true, false, false, false, false, false, false, false, false, false, false, false, false, false, false, false, false, false, false, false, false, false, false, false, false, false, false, false, false, false, false, false, false, false, false, false, false, false] rfl rfl (any_of HT_.out (by kernel_rfl)) (fun _ _ _ h => h) (Or.inl ⟨by rfl, ?_⟩) ?_ ?_
                        rotate_left
                        · intro w'
                          go_simp
                          with_reducible rfl
                        rotate_left
                        · simp only [Act.put, List.setIfInBounds_toArray, List.set_cons_zero, List.set_cons_succ, i64_w, i32_w]
                          rfl
                        refine pure_ (i := 15) (N := some 108) (v := ?_) (a' := ?_) #[true, true, true, true, true, true, true, true, true, true, true, true, true, true, true, true, false, false, false, false, false, false, false, false, false, false, false, false, false, false, false, false, false, false, false, false, false, false, false, false, false, false, false, false, false, false, false, false, false, false, false, false] rfl rfl (any_of HT_.out (by kernel_rfl)) (fun _ _ _ h => h) (Or.inl ⟨by rfl, ?_⟩) ?_ ?_
                        rotate_left
                        · intro w'
                          go_simp
                          with_reducible rfl
                        rotate_left
                        · simp only [Act.put, List.setIfInBounds_toArray, List.set_cons_zero, List.set_cons_succ, i64_w, i32_w]
                          rfl
                        refine pure_ (i := 16) (N := some 109) (v := ?_) (a' := ?_) #[true, true, true, true, true, true, true, true, true, true, true, true, true, true, true, true, true, false, false, false, false, false, false, false, false, false, false, false, false, false, false, false, false, false, false, false, false, false, false, false, false, false, false, false, false, false, false, false, false, false, false, false] rfl rfl (any_of HT_.out (by kernel_rfl)) (fun _ _ _ h => h) (Or.inl ⟨by rfl, ?_⟩) ?_ ?_
                        rotate_left
                        · intro w'
                          go_simp
                          with_reducible rfl
                        rotate_left
                        · simp only [Act.put, List.setIfInBounds_toArray, List.set_cons_zero, List.set_cons_succ, i64_w, i32_w]
                          rfl
                        refine pure_ (i := 17) (N := some 110) (v := ?_) (a' := ?_) #[true, true, true, true, true, true, true, true, true, true, true, true, true, true, true, true, true, true, false, false, false, false, false, false, false, false, false, false, false, false, false, false, false, false, false, false, false, false, false, false, false, false, false, false, false, false, false, false, false, false, false, false] rfl rfl (any_of HT_.out (by kernel_rfl)) (fun _ _ _ h => h) (Or.inl ⟨by rfl, ?_⟩) ?_ ?_
                        rotate_left
                        · intro w'
                          go_simp
                          with_reducible rfl
                        rotate_left
                        · simp only [Act.put, List.setIfInBounds_toArray, List.set_cons_zero, List.set_cons_succ, i64_w, i32_w]
                          rfl
                        refine pure_ (i := 18) (N := some 111) (v := ?_) (a' := ?_) #[true, true, true, true, true, true, true, true, true, true, true, true, true, true, true, true, true, true, true, false, false, false, false, false, false, false, false, false, false, false, false, false, false, false, false, false, false, false, false, false, false, false, false, false, false, false, false, false, false, false, false, false] rfl rfl (any_of HT_.out (by kernel_rfl)) (fun _ _ _ h => h) (Or.inl ⟨by rfl, ?_⟩) ?_ ?_
                        rotate_left
                        · intro w'
                          go_simp
                          with_reducible rfl
                        rotate_left
                        · simp only [Act.put, List.setIfInBounds_toArray, List.set_cons_zero, List.set_cons_succ, i64_w, i32_w]
                          rfl
                        refine take_ (i := 19) (N := some 112) (v := ?_) (a' := ?_) #[true, true, true, true, true, true, true, true, true, true, true, true, true, true, true, true, true, true, true, true, false, false, false, false, false, false, false, false, false, false, false, false, false, false, false, false, false, false, false, false, false, false, false, false, false, false, false, false, false, false, false, false] rfl rfl (take_ofW HT_.out HW_.out (by kernel_rfl)) (fun _ _ _ h => h) (Or.inl ⟨by rfl, ?_⟩) hHeld ?_ ?_
                        rotate_left
                        · rintro w' ⟨s0, s1, s2, s3, s4, s5, s6, s7, s8, s9, s10, s11, s12, s13, s14, s15⟩
                          go_simp
                          with_reducible rfl
                        rotate_left
                        · simp only [Act.put, List.setIfInBounds_toArray, List.set_cons_zero, List.set_cons_succ, i64_w, i32_w]
                          rfl
                        refine take_ (i := 20) (N := some 113) (v := ?_) (a' := ?_) #[true, true, true, true, true, true, true, true, true, true, true, true, true, true, true, true, true, true, true, true, true, false, false, false, false, false, false, false, false, false, false, false, false, false, false, false, false, false, false, false, false, false, false, false, false, false, false, false, false, false, false, false] rfl rfl (take_ofW HT_.out HW_.out (by kernel_rfl)) (fun _ _ _ h => h) (Or.inl ⟨by rfl, ?_⟩) hHeld ?_ ?_
                        rotate_left
                        · rintro w' ⟨s0, s1, s2, s3, s4, s5, s6, s7, s8, s9, s10, s11, s12, s13, s14, s15⟩
                          go_simp
                          with_reducible rfl
                        rotate_left
                        · simp only [Act.put, List.setIfInBounds_toArray, List.set_cons_zero, List.set_cons_succ, i64_w, i32_w]
                          rfl
                        refine pure_ (i := 21) (N := some 114) (v := ?_) (a' := ?_) #[true, true, true, true, true, true, true, true, true, true, true, true, true, true, true, true, true, true, true, true, true, true, false, false, false, false, false, false, false, false, false, false, false, false, false, false, false, false, false, false, false, false, false, false, false, false, false, false, false, false, false, false] rfl rfl (any_of HT_.out (by kernel_rfl)) (fun _ _ _ h => h) (Or.inl ⟨by rfl, ?_⟩) ?_ ?_
                        rotate_left
                        · intro w'
                          go_simp
                          with_reducible rfl
                        rotate_left
                        · simp only [Act.put, List.setIfInBounds_toArray, List.set_cons_zero, List.set_cons_succ, i64_w, i32_w]
                          rfl
                        refine pure_ (i := 22) (N := some 115) (v := ?_) (a' := ?_) #[true, true, true, true, true, true, true, true, true, true, true, true, true, true, true, true, true, true, true, true, true, true, true, false, false, false, false, false, false, false, false, false, false, false, false, false, false, false, false, false, false, false, false, false, false, false, false, false, false, false, false, false] rfl rfl (any_of HT_.out (by kernel_rfl)) (fun _ _ _ h => h) (Or.inl ⟨by rfl, ?_⟩) ?_ ?_
                        rotate_left
                        · intro w'
                          go_simp
                          with_reducible rfl
                        rotate_left
                        · simp only [Act.put, List.setIfInBounds_toArray, List.set_cons_zero, List.set_cons_succ, i64_w, i32_w]
                          rfl
                        refine pure_ (i := 23) (N := some 116) (v := ?_) (a' := ?_) #[true, true, true, true, true, true, true, true, true, true, true, true, true, true, true, true, true, true, true, true, true, true, true, true, false, false, false, false, false, false, false, false, false, false, false, false, false, false, false, false, false, false, false, false, false, false, false, false, false, false, false, false] rfl rfl (any_of HT_.out (by kernel_rfl)) (fun _ _ _ h => h) (Or.inl ⟨by rfl, ?_⟩) ?_ ?_
                        rotate_left
                        · intro w'
                          go_simp
                          with_reducible rfl
                        rotate_left
                        · simp only [Act.put, List.setIfInBounds_toArray, List.set_cons_zero, List.set_cons_succ, i64_w, i32_w]
                          rfl
                        refine pure_ (i := 24) (N := some 117) (v := ?_) (a' := ?_) #[true, true, true, true, true, true, true, true, true, true, true, true, true, true, true, true, true, true, true, true, true, true, true, true, true, false, false, false, false, false, false, false, false, false, false, false, false, false, false, false, false, false, false, false, false, false, false, false, false, false, false, false] rfl rfl (any_of HT_.out (by kernel_rfl)) (fun _ _ _ h => h) (Or.inl ⟨by rfl, ?_⟩) ?_ ?_
                        rotate_left
                        · intro w'
                          go_simp
                          with_reducible rfl
                        rotate_left
                        · simp only [Act.put, List.setIfInBounds_toArray, List.set_cons_zero, List.set_cons_succ, i64_w, i32_w]
                          rfl
                        refine pure_ (i := 25) (N := some 118) (v := ?_) (a' := ?_) #[true, true, true, true, true, true, true, true, true, true, true, true, true, true, true, true, true, true, true, true, true, true, true, true, true, true, false, false, false, false, false, false, false, false, false, false, false, false, false, false, false, false, false, false, false, false, false, false, false, false, false, false] rfl rfl (any_of HT_.out (by kernel_rfl)) (fun _ _ _ h => h) (Or.inl ⟨by rfl, ?_⟩) ?_ ?_
                        rotate_left
                        · intro w'
                          go_simp
                          with_reducible rfl
                        rotate_left
                        · simp only [Act.put, List.setIfInBounds_toArray, List.set_cons_zero, List.set_cons_succ, i64_w, i32_w]
                          rfl
                        refine pure_ (i := 26) (N := some 119) (v := ?_) (a' := ?_) #[true, true, true, true, true, true, true, true, true, true, true, true, true, true, true, true, true, true, true, true, true, true, true, true, true, true, true, false, false, false, false, false, false, false, false, false, false, false, false, false, false, false, false, false, false, false, false, false, false, false, false, false] rfl rfl (any_of HT_.out (by kernel_rfl)) (fun _ _ _ h => h) (Or.inl ⟨by rfl, ?_⟩) ?_ ?_
                        rotate_left
                        · intro w'
                          go_simp
                          with_reducible rfl
                        rotate_left
                        · simp only [Act.put, List.setIfInBounds_toArray, List.set_cons_zero, List.set_cons_succ, i64_w, i32_w]
                          rfl
                        refine pure_ (i := 27) (N := some 120) (v := ?_) (a' := ?_) #[true, true, true, true, true, true, true, true, true, true, true, true, true, true, true, true, true, true, true, true, true, true, true, true, true, true, true, true, false, false, false, false, false, false, false, false, false, false, false, false, false, false, false, false, false, false, false, false, false, false, false, false] rfl rfl (any_of HT_.out (by kernel_rfl)) (fun _ _ _ h => h) (Or.inl ⟨by rfl, ?_⟩) ?_ ?_
                        rotate_left
                        · intro w'
                          go_simp
                          with_reducible rfl
                        rotate_left
                        · simp only [Act.put, List.setIfInBounds_toArray, List.set_cons_zero, List.set_cons_succ, i64_w, i32_w]
                          rfl
                        refine pure_ (i := 28) (N := some 121) (v := ?_) (a' := ?_) #[true, true, true, true, true, true, true, true, true, true, true, true, true, true, true, true, true, true, true, true, true, true, true, true, true, true, true, true, true, false, false, false, false, false, false, false, false, false, false, false, false, false, false, false, false, false, false, false, false, false, false, false] rfl rfl (any_of HT_.out (by kernel_rfl)) (fun _ _ _ h => h) (Or.inl ⟨by rfl, ?_⟩) ?_ ?_
                        rotate_left
                        · intro w'
                          go_simp
                          with_reducible rfl
                        rotate_left
                        · simp only [Act.put, List.setIfInBounds_toArray, List.set_cons_zero, List.set_cons_succ, i64_w, i32_w]
                          rfl
                        refine take_ (i := 29) (N := some 122) (v := ?_) (a' := ?_) #[true, true, true, true, true, true, true, true, true, true, true, true, true, true, true, true, true, true, true, true, true, true, true, true, true, true, true, true, true, true, false, false, false, false, false, false, false, false, false, false, false, false, false, false, false, false, false, false, false, false, false, false] rfl rfl (take_ofW HT_.out HW_.out (by kernel_rfl)) (fun _ _ _ h => h) (Or.inl ⟨by rfl, ?_⟩) hHeld ?_ ?_
                        rotate_left
                        · rintro w' ⟨s0, s1, s2, s3, s4, s5, s6, s7, s8, s9, s10, s11, s12, s13, s14, s15⟩
                          go_simp
                          with_reducible rfl
                        rotate_left
                        · simp only [Act.put, List.setIfInBounds_toArray, List.set_cons_zero, List.set_cons_succ, i64_w, i32_w]
                          rfl
                        refine take_ (i := 31) (N := some 124) (v := ?_) (a' := ?_) #[true, true, true, true, true, true, true, true, true, true, true, true, true, true, true, true, true, true, true, true, true, true, true, true, true, true, true, true, true, true, false, true, false, false, false, false, false, false, false, false, false, false, false, false, false, false, false, false, false, false, false, false] rfl rfl (take_ofW HT_.out HW_.out (by kernel_rfl)) (fun _ _ _ h => h) (Or.inl ⟨by rfl, ?_⟩) hHeld ?_ ?_
                        rotate_left
                        · rintro w' ⟨s0, s1, s2, s3, s4, s5, s6, s7, s8, s9, s10, s11, s12, s13, s14, s15⟩
                          go_simp
                          with_reducible rfl
                        rotate_left
                        · simp only [Act.put, List.setIfInBounds_toArray, List.set_cons_zero, List.set_cons_succ, i64_w, i32_w]
                          rfl
                        refine one_ (i := 30) (N := some 123) #[true, true, true, true, true, true, true, true, true, true, true, true, true, true, true, true, true, true, true, true, true, true, true, true, true, true, true, true, true, true, true, true, false, false, false, false, false, false, false, false, false, false, false, false, false, false, false, false, false, false, false, false] rfl rfl (one_of HT_.out (by kernel_rfl)) (by decide) (fun K hK => ?_)
                        refine goes_ Tryd.func22 (by kernel_rfl) rfl #[.agg #[.int .i64 a0_0, .int .i64 a0_1]] (by rfl) rfl rfl (by (try simp only [List.map_toArray, List.map_cons, List.map_nil]); first | done | rfl | (simp only [List.length_drop, List.length_take]; rfl)) ?_
                        with_reducible refine (ratio_Valid.calls kj6 a0_0 a0_1 t513 _ A119.out).mono ?_
                        rintro e w181 ⟨rfl, hb⟩
                        refine ⟨_, rfl, ?_⟩
                        have n0_ := Aside0.mk (blk_below (g := gb475) (o := .cells #[.int .i64 a0_0, .int .i64 a0_1] 23 (0, 0)) (by (with_reducible repeat (first | refine blk_drewN ?_ _ | refine blk_drew ?_ | refine blk_alloc ?_ _)); exact BK475.out) hb)
                        have n1_ := Aside0.mk (blk_below (g := gb476) (o := .cells #[.int .i64 a1_0, .int .i64 a1_1] 23 (0, 0)) (by (with_reducible repeat (first | refine blk_drewN ?_ _ | refine blk_drew ?_ | refine blk_alloc ?_ _)); exact BK476.out) hb)
                        have n2_ := Aside0.mk (blk_below (g := gb480) (o := .cells #[.int .i64 t493, .int .i64 t494] 23 (0, 0)) (by (with_reducible repeat (first | refine blk_drewN ?_ _ | refine blk_drew ?_ | refine blk_alloc ?_ _)); exact BK480.out) hb)
                        have n3_ := Aside0.mk (blk_below (g := gb484) (o := .cells #[.int .i64 t496, .int .i64 t497] 23 (0, 0)) (by (with_reducible repeat (first | refine blk_drewN ?_ _ | refine blk_drew ?_ | refine blk_alloc ?_ _)); exact BK484.out) hb)
                        have n4_ := Aside0.mk (blk_below (g := gb488) (o := .cells #[.int .i64 t499, .int .i64 t500] 23 (0, 0)) (by (with_reducible repeat (first | refine blk_drewN ?_ _ | refine blk_drew ?_ | refine blk_alloc ?_ _)); exact BK488.out) hb)
                        have n5_ := Aside0.mk (blk_below (g := gb492) (o := .cells #[.int .i64 t502, .int .i64 t503] 23 (0, 0)) (by (with_reducible repeat (first | refine blk_drewN ?_ _ | refine blk_drew ?_ | refine blk_alloc ?_ _)); exact BK492.out) hb)
                        have n6_ := Aside0.mk (blk_below (g := gb508) (o := .cells #[.int .i64 t505, .int .i64 t506] 23 (0, 0)) (by (with_reducible repeat (first | refine blk_drewN ?_ _ | refine blk_drew ?_ | refine blk_alloc ?_ _)); exact BK508.out) hb)
                        have n7_ := Aside0.mk (blk_below (g := gb512) (o := .cells #[.int .i64 t509, .int .i64 t510] 23 (0, 0)) (by (with_reducible repeat (first | refine blk_drewN ?_ _ | refine blk_drew ?_ | refine blk_alloc ?_ _)); exact BK512.out) hb)
                        have n8_ := Aside0.mk (below_step (by repeat (first | (with_reducible first | exact HB.out | apply below_alloc | apply pw_below_drewN | apply below_drew1 | refine below_set ?_ GE475.out | refine below_set ?_ GE476.out | refine below_set ?_ GE480.out | refine below_set ?_ GE484.out | refine below_set ?_ GE488.out | refine below_set ?_ GE492.out | refine below_set ?_ GE508.out | refine below_set ?_ GE512.out) | exact HB.out)) hb)
                        clear BK475
                        clear BK476
                        clear BK480
                        clear BK484
                        clear BK488
                        clear BK492
                        clear BK508
                        clear BK512
                        clear HB
                        have BK475 := n0_
                        have BK476 := n1_
                        have BK480 := n2_
                        have BK484 := n3_
                        have BK488 := n4_
                        have BK492 := n5_
                        have BK508 := n6_
                        have BK512 := n7_
                        have HB := n8_
                        clear n0_ n1_ n2_ n3_ n4_ n5_ n6_ n7_ n8_
                        (try clear hb)
                        (try clear hb2)
                        (try clear hk)
                        (try clear hi)
                        refine hK.out _ _ ⟨(blk_cell BK480.out 0).trans rfl, (blk_cell BK480.out 1).trans rfl, (blk_cell BK484.out 0).trans rfl, (blk_cell BK484.out 1).trans rfl, (blk_cell BK488.out 0).trans rfl, (blk_cell BK488.out 1).trans rfl, (blk_cell BK492.out 0).trans rfl, (blk_cell BK492.out 1).trans rfl, (blk_cell BK508.out 0).trans rfl, (blk_cell BK508.out 1).trans rfl, (blk_cell BK512.out 0).trans rfl, (blk_cell BK512.out 1).trans rfl, (blk_cell BK475.out 0).trans rfl, (blk_cell BK475.out 1).trans rfl, (blk_cell BK476.out 0).trans rfl, (blk_cell BK476.out 1).trans rfl⟩ (fun hHeld => ?_)
                        clear hK K
                        refine norm_ (a' := ?_) ?_ ?_
                        rotate_left
                        · show Act.put _ (some 123) _ = _
                          simp only [Act.put, List.setIfInBounds_toArray, List.set_cons_zero, List.set_cons_succ, i64_w, i32_w]
                          rfl
                        refine one_ (i := 32) (N := some 125) #[true, true, true, true, true, true, true, true, true, true, true, true, true, true, true, true, true, true, true, true, true, true, true, true, true, true, true, true, true, true, true, true, true, false, false, false, false, false, false, false, false, false, false, false, false, false, false, false, false, false, false, false] rfl rfl (one_of HT_.out (by kernel_rfl)) (by decide) (fun K hK => ?_)
                        refine goes_ Tryd.func21 (by kernel_rfl) rfl #[.agg #[.int .i64 a0_0, .int .i64 a0_1]] (by rfl) rfl rfl (by (try simp only [List.map_toArray, List.map_cons, List.map_nil]); first | done | rfl | (simp only [List.length_drop, List.length_take]; rfl)) ?_
                        with_reducible refine (payrollref1_Valid.calls kj6 a0_0 a0_1 t514 _ A120.out).mono ?_
                        rintro e w182 ⟨rfl, hb⟩
                        refine ⟨_, rfl, ?_⟩
                        have n0_ := Aside0.mk (blk_below (g := gb475) (o := .cells #[.int .i64 a0_0, .int .i64 a0_1] 23 (0, 0)) (by (with_reducible repeat (first | refine blk_drewN ?_ _ | refine blk_drew ?_ | refine blk_alloc ?_ _)); exact BK475.out) hb)
                        have n1_ := Aside0.mk (blk_below (g := gb476) (o := .cells #[.int .i64 a1_0, .int .i64 a1_1] 23 (0, 0)) (by (with_reducible repeat (first | refine blk_drewN ?_ _ | refine blk_drew ?_ | refine blk_alloc ?_ _)); exact BK476.out) hb)
                        have n2_ := Aside0.mk (blk_below (g := gb480) (o := .cells #[.int .i64 t493, .int .i64 t494] 23 (0, 0)) (by (with_reducible repeat (first | refine blk_drewN ?_ _ | refine blk_drew ?_ | refine blk_alloc ?_ _)); exact BK480.out) hb)
                        have n3_ := Aside0.mk (blk_below (g := gb484) (o := .cells #[.int .i64 t496, .int .i64 t497] 23 (0, 0)) (by (with_reducible repeat (first | refine blk_drewN ?_ _ | refine blk_drew ?_ | refine blk_alloc ?_ _)); exact BK484.out) hb)
                        have n4_ := Aside0.mk (blk_below (g := gb488) (o := .cells #[.int .i64 t499, .int .i64 t500] 23 (0, 0)) (by (with_reducible repeat (first | refine blk_drewN ?_ _ | refine blk_drew ?_ | refine blk_alloc ?_ _)); exact BK488.out) hb)
                        have n5_ := Aside0.mk (blk_below (g := gb492) (o := .cells #[.int .i64 t502, .int .i64 t503] 23 (0, 0)) (by (with_reducible repeat (first | refine blk_drewN ?_ _ | refine blk_drew ?_ | refine blk_alloc ?_ _)); exact BK492.out) hb)
                        have n6_ := Aside0.mk (blk_below (g := gb508) (o := .cells #[.int .i64 t505, .int .i64 t506] 23 (0, 0)) (by (with_reducible repeat (first | refine blk_drewN ?_ _ | refine blk_drew ?_ | refine blk_alloc ?_ _)); exact BK508.out) hb)
                        have n7_ := Aside0.mk (blk_below (g := gb512) (o := .cells #[.int .i64 t509, .int .i64 t510] 23 (0, 0)) (by (with_reducible repeat (first | refine blk_drewN ?_ _ | refine blk_drew ?_ | refine blk_alloc ?_ _)); exact BK512.out) hb)
                        have n8_ := Aside0.mk (below_step (by repeat (first | (with_reducible first | exact HB.out | apply below_alloc | apply pw_below_drewN | apply below_drew1 | refine below_set ?_ GE475.out | refine below_set ?_ GE476.out | refine below_set ?_ GE480.out | refine below_set ?_ GE484.out | refine below_set ?_ GE488.out | refine below_set ?_ GE492.out | refine below_set ?_ GE508.out | refine below_set ?_ GE512.out) | exact HB.out)) hb)
                        clear BK475
                        clear BK476
                        clear BK480
                        clear BK484
                        clear BK488
                        clear BK492
                        clear BK508
                        clear BK512
                        clear HB
                        have BK475 := n0_
                        have BK476 := n1_
                        have BK480 := n2_
                        have BK484 := n3_
                        have BK488 := n4_
                        have BK492 := n5_
                        have BK508 := n6_
                        have BK512 := n7_
                        have HB := n8_
                        clear n0_ n1_ n2_ n3_ n4_ n5_ n6_ n7_ n8_
                        (try clear hb)
                        (try clear hb2)
                        (try clear hk)
                        (try clear hi)
                        refine hK.out _ _ ⟨(blk_cell BK480.out 0).trans rfl, (blk_cell BK480.out 1).trans rfl, (blk_cell BK484.out 0).trans rfl, (blk_cell BK484.out 1).trans rfl, (blk_cell BK488.out 0).trans rfl, (blk_cell BK488.out 1).trans rfl, (blk_cell BK492.out 0).trans rfl, (blk_cell BK492.out 1).trans rfl, (blk_cell BK508.out 0).trans rfl, (blk_cell BK508.out 1).trans rfl, (blk_cell BK512.out 0).trans rfl, (blk_cell BK512.out 1).trans rfl, (blk_cell BK475.out 0).trans rfl, (blk_cell BK475.out 1).trans rfl, (blk_cell BK476.out 0).trans rfl, (blk_cell BK476.out 1).trans rfl⟩ (fun hHeld => ?_)
                        clear hK K
                        refine norm_ (a' := ?_) ?_ ?_
                        rotate_left
                        · show Act.put _ (some 125) _ = _
                          simp only [Act.put, List.setIfInBounds_toArray, List.set_cons_zero, List.set_cons_succ, i64_w, i32_w]
                          rfl
                        refine pure_ (i := 33) (N := some 126) (v := ?_) (a' := ?_) #[true, true, true, true, true, true, true, true, true, true, true, true, true, true, true, true, true, true, true, true, true, true, true, true, true, true, true, true, true, true, true, true, true, true, false, false, false, false, false, false, false, false, false, false, false, false, false, false, false, false, false, false] rfl rfl (any_of HT_.out (by kernel_rfl)) (fun _ _ _ h => h) (Or.inl ⟨by rfl, ?_⟩) ?_ ?_
                        rotate_left
                        · intro w'
                          go_simp
                          with_reducible rfl
                        rotate_left
                        · simp only [Act.put, List.setIfInBounds_toArray, List.set_cons_zero, List.set_cons_succ, i64_w, i32_w]
                          rfl
                        refine pure_ (i := 34) (N := some 127) (v := ?_) (a' := ?_) #[true, true, true, true, true, true, true, true, true, true, true, true, true, true, true, true, true, true, true, true, true, true, true, true, true, true, true, true, true, true, true, true, true, true, true, false, false, false, false, false, false, false, false, false, false, false, false, false, false, false, false, false] rfl rfl (any_of HT_.out (by kernel_rfl)) (fun _ _ _ h => h) (Or.inl ⟨by rfl, ?_⟩) ?_ ?_
                        rotate_left
                        · intro w'
                          go_simp
                          with_reducible rfl
                        rotate_left
                        · simp only [Act.put, List.setIfInBounds_toArray, List.set_cons_zero, List.set_cons_succ, i64_w, i32_w]
                          rfl
                        refine pure_ (i := 35) (N := some 128) (v := ?_) (a' := ?_) #[true, true, true, true, true, true, true, true, true, true, true, true, true, true, true, true, true, true, true, true, true, true, true, true, true, true, true, true, true, true, true, true, true, true, true, true, false, false, false, false, false, false, false, false, false, false, false, false, false, false, false, false] rfl rfl (any_of HT_.out (by kernel_rfl)) (fun _ _ _ h => h) (Or.inl ⟨by rfl, ?_⟩) ?_ ?_
                        rotate_left
                        · intro w'
                          go_simp
                          with_reducible rfl
                        rotate_left
                        · simp only [Act.put, List.setIfInBounds_toArray, List.set_cons_zero, List.set_cons_succ, i64_w, i32_w]
                          rfl
                        refine take_ (i := 36) (N := some 129) (v := ?_) (a' := ?_) #[true, true, true, true, true, true, true, true, true, true, true, true, true, true, true, true, true, true, true, true, true, true, true, true, true, true, true, true, true, true, true, true, true, true, true, true, true, false, false, false, false, false, false, false, false, false, false, false, false, false, false, false] rfl rfl (take_ofW HT_.out HW_.out (by kernel_rfl)) (fun _ _ _ h => h) (Or.inl ⟨by rfl, ?_⟩) hHeld ?_ ?_
                        rotate_left
                        · rintro w' ⟨s0, s1, s2, s3, s4, s5, s6, s7, s8, s9, s10, s11, s12, s13, s14, s15⟩
                          go_simp
                          with_reducible rfl
                        rotate_left
                        · simp only [Act.put, List.setIfInBounds_toArray, List.set_cons_zero, List.set_cons_succ, i64_w, i32_w]
                          rfl
                        refine take_ (i := 37) (N := some 130) (v := ?_) (a' := ?_) #[true, true, true, true, true, true, true, true, true, true, true, true, true, true, true, true, true, true, true, true, true, true, true, true, true, true, true, true, true, true, true, true, true, true, true, true, true, true, false, false, false, false, false, false, false, false, false, false, false, false, false, false] rfl rfl (take_ofW HT_.out HW_.out (by kernel_rfl)) (fun _ _ _ h => h) (Or.inl ⟨by rfl, ?_⟩) hHeld ?_ ?_
                        rotate_left
                        · rintro w' ⟨s0, s1, s2, s3, s4, s5, s6, s7, s8, s9, s10, s11, s12, s13, s14, s15⟩
                          go_simp
                          with_reducible rfl
                        rotate_left
                        · simp only [Act.put, List.setIfInBounds_toArray, List.set_cons_zero, List.set_cons_succ, i64_w, i32_w]
                          rfl
                        refine take_ (i := 39) (N := some 132) (v := ?_) (a' := ?_) #[true, true, true, true, true, true, true, true, true, true, true, true, true, true, true, true, true, true, true, true, true, true, true, true, true, true, true, true, true, true, true, true, true, true, true, true, true, true, false, true, false, false, false, false, false, false, false, false, false, false, false, false] rfl rfl (take_ofW HT_.out HW_.out (by kernel_rfl)) (fun _ _ _ h => h) (Or.inl ⟨by rfl, ?_⟩) hHeld ?_ ?_
                        rotate_left
                        · rintro w' ⟨s0, s1, s2, s3, s4, s5, s6, s7, s8, s9, s10, s11, s12, s13, s14, s15⟩
                          go_simp
                          with_reducible rfl
                        rotate_left
                        · simp only [Act.put, List.setIfInBounds_toArray, List.set_cons_zero, List.set_cons_succ, i64_w, i32_w]
                          rfl
                        refine take_ (i := 40) (N := some 133) (v := ?_) (a' := ?_) #[true, true, true, true, true, true, true, true, true, true, true, true, true, true, true, true, true, true, true, true, true, true, true, true, true, true, true, true, true, true, true, true, true, true, true, true, true, true, false, true, true, false, false, false, false, false, false, false, false, false, false, false] rfl rfl (take_ofW HT_.out HW_.out (by kernel_rfl)) (fun _ _ _ h => h) (Or.inl ⟨by rfl, ?_⟩) hHeld ?_ ?_
                        rotate_left
                        · rintro w' ⟨s0, s1, s2, s3, s4, s5, s6, s7, s8, s9, s10, s11, s12, s13, s14, s15⟩
                          go_simp
                          with_reducible rfl
                        rotate_left
                        · simp only [Act.put, List.setIfInBounds_toArray, List.set_cons_zero, List.set_cons_succ, i64_w, i32_w]
                          rfl
                        refine one_ (i := 38) (N := some 131) #[true, true, true, true, true, true, true, true, true, true, true, true, true, true, true, true, true, true, true, true, true, true, true, true, true, true, true, true, true, true, true, true, true, true, true, true, true, true, true, true, true, false, false, false, false, false, false, false, false, false, false, false] rfl rfl (one_of HT_.out (by kernel_rfl)) (by decide) (fun K hK => ?_)
                        refine goes_ Tryd.func23 (by kernel_rfl) rfl #[.agg #[.int .i64 a0_0, .int .i64 a0_1], .agg #[.int .i64 a1_0, .int .i64 a1_1]] (by rfl) rfl rfl (by (try simp only [List.map_toArray, List.map_cons, List.map_nil]); first | done | rfl | (simp only [List.length_drop, List.length_take]; rfl)) ?_
                        with_reducible refine (ratio_Compare.calls kj6 a0_0 a0_1 a1_0 a1_1 t515 _ A122.out).mono ?_
                        rintro e w183 ⟨rfl, hb⟩
                        refine ⟨_, rfl, ?_⟩
                        have n0_ := Aside0.mk (blk_below (g := gb475) (o := .cells #[.int .i64 a0_0, .int .i64 a0_1] 23 (0, 0)) (by (with_reducible repeat (first | refine blk_drewN ?_ _ | refine blk_drew ?_ | refine blk_alloc ?_ _)); exact BK475.out) hb)
                        have n1_ := Aside0.mk (blk_below (g := gb476) (o := .cells #[.int .i64 a1_0, .int .i64 a1_1] 23 (0, 0)) (by (with_reducible repeat (first | refine blk_drewN ?_ _ | refine blk_drew ?_ | refine blk_alloc ?_ _)); exact BK476.out) hb)
                        have n2_ := Aside0.mk (blk_below (g := gb480) (o := .cells #[.int .i64 t493, .int .i64 t494] 23 (0, 0)) (by (with_reducible repeat (first | refine blk_drewN ?_ _ | refine blk_drew ?_ | refine blk_alloc ?_ _)); exact BK480.out) hb)
                        have n3_ := Aside0.mk (blk_below (g := gb484) (o := .cells #[.int .i64 t496, .int .i64 t497] 23 (0, 0)) (by (with_reducible repeat (first | refine blk_drewN ?_ _ | refine blk_drew ?_ | refine blk_alloc ?_ _)); exact BK484.out) hb)
                        have n4_ := Aside0.mk (blk_below (g := gb488) (o := .cells #[.int .i64 t499, .int .i64 t500] 23 (0, 0)) (by (with_reducible repeat (first | refine blk_drewN ?_ _ | refine blk_drew ?_ | refine blk_alloc ?_ _)); exact BK488.out) hb)
                        have n5_ := Aside0.mk (blk_below (g := gb492) (o := .cells #[.int .i64 t502, .int .i64 t503] 23 (0, 0)) (by (with_reducible repeat (first | refine blk_drewN ?_ _ | refine blk_drew ?_ | refine blk_alloc ?_ _)); exact BK492.out) hb)
                        have n6_ := Aside0.mk (blk_below (g := gb508) (o := .cells #[.int .i64 t505, .int .i64 t506] 23 (0, 0)) (by (with_reducible repeat (first | refine blk_drewN ?_ _ | refine blk_drew ?_ | refine blk_alloc ?_ _)); exact BK508.out) hb)
                        have n7_ := Aside0.mk (blk_below (g := gb512) (o := .cells #[.int .i64 t509, .int .i64 t510] 23 (0, 0)) (by (with_reducible repeat (first | refine blk_drewN ?_ _ | refine blk_drew ?_ | refine blk_alloc ?_ _)); exact BK512.out) hb)
                        have n8_ := Aside0.mk (below_step (by repeat (first | (with_reducible first | exact HB.out | apply below_alloc | apply pw_below_drewN | apply below_drew1 | refine below_set ?_ GE475.out | refine below_set ?_ GE476.out | refine below_set ?_ GE480.out | refine below_set ?_ GE484.out | refine below_set ?_ GE488.out | refine below_set ?_ GE492.out | refine below_set ?_ GE508.out | refine below_set ?_ GE512.out) | exact HB.out)) hb)
                        clear BK475
                        clear BK476
                        clear BK480
                        clear BK484
                        clear BK488
                        clear BK492
                        clear BK508
                        clear BK512
                        clear HB
                        have BK475 := n0_
                        have BK476 := n1_
                        have BK480 := n2_
                        have BK484 := n3_
                        have BK488 := n4_
                        have BK492 := n5_
                        have BK508 := n6_
                        have BK512 := n7_
                        have HB := n8_
                        clear n0_ n1_ n2_ n3_ n4_ n5_ n6_ n7_ n8_
                        (try clear hb)
                        (try clear hb2)
                        (try clear hk)
                        (try clear hi)
                        refine hK.out _ _ ⟨(blk_cell BK480.out 0).trans rfl, (blk_cell BK480.out 1).trans rfl, (blk_cell BK484.out 0).trans rfl, (blk_cell BK484.out 1).trans rfl, (blk_cell BK488.out 0).trans rfl, (blk_cell BK488.out 1).trans rfl, (blk_cell BK492.out 0).trans rfl, (blk_cell BK492.out 1).trans rfl, (blk_cell BK508.out 0).trans rfl, (blk_cell BK508.out 1).trans rfl, (blk_cell BK512.out 0).trans rfl, (blk_cell BK512.out 1).trans rfl, (blk_cell BK475.out 0).trans rfl, (blk_cell BK475.out 1).trans rfl, (blk_cell BK476.out 0).trans rfl, (blk_cell BK476.out 1).trans rfl⟩ (fun hHeld => ?_)
                        clear hK K
                        refine norm_ (a' := ?_) ?_ ?_
                        rotate_left
                        · show Act.put _ (some 131) _ = _
                          simp only [Act.put, List.setIfInBounds_toArray, List.set_cons_zero, List.set_cons_succ, i64_w, i32_w]
                          rfl
                        refine one_ (i := 41) (N := some 134) #[true, true, true, true, true, true, true, true, true, true, true, true, true, true, true, true, true, true, true, true, true, true, true, true, true, true, true, true, true, true, true, true, true, true, true, true, true, true, true, true, true, true, false, false, false, false, false, false, false, false, false, false] rfl rfl (one_of HT_.out (by kernel_rfl)) (by decide) (fun K hK => ?_)
                        refine goes_ Tryd.func47 (by kernel_rfl) rfl #[.agg #[.int .i64 a0_0, .int .i64 a0_1], .agg #[.int .i64 a1_0, .int .i64 a1_1]] (by rfl) rfl rfl (by (try simp only [List.map_toArray, List.map_cons, List.map_nil]); first | done | rfl | (simp only [List.length_drop, List.length_take]; rfl)) ?_
                        with_reducible refine (payrollref1_Compare.calls kj6 a0_0 a0_1 a1_0 a1_1 t516 _ A123.out).mono ?_
                        rintro e w184 ⟨rfl, hb⟩
                        refine ⟨_, rfl, ?_⟩
                        have n0_ := Aside0.mk (blk_below (g := gb475) (o := .cells #[.int .i64 a0_0, .int .i64 a0_1] 23 (0, 0)) (by (with_reducible repeat (first | refine blk_drewN ?_ _ | refine blk_drew ?_ | refine blk_alloc ?_ _)); exact BK475.out) hb)
                        have n1_ := Aside0.mk (blk_below (g := gb476) (o := .cells #[.int .i64 a1_0, .int .i64 a1_1] 23 (0, 0)) (by (with_reducible repeat (first | refine blk_drewN ?_ _ | refine blk_drew ?_ | refine blk_alloc ?_ _)); exact BK476.out) hb)
                        have n2_ := Aside0.mk (blk_below (g := gb480) (o := .cells #[.int .i64 t493, .int .i64 t494] 23 (0, 0)) (by (with_reducible repeat (first | refine blk_drewN ?_ _ | refine blk_drew ?_ | refine blk_alloc ?_ _)); exact BK480.out) hb)
                        have n3_ := Aside0.mk (blk_below (g := gb484) (o := .cells #[.int .i64 t496, .int .i64 t497] 23 (0, 0)) (by (with_reducible repeat (first | refine blk_drewN ?_ _ | refine blk_drew ?_ | refine blk_alloc ?_ _)); exact BK484.out) hb)
                        have n4_ := Aside0.mk (blk_below (g := gb488) (o := .cells #[.int .i64 t499, .int .i64 t500] 23 (0, 0)) (by (with_reducible repeat (first | refine blk_drewN ?_ _ | refine blk_drew ?_ | refine blk_alloc ?_ _)); exact BK488.out) hb)
                        have n5_ := Aside0.mk (blk_below (g := gb492) (o := .cells #[.int .i64 t502, .int .i64 t503] 23 (0, 0)) (by (with_reducible repeat (first | refine blk_drewN ?_ _ | refine blk_drew ?_ | refine blk_alloc ?_ _)); exact BK492.out) hb)
                        have n6_ := Aside0.mk (blk_below (g := gb508) (o := .cells #[.int .i64 t505, .int .i64 t506] 23 (0, 0)) (by (with_reducible repeat (first | refine blk_drewN ?_ _ | refine blk_drew ?_ | refine blk_alloc ?_ _)); exact BK508.out) hb)
                        have n7_ := Aside0.mk (blk_below (g := gb512) (o := .cells #[.int .i64 t509, .int .i64 t510] 23 (0, 0)) (by (with_reducible repeat (first | refine blk_drewN ?_ _ | refine blk_drew ?_ | refine blk_alloc ?_ _)); exact BK512.out) hb)
                        have n8_ := Aside0.mk (below_step (by repeat (first | (with_reducible first | exact HB.out | apply below_alloc | apply pw_below_drewN | apply below_drew1 | refine below_set ?_ GE475.out | refine below_set ?_ GE476.out | refine below_set ?_ GE480.out | refine below_set ?_ GE484.out | refine below_set ?_ GE488.out | refine below_set ?_ GE492.out | refine below_set ?_ GE508.out | refine below_set ?_ GE512.out) | exact HB.out)) hb)
                        clear BK475
                        clear BK476
                        clear BK480
                        clear BK484
                        clear BK488
                        clear BK492
                        clear BK508
                        clear BK512
                        clear HB
                        have BK475 := n0_
                        have BK476 := n1_
                        have BK480 := n2_
                        have BK484 := n3_
                        have BK488 := n4_
                        have BK492 := n5_
                        have BK508 := n6_
                        have BK512 := n7_
                        have HB := n8_
                        clear n0_ n1_ n2_ n3_ n4_ n5_ n6_ n7_ n8_
                        (try clear hb)
                        (try clear hb2)
                        (try clear hk)
                        (try clear hi)
                        refine hK.out _ _ ⟨(blk_cell BK480.out 0).trans rfl, (blk_cell BK480.out 1).trans rfl, (blk_cell BK484.out 0).trans rfl, (blk_cell BK484.out 1).trans rfl, (blk_cell BK488.out 0).trans rfl, (blk_cell BK488.out 1).trans rfl, (blk_cell BK492.out 0).trans rfl, (blk_cell BK492.out 1).trans rfl, (blk_cell BK508.out 0).trans rfl, (blk_cell BK508.out 1).trans rfl, (blk_cell BK512.out 0).trans rfl, (blk_cell BK512.out 1).trans rfl, (blk_cell BK475.out 0).trans rfl, (blk_cell BK475.out 1).trans rfl, (blk_cell BK476.out 0).trans rfl, (blk_cell BK476.out 1).trans rfl⟩ (fun hHeld => ?_)
                        clear hK K
                        refine norm_ (a' := ?_) ?_ ?_
                        rotate_left
                        · show Act.put _ (some 134) _ = _
                          simp only [Act.put, List.setIfInBounds_toArray, List.set_cons_zero, List.set_cons_succ, i64_w, i32_w]
                          rfl
                        refine pure_ (i := 42) (N := some 135) (v := ?_) (a' := ?_) #[true, true, true, true, true, true, true, true, true, true, true, true, true, true, true, true, true, true, true, true, true, true, true, true, true, true, true, true, true, true, true, true, true, true, true, true, true, true, true, true, true, true, true, false, false, false, false, false, false, false, false, false] rfl rfl (any_of HT_.out (by kernel_rfl)) (fun _ _ _ h => h) (Or.inl ⟨by rfl, ?_⟩) ?_ ?_
                        rotate_left
                        · intro w'
                          go_simp
                          with_reducible rfl
                        rotate_left
                        · simp only [Act.put, List.setIfInBounds_toArray, List.set_cons_zero, List.set_cons_succ, i64_w, i32_w]
                          rfl
                        refine pure_ (i := 43) (N := some 136) (v := ?_) (a' := ?_) #[true, true, true, true, true, true, true, true, true, true, true, true, true, true, true, true, true, true, true, true, true, true, true, true, true, true, true, true, true, true, true, true, true, true, true, true, true, true, true, true, true, true, true, true, false, false, false, false, false, false, false, false] rfl rfl (any_of HT_.out (by kernel_rfl)) (fun _ _ _ h => h) (Or.inl ⟨by rfl, ?_⟩) ?_ ?_
                        rotate_left
                        · intro w'
                          go_simp
                          with_reducible rfl
                        rotate_left
                        · simp only [Act.put, List.setIfInBounds_toArray, List.set_cons_zero, List.set_cons_succ, i64_w, i32_w]
                          rfl
                        refine pure_ (i := 44) (N := some 137) (v := ?_) (a' := ?_) #[true, true, true, true, true, true, true, true, true, true, true, true, true, true, true, true, true, true, true, true, true, true, true, true, true, true, true, true, true, true, true, true, true, true, true, true, true, true, true, true, true, true, true, true, true, false, false, false, false, false, false, false] rfl rfl (any_of HT_.out (by kernel_rfl)) (fun _ _ _ h => h) (Or.inl ⟨by rfl, ?_⟩) ?_ ?_
                        rotate_left
                        · intro w'
                          go_simp
                          with_reducible rfl
                        rotate_left
                        · simp only [Act.put, List.setIfInBounds_toArray, List.set_cons_zero, List.set_cons_succ, i64_w, i32_w]
                          rfl
                        refine take_ (i := 45) (N := some 138) (v := ?_) (a' := ?_) #[true, true, true, true, true, true, true, true, true, true, true, true, true, true, true, true, true, true, true, true, true, true, true, true, true, true, true, true, true, true, true, true, true, true, true, true, true, true, true, true, true, true, true, true, true, true, false, false, false, false, false, false] rfl rfl (take_ofW HT_.out HW_.out (by kernel_rfl)) (fun _ _ _ h => h) (Or.inl ⟨by rfl, ?_⟩) hHeld ?_ ?_
                        rotate_left
                        · rintro w' ⟨s0, s1, s2, s3, s4, s5, s6, s7, s8, s9, s10, s11, s12, s13, s14, s15⟩
                          go_simp
                          with_reducible rfl
                        rotate_left
                        · simp only [Act.put, List.setIfInBounds_toArray, List.set_cons_zero, List.set_cons_succ, i64_w, i32_w]
                          rfl
                        refine take_ (i := 47) (N := some 140) (v := ?_) (a' := ?_) #[true, true, true, true, true, true, true, true, true, true, true, true, true, true, true, true, true, true, true, true, true, true, true, true, true, true, true, true, true, true, true, true, true, true, true, true, true, true, true, true, true, true, true, true, true, true, false, true, false, false, false, false] rfl rfl (take_ofW HT_.out HW_.out (by kernel_rfl)) (fun _ _ _ h => h) (Or.inl ⟨by rfl, ?_⟩) hHeld ?_ ?_
                        rotate_left
                        · rintro w' ⟨s0, s1, s2, s3, s4, s5, s6, s7, s8, s9, s10, s11, s12, s13, s14, s15⟩
                          go_simp
                          with_reducible rfl
                        rotate_left
                        · simp only [Act.put, List.setIfInBounds_toArray, List.set_cons_zero, List.set_cons_succ, i64_w, i32_w]
                          rfl
                        refine one_ (i := 46) (N := some 139) #[true, true, true, true, true, true, true, true, true, true, true, true, true, true, true, true, true, true, true, true, true, true, true, true, true, true, true, true, true, true, true, true, true, true, true, true, true, true, true, true, true, true, true, true, true, true, true, true, false, false, false, false] rfl rfl (one_of HT_.out (by kernel_rfl)) (by decide) (fun K hK => ?_)
                        refine goes_ Tryd.func26 (by kernel_rfl) rfl #[.agg #[.int .i64 a0_0, .int .i64 a0_1]] (by rfl) rfl rfl (by (try simp only [List.map_toArray, List.map_cons, List.map_nil]); first | done | rfl | (simp only [List.length_drop, List.length_take]; rfl)) ?_
                        with_reducible refine (ratio_Floor.calls kj6 a0_0 a0_1 t517 _ A125.out).mono ?_
                        rintro e w185 ⟨rfl, hb⟩
                        refine ⟨_, rfl, ?_⟩
                        have n0_ := Aside0.mk (blk_below (g := gb475) (o := .cells #[.int .i64 a0_0, .int .i64 a0_1] 23 (0, 0)) (by (with_reducible repeat (first | refine blk_drewN ?_ _ | refine blk_drew ?_ | refine blk_alloc ?_ _)); exact BK475.out) hb)
                        have n1_ := Aside0.mk (blk_below (g := gb476) (o := .cells #[.int .i64 a1_0, .int .i64 a1_1] 23 (0, 0)) (by (with_reducible repeat (first | refine blk_drewN ?_ _ | refine blk_drew ?_ | refine blk_alloc ?_ _)); exact BK476.out) hb)
                        have n2_ := Aside0.mk (blk_below (g := gb480) (o := .cells #[.int .i64 t493, .int .i64 t494] 23 (0, 0)) (by (with_reducible repeat (first | refine blk_drewN ?_ _ | refine blk_drew ?_ | refine blk_alloc ?_ _)); exact BK480.out) hb)
                        have n3_ := Aside0.mk (blk_below (g := gb484) (o := .cells #[.int .i64 t496, .int .i64 t497] 23 (0, 0)) (by (with_reducible repeat (first | refine blk_drewN ?_ _ | refine blk_drew ?_ | refine blk_alloc ?_ _)); exact BK484.out) hb)
                        have n4_ := Aside0.mk (blk_below (g := gb488) (o := .cells #[.int .i64 t499, .int .i64 t500] 23 (0, 0)) (by (with_reducible repeat (first | refine blk_drewN ?_ _ | refine blk_drew ?_ | refine blk_alloc ?_ _)); exact BK488.out) hb)
                        have n5_ := Aside0.mk (blk_below (g := gb492) (o := .cells #[.int .i64 t502, .int .i64 t503] 23 (0, 0)) (by (with_reducible repeat (first | refine blk_drewN ?_ _ | refine blk_drew ?_ | refine blk_alloc ?_ _)); exact BK492.out) hb)
                        have n6_ := Aside0.mk (blk_below (g := gb508) (o := .cells #[.int .i64 t505, .int .i64 t506] 23 (0, 0)) (by (with_reducible repeat (first | refine blk_drewN ?_ _ | refine blk_drew ?_ | refine blk_alloc ?_ _)); exact BK508.out) hb)
                        have n7_ := Aside0.mk (blk_below (g := gb512) (o := .cells #[.int .i64 t509, .int .i64 t510] 23 (0, 0)) (by (with_reducible repeat (first | refine blk_drewN ?_ _ | refine blk_drew ?_ | refine blk_alloc ?_ _)); exact BK512.out) hb)
                        have n8_ := Aside0.mk (below_step (by repeat (first | (with_reducible first | exact HB.out | apply below_alloc | apply pw_below_drewN | apply below_drew1 | refine below_set ?_ GE475.out | refine below_set ?_ GE476.out | refine below_set ?_ GE480.out | refine below_set ?_ GE484.out | refine below_set ?_ GE488.out | refine below_set ?_ GE492.out | refine below_set ?_ GE508.out | refine below_set ?_ GE512.out) | exact HB.out)) hb)
                        clear BK475
                        clear BK476
                        clear BK480
                        clear BK484
                        clear BK488
                        clear BK492
                        clear BK508
                        clear BK512
                        clear HB
                        have BK475 := n0_
                        have BK476 := n1_
                        have BK480 := n2_
                        have BK484 := n3_
                        have BK488 := n4_
                        have BK492 := n5_
                        have BK508 := n6_
                        have BK512 := n7_
                        have HB := n8_
                        clear n0_ n1_ n2_ n3_ n4_ n5_ n6_ n7_ n8_
                        (try clear hb)
                        (try clear hb2)
                        (try clear hk)
                        (try clear hi)
                        refine hK.out _ _ ⟨(blk_cell BK480.out 0).trans rfl, (blk_cell BK480.out 1).trans rfl, (blk_cell BK484.out 0).trans rfl, (blk_cell BK484.out 1).trans rfl, (blk_cell BK488.out 0).trans rfl, (blk_cell BK488.out 1).trans rfl, (blk_cell BK492.out 0).trans rfl, (blk_cell BK492.out 1).trans rfl, (blk_cell BK508.out 0).trans rfl, (blk_cell BK508.out 1).trans rfl, (blk_cell BK512.out 0).trans rfl, (blk_cell BK512.out 1).trans rfl, (blk_cell BK475.out 0).trans rfl, (blk_cell BK475.out 1).trans rfl, (blk_cell BK476.out 0).trans rfl, (blk_cell BK476.out 1).trans rfl⟩ (fun hHeld => ?_)
                        clear hK K
                        refine norm_ (a' := ?_) ?_ ?_
                        rotate_left
                        · show Act.put _ (some 139) _ = _
                          simp only [Act.put, List.setIfInBounds_toArray, List.set_cons_zero, List.set_cons_succ, i64_w, i32_w]
                          rfl
                        refine one_ (i := 48) (N := some 141) #[true, true, true, true, true, true, true, true, true, true, true, true, true, true, true, true, true, true, true, true, true, true, true, true, true, true, true, true, true, true, true, true, true, true, true, true, true, true, true, true, true, true, true, true, true, true, true, true, true, false, false, false] rfl rfl (one_of HT_.out (by kernel_rfl)) (by decide) (fun K hK => ?_)
                        refine goes_ Tryd.func48 (by kernel_rfl) rfl #[.agg #[.int .i64 a0_0, .int .i64 a0_1]] (by rfl) rfl rfl (by (try simp only [List.map_toArray, List.map_cons, List.map_nil]); first | done | rfl | (simp only [List.length_drop, List.length_take]; rfl)) ?_
                        with_reducible refine (payrollref1_Floor.calls kj6 a0_0 a0_1 t518 _ A126.out).mono ?_
                        rintro e w186 ⟨rfl, hb⟩
                        refine ⟨_, rfl, ?_⟩
                        have n0_ := Aside0.mk (blk_below (g := gb475) (o := .cells #[.int .i64 a0_0, .int .i64 a0_1] 23 (0, 0)) (by (with_reducible repeat (first | refine blk_drewN ?_ _ | refine blk_drew ?_ | refine blk_alloc ?_ _)); exact BK475.out) hb)
                        have n1_ := Aside0.mk (blk_below (g := gb476) (o := .cells #[.int .i64 a1_0, .int .i64 a1_1] 23 (0, 0)) (by (with_reducible repeat (first | refine blk_drewN ?_ _ | refine blk_drew ?_ | refine blk_alloc ?_ _)); exact BK476.out) hb)
                        have n2_ := Aside0.mk (blk_below (g := gb480) (o := .cells #[.int .i64 t493, .int .i64 t494] 23 (0, 0)) (by (with_reducible repeat (first | refine blk_drewN ?_ _ | refine blk_drew ?_ | refine blk_alloc ?_ _)); exact BK480.out) hb)
                        have n3_ := Aside0.mk (blk_below (g := gb484) (o := .cells #[.int .i64 t496, .int .i64 t497] 23 (0, 0)) (by (with_reducible repeat (first | refine blk_drewN ?_ _ | refine blk_drew ?_ | refine blk_alloc ?_ _)); exact BK484.out) hb)
                        have n4_ := Aside0.mk (blk_below (g := gb488) (o := .cells #[.int .i64 t499, .int .i64 t500] 23 (0, 0)) (by (with_reducible repeat (first | refine blk_drewN ?_ _ | refine blk_drew ?_ | refine blk_alloc ?_ _)); exact BK488.out) hb)
                        have n5_ := Aside0.mk (blk_below (g := gb492) (o := .cells #[.int .i64 t502, .int .i64 t503] 23 (0, 0)) (by (with_reducible repeat (first | refine blk_drewN ?_ _ | refine blk_drew ?_ | refine blk_alloc ?_ _)); exact BK492.out) hb)
                        have n6_ := Aside0.mk (blk_below (g := gb508) (o := .cells #[.int .i64 t505, .int .i64 t506] 23 (0, 0)) (by (with_reducible repeat (first | refine blk_drewN ?_ _ | refine blk_drew ?_ | refine blk_alloc ?_ _)); exact BK508.out) hb)
                        have n7_ := Aside0.mk (blk_below (g := gb512) (o := .cells #[.int .i64 t509, .int .i64 t510] 23 (0, 0)) (by (with_reducible repeat (first | refine blk_drewN ?_ _ | refine blk_drew ?_ | refine blk_alloc ?_ _)); exact BK512.out) hb)
                        have n8_ := Aside0.mk (below_step (by repeat (first | (with_reducible first | exact HB.out | apply below_alloc | apply pw_below_drewN | apply below_drew1 | refine below_set ?_ GE475.out | refine below_set ?_ GE476.out | refine below_set ?_ GE480.out | refine below_set ?_ GE484.out | refine below_set ?_ GE488.out | refine below_set ?_ GE492.out | refine below_set ?_ GE508.out | refine below_set ?_ GE512.out) | exact HB.out)) hb)
                        clear BK475
                        clear BK476
                        clear BK480
                        clear BK484
                        clear BK488
                        clear BK492
                        clear BK508
                        clear BK512
                        clear HB
                        have BK475 := n0_
                        have BK476 := n1_
                        have BK480 := n2_
                        have BK484 := n3_
                        have BK488 := n4_
                        have BK492 := n5_
                        have BK508 := n6_
                        have BK512 := n7_
                        have HB := n8_
                        clear n0_ n1_ n2_ n3_ n4_ n5_ n6_ n7_ n8_
                        (try clear hb)
                        (try clear hb2)
                        (try clear hk)
                        (try clear hi)
                        refine hK.out _ _ ⟨(blk_cell BK480.out 0).trans rfl, (blk_cell BK480.out 1).trans rfl, (blk_cell BK484.out 0).trans rfl, (blk_cell BK484.out 1).trans rfl, (blk_cell BK488.out 0).trans rfl, (blk_cell BK488.out 1).trans rfl, (blk_cell BK492.out 0).trans rfl, (blk_cell BK492.out 1).trans rfl, (blk_cell BK508.out 0).trans rfl, (blk_cell BK508.out 1).trans rfl, (blk_cell BK512.out 0).trans rfl, (blk_cell BK512.out 1).trans rfl, (blk_cell BK475.out 0).trans rfl, (blk_cell BK475.out 1).trans rfl, (blk_cell BK476.out 0).trans rfl, (blk_cell BK476.out 1).trans rfl⟩ (fun hHeld => ?_)
                        clear hK K
                        refine norm_ (a' := ?_) ?_ ?_
                        rotate_left
                        · show Act.put _ (some 141) _ = _
                          simp only [Act.put, List.setIfInBounds_toArray, List.set_cons_zero, List.set_cons_succ, i64_w, i32_w]
                          rfl
                        refine pure_ (i := 49) (N := some 142) (v := ?_) (a' := ?_) #[true, true, true, true, true, true, true, true, true, true, true, true, true, true, true, true, true, true, true, true, true, true, true, true, true, true, true, true, true, true, true, true, true, true, true, true, true, true, true, true, true, true, true, true, true, true, true, true, true, true, false, false] rfl rfl (any_of HT_.out (by kernel_rfl)) (fun _ _ _ h => h) (Or.inl ⟨by rfl, ?_⟩) ?_ ?_
                        rotate_left
                        · intro w'
                          go_simp
                          with_reducible rfl
                        rotate_left
                        · simp only [Act.put, List.setIfInBounds_toArray, List.set_cons_zero, List.set_cons_succ, i64_w, i32_w]
                          rfl
                        refine pure_ (i := 50) (N := some 143) (v := ?_) (a' := ?_) #[true, true, true, true, true, true, true, true, true, true, true, true, true, true, true, true, true, true, true, true, true, true, true, true, true, true, true, true, true, true, true, true, true, true, true, true, true, true, true, true, true, true, true, true, true, true, true, true, true, true, true, false] rfl rfl (any_of HT_.out (by kernel_rfl)) (fun _ _ _ h => h) (Or.inl ⟨by rfl, ?_⟩) ?_ ?_
                        rotate_left
                        · intro w'
                          go_simp
                          with_reducible rfl
                        rotate_left
                        · simp only [Act.put, List.setIfInBounds_toArray, List.set_cons_zero, List.set_cons_succ, i64_w, i32_w]
                          rfl
                        refine pure_ (i := 51) (N := some 4) (v := ?_) (a' := ?_) #[true, true, true, true, true, true, true, true, true, true, true, true, true, true, true, true, true, true, true, true, true, true, true, true, true, true, true, true, true, true, true, true, true, true, true, true, true, true, true, true, true, true, true, true, true, true, true, true, true, true, true, true] rfl rfl (any_of HT_.out (by kernel_rfl)) (fun _ _ _ h => h) (Or.inl ⟨by rfl, ?_⟩) ?_ ?_
                        rotate_left
                        · intro w'
                          go_simp
                          with_reducible rfl
                        rotate_left
                        · simp only [Act.put, List.setIfInBounds_toArray, List.set_cons_zero, List.set_cons_succ, i64_w, i32_w]
                          rfl
                        refine done_ (done_of HT_.out (by kernel_rfl)) ?_
                        try go_wp2
                        go_ret
                        exact ⟨by first | rfl | (rw [HY.out] <;> rfl) | (simp [errW_none, errW_some] <;> rfl) | (simp [*, errW_none, errW_some] <;> rfl), by repeat (first | (with_reducible first | exact HB.out | apply below_alloc | apply pw_below_drewN | apply below_drew1 | refine below_set ?_ GE475.out | refine below_set ?_ GE476.out | refine below_set ?_ GE480.out | refine below_set ?_ GE484.out | refine below_set ?_ GE488.out | refine below_set ?_ GE492.out | refine below_set ?_ GE508.out | refine below_set ?_ GE512.out) | exact HB.out)⟩
                      · rw [if_neg c124] at H
                        have c124b0 : (t515 == t516) = false := beq_eq_false_iff_ne.mpr c124
                        have c124b1 : (t515 != t516) = true := bne_iff_ne.mpr c124
                        exact absurd H (by simp)
                    · rw [if_neg c121] at H
                      have c121b0 : (t513 == t514) = false := by simpa using c121
                      (try (have c121b1 : decide (t513 = t514) = false := by simpa using c121))
                      (try (have c121b2 : (t513 == t514) = false := by simpa using c121))
                      (try (have c121b3 : ¬ (t513 = t514) := by simpa using c121))
                      clear c121
                      exact absurd H (by simp)
                  · rw [if_neg c118] at H
                    have c118b0 : (t507 == t511) = false := beq_eq_false_iff_ne.mpr c118
                    have c118b1 : (t507 != t511) = true := bne_iff_ne.mpr c118
                    exact absurd H (by simp)
                · rw [if_neg c117] at H
                  have c117b0 : (t505 == t509 && (t506 == t510)) = false := by simpa using c117
                  (try (have c117b1 : decide (t505 = t509 && (t506 == t510)) = false := by simpa using c117))
                  (try (have c117b2 : (t505 == t509 && (t506 == t510)) = false := by simpa using c117))
                  (try (have c117b3 : ¬ (t505 = t509 && (t506 == t510)) := by simpa using c117))
                  clear c117
                  exact absurd H (by simp)
              · rw [if_neg c116] at H
                have c116b0 : (t501 == t504) = false := beq_eq_false_iff_ne.mpr c116
                have c116b1 : (t501 != t504) = true := bne_iff_ne.mpr c116
                exact absurd H (by simp)
            · rw [if_neg c115] at H
              have c115b0 : (t499 == t502 && (t500 == t503)) = false := by simpa using c115
              (try (have c115b1 : decide (t499 = t502 && (t500 == t503)) = false := by simpa using c115))
              (try (have c115b2 : (t499 == t502 && (t500 == t503)) = false := by simpa using c115))
              (try (have c115b3 : ¬ (t499 = t502 && (t500 == t503)) := by simpa using c115))
              clear c115
              exact absurd H (by simp)
          · rw [if_neg c114] at H
            have c114b0 : (t495 == t498) = false := beq_eq_false_iff_ne.mpr c114
            have c114b1 : (t495 != t498) = true := bne_iff_ne.mpr c114
            exact absurd H (by simp)
        · rw [if_neg c113] at H
          have c113b0 : (t493 == t496 && (t494 == t497)) = false := by simpa using c113
          (try (have c113b1 : decide (t493 = t496 && (t494 == t497)) = false := by simpa using c113))
          (try (have c113b2 : (t493 == t496 && (t494 == t497)) = false := by simpa using c113))
          (try (have c113b3 : ¬ (t493 = t496 && (t494 == t497)) := by simpa using c113))
          clear c113
          exact absurd H (by simp)
end Go.Proofs.YtighihhaljofdaaDoor.P
