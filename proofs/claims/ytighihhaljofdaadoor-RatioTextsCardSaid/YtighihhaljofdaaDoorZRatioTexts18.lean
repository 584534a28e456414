/- Texts for the law RatioTexts (kept out of a larger one). -/
import Derived.Test.YtighihhaljofdaaDoorZRatioTexts9
import Derived.Test.YtighihhaljofdaaDoorZRatioTexts17
-- Written by a program of this session (wip/tools/xprint.py) out of the translation; Lean checks it.
namespace Go.Proofs.YtighihhaljofdaaDoor.P
open Go.RowKit Go.Proofs.YtighihhaljofdaaDoorW.PrintWords Go.Proofs.YtighihhaljofdaaDoorW.PrintLast Go.Proofs.YtighihhaljofdaaDoorW.PrintMore
attribute [local go_sem] max2_int min2_int max_two min_two max_three min_three max_four min_four   -- for this text's walks alone
set_option linter.unusedVariables false
set_option linter.unusedSimpArgs false
mutual
def payrollref1_Parse.j0 : Nat → ByteArray → ByteArray → Bool → Option (Int × Int × Bool)
  | 0, _, _, _ => none
  | k + 1, x0, x4, x14 => if x14 = true then (if 1 ≤ (x0.size : Int) then (payrollref1_Parse.j1 k x0 (x0.extract 1 x0.size)) else (none)) else (payrollref1_Parse.j1 k x0 x4)
def payrollref1_Parse.j1 : Nat → ByteArray → ByteArray → Option (Int × Int × Bool)
  | 0, _, _ => none
  | k + 1, x0, x4 => (payrollref1_digits.f k x4).bind fun bt209 => (if (bt209.2.size : Int) > 0 then (if 0 < (bt209.2.size : Int) then (payrollref1_Parse.j2 k x0 bt209.2 ((bt bt209.2 0) == 47) bt209.1 1) else (none)) else (payrollref1_Parse.j2 k x0 bt209.2 false bt209.1 1))
def payrollref1_Parse.j2 : Nat → ByteArray → ByteArray → Bool → Int → Int → Option (Int × Int × Bool)
  | 0, _, _, _, _, _ => none
  | k + 1, x0, x4, x31, x209000, x209001 => if x31 = true then (if 1 ≤ (x4.size : Int) then ((payrollref1_digits.f k (x4.extract 1 x4.size)).bind fun bt211 => (payrollref1_Parse.j3 k x0 bt211.2 x209000 bt211.1)) else (none)) else (payrollref1_Parse.j3 k x0 x4 x209000 x209001)
def payrollref1_Parse.j3 : Nat → ByteArray → ByteArray → Int → Int → Option (Int × Int × Bool)
  | 0, _, _, _, _ => none
  | k + 1, x0, x4, x209000, x209001 => if (x0.size : Int) > 0 then (if 0 < (x0.size : Int) then (payrollref1_Parse.j4 k x0 x4 ((bt x0 0) == 45) x209000 x209001) else (none)) else (payrollref1_Parse.j4 k x0 x4 false x209000 x209001)
def payrollref1_Parse.j4 : Nat → ByteArray → ByteArray → Bool → Int → Int → Option (Int × Int × Bool)
  | 0, _, _, _, _, _ => none
  | k + 1, x0, x4, x46, x209000, x209001 => if x46 = true then (payrollref1_Parse.j5 k x0 x4 (wrap64 (-x209000)) x209001) else (payrollref1_Parse.j5 k x0 x4 x209000 x209001)
def payrollref1_Parse.j5 : Nat → ByteArray → ByteArray → Int → Int → Option (Int × Int × Bool)
  | 0, _, _, _, _ => none
  | k + 1, x0, x4, x209000, x209001 => if (x4.size : Int) > 0 then (payrollref1_Parse.j6 k true x209000 x209001) else ((payrollref1_Format.f k x209000 x209001).bind fun t213 => (if t213.toList = x0.toList then (payrollref1_Parse.j6 k (x0.toList == ([] : List UInt8)) x209000 x209001) else (payrollref1_Parse.j6 k true x209000 x209001)))
def payrollref1_Parse.j6 : Nat → Bool → Int → Int → Option (Int × Int × Bool)
  | 0, _, _, _ => none
  | k + 1, x63, x209000, x209001 => if x63 = true then (some (0, 0, false)) else (some (x209000, x209001, true))
end
def payrollref1_Parse.f (k : Nat) (a0 : ByteArray) : Option (Int × Int × Bool) := if (a0.size : Int) > 0 then (if 0 < (a0.size : Int) then (payrollref1_Parse.j0 k a0 a0 ((bt a0 0) == 45)) else (none)) else (payrollref1_Parse.j0 k a0 a0 false)
set_option maxHeartbeats 8000000 in
set_option maxRecDepth 100000 in
theorem payrollref1_Parse.calls (k : Nat) (a0 : ByteArray) (r1 : Int) (r2 : Int) (r3 : Bool) (w : World) (h : payrollref1_Parse.f k a0 = some (r1, r2, r3)) :
    Calls Tryd.prog 18 #[.string a0] w fun e w' => e = .returned (.tuple #[.agg #[.int .i64 r1, .int .i64 r2], .bool r3]) ∧ Below w.heap.size w w' := by
  have hu23 := Tryd.underlying23
  have HB := Aside0.mk (Below.refl w.heap.size w)
  have H : (if (a0.size : Int) > 0 then (if 0 < (a0.size : Int) then (payrollref1_Parse.j0 k a0 a0 ((bt a0 0) == 45)) else (none)) else (payrollref1_Parse.j0 k a0 a0 false)) = some (r1, r2, r3) := h
  clear h
  have HC2 := Aside0.mk H
  clear H
  go_enter Tryd.func18, Tryd.ntmps18
  go_upto_region 2 with (first | ((with_reducible refine gate_dst (N := 2) rfl ?_); refine box_event ?hg (N := 2) ?hd (cs := #[.int .i64 0, .int .i64 0]) (t := 23) ?hr ?_; (case hd => rfl); (case hg => rfl); (case hr => first | (go_simp; done) | (go_simp; rfl)); intro gb207 hg w3 hbox hb; have n0_ := Aside0.mk (below_step (by repeat (first | (with_reducible first | exact HB.out | apply below_alloc | apply pw_below_drewN | apply below_drew1) | exact HB.out)) hb); have n1_ := Aside0.mk (hbox); have n2_ := Aside0.mk ((by rw [hg]; exact (below_size (by repeat (first | (with_reducible first | exact HB.out | apply below_alloc | apply pw_below_drewN | apply below_drew1) | exact HB.out))) : w.heap.size ≤ gb207)); have n3_ := Aside0.mk ((by rw [hg]; exact (below_size (by repeat (first | (with_reducible first | exact HB.out | apply below_alloc | apply pw_below_drewN | apply below_drew1) | exact HB.out))) : w.heap.size ≤ gb207)); clear HB; have HB := n0_; have BK207 := n1_; have GW207 := n2_; have GE207 := n3_; clear n0_ n1_ n2_ n3_; clear hb hbox hg))
  (try simp only [Act.put, List.setIfInBounds_toArray, List.set_cons_zero, List.set_cons_succ])
  go_cut [14] (fun v14 wc => ∃ (kq : Nat) (x14_1 : Bool), v14 = .bool x14_1 ∧ Aside0 (payrollref1_Parse.j0 kq a0 a0 x14_1 = some (r1, r2, r3)) ∧ Aside0 (kq ≤ k) ∧ Aside0 (wc.heap[gb207]? = some (.cells #[.int .i64 0, .int .i64 0] 23 (0, 0))) ∧ Aside0 (Below w.heap.size w wc))
  case first =>
    have H := HC2.out
    clear HC2
    by_cases c4 : (a0.size : Int) > 0
    · rw [if_pos c4] at H
      have c4b0 : decide (0 < (a0.size : Int)) = true := decide_eq_true c4
      have c4b1 : decide (0 < a0.size) = true := decide_eq_true (by omega)
      clear c4
      (first | rw [c4b0] | (simp only [i64_w, i32_w]; rw [c4b0]) | skip)
      by_cases c5 : 0 < (a0.size : Int)
      · rw [if_pos c5] at H
        have c5b0 : decide (0 < (a0.size : Int)) = true := decide_eq_true c5
        have c5b1 : decide (0 < a0.size) = true := decide_eq_true (by omega)
        clear c5
        have H' := Aside0.mk H
        clear H
        have p6 : 0 ≤ (0 : Int) := (by omega)
        have q6 : 0 < a0.size := (by have : (0 : Int) < (a0.size : Int) := of_decide_eq_true (by first | (with_reducible assumption) | assumption); omega)
        have hx6 : ∀ h : 0 < a0.size, ((a0[0]'h).toNat : Int) = bt a0 0 := bt_at a0 0
        clear p6
        have qi6 : (0 < (a0.size : Int)) = True := eq_true (of_decide_eq_true (by first | (with_reducible assumption) | assumption))
        replace q6 := eq_true q6
        go_wp2
        go_meet
        case rel => exact ⟨_, (((bt a0 0) == 45)), (by first | rfl | (simp; done) | (simp [*]; done)), H', ⟨by first | omega | exact Nat.le_refl _⟩, ⟨by (with_reducible repeat (first | refine blk_drewN ?_ _ | refine blk_drew ?_ | refine blk_alloc ?_ _)); exact BK207.out⟩, ⟨by repeat (first | (with_reducible first | exact HB.out | apply below_alloc | apply pw_below_drewN | apply below_drew1 | refine below_set ?_ GE207.out) | exact HB.out)⟩⟩
      · rw [if_neg c5] at H
        exact absurd H (by simp)
    · rw [if_neg c4] at H
      have c4b0 : decide (0 < (a0.size : Int)) = false := decide_eq_false c4
      have c4b1 : decide (0 < a0.size) = false := decide_eq_false (by omega)
      clear c4
      (first | rw [c4b0] | (simp only [i64_w, i32_w]; rw [c4b0]) | skip)
      have H' := Aside0.mk H
      clear H
      go_wp2
      go_meet
      case rel => exact ⟨_, (false), (by first | rfl | (simp; done) | (simp [*]; done)), H', ⟨by first | omega | exact Nat.le_refl _⟩, ⟨by (with_reducible repeat (first | refine blk_drewN ?_ _ | refine blk_drew ?_ | refine blk_alloc ?_ _)); exact BK207.out⟩, ⟨by repeat (first | (with_reducible first | exact HB.out | apply below_alloc | apply pw_below_drewN | apply below_drew1 | refine below_set ?_ GE207.out) | exact HB.out)⟩⟩
  case rest =>
    clear HC2
    try clear c1
    try clear p2
    try clear c4
    try clear c4b0
    try clear c4b1
    try clear c5
    try clear c5b0
    try clear c5b1
    try clear p6
    try clear q6
    try clear hx6
    try clear qi6
    try clear p6
    try clear q6
    obtain ⟨kq, x14_1, rfl, HA, HJ1, BK207, HB⟩ := hcut
    cases kq with
    | zero => exact absurd HA.out (by simp [payrollref1_Parse.j0])
    | succ kj1 =>
      have H := HA.out
      clear HA
      simp only [payrollref1_Parse.j0] at H
      have HC7 := Aside0.mk H
      clear H
      go_upto_if 14 with (fail)
      go_cut [4] (fun v4 wc => ∃ (kq : Nat) (x4_6 : ByteArray), v4 = .string x4_6 ∧ Aside0 (payrollref1_Parse.j1 kq a0 x4_6 = some (r1, r2, r3)) ∧ Aside0 (kq ≤ kj1) ∧ Aside0 (wc.heap[gb207]? = some (.cells #[.int .i64 0, .int .i64 0] 23 (0, 0))) ∧ Aside0 (Below w.heap.size w wc))
      case first =>
        have H := HC7.out
        clear HC7
        by_cases c8 : x14_1 = true
        · subst c8
          have H1 : (if 1 ≤ (a0.size : Int) then (payrollref1_Parse.j1 kj1 a0 (a0.extract 1 a0.size)) else (none)) = some (r1, r2, r3) := by rw [if_pos rfl] at H; exact H
          clear H
          have H := H1
          clear H1
          by_cases c9 : 1 ≤ (a0.size : Int)
          · rw [if_pos c9] at H
            have c9b0 := eq_true c9
            have c9b1 : decide (1 ≤ (a0.size : Int)) = true := decide_eq_true c9
            clear c9
            have H' := Aside0.mk H
            clear H
            go_wp2
            go_meet
            case rel => exact ⟨_, (a0.extract 1 a0.size), (by first | rfl | (simp; done) | (simp [*]; done)), H', ⟨by have := HJ1.out; first | omega | exact Nat.le_refl _⟩, ⟨by (with_reducible repeat (first | refine blk_drewN ?_ _ | refine blk_drew ?_ | refine blk_alloc ?_ _)); exact BK207.out⟩, ⟨by repeat (first | (with_reducible first | exact HB.out | apply below_alloc | apply pw_below_drewN | apply below_drew1 | refine below_set ?_ GE207.out) | exact HB.out)⟩⟩
          · rw [if_neg c9] at H
            exact absurd H (by simp)
        · replace c8 := Bool.eq_false_iff.mpr c8
          subst c8
          have H1 : (payrollref1_Parse.j1 kj1 a0 a0) = some (r1, r2, r3) := by rw [if_neg (show ¬ (false = true) by decide)] at H; exact H
          clear H
          have H := H1
          clear H1
          have H' := Aside0.mk H
          clear H
          go_wp2
          go_meet
          case rel => exact ⟨_, (a0), (by first | rfl | (simp; done) | (simp [*]; done)), H', ⟨by have := HJ1.out; first | omega | exact Nat.le_refl _⟩, ⟨by (with_reducible repeat (first | refine blk_drewN ?_ _ | refine blk_drew ?_ | refine blk_alloc ?_ _)); exact BK207.out⟩, ⟨by repeat (first | (with_reducible first | exact HB.out | apply below_alloc | apply pw_below_drewN | apply below_drew1 | refine below_set ?_ GE207.out) | exact HB.out)⟩⟩
      case rest =>
        clear HC7
        try clear c1
        try clear p2
        try clear c4
        try clear c4b0
        try clear c4b1
        try clear c5
        try clear c5b0
        try clear c5b1
        try clear p6
        try clear q6
        try clear hx6
        try clear qi6
        try clear c8
        try clear c9
        try clear c9b0
        try clear c9b1
        try clear p2
        try clear p6
        try clear q6
        obtain ⟨kq, x4_6, rfl, HA, HJ6, BK207, HB⟩ := hcut
        cases kq with
        | zero => exact absurd HA.out (by simp [payrollref1_Parse.j1])
        | succ kj6 =>
          have H := HA.out
          clear HA
          simp only [payrollref1_Parse.j1] at H
          replace H := Option.bind_eq_some_iff.mp H
          obtain ⟨⟨t209, t210⟩, A100, H⟩ := H
          replace H : (if (t210.size : Int) > 0 then (if 0 < (t210.size : Int) then (payrollref1_Parse.j2 kj6 a0 t210 ((bt t210 0) == 47) t209 1) else (none)) else (payrollref1_Parse.j2 kj6 a0 t210 false t209 1)) = some (r1, r2, r3) := H
          have A10 := Aside0.mk A100
          clear A100
          have HC11 := Aside0.mk H
          clear H
          go_upto_region 6 with (first | ((with_reducible refine gate_dst (N := 5) rfl ?_); refine box_event ?hg (N := 5) ?hd (cs := #[.int .i64 0, .int .i64 0]) (t := 23) ?hr ?_; (case hd => rfl); (case hg => rfl); (case hr => first | (go_simp; done) | (go_simp; rfl)); intro gb208 hg w12 hbox hb; have n0_ := Aside0.mk (blk_below (g := gb207) (o := .cells #[.int .i64 0, .int .i64 0] 23 (0, 0)) (by (with_reducible repeat (first | refine blk_drewN ?_ _ | refine blk_drew ?_ | refine blk_alloc ?_ _)); exact BK207.out) hb); have n1_ := Aside0.mk (below_step (by repeat (first | (with_reducible first | exact HB.out | apply below_alloc | apply pw_below_drewN | apply below_drew1 | refine below_set ?_ GE207.out) | exact HB.out)) hb); have n2_ := Aside0.mk (hbox); have n3_ := Aside0.mk ((by rw [hg]; exact (below_size (by repeat (first | (with_reducible first | exact HB.out | apply below_alloc | apply pw_below_drewN | apply below_drew1 | refine below_set ?_ GE207.out) | exact HB.out))) : w.heap.size ≤ gb208)); have n4_ := Aside0.mk ((by rw [hg]; exact (below_size (by repeat (first | (with_reducible first | exact HB.out | apply below_alloc | apply pw_below_drewN | apply below_drew1 | refine below_set ?_ GE207.out) | exact HB.out))) : w.heap.size ≤ gb208)); have n5_ := Aside0.mk ((by rw [hg]; exact Nat.ne_of_lt (blk_lt (g := gb207) (o := .cells #[.int .i64 0, .int .i64 0] 23 (0, 0)) (by (with_reducible repeat (first | refine blk_drewN ?_ _ | refine blk_drew ?_ | refine blk_alloc ?_ _)); exact BK207.out)) : gb207 ≠ gb208)); have n6_ := Aside0.mk ((by rw [hg]; exact Nat.ne_of_gt (blk_lt (g := gb207) (o := .cells #[.int .i64 0, .int .i64 0] 23 (0, 0)) (by (with_reducible repeat (first | refine blk_drewN ?_ _ | refine blk_drew ?_ | refine blk_alloc ?_ _)); exact BK207.out)) : gb208 ≠ gb207)); clear BK207; clear HB; have BK207 := n0_; have HB := n1_; have BK208 := n2_; have GW208 := n3_; have GE208 := n4_; have NB207_208 := n5_; have NB208_207 := n6_; clear n0_ n1_ n2_ n3_ n4_ n5_ n6_; clear hb hbox hg; have hnb13 := NB208_207.out; have hnc13 := NB207_208.out; have hcz14_0 : w12.cell? ⟨gb208, 0, none⟩ = some (.int .i64 0) := (blk_cell BK208.out 0).trans rfl; have hcz14_1 : w12.cell? ⟨gb208, 1, none⟩ = some (.int .i64 0) := (blk_cell BK208.out 1).trans rfl; have hfz14_0 := blk_frozen BK208.out 0; have hfz14_1 := blk_frozen BK208.out 1) | ((with_reducible refine gate_callee (f := 39) rfl ?_); refine goesL_ (some 20) rfl rfl Tryd.func39 (by kernel_rfl) rfl #[.string x4_6] rfl (by (try simp only [List.map_toArray, List.map_cons, List.map_nil]); first | done | rfl | (simp only [List.length_drop, List.length_take]; rfl)) ?_; (with_reducible refine (payrollref1_digits.calls kj6 x4_6 t209 t210 _ A10.out).mono ?_); rintro e w' ⟨rfl, ⟨nd, rfl⟩⟩; refine ⟨_, rfl, ?_⟩))
          (try simp only [Act.put, List.setIfInBounds_toArray, List.set_cons_zero, List.set_cons_succ])
          go_cut [31] (fun v31 wc => ∃ (kq : Nat) (x31_10 : Bool), v31 = .bool x31_10 ∧ Aside0 (payrollref1_Parse.j2 kq a0 t210 x31_10 t209 1 = some (r1, r2, r3)) ∧ Aside0 (kq ≤ kj6) ∧ Aside0 (wc.heap[gb207]? = some (.cells #[.int .i64 0, .int .i64 0] 23 (0, 0))) ∧ Aside0 (wc.heap[gb208]? = some (.cells #[.int .i64 t209, .int .i64 1] 23 (0, 0))) ∧ Aside0 (Below w.heap.size w wc))
          case first =>
            have H := HC11.out
            clear HC11
            by_cases c15 : (t210.size : Int) > 0
            · rw [if_pos c15] at H
              have c15b0 : decide (0 < (t210.size : Int)) = true := decide_eq_true c15
              have c15b1 : decide (0 < t210.size) = true := decide_eq_true (by omega)
              clear c15
              (first | rw [c15b0] | (simp only [i64_w, i32_w]; rw [c15b0]) | skip)
              by_cases c16 : 0 < (t210.size : Int)
              · rw [if_pos c16] at H
                have c16b0 : decide (0 < (t210.size : Int)) = true := decide_eq_true c16
                have c16b1 : decide (0 < t210.size) = true := decide_eq_true (by omega)
                clear c16
                have H' := Aside0.mk H
                clear H
                have p17 : 0 ≤ (0 : Int) := (by omega)
                have q17 : 0 < t210.size := (by have : (0 : Int) < (t210.size : Int) := of_decide_eq_true (by first | (with_reducible assumption) | assumption); omega)
                have hx17 : ∀ h : 0 < t210.size, ((t210[0]'h).toNat : Int) = bt t210 0 := bt_at t210 0
                clear p17
                have qi17 : (0 < (t210.size : Int)) = True := eq_true (of_decide_eq_true (by first | (with_reducible assumption) | assumption))
                replace q17 := eq_true q17
                go_wp2
                go_meet
                case rel => exact ⟨_, (((bt t210 0) == 47)), (by first | rfl | (simp; done) | (simp [*]; done)), H', ⟨by have := HJ1.out; have := HJ6.out; first | omega | exact Nat.le_refl _⟩, ⟨by (with_reducible repeat (first | refine blk_drewN ?_ _ | refine blk_drew ?_ | refine blk_alloc ?_ _)); refine blk_far ?_ NB207_208.out _; (with_reducible repeat (first | refine blk_drewN ?_ _ | refine blk_drew ?_ | refine blk_alloc ?_ _)); refine blk_far ?_ NB207_208.out _; (with_reducible repeat (first | refine blk_drewN ?_ _ | refine blk_drew ?_ | refine blk_alloc ?_ _)); refine blk_far ?_ NB207_208.out _; (with_reducible repeat (first | refine blk_drewN ?_ _ | refine blk_drew ?_ | refine blk_alloc ?_ _)); exact BK207.out⟩, ⟨by (with_reducible repeat (first | refine blk_drewN ?_ _ | refine blk_drew ?_ | refine blk_alloc ?_ _)); refine blk_put (cs := #[.int .i64 0, .int .i64 1]) ?_ 0 _ rfl; (with_reducible repeat (first | refine blk_drewN ?_ _ | refine blk_drew ?_ | refine blk_alloc ?_ _)); refine blk_put (cs := #[.int .i64 0, .int .i64 0]) ?_ 1 _ rfl; (with_reducible repeat (first | refine blk_drewN ?_ _ | refine blk_drew ?_ | refine blk_alloc ?_ _)); refine blk_put (cs := #[.int .i64 0, .int .i64 0]) ?_ 0 _ rfl; (with_reducible repeat (first | refine blk_drewN ?_ _ | refine blk_drew ?_ | refine blk_alloc ?_ _)); exact BK208.out⟩, ⟨by repeat (first | (with_reducible first | exact HB.out | apply below_alloc | apply pw_below_drewN | apply below_drew1 | refine below_set ?_ GE207.out | refine below_set ?_ GE208.out) | exact HB.out)⟩⟩
              · rw [if_neg c16] at H
                exact absurd H (by simp)
            · rw [if_neg c15] at H
              have c15b0 : decide (0 < (t210.size : Int)) = false := decide_eq_false c15
              have c15b1 : decide (0 < t210.size) = false := decide_eq_false (by omega)
              clear c15
              (first | rw [c15b0] | (simp only [i64_w, i32_w]; rw [c15b0]) | skip)
              have H' := Aside0.mk H
              clear H
              go_wp2
              go_meet
              case rel => exact ⟨_, (false), (by first | rfl | (simp; done) | (simp [*]; done)), H', ⟨by have := HJ1.out; have := HJ6.out; first | omega | exact Nat.le_refl _⟩, ⟨by (with_reducible repeat (first | refine blk_drewN ?_ _ | refine blk_drew ?_ | refine blk_alloc ?_ _)); refine blk_far ?_ NB207_208.out _; (with_reducible repeat (first | refine blk_drewN ?_ _ | refine blk_drew ?_ | refine blk_alloc ?_ _)); refine blk_far ?_ NB207_208.out _; (with_reducible repeat (first | refine blk_drewN ?_ _ | refine blk_drew ?_ | refine blk_alloc ?_ _)); refine blk_far ?_ NB207_208.out _; (with_reducible repeat (first | refine blk_drewN ?_ _ | refine blk_drew ?_ | refine blk_alloc ?_ _)); exact BK207.out⟩, ⟨by (with_reducible repeat (first | refine blk_drewN ?_ _ | refine blk_drew ?_ | refine blk_alloc ?_ _)); refine blk_put (cs := #[.int .i64 0, .int .i64 1]) ?_ 0 _ rfl; (with_reducible repeat (first | refine blk_drewN ?_ _ | refine blk_drew ?_ | refine blk_alloc ?_ _)); refine blk_put (cs := #[.int .i64 0, .int .i64 0]) ?_ 1 _ rfl; (with_reducible repeat (first | refine blk_drewN ?_ _ | refine blk_drew ?_ | refine blk_alloc ?_ _)); refine blk_put (cs := #[.int .i64 0, .int .i64 0]) ?_ 0 _ rfl; (with_reducible repeat (first | refine blk_drewN ?_ _ | refine blk_drew ?_ | refine blk_alloc ?_ _)); exact BK208.out⟩, ⟨by repeat (first | (with_reducible first | exact HB.out | apply below_alloc | apply pw_below_drewN | apply below_drew1 | refine below_set ?_ GE207.out | refine below_set ?_ GE208.out) | exact HB.out)⟩⟩
          case rest =>
            clear HC11
            try clear c1
            try clear p1
            try clear q1
            try clear hx1
            try clear qi1
            try clear p2
            try clear c3
            try clear c4
            try clear c4b0
            try clear c4b1
            try clear c5
            try clear c5b0
            try clear c5b1
            try clear p6
            try clear q6
            try clear hx6
            try clear qi6
            try clear c8
            try clear c9
            try clear c9b0
            try clear c9b1
            try clear c13
            try clear c15
            try clear c15b0
            try clear c15b1
            try clear c16
            try clear c16b0
            try clear c16b1
            try clear p17
            try clear q17
            try clear hx17
            try clear qi17
            try clear hcz14_0
            try clear hcz14_1
            try clear hfz14_0
            try clear hfz14_1
            try clear p17
            try clear p2
            try clear p6
            try clear q17
            try clear q6
            obtain ⟨kq, x31_10, rfl, HA, HJ10, BK207, BK208, HB⟩ := hcut
            cases kq with
            | zero => exact absurd HA.out (by simp [payrollref1_Parse.j2])
            | succ kj10 =>
              have H := HA.out
              clear HA
              simp only [payrollref1_Parse.j2] at H
              have HC18 := Aside0.mk H
              clear H
              go_upto_if 31 with (fail)
              go_cut [4] (fun v4 wc => ∃ (kq : Nat) (x4_17 : ByteArray) (x209001_17 : Int), v4 = .string x4_17 ∧ Aside0 (payrollref1_Parse.j3 kq a0 x4_17 t209 x209001_17 = some (r1, r2, r3)) ∧ Aside0 (kq ≤ kj10) ∧ Aside0 (wc.heap[gb207]? = some (.cells #[.int .i64 0, .int .i64 0] 23 (0, 0))) ∧ Aside0 (wc.heap[gb208]? = some (.cells #[.int .i64 t209, .int .i64 x209001_17] 23 (0, 0))) ∧ Aside0 (Below w.heap.size w wc))
              case first =>
                have H := HC18.out
                clear HC18
                by_cases c19 : x31_10 = true
                · subst c19
                  have H1 : (if 1 ≤ (t210.size : Int) then ((payrollref1_digits.f kj10 (t210.extract 1 t210.size)).bind fun bt211 => (payrollref1_Parse.j3 kj10 a0 bt211.2 t209 bt211.1)) else (none)) = some (r1, r2, r3) := by rw [if_pos rfl] at H; exact H
                  clear H
                  have H := H1
                  clear H1
                  by_cases c20 : 1 ≤ (t210.size : Int)
                  · rw [if_pos c20] at H
                    have c20b0 := eq_true c20
                    have c20b1 : decide (1 ≤ (t210.size : Int)) = true := decide_eq_true c20
                    clear c20
                    replace H := Option.bind_eq_some_iff.mp H
                    obtain ⟨⟨t211, t212⟩, A210, H⟩ := H
                    replace H : (payrollref1_Parse.j3 kj10 a0 t212 t209 t211) = some (r1, r2, r3) := H
                    have A21 := Aside0.mk A210
                    clear A210
                    have H' := Aside0.mk H
                    clear H
                    go_wp2_with (first | ((with_reducible refine gate_callee (f := 39) rfl ?_); refine goesL_ (some 35) rfl rfl Tryd.func39 (by kernel_rfl) rfl #[.string (t210.extract 1 t210.size)] rfl (by (try simp only [List.map_toArray, List.map_cons, List.map_nil]); first | done | rfl | (simp only [List.length_drop, List.length_take]; rfl)) ?_; (with_reducible refine (payrollref1_digits.calls kj10 (t210.extract 1 t210.size) t211 t212 _ A21.out).mono ?_); rintro e w' ⟨rfl, ⟨nd, rfl⟩⟩; refine ⟨_, rfl, ?_⟩; (try simp only [World.drewN_drewN]); (try (rw [drewN_self wc]; generalize hq_ : World.drewN wc _ = wc; have n0_ : Aside0 (wc.heap[gb207]? = some (.cells #[.int .i64 0, .int .i64 0] 23 (0, 0))) := ⟨by rw [← hq_]; exact (by (with_reducible repeat (first | refine blk_drewN ?_ _ | refine blk_drew ?_ | refine blk_alloc ?_ _)); exact BK207.out)⟩; have n1_ : Aside0 (wc.heap[gb208]? = some (.cells #[.int .i64 t209, .int .i64 1] 23 (0, 0))) := ⟨by rw [← hq_]; exact (by (with_reducible repeat (first | refine blk_drewN ?_ _ | refine blk_drew ?_ | refine blk_alloc ?_ _)); exact BK208.out)⟩; have n2_ : Aside0 (Below w.heap.size w wc) := ⟨by rw [← hq_]; exact (by repeat (first | (with_reducible first | exact HB.out | apply below_alloc | apply pw_below_drewN | apply below_drew1 | refine below_set ?_ GE207.out | refine below_set ?_ GE208.out) | exact HB.out))⟩; clear BK207 BK208 HB hq_; have BK207 := n0_; have BK208 := n1_; have HB := n2_; clear n0_ n1_ n2_)); have hnb22 := NB208_207.out; have hnc22 := NB207_208.out; have hcz23_0 : wc.cell? ⟨gb208, 0, none⟩ = some (.int .i64 t209) := (blk_cell BK208.out 0).trans rfl; have hcz23_1 : wc.cell? ⟨gb208, 1, none⟩ = some (.int .i64 1) := (blk_cell BK208.out 1).trans rfl; have hfz23_0 := blk_frozen BK208.out 0; have hfz23_1 := blk_frozen BK208.out 1))
                    go_meet
                    case rel => exact ⟨_, (t212), (t211), (by first | rfl | (simp; done) | (simp [*]; done)), H', ⟨by have := HJ1.out; have := HJ6.out; have := HJ10.out; first | omega | exact Nat.le_refl _⟩, ⟨by (with_reducible repeat (first | refine blk_drewN ?_ _ | refine blk_drew ?_ | refine blk_alloc ?_ _)); refine blk_far ?_ NB207_208.out _; (with_reducible repeat (first | refine blk_drewN ?_ _ | refine blk_drew ?_ | refine blk_alloc ?_ _)); exact BK207.out⟩, ⟨by (with_reducible repeat (first | refine blk_drewN ?_ _ | refine blk_drew ?_ | refine blk_alloc ?_ _)); refine blk_put (cs := #[.int .i64 t209, .int .i64 1]) ?_ 1 _ rfl; (with_reducible repeat (first | refine blk_drewN ?_ _ | refine blk_drew ?_ | refine blk_alloc ?_ _)); exact BK208.out⟩, ⟨by repeat (first | (with_reducible first | exact HB.out | apply below_alloc | apply pw_below_drewN | apply below_drew1 | refine below_set ?_ GE207.out | refine below_set ?_ GE208.out) | exact HB.out)⟩⟩
                  · rw [if_neg c20] at H
                    exact absurd H (by simp)
                · replace c19 := Bool.eq_false_iff.mpr c19
                  subst c19
                  have H1 : (payrollref1_Parse.j3 kj10 a0 t210 t209 1) = some (r1, r2, r3) := by rw [if_neg (show ¬ (false = true) by decide)] at H; exact H
                  clear H
                  have H := H1
                  clear H1
                  have H' := Aside0.mk H
                  clear H
                  go_wp2
                  go_meet
                  case rel => exact ⟨_, (t210), (1), (by first | rfl | (simp; done) | (simp [*]; done)), H', ⟨by have := HJ1.out; have := HJ6.out; have := HJ10.out; first | omega | exact Nat.le_refl _⟩, ⟨by (with_reducible repeat (first | refine blk_drewN ?_ _ | refine blk_drew ?_ | refine blk_alloc ?_ _)); exact BK207.out⟩, ⟨by (with_reducible repeat (first | refine blk_drewN ?_ _ | refine blk_drew ?_ | refine blk_alloc ?_ _)); exact BK208.out⟩, ⟨by repeat (first | (with_reducible first | exact HB.out | apply below_alloc | apply pw_below_drewN | apply below_drew1 | refine below_set ?_ GE207.out | refine below_set ?_ GE208.out) | exact HB.out)⟩⟩
              case rest =>
                clear HC18
                try clear c1
                try clear p1
                try clear q1
                try clear hx1
                try clear qi1
                try clear c2
                try clear p2
                try clear c3
                try clear c4
                try clear c4b0
                try clear c4b1
                try clear c5
                try clear c5b0
                try clear c5b1
                try clear p6
                try clear q6
                try clear hx6
                try clear qi6
                try clear c8
                try clear c9
                try clear c9b0
                try clear c9b1
                try clear c13
                try clear c15
                try clear c15b0
                try clear c15b1
                try clear c16
                try clear c16b0
                try clear c16b1
                try clear p17
                try clear q17
                try clear hx17
                try clear qi17
                try clear c18
                try clear c19
                try clear c20
                try clear c20b0
                try clear c20b1
                try clear c22
                try clear hcz14_0
                try clear hcz14_1
                try clear hcz23_0
                try clear hcz23_1
                try clear hfz14_0
                try clear hfz14_1
                try clear hfz23_0
                try clear hfz23_1
                try clear p1
                try clear p17
                try clear p2
                try clear p6
                try clear q1
                try clear q17
                try clear q6
                obtain ⟨kq, x4_17, x209001_17, rfl, HA, HJ17, BK207, BK208, HB⟩ := hcut
                cases kq with
                | zero => exact absurd HA.out (by simp [payrollref1_Parse.j3])
                | succ kj17 =>
                  have H := HA.out
                  clear HA
                  simp only [payrollref1_Parse.j3] at H
                  have HC24 := Aside0.mk H
                  clear H
                  go_upto_region 8 with (fail)
                  go_cut [46] (fun v46 wc => ∃ (kq : Nat) (x46_23 : Bool), v46 = .bool x46_23 ∧ Aside0 (payrollref1_Parse.j4 kq a0 x4_17 x46_23 t209 x209001_17 = some (r1, r2, r3)) ∧ Aside0 (kq ≤ kj17) ∧ Aside0 (wc.heap[gb207]? = some (.cells #[.int .i64 0, .int .i64 0] 23 (0, 0))) ∧ Aside0 (wc.heap[gb208]? = some (.cells #[.int .i64 t209, .int .i64 x209001_17] 23 (0, 0))) ∧ Aside0 (Below w.heap.size w wc))
                  case first =>
                    have H := HC24.out
                    clear HC24
                    by_cases c25 : (a0.size : Int) > 0
                    · rw [if_pos c25] at H
                      have c25b0 : decide (0 < (a0.size : Int)) = true := decide_eq_true c25
                      have c25b1 : decide (0 < a0.size) = true := decide_eq_true (by omega)
                      clear c25
                      (first | rw [c25b0] | (simp only [i64_w, i32_w]; rw [c25b0]) | skip)
                      by_cases c26 : 0 < (a0.size : Int)
                      · rw [if_pos c26] at H
                        have c26b0 : decide (0 < (a0.size : Int)) = true := decide_eq_true c26
                        have c26b1 : decide (0 < a0.size) = true := decide_eq_true (by omega)
                        clear c26
                        have H' := Aside0.mk H
                        clear H
                        have p27 : 0 ≤ (0 : Int) := (by omega)
                        have q27 : 0 < a0.size := (by have : (0 : Int) < (a0.size : Int) := of_decide_eq_true (by first | (with_reducible assumption) | assumption); omega)
                        have hx27 : ∀ h : 0 < a0.size, ((a0[0]'h).toNat : Int) = bt a0 0 := bt_at a0 0
                        clear p27
                        have qi27 : (0 < (a0.size : Int)) = True := eq_true (of_decide_eq_true (by first | (with_reducible assumption) | assumption))
                        replace q27 := eq_true q27
                        go_wp2
                        go_meet
                        case rel => exact ⟨_, (((bt a0 0) == 45)), (by first | rfl | (simp; done) | (simp [*]; done)), H', ⟨by have := HJ1.out; have := HJ6.out; have := HJ10.out; have := HJ17.out; first | omega | exact Nat.le_refl _⟩, ⟨by (with_reducible repeat (first | refine blk_drewN ?_ _ | refine blk_drew ?_ | refine blk_alloc ?_ _)); exact BK207.out⟩, ⟨by (with_reducible repeat (first | refine blk_drewN ?_ _ | refine blk_drew ?_ | refine blk_alloc ?_ _)); exact BK208.out⟩, ⟨by repeat (first | (with_reducible first | exact HB.out | apply below_alloc | apply pw_below_drewN | apply below_drew1 | refine below_set ?_ GE207.out | refine below_set ?_ GE208.out) | exact HB.out)⟩⟩
                      · rw [if_neg c26] at H
                        exact absurd H (by simp)
                    · rw [if_neg c25] at H
                      have c25b0 : decide (0 < (a0.size : Int)) = false := decide_eq_false c25
                      have c25b1 : decide (0 < a0.size) = false := decide_eq_false (by omega)
                      clear c25
                      (first | rw [c25b0] | (simp only [i64_w, i32_w]; rw [c25b0]) | skip)
                      have H' := Aside0.mk H
                      clear H
                      go_wp2
                      go_meet
                      case rel => exact ⟨_, (false), (by first | rfl | (simp; done) | (simp [*]; done)), H', ⟨by have := HJ1.out; have := HJ6.out; have := HJ10.out; have := HJ17.out; first | omega | exact Nat.le_refl _⟩, ⟨by (with_reducible repeat (first | refine blk_drewN ?_ _ | refine blk_drew ?_ | refine blk_alloc ?_ _)); exact BK207.out⟩, ⟨by (with_reducible repeat (first | refine blk_drewN ?_ _ | refine blk_drew ?_ | refine blk_alloc ?_ _)); exact BK208.out⟩, ⟨by repeat (first | (with_reducible first | exact HB.out | apply below_alloc | apply pw_below_drewN | apply below_drew1 | refine below_set ?_ GE207.out | refine below_set ?_ GE208.out) | exact HB.out)⟩⟩
                  case rest =>
                    clear HC24
                    try clear c1
                    try clear p1
                    try clear q1
                    try clear hx1
                    try clear qi1
                    try clear c2
                    try clear p2
                    try clear q2
                    try clear hx2
                    try clear qi2
                    try clear c3
                    try clear c4
                    try clear c4b0
                    try clear c4b1
                    try clear c5
                    try clear c5b0
                    try clear c5b1
                    try clear p6
                    try clear q6
                    try clear hx6
                    try clear qi6
                    try clear c8
                    try clear c9
                    try clear c9b0
                    try clear c9b1
                    try clear c13
                    try clear c15
                    try clear c15b0
                    try clear c15b1
                    try clear c16
                    try clear c16b0
                    try clear c16b1
                    try clear p17
                    try clear q17
                    try clear hx17
                    try clear qi17
                    try clear c18
                    try clear c19
                    try clear c20
                    try clear c20b0
                    try clear c20b1
                    try clear c22
                    try clear c25
                    try clear c25b0
                    try clear c25b1
                    try clear c26
                    try clear c26b0
                    try clear c26b1
                    try clear p27
                    try clear q27
                    try clear hx27
                    try clear qi27
                    try clear hcz14_0
                    try clear hcz14_1
                    try clear hcz23_0
                    try clear hcz23_1
                    try clear hfz14_0
                    try clear hfz14_1
                    try clear hfz23_0
                    try clear hfz23_1
                    try clear p1
                    try clear p17
                    try clear p2
                    try clear p27
                    try clear p6
                    try clear q1
                    try clear q17
                    try clear q27
                    try clear q6
                    obtain ⟨kq, x46_23, rfl, HA, HJ23, BK207, BK208, HB⟩ := hcut
                    cases kq with
                    | zero => exact absurd HA.out (by simp [payrollref1_Parse.j4])
                    | succ kj23 =>
                      have H := HA.out
                      clear HA
                      simp only [payrollref1_Parse.j4] at H
                      have HC28 := Aside0.mk H
                      clear H
                      go_upto_if 46 with (fail)
                      go_cut [] (fun wc => ∃ (kq : Nat) (x209000_27 : Int), Aside0 (payrollref1_Parse.j5 kq a0 x4_17 x209000_27 x209001_17 = some (r1, r2, r3)) ∧ Aside0 (kq ≤ kj23) ∧ Aside0 (wc.heap[gb207]? = some (.cells #[.int .i64 0, .int .i64 0] 23 (0, 0))) ∧ Aside0 (wc.heap[gb208]? = some (.cells #[.int .i64 x209000_27, .int .i64 x209001_17] 23 (0, 0))) ∧ Aside0 (Below w.heap.size w wc))
                      case first =>
                        have H := HC28.out
                        clear HC28
                        by_cases c29 : x46_23 = true
                        · subst c29
                          have H1 : (payrollref1_Parse.j5 kj23 a0 x4_17 (wrap64 (-t209)) x209001_17) = some (r1, r2, r3) := by rw [if_pos rfl] at H; exact H
                          clear H
                          have H := H1
                          clear H1
                          have H' := Aside0.mk H
                          clear H
                          have hnb30 := NB208_207.out
                          have hnc30 := NB207_208.out
                          have hcz31_0 : wc.cell? ⟨gb208, 0, none⟩ = some (.int .i64 t209) := (blk_cell BK208.out 0).trans rfl
                          have hcz31_1 : wc.cell? ⟨gb208, 1, none⟩ = some (.int .i64 x209001_17) := (blk_cell BK208.out 1).trans rfl
                          have hfz31_0 := blk_frozen BK208.out 0
                          have hfz31_1 := blk_frozen BK208.out 1
                          go_wp2
                          go_meet
                          case rel => exact ⟨_, (wrap64 (-t209)), H', ⟨by have := HJ1.out; have := HJ6.out; have := HJ10.out; have := HJ17.out; have := HJ23.out; first | omega | exact Nat.le_refl _⟩, ⟨by (with_reducible repeat (first | refine blk_drewN ?_ _ | refine blk_drew ?_ | refine blk_alloc ?_ _)); refine blk_far ?_ NB207_208.out _; (with_reducible repeat (first | refine blk_drewN ?_ _ | refine blk_drew ?_ | refine blk_alloc ?_ _)); exact BK207.out⟩, ⟨by (with_reducible repeat (first | refine blk_drewN ?_ _ | refine blk_drew ?_ | refine blk_alloc ?_ _)); refine blk_put (cs := #[.int .i64 t209, .int .i64 x209001_17]) ?_ 0 _ rfl; (with_reducible repeat (first | refine blk_drewN ?_ _ | refine blk_drew ?_ | refine blk_alloc ?_ _)); exact BK208.out⟩, ⟨by repeat (first | (with_reducible first | exact HB.out | apply below_alloc | apply pw_below_drewN | apply below_drew1 | refine below_set ?_ GE207.out | refine below_set ?_ GE208.out) | exact HB.out)⟩⟩
                        · replace c29 := Bool.eq_false_iff.mpr c29
                          subst c29
                          have H1 : (payrollref1_Parse.j5 kj23 a0 x4_17 t209 x209001_17) = some (r1, r2, r3) := by rw [if_neg (show ¬ (false = true) by decide)] at H; exact H
                          clear H
                          have H := H1
                          clear H1
                          have H' := Aside0.mk H
                          clear H
                          go_wp2
                          go_meet
                          case rel => exact ⟨_, (t209), H', ⟨by have := HJ1.out; have := HJ6.out; have := HJ10.out; have := HJ17.out; have := HJ23.out; first | omega | exact Nat.le_refl _⟩, ⟨by (with_reducible repeat (first | refine blk_drewN ?_ _ | refine blk_drew ?_ | refine blk_alloc ?_ _)); exact BK207.out⟩, ⟨by (with_reducible repeat (first | refine blk_drewN ?_ _ | refine blk_drew ?_ | refine blk_alloc ?_ _)); exact BK208.out⟩, ⟨by repeat (first | (with_reducible first | exact HB.out | apply below_alloc | apply pw_below_drewN | apply below_drew1 | refine below_set ?_ GE207.out | refine below_set ?_ GE208.out) | exact HB.out)⟩⟩
                      case rest =>
                        clear HC28
                        try clear c1
                        try clear p1
                        try clear q1
                        try clear hx1
                        try clear qi1
                        try clear c2
                        try clear p2
                        try clear q2
                        try clear hx2
                        try clear qi2
                        try clear c3
                        try clear c4
                        try clear c4b0
                        try clear c4b1
                        try clear c5
                        try clear c5b0
                        try clear c5b1
                        try clear p6
                        try clear q6
                        try clear hx6
                        try clear qi6
                        try clear c8
                        try clear c9
                        try clear c9b0
                        try clear c9b1
                        try clear c13
                        try clear c15
                        try clear c15b0
                        try clear c15b1
                        try clear c16
                        try clear c16b0
                        try clear c16b1
                        try clear p17
                        try clear q17
                        try clear hx17
                        try clear qi17
                        try clear c18
                        try clear c19
                        try clear c20
                        try clear c20b0
                        try clear c20b1
                        try clear c22
                        try clear c25
                        try clear c25b0
                        try clear c25b1
                        try clear c26
                        try clear c26b0
                        try clear c26b1
                        try clear p27
                        try clear q27
                        try clear hx27
                        try clear qi27
                        try clear c29
                        try clear c30
                        try clear hcz14_0
                        try clear hcz14_1
                        try clear hcz23_0
                        try clear hcz23_1
                        try clear hcz31_0
                        try clear hcz31_1
                        try clear hfz14_0
                        try clear hfz14_1
                        try clear hfz23_0
                        try clear hfz23_1
                        try clear hfz31_0
                        try clear hfz31_1
                        try clear p1
                        try clear p17
                        try clear p2
                        try clear p27
                        try clear p6
                        try clear q1
                        try clear q17
                        try clear q2
                        try clear q27
                        try clear q6
                        obtain ⟨kq, x209000_27, HA, HJ27, BK207, BK208, HB⟩ := hcut
                        cases kq with
                        | zero => exact absurd HA.out (by simp [payrollref1_Parse.j5])
                        | succ kj27 =>
                          have H := HA.out
                          clear HA
                          simp only [payrollref1_Parse.j5] at H
                          have HC32 := Aside0.mk H
                          clear H
                          go_upto_region 10 with (fail)
                          go_cut [63] (fun v63 wc => ∃ (kq : Nat) (x63_31 : Bool), v63 = .bool x63_31 ∧ Aside0 (payrollref1_Parse.j6 kq x63_31 x209000_27 x209001_17 = some (r1, r2, r3)) ∧ Aside0 (kq ≤ kj27) ∧ Aside0 (wc.heap[gb207]? = some (.cells #[.int .i64 0, .int .i64 0] 23 (0, 0))) ∧ Aside0 (wc.heap[gb208]? = some (.cells #[.int .i64 x209000_27, .int .i64 x209001_17] 23 (0, 0))) ∧ Aside0 (Below w.heap.size w wc))
                          case first =>
                            have H := HC32.out
                            clear HC32
                            by_cases c33 : (x4_17.size : Int) > 0
                            · rw [if_pos c33] at H
                              have c33b0 : decide (0 < (x4_17.size : Int)) = true := decide_eq_true c33
                              have c33b1 : decide (0 < x4_17.size) = true := decide_eq_true (by omega)
                              clear c33
                              (first | rw [c33b0] | (simp only [i64_w, i32_w]; rw [c33b0]) | skip)
                              have H' := Aside0.mk H
                              clear H
                              go_wp2
                              go_meet
                              case rel => exact ⟨_, (true), (by first | rfl | (simp; done) | (simp [*]; done)), H', ⟨by have := HJ1.out; have := HJ6.out; have := HJ10.out; have := HJ17.out; have := HJ23.out; have := HJ27.out; first | omega | exact Nat.le_refl _⟩, ⟨by (with_reducible repeat (first | refine blk_drewN ?_ _ | refine blk_drew ?_ | refine blk_alloc ?_ _)); exact BK207.out⟩, ⟨by (with_reducible repeat (first | refine blk_drewN ?_ _ | refine blk_drew ?_ | refine blk_alloc ?_ _)); exact BK208.out⟩, ⟨by repeat (first | (with_reducible first | exact HB.out | apply below_alloc | apply pw_below_drewN | apply below_drew1 | refine below_set ?_ GE207.out | refine below_set ?_ GE208.out) | exact HB.out)⟩⟩
                            · rw [if_neg c33] at H
                              have c33b0 : decide (0 < (x4_17.size : Int)) = false := decide_eq_false c33
                              have c33b1 : decide (0 < x4_17.size) = false := decide_eq_false (by omega)
                              clear c33
                              (first | rw [c33b0] | (simp only [i64_w, i32_w]; rw [c33b0]) | skip)
                              replace H := Option.bind_eq_some_iff.mp H
                              obtain ⟨t213, A340, H⟩ := H
                              replace H : (if t213.toList = a0.toList then (payrollref1_Parse.j6 kj27 (a0.toList == ([] : List UInt8)) x209000_27 x209001_17) else (payrollref1_Parse.j6 kj27 true x209000_27 x209001_17)) = some (r1, r2, r3) := H
                              have A34 := Aside0.mk A340
                              clear A340
                              by_cases c35 : t213.toList = a0.toList
                              · rw [if_pos c35] at H
                                have c35b0 : (t213.toList == a0.toList) = true := beq_iff_eq.mpr c35
                                have c35b1 : (t213.toList != a0.toList) = false := bne_eq_false_iff_eq.mpr c35
                                clear c35
                                have H' := Aside0.mk H
                                clear H
                                have hnb36 := NB208_207.out
                                have hnc36 := NB207_208.out
                                have hcz37_0 : wc.cell? ⟨gb208, 0, none⟩ = some (.int .i64 x209000_27) := (blk_cell BK208.out 0).trans rfl
                                have hcz37_1 : wc.cell? ⟨gb208, 1, none⟩ = some (.int .i64 x209001_17) := (blk_cell BK208.out 1).trans rfl
                                have hfz37_0 := blk_frozen BK208.out 0
                                have hfz37_1 := blk_frozen BK208.out 1
                                go_wp2_with (first | (go_at_call 16; (with_reducible refine (payrollref1_Format.calls kj27 x209000_27 x209001_17 t213 _ A34.out).mono ?_); rintro e w38 ⟨rfl, hb⟩; have n0_ := Aside0.mk (blk_below (g := gb207) (o := .cells #[.int .i64 0, .int .i64 0] 23 (0, 0)) (by (with_reducible repeat (first | refine blk_drewN ?_ _ | refine blk_drew ?_ | refine blk_alloc ?_ _)); exact BK207.out) hb); have n1_ := Aside0.mk (blk_below (g := gb208) (o := .cells #[.int .i64 x209000_27, .int .i64 x209001_17] 23 (0, 0)) (by (with_reducible repeat (first | refine blk_drewN ?_ _ | refine blk_drew ?_ | refine blk_alloc ?_ _)); exact BK208.out) hb); have n2_ := Aside0.mk (below_step (by repeat (first | (with_reducible first | exact HB.out | apply below_alloc | apply pw_below_drewN | apply below_drew1 | refine below_set ?_ GE207.out | refine below_set ?_ GE208.out) | exact HB.out)) hb); clear BK207; clear BK208; clear HB; have BK207 := n0_; have BK208 := n1_; have HB := n2_; clear n0_ n1_ n2_; (try clear hb); (try clear hb2); (try clear hk); (try clear hi)))
                                go_meet
                                case rel => exact ⟨_, ((a0.toList == ([] : List UInt8))), (by first | rfl | (simp; done) | (simp [*]; done)), H', ⟨by have := HJ1.out; have := HJ6.out; have := HJ10.out; have := HJ17.out; have := HJ23.out; have := HJ27.out; first | omega | exact Nat.le_refl _⟩, ⟨by (with_reducible repeat (first | refine blk_drewN ?_ _ | refine blk_drew ?_ | refine blk_alloc ?_ _)); exact BK207.out⟩, ⟨by (with_reducible repeat (first | refine blk_drewN ?_ _ | refine blk_drew ?_ | refine blk_alloc ?_ _)); exact BK208.out⟩, ⟨by repeat (first | (with_reducible first | exact HB.out | apply below_alloc | apply pw_below_drewN | apply below_drew1 | refine below_set ?_ GE207.out | refine below_set ?_ GE208.out) | exact HB.out)⟩⟩
                              · rw [if_neg c35] at H
                                have c35b0 : (t213.toList == a0.toList) = false := beq_eq_false_iff_ne.mpr c35
                                have c35b1 : (t213.toList != a0.toList) = true := bne_iff_ne.mpr c35
                                have H' := Aside0.mk H
                                clear H
                                have hnb39 := NB208_207.out
                                have hnc39 := NB207_208.out
                                have hcz40_0 : wc.cell? ⟨gb208, 0, none⟩ = some (.int .i64 x209000_27) := (blk_cell BK208.out 0).trans rfl
                                have hcz40_1 : wc.cell? ⟨gb208, 1, none⟩ = some (.int .i64 x209001_17) := (blk_cell BK208.out 1).trans rfl
                                have hfz40_0 := blk_frozen BK208.out 0
                                have hfz40_1 := blk_frozen BK208.out 1
                                go_wp2_with (first | (go_at_call 16; (with_reducible refine (payrollref1_Format.calls kj27 x209000_27 x209001_17 t213 _ A34.out).mono ?_); rintro e w41 ⟨rfl, hb⟩; have n0_ := Aside0.mk (blk_below (g := gb207) (o := .cells #[.int .i64 0, .int .i64 0] 23 (0, 0)) (by (with_reducible repeat (first | refine blk_drewN ?_ _ | refine blk_drew ?_ | refine blk_alloc ?_ _)); exact BK207.out) hb); have n1_ := Aside0.mk (blk_below (g := gb208) (o := .cells #[.int .i64 x209000_27, .int .i64 x209001_17] 23 (0, 0)) (by (with_reducible repeat (first | refine blk_drewN ?_ _ | refine blk_drew ?_ | refine blk_alloc ?_ _)); exact BK208.out) hb); have n2_ := Aside0.mk (below_step (by repeat (first | (with_reducible first | exact HB.out | apply below_alloc | apply pw_below_drewN | apply below_drew1 | refine below_set ?_ GE207.out | refine below_set ?_ GE208.out) | exact HB.out)) hb); clear BK207; clear BK208; clear HB; have BK207 := n0_; have BK208 := n1_; have HB := n2_; clear n0_ n1_ n2_; (try clear hb); (try clear hb2); (try clear hk); (try clear hi)))
                                go_meet
                                case rel => exact ⟨_, (true), (by first | rfl | (simp; done) | (simp [*]; done)), H', ⟨by have := HJ1.out; have := HJ6.out; have := HJ10.out; have := HJ17.out; have := HJ23.out; have := HJ27.out; first | omega | exact Nat.le_refl _⟩, ⟨by (with_reducible repeat (first | refine blk_drewN ?_ _ | refine blk_drew ?_ | refine blk_alloc ?_ _)); exact BK207.out⟩, ⟨by (with_reducible repeat (first | refine blk_drewN ?_ _ | refine blk_drew ?_ | refine blk_alloc ?_ _)); exact BK208.out⟩, ⟨by repeat (first | (with_reducible first | exact HB.out | apply below_alloc | apply pw_below_drewN | apply below_drew1 | refine below_set ?_ GE207.out | refine below_set ?_ GE208.out) | exact HB.out)⟩⟩
                          case rest =>
                            clear HC32
                            try clear c1
                            try clear p1
                            try clear q1
                            try clear hx1
                            try clear qi1
                            try clear c2
                            try clear p2
                            try clear q2
                            try clear hx2
                            try clear qi2
                            try clear c3
                            try clear c4
                            try clear c4b0
                            try clear c4b1
                            try clear c5
                            try clear c5b0
                            try clear c5b1
                            try clear p6
                            try clear q6
                            try clear hx6
                            try clear qi6
                            try clear c8
                            try clear c9
                            try clear c9b0
                            try clear c9b1
                            try clear c13
                            try clear c15
                            try clear c15b0
                            try clear c15b1
                            try clear c16
                            try clear c16b0
                            try clear c16b1
                            try clear p17
                            try clear q17
                            try clear hx17
                            try clear qi17
                            try clear c18
                            try clear c19
                            try clear c20
                            try clear c20b0
                            try clear c20b1
                            try clear c22
                            try clear c25
                            try clear c25b0
                            try clear c25b1
                            try clear c26
                            try clear c26b0
                            try clear c26b1
                            try clear p27
                            try clear q27
                            try clear hx27
                            try clear qi27
                            try clear c29
                            try clear c30
                            try clear c33
                            try clear c33b0
                            try clear c33b1
                            try clear c35
                            try clear c35b0
                            try clear c35b1
                            try clear c36
                            try clear c39
                            try clear hcz14_0
                            try clear hcz14_1
                            try clear hcz23_0
                            try clear hcz23_1
                            try clear hcz31_0
                            try clear hcz31_1
                            try clear hcz37_0
                            try clear hcz37_1
                            try clear hcz40_0
                            try clear hcz40_1
                            try clear hfz14_0
                            try clear hfz14_1
                            try clear hfz23_0
                            try clear hfz23_1
                            try clear hfz31_0
                            try clear hfz31_1
                            try clear hfz37_0
                            try clear hfz37_1
                            try clear hfz40_0
                            try clear hfz40_1
                            try clear p1
                            try clear p17
                            try clear p2
                            try clear p27
                            try clear p6
                            try clear q1
                            try clear q17
                            try clear q2
                            try clear q27
                            try clear q6
                            obtain ⟨kq, x63_31, rfl, HA, HJ31, BK207, BK208, HB⟩ := hcut
                            cases kq with
                            | zero => exact absurd HA.out (by simp [payrollref1_Parse.j6])
                            | succ kj31 =>
                              have H := HA.out
                              clear HA
                              simp only [payrollref1_Parse.j6] at H
                              by_cases c42 : x63_31 = true
                              · subst c42
                                have H1 : (some (0, 0, false)) = some (r1, r2, r3) := by rw [if_pos rfl] at H; exact H
                                clear H
                                have H := H1
                                clear H1
                                simp only [Option.some.injEq, Prod.mk.injEq] at H
                                obtain ⟨rfl, rfl, rfl⟩ := H
                                have hnb43 := NB207_208.out
                                have hnc43 := NB208_207.out
                                have hcz44_0 : wc.cell? ⟨gb207, 0, none⟩ = some (.int .i64 0) := (blk_cell BK207.out 0).trans rfl
                                have hcz44_1 : wc.cell? ⟨gb207, 1, none⟩ = some (.int .i64 0) := (blk_cell BK207.out 1).trans rfl
                                have hfz44_0 := blk_frozen BK207.out 0
                                have hfz44_1 := blk_frozen BK207.out 1
                                go_wp2
                                refine bodyPost_ret (results_ct rfl _ _ gb207 23 #[.int .i64 0, .int .i64 0] (0, 0) _ rfl (by (with_reducible repeat (first | refine blk_drewN ?_ _ | refine blk_drew ?_ | refine blk_alloc ?_ _)); refine blk_put (cs := #[.int .i64 0, .int .i64 0]) ?_ 1 _ rfl; (with_reducible repeat (first | refine blk_drewN ?_ _ | refine blk_drew ?_ | refine blk_alloc ?_ _)); refine blk_put (cs := #[.int .i64 0, .int .i64 0]) ?_ 0 _ rfl; (with_reducible repeat (first | refine blk_drewN ?_ _ | refine blk_drew ?_ | refine blk_alloc ?_ _)); exact BK207.out) Tryd.underlying23 rfl (by kernel_rfl)) rfl ?_
                                exact ⟨by first | rfl | (simp [errW_none, errW_some] <;> rfl) | (simp [*, errW_none, errW_some] <;> rfl), by repeat (first | (with_reducible first | exact HB.out | apply below_alloc | apply pw_below_drewN | apply below_drew1 | refine below_set ?_ GE207.out | refine below_set ?_ GE208.out) | exact HB.out)⟩
                              · replace c42 := Bool.eq_false_iff.mpr c42
                                subst c42
                                have H1 : (some (x209000_27, x209001_17, true)) = some (r1, r2, r3) := by rw [if_neg (show ¬ (false = true) by decide)] at H; exact H
                                clear H
                                have H := H1
                                clear H1
                                simp only [Option.some.injEq, Prod.mk.injEq] at H
                                obtain ⟨rfl, rfl, rfl⟩ := H
                                have hnb45 := NB208_207.out
                                have hnc45 := NB207_208.out
                                have hcz46_0 : wc.cell? ⟨gb208, 0, none⟩ = some (.int .i64 x209000_27) := (blk_cell BK208.out 0).trans rfl
                                have hcz46_1 : wc.cell? ⟨gb208, 1, none⟩ = some (.int .i64 x209001_17) := (blk_cell BK208.out 1).trans rfl
                                have hfz46_0 := blk_frozen BK208.out 0
                                have hfz46_1 := blk_frozen BK208.out 1
                                have hcz47_0 : wc.cell? ⟨gb207, 0, none⟩ = some (.int .i64 0) := (blk_cell BK207.out 0).trans rfl
                                have hcz47_1 : wc.cell? ⟨gb207, 1, none⟩ = some (.int .i64 0) := (blk_cell BK207.out 1).trans rfl
                                have hfz47_0 := blk_frozen BK207.out 0
                                have hfz47_1 := blk_frozen BK207.out 1
                                go_wp2
                                refine bodyPost_ret (results_ct rfl _ _ gb207 23 #[.int .i64 x209000_27, .int .i64 x209001_17] (0, 0) _ rfl (by (with_reducible repeat (first | refine blk_drewN ?_ _ | refine blk_drew ?_ | refine blk_alloc ?_ _)); refine blk_put (cs := #[.int .i64 x209000_27, .int .i64 0]) ?_ 1 _ rfl; (with_reducible repeat (first | refine blk_drewN ?_ _ | refine blk_drew ?_ | refine blk_alloc ?_ _)); refine blk_put (cs := #[.int .i64 0, .int .i64 0]) ?_ 0 _ rfl; (with_reducible repeat (first | refine blk_drewN ?_ _ | refine blk_drew ?_ | refine blk_alloc ?_ _)); exact BK207.out) Tryd.underlying23 rfl (by kernel_rfl)) rfl ?_
                                exact ⟨by first | rfl | (simp [errW_none, errW_some] <;> rfl) | (simp [*, errW_none, errW_some] <;> rfl), by repeat (first | (with_reducible first | exact HB.out | apply below_alloc | apply pw_below_drewN | apply below_drew1 | refine below_set ?_ GE207.out | refine below_set ?_ GE208.out) | exact HB.out)⟩
end Go.Proofs.YtighihhaljofdaaDoor.P
