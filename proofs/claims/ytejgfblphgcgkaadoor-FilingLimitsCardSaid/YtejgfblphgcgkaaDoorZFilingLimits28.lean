/- Texts for the law FilingLimits (kept out of a larger one). -/
import Derived.Test.YtejgfblphgcgkaaDoorZFilingLimits11
import Derived.Test.YtejgfblphgcgkaaDoorZFilingLimits13
import Derived.Test.YtejgfblphgcgkaaDoorZFilingLimits15
import Derived.Test.YtejgfblphgcgkaaDoorZFilingLimits22
import Derived.Test.YtejgfblphgcgkaaDoorZFilingLimits27
import Derived.Test.YtejgfblphgcgkaaDoorZFilingLimits25
import Derived.Test.YtejgfblphgcgkaaDoorZFilingLimits17
-- Written by a program of this session (wip/tools/xprint.py) out of the translation; Lean checks it.
namespace Go.Proofs.YtejgfblphgcgkaaDoor.P
open Go.RowKit Go.Proofs.YtejgfblphgcgkaaDoorW.PrintWords Go.Proofs.YtejgfblphgcgkaaDoorW.PrintLast Go.Proofs.YtejgfblphgcgkaaDoorW.PrintMore
attribute [local go_sem] max2_int min2_int max_two min_two max_three min_three max_four min_four   -- for this text's walks alone
set_option linter.unusedVariables false
set_option linter.unusedSimpArgs false

-- given by hand: function 9 (payrolllaw43_awake), in needs
mutual
def payrolllaw43_FilingLimits.l0 : Nat → Int → Int → Int → Int → Int → List (S28) → Option (Bool)
  | 0, _, _, _, _, _, _ => none
  | k + 1, x1, x5, x7, x194000, x194001, x194002 => if x7 < x5 then (if x194002.length < 4398046511104 then (payrolllaw43_FilingLimits.l0 k x1 x5 (wrap64 (x7 + 1)) x194000 x194001 (x194002 ++ [(⟨4, strOfNums (([(wrap64 (97 + (wrap64 (Int.tdiv x7 26)))) % 256, (wrap64 (97 + (Int.tmod x7 26))) % 256, 113] : List Int)), 1⟩ : S28)])) else (none)) else ((filing_Encode.f k x194000 x194001 x194002).bind fun bt200 => ((filing_Decode.f k bt200.1).bind fun bt202 => ((paygen_Mod.f x1 3).bind fun t209 => (if 0 ≤ (wrap64 (65535 + t209)) then (if (wrap64 (65535 + t209) : Int).toNat ≤ 281474976710656 then ((some (List.replicate (wrap64 (65535 + t209) : Int).toNat 0 : List Int)).bind fun y210 => ((filing_Decode.f k (strOfNums y210)).bind fun bt213 => (if (y210.length : Int) > 65536 then (payrolllaw43_FilingLimits.j1 k x5 bt200.1 bt200.2 bt202.2.2.2 bt213.2.2.2 3 x194000 x194001 x194002 bt202.1 bt202.2.1 bt202.2.2.1) else (payrolllaw43_FilingLimits.j1 k x5 bt200.1 bt200.2 bt202.2.2.2 bt213.2.2.2 6 x194000 x194001 x194002 bt202.1 bt202.2.1 bt202.2.2.1)))) else (none)) else (none)))))
def payrolllaw43_FilingLimits.j1 : Nat → Int → ByteArray → Int → Int → Int → Int → Int → Int → List (S28) → Int → Int → List (S28) → Option (Bool)
  | 0, _, _, _, _, _, _, _, _, _, _, _, _ => none
  | k + 1, x5, x8, x9, x11, x14, x15, x194000, x194001, x194002, x209000, x209001, x209002 => if x14 = x15 then ((filing_Valid.f k x194000 x194001 x194002).bind fun t220 => (payrolllaw43_FilingLimits.j2 k x5 x8 x9 x11 (t220 != (decide (x5 ≤ 256))) x209000 x209001 x209002)) else (payrolllaw43_FilingLimits.j2 k x5 x8 x9 x11 true x209000 x209001 x209002)
def payrolllaw43_FilingLimits.j2 : Nat → Int → ByteArray → Int → Int → Bool → Int → Int → List (S28) → Option (Bool)
  | 0, _, _, _, _, _, _, _, _ => none
  | k + 1, x5, x8, x9, x11, x73, x209000, x209001, x209002 => if x73 = true then (some false) else (if x5 > 256 then (if x9 = 1 then (if x8.toList = ([] : List UInt8) then ((payrolllaw43_awake.f k).bind fun t221 => (some t221)) else (some false)) else (some false)) else (if x9 = 0 then (if x11 = 0 then (if (x209002.length : Int) = x5 then ((payrolllaw43_awake.f k).bind fun t222 => (some t222)) else (some false)) else (some false)) else (some false)))
end
def payrolllaw43_FilingLimits.f (k : Nat) (a0 : Int) (a1 : Int) : Option (Bool) := (paygen_Mod.f a0 3).bind fun t192 => (payrolllaw43_FilingLimits.l0 k a1 (wrap64 (255 + t192)) 0 0 1 ([] : List (S28)))
set_option maxHeartbeats 8000000 in
set_option maxRecDepth 100000 in
theorem payrolllaw43_FilingLimits.calls (k : Nat) (a0 : Int) (a1 : Int) (w : World) (hT : Tabs w) (h : payrolllaw43_FilingLimits.f k a0 a1 = some true) :
    Calls Tryd.prog 3 #[.int .i64 a0, .int .i64 a1] w fun e w' => e = .returned (.bool true) ∧ Below w.heap.size w w' := by
  have hu25 := Tryd.underlying25
  have hu28 := Tryd.underlying28
  have HB := Aside0.mk (Below.refl w.heap.size w)
  have HT := Aside0.mk hT
  clear hT
  have H : ((paygen_Mod.f a0 3).bind fun t192 => (payrolllaw43_FilingLimits.l0 k a1 (wrap64 (255 + t192)) 0 0 1 ([] : List (S28)))) = some true := h
  clear h
  replace H := Option.bind_eq_some_iff.mp H
  obtain ⟨t192, A30, H⟩ := H
  replace H : (payrolllaw43_FilingLimits.l0 k a1 (wrap64 (255 + t192)) 0 0 1 ([] : List (S28))) = some true := H
  have A3 := Aside0.mk A30
  clear A30
  have H' := Aside0.mk H
  clear H
  go_enter Tryd.func3, Tryd.ntmps3
  go_wp2_with (first | ((with_reducible refine gate_callee (f := 5) rfl ?_); refine goesL_ (some 17) rfl rfl Tryd.func5 (by kernel_rfl) rfl #[.int .i64 a0, .int .i64 3] rfl (by (try simp only [List.map_toArray, List.map_cons, List.map_nil]); first | done | rfl | (simp only [List.length_drop, List.length_take]; rfl)) ?_; (with_reducible refine (paygen_Mod.calls a0 3 t192 _ A3.out).mono ?_); rintro e w' ⟨rfl, ⟨nd, rfl⟩⟩; refine ⟨_, rfl, ?_⟩) | ((with_reducible refine gate_dst (N := 6) rfl ?_); (try (refine gate_guard (by rfl) ?_; dsimp only)); refine box_event ?hg (N := 6) ?hd (cs := #[.int .i64 0, .int .i64 0, .slice none 0 0]) (t := 25) ?hr ?_; (case hd => rfl); (case hg => rfl); (case hr => first | (go_simp; done) | (go_simp; rfl)); intro gb193 hg w4 hbox hb; have n0_ := Aside0.mk (below_step (by repeat (first | (with_reducible first | exact HB.out | apply below_alloc | apply pw_below_drewN | apply below_drew1) | exact HB.out)) hb); have n1_ := Aside0.mk (hbox); have n2_ := Aside0.mk ((by rw [hg]; exact (below_size (by repeat (first | (with_reducible first | exact HB.out | apply below_alloc | apply pw_below_drewN | apply below_drew1) | exact HB.out))) : w.heap.size ≤ gb193)); have n3_ := Aside0.mk ((by rw [hg]; exact (below_size (by repeat (first | (with_reducible first | exact HB.out | apply below_alloc | apply pw_below_drewN | apply below_drew1) | exact HB.out))) : w.heap.size ≤ gb193)); clear HB; have HB := n0_; have BK193 := n1_; have GW193 := n2_; have GE193 := n3_; clear n0_ n1_ n2_ n3_; clear hb hbox hg; have hcz5_0 : w4.cell? ⟨gb193, 0, none⟩ = some (.int .i64 0) := (blk_cell BK193.out 0).trans rfl; have hcz5_1 : w4.cell? ⟨gb193, 1, none⟩ = some (.int .i64 0) := (blk_cell BK193.out 1).trans rfl; have hcz5_2 : w4.cell? ⟨gb193, 2, none⟩ = some (.slice none 0 0) := (blk_cell BK193.out 2).trans rfl; have hfz5_0 := blk_frozen BK193.out 0; have hfz5_1 := blk_frozen BK193.out 1; have hfz5_2 := blk_frozen BK193.out 2))
  go_loopg [7] k (fun kq v7 w' => ∃ (x7_1 : Int) (x194002_1 : List (S28)) (u194002 : Value), v7 = .int .i64 x7_1 ∧ Aside0 (payrolllaw43_FilingLimits.l0 kq a1 (wrap64 (255 + t192)) x7_1 0 1 x194002_1 = some true) ∧ Aside0 (kq ≤ k) ∧ Aside0 (Kd.R k28 28 w' w.heap.size (fun _ => True) u194002 x194002_1) ∧ Aside0 (w'.heap[gb193]? = some (.cells #[.int .i64 0, .int .i64 1, u194002] 25 (0, 0))) ∧ Aside0 (Below w.heap.size w w'))
  case atStart => exact ⟨(0), (([] : List (S28))), (.slice none 0 0), (by first | rfl | (simp; done) | (simp [*]; done)), H', ⟨Nat.le_refl _⟩, ⟨by first | exact Kd.R_nil _ _ _ _ _ | exact Kd.N_nil _ _ _ _ _ | exact Kd.V_nil _ _ _ _ _ | exact Kd.Q_nil _ _ _ _ _ | exact Kd.S_nil _ _ _ _ _⟩, ⟨by (with_reducible repeat (first | refine blk_drewN ?_ _ | refine blk_drew ?_ | refine blk_alloc ?_ _)); refine blk_put (cs := #[.int .i64 0, .int .i64 1, .slice none 0 0]) ?_ 2 _ rfl; (with_reducible repeat (first | refine blk_drewN ?_ _ | refine blk_drew ?_ | refine blk_alloc ?_ _)); refine blk_put (cs := #[.int .i64 0, .int .i64 0, .slice none 0 0]) ?_ 1 _ rfl; (with_reducible repeat (first | refine blk_drewN ?_ _ | refine blk_drew ?_ | refine blk_alloc ?_ _)); refine blk_put (cs := #[.int .i64 0, .int .i64 0, .slice none 0 0]) ?_ 0 _ rfl; (with_reducible repeat (first | refine blk_drewN ?_ _ | refine blk_drew ?_ | refine blk_alloc ?_ _)); exact BK193.out⟩, ⟨by repeat (first | (with_reducible first | exact HB.out | apply below_alloc | apply pw_below_drewN | apply below_drew1 | refine below_set ?_ GE193.out) | exact HB.out)⟩⟩
  case round =>
    clear H'
    try clear p2
    try clear c3
    try clear c5
    try clear hcz5_0
    try clear hcz5_1
    try clear hcz5_2
    try clear hfz5_0
    try clear hfz5_1
    try clear hfz5_2
    obtain ⟨x7_1, x194002_1, u194002, rfl, HA, HK1, HO_194002, BK193, HB⟩ := hrel
    cases gk with
    | zero => exact absurd HA.out (by simp [payrolllaw43_FilingLimits.l0])
    | succ k1 =>
      have H := HA.out
      clear HA
      simp only [payrolllaw43_FilingLimits.l0] at H
      by_cases c6 : x7_1 < (wrap64 (255 + t192))
      · rw [if_pos c6] at H
        have c6b0 : decide (x7_1 < (wrap64 (255 + t192))) = true := decide_eq_true c6
        clear c6
        obtain ⟨y194, hy194⟩ : ∃ y_ : List Int, y_ = (([(wrap64 (97 + (wrap64 (Int.tdiv x7_1 26)))) % 256, (wrap64 (97 + (Int.tmod x7_1 26))) % 256, 113] : List Int)) := ⟨_, rfl⟩
        replace H : (if x194002_1.length < 4398046511104 then (payrolllaw43_FilingLimits.l0 k1 a1 (wrap64 (255 + t192)) (wrap64 (x7_1 + 1)) 0 1 (x194002_1 ++ [(⟨4, strOfNums y194, 1⟩ : S28)])) else (none)) = some true := by first | (rw [hy194]; with_reducible exact H) | (have H2_ := (Option.bind_some _ _).symm.trans H; rw [hy194]; with_reducible exact H2_) | (have H2_ := (Option.bind_some _ _).symm.trans H; with_reducible exact H2_) | with_reducible exact H | (rw [hy194]; exact H) | exact H
        have Ny194 := Aside0.mk hy194
        clear hy194
        by_cases c7 : x194002_1.length < 4398046511104
        · rw [if_pos c7] at H
          have LMc7 := Aside0.mk c7
          clear c7
          obtain ⟨y197, hy197⟩ : ∃ y_ : List (S28), y_ = (x194002_1 ++ [(⟨4, strOfNums y194, 1⟩ : S28)]) := ⟨_, rfl⟩
          replace H : (payrolllaw43_FilingLimits.l0 k1 a1 (wrap64 (255 + t192)) (wrap64 (x7_1 + 1)) 0 1 y197) = some true := by first | (rw [hy197]; with_reducible exact H) | (have H2_ := (Option.bind_some _ _).symm.trans H; rw [hy197]; with_reducible exact H2_) | (have H2_ := (Option.bind_some _ _).symm.trans H; with_reducible exact H2_) | with_reducible exact H | (rw [hy197]; exact H) | exact H
          have Ny197 := Aside0.mk hy197
          clear hy197
          have H' := Aside0.mk H
          clear H
          have hcz8_0 : wr.cell? ⟨gb193, 0, none⟩ = some (.int .i64 0) := (blk_cell BK193.out 0).trans rfl
          have hcz8_1 : wr.cell? ⟨gb193, 1, none⟩ = some (.int .i64 1) := (blk_cell BK193.out 1).trans rfl
          have hcz8_2 : wr.cell? ⟨gb193, 2, none⟩ = some (u194002) := (blk_cell BK193.out 2).trans rfl
          have hfz8_0 := blk_frozen BK193.out 0
          have hfz8_1 := blk_frozen BK193.out 1
          have hfz8_2 := blk_frozen BK193.out 2
          go_wp2_with (first | ((with_reducible refine gate_dst (N := 35) rfl ?_); (try (refine gate_guard (by rfl) ?_; dsimp only)); refine Kd.R_lit (Kd.int .u8) _ 5 ?hg (N := 35) ?hd (xs := ([(wrap64 (97 + (wrap64 (Int.tdiv x7_1 26)))) % 256, (wrap64 (97 + (Int.tmod x7_1 26))) % 256, 113] : List Int)) (inner := [.int .u8 ((wrap64 (97 + (wrap64 (Int.tdiv x7_1 26)))) % 256), .int .u8 ((wrap64 (97 + (Int.tmod x7_1 26))) % 256), .int .u8 113]) (ok := fun _ => True) (okp := fun _ => True) ?hr ?hp (fun _ hk => hk) trivial (Below.refl _ _) (Nat.le_refl _) (by simp) ?_; (case hd => rfl); (case hg => rfl); (case hr => first | (go_simp; done) | (go_simp; rfl)); (case hp => exact (Reps.one (show Kd.M (Kd.int .u8) _ _ _ ((wrap64 (97 + (wrap64 (Int.tdiv x7_1 26)))) % 256) [.int .u8 ((wrap64 (97 + (wrap64 (Int.tdiv x7_1 26)))) % 256)] from rfl) (Reps.one (show Kd.M (Kd.int .u8) _ _ _ ((wrap64 (97 + (Int.tmod x7_1 26))) % 256) [.int .u8 ((wrap64 (97 + (Int.tmod x7_1 26))) % 256)] from rfl) (Reps.one (show Kd.M (Kd.int .u8) _ _ _ 113 [.int .u8 113] from rfl) (Reps.none _ _))))); intro v195 w9 ho10 hb hg_ hnew_; clear hg_ hnew_; (first | rw [← Ny194.out] at ho10 | (simp only [Int.reduceToNat] at ho10; rw [← Ny194.out] at ho10)); have n0_ := Aside0.mk (Kd.R_below (by (with_reducible repeat (first | apply Kd.R_alloc | apply Kd.R_drewN | apply Kd.R_drew)); exact HO_194002.out) hb); have n1_ := Aside0.mk (Kd.R_lower ho10 (below_size (by repeat (first | (with_reducible first | exact HB.out | apply below_alloc | apply pw_below_drewN | apply below_drew1 | refine below_set ?_ GE193.out) | exact HB.out)))); have n2_ := Aside0.mk (blk_below (g := gb193) (o := .cells #[.int .i64 0, .int .i64 1, u194002] 25 (0, 0)) (by (with_reducible repeat (first | refine blk_drewN ?_ _ | refine blk_drew ?_ | refine blk_alloc ?_ _)); exact BK193.out) hb); have n3_ := Aside0.mk (below_step (by repeat (first | (with_reducible first | exact HB.out | apply below_alloc | apply pw_below_drewN | apply below_drew1 | refine below_set ?_ GE193.out) | exact HB.out)) hb); clear HO_194002; clear BK193; clear HB; have HO_194002 := n0_; have HO196 := n1_; have BK193 := n2_; have HB := n3_; clear n0_ n1_ n2_ n3_; clear hb ho10; have hcv11 := own_string (P := Tryd.prog) Tryd.underlying26 Tryd.underlying5 Tryd.underlying9 (Kd.own_of_R HO196.out)) | ((with_reducible refine gate_builtin (b := .append) (xs := #[.tmp 26, .tmp 38]) rfl ?_); (try (refine gate_guard (by rfl) ?_; dsimp only)); at_builtin; refine Kd.R_append k28 (w0 := w) w.heap.size rfl (.tmp 26) (.tmp 38) 23 28 (.agg #[(.int .i64 0), (.string ⟨#[]⟩), (.int .i64 0)]) 32 rfl Tryd.underlying23 info28 rfl (by decide) (by omega) u194002 x194002_1 (⟨4, strOfNums y194, 1⟩ : S28) [.int .i64 4, .string (strOfNums y194), .int .i64 1] (fun _ => True) (fun _ => False) rfl rfl ?aP (fun _ hk => hk.elim) ?aF ?aO ?aB ?aS ?aL ?_; (case aP => exact k28_mkM _ _ _ (⟨4, strOfNums y194, 1⟩ : S28)); (case aB => exact (by repeat (first | (with_reducible first | exact HB.out | apply below_alloc | apply pw_below_drewN | apply below_drew1 | refine below_set ?_ GE193.out) | exact HB.out))); (case aF => exact (fun _ _ => trivial)); (case aO => exact (by (with_reducible repeat (first | apply Kd.R_alloc | apply Kd.R_drewN | apply Kd.R_drew)); exact HO_194002.out)); (case aS => exact (below_size (by repeat (first | (with_reducible first | exact HB.out | apply below_alloc | apply pw_below_drewN | apply below_drew1 | refine below_set ?_ GE193.out) | exact HB.out)))); (case aL => have := LMc7.out; omega); intro v198 w12 ho hb hg hat; rw [← Ny197.out] at ho; have n0_ := Aside0.mk (blk_grown (g := gb193) (o := .cells #[.int .i64 0, .int .i64 1, u194002] 25 (0, 0)) (by (with_reducible repeat (first | refine blk_drewN ?_ _ | refine blk_drew ?_ | refine blk_alloc ?_ _)); exact BK193.out) hg (Kd.R_ne HO_194002.out BK193.out (by decide))); have n1_ := Aside0.mk (Kd.R_over' (by (with_reducible repeat (first | apply Kd.R_alloc | apply Kd.R_drewN | apply Kd.R_drew)); exact HO196.out) (Kd.R_typed (by (with_reducible repeat (first | apply Kd.R_alloc | apply Kd.R_drewN | apply Kd.R_drew)); exact HO_194002.out)) (by decide) hg); have n2_ := Aside0.mk (hb); have n3_ := Aside0.mk (ho); clear BK193; clear HO196; clear HB; clear HO_194002; have BK193 := n0_; have HO196 := n1_; have HB := n2_; have HO199 := n3_; clear n0_ n1_ n2_ n3_; clear ho hb hg hat; obtain ⟨Ao13, co13, eo13⟩ := Kd.R_slice HO199.out; subst eo13; have hcz14_0 : w12.cell? ⟨gb193, 0, none⟩ = some (.int .i64 0) := (blk_cell BK193.out 0).trans rfl; have hcz14_1 : w12.cell? ⟨gb193, 1, none⟩ = some (.int .i64 1) := (blk_cell BK193.out 1).trans rfl; have hcz14_2 : w12.cell? ⟨gb193, 2, none⟩ = some (u194002) := (blk_cell BK193.out 2).trans rfl; have hfz14_0 := blk_frozen BK193.out 0; have hfz14_1 := blk_frozen BK193.out 1; have hfz14_2 := blk_frozen BK193.out 2))
          go_roundg k1
          case measure => have := HK1.out; omega
          case rel => exact ⟨(wrap64 (x7_1 + 1)), (y197), (.slice Ao13 y197.length co13), (by first | rfl | (simp; done) | (simp [*]; done)), H', ⟨by have := HK1.out; omega⟩, ⟨by (with_reducible repeat (first | apply Kd.R_alloc | apply Kd.R_drewN | apply Kd.R_drew)); exact Kd.R_mono (Kd.R_far (p := ⟨gb193, 2, none⟩) (Kd.R_types HO199.out BK193.out (by decide)) (fun _ hk => hk.2) (.slice Ao13 y197.length co13)) (fun _ hk => trivial)⟩, ⟨by (with_reducible repeat (first | refine blk_drewN ?_ _ | refine blk_drew ?_ | refine blk_alloc ?_ _)); refine blk_put (cs := #[.int .i64 0, .int .i64 1, u194002]) ?_ 2 _ rfl; (with_reducible repeat (first | refine blk_drewN ?_ _ | refine blk_drew ?_ | refine blk_alloc ?_ _)); exact BK193.out⟩, ⟨by repeat (first | (with_reducible first | exact HB.out | apply below_alloc | apply pw_below_drewN | apply below_drew1 | refine below_set ?_ GE193.out) | exact HB.out)⟩⟩
        · rw [if_neg c7] at H
          exact absurd H (by simp)
      · rw [if_neg c6] at H
        have c6b0 : decide (x7_1 < (wrap64 (255 + t192))) = false := decide_eq_false c6
        clear c6
        replace H := Option.bind_eq_some_iff.mp H
        obtain ⟨⟨t200, t201⟩, A150, H⟩ := H
        replace H : ((filing_Decode.f k1 t200).bind fun bt202 => ((paygen_Mod.f a1 3).bind fun t209 => (if 0 ≤ (wrap64 (65535 + t209)) then (if (wrap64 (65535 + t209) : Int).toNat ≤ 281474976710656 then ((some (List.replicate (wrap64 (65535 + t209) : Int).toNat 0 : List Int)).bind fun y210 => ((filing_Decode.f k1 (strOfNums y210)).bind fun bt213 => (if (y210.length : Int) > 65536 then (payrolllaw43_FilingLimits.j1 k1 (wrap64 (255 + t192)) t200 t201 bt202.2.2.2 bt213.2.2.2 3 0 1 x194002_1 bt202.1 bt202.2.1 bt202.2.2.1) else (payrolllaw43_FilingLimits.j1 k1 (wrap64 (255 + t192)) t200 t201 bt202.2.2.2 bt213.2.2.2 6 0 1 x194002_1 bt202.1 bt202.2.1 bt202.2.2.1)))) else (none)) else (none)))) = some true := H
        have A15 := Aside0.mk A150
        clear A150
        replace H := Option.bind_eq_some_iff.mp H
        obtain ⟨⟨t202, t203, t204, t207⟩, A160, H⟩ := H
        replace H : ((paygen_Mod.f a1 3).bind fun t209 => (if 0 ≤ (wrap64 (65535 + t209)) then (if (wrap64 (65535 + t209) : Int).toNat ≤ 281474976710656 then ((some (List.replicate (wrap64 (65535 + t209) : Int).toNat 0 : List Int)).bind fun y210 => ((filing_Decode.f k1 (strOfNums y210)).bind fun bt213 => (if (y210.length : Int) > 65536 then (payrolllaw43_FilingLimits.j1 k1 (wrap64 (255 + t192)) t200 t201 t207 bt213.2.2.2 3 0 1 x194002_1 t202 t203 t204) else (payrolllaw43_FilingLimits.j1 k1 (wrap64 (255 + t192)) t200 t201 t207 bt213.2.2.2 6 0 1 x194002_1 t202 t203 t204)))) else (none)) else (none))) = some true := H
        have A16 := Aside0.mk A160
        clear A160
        replace H := Option.bind_eq_some_iff.mp H
        obtain ⟨t209, A170, H⟩ := H
        replace H : (if 0 ≤ (wrap64 (65535 + t209)) then (if (wrap64 (65535 + t209) : Int).toNat ≤ 281474976710656 then ((some (List.replicate (wrap64 (65535 + t209) : Int).toNat 0 : List Int)).bind fun y210 => ((filing_Decode.f k1 (strOfNums y210)).bind fun bt213 => (if (y210.length : Int) > 65536 then (payrolllaw43_FilingLimits.j1 k1 (wrap64 (255 + t192)) t200 t201 t207 bt213.2.2.2 3 0 1 x194002_1 t202 t203 t204) else (payrolllaw43_FilingLimits.j1 k1 (wrap64 (255 + t192)) t200 t201 t207 bt213.2.2.2 6 0 1 x194002_1 t202 t203 t204)))) else (none)) else (none)) = some true := H
        have A17 := Aside0.mk A170
        clear A170
        obtain ⟨ji18, hji18⟩ : ∃ j_ : Int, (wrap64 (65535 + t209)) = j_ := ⟨_, rfl⟩
        replace H : (if 0 ≤ (ji18) then (if (ji18 : Int).toNat ≤ 281474976710656 then ((some (List.replicate (ji18 : Int).toNat 0 : List Int)).bind fun y210 => ((filing_Decode.f k1 (strOfNums y210)).bind fun bt213 => (if (y210.length : Int) > 65536 then (payrolllaw43_FilingLimits.j1 k1 (wrap64 (255 + t192)) t200 t201 t207 bt213.2.2.2 3 0 1 x194002_1 t202 t203 t204) else (payrolllaw43_FilingLimits.j1 k1 (wrap64 (255 + t192)) t200 t201 t207 bt213.2.2.2 6 0 1 x194002_1 t202 t203 t204)))) else (none)) else (none)) = some true := by first | (rw [hji18] at H; exact H) | (simp only [hji18] at H ⊢; exact H)
        (try rw [hji18] at A15)
        (try rw [hji18] at A16)
        (try rw [hji18] at A17)
        have hji18w : (IntKind.i64.wrap (65535 + t209)) = ji18 := (i64_w _).trans hji18
        by_cases c19 : 0 ≤ (ji18)
        · rw [if_pos c19] at H
          have c19b0 := eq_true c19
          have c19b1 : decide (0 ≤ (ji18)) = true := decide_eq_true c19
          clear c19
          by_cases c20 : (ji18 : Int).toNat ≤ 281474976710656
          · rw [if_pos c20] at H
            have c20b0 := eq_true c20
            have c20b1 : decide ((ji18 : Int).toNat ≤ 281474976710656) = true := decide_eq_true c20
            clear c20
            obtain ⟨y210, hy210⟩ : ∃ y_ : List Int, y_ = (List.replicate (ji18 : Int).toNat 0) := ⟨_, rfl⟩
            replace H : ((filing_Decode.f k1 (strOfNums y210)).bind fun bt213 => (if (y210.length : Int) > 65536 then (payrolllaw43_FilingLimits.j1 k1 (wrap64 (255 + t192)) t200 t201 t207 bt213.2.2.2 3 0 1 x194002_1 t202 t203 t204) else (payrolllaw43_FilingLimits.j1 k1 (wrap64 (255 + t192)) t200 t201 t207 bt213.2.2.2 6 0 1 x194002_1 t202 t203 t204))) = some true := by first | (rw [hy210]; with_reducible exact H) | (have H2_ := (Option.bind_some _ _).symm.trans H; rw [hy210]; with_reducible exact H2_) | (have H2_ := (Option.bind_some _ _).symm.trans H; with_reducible exact H2_) | with_reducible exact H | (rw [hy210]; exact H) | exact H
            have Ny210 := Aside0.mk hy210
            clear hy210
            replace H := Option.bind_eq_some_iff.mp H
            obtain ⟨⟨t213, t214, t215, t218⟩, A210, H⟩ := H
            replace H : (if (y210.length : Int) > 65536 then (payrolllaw43_FilingLimits.j1 k1 (wrap64 (255 + t192)) t200 t201 t207 t218 3 0 1 x194002_1 t202 t203 t204) else (payrolllaw43_FilingLimits.j1 k1 (wrap64 (255 + t192)) t200 t201 t207 t218 6 0 1 x194002_1 t202 t203 t204)) = some true := H
            have A21 := Aside0.mk A210
            clear A210
            have HC22 := Aside0.mk H
            clear H
            have hcz23_0 : wr.cell? ⟨gb193, 0, none⟩ = some (.int .i64 0) := (blk_cell BK193.out 0).trans rfl
            have hcz23_1 : wr.cell? ⟨gb193, 1, none⟩ = some (.int .i64 1) := (blk_cell BK193.out 1).trans rfl
            have hcz23_2 : wr.cell? ⟨gb193, 2, none⟩ = some (u194002) := (blk_cell BK193.out 2).trans rfl
            have hfz23_0 := blk_frozen BK193.out 0
            have hfz23_1 := blk_frozen BK193.out 1
            have hfz23_2 := blk_frozen BK193.out 2
            obtain ⟨Ao24, co24, eo24⟩ := Kd.R_slice HO_194002.out
            subst eo24
            go_upto_if 63 with (first | ((with_reducible refine gate_callee (f := 6) rfl ?_); refine goesL_ (some 43) rfl rfl Tryd.func6 (by kernel_rfl) rfl #[.agg #[.int .i64 0, .int .i64 1, .slice Ao24 x194002_1.length co24]] rfl (by (try simp only [List.map_toArray, List.map_cons, List.map_nil]); first | done | rfl | (simp only [List.length_drop, List.length_take]; rfl)) ?_; (with_reducible refine (filing_Encode.calls k1 0 1 _ _ x194002_1 t200 t201 _ ?side1 ?side2 ?side3 A15.out).mono ?_); (case side1 => repeat (first | exact (Kd.R_reads' HO_194002.out).2.2 | (with_reducible refine Kd.C_alloc ?_ _) | (with_reducible refine Kd.C_drewN ?_ _) | (with_reducible refine Kd.C_drew ?_))); (case side2 => exact (Kd.R_reads' HO_194002.out).2.1); (case side3 => exact Tabs.below HT.out (by repeat (first | (with_reducible first | exact HB.out | apply below_alloc | apply pw_below_drewN | apply below_drew1 | refine below_set ?_ GE193.out) | exact HB.out))); rintro e w25 ⟨rfl, hb⟩; refine ⟨_, rfl, ?_⟩; have n0_ := Aside0.mk (Kd.R_below (by (with_reducible repeat (first | apply Kd.R_alloc | apply Kd.R_drewN | apply Kd.R_drew)); exact HO_194002.out) hb); have n1_ := Aside0.mk (blk_below (g := gb193) (o := .cells #[.int .i64 0, .int .i64 1, .slice Ao24 x194002_1.length co24] 25 (0, 0)) (by (with_reducible repeat (first | refine blk_drewN ?_ _ | refine blk_drew ?_ | refine blk_alloc ?_ _)); exact BK193.out) hb); have n2_ := Aside0.mk (below_step (by repeat (first | (with_reducible first | exact HB.out | apply below_alloc | apply pw_below_drewN | apply below_drew1 | refine below_set ?_ GE193.out) | exact HB.out)) hb); clear HO_194002; clear BK193; clear HB; have HO_194002 := n0_; have BK193 := n1_; have HB := n2_; clear n0_ n1_ n2_; (try clear hb); (try clear hb2); (try clear hk); (try clear hi)) | ((with_reducible refine gate_callee (f := 7) rfl ?_); refine goesL_ (some 48) rfl rfl Tryd.func7 (by kernel_rfl) rfl #[.string t200] rfl (by (try simp only [List.map_toArray, List.map_cons, List.map_nil]); first | done | rfl | (simp only [List.length_drop, List.length_take]; rfl)) ?_; (with_reducible refine (filing_Decode.calls k1 t200 t202 t203 t204 t207 _ ?side1 A16.out).mono ?_); (case side1 => exact Tabs.below HT.out (by repeat (first | (with_reducible first | exact HB.out | apply below_alloc | apply pw_below_drewN | apply below_drew1 | refine below_set ?_ GE193.out) | exact HB.out))); rintro e w26 ⟨v205, rfl, ho0, hb⟩; refine ⟨_, rfl, ?_⟩; have n0_ := Aside0.mk (Kd.R_elder' (by (with_reducible repeat (first | apply Kd.R_alloc | apply Kd.R_drewN | apply Kd.R_drew)); exact HO_194002.out) (Kd.R_base ho0) hb); have n1_ := Aside0.mk (Kd.R_lower (Kd.R_new' ho0 (Kd.R_lt (by (with_reducible repeat (first | apply Kd.R_alloc | apply Kd.R_drewN | apply Kd.R_drew)); exact HO_194002.out))) (below_size (by repeat (first | (with_reducible first | exact HB.out | apply below_alloc | apply pw_below_drewN | apply below_drew1 | refine below_set ?_ GE193.out) | exact HB.out)))); have n2_ := Aside0.mk (blk_below (g := gb193) (o := .cells #[.int .i64 0, .int .i64 1, .slice Ao24 x194002_1.length co24] 25 (0, 0)) (by (with_reducible repeat (first | refine blk_drewN ?_ _ | refine blk_drew ?_ | refine blk_alloc ?_ _)); exact BK193.out) hb); have n3_ := Aside0.mk (below_step (by repeat (first | (with_reducible first | exact HB.out | apply below_alloc | apply pw_below_drewN | apply below_drew1 | refine below_set ?_ GE193.out) | exact HB.out)) hb); clear HO_194002; clear BK193; clear HB; have HO_194002 := n0_; have HO206 := n1_; have BK193 := n2_; have HB := n3_; clear n0_ n1_ n2_ n3_; (try clear hb); (try clear hb2); (try clear hk); (try clear hi); (try clear ho0)) | ((with_reducible refine gate_dst (N := 10) rfl ?_); (try (refine gate_guard (by rfl) ?_; dsimp only)); refine box_event ?hg (N := 10) ?hd (cs := #[.int .i64 0, .int .i64 0, .slice none 0 0]) (t := 25) ?hr ?_; (case hd => rfl); (case hg => rfl); (case hr => first | (go_simp; done) | (go_simp; rfl)); intro gb208 hg w27 hbox hb; have n0_ := Aside0.mk (Kd.R_below (by (with_reducible repeat (first | apply Kd.R_alloc | apply Kd.R_drewN | apply Kd.R_drew)); exact HO_194002.out) hb); have n1_ := Aside0.mk (Kd.R_below (by (with_reducible repeat (first | apply Kd.R_alloc | apply Kd.R_drewN | apply Kd.R_drew)); exact HO206.out) hb); have n2_ := Aside0.mk (blk_below (g := gb193) (o := .cells #[.int .i64 0, .int .i64 1, .slice Ao24 x194002_1.length co24] 25 (0, 0)) (by (with_reducible repeat (first | refine blk_drewN ?_ _ | refine blk_drew ?_ | refine blk_alloc ?_ _)); exact BK193.out) hb); have n3_ := Aside0.mk (below_step (by repeat (first | (with_reducible first | exact HB.out | apply below_alloc | apply pw_below_drewN | apply below_drew1 | refine below_set ?_ GE193.out) | exact HB.out)) hb); have n4_ := Aside0.mk (hbox); have n5_ := Aside0.mk ((by rw [hg]; exact (below_size (by repeat (first | (with_reducible first | exact HB.out | apply below_alloc | apply pw_below_drewN | apply below_drew1 | refine below_set ?_ GE193.out) | exact HB.out))) : w.heap.size ≤ gb208)); have n6_ := Aside0.mk ((by rw [hg]; exact (below_size (by repeat (first | (with_reducible first | exact HB.out | apply below_alloc | apply pw_below_drewN | apply below_drew1 | refine below_set ?_ GE193.out) | exact HB.out))) : w.heap.size ≤ gb208)); have n7_ := Aside0.mk ((by rw [hg]; exact Nat.ne_of_lt (blk_lt (g := gb193) (o := .cells #[.int .i64 0, .int .i64 1, .slice Ao24 x194002_1.length co24] 25 (0, 0)) (by (with_reducible repeat (first | refine blk_drewN ?_ _ | refine blk_drew ?_ | refine blk_alloc ?_ _)); exact BK193.out)) : gb193 ≠ gb208)); have n8_ := Aside0.mk ((by rw [hg]; exact Nat.ne_of_gt (blk_lt (g := gb193) (o := .cells #[.int .i64 0, .int .i64 1, .slice Ao24 x194002_1.length co24] 25 (0, 0)) (by (with_reducible repeat (first | refine blk_drewN ?_ _ | refine blk_drew ?_ | refine blk_alloc ?_ _)); exact BK193.out)) : gb208 ≠ gb193)); clear HO_194002; clear HO206; clear BK193; clear HB; have HO_194002 := n0_; have HO206 := n1_; have BK193 := n2_; have HB := n3_; have BK208 := n4_; have GW208 := n5_; have GE208 := n6_; have NB193_208 := n7_; have NB208_193 := n8_; clear n0_ n1_ n2_ n3_ n4_ n5_ n6_ n7_ n8_; clear hb hbox hg; have hnb28 := NB208_193.out; have hnc28 := NB193_208.out; have hcz29_0 : w27.cell? ⟨gb208, 0, none⟩ = some (.int .i64 0) := (blk_cell BK208.out 0).trans rfl; have hcz29_1 : w27.cell? ⟨gb208, 1, none⟩ = some (.int .i64 0) := (blk_cell BK208.out 1).trans rfl; have hcz29_2 : w27.cell? ⟨gb208, 2, none⟩ = some (.slice none 0 0) := (blk_cell BK208.out 2).trans rfl; have hfz29_0 := blk_frozen BK208.out 0; have hfz29_1 := blk_frozen BK208.out 1; have hfz29_2 := blk_frozen BK208.out 2; obtain ⟨Ao30, co30, eo30⟩ := Kd.R_slice HO206.out; subst eo30) | ((with_reducible refine gate_callee (f := 5) rfl ?_); refine goesL_ (some 52) rfl rfl Tryd.func5 (by kernel_rfl) rfl #[.int .i64 a1, .int .i64 3] rfl (by (try simp only [List.map_toArray, List.map_cons, List.map_nil]); first | done | rfl | (simp only [List.length_drop, List.length_take]; rfl)) ?_; (with_reducible refine (paygen_Mod.calls a1 3 t209 _ A17.out).mono ?_); rintro e w' ⟨rfl, ⟨nd, rfl⟩⟩; refine ⟨_, rfl, ?_⟩) | ((with_reducible refine gate_dst (N := 54) rfl ?_); (try (refine gate_guard (by rfl) ?_; dsimp only)); refine Kd.R_make (Kd.int .u8) _ 5 rfl (N := 54) rfl 26 _ _ rfl ji18 rfl rfl Tryd.underlying26 (.int .u8 0) 1 info5 rfl (by decide) (by omega) 0 (ok := fun _ => True) (okp := fun _ => True) rfl (fun _ hk => hk) trivial (of_decide_eq_true (by first | (with_reducible assumption) | assumption)) (Nat.le_trans (Nat.mul_le_mul_right _ (of_decide_eq_true (by first | (with_reducible assumption) | assumption) : ji18.toNat ≤ 281474976710656)) (by omega)) (Below.refl _ _) (Nat.le_refl _) ?_; intro v211 w31 ho32 hb hg_ hnew_; clear hg_ hnew_; (first | rw [← Ny210.out] at ho32 | (simp only [Int.reduceToNat] at ho32; rw [← Ny210.out] at ho32)); have n0_ := Aside0.mk (Kd.R_below (by (with_reducible repeat (first | apply Kd.R_alloc | apply Kd.R_drewN | apply Kd.R_drew)); exact (Kd.R_mono (Kd.R_far (p := ⟨gb208, 2, none⟩) (Kd.R_far (p := ⟨gb208, 1, none⟩) (Kd.R_far (p := ⟨gb208, 0, none⟩) (Kd.R_types HO_194002.out BK208.out (by decide)) (fun _ hk => hk.2) (.int .i64 t202)) (fun _ hk => hk.2) (.int .i64 t203)) (fun _ hk => hk.2) (.slice Ao30 t204.length co30)) (fun _ h_ => h_.1))) hb); have n1_ := Aside0.mk (Kd.R_below (by (with_reducible repeat (first | apply Kd.R_alloc | apply Kd.R_drewN | apply Kd.R_drew)); exact (Kd.R_mono (Kd.R_far (p := ⟨gb208, 2, none⟩) (Kd.R_far (p := ⟨gb208, 1, none⟩) (Kd.R_far (p := ⟨gb208, 0, none⟩) (Kd.R_types HO206.out BK208.out (by decide)) (fun _ hk => hk.2) (.int .i64 t202)) (fun _ hk => hk.2) (.int .i64 t203)) (fun _ hk => hk.2) (.slice Ao30 t204.length co30)) (fun _ h_ => h_.1))) hb); have n2_ := Aside0.mk (Kd.R_lower ho32 (below_size (by repeat (first | (with_reducible first | exact HB.out | apply below_alloc | apply pw_below_drewN | apply below_drew1 | refine below_set ?_ GE193.out | refine below_set ?_ GE208.out) | exact HB.out)))); have n3_ := Aside0.mk (blk_below (g := gb193) (o := .cells #[.int .i64 0, .int .i64 1, .slice Ao24 x194002_1.length co24] 25 (0, 0)) (by (with_reducible repeat (first | refine blk_drewN ?_ _ | refine blk_drew ?_ | refine blk_alloc ?_ _)); refine blk_far ?_ NB193_208.out _; (with_reducible repeat (first | refine blk_drewN ?_ _ | refine blk_drew ?_ | refine blk_alloc ?_ _)); refine blk_far ?_ NB193_208.out _; (with_reducible repeat (first | refine blk_drewN ?_ _ | refine blk_drew ?_ | refine blk_alloc ?_ _)); refine blk_far ?_ NB193_208.out _; (with_reducible repeat (first | refine blk_drewN ?_ _ | refine blk_drew ?_ | refine blk_alloc ?_ _)); exact BK193.out) hb); have n4_ := Aside0.mk (blk_below (g := gb208) (o := .cells #[.int .i64 t202, .int .i64 t203, .slice Ao30 t204.length co30] 25 (0, 0)) (by (with_reducible repeat (first | refine blk_drewN ?_ _ | refine blk_drew ?_ | refine blk_alloc ?_ _)); refine blk_put (cs := #[.int .i64 t202, .int .i64 t203, .slice none 0 0]) ?_ 2 _ rfl; (with_reducible repeat (first | refine blk_drewN ?_ _ | refine blk_drew ?_ | refine blk_alloc ?_ _)); refine blk_put (cs := #[.int .i64 t202, .int .i64 0, .slice none 0 0]) ?_ 1 _ rfl; (with_reducible repeat (first | refine blk_drewN ?_ _ | refine blk_drew ?_ | refine blk_alloc ?_ _)); refine blk_put (cs := #[.int .i64 0, .int .i64 0, .slice none 0 0]) ?_ 0 _ rfl; (with_reducible repeat (first | refine blk_drewN ?_ _ | refine blk_drew ?_ | refine blk_alloc ?_ _)); exact BK208.out) hb); have n5_ := Aside0.mk (below_step (by repeat (first | (with_reducible first | exact HB.out | apply below_alloc | apply pw_below_drewN | apply below_drew1 | refine below_set ?_ GE193.out | refine below_set ?_ GE208.out) | exact HB.out)) hb); clear HO_194002; clear HO206; clear BK193; clear BK208; clear HB; have HO_194002 := n0_; have HO206 := n1_; have HO212 := n2_; have BK193 := n3_; have BK208 := n4_; have HB := n5_; clear n0_ n1_ n2_ n3_ n4_ n5_; clear hb ho32; have hcv33 := own_string (P := Tryd.prog) Tryd.underlying26 Tryd.underlying5 Tryd.underlying9 (Kd.own_of_R HO212.out)) | ((with_reducible refine gate_callee (f := 7) rfl ?_); refine goesL_ (some 58) rfl rfl Tryd.func7 (by kernel_rfl) rfl #[.string (strOfNums y210)] rfl (by (try simp only [List.map_toArray, List.map_cons, List.map_nil]); first | done | rfl | (simp only [List.length_drop, List.length_take]; rfl)) ?_; (with_reducible refine (filing_Decode.calls k1 (strOfNums y210) t213 t214 t215 t218 _ ?side1 A21.out).mono ?_); (case side1 => exact Tabs.below HT.out (by repeat (first | (with_reducible first | exact HB.out | apply below_alloc | apply pw_below_drewN | apply below_drew1 | refine below_set ?_ GE193.out | refine below_set ?_ GE208.out) | exact HB.out))); rintro e w34 ⟨v216, rfl, ho0, hb⟩; refine ⟨_, rfl, ?_⟩; have n0_ := Aside0.mk (Kd.R_elder' (by (with_reducible repeat (first | apply Kd.R_alloc | apply Kd.R_drewN | apply Kd.R_drew)); exact HO_194002.out) (Kd.R_base ho0) hb); have n1_ := Aside0.mk (Kd.R_elder' (by (with_reducible repeat (first | apply Kd.R_alloc | apply Kd.R_drewN | apply Kd.R_drew)); exact HO206.out) (Kd.R_base ho0) hb); have n2_ := Aside0.mk (Kd.R_below (by (with_reducible repeat (first | apply Kd.R_alloc | apply Kd.R_drewN | apply Kd.R_drew)); exact HO212.out) hb); have n3_ := Aside0.mk (Kd.R_lower (Kd.R_new' (Kd.R_new' ho0 (Kd.R_lt (by (with_reducible repeat (first | apply Kd.R_alloc | apply Kd.R_drewN | apply Kd.R_drew)); exact HO_194002.out))) (Kd.R_lt (by (with_reducible repeat (first | apply Kd.R_alloc | apply Kd.R_drewN | apply Kd.R_drew)); exact HO206.out))) (below_size (by repeat (first | (with_reducible first | exact HB.out | apply below_alloc | apply pw_below_drewN | apply below_drew1 | refine below_set ?_ GE193.out | refine below_set ?_ GE208.out) | exact HB.out)))); have n4_ := Aside0.mk (blk_below (g := gb193) (o := .cells #[.int .i64 0, .int .i64 1, .slice Ao24 x194002_1.length co24] 25 (0, 0)) (by (with_reducible repeat (first | refine blk_drewN ?_ _ | refine blk_drew ?_ | refine blk_alloc ?_ _)); exact BK193.out) hb); have n5_ := Aside0.mk (blk_below (g := gb208) (o := .cells #[.int .i64 t202, .int .i64 t203, .slice Ao30 t204.length co30] 25 (0, 0)) (by (with_reducible repeat (first | refine blk_drewN ?_ _ | refine blk_drew ?_ | refine blk_alloc ?_ _)); exact BK208.out) hb); have n6_ := Aside0.mk (below_step (by repeat (first | (with_reducible first | exact HB.out | apply below_alloc | apply pw_below_drewN | apply below_drew1 | refine below_set ?_ GE193.out | refine below_set ?_ GE208.out) | exact HB.out)) hb); clear HO_194002; clear HO206; clear HO212; clear BK193; clear BK208; clear HB; have HO_194002 := n0_; have HO206 := n1_; have HO212 := n2_; have HO217 := n3_; have BK193 := n4_; have BK208 := n5_; have HB := n6_; clear n0_ n1_ n2_ n3_ n4_ n5_ n6_; (try clear hb); (try clear hb2); (try clear hk); (try clear hi); (try clear ho0)) | ((with_reducible refine gate_dst (N := 13) rfl ?_); (try (refine gate_guard (by rfl) ?_; dsimp only)); refine box_event ?hg (N := 13) ?hd (cs := #[.int .i64 0, .int .i64 0, .slice none 0 0]) (t := 25) ?hr ?_; (case hd => rfl); (case hg => rfl); (case hr => first | (go_simp; done) | (go_simp; rfl)); intro gb219 hg w35 hbox hb; have n0_ := Aside0.mk (Kd.R_below (by (with_reducible repeat (first | apply Kd.R_alloc | apply Kd.R_drewN | apply Kd.R_drew)); exact HO_194002.out) hb); have n1_ := Aside0.mk (Kd.R_below (by (with_reducible repeat (first | apply Kd.R_alloc | apply Kd.R_drewN | apply Kd.R_drew)); exact HO206.out) hb); have n2_ := Aside0.mk (Kd.R_below (by (with_reducible repeat (first | apply Kd.R_alloc | apply Kd.R_drewN | apply Kd.R_drew)); exact HO212.out) hb); have n3_ := Aside0.mk (Kd.R_below (by (with_reducible repeat (first | apply Kd.R_alloc | apply Kd.R_drewN | apply Kd.R_drew)); exact HO217.out) hb); have n4_ := Aside0.mk (blk_below (g := gb193) (o := .cells #[.int .i64 0, .int .i64 1, .slice Ao24 x194002_1.length co24] 25 (0, 0)) (by (with_reducible repeat (first | refine blk_drewN ?_ _ | refine blk_drew ?_ | refine blk_alloc ?_ _)); exact BK193.out) hb); have n5_ := Aside0.mk (blk_below (g := gb208) (o := .cells #[.int .i64 t202, .int .i64 t203, .slice Ao30 t204.length co30] 25 (0, 0)) (by (with_reducible repeat (first | refine blk_drewN ?_ _ | refine blk_drew ?_ | refine blk_alloc ?_ _)); exact BK208.out) hb); have n6_ := Aside0.mk (below_step (by repeat (first | (with_reducible first | exact HB.out | apply below_alloc | apply pw_below_drewN | apply below_drew1 | refine below_set ?_ GE193.out | refine below_set ?_ GE208.out) | exact HB.out)) hb); have n7_ := Aside0.mk (hbox); have n8_ := Aside0.mk ((by rw [hg]; exact (below_size (by repeat (first | (with_reducible first | exact HB.out | apply below_alloc | apply pw_below_drewN | apply below_drew1 | refine below_set ?_ GE193.out | refine below_set ?_ GE208.out) | exact HB.out))) : w.heap.size ≤ gb219)); have n9_ := Aside0.mk ((by rw [hg]; exact (below_size (by repeat (first | (with_reducible first | exact HB.out | apply below_alloc | apply pw_below_drewN | apply below_drew1 | refine below_set ?_ GE193.out | refine below_set ?_ GE208.out) | exact HB.out))) : w.heap.size ≤ gb219)); have n10_ := Aside0.mk ((by rw [hg]; exact Nat.ne_of_lt (blk_lt (g := gb193) (o := .cells #[.int .i64 0, .int .i64 1, .slice Ao24 x194002_1.length co24] 25 (0, 0)) (by (with_reducible repeat (first | refine blk_drewN ?_ _ | refine blk_drew ?_ | refine blk_alloc ?_ _)); exact BK193.out)) : gb193 ≠ gb219)); have n11_ := Aside0.mk ((by rw [hg]; exact Nat.ne_of_gt (blk_lt (g := gb193) (o := .cells #[.int .i64 0, .int .i64 1, .slice Ao24 x194002_1.length co24] 25 (0, 0)) (by (with_reducible repeat (first | refine blk_drewN ?_ _ | refine blk_drew ?_ | refine blk_alloc ?_ _)); exact BK193.out)) : gb219 ≠ gb193)); have n12_ := Aside0.mk ((by rw [hg]; exact Nat.ne_of_lt (blk_lt (g := gb208) (o := .cells #[.int .i64 t202, .int .i64 t203, .slice Ao30 t204.length co30] 25 (0, 0)) (by (with_reducible repeat (first | refine blk_drewN ?_ _ | refine blk_drew ?_ | refine blk_alloc ?_ _)); exact BK208.out)) : gb208 ≠ gb219)); have n13_ := Aside0.mk ((by rw [hg]; exact Nat.ne_of_gt (blk_lt (g := gb208) (o := .cells #[.int .i64 t202, .int .i64 t203, .slice Ao30 t204.length co30] 25 (0, 0)) (by (with_reducible repeat (first | refine blk_drewN ?_ _ | refine blk_drew ?_ | refine blk_alloc ?_ _)); exact BK208.out)) : gb219 ≠ gb208)); clear HO_194002; clear HO206; clear HO212; clear HO217; clear BK193; clear BK208; clear HB; have HO_194002 := n0_; have HO206 := n1_; have HO212 := n2_; have HO217 := n3_; have BK193 := n4_; have BK208 := n5_; have HB := n6_; have BK219 := n7_; have GW219 := n8_; have GE219 := n9_; have NB193_219 := n10_; have NB219_193 := n11_; have NB208_219 := n12_; have NB219_208 := n13_; clear n0_ n1_ n2_ n3_ n4_ n5_ n6_ n7_ n8_ n9_ n10_ n11_ n12_ n13_; clear hb hbox hg; have hnb36 := NB219_193.out; have hnc36 := NB193_219.out; have hnb37 := NB219_208.out; have hnc37 := NB208_219.out; have hcz38_0 : w35.cell? ⟨gb219, 0, none⟩ = some (.int .i64 0) := (blk_cell BK219.out 0).trans rfl; have hcz38_1 : w35.cell? ⟨gb219, 1, none⟩ = some (.int .i64 0) := (blk_cell BK219.out 1).trans rfl; have hcz38_2 : w35.cell? ⟨gb219, 2, none⟩ = some (.slice none 0 0) := (blk_cell BK219.out 2).trans rfl; have hfz38_0 := blk_frozen BK219.out 0; have hfz38_1 := blk_frozen BK219.out 1; have hfz38_2 := blk_frozen BK219.out 2; obtain ⟨Ao39, co39, eo39⟩ := Kd.R_slice HO217.out; subst eo39; obtain ⟨Ao40, co40, eo40⟩ := Kd.R_slice HO212.out; subst eo40))
            (try simp only [Act.put, List.setIfInBounds_toArray, List.set_cons_zero, List.set_cons_succ])
            go_cut [15] (fun v15 wc => ∃ (kq : Nat) (x15_21 : Int), v15 = .int .i64 x15_21 ∧ Aside0 (payrolllaw43_FilingLimits.j1 kq (wrap64 (255 + t192)) t200 t201 t207 t218 x15_21 0 1 x194002_1 t202 t203 t204 = some true) ∧ Aside0 (kq ≤ k1) ∧ Aside0 (Kd.R k28 28 wc w.heap.size (fun k_ => some k_ ≠ ((.slice Ao30 t204.length co30) : Value).ownBlock ∧ some k_ ≠ ((.slice Ao39 t215.length co39) : Value).ownBlock) (.slice Ao24 x194002_1.length co24) x194002_1) ∧ Aside0 (Kd.R k28 28 wc w.heap.size (fun k_ => some k_ ≠ ((.slice Ao24 x194002_1.length co24) : Value).ownBlock ∧ some k_ ≠ ((.slice Ao39 t215.length co39) : Value).ownBlock) (.slice Ao30 t204.length co30) t204) ∧ Aside0 (Kd.R k28 28 wc w.heap.size (fun k_ => some k_ ≠ ((.slice Ao24 x194002_1.length co24) : Value).ownBlock ∧ some k_ ≠ ((.slice Ao30 t204.length co30) : Value).ownBlock) (.slice Ao39 t215.length co39) t215) ∧ Aside0 (wc.heap[gb193]? = some (.cells #[.int .i64 0, .int .i64 1, (.slice Ao24 x194002_1.length co24)] 25 (0, 0))) ∧ Aside0 (wc.heap[gb208]? = some (.cells #[.int .i64 t202, .int .i64 t203, (.slice Ao30 t204.length co30)] 25 (0, 0))) ∧ Aside0 (wc.heap[gb219]? = some (.cells #[.int .i64 t213, .int .i64 t214, (.slice Ao39 t215.length co39)] 25 (0, 0))) ∧ Aside0 (Below w.heap.size w wc))
            case first =>
              have H := HC22.out
              clear HC22
              by_cases c41 : (y210.length : Int) > 65536
              · rw [if_pos c41] at H
                have c41b0 : decide (65536 < (y210.length : Int)) = true := decide_eq_true c41
                have c41b1 : decide (65536 < y210.length) = true := decide_eq_true (by omega)
                clear c41
                (first | rw [c41b0] | (simp only [i64_w, i32_w]; rw [c41b0]) | skip)
                have H' := Aside0.mk H
                clear H
                go_wp2
                go_meet
                case rel => exact ⟨_, (3), (by first | rfl | (simp; done) | (simp [*]; done)), H', ⟨by have := HK1.out; first | omega | exact Nat.le_refl _⟩, ⟨by (with_reducible repeat (first | apply Kd.R_alloc | apply Kd.R_drewN | apply Kd.R_drew)); exact Kd.R_mono (Kd.R_far (p := ⟨gb219, 2, none⟩) (Kd.R_far (p := ⟨gb219, 1, none⟩) (Kd.R_far (p := ⟨gb219, 0, none⟩) (Kd.R_types HO_194002.out BK219.out (by decide)) (fun _ hk => hk.2) (.int .i64 t213)) (fun _ hk => hk.2) (.int .i64 t214)) (fun _ hk => hk.2) (.slice Ao39 t215.length co39)) (fun _ hk => ⟨hk.1.1.2, hk.1.2⟩)⟩, ⟨by (with_reducible repeat (first | apply Kd.R_alloc | apply Kd.R_drewN | apply Kd.R_drew)); exact Kd.R_mono (Kd.R_far (p := ⟨gb219, 2, none⟩) (Kd.R_far (p := ⟨gb219, 1, none⟩) (Kd.R_far (p := ⟨gb219, 0, none⟩) (Kd.R_types HO206.out BK219.out (by decide)) (fun _ hk => hk.2) (.int .i64 t213)) (fun _ hk => hk.2) (.int .i64 t214)) (fun _ hk => hk.2) (.slice Ao39 t215.length co39)) (fun _ hk => ⟨hk.1.1.2, hk.1.2⟩)⟩, ⟨by (with_reducible repeat (first | apply Kd.R_alloc | apply Kd.R_drewN | apply Kd.R_drew)); exact Kd.R_mono (Kd.R_far (p := ⟨gb219, 2, none⟩) (Kd.R_far (p := ⟨gb219, 1, none⟩) (Kd.R_far (p := ⟨gb219, 0, none⟩) (Kd.R_types HO217.out BK219.out (by decide)) (fun _ hk => hk.2) (.int .i64 t213)) (fun _ hk => hk.2) (.int .i64 t214)) (fun _ hk => hk.2) (.slice Ao39 t215.length co39)) (fun _ hk => ⟨hk.1.1.2, hk.1.2⟩)⟩, ⟨by (with_reducible repeat (first | refine blk_drewN ?_ _ | refine blk_drew ?_ | refine blk_alloc ?_ _)); refine blk_far ?_ NB193_219.out _; (with_reducible repeat (first | refine blk_drewN ?_ _ | refine blk_drew ?_ | refine blk_alloc ?_ _)); refine blk_far ?_ NB193_219.out _; (with_reducible repeat (first | refine blk_drewN ?_ _ | refine blk_drew ?_ | refine blk_alloc ?_ _)); refine blk_far ?_ NB193_219.out _; (with_reducible repeat (first | refine blk_drewN ?_ _ | refine blk_drew ?_ | refine blk_alloc ?_ _)); exact BK193.out⟩, ⟨by (with_reducible repeat (first | refine blk_drewN ?_ _ | refine blk_drew ?_ | refine blk_alloc ?_ _)); refine blk_far ?_ NB208_219.out _; (with_reducible repeat (first | refine blk_drewN ?_ _ | refine blk_drew ?_ | refine blk_alloc ?_ _)); refine blk_far ?_ NB208_219.out _; (with_reducible repeat (first | refine blk_drewN ?_ _ | refine blk_drew ?_ | refine blk_alloc ?_ _)); refine blk_far ?_ NB208_219.out _; (with_reducible repeat (first | refine blk_drewN ?_ _ | refine blk_drew ?_ | refine blk_alloc ?_ _)); exact BK208.out⟩, ⟨by (with_reducible repeat (first | refine blk_drewN ?_ _ | refine blk_drew ?_ | refine blk_alloc ?_ _)); refine blk_put (cs := #[.int .i64 t213, .int .i64 t214, .slice none 0 0]) ?_ 2 _ rfl; (with_reducible repeat (first | refine blk_drewN ?_ _ | refine blk_drew ?_ | refine blk_alloc ?_ _)); refine blk_put (cs := #[.int .i64 t213, .int .i64 0, .slice none 0 0]) ?_ 1 _ rfl; (with_reducible repeat (first | refine blk_drewN ?_ _ | refine blk_drew ?_ | refine blk_alloc ?_ _)); refine blk_put (cs := #[.int .i64 0, .int .i64 0, .slice none 0 0]) ?_ 0 _ rfl; (with_reducible repeat (first | refine blk_drewN ?_ _ | refine blk_drew ?_ | refine blk_alloc ?_ _)); exact BK219.out⟩, ⟨by repeat (first | (with_reducible first | exact HB.out | apply below_alloc | apply pw_below_drewN | apply below_drew1 | refine below_set ?_ GE193.out | refine below_set ?_ GE208.out | refine below_set ?_ GE219.out) | exact HB.out)⟩⟩
              · rw [if_neg c41] at H
                have c41b0 : decide (65536 < (y210.length : Int)) = false := decide_eq_false c41
                have c41b1 : decide (65536 < y210.length) = false := decide_eq_false (by omega)
                clear c41
                (first | rw [c41b0] | (simp only [i64_w, i32_w]; rw [c41b0]) | skip)
                have H' := Aside0.mk H
                clear H
                go_wp2
                go_meet
                case rel => exact ⟨_, (6), (by first | rfl | (simp; done) | (simp [*]; done)), H', ⟨by have := HK1.out; first | omega | exact Nat.le_refl _⟩, ⟨by (with_reducible repeat (first | apply Kd.R_alloc | apply Kd.R_drewN | apply Kd.R_drew)); exact Kd.R_mono (Kd.R_far (p := ⟨gb219, 2, none⟩) (Kd.R_far (p := ⟨gb219, 1, none⟩) (Kd.R_far (p := ⟨gb219, 0, none⟩) (Kd.R_types HO_194002.out BK219.out (by decide)) (fun _ hk => hk.2) (.int .i64 t213)) (fun _ hk => hk.2) (.int .i64 t214)) (fun _ hk => hk.2) (.slice Ao39 t215.length co39)) (fun _ hk => ⟨hk.1.1.2, hk.1.2⟩)⟩, ⟨by (with_reducible repeat (first | apply Kd.R_alloc | apply Kd.R_drewN | apply Kd.R_drew)); exact Kd.R_mono (Kd.R_far (p := ⟨gb219, 2, none⟩) (Kd.R_far (p := ⟨gb219, 1, none⟩) (Kd.R_far (p := ⟨gb219, 0, none⟩) (Kd.R_types HO206.out BK219.out (by decide)) (fun _ hk => hk.2) (.int .i64 t213)) (fun _ hk => hk.2) (.int .i64 t214)) (fun _ hk => hk.2) (.slice Ao39 t215.length co39)) (fun _ hk => ⟨hk.1.1.2, hk.1.2⟩)⟩, ⟨by (with_reducible repeat (first | apply Kd.R_alloc | apply Kd.R_drewN | apply Kd.R_drew)); exact Kd.R_mono (Kd.R_far (p := ⟨gb219, 2, none⟩) (Kd.R_far (p := ⟨gb219, 1, none⟩) (Kd.R_far (p := ⟨gb219, 0, none⟩) (Kd.R_types HO217.out BK219.out (by decide)) (fun _ hk => hk.2) (.int .i64 t213)) (fun _ hk => hk.2) (.int .i64 t214)) (fun _ hk => hk.2) (.slice Ao39 t215.length co39)) (fun _ hk => ⟨hk.1.1.2, hk.1.2⟩)⟩, ⟨by (with_reducible repeat (first | refine blk_drewN ?_ _ | refine blk_drew ?_ | refine blk_alloc ?_ _)); refine blk_far ?_ NB193_219.out _; (with_reducible repeat (first | refine blk_drewN ?_ _ | refine blk_drew ?_ | refine blk_alloc ?_ _)); refine blk_far ?_ NB193_219.out _; (with_reducible repeat (first | refine blk_drewN ?_ _ | refine blk_drew ?_ | refine blk_alloc ?_ _)); refine blk_far ?_ NB193_219.out _; (with_reducible repeat (first | refine blk_drewN ?_ _ | refine blk_drew ?_ | refine blk_alloc ?_ _)); exact BK193.out⟩, ⟨by (with_reducible repeat (first | refine blk_drewN ?_ _ | refine blk_drew ?_ | refine blk_alloc ?_ _)); refine blk_far ?_ NB208_219.out _; (with_reducible repeat (first | refine blk_drewN ?_ _ | refine blk_drew ?_ | refine blk_alloc ?_ _)); refine blk_far ?_ NB208_219.out _; (with_reducible repeat (first | refine blk_drewN ?_ _ | refine blk_drew ?_ | refine blk_alloc ?_ _)); refine blk_far ?_ NB208_219.out _; (with_reducible repeat (first | refine blk_drewN ?_ _ | refine blk_drew ?_ | refine blk_alloc ?_ _)); exact BK208.out⟩, ⟨by (with_reducible repeat (first | refine blk_drewN ?_ _ | refine blk_drew ?_ | refine blk_alloc ?_ _)); refine blk_put (cs := #[.int .i64 t213, .int .i64 t214, .slice none 0 0]) ?_ 2 _ rfl; (with_reducible repeat (first | refine blk_drewN ?_ _ | refine blk_drew ?_ | refine blk_alloc ?_ _)); refine blk_put (cs := #[.int .i64 t213, .int .i64 0, .slice none 0 0]) ?_ 1 _ rfl; (with_reducible repeat (first | refine blk_drewN ?_ _ | refine blk_drew ?_ | refine blk_alloc ?_ _)); refine blk_put (cs := #[.int .i64 0, .int .i64 0, .slice none 0 0]) ?_ 0 _ rfl; (with_reducible repeat (first | refine blk_drewN ?_ _ | refine blk_drew ?_ | refine blk_alloc ?_ _)); exact BK219.out⟩, ⟨by repeat (first | (with_reducible first | exact HB.out | apply below_alloc | apply pw_below_drewN | apply below_drew1 | refine below_set ?_ GE193.out | refine below_set ?_ GE208.out | refine below_set ?_ GE219.out) | exact HB.out)⟩⟩
            case rest =>
              clear HC22
              try clear c1
              try clear hcv1
              try clear c2
              try clear p2
              try clear c3
              try clear hcv3
              try clear c4
              try clear c5
              try clear c6
              try clear c6b0
              try clear p6
              try clear c7
              try clear hcv11
              try clear c19
              try clear c19b0
              try clear c19b1
              try clear c20
              try clear c20b0
              try clear c20b1
              try clear c28
              try clear hcv33
              try clear c36
              try clear c37
              try clear c41
              try clear c41b0
              try clear c41b1
              try clear hcz14_0
              try clear hcz14_1
              try clear hcz14_2
              try clear hcz23_0
              try clear hcz23_1
              try clear hcz23_2
              try clear hcz29_0
              try clear hcz29_1
              try clear hcz29_2
              try clear hcz38_0
              try clear hcz38_1
              try clear hcz38_2
              try clear hcz5_0
              try clear hcz5_1
              try clear hcz5_2
              try clear hcz8_0
              try clear hcz8_1
              try clear hcz8_2
              try clear hfz14_0
              try clear hfz14_1
              try clear hfz14_2
              try clear hfz23_0
              try clear hfz23_1
              try clear hfz23_2
              try clear hfz29_0
              try clear hfz29_1
              try clear hfz29_2
              try clear hfz38_0
              try clear hfz38_1
              try clear hfz38_2
              try clear hfz5_0
              try clear hfz5_1
              try clear hfz5_2
              try clear hfz8_0
              try clear hfz8_1
              try clear hfz8_2
              try clear p2
              obtain ⟨kq, x15_21, rfl, HA, HJ21, HO_194002, HO_209002, HO_220002, BK193, BK208, BK219, HB⟩ := hcut
              cases kq with
              | zero => exact absurd HA.out (by simp [payrolllaw43_FilingLimits.j1])
              | succ kj21 =>
                have H := HA.out
                clear HA
                simp only [payrolllaw43_FilingLimits.j1] at H
                have HC42 := Aside0.mk H
                clear H
                go_upto_region 14 with (fail)
                go_cut [73] (fun v73 wc => ∃ (kq : Nat) (x73_41 : Bool), v73 = .bool x73_41 ∧ Aside0 (payrolllaw43_FilingLimits.j2 kq (wrap64 (255 + t192)) t200 t201 t207 x73_41 t202 t203 t204 = some true) ∧ Aside0 (kq ≤ kj21) ∧ Aside0 (Kd.R k28 28 wc w.heap.size (fun k_ => some k_ ≠ ((.slice Ao30 t204.length co30) : Value).ownBlock ∧ some k_ ≠ ((.slice Ao39 t215.length co39) : Value).ownBlock) (.slice Ao24 x194002_1.length co24) x194002_1) ∧ Aside0 (Kd.R k28 28 wc w.heap.size (fun k_ => some k_ ≠ ((.slice Ao24 x194002_1.length co24) : Value).ownBlock ∧ some k_ ≠ ((.slice Ao39 t215.length co39) : Value).ownBlock) (.slice Ao30 t204.length co30) t204) ∧ Aside0 (Kd.R k28 28 wc w.heap.size (fun k_ => some k_ ≠ ((.slice Ao24 x194002_1.length co24) : Value).ownBlock ∧ some k_ ≠ ((.slice Ao30 t204.length co30) : Value).ownBlock) (.slice Ao39 t215.length co39) t215) ∧ Aside0 (wc.heap[gb193]? = some (.cells #[.int .i64 0, .int .i64 1, (.slice Ao24 x194002_1.length co24)] 25 (0, 0))) ∧ Aside0 (wc.heap[gb208]? = some (.cells #[.int .i64 t202, .int .i64 t203, (.slice Ao30 t204.length co30)] 25 (0, 0))) ∧ Aside0 (wc.heap[gb219]? = some (.cells #[.int .i64 t213, .int .i64 t214, (.slice Ao39 t215.length co39)] 25 (0, 0))) ∧ Aside0 (Below w.heap.size w wc))
                case first =>
                  have H := HC42.out
                  clear HC42
                  by_cases c43 : t218 = x15_21
                  · rw [if_pos c43] at H
                    have c43b0 : (t218 == x15_21) = true := beq_iff_eq.mpr c43
                    have c43b1 : (t218 != x15_21) = false := bne_eq_false_iff_eq.mpr c43
                    clear c43
                    (first | rw [c43b0] | (simp only [i64_w, i32_w]; rw [c43b0]) | skip)
                    replace H := Option.bind_eq_some_iff.mp H
                    obtain ⟨t220, A440, H⟩ := H
                    replace H : (payrolllaw43_FilingLimits.j2 kj21 (wrap64 (255 + t192)) t200 t201 t207 (t220 != (decide ((wrap64 (255 + t192)) ≤ 256))) t202 t203 t204) = some true := H
                    have A44 := Aside0.mk A440
                    clear A440
                    have H' := Aside0.mk H
                    clear H
                    have hnb45 := NB193_208.out
                    have hnc45 := NB208_193.out
                    have hnb46 := NB193_219.out
                    have hnc46 := NB219_193.out
                    have hcz47_0 : wc.cell? ⟨gb193, 0, none⟩ = some (.int .i64 0) := (blk_cell BK193.out 0).trans rfl
                    have hcz47_1 : wc.cell? ⟨gb193, 1, none⟩ = some (.int .i64 1) := (blk_cell BK193.out 1).trans rfl
                    have hcz47_2 : wc.cell? ⟨gb193, 2, none⟩ = some (.slice Ao24 x194002_1.length co24) := (blk_cell BK193.out 2).trans rfl
                    have hfz47_0 := blk_frozen BK193.out 0
                    have hfz47_1 := blk_frozen BK193.out 1
                    have hfz47_2 := blk_frozen BK193.out 2
                    go_wp2_with (first | (go_at_call 8; (with_reducible refine (filing_Valid.calls kj21 0 1 _ _ x194002_1 t220 _ ?side1 ?side2 A44.out).mono ?_); (case side1 => repeat (first | exact (Kd.R_reads' HO_194002.out).2.2 | (with_reducible refine Kd.C_alloc ?_ _) | (with_reducible refine Kd.C_drewN ?_ _) | (with_reducible refine Kd.C_drew ?_))); (case side2 => exact (Kd.R_reads' HO_194002.out).2.1); rintro e w48 ⟨rfl, hb⟩; have n0_ := Aside0.mk (Kd.R_below (by (with_reducible repeat (first | apply Kd.R_alloc | apply Kd.R_drewN | apply Kd.R_drew)); exact HO_194002.out) hb); have n1_ := Aside0.mk (Kd.R_below (by (with_reducible repeat (first | apply Kd.R_alloc | apply Kd.R_drewN | apply Kd.R_drew)); exact HO_209002.out) hb); have n2_ := Aside0.mk (Kd.R_below (by (with_reducible repeat (first | apply Kd.R_alloc | apply Kd.R_drewN | apply Kd.R_drew)); exact HO_220002.out) hb); have n3_ := Aside0.mk (blk_below (g := gb193) (o := .cells #[.int .i64 0, .int .i64 1, .slice Ao24 x194002_1.length co24] 25 (0, 0)) (by (with_reducible repeat (first | refine blk_drewN ?_ _ | refine blk_drew ?_ | refine blk_alloc ?_ _)); exact BK193.out) hb); have n4_ := Aside0.mk (blk_below (g := gb208) (o := .cells #[.int .i64 t202, .int .i64 t203, .slice Ao30 t204.length co30] 25 (0, 0)) (by (with_reducible repeat (first | refine blk_drewN ?_ _ | refine blk_drew ?_ | refine blk_alloc ?_ _)); exact BK208.out) hb); have n5_ := Aside0.mk (blk_below (g := gb219) (o := .cells #[.int .i64 t213, .int .i64 t214, .slice Ao39 t215.length co39] 25 (0, 0)) (by (with_reducible repeat (first | refine blk_drewN ?_ _ | refine blk_drew ?_ | refine blk_alloc ?_ _)); exact BK219.out) hb); have n6_ := Aside0.mk (below_step (by repeat (first | (with_reducible first | exact HB.out | apply below_alloc | apply pw_below_drewN | apply below_drew1 | refine below_set ?_ GE193.out | refine below_set ?_ GE208.out | refine below_set ?_ GE219.out) | exact HB.out)) hb); clear HO_194002; clear HO_209002; clear HO_220002; clear BK193; clear BK208; clear BK219; clear HB; have HO_194002 := n0_; have HO_209002 := n1_; have HO_220002 := n2_; have BK193 := n3_; have BK208 := n4_; have BK219 := n5_; have HB := n6_; clear n0_ n1_ n2_ n3_ n4_ n5_ n6_; (try clear hb); (try clear hb2); (try clear hk); (try clear hi)))
                    go_meet
                    case rel => exact ⟨_, ((t220 != (decide ((wrap64 (255 + t192)) ≤ 256)))), (by first | rfl | (simp; done) | (simp [*]; done)), H', ⟨by have := HK1.out; have := HJ21.out; first | omega | exact Nat.le_refl _⟩, ⟨by (with_reducible repeat (first | apply Kd.R_alloc | apply Kd.R_drewN | apply Kd.R_drew)); exact HO_194002.out⟩, ⟨by (with_reducible repeat (first | apply Kd.R_alloc | apply Kd.R_drewN | apply Kd.R_drew)); exact HO_209002.out⟩, ⟨by (with_reducible repeat (first | apply Kd.R_alloc | apply Kd.R_drewN | apply Kd.R_drew)); exact HO_220002.out⟩, ⟨by (with_reducible repeat (first | refine blk_drewN ?_ _ | refine blk_drew ?_ | refine blk_alloc ?_ _)); exact BK193.out⟩, ⟨by (with_reducible repeat (first | refine blk_drewN ?_ _ | refine blk_drew ?_ | refine blk_alloc ?_ _)); exact BK208.out⟩, ⟨by (with_reducible repeat (first | refine blk_drewN ?_ _ | refine blk_drew ?_ | refine blk_alloc ?_ _)); exact BK219.out⟩, ⟨by repeat (first | (with_reducible first | exact HB.out | apply below_alloc | apply pw_below_drewN | apply below_drew1 | refine below_set ?_ GE193.out | refine below_set ?_ GE208.out | refine below_set ?_ GE219.out) | exact HB.out)⟩⟩
                  · rw [if_neg c43] at H
                    have c43b0 : (t218 == x15_21) = false := beq_eq_false_iff_ne.mpr c43
                    have c43b1 : (t218 != x15_21) = true := bne_iff_ne.mpr c43
                    (first | rw [c43b0] | (simp only [i64_w, i32_w]; rw [c43b0]) | skip)
                    have H' := Aside0.mk H
                    clear H
                    go_wp2
                    go_meet
                    case rel => exact ⟨_, (true), (by first | rfl | (simp; done) | (simp [*]; done)), H', ⟨by have := HK1.out; have := HJ21.out; first | omega | exact Nat.le_refl _⟩, ⟨by (with_reducible repeat (first | apply Kd.R_alloc | apply Kd.R_drewN | apply Kd.R_drew)); exact HO_194002.out⟩, ⟨by (with_reducible repeat (first | apply Kd.R_alloc | apply Kd.R_drewN | apply Kd.R_drew)); exact HO_209002.out⟩, ⟨by (with_reducible repeat (first | apply Kd.R_alloc | apply Kd.R_drewN | apply Kd.R_drew)); exact HO_220002.out⟩, ⟨by (with_reducible repeat (first | refine blk_drewN ?_ _ | refine blk_drew ?_ | refine blk_alloc ?_ _)); exact BK193.out⟩, ⟨by (with_reducible repeat (first | refine blk_drewN ?_ _ | refine blk_drew ?_ | refine blk_alloc ?_ _)); exact BK208.out⟩, ⟨by (with_reducible repeat (first | refine blk_drewN ?_ _ | refine blk_drew ?_ | refine blk_alloc ?_ _)); exact BK219.out⟩, ⟨by repeat (first | (with_reducible first | exact HB.out | apply below_alloc | apply pw_below_drewN | apply below_drew1 | refine below_set ?_ GE193.out | refine below_set ?_ GE208.out | refine below_set ?_ GE219.out) | exact HB.out)⟩⟩
                case rest =>
                  clear HC42
                  try clear c1
                  try clear hcv1
                  try clear c2
                  try clear p2
                  try clear c3
                  try clear hcv3
                  try clear c4
                  try clear c5
                  try clear c6
                  try clear c6b0
                  try clear p6
                  try clear c7
                  try clear hcv11
                  try clear c19
                  try clear c19b0
                  try clear c19b1
                  try clear c20
                  try clear c20b0
                  try clear c20b1
                  try clear c28
                  try clear hcv33
                  try clear c36
                  try clear c37
                  try clear c41
                  try clear c41b0
                  try clear c41b1
                  try clear c43
                  try clear c43b0
                  try clear c43b1
                  try clear c45
                  try clear c46
                  try clear hcz14_0
                  try clear hcz14_1
                  try clear hcz14_2
                  try clear hcz23_0
                  try clear hcz23_1
                  try clear hcz23_2
                  try clear hcz29_0
                  try clear hcz29_1
                  try clear hcz29_2
                  try clear hcz38_0
                  try clear hcz38_1
                  try clear hcz38_2
                  try clear hcz47_0
                  try clear hcz47_1
                  try clear hcz47_2
                  try clear hcz5_0
                  try clear hcz5_1
                  try clear hcz5_2
                  try clear hcz8_0
                  try clear hcz8_1
                  try clear hcz8_2
                  try clear hfz14_0
                  try clear hfz14_1
                  try clear hfz14_2
                  try clear hfz23_0
                  try clear hfz23_1
                  try clear hfz23_2
                  try clear hfz29_0
                  try clear hfz29_1
                  try clear hfz29_2
                  try clear hfz38_0
                  try clear hfz38_1
                  try clear hfz38_2
                  try clear hfz47_0
                  try clear hfz47_1
                  try clear hfz47_2
                  try clear hfz5_0
                  try clear hfz5_1
                  try clear hfz5_2
                  try clear hfz8_0
                  try clear hfz8_1
                  try clear hfz8_2
                  try clear p2
                  try clear p6
                  obtain ⟨kq, x73_41, rfl, HA, HJ41, HO_194002, HO_209002, HO_220002, BK193, BK208, BK219, HB⟩ := hcut
                  cases kq with
                  | zero => exact absurd HA.out (by simp [payrolllaw43_FilingLimits.j2])
                  | succ kj41 =>
                    have H := HA.out
                    clear HA
                    simp only [payrolllaw43_FilingLimits.j2] at H
                    by_cases c49 : x73_41 = true
                    · subst c49
                      have H1 : (some false) = some true := by rw [if_pos rfl] at H; exact H
                      clear H
                      have H := H1
                      clear H1
                      exact absurd H (by simp)
                    · replace c49 := Bool.eq_false_iff.mpr c49
                      subst c49
                      have H1 : (if (wrap64 (255 + t192)) > 256 then (if t201 = 1 then (if t200.toList = ([] : List UInt8) then ((payrolllaw43_awake.f kj41).bind fun t221 => (some t221)) else (some false)) else (some false)) else (if t201 = 0 then (if t207 = 0 then (if (t204.length : Int) = (wrap64 (255 + t192)) then ((payrolllaw43_awake.f kj41).bind fun t222 => (some t222)) else (some false)) else (some false)) else (some false))) = some true := by rw [if_neg (show ¬ (false = true) by decide)] at H; exact H
                      clear H
                      have H := H1
                      clear H1
                      by_cases c50 : (wrap64 (255 + t192)) > 256
                      · rw [if_pos c50] at H
                        have c50b0 : decide (256 < (wrap64 (255 + t192))) = true := decide_eq_true c50
                        clear c50
                        by_cases c51 : t201 = 1
                        · rw [if_pos c51] at H
                          have c51b0 : (t201 == 1) = true := beq_iff_eq.mpr c51
                          have c51b1 : (t201 != 1) = false := bne_eq_false_iff_eq.mpr c51
                          clear c51
                          by_cases c52 : t200.toList = ([] : List UInt8)
                          · rw [if_pos c52] at H
                            have c52b0 : (t200.toList == ([] : List UInt8)) = true := beq_iff_eq.mpr c52
                            have c52b1 : (t200.toList != ([] : List UInt8)) = false := bne_eq_false_iff_eq.mpr c52
                            clear c52
                            replace H := Option.bind_eq_some_iff.mp H
                            obtain ⟨t221, A530, H⟩ := H
                            replace H : (some t221) = some true := H
                            have A53 := Aside0.mk A530
                            clear A530
                            obtain rfl := Option.some.inj H
                            go_wp2_with (first | (go_at_call 9; (with_reducible refine (payrolllaw43_awake.calls kj41  true _ ?side1 A53.out).mono ?_); (case side1 => exact Tabs.below HT.out (by repeat (first | (with_reducible first | exact HB.out | apply below_alloc | apply pw_below_drewN | apply below_drew1 | refine below_set ?_ GE193.out | refine below_set ?_ GE208.out | refine below_set ?_ GE219.out) | exact HB.out))); rintro e w54 ⟨rfl, hb⟩; have n0_ := Aside0.mk (Kd.R_below (by (with_reducible repeat (first | apply Kd.R_alloc | apply Kd.R_drewN | apply Kd.R_drew)); exact HO_194002.out) hb); have n1_ := Aside0.mk (Kd.R_below (by (with_reducible repeat (first | apply Kd.R_alloc | apply Kd.R_drewN | apply Kd.R_drew)); exact HO_209002.out) hb); have n2_ := Aside0.mk (Kd.R_below (by (with_reducible repeat (first | apply Kd.R_alloc | apply Kd.R_drewN | apply Kd.R_drew)); exact HO_220002.out) hb); have n3_ := Aside0.mk (blk_below (g := gb193) (o := .cells #[.int .i64 0, .int .i64 1, .slice Ao24 x194002_1.length co24] 25 (0, 0)) (by (with_reducible repeat (first | refine blk_drewN ?_ _ | refine blk_drew ?_ | refine blk_alloc ?_ _)); exact BK193.out) hb); have n4_ := Aside0.mk (blk_below (g := gb208) (o := .cells #[.int .i64 t202, .int .i64 t203, .slice Ao30 t204.length co30] 25 (0, 0)) (by (with_reducible repeat (first | refine blk_drewN ?_ _ | refine blk_drew ?_ | refine blk_alloc ?_ _)); exact BK208.out) hb); have n5_ := Aside0.mk (blk_below (g := gb219) (o := .cells #[.int .i64 t213, .int .i64 t214, .slice Ao39 t215.length co39] 25 (0, 0)) (by (with_reducible repeat (first | refine blk_drewN ?_ _ | refine blk_drew ?_ | refine blk_alloc ?_ _)); exact BK219.out) hb); have n6_ := Aside0.mk (below_step (by repeat (first | (with_reducible first | exact HB.out | apply below_alloc | apply pw_below_drewN | apply below_drew1 | refine below_set ?_ GE193.out | refine below_set ?_ GE208.out | refine below_set ?_ GE219.out) | exact HB.out)) hb); clear HO_194002; clear HO_209002; clear HO_220002; clear BK193; clear BK208; clear BK219; clear HB; have HO_194002 := n0_; have HO_209002 := n1_; have HO_220002 := n2_; have BK193 := n3_; have BK208 := n4_; have BK219 := n5_; have HB := n6_; clear n0_ n1_ n2_ n3_ n4_ n5_ n6_; (try clear hb); (try clear hb2); (try clear hk); (try clear hi)))
                            go_ret
                            exact ⟨by first | rfl | (rw [HY.out] <;> rfl) | (simp [errW_none, errW_some] <;> rfl) | (simp only [← hji18]; first | rfl | (simp [errW_none, errW_some] <;> rfl)) | (simp [*, errW_none, errW_some] <;> rfl), by repeat (first | (with_reducible first | exact HB.out | apply below_alloc | apply pw_below_drewN | apply below_drew1 | refine below_set ?_ GE193.out | refine below_set ?_ GE208.out | refine below_set ?_ GE219.out) | exact HB.out)⟩
                          · rw [if_neg c52] at H
                            have c52b0 : (t200.toList == ([] : List UInt8)) = false := beq_eq_false_iff_ne.mpr c52
                            have c52b1 : (t200.toList != ([] : List UInt8)) = true := bne_iff_ne.mpr c52
                            exact absurd H (by simp)
                        · rw [if_neg c51] at H
                          have c51b0 : (t201 == 1) = false := beq_eq_false_iff_ne.mpr c51
                          have c51b1 : (t201 != 1) = true := bne_iff_ne.mpr c51
                          exact absurd H (by simp)
                      · rw [if_neg c50] at H
                        have c50b0 : decide (256 < (wrap64 (255 + t192))) = false := decide_eq_false c50
                        clear c50
                        by_cases c55 : t201 = 0
                        · rw [if_pos c55] at H
                          have c55b0 : (t201 == 0) = true := beq_iff_eq.mpr c55
                          have c55b1 : (t201 != 0) = false := bne_eq_false_iff_eq.mpr c55
                          clear c55
                          by_cases c56 : t207 = 0
                          · rw [if_pos c56] at H
                            have c56b0 : (t207 == 0) = true := beq_iff_eq.mpr c56
                            have c56b1 : (t207 != 0) = false := bne_eq_false_iff_eq.mpr c56
                            clear c56
                            by_cases c57 : (t204.length : Int) = (wrap64 (255 + t192))
                            · rw [if_pos c57] at H
                              have c57b0 : ((t204.length : Int) == (wrap64 (255 + t192))) = true := beq_iff_eq.mpr c57
                              have c57b1 : ((t204.length : Int) != (wrap64 (255 + t192))) = false := bne_eq_false_iff_eq.mpr c57
                              clear c57
                              replace H := Option.bind_eq_some_iff.mp H
                              obtain ⟨t222, A580, H⟩ := H
                              replace H : (some t222) = some true := H
                              have A58 := Aside0.mk A580
                              clear A580
                              obtain rfl := Option.some.inj H
                              have hnb59 := NB208_193.out
                              have hnc59 := NB193_208.out
                              have hnb60 := NB208_219.out
                              have hnc60 := NB219_208.out
                              have hcz61_0 : wc.cell? ⟨gb208, 0, none⟩ = some (.int .i64 t202) := (blk_cell BK208.out 0).trans rfl
                              have hcz61_1 : wc.cell? ⟨gb208, 1, none⟩ = some (.int .i64 t203) := (blk_cell BK208.out 1).trans rfl
                              have hcz61_2 : wc.cell? ⟨gb208, 2, none⟩ = some (.slice Ao30 t204.length co30) := (blk_cell BK208.out 2).trans rfl
                              have hfz61_0 := blk_frozen BK208.out 0
                              have hfz61_1 := blk_frozen BK208.out 1
                              have hfz61_2 := blk_frozen BK208.out 2
                              go_wp2_with (first | (go_at_call 9; (with_reducible refine (payrolllaw43_awake.calls kj41  true _ ?side1 A58.out).mono ?_); (case side1 => exact Tabs.below HT.out (by repeat (first | (with_reducible first | exact HB.out | apply below_alloc | apply pw_below_drewN | apply below_drew1 | refine below_set ?_ GE193.out | refine below_set ?_ GE208.out | refine below_set ?_ GE219.out) | exact HB.out))); rintro e w62 ⟨rfl, hb⟩; have n0_ := Aside0.mk (Kd.R_below (by (with_reducible repeat (first | apply Kd.R_alloc | apply Kd.R_drewN | apply Kd.R_drew)); exact HO_194002.out) hb); have n1_ := Aside0.mk (Kd.R_below (by (with_reducible repeat (first | apply Kd.R_alloc | apply Kd.R_drewN | apply Kd.R_drew)); exact HO_209002.out) hb); have n2_ := Aside0.mk (Kd.R_below (by (with_reducible repeat (first | apply Kd.R_alloc | apply Kd.R_drewN | apply Kd.R_drew)); exact HO_220002.out) hb); have n3_ := Aside0.mk (blk_below (g := gb193) (o := .cells #[.int .i64 0, .int .i64 1, .slice Ao24 x194002_1.length co24] 25 (0, 0)) (by (with_reducible repeat (first | refine blk_drewN ?_ _ | refine blk_drew ?_ | refine blk_alloc ?_ _)); exact BK193.out) hb); have n4_ := Aside0.mk (blk_below (g := gb208) (o := .cells #[.int .i64 t202, .int .i64 t203, .slice Ao30 t204.length co30] 25 (0, 0)) (by (with_reducible repeat (first | refine blk_drewN ?_ _ | refine blk_drew ?_ | refine blk_alloc ?_ _)); exact BK208.out) hb); have n5_ := Aside0.mk (blk_below (g := gb219) (o := .cells #[.int .i64 t213, .int .i64 t214, .slice Ao39 t215.length co39] 25 (0, 0)) (by (with_reducible repeat (first | refine blk_drewN ?_ _ | refine blk_drew ?_ | refine blk_alloc ?_ _)); exact BK219.out) hb); have n6_ := Aside0.mk (below_step (by repeat (first | (with_reducible first | exact HB.out | apply below_alloc | apply pw_below_drewN | apply below_drew1 | refine below_set ?_ GE193.out | refine below_set ?_ GE208.out | refine below_set ?_ GE219.out) | exact HB.out)) hb); clear HO_194002; clear HO_209002; clear HO_220002; clear BK193; clear BK208; clear BK219; clear HB; have HO_194002 := n0_; have HO_209002 := n1_; have HO_220002 := n2_; have BK193 := n3_; have BK208 := n4_; have BK219 := n5_; have HB := n6_; clear n0_ n1_ n2_ n3_ n4_ n5_ n6_; (try clear hb); (try clear hb2); (try clear hk); (try clear hi)))
                              go_ret
                              exact ⟨by first | rfl | (rw [HY.out] <;> rfl) | (simp [errW_none, errW_some] <;> rfl) | (simp only [← hji18]; first | rfl | (simp [errW_none, errW_some] <;> rfl)) | (simp [*, errW_none, errW_some] <;> rfl), by repeat (first | (with_reducible first | exact HB.out | apply below_alloc | apply pw_below_drewN | apply below_drew1 | refine below_set ?_ GE193.out | refine below_set ?_ GE208.out | refine below_set ?_ GE219.out) | exact HB.out)⟩
                            · rw [if_neg c57] at H
                              have c57b0 : ((t204.length : Int) == (wrap64 (255 + t192))) = false := beq_eq_false_iff_ne.mpr c57
                              have c57b1 : ((t204.length : Int) != (wrap64 (255 + t192))) = true := bne_iff_ne.mpr c57
                              exact absurd H (by simp)
                          · rw [if_neg c56] at H
                            have c56b0 : (t207 == 0) = false := beq_eq_false_iff_ne.mpr c56
                            have c56b1 : (t207 != 0) = true := bne_iff_ne.mpr c56
                            exact absurd H (by simp)
                        · rw [if_neg c55] at H
                          have c55b0 : (t201 == 0) = false := beq_eq_false_iff_ne.mpr c55
                          have c55b1 : (t201 != 0) = true := bne_iff_ne.mpr c55
                          exact absurd H (by simp)
          · rw [if_neg c20] at H
            exact absurd H (by simp)
        · rw [if_neg c19] at H
          exact absurd H (by simp)
end Go.Proofs.YtejgfblphgcgkaaDoor.P
