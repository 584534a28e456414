/- Texts for the law PayslipLimits (kept out of a larger one). -/
import Derived.Test.YtlanldccamphcaaDoorZPayslipLimits11
import Derived.Test.YtlanldccamphcaaDoorZPayslipLimits14
import Derived.Test.YtlanldccamphcaaDoorZPayslipLimits20
import Derived.Test.YtlanldccamphcaaDoorZPayslipLimits32
import Derived.Test.YtlanldccamphcaaDoorZPayslipLimits18
-- Written by a program of this session (wip/tools/xprint.py) out of the translation; Lean checks it.
namespace Go.Proofs.YtlanldccamphcaaDoor.P
open Go.RowKit Go.Proofs.YtlanldccamphcaaDoorW.PrintWords Go.Proofs.YtlanldccamphcaaDoorW.PrintLast Go.Proofs.YtlanldccamphcaaDoorW.PrintMore
attribute [local go_sem] max2_int min2_int max_two min_two max_three min_three max_four min_four   -- for this text's walks alone
set_option linter.unusedVariables false
set_option linter.unusedSimpArgs false

-- given by hand: function 22 (payslip_Format), in needs
def payrolllaw34_awake.f (k : Nat)  : Option (Bool) := (payslip_Compare.f k (([(⟨9, (⟨#[]⟩ : ByteArray), 100⟩ : S23), (⟨6, (⟨#[]⟩ : ByteArray), 20⟩ : S23)] : List (S23))) (([(⟨9, (⟨#[]⟩ : ByteArray), 90⟩ : S23), (⟨4, (⟨#[97]⟩ : ByteArray), 10⟩ : S23), (⟨6, (⟨#[]⟩ : ByteArray), 20⟩ : S23)] : List (S23)))).bind fun bt115 => ((payslip_Format.f k 7 12 0 0 0 0 0 (-5) ([] : List (S23))).bind fun bt119 => (if bt115.2 = 0 then (if (bt115.1.length : Int) = 2 then (if 0 < (bt115.1.length : Int) then (if ((rd_T23 bt115.1 0).f2) = 10 then (if 1 < (bt115.1.length : Int) then (if ((rd_T23 bt115.1 1).f2) = (-10) then (if bt119.2 = 0 then (some (bt119.1.toList == ([112, 97, 121, 115, 108, 105, 112, 32, 55, 32, 112, 101, 114, 105, 111, 100, 32, 49, 50, 10, 98, 97, 115, 101, 115, 32, 48, 32, 48, 32, 48, 32, 48, 32, 48, 32, 108, 101, 103, 97, 108, 32, 45, 53, 10, 101, 110, 100, 10] : List UInt8))) else (some false)) else (some false)) else (none)) else (some false)) else (none)) else (some false)) else (some false)))
set_option maxHeartbeats 8000000 in
set_option maxRecDepth 100000 in
theorem payrolllaw34_awake.calls (k : Nat)  (w : World) (hT : Tabs w) (h : payrolllaw34_awake.f k  = some true) :
    Calls Tryd.prog 8 #[] w fun e w' => e = .returned (.bool true) ∧ Below w.heap.size w w' := by
  have hu23 := Tryd.underlying23
  have hu50 := Tryd.underlying50
  have HB := Aside0.mk (Below.refl w.heap.size w)
  have HT := Aside0.mk hT
  clear hT
  have H : ((payslip_Compare.f k (([(⟨9, (⟨#[]⟩ : ByteArray), 100⟩ : S23), (⟨6, (⟨#[]⟩ : ByteArray), 20⟩ : S23)] : List (S23))) (([(⟨9, (⟨#[]⟩ : ByteArray), 90⟩ : S23), (⟨4, (⟨#[97]⟩ : ByteArray), 10⟩ : S23), (⟨6, (⟨#[]⟩ : ByteArray), 20⟩ : S23)] : List (S23)))).bind fun bt115 => ((payslip_Format.f k 7 12 0 0 0 0 0 (-5) ([] : List (S23))).bind fun bt119 => (if bt115.2 = 0 then (if (bt115.1.length : Int) = 2 then (if 0 < (bt115.1.length : Int) then (if ((rd_T23 bt115.1 0).f2) = 10 then (if 1 < (bt115.1.length : Int) then (if ((rd_T23 bt115.1 1).f2) = (-10) then (if bt119.2 = 0 then (some (bt119.1.toList == ([112, 97, 121, 115, 108, 105, 112, 32, 55, 32, 112, 101, 114, 105, 111, 100, 32, 49, 50, 10, 98, 97, 115, 101, 115, 32, 48, 32, 48, 32, 48, 32, 48, 32, 48, 32, 108, 101, 103, 97, 108, 32, 45, 53, 10, 101, 110, 100, 10] : List UInt8))) else (some false)) else (some false)) else (none)) else (some false)) else (none)) else (some false)) else (some false)))) = some true := h
  clear h
  obtain ⟨y109, hy109⟩ : ∃ y_ : List (S23), y_ = (([(⟨9, (⟨#[]⟩ : ByteArray), 100⟩ : S23), (⟨6, (⟨#[]⟩ : ByteArray), 20⟩ : S23)] : List (S23))) := ⟨_, rfl⟩
  replace H : ((payslip_Compare.f k y109 (([(⟨9, (⟨#[]⟩ : ByteArray), 90⟩ : S23), (⟨4, (⟨#[97]⟩ : ByteArray), 10⟩ : S23), (⟨6, (⟨#[]⟩ : ByteArray), 20⟩ : S23)] : List (S23)))).bind fun bt115 => ((payslip_Format.f k 7 12 0 0 0 0 0 (-5) ([] : List (S23))).bind fun bt119 => (if bt115.2 = 0 then (if (bt115.1.length : Int) = 2 then (if 0 < (bt115.1.length : Int) then (if ((rd_T23 bt115.1 0).f2) = 10 then (if 1 < (bt115.1.length : Int) then (if ((rd_T23 bt115.1 1).f2) = (-10) then (if bt119.2 = 0 then (some (bt119.1.toList == ([112, 97, 121, 115, 108, 105, 112, 32, 55, 32, 112, 101, 114, 105, 111, 100, 32, 49, 50, 10, 98, 97, 115, 101, 115, 32, 48, 32, 48, 32, 48, 32, 48, 32, 48, 32, 108, 101, 103, 97, 108, 32, 45, 53, 10, 101, 110, 100, 10] : List UInt8))) else (some false)) else (some false)) else (none)) else (some false)) else (none)) else (some false)) else (some false)))) = some true := by first | (rw [hy109]; with_reducible exact H) | (have H2_ := (Option.bind_some _ _).symm.trans H; rw [hy109]; with_reducible exact H2_) | (have H2_ := (Option.bind_some _ _).symm.trans H; with_reducible exact H2_) | with_reducible exact H | (rw [hy109]; exact H) | exact H
  have Ny109 := Aside0.mk hy109
  clear hy109
  obtain ⟨y112, hy112⟩ : ∃ y_ : List (S23), y_ = (([(⟨9, (⟨#[]⟩ : ByteArray), 90⟩ : S23), (⟨4, (⟨#[97]⟩ : ByteArray), 10⟩ : S23), (⟨6, (⟨#[]⟩ : ByteArray), 20⟩ : S23)] : List (S23))) := ⟨_, rfl⟩
  replace H : ((payslip_Compare.f k y109 y112).bind fun bt115 => ((payslip_Format.f k 7 12 0 0 0 0 0 (-5) ([] : List (S23))).bind fun bt119 => (if bt115.2 = 0 then (if (bt115.1.length : Int) = 2 then (if 0 < (bt115.1.length : Int) then (if ((rd_T23 bt115.1 0).f2) = 10 then (if 1 < (bt115.1.length : Int) then (if ((rd_T23 bt115.1 1).f2) = (-10) then (if bt119.2 = 0 then (some (bt119.1.toList == ([112, 97, 121, 115, 108, 105, 112, 32, 55, 32, 112, 101, 114, 105, 111, 100, 32, 49, 50, 10, 98, 97, 115, 101, 115, 32, 48, 32, 48, 32, 48, 32, 48, 32, 48, 32, 108, 101, 103, 97, 108, 32, 45, 53, 10, 101, 110, 100, 10] : List UInt8))) else (some false)) else (some false)) else (none)) else (some false)) else (none)) else (some false)) else (some false)))) = some true := by first | (rw [hy112]; with_reducible exact H) | (have H2_ := (Option.bind_some _ _).symm.trans H; rw [hy112]; with_reducible exact H2_) | (have H2_ := (Option.bind_some _ _).symm.trans H; with_reducible exact H2_) | with_reducible exact H | (rw [hy112]; exact H) | exact H
  have Ny112 := Aside0.mk hy112
  clear hy112
  replace H := Option.bind_eq_some_iff.mp H
  obtain ⟨⟨t115, t116⟩, A10, H⟩ := H
  replace H : ((payslip_Format.f k 7 12 0 0 0 0 0 (-5) ([] : List (S23))).bind fun bt119 => (if t116 = 0 then (if (t115.length : Int) = 2 then (if 0 < (t115.length : Int) then (if ((rd_T23 t115 0).f2) = 10 then (if 1 < (t115.length : Int) then (if ((rd_T23 t115 1).f2) = (-10) then (if bt119.2 = 0 then (some (bt119.1.toList == ([112, 97, 121, 115, 108, 105, 112, 32, 55, 32, 112, 101, 114, 105, 111, 100, 32, 49, 50, 10, 98, 97, 115, 101, 115, 32, 48, 32, 48, 32, 48, 32, 48, 32, 48, 32, 108, 101, 103, 97, 108, 32, 45, 53, 10, 101, 110, 100, 10] : List UInt8))) else (some false)) else (some false)) else (none)) else (some false)) else (none)) else (some false)) else (some false))) = some true := H
  have A1 := Aside0.mk A10
  clear A10
  replace H := Option.bind_eq_some_iff.mp H
  obtain ⟨⟨t119, t120⟩, A20, H⟩ := H
  replace H : (if t116 = 0 then (if (t115.length : Int) = 2 then (if 0 < (t115.length : Int) then (if ((rd_T23 t115 0).f2) = 10 then (if 1 < (t115.length : Int) then (if ((rd_T23 t115 1).f2) = (-10) then (if t120 = 0 then (some (t119.toList == ([112, 97, 121, 115, 108, 105, 112, 32, 55, 32, 112, 101, 114, 105, 111, 100, 32, 49, 50, 10, 98, 97, 115, 101, 115, 32, 48, 32, 48, 32, 48, 32, 48, 32, 48, 32, 108, 101, 103, 97, 108, 32, 45, 53, 10, 101, 110, 100, 10] : List UInt8))) else (some false)) else (some false)) else (none)) else (some false)) else (none)) else (some false)) else (some false)) = some true := H
  have A2 := Aside0.mk A20
  clear A20
  by_cases c3 : t116 = 0
  · rw [if_pos c3] at H
    have c3b0 : (t116 == 0) = true := beq_iff_eq.mpr c3
    have c3b1 : (t116 != 0) = false := bne_eq_false_iff_eq.mpr c3
    clear c3
    by_cases c4 : (t115.length : Int) = 2
    · rw [if_pos c4] at H
      have c4b0 : ((t115.length : Int) == 2) = true := beq_iff_eq.mpr c4
      have c4b1 : ((t115.length : Int) != 2) = false := bne_eq_false_iff_eq.mpr c4
      clear c4
      by_cases c5 : 0 < (t115.length : Int)
      · rw [if_pos c5] at H
        have c5b0 : decide (0 < (t115.length : Int)) = true := decide_eq_true c5
        have c5b1 : decide (0 < t115.length) = true := decide_eq_true (by omega)
        clear c5
        by_cases c6 : ((rd_T23 t115 0).f2) = 10
        · rw [if_pos c6] at H
          have c6b0 : (((rd_T23 t115 0).f2) == 10) = true := beq_iff_eq.mpr c6
          have c6b1 : (((rd_T23 t115 0).f2) != 10) = false := bne_eq_false_iff_eq.mpr c6
          clear c6
          by_cases c7 : 1 < (t115.length : Int)
          · rw [if_pos c7] at H
            have c7b0 : decide (1 < (t115.length : Int)) = true := decide_eq_true c7
            have c7b1 : decide (1 < t115.length) = true := decide_eq_true (by omega)
            clear c7
            by_cases c8 : ((rd_T23 t115 1).f2) = (-10)
            · rw [if_pos c8] at H
              have c8b0 : (((rd_T23 t115 1).f2) == (-10)) = true := beq_iff_eq.mpr c8
              have c8b1 : (((rd_T23 t115 1).f2) != (-10)) = false := bne_eq_false_iff_eq.mpr c8
              clear c8
              by_cases c9 : t120 = 0
              · rw [if_pos c9] at H
                have c9b0 : (t120 == 0) = true := beq_iff_eq.mpr c9
                have c9b1 : (t120 != 0) = false := bne_eq_false_iff_eq.mpr c9
                clear c9
                have HY := Aside0.mk (Option.some.inj H)
                clear H
                go_enter Tryd.func8, Tryd.ntmps8
                go_wp2_with (first | ((with_reducible refine gate_dst (N := 8) rfl ?_); (try (refine gate_guard (by rfl) ?_; dsimp only)); refine Kd.R_lit k23 _ 23 ?hg (N := 8) ?hd (xs := ([(⟨9, (⟨#[]⟩ : ByteArray), 100⟩ : S23), (⟨6, (⟨#[]⟩ : ByteArray), 20⟩ : S23)] : List (S23))) (inner := [.int .i64 9, .string (⟨#[]⟩ : ByteArray), .int .i64 100, .int .i64 6, .string (⟨#[]⟩ : ByteArray), .int .i64 20]) (ok := fun _ => True) (okp := fun _ => True) ?hr ?hp (fun _ hk => hk) trivial (Below.refl _ _) (Nat.le_refl _) (by simp) ?_; (case hd => rfl); (case hg => rfl); (case hr => first | (go_simp; done) | (go_simp; rfl)); (case hp => exact (Reps.c3 (show Kd.M k23 _ _ _ (⟨9, (⟨#[]⟩ : ByteArray), 100⟩ : S23) [.int .i64 9, .string (⟨#[]⟩ : ByteArray), .int .i64 100] from (k23_mkM _ _ _ (⟨9, (⟨#[]⟩ : ByteArray), 100⟩ : S23) )) (Reps.c3 (show Kd.M k23 _ _ _ (⟨6, (⟨#[]⟩ : ByteArray), 20⟩ : S23) [.int .i64 6, .string (⟨#[]⟩ : ByteArray), .int .i64 20] from (k23_mkM _ _ _ (⟨6, (⟨#[]⟩ : ByteArray), 20⟩ : S23) )) (Reps.none _ _)))); intro v110 w10 ho11 hb hg_ hnew_; clear hg_ hnew_; (first | rw [← Ny109.out] at ho11 | (simp only [Int.reduceToNat] at ho11; rw [← Ny109.out] at ho11)); have n0_ := Aside0.mk (Kd.R_lower ho11 (below_size (by repeat (first | (with_reducible first | exact HB.out | apply below_alloc | apply pw_below_drewN | apply below_drew1) | exact HB.out)))); have n1_ := Aside0.mk (below_step (by repeat (first | (with_reducible first | exact HB.out | apply below_alloc | apply pw_below_drewN | apply below_drew1) | exact HB.out)) hb); clear HB; have HO111 := n0_; have HB := n1_; clear n0_ n1_; clear hb ho11) | ((with_reducible refine gate_dst (N := 12) rfl ?_); (try (refine gate_guard (by rfl) ?_; dsimp only)); refine Kd.R_lit k23 _ 23 ?hg (N := 12) ?hd (xs := ([(⟨9, (⟨#[]⟩ : ByteArray), 90⟩ : S23), (⟨4, (⟨#[97]⟩ : ByteArray), 10⟩ : S23), (⟨6, (⟨#[]⟩ : ByteArray), 20⟩ : S23)] : List (S23))) (inner := [.int .i64 9, .string (⟨#[]⟩ : ByteArray), .int .i64 90, .int .i64 4, .string (⟨#[97]⟩ : ByteArray), .int .i64 10, .int .i64 6, .string (⟨#[]⟩ : ByteArray), .int .i64 20]) (ok := fun _ => True) (okp := fun _ => True) ?hr ?hp (fun _ hk => hk) trivial (Below.refl _ _) (Nat.le_refl _) (by simp) ?_; (case hd => rfl); (case hg => rfl); (case hr => first | (go_simp; done) | (go_simp; rfl)); (case hp => exact (Reps.c3 (show Kd.M k23 _ _ _ (⟨9, (⟨#[]⟩ : ByteArray), 90⟩ : S23) [.int .i64 9, .string (⟨#[]⟩ : ByteArray), .int .i64 90] from (k23_mkM _ _ _ (⟨9, (⟨#[]⟩ : ByteArray), 90⟩ : S23) )) (Reps.c3 (show Kd.M k23 _ _ _ (⟨4, (⟨#[97]⟩ : ByteArray), 10⟩ : S23) [.int .i64 4, .string (⟨#[97]⟩ : ByteArray), .int .i64 10] from (k23_mkM _ _ _ (⟨4, (⟨#[97]⟩ : ByteArray), 10⟩ : S23) )) (Reps.c3 (show Kd.M k23 _ _ _ (⟨6, (⟨#[]⟩ : ByteArray), 20⟩ : S23) [.int .i64 6, .string (⟨#[]⟩ : ByteArray), .int .i64 20] from (k23_mkM _ _ _ (⟨6, (⟨#[]⟩ : ByteArray), 20⟩ : S23) )) (Reps.none _ _))))); intro v113 w12 ho13 hb hg_ hnew_; clear hg_ hnew_; (first | rw [← Ny112.out] at ho13 | (simp only [Int.reduceToNat] at ho13; rw [← Ny112.out] at ho13)); have n0_ := Aside0.mk (Kd.R_elder' (by (with_reducible repeat (first | apply Kd.R_alloc | apply Kd.R_drewN | apply Kd.R_drew)); exact HO111.out) (Kd.R_base ho13) hb); have n1_ := Aside0.mk (Kd.R_lower (Kd.R_new' ho13 (Kd.R_lt (by (with_reducible repeat (first | apply Kd.R_alloc | apply Kd.R_drewN | apply Kd.R_drew)); exact HO111.out))) (below_size (by repeat (first | (with_reducible first | exact HB.out | apply below_alloc | apply pw_below_drewN | apply below_drew1) | exact HB.out)))); have n2_ := Aside0.mk (below_step (by repeat (first | (with_reducible first | exact HB.out | apply below_alloc | apply pw_below_drewN | apply below_drew1) | exact HB.out)) hb); clear HO111; clear HB; have HO111 := n0_; have HO114 := n1_; have HB := n2_; clear n0_ n1_ n2_; clear hb ho13; obtain ⟨Ao14, co14, eo14⟩ := Kd.R_slice HO111.out; subst eo14; obtain ⟨Ao15, co15, eo15⟩ := Kd.R_slice HO114.out; subst eo15) | ((with_reducible refine gate_callee (f := 17) rfl ?_); refine goesL_ (some 13) rfl rfl Tryd.func17 (by kernel_rfl) rfl #[.slice Ao14 y109.length co14, .slice Ao15 y112.length co15] rfl (by (try simp only [List.map_toArray, List.map_cons, List.map_nil]); first | done | rfl | (simp only [List.length_drop, List.length_take]; rfl)) ?_; (with_reducible refine (payslip_Compare.calls k _ _ y109 _ _ y112 t115 t116 _ ?side1 ?side2 ?side3 ?side4 A1.out).mono ?_); (case side1 => repeat (first | exact (Kd.R_reads' HO111.out).2.2 | (with_reducible refine Kd.C_alloc ?_ _) | (with_reducible refine Kd.C_drewN ?_ _) | (with_reducible refine Kd.C_drew ?_))); (case side2 => exact (Kd.R_reads' HO111.out).2.1); (case side3 => repeat (first | exact (Kd.R_reads' HO114.out).2.2 | (with_reducible refine Kd.C_alloc ?_ _) | (with_reducible refine Kd.C_drewN ?_ _) | (with_reducible refine Kd.C_drew ?_))); (case side4 => exact (Kd.R_reads' HO114.out).2.1); rintro e w16 ⟨v117, rfl, ho0, hb⟩; refine ⟨_, rfl, ?_⟩; have n0_ := Aside0.mk (Kd.R_elder' (by (with_reducible repeat (first | apply Kd.R_alloc | apply Kd.R_drewN | apply Kd.R_drew)); exact HO111.out) (Kd.R_base ho0) hb); have n1_ := Aside0.mk (Kd.R_elder' (by (with_reducible repeat (first | apply Kd.R_alloc | apply Kd.R_drewN | apply Kd.R_drew)); exact HO114.out) (Kd.R_base ho0) hb); have n2_ := Aside0.mk (Kd.R_lower (Kd.R_new' (Kd.R_new' ho0 (Kd.R_lt (by (with_reducible repeat (first | apply Kd.R_alloc | apply Kd.R_drewN | apply Kd.R_drew)); exact HO111.out))) (Kd.R_lt (by (with_reducible repeat (first | apply Kd.R_alloc | apply Kd.R_drewN | apply Kd.R_drew)); exact HO114.out))) (below_size (by repeat (first | (with_reducible first | exact HB.out | apply below_alloc | apply pw_below_drewN | apply below_drew1) | exact HB.out)))); have n3_ := Aside0.mk (below_step (by repeat (first | (with_reducible first | exact HB.out | apply below_alloc | apply pw_below_drewN | apply below_drew1) | exact HB.out)) hb); clear HO111; clear HO114; clear HB; have HO111 := n0_; have HO114 := n1_; have HO118 := n2_; have HB := n3_; clear n0_ n1_ n2_ n3_; (try clear hb); (try clear hb2); (try clear hk); (try clear hi); (try clear ho0)) | ((with_reducible refine gate_callee (f := 22) rfl ?_); refine goesL_ (some 18) rfl rfl Tryd.func22 (by kernel_rfl) rfl #[.int .i64 7, .int .i64 12, .agg #[.int .i64 0, .int .i64 0, .int .i64 0, .int .i64 0, .int .i64 0, .int .i64 (-5), .slice none 0 0]] rfl (by (try simp only [List.map_toArray, List.map_cons, List.map_nil]); first | done | rfl | (simp only [List.length_drop, List.length_take]; rfl)) ?_; (refine (payslip_Format.calls k 7 12 0 0 0 0 0 (-5) _ _ ([] : List (S23)) t119 t120 _ ?side1 ?side2 ?side3 A2.out).mono ?_); (case side1 => exact Kd.C_nil _ _); (case side2 => exact Nat.le_refl _); (case side3 => exact Tabs.below HT.out (by repeat (first | (with_reducible first | exact HB.out | apply below_alloc | apply pw_below_drewN | apply below_drew1) | exact HB.out))); rintro e w17 ⟨rfl, hb⟩; refine ⟨_, rfl, ?_⟩; have n0_ := Aside0.mk (Kd.R_below (by (with_reducible repeat (first | apply Kd.R_alloc | apply Kd.R_drewN | apply Kd.R_drew)); exact HO111.out) hb); have n1_ := Aside0.mk (Kd.R_below (by (with_reducible repeat (first | apply Kd.R_alloc | apply Kd.R_drewN | apply Kd.R_drew)); exact HO114.out) hb); have n2_ := Aside0.mk (Kd.R_below (by (with_reducible repeat (first | apply Kd.R_alloc | apply Kd.R_drewN | apply Kd.R_drew)); exact HO118.out) hb); have n3_ := Aside0.mk (below_step (by repeat (first | (with_reducible first | exact HB.out | apply below_alloc | apply pw_below_drewN | apply below_drew1) | exact HB.out)) hb); clear HO111; clear HO114; clear HO118; clear HB; have HO111 := n0_; have HO114 := n1_; have HO118 := n2_; have HB := n3_; clear n0_ n1_ n2_ n3_; (try clear hb); (try clear hb2); (try clear hk); (try clear hi); obtain ⟨Ao18, co18, eo18⟩ := Kd.R_slice HO118.out; subst eo18; have p121 : 0 ≤ (0 : Int) := (by omega); have q121 : 0 < (t115.length : Int) := of_decide_eq_true (by first | (with_reducible assumption) | assumption); obtain ⟨ad121, e121, hx121_0, hx121_1, hx121_2⟩ := at_T23 (Kd.R_reads' HO118.out).2.2 0 p121 q121; cases e121; have qi121 : (0 < t115.length) = True := eq_true (by omega); (try rw [show ((0 : Int)).toNat = 0 from rfl] at hx121_0); (try rw [show 0 * 3 = 0 from rfl] at hx121_0); (try rw [Addr.add_zero'] at hx121_0); (try rw [show ((0 : Int)).toNat = 0 from rfl] at hx121_1); (try rw [show 0 * 3 = 0 from rfl] at hx121_1); (try rw [Addr.add_zero'] at hx121_1); (try rw [show ((0 : Int)).toNat = 0 from rfl] at hx121_2); (try rw [show 0 * 3 = 0 from rfl] at hx121_2); (try rw [Addr.add_zero'] at hx121_2); replace p121 := eq_true p121; replace q121 := eq_true q121; have p122 : 0 ≤ (1 : Int) := (by omega); have q122 : 1 < (t115.length : Int) := of_decide_eq_true (by first | (with_reducible assumption) | assumption); obtain ⟨ad122, e122, hx122_0, hx122_1, hx122_2⟩ := at_T23 (Kd.R_reads' HO118.out).2.2 1 p122 q122; obtain rfl : ad121 = ad122 := (by injection e122); (try simp only [show (1 : Int).toNat = 1 from rfl, Nat.reduceMul, Nat.reduceEqDiff, Go.Addr.add, ↓reduceIte] at hx122_0); (try simp only [show (1 : Int).toNat = 1 from rfl, Nat.reduceMul, Nat.reduceEqDiff, Go.Addr.add, ↓reduceIte] at hx122_1); (try simp only [show (1 : Int).toNat = 1 from rfl, Nat.reduceMul, Nat.reduceEqDiff, Go.Addr.add, ↓reduceIte] at hx122_2); have qi122 : (1 < t115.length) = True := eq_true (by omega); (try rw [show ((1 : Int)).toNat = 1 from rfl] at hx122_0); (try rw [show 1 * 3 = 3 from rfl] at hx122_0); (try rw [show ((1 : Int)).toNat = 1 from rfl] at hx122_1); (try rw [show 1 * 3 = 3 from rfl] at hx122_1); (try rw [show ((1 : Int)).toNat = 1 from rfl] at hx122_2); (try rw [show 1 * 3 = 3 from rfl] at hx122_2); replace p122 := eq_true p122; replace q122 := eq_true q122))
                go_ret
                exact ⟨by first | rfl | (rw [HY.out] <;> rfl) | (simp [errW_none, errW_some] <;> rfl) | (simp [*, errW_none, errW_some] <;> rfl), by repeat (first | (with_reducible first | exact HB.out | apply below_alloc | apply pw_below_drewN | apply below_drew1) | exact HB.out)⟩
              · rw [if_neg c9] at H
                have c9b0 : (t120 == 0) = false := beq_eq_false_iff_ne.mpr c9
                have c9b1 : (t120 != 0) = true := bne_iff_ne.mpr c9
                exact absurd H (by simp)
            · rw [if_neg c8] at H
              have c8b0 : (((rd_T23 t115 1).f2) == (-10)) = false := beq_eq_false_iff_ne.mpr c8
              have c8b1 : (((rd_T23 t115 1).f2) != (-10)) = true := bne_iff_ne.mpr c8
              exact absurd H (by simp)
          · rw [if_neg c7] at H
            exact absurd H (by simp)
        · rw [if_neg c6] at H
          have c6b0 : (((rd_T23 t115 0).f2) == 10) = false := beq_eq_false_iff_ne.mpr c6
          have c6b1 : (((rd_T23 t115 0).f2) != 10) = true := bne_iff_ne.mpr c6
          exact absurd H (by simp)
      · rw [if_neg c5] at H
        exact absurd H (by simp)
    · rw [if_neg c4] at H
      have c4b0 : ((t115.length : Int) == 2) = false := beq_eq_false_iff_ne.mpr c4
      have c4b1 : ((t115.length : Int) != 2) = true := bne_iff_ne.mpr c4
      exact absurd H (by simp)
  · rw [if_neg c3] at H
    have c3b0 : (t116 == 0) = false := beq_eq_false_iff_ne.mpr c3
    have c3b1 : (t116 != 0) = true := bne_iff_ne.mpr c3
    exact absurd H (by simp)
def paygen_Mod.f (a0 : Int) (a1 : Int) : Option (Int) := if a1 = 0 then (none) else (if (Int.tmod a0 a1) < 0 then (some (wrap64 ((Int.tmod a0 a1) + a1))) else (some (Int.tmod a0 a1)))
set_option maxHeartbeats 8000000 in
set_option maxRecDepth 100000 in
theorem paygen_Mod.calls (a0 : Int) (a1 : Int) (r : Int) (w : World) (h : paygen_Mod.f a0 a1 = some r) :
    Calls Tryd.prog 11 #[.int .i64 a0, .int .i64 a1] w fun e w' => e = .returned (.int .i64 r) ∧ Drawn0 w w' := by
  have H : (if a1 = 0 then (none) else (if (Int.tmod a0 a1) < 0 then (some (wrap64 ((Int.tmod a0 a1) + a1))) else (some (Int.tmod a0 a1)))) = some r := h
  clear h
  by_cases c3 : a1 = 0
  · rw [if_pos c3] at H
    exact absurd H (by simp)
  · rw [if_neg c3] at H
    have c3b0 : (a1 == 0) = false := beq_eq_false_iff_ne.mpr c3
    have c3b1 : (a1 != 0) = true := bne_iff_ne.mpr c3
    by_cases c4 : (Int.tmod a0 a1) < 0
    · rw [if_pos c4] at H
      have c4b0 : decide ((Int.tmod a0 a1) < 0) = true := decide_eq_true c4
      clear c4
      obtain rfl := Option.some.inj H
      go_enter Tryd.func11, Tryd.ntmps11
      go_wp2
      go_ret
      exact ⟨by first | rfl | (simp; done) | (simp [*]; done), by repeat (first | exact Drawn0.refl _ | apply Drawn0.step)⟩
    · rw [if_neg c4] at H
      have c4b0 : decide ((Int.tmod a0 a1) < 0) = false := decide_eq_false c4
      clear c4
      obtain rfl := Option.some.inj H
      go_enter Tryd.func11, Tryd.ntmps11
      go_wp2
      go_ret
      exact ⟨by first | rfl | (simp; done) | (simp [*]; done), by repeat (first | exact Drawn0.refl _ | apply Drawn0.step)⟩
end Go.Proofs.YtlanldccamphcaaDoor.P
