/- Texts for the law PayslipForms (kept out of a larger one). -/
import Derived.Test.YtlanldccamphcaaDoorZPayslipForms11
import Derived.Test.YtlanldccamphcaaDoorZPayslipForms14
import Derived.Test.YtlanldccamphcaaDoorZPayslipForms20
import Derived.Test.YtlanldccamphcaaDoorZPayslipForms32
import Derived.Test.YtlanldccamphcaaDoorZPayslipForms18
-- Written by a program of this session (wip/tools/xprint.py) out of the translation; Lean checks it.
namespace Go.Proofs.YtlanldccamphcaaDoor.P
open Go.RowKit Go.Proofs.YtlanldccamphcaaDoorW.PrintWords Go.Proofs.YtlanldccamphcaaDoorW.PrintLast Go.Proofs.YtlanldccamphcaaDoorW.PrintMore
attribute [local go_sem] max2_int min2_int max_two min_two max_three min_three max_four min_four   -- for this text's walks alone
set_option linter.unusedVariables false
set_option linter.unusedSimpArgs false

-- given by hand: function 22 (payslip_Format), in needs
def payrolllaw34_awake.f (k : Nat)  : Option (Bool) := (payslip_Compare.f k (([(⟨9, (⟨#[]⟩ : ByteArray), 100⟩ : S23), (⟨6, (⟨#[]⟩ : ByteArray), 20⟩ : S23)] : List (S23))) (([(⟨9, (⟨#[]⟩ : ByteArray), 90⟩ : S23), (⟨4, (⟨#[97]⟩ : ByteArray), 10⟩ : S23), (⟨6, (⟨#[]⟩ : ByteArray), 20⟩ : S23)] : List (S23)))).bind fun bt115 => ((payslip_Format.f k 7 12 0 0 0 0 0 (-5) ([] : List (S23))).bind fun bt119 => (if bt115.2 = 0 then (if (bt115.1.length : Int) = 2 then (if 0 < (bt115.1.length : Int) then (if ((rd_T23 bt115.1 0).f2) = 10 then (if 1 < (bt115.1.length : Int) then (if ((rd_T23 bt115.1 1).f2) = (-10) then (if bt119.2 = 0 then (some (bt119.1.toList == ([112, 97, 121, 115, 108, 105, 112, 32, 55, 32, 112, 101, 114, 105, 111, 100, 32, 49, 50, 10, 98, 97, 115, 101, 115, 32, 48, 32, 48, 32, 48, 32, 48, 32, 48, 32, 108, 101, 103, 97, 108, 32, 45, 53, 10, 101, 110, 100, 10] : List UInt8))) else (some false)) else (some false)) else (none)) else (some false)) else (none)) else (some false)) else (some false)))
set_option maxHeartbeats 8000000 in
set_option maxRecDepth 100000 in
theorem payrolllaw34_awake.calls (k : Nat)  (w : World) (hT : Tabs w) (h : payrolllaw34_awake.f k  = some true) :
    Calls Tryd.prog 8 #[] w fun e w' => e = .returned (.bool true) ∧ Below w.heap.size w w' := by
  have hu23 := Tryd.underlying23
  have hu50 := Tryd.underlying50
  have HB := Aside0.mk (Below.refl w.heap.size w)
  have HT := Aside0.mk hT
  clear hT
  have H : ((payslip_Compare.f k (([(⟨9, (⟨#[]⟩ : ByteArray), 100⟩ : S23), (⟨6, (⟨#[]⟩ : ByteArray), 20⟩ : S23)] : List (S23))) (([(⟨9, (⟨#[]⟩ : ByteArray), 90⟩ : S23), (⟨4, (⟨#[97]⟩ : ByteArray), 10⟩ : S23), (⟨6, (⟨#[]⟩ : ByteArray), 20⟩ : S23)] : List (S23)))).bind fun bt115 => ((payslip_Format.f k 7 12 0 0 0 0 0 (-5) ([] : List (S23))).bind fun bt119 => (if bt115.2 = 0 then (if (bt115.1.length : Int) = 2 then (if 0 < (bt115.1.length : Int) then (if ((rd_T23 bt115.1 0).f2) = 10 then (if 1 < (bt115.1.length : Int) then (if ((rd_T23 bt115.1 1).f2) = (-10) then (if bt119.2 = 0 then (some (bt119.1.toList == ([112, 97, 121, 115, 108, 105, 112, 32, 55, 32, 112, 101, 114, 105, 111, 100, 32, 49, 50, 10, 98, 97, 115, 101, 115, 32, 48, 32, 48, 32, 48, 32, 48, 32, 48, 32, 108, 101, 103, 97, 108, 32, 45, 53, 10, 101, 110, 100, 10] : List UInt8))) else (some false)) else (some false)) else (none)) else (some false)) else (none)) else (some false)) else (some false)))) = some true := h
  clear h
  obtain ⟨y109, hy109⟩ : ∃ y_ : List (S23), y_ = (([(⟨9, (⟨#[]⟩ : ByteArray), 100⟩ : S23), (⟨6, (⟨#[]⟩ : ByteArray), 20⟩ : S23)] : List (S23))) := ⟨_, rfl⟩
  replace H : ((payslip_Compare.f k y109 (([(⟨9, (⟨#[]⟩ : ByteArray), 90⟩ : S23), (⟨4, (⟨#[97]⟩ : ByteArray), 10⟩ : S23), (⟨6, (⟨#[]⟩ : ByteArray), 20⟩ : S23)] : List (S23)))).bind fun bt115 => ((payslip_Format.f k 7 12 0 0 0 0 0 (-5) ([] : List (S23))).bind fun bt119 => (if bt115.2 = 0 then (if (bt115.1.length : Int) = 2 then (if 0 < (bt115.1.length : Int) then (if ((rd_T23 bt115.1 0).f2) = 10 then (if 1 < (bt115.1.length : Int) then (if ((rd_T23 bt115.1 1).f2) = (-10) then (if bt119.2 = 0 then (some (bt119.1.toList == ([112, 97, 121, 115, 108, 105, 112, 32, 55, 32, 112, 101, 114, 105, 111, 100, 32, 49, 50, 10, 98, 97, 115, 101, 115, 32, 48, 32, 48, 32, 48, 32, 48, 32, 48, 32, 108, 101, 103, 97, 108, 32, 45, 53, 10, 101, 110, 100, 10] : List UInt8))) else (some false)) else (some false)) else (none)) else (some false)) else (none)) else (some false)) else (some false)))) = some true := by first | (rw [hy109]; with_reducible exact H) | (have H2_ := (Option.bind_some _ _).symm.trans H; rw [hy109]; with_reducible exact H2_) | (have H2_ := (Option.bind_some _ _).symm.trans H; with_reducible exact H2_) | with_reducible exact H | (rw [hy109]; exact H) | exact H
  have Ny109 := Aside0.mk hy109
  clear hy109
  obtain ⟨y112, hy112⟩ : ∃ y_ : List (S23), y_ = (([(⟨9, (⟨#[]⟩ : ByteArray), 90⟩ : S23), (⟨4, (⟨#[97]⟩ : ByteArray), 10⟩ : S23), (⟨6, (⟨#[]⟩ : ByteArray), 20⟩ : S23)] : List (S23))) := ⟨_, rfl⟩
  replace H : ((payslip_Compare.f k y109 y112).bind fun bt115 => ((payslip_Format.f k 7 12 0 0 0 0 0 (-5) ([] : List (S23))).bind fun bt119 => (if bt115.2 = 0 then (if (bt115.1.length : Int) = 2 then (if 0 < (bt115.1.length : Int) then (if ((rd_T23 bt115.1 0).f2) = 10 then (if 1 < (bt115.1.length : Int) then (if ((rd_T23 bt115.1 1).f2) = (-10) then (if bt119.2 = 0 then (some (bt119.1.toList == ([112, 97, 121, 115, 108, 105, 112, 32, 55, 32, 112, 101, 114, 105, 111, 100, 32, 49, 50, 10, 98, 97, 115, 101, 115, 32, 48, 32, 48, 32, 48, 32, 48, 32, 48, 32, 108, 101, 103, 97, 108, 32, 45, 53, 10, 101, 110, 100, 10] : List UInt8))) else (some false)) else (some false)) else (none)) else (some false)) else (none)) else (some false)) else (some false)))) = some true := by first | (rw [hy112]; with_reducible exact H) | (have H2_ := (Option.bind_some _ _).symm.trans H; rw [hy112]; with_reducible exact H2_) | (have H2_ := (Option.bind_some _ _).symm.trans H; with_reducible exact H2_) | with_reducible exact H | (rw [hy112]; exact H) | exact H
  have Ny112 := Aside0.mk hy112
  clear hy112
  replace H := Option.bind_eq_some_iff.mp H
  obtain ⟨⟨t115, t116⟩, A10, H⟩ := H
  replace H : ((payslip_Format.f k 7 12 0 0 0 0 0 (-5) ([] : List (S23))).bind fun bt119 => (if t116 = 0 then (if (t115.length : Int) = 2 then (if 0 < (t115.length : Int) then (if ((rd_T23 t115 0).f2) = 10 then (if 1 < (t115.length : Int) then (if ((rd_T23 t115 1).f2) = (-10) then (if bt119.2 = 0 then (some (bt119.1.toList == ([112, 97, 121, 115, 108, 105, 112, 32, 55, 32, 112, 101, 114, 105, 111, 100, 32, 49, 50, 10, 98, 97, 115, 101, 115, 32, 48, 32, 48, 32, 48, 32, 48, 32, 48, 32, 108, 101, 103, 97, 108, 32, 45, 53, 10, 101, 110, 100, 10] : List UInt8))) else (some false)) else (some false)) else (none)) else (some false)) else (none)) else (some false)) else (some false))) = some true := H
  have A1 := Aside0.mk A10
  clear A10
  replace H := Option.bind_eq_some_iff.mp H
  obtain ⟨⟨t119, t120⟩, A20, H⟩ := H
  replace H : (if t116 = 0 then (if (t115.length : Int) = 2 then (if 0 < (t115.length : Int) then (if ((rd_T23 t115 0).f2) = 10 then (if 1 < (t115.length : Int) then (if ((rd_T23 t115 1).f2) = (-10) then (if t120 = 0 then (some (t119.toList == ([112, 97, 121, 115, 108, 105, 112, 32, 55, 32, 112, 101, 114, 105, 111, 100, 32, 49, 50, 10, 98, 97, 115, 101, 115, 32, 48, 32, 48, 32, 48, 32, 48, 32, 48, 32, 108, 101, 103, 97, 108, 32, 45, 53, 10, 101, 110, 100, 10] : List UInt8))) else (some false)) else (some false)) else (none)) else (some false)) else (none)) else (some false)) else (some false)) = some true := H
  have A2 := Aside0.mk A20
  clear A20
  by_cases c3 : t116 = 0
  · rw [if_pos c3] at H
    have c3b0 : (t116 == 0) = true := beq_iff_eq.mpr c3
    have c3b1 : (t116 != 0) = false := bne_eq_false_iff_eq.mpr c3
    clear c3
    by_cases c4 : (t115.length : Int) = 2
    · rw [if_pos c4] at H
      have c4b0 : ((t115.length : Int) == 2) = true := beq_iff_eq.mpr c4
      have c4b1 : ((t115.length : Int) != 2) = false := bne_eq_false_iff_eq.mpr c4
      clear c4
      by_cases c5 : 0 < (t115.length : Int)
      · rw [if_pos c5] at H
        have c5b0 : decide (0 < (t115.length : Int)) = true := decide_eq_true c5
        have c5b1 : decide (0 < t115.length) = true := decide_eq_true (by omega)
        clear c5
        by_cases c6 : ((rd_T23 t115 0).f2) = 10
        · rw [if_pos c6] at H
          have c6b0 : (((rd_T23 t115 0).f2) == 10) = true := beq_iff_eq.mpr c6
          have c6b1 : (((rd_T23 t115 0).f2) != 10) = false := bne_eq_false_iff_eq.mpr c6
          clear c6
          by_cases c7 : 1 < (t115.length : Int)
          · rw [if_pos c7] at H
            have c7b0 : decide (1 < (t115.length : Int)) = true := decide_eq_true c7
            have c7b1 : decide (1 < t115.length) = true := decide_eq_true (by omega)
            clear c7
            by_cases c8 : ((rd_T23 t115 1).f2) = (-10)
            · rw [if_pos c8] at H
              have c8b0 : (((rd_T23 t115 1).f2) == (-10)) = true := beq_iff_eq.mpr c8
              have c8b1 : (((rd_T23 t115 1).f2) != (-10)) = false := bne_eq_false_iff_eq.mpr c8
              clear c8
              by_cases c9 : t120 = 0
              · rw [if_pos c9] at H
                have c9b0 : (t120 == 0) = true := beq_iff_eq.mpr c9
                have c9b1 : (t120 != 0) = false := bne_eq_false_iff_eq.mpr c9
                clear c9
                have HY := Aside0.mk (Option.some.inj H)
                clear H
                go_enter Tryd.func8, Tryd.ntmps8
                go_wp2_with (first | ((with_reducible refine gate_dst (N := 8) rfl ?_); (try (refine gate_guard (by rfl) ?_; dsimp only)); refine Kd.R_lit k23 _ 23 ?hg (N := 8) ?hd (xs := ([(⟨9, (⟨#[]⟩ : ByteArray), 100⟩ : S23), (⟨6, (⟨#[]⟩ : ByteArray), 20⟩ : S23)] : List (S23))) (inner := [.int .i64 9, .string (⟨#[]⟩ : ByteArray), .int .i64 100, .int .i64 6, .string (⟨#[]⟩ : ByteArray), .int .i64 20]) (ok := fun _ => True) (okp := fun _ => True) ?hr ?hp (fun _ hk => hk) trivial (Below.refl _ _) (Nat.le_refl _) (by simp) ?_; (case hd => rfl); (case hg => rfl); (case hr => first | (go_simp; done) | (go_simp; rfl)); (case hp => exact (Reps.c3 (show Kd.M k23 _ _ _ (⟨9, (⟨#[]⟩ : ByteArray), 100⟩ : S23) [.int .i64 9, .string (⟨#[]⟩ : ByteArray), .int .i64 100] from (k23_mkM _ _ _ (⟨9, (⟨#[]⟩ : ByteArray), 100⟩ : S23) )) (Reps.c3 (show Kd.M k23 _ _ _ (⟨6, (⟨#[]⟩ : ByteArray), 20⟩ : S23) [.int .i64 6, .string (⟨#[]⟩ : ByteArray), .int .i64 20] from (k23_mkM _ _ _ (⟨6, (⟨#[]⟩ : ByteArray), 20⟩ : S23) )) (Reps.none _ _)))); intro v110 w10 ho11 hb hg_ hnew_; clear hg_ hnew_; (first | rw [← Ny109.out] at ho11 | (simp only [Int.reduceToNat] at ho11; rw [← Ny109.out] at ho11)); have n0_ := Aside0.mk (Kd.R_lower ho11 (below_size (by repeat (first | (with_reducible first | exact HB.out | apply below_alloc | apply pw_below_drewN | apply below_drew1) | exact HB.out)))); have n1_ := Aside0.mk (below_step (by repeat (first | (with_reducible first | exact HB.out | apply below_alloc | apply pw_below_drewN | apply below_drew1) | exact HB.out)) hb); clear HB; have HO111 := n0_; have HB := n1_; clear n0_ n1_; clear hb ho11) | ((with_reducible refine gate_dst (N := 12) rfl ?_); (try (refine gate_guard (by rfl) ?_; dsimp only)); refine Kd.R_lit k23 _ 23 ?hg (N := 12) ?hd (xs := ([(⟨9, (⟨#[]⟩ : ByteArray), 90⟩ : S23), (⟨4, (⟨#[97]⟩ : ByteArray), 10⟩ : S23), (⟨6, (⟨#[]⟩ : ByteArray), 20⟩ : S23)] : List (S23))) (inner := [.int .i64 9, .string (⟨#[]⟩ : ByteArray), .int .i64 90, .int .i64 4, .string (⟨#[97]⟩ : ByteArray), .int .i64 10, .int .i64 6, .string (⟨#[]⟩ : ByteArray), .int .i64 20]) (ok := fun _ => True) (okp := fun _ => True) ?hr ?hp (fun _ hk => hk) trivial (Below.refl _ _) (Nat.le_refl _) (by simp) ?_; (case hd => rfl); (case hg => rfl); (case hr => first | (go_simp; done) | (go_simp; rfl)); (case hp => exact (Reps.c3 (show Kd.M k23 _ _ _ (⟨9, (⟨#[]⟩ : ByteArray), 90⟩ : S23) [.int .i64 9, .string (⟨#[]⟩ : ByteArray), .int .i64 90] from (k23_mkM _ _ _ (⟨9, (⟨#[]⟩ : ByteArray), 90⟩ : S23) )) (Reps.c3 (show Kd.M k23 _ _ _ (⟨4, (⟨#[97]⟩ : ByteArray), 10⟩ : S23) [.int .i64 4, .string (⟨#[97]⟩ : ByteArray), .int .i64 10] from (k23_mkM _ _ _ (⟨4, (⟨#[97]⟩ : ByteArray), 10⟩ : S23) )) (Reps.c3 (show Kd.M k23 _ _ _ (⟨6, (⟨#[]⟩ : ByteArray), 20⟩ : S23) [.int .i64 6, .string (⟨#[]⟩ : ByteArray), .int .i64 20] from (k23_mkM _ _ _ (⟨6, (⟨#[]⟩ : ByteArray), 20⟩ : S23) )) (Reps.none _ _))))); intro v113 w12 ho13 hb hg_ hnew_; clear hg_ hnew_; (first | rw [← Ny112.out] at ho13 | (simp only [Int.reduceToNat] at ho13; rw [← Ny112.out] at ho13)); have n0_ := Aside0.mk (Kd.R_elder' (by (with_reducible repeat (first | apply Kd.R_alloc | apply Kd.R_drewN | apply Kd.R_drew)); exact HO111.out) (Kd.R_base ho13) hb); have n1_ := Aside0.mk (Kd.R_lower (Kd.R_new' ho13 (Kd.R_lt (by (with_reducible repeat (first | apply Kd.R_alloc | apply Kd.R_drewN | apply Kd.R_drew)); exact HO111.out))) (below_size (by repeat (first | (with_reducible first | exact HB.out | apply below_alloc | apply pw_below_drewN | apply below_drew1) | exact HB.out)))); have n2_ := Aside0.mk (below_step (by repeat (first | (with_reducible first | exact HB.out | apply below_alloc | apply pw_below_drewN | apply below_drew1) | exact HB.out)) hb); clear HO111; clear HB; have HO111 := n0_; have HO114 := n1_; have HB := n2_; clear n0_ n1_ n2_; clear hb ho13; obtain ⟨Ao14, co14, eo14⟩ := Kd.R_slice HO111.out; subst eo14; obtain ⟨Ao15, co15, eo15⟩ := Kd.R_slice HO114.out; subst eo15) | ((with_reducible refine gate_callee (f := 17) rfl ?_); refine goesL_ (some 13) rfl rfl Tryd.func17 (by kernel_rfl) rfl #[.slice Ao14 y109.length co14, .slice Ao15 y112.length co15] rfl (by (try simp only [List.map_toArray, List.map_cons, List.map_nil]); first | done | rfl | (simp only [List.length_drop, List.length_take]; rfl)) ?_; (with_reducible refine (payslip_Compare.calls k _ _ y109 _ _ y112 t115 t116 _ ?side1 ?side2 ?side3 ?side4 A1.out).mono ?_); (case side1 => repeat (first | exact (Kd.R_reads' HO111.out).2.2 | (with_reducible refine Kd.C_alloc ?_ _) | (with_reducible refine Kd.C_drewN ?_ _) | (with_reducible refine Kd.C_drew ?_))); (case side2 => exact (Kd.R_reads' HO111.out).2.1); (case side3 => repeat (first | exact (Kd.R_reads' HO114.out).2.2 | (with_reducible refine Kd.C_alloc ?_ _) | (with_reducible refine Kd.C_drewN ?_ _) | (with_reducible refine Kd.C_drew ?_))); (case side4 => exact (Kd.R_reads' HO114.out).2.1); rintro e w16 ⟨v117, rfl, ho0, hb⟩; refine ⟨_, rfl, ?_⟩; have n0_ := Aside0.mk (Kd.R_elder' (by (with_reducible repeat (first | apply Kd.R_alloc | apply Kd.R_drewN | apply Kd.R_drew)); exact HO111.out) (Kd.R_base ho0) hb); have n1_ := Aside0.mk (Kd.R_elder' (by (with_reducible repeat (first | apply Kd.R_alloc | apply Kd.R_drewN | apply Kd.R_drew)); exact HO114.out) (Kd.R_base ho0) hb); have n2_ := Aside0.mk (Kd.R_lower (Kd.R_new' (Kd.R_new' ho0 (Kd.R_lt (by (with_reducible repeat (first | apply Kd.R_alloc | apply Kd.R_drewN | apply Kd.R_drew)); exact HO111.out))) (Kd.R_lt (by (with_reducible repeat (first | apply Kd.R_alloc | apply Kd.R_drewN | apply Kd.R_drew)); exact HO114.out))) (below_size (by repeat (first | (with_reducible first | exact HB.out | apply below_alloc | apply pw_below_drewN | apply below_drew1) | exact HB.out)))); have n3_ := Aside0.mk (below_step (by repeat (first | (with_reducible first | exact HB.out | apply below_alloc | apply pw_below_drewN | apply below_drew1) | exact HB.out)) hb); clear HO111; clear HO114; clear HB; have HO111 := n0_; have HO114 := n1_; have HO118 := n2_; have HB := n3_; clear n0_ n1_ n2_ n3_; (try clear hb); (try clear hb2); (try clear hk); (try clear hi); (try clear ho0)) | ((with_reducible refine gate_callee (f := 22) rfl ?_); refine goesL_ (some 18) rfl rfl Tryd.func22 (by kernel_rfl) rfl #[.int .i64 7, .int .i64 12, .agg #[.int .i64 0, .int .i64 0, .int .i64 0, .int .i64 0, .int .i64 0, .int .i64 (-5), .slice none 0 0]] rfl (by (try simp only [List.map_toArray, List.map_cons, List.map_nil]); first | done | rfl | (simp only [List.length_drop, List.length_take]; rfl)) ?_; (refine (payslip_Format.calls k 7 12 0 0 0 0 0 (-5) _ _ ([] : List (S23)) t119 t120 _ ?side1 ?side2 ?side3 A2.out).mono ?_); (case side1 => exact Kd.C_nil _ _); (case side2 => exact Nat.le_refl _); (case side3 => exact Tabs.below HT.out (by repeat (first | (with_reducible first | exact HB.out | apply below_alloc | apply pw_below_drewN | apply below_drew1) | exact HB.out))); rintro e w17 ⟨rfl, hb⟩; refine ⟨_, rfl, ?_⟩; have n0_ := Aside0.mk (Kd.R_below (by (with_reducible repeat (first | apply Kd.R_alloc | apply Kd.R_drewN | apply Kd.R_drew)); exact HO111.out) hb); have n1_ := Aside0.mk (Kd.R_below (by (with_reducible repeat (first | apply Kd.R_alloc | apply Kd.R_drewN | apply Kd.R_drew)); exact HO114.out) hb); have n2_ := Aside0.mk (Kd.R_below (by (with_reducible repeat (first | apply Kd.R_alloc | apply Kd.R_drewN | apply Kd.R_drew)); exact HO118.out) hb); have n3_ := Aside0.mk (below_step (by repeat (first | (with_reducible first | exact HB.out | apply below_alloc | apply pw_below_drewN | apply below_drew1) | exact HB.out)) hb); clear HO111; clear HO114; clear HO118; clear HB; have HO111 := n0_; have HO114 := n1_; have HO118 := n2_; have HB := n3_; clear n0_ n1_ n2_ n3_; (try clear hb); (try clear hb2); (try clear hk); (try clear hi); obtain ⟨Ao18, co18, eo18⟩ := Kd.R_slice HO118.out; subst eo18; have p121 : 0 ≤ (0 : Int) := (by omega); have q121 : 0 < (t115.length : Int) := of_decide_eq_true (by first | (with_reducible assumption) | assumption); obtain ⟨ad121, e121, hx121_0, hx121_1, hx121_2⟩ := at_T23 (Kd.R_reads' HO118.out).2.2 0 p121 q121; cases e121; have qi121 : (0 < t115.length) = True := eq_true (by omega); (try rw [show ((0 : Int)).toNat = 0 from rfl] at hx121_0); (try rw [show 0 * 3 = 0 from rfl] at hx121_0); (try rw [Addr.add_zero'] at hx121_0); (try rw [show ((0 : Int)).toNat = 0 from rfl] at hx121_1); (try rw [show 0 * 3 = 0 from rfl] at hx121_1); (try rw [Addr.add_zero'] at hx121_1); (try rw [show ((0 : Int)).toNat = 0 from rfl] at hx121_2); (try rw [show 0 * 3 = 0 from rfl] at hx121_2); (try rw [Addr.add_zero'] at hx121_2); replace p121 := eq_true p121; replace q121 := eq_true q121; have p122 : 0 ≤ (1 : Int) := (by omega); have q122 : 1 < (t115.length : Int) := of_decide_eq_true (by first | (with_reducible assumption) | assumption); obtain ⟨ad122, e122, hx122_0, hx122_1, hx122_2⟩ := at_T23 (Kd.R_reads' HO118.out).2.2 1 p122 q122; obtain rfl : ad121 = ad122 := (by injection e122); (try simp only [show (1 : Int).toNat = 1 from rfl, Nat.reduceMul, Nat.reduceEqDiff, Go.Addr.add, ↓reduceIte] at hx122_0); (try simp only [show (1 : Int).toNat = 1 from rfl, Nat.reduceMul, Nat.reduceEqDiff, Go.Addr.add, ↓reduceIte] at hx122_1); (try simp only [show (1 : Int).toNat = 1 from rfl, Nat.reduceMul, Nat.reduceEqDiff, Go.Addr.add, ↓reduceIte] at hx122_2); have qi122 : (1 < t115.length) = True := eq_true (by omega); (try rw [show ((1 : Int)).toNat = 1 from rfl] at hx122_0); (try rw [show 1 * 3 = 3 from rfl] at hx122_0); (try rw [show ((1 : Int)).toNat = 1 from rfl] at hx122_1); (try rw [show 1 * 3 = 3 from rfl] at hx122_1); (try rw [show ((1 : Int)).toNat = 1 from rfl] at hx122_2); (try rw [show 1 * 3 = 3 from rfl] at hx122_2); replace p122 := eq_true p122; replace q122 := eq_true q122))
                go_ret
                exact ⟨by first | rfl | (rw [HY.out] <;> rfl) | (simp [errW_none, errW_some] <;> rfl) | (simp [*, errW_none, errW_some] <;> rfl), by repeat (first | (with_reducible first | exact HB.out | apply below_alloc | apply pw_below_drewN | apply below_drew1) | exact HB.out)⟩
              · rw [if_neg c9] at H
                have c9b0 : (t120 == 0) = false := beq_eq_false_iff_ne.mpr c9
                have c9b1 : (t120 != 0) = true := bne_iff_ne.mpr c9
                exact absurd H (by simp)
            · rw [if_neg c8] at H
              have c8b0 : (((rd_T23 t115 1).f2) == (-10)) = false := beq_eq_false_iff_ne.mpr c8
              have c8b1 : (((rd_T23 t115 1).f2) != (-10)) = true := bne_iff_ne.mpr c8
              exact absurd H (by simp)
          · rw [if_neg c7] at H
            exact absurd H (by simp)
        · rw [if_neg c6] at H
          have c6b0 : (((rd_T23 t115 0).f2) == 10) = false := beq_eq_false_iff_ne.mpr c6
          have c6b1 : (((rd_T23 t115 0).f2) != 10) = true := bne_iff_ne.mpr c6
          exact absurd H (by simp)
      · rw [if_neg c5] at H
        exact absurd H (by simp)
    · rw [if_neg c4] at H
      have c4b0 : ((t115.length : Int) == 2) = false := beq_eq_false_iff_ne.mpr c4
      have c4b1 : ((t115.length : Int) != 2) = true := bne_iff_ne.mpr c4
      exact absurd H (by simp)
  · rw [if_neg c3] at H
    have c3b0 : (t116 == 0) = false := beq_eq_false_iff_ne.mpr c3
    have c3b1 : (t116 != 0) = true := bne_iff_ne.mpr c3
    exact absurd H (by simp)
def IsS52 (w0 W : World) (g : Nat) (f0 : List Int) (f1 : Int) : Prop := ∃ A0 c0, W.heap[g]? = some (.cells #[.slice A0 f0.length c0, .int .i64 f1] 52 (0, 0)) ∧ w0.heap.size ≤ g ∧ Kd.C (Kd.int .i64) w0 A0 f0.length f0
theorem IsS52.grown {w0 W : World} {g : Nat} {f0 : List Int} {f1 : Int} {W1 : World} {row : Option Nat} (h : IsS52 w0 W g f0 f1) (hw : W.grownBy W1 row) (hne : some g ≠ row) : IsS52 w0 W1 g f0 f1 := by
  obtain ⟨A0, c0, hb, hg, hr0⟩ := h
  exact ⟨A0, c0, blk_grown hb hw hne, hg, hr0⟩
theorem IsS52.below {w0 W : World} {g : Nat} {f0 : List Int} {f1 : Int} {W1 : World} (h : IsS52 w0 W g f0 f1) (hw : Below W.heap.size W W1) : IsS52 w0 W1 g f0 f1 := h.grown (grown_of_below hw none) (by simp)
theorem IsS52.alloc {w0 W : World} {g : Nat} {f0 : List Int} {f1 : Int} (h : IsS52 w0 W g f0 f1) (o : Obj) : IsS52 w0 (W.alloc o) g f0 f1 := h.below (below_alloc (Below.refl _ _) o)
theorem IsS52.drewN {w0 W : World} {g : Nat} {f0 : List Int} {f1 : Int} (h : IsS52 w0 W g f0 f1) (m : Nat) : IsS52 w0 (W.drewN m) g f0 f1 := h
theorem IsS52.drew {w0 W : World} {g : Nat} {f0 : List Int} {f1 : Int} (h : IsS52 w0 W g f0 f1) : IsS52 w0 W.drew g f0 f1 := h
theorem IsS52.apart {w0 W : World} {g : Nat} {f0 : List Int} {f1 : Int} {α : Type} {d : Kd α} {e : Nat} {base : Nat} {ok : Nat → Prop} {v : Value} {xs : List α} (h : IsS52 w0 W g f0 f1) (ho : d.R e W base ok v xs) (ht : ∀ q, q ∈ e :: d.E → q ≠ 52) : d.R e W base (fun k => ok k ∧ k ≠ g) v xs := by
  obtain ⟨A0, c0, hb, hg, hr0⟩ := h
  exact Kd.R_types ho hb ht
theorem IsS52.own_ne {w0 W : World} {g : Nat} {f0 : List Int} {f1 : Int} {α : Type} {d : Kd α} {e : Nat} {base : Nat} {ok : Nat → Prop} {v : Value} {xs : List α} (h : IsS52 w0 W g f0 f1) (ho : d.R e W base ok v xs) (ht : e ≠ 52) : some g ≠ v.ownBlock := by
  obtain ⟨A0, c0, hb, hg, hr0⟩ := h
  exact Kd.R_ne ho hb ht
theorem IsS52.lt {w0 W : World} {g : Nat} {f0 : List Int} {f1 : Int} (h : IsS52 w0 W g f0 f1) : g < W.heap.size := by
  obtain ⟨A0, c0, hb, hg, hr0⟩ := h
  exact blk_lt hb
theorem IsS52.ge {w0 W : World} {g : Nat} {f0 : List Int} {f1 : Int} (h : IsS52 w0 W g f0 f1) : w0.heap.size ≤ g := by
  obtain ⟨A0, c0, hb, hg, hr0⟩ := h
  exact hg
theorem IsS52.ne_blk {w0 W : World} {g : Nat} {f0 : List Int} {f1 : Int} {a : Nat} {cs : Array Value} {t : TypeId} {fr : Nat × Nat} (h : IsS52 w0 W g f0 f1) (hb2 : W.heap[a]? = some (.cells cs t fr)) (ht : t ≠ 52) : g ≠ a := by
  obtain ⟨A0, c0, hb, hg, hr0⟩ := h
  rintro rfl
  rw [hb] at hb2
  injection hb2 with hb2
  injection hb2 with _ ht2
  exact ht ht2.symm
theorem IsS52.far {w0 W : World} {g : Nat} {f0 : List Int} {f1 : Int} {p : Addr} (h : IsS52 w0 W g f0 f1) (hne : g ≠ p.block) (u : Value) : IsS52 w0 (W.setCell p u) g f0 f1 := by
  obtain ⟨A0, c0, hb, hg, hr0⟩ := h
  exact ⟨A0, c0, blk_far hb hne u, hg, hr0⟩
theorem cellS52_0 {W : World} {g : Nat} {A0 : Option Addr} {c0 : Nat} {f0 : List Int} {f1 : Int} (h : W.heap[g]? = some (.cells #[.slice A0 f0.length c0, .int .i64 f1] 52 (0, 0))) : W.cell? ⟨g, 0, none⟩ = some (.slice A0 f0.length c0) := (blk_cell h 0).trans rfl
theorem cellS52_1 {W : World} {g : Nat} {A0 : Option Addr} {c0 : Nat} {f0 : List Int} {f1 : Int} (h : W.heap[g]? = some (.cells #[.slice A0 f0.length c0, .int .i64 f1] 52 (0, 0))) : W.cell? ⟨g, 1, none⟩ = some (.int .i64 f1) := (blk_cell h 1).trans rfl
theorem IsS52.set_1 {w0 W : World} {g : Nat} {f0 : List Int} {f1 : Int} (h : IsS52 w0 W g f0 f1) (x : Int) : IsS52 w0 (W.setCell ⟨g, 1, none⟩ (.int .i64 x)) g f0 x := by
  obtain ⟨A0, c0, hb, hg, hr0⟩ := h
  exact ⟨A0, c0, by simpa using blk_set hb 1 (.int .i64 x), hg, hr0⟩
def paygen_New.f (l0 : List Int) : Option (List Int × Int) := some (l0, 0)
set_option maxHeartbeats 8000000 in
set_option maxRecDepth 100000 in
theorem paygen_New.calls (A0 : Option Addr) (c0 : Nat) (l0 : List Int) (r1 : List Int) (r2 : Int) (w0 w : World) (hB : Below w0.heap.size w0 w) (hr0 : Kd.C (Kd.int .i64) w0 A0 l0.length l0) (hc0 : l0.length ≤ c0) (h : paygen_New.f l0 = some (r1, r2)) :
    Calls Tryd.prog 9 #[.slice A0 l0.length c0] w fun e w' => ∃ g_ : Nat, e = .returned (.pointer (some ⟨g_, 0, none⟩)) ∧ IsS52 w0 w' g_ r1 r2 ∧ Below w0.heap.size w0 w' ∧ Below w.heap.size w w' := by
  have hu52 := Tryd.underlying52
  have HR0 := Aside0.mk hr0
  have HC0 := Aside0.mk hc0
  clear hr0 hc0
  have HBW := Aside0.mk (Below.refl w.heap.size w)
  have HW0 := Aside0.mk hB.size
  have HB := Aside0.mk hB
  clear hB
  have H : (some (l0, 0)) = some (r1, r2) := h
  clear h
  simp only [Option.some.injEq, Prod.mk.injEq] at H
  obtain ⟨rfl, rfl⟩ := H
  go_enter Tryd.func9, Tryd.ntmps9
  go_wp2_with (first | ((with_reducible refine gate_dst (N := 5) rfl ?_); refine box_event ?hg (N := 5) ?hd (cs := #[.slice A0 l0.length c0, .int .i64 0]) (t := 52) ?hr ?_; (case hd => rfl); (case hg => rfl); (case hr => first | (go_simp; done) | (go_simp; rfl)); intro gb123 hg w2 hbox hb; have n0_ := Aside0.mk (below_step HBW.out hb); have n1_ := Aside0.mk (below_step (by repeat (first | (with_reducible first | exact HB.out | apply below_alloc | apply pw_below_drewN | apply below_drew1) | exact HB.out)) hb); have n2_ := Aside0.mk (hbox); have n3_ := Aside0.mk ((by rw [hg]; exact (below_size (by repeat (first | (with_reducible first | exact HBW.out | apply below_alloc | apply pw_below_drewN | apply below_drew1) | exact HBW.out))) : w.heap.size ≤ gb123)); have n4_ := Aside0.mk ((Nat.le_trans HW0.out (by rw [hg]; exact (below_size (by repeat (first | (with_reducible first | exact HBW.out | apply below_alloc | apply pw_below_drewN | apply below_drew1) | exact HBW.out))) : w.heap.size ≤ gb123) : w0.heap.size ≤ gb123)); clear HBW; clear HB; have HBW := n0_; have HB := n1_; have BK123 := n2_; have GW123 := n3_; have GE123 := n4_; clear n0_ n1_ n2_ n3_ n4_; clear hb hbox hg))
  go_ret
  exact ⟨_, rfl, (show IsS52 w0 _ gb123 l0 0 from ⟨_, _, by (with_reducible repeat (first | refine blk_drewN ?_ _ | refine blk_drew ?_ | refine blk_alloc ?_ _)); exact BK123.out, GE123.out, HR0.out⟩), by repeat (first | (with_reducible first | exact HB.out | apply below_alloc | apply pw_below_drewN | apply below_drew1 | refine below_set ?_ GE123.out) | exact HB.out), by repeat (first | (with_reducible first | exact HBW.out | apply below_alloc | apply pw_below_drewN | apply below_drew1 | refine below_set ?_ GW123.out) | exact HBW.out)⟩
def paygen_Deck_Next.j0 : Nat → Int → Int → List Int → Int → Option (Int × Int)
  | 0, _, _, _, _ => none
  | k + 1, x1, x5, x1000, x1001 => if x1 = 0 then (none) else (if (Int.tmod x5 x1) < 0 then (some (wrap64 ((Int.tmod x5 x1) + x1), wrap64 (x1001 + 1))) else (some (Int.tmod x5 x1, wrap64 (x1001 + 1))))
def paygen_Deck_Next.f (k : Nat) (s0_0 : List Int) (s0_1 : Int) (a1 : Int) : Option (Int × Int) := if s0_1 < (s0_0.length : Int) then (if 0 ≤ s0_1 then (paygen_Deck_Next.j0 k a1 (rd s0_0 s0_1) s0_0 s0_1) else (none)) else (paygen_Deck_Next.j0 k a1 (wrap64 ((wrap64 (5 * s0_1)) + 2)) s0_0 s0_1)
set_option maxHeartbeats 8000000 in
set_option maxRecDepth 100000 in
theorem paygen_Deck_Next.calls (k : Nat) (g : Nat) (s0_0 : List Int) (s0_1 : Int) (a1 : Int) (r1 : Int) (r2 : Int) (w0 w : World) (hI : IsS52 w0 w g s0_0 s0_1) (hB : Below w0.heap.size w0 w) (h : paygen_Deck_Next.f k s0_0 s0_1 a1 = some (r1, r2)) :
    Calls Tryd.prog 23 #[.pointer (some ⟨g, 0, none⟩), .int .i64 a1] w fun e w' => e = .returned (.int .i64 r1) ∧ IsS52 w0 w' g s0_0 r2 ∧ Below w0.heap.size w0 w' ∧ KeepBut w w' g none := by
  have HI0 := Aside0.mk hI
  have HK := Aside0.mk (KeepBut.refl w g none)
  have HL := Aside0.mk hB.size
  clear hI
  have HW0 := Aside0.mk hB.size
  have HB := Aside0.mk hB
  clear hB
  have H : (if s0_1 < (s0_0.length : Int) then (if 0 ≤ s0_1 then (paygen_Deck_Next.j0 k a1 (rd s0_0 s0_1) s0_0 s0_1) else (none)) else (paygen_Deck_Next.j0 k a1 (wrap64 ((wrap64 (5 * s0_1)) + 2)) s0_0 s0_1)) = some (r1, r2) := h
  clear h
  have HC3 := Aside0.mk H
  clear H
  obtain ⟨ASz4_0, cSz4_0, HGz4, hgz4, HSz4_0⟩ := HI0.out
  have hcz4_0 := cellS52_0 HGz4
  have hcz4_1 := cellS52_1 HGz4
  have hfz4_1 := blk_frozen HGz4 1
  clear HGz4 hgz4
  go_enter Tryd.func23, Tryd.ntmps23
  go_upto_if 21 with (fail)
  repeat (go_quiet (fail); go_upto_if 21 with (fail))
  go_cut [5] (fun v5 wc => ∃ (kq : Nat) (x5_2 : Int), v5 = .int .i64 x5_2 ∧ Aside0 (paygen_Deck_Next.j0 kq a1 x5_2 s0_0 s0_1 = some (r1, r2)) ∧ Aside0 (kq ≤ k) ∧ Aside0 (IsS52 w0 wc g s0_0 s0_1) ∧ Aside0 (KeepBut w wc g none) ∧ Aside0 (Below w0.heap.size w0 wc))
  case first =>
    have H := HC3.out
    clear HC3
    by_cases c5 : s0_1 < (s0_0.length : Int)
    · rw [if_pos c5] at H
      have c5b0 : decide (s0_1 < (s0_0.length : Int)) = true := decide_eq_true c5
      clear c5
      (first | rw [c5b0] | (simp only [i64_w, i32_w]; rw [c5b0]) | skip)
      by_cases c6 : 0 ≤ s0_1
      · rw [if_pos c6] at H
        have c6b0 : decide (0 ≤ s0_1) = true := decide_eq_true c6
        clear c6
        have H' := Aside0.mk H
        clear H
        obtain ⟨ASz7_0, cSz7_0, HGz7, hgz7, HSz7_0⟩ := HI0.out
        have hcz7_0 := cellS52_0 HGz7
        have hcz7_1 := cellS52_1 HGz7
        have hfz7_1 := blk_frozen HGz7 1
        clear HGz7 hgz7
        (try (have e_ := hcz4_0.symm.trans hcz7_0; injection e_ with e_; injection e_ with e1_ _ e3_; subst e1_; subst e3_))
        have p124 : 0 ≤ (s0_1 : Int) := of_decide_eq_true (by first | (with_reducible assumption) | assumption)
        have q124 : s0_1 < (s0_0.length : Int) := of_decide_eq_true (by first | (with_reducible assumption) | assumption)
        obtain ⟨ad124, e124, hx124_0⟩ := Kd.at_int HSz7_0 s0_1 p124 q124
        cases e124
        replace hx124_0 := pw_cell_below HB.out hx124_0
        replace p124 := eq_true p124
        replace q124 := eq_true q124
        go_wp2
        repeat (go_quiet (fail); try go_wp2)
        go_meet
        case rel => exact ⟨_, (rd s0_0 s0_1), (by first | rfl | (simp; done) | (simp [*]; done)), H', ⟨by first | omega | exact Nat.le_refl _⟩, ⟨by repeat (first | (with_reducible first | exact HI0.out | apply IsS52.alloc | apply IsS52.drewN | apply IsS52.drew | apply IsS52.set_1) | exact HI0.out)⟩, ⟨by repeat (first | (with_reducible first | exact HK.out | apply KeepBut.set_ | apply keep_drewN | apply keep_drew | apply keep_alloc) | exact HK.out)⟩, ⟨by repeat (first | (with_reducible first | exact HB.out | apply below_alloc | apply pw_below_drewN | apply below_drew1 | refine below_set ?_ (IsS52.ge HI0.out)) | exact HB.out)⟩⟩
      · rw [if_neg c6] at H
        exact absurd H (by simp)
    · rw [if_neg c5] at H
      have c5b0 : decide (s0_1 < (s0_0.length : Int)) = false := decide_eq_false c5
      clear c5
      (first | rw [c5b0] | (simp only [i64_w, i32_w]; rw [c5b0]) | skip)
      have H' := Aside0.mk H
      clear H
      go_wp2
      repeat (go_quiet (fail); try go_wp2)
      go_meet
      case rel => exact ⟨_, (wrap64 ((wrap64 (5 * s0_1)) + 2)), (by first | rfl | (simp; done) | (simp [*]; done)), H', ⟨by first | omega | exact Nat.le_refl _⟩, ⟨by repeat (first | (with_reducible first | exact HI0.out | apply IsS52.alloc | apply IsS52.drewN | apply IsS52.drew | apply IsS52.set_1) | exact HI0.out)⟩, ⟨by repeat (first | (with_reducible first | exact HK.out | apply KeepBut.set_ | apply keep_drewN | apply keep_drew | apply keep_alloc) | exact HK.out)⟩, ⟨by repeat (first | (with_reducible first | exact HB.out | apply below_alloc | apply pw_below_drewN | apply below_drew1 | refine below_set ?_ (IsS52.ge HI0.out)) | exact HB.out)⟩⟩
  case rest =>
    clear HC3
    try clear p1
    try clear q1
    try clear hx1
    try clear c2
    try clear p2
    try clear c5
    try clear c5b0
    try clear c6
    try clear c6b0
    try clear p6
    try clear hcz4_0
    try clear hcz4_1
    try clear hcz7_0
    try clear hcz7_1
    try clear hfz4_1
    try clear hfz7_1
    try clear hx124_0
    try clear p124
    try clear q124
    obtain ⟨kq, x5_2, rfl, HA, HJ2, HI0, HK, HB⟩ := hcut
    cases kq with
    | zero => exact absurd HA.out (by simp [paygen_Deck_Next.j0])
    | succ kj2 =>
      have H := HA.out
      clear HA
      simp only [paygen_Deck_Next.j0] at H
      by_cases c8 : a1 = 0
      · rw [if_pos c8] at H
        exact absurd H (by simp)
      · rw [if_neg c8] at H
        have c8b0 : (a1 == 0) = false := beq_eq_false_iff_ne.mpr c8
        have c8b1 : (a1 != 0) = true := bne_iff_ne.mpr c8
        by_cases c9 : (Int.tmod x5_2 a1) < 0
        · rw [if_pos c9] at H
          have c9b0 : decide ((Int.tmod x5_2 a1) < 0) = true := decide_eq_true c9
          clear c9
          simp only [Option.some.injEq, Prod.mk.injEq] at H
          obtain ⟨rfl, rfl⟩ := H
          obtain ⟨ASz10_0, cSz10_0, HGz10, hgz10, HSz10_0⟩ := HI0.out
          have hcz10_0 := cellS52_0 HGz10
          have hcz10_1 := cellS52_1 HGz10
          have hfz10_1 := blk_frozen HGz10 1
          clear HGz10 hgz10
          (try (have e_ := hcz4_0.symm.trans hcz10_0; injection e_ with e_; injection e_ with e1_ _ e3_; subst e1_; subst e3_))
          (try (have e_ := hcz7_0.symm.trans hcz10_0; injection e_ with e_; injection e_ with e1_ _ e3_; subst e1_; subst e3_))
          go_wp2
          repeat (go_quiet (fail); try go_wp2)
          go_ret
          exact ⟨by first | rfl | (simp [errW_none, errW_some] <;> rfl) | (simp [*, errW_none, errW_some] <;> rfl), by repeat (first | (with_reducible first | exact HI0.out | apply IsS52.alloc | apply IsS52.drewN | apply IsS52.drew | apply IsS52.set_1) | exact HI0.out), by repeat (first | (with_reducible first | exact HB.out | apply below_alloc | apply pw_below_drewN | apply below_drew1 | refine below_set ?_ (IsS52.ge HI0.out)) | exact HB.out), by repeat (first | (with_reducible first | exact HK.out | apply KeepBut.set_ | apply keep_drewN | apply keep_drew | apply keep_alloc) | exact HK.out)⟩
        · rw [if_neg c9] at H
          have c9b0 : decide ((Int.tmod x5_2 a1) < 0) = false := decide_eq_false c9
          clear c9
          simp only [Option.some.injEq, Prod.mk.injEq] at H
          obtain ⟨rfl, rfl⟩ := H
          obtain ⟨ASz11_0, cSz11_0, HGz11, hgz11, HSz11_0⟩ := HI0.out
          have hcz11_0 := cellS52_0 HGz11
          have hcz11_1 := cellS52_1 HGz11
          have hfz11_1 := blk_frozen HGz11 1
          clear HGz11 hgz11
          (try (have e_ := hcz4_0.symm.trans hcz11_0; injection e_ with e_; injection e_ with e1_ _ e3_; subst e1_; subst e3_))
          (try (have e_ := hcz7_0.symm.trans hcz11_0; injection e_ with e_; injection e_ with e1_ _ e3_; subst e1_; subst e3_))
          (try (have e_ := hcz10_0.symm.trans hcz11_0; injection e_ with e_; injection e_ with e1_ _ e3_; subst e1_; subst e3_))
          go_wp2
          repeat (go_quiet (fail); try go_wp2)
          go_ret
          exact ⟨by first | rfl | (simp [errW_none, errW_some] <;> rfl) | (simp [*, errW_none, errW_some] <;> rfl), by repeat (first | (with_reducible first | exact HI0.out | apply IsS52.alloc | apply IsS52.drewN | apply IsS52.drew | apply IsS52.set_1) | exact HI0.out), by repeat (first | (with_reducible first | exact HB.out | apply below_alloc | apply pw_below_drewN | apply below_drew1 | refine below_set ?_ (IsS52.ge HI0.out)) | exact HB.out), by repeat (first | (with_reducible first | exact HK.out | apply KeepBut.set_ | apply keep_drewN | apply keep_drew | apply keep_alloc) | exact HK.out)⟩
def paygen_Deck_Pick.f (k : Nat) (s0_0 : List Int) (s0_1 : Int) (l1 : List Int) : Option (Int × Int) := (paygen_Deck_Next.f k s0_0 s0_1 (l1.length : Int)).bind fun bt125 => (if 0 ≤ bt125.1 then (if bt125.1 < (l1.length : Int) then (some (rd l1 bt125.1, bt125.2)) else (none)) else (none))
set_option maxHeartbeats 8000000 in
set_option maxRecDepth 100000 in
theorem paygen_Deck_Pick.calls (k : Nat) (g : Nat) (s0_0 : List Int) (s0_1 : Int) (A1 : Option Addr) (c1 : Nat) (l1 : List Int) (r1 : Int) (r2 : Int) (w0 w : World) (hI : IsS52 w0 w g s0_0 s0_1) (hB : Below w0.heap.size w0 w) (hr1 : Kd.C (Kd.int .i64) w A1 l1.length l1) (hc1 : l1.length ≤ c1) (hf1 : ∀ ad, A1 = some ad → 0 < l1.length → ad.block ≠ g) (h : paygen_Deck_Pick.f k s0_0 s0_1 l1 = some (r1, r2)) :
    Calls Tryd.prog 12 #[.pointer (some ⟨g, 0, none⟩), .slice A1 l1.length c1] w fun e w' => e = .returned (.int .i64 r1) ∧ IsS52 w0 w' g s0_0 r2 ∧ Below w0.heap.size w0 w' ∧ KeepBut w w' g none := by
  have HR1 := Aside0.mk hr1
  have HC1 := Aside0.mk hc1
  clear hr1 hc1
  have HI0 := Aside0.mk hI
  have HK := Aside0.mk (KeepBut.refl w g none)
  have HL := Aside0.mk hB.size
  clear hI
  have HW0 := Aside0.mk hB.size
  have HB := Aside0.mk hB
  clear hB
  have H : ((paygen_Deck_Next.f k s0_0 s0_1 (l1.length : Int)).bind fun bt125 => (if 0 ≤ bt125.1 then (if bt125.1 < (l1.length : Int) then (some (rd l1 bt125.1, bt125.2)) else (none)) else (none))) = some (r1, r2) := h
  clear h
  replace H := Option.bind_eq_some_iff.mp H
  obtain ⟨⟨t125, t126⟩, A30, H⟩ := H
  replace H : (if 0 ≤ t125 then (if t125 < (l1.length : Int) then (some (rd l1 t125, t126)) else (none)) else (none)) = some (r1, r2) := H
  have A3 := Aside0.mk A30
  clear A30
  by_cases c4 : 0 ≤ t125
  · rw [if_pos c4] at H
    have c4b0 : decide (0 ≤ t125) = true := decide_eq_true c4
    clear c4
    by_cases c5 : t125 < (l1.length : Int)
    · rw [if_pos c5] at H
      have c5b0 : decide (t125 < (l1.length : Int)) = true := decide_eq_true c5
      clear c5
      simp only [Option.some.injEq, Prod.mk.injEq] at H
      obtain ⟨rfl, rfl⟩ := H
      go_enter Tryd.func12, Tryd.ntmps12
      go_wp2_with (first | ((with_reducible refine gate_callee (f := 23) rfl ?_); refine goesL_ (some 9) rfl rfl Tryd.func23 (by kernel_rfl) rfl #[.pointer (some ⟨g, 0, none⟩), .int .i64 (l1.length : Int)] rfl (by (try simp only [List.map_toArray, List.map_cons, List.map_nil]); first | done | rfl | (simp only [List.length_drop, List.length_take]; rfl)) ?_; (with_reducible refine (paygen_Deck_Next.calls k g s0_0 s0_1 (l1.length : Int) t125 t126 w0 _ ?side1 ?side2 A3.out).mono ?_); (case side1 => repeat (first | (with_reducible first | exact HI0.out | apply IsS52.alloc | apply IsS52.drewN | apply IsS52.drew | apply IsS52.set_1) | exact HI0.out)); (case side2 => repeat (first | (with_reducible first | exact HB.out | apply below_alloc | apply pw_below_drewN | apply below_drew1 | refine below_set ?_ (IsS52.ge HI0.out)) | exact HB.out)); rintro e w6 ⟨rfl, hi, hb, hk⟩; refine ⟨_, rfl, ?_⟩; have n0_ := Aside0.mk (KeepBut.trans (by repeat (first | (with_reducible first | exact HK.out | apply KeepBut.set_ | apply keep_drewN | apply keep_drew | apply keep_alloc) | exact HK.out)) hk (.inl rfl)); have n1_ := Aside0.mk (hb); have n2_ := Aside0.mk (hi); clear HK; clear HB; clear HI0; have HK := n0_; have HB := n1_; have HI0 := n2_; clear n0_ n1_ n2_; (try clear hb); (try clear hb2); (try clear hk); (try clear hi); have p127 : 0 ≤ (t125 : Int) := of_decide_eq_true (by first | (with_reducible assumption) | assumption); have q127 : t125 < (l1.length : Int) := of_decide_eq_true (by first | (with_reducible assumption) | assumption); obtain ⟨ad127, e127, hx127_0⟩ := Kd.at_int HR1.out t125 p127 q127; cases e127; replace hx127_0 := keep_cell HK.out hx127_0 (by first | (rw [add_block]; exact hf1 _ rfl (by omega)) | exact hf1 _ rfl (by omega) | exact hf1 ad127 rfl (by omega)); replace p127 := eq_true p127; replace q127 := eq_true q127))
      go_ret
      exact ⟨by first | rfl | (simp [errW_none, errW_some] <;> rfl) | (simp [*, errW_none, errW_some] <;> rfl), by repeat (first | (with_reducible first | exact HI0.out | apply IsS52.alloc | apply IsS52.drewN | apply IsS52.drew | apply IsS52.set_1) | exact HI0.out), by repeat (first | (with_reducible first | exact HB.out | apply below_alloc | apply pw_below_drewN | apply below_drew1 | refine below_set ?_ (IsS52.ge HI0.out)) | exact HB.out), by repeat (first | (with_reducible first | exact HK.out | apply KeepBut.set_ | apply keep_drewN | apply keep_drew | apply keep_alloc) | exact HK.out)⟩
    · rw [if_neg c5] at H
      exact absurd H (by simp)
  · rw [if_neg c4] at H
    exact absurd H (by simp)
def paygen_Deck_Small.f (k : Nat) (s0_0 : List Int) (s0_1 : Int) : Option (Int × Int) := (paygen_Deck_Next.f k s0_0 s0_1 5).bind fun bt128 => (if bt128.1 = 0 then ((paygen_Deck_Pick.f k s0_0 bt128.2 (([0, 0, 1, 100] : List Int))).bind fun bt133 => (some (bt133.1, bt133.2))) else ((paygen_Deck_Next.f k s0_0 bt128.2 600000).bind fun bt135 => (some (bt135.1, bt135.2))))
set_option maxHeartbeats 8000000 in
set_option maxRecDepth 100000 in
theorem paygen_Deck_Small.calls (k : Nat) (g : Nat) (s0_0 : List Int) (s0_1 : Int) (r1 : Int) (r2 : Int) (w0 w : World) (hI : IsS52 w0 w g s0_0 s0_1) (hB : Below w0.heap.size w0 w) (h : paygen_Deck_Small.f k s0_0 s0_1 = some (r1, r2)) :
    Calls Tryd.prog 24 #[.pointer (some ⟨g, 0, none⟩)] w fun e w' => e = .returned (.int .i64 r1) ∧ IsS52 w0 w' g s0_0 r2 ∧ Below w0.heap.size w0 w' ∧ KeepBut w w' g none := by
  have HI0 := Aside0.mk hI
  have HK := Aside0.mk (KeepBut.refl w g none)
  have HL := Aside0.mk hB.size
  clear hI
  have HW0 := Aside0.mk hB.size
  have HB := Aside0.mk hB
  clear hB
  have H : ((paygen_Deck_Next.f k s0_0 s0_1 5).bind fun bt128 => (if bt128.1 = 0 then ((paygen_Deck_Pick.f k s0_0 bt128.2 (([0, 0, 1, 100] : List Int))).bind fun bt133 => (some (bt133.1, bt133.2))) else ((paygen_Deck_Next.f k s0_0 bt128.2 600000).bind fun bt135 => (some (bt135.1, bt135.2))))) = some (r1, r2) := h
  clear h
  replace H := Option.bind_eq_some_iff.mp H
  obtain ⟨⟨t128, t129⟩, A20, H⟩ := H
  replace H : (if t128 = 0 then ((paygen_Deck_Pick.f k s0_0 t129 (([0, 0, 1, 100] : List Int))).bind fun bt133 => (some (bt133.1, bt133.2))) else ((paygen_Deck_Next.f k s0_0 t129 600000).bind fun bt135 => (some (bt135.1, bt135.2)))) = some (r1, r2) := H
  have A2 := Aside0.mk A20
  clear A20
  by_cases c3 : t128 = 0
  · rw [if_pos c3] at H
    have c3b0 : (t128 == 0) = true := beq_iff_eq.mpr c3
    have c3b1 : (t128 != 0) = false := bne_eq_false_iff_eq.mpr c3
    clear c3
    obtain ⟨y130, hy130⟩ : ∃ y_ : List Int, y_ = (([0, 0, 1, 100] : List Int)) := ⟨_, rfl⟩
    replace H : ((paygen_Deck_Pick.f k s0_0 t129 y130).bind fun bt133 => (some (bt133.1, bt133.2))) = some (r1, r2) := by first | (rw [hy130]; with_reducible exact H) | (have H2_ := (Option.bind_some _ _).symm.trans H; rw [hy130]; with_reducible exact H2_) | (have H2_ := (Option.bind_some _ _).symm.trans H; with_reducible exact H2_) | with_reducible exact H | (rw [hy130]; exact H) | exact H
    have Ny130 := Aside0.mk hy130
    clear hy130
    replace H := Option.bind_eq_some_iff.mp H
    obtain ⟨⟨t133, t134⟩, A40, H⟩ := H
    replace H : (some (t133, t134)) = some (r1, r2) := H
    have A4 := Aside0.mk A40
    clear A40
    simp only [Option.some.injEq, Prod.mk.injEq] at H
    obtain ⟨rfl, rfl⟩ := H
    go_enter Tryd.func24, Tryd.ntmps24
    go_wp2_with (first | ((with_reducible refine gate_callee (f := 23) rfl ?_); refine goesL_ (some 4) rfl rfl Tryd.func23 (by kernel_rfl) rfl #[.pointer (some ⟨g, 0, none⟩), .int .i64 5] rfl (by (try simp only [List.map_toArray, List.map_cons, List.map_nil]); first | done | rfl | (simp only [List.length_drop, List.length_take]; rfl)) ?_; (with_reducible refine (paygen_Deck_Next.calls k g s0_0 s0_1 5 t128 t129 w0 _ ?side1 ?side2 A2.out).mono ?_); (case side1 => repeat (first | (with_reducible first | exact HI0.out | apply IsS52.alloc | apply IsS52.drewN | apply IsS52.drew | apply IsS52.set_1) | exact HI0.out)); (case side2 => repeat (first | (with_reducible first | exact HB.out | apply below_alloc | apply pw_below_drewN | apply below_drew1 | refine below_set ?_ (IsS52.ge HI0.out)) | exact HB.out)); rintro e w5 ⟨rfl, hi, hb, hk⟩; refine ⟨_, rfl, ?_⟩; have n0_ := Aside0.mk (KeepBut.trans (by repeat (first | (with_reducible first | exact HK.out | apply KeepBut.set_ | apply keep_drewN | apply keep_drew | apply keep_alloc) | exact HK.out)) hk (.inl rfl)); have n1_ := Aside0.mk (hb); have n2_ := Aside0.mk (hi); clear HK; clear HB; clear HI0; have HK := n0_; have HB := n1_; have HI0 := n2_; clear n0_ n1_ n2_; (try clear hb); (try clear hb2); (try clear hk); (try clear hi)) | ((with_reducible refine gate_dst (N := 7) rfl ?_); refine Kd.R_lit (Kd.int .i64) _ 3 ?hg (N := 7) ?hd (xs := ([0, 0, 1, 100] : List Int)) (inner := [.int .i64 0, .int .i64 0, .int .i64 1, .int .i64 100]) (ok := fun _ => True) (okp := fun _ => True) ?hr ?hp (fun _ hk => hk) trivial (Below.refl _ _) (Nat.le_refl _) (by simp) ?_; (case hd => rfl); (case hg => rfl); (case hr => first | (go_simp; done) | (go_simp; rfl)); (case hp => exact (Reps.one (show Kd.M (Kd.int .i64) _ _ _ 0 [.int .i64 0] from rfl) (Reps.one (show Kd.M (Kd.int .i64) _ _ _ 0 [.int .i64 0] from rfl) (Reps.one (show Kd.M (Kd.int .i64) _ _ _ 1 [.int .i64 1] from rfl) (Reps.one (show Kd.M (Kd.int .i64) _ _ _ 100 [.int .i64 100] from rfl) (Reps.none _ _)))))); intro v131 w6 ho7 hb hg_ hnew_; clear hg_ hnew_; (first | rw [← Ny130.out] at ho7 | (simp only [Int.reduceToNat] at ho7; rw [← Ny130.out] at ho7)); have n0_ := Aside0.mk (Kd.R_lower ho7 (keep_size (w := w) (g := g) (row := none) (by repeat (first | (with_reducible first | exact HK.out | apply KeepBut.set_ | apply keep_drewN | apply keep_drew | apply keep_alloc) | exact HK.out)))); have n1_ := Aside0.mk (IsS52.below (by repeat (first | (with_reducible first | exact HI0.out | apply IsS52.alloc | apply IsS52.drewN | apply IsS52.drew | apply IsS52.set_1) | exact HI0.out)) hb); have n2_ := Aside0.mk (KeepBut.trans (by repeat (first | (with_reducible first | exact HK.out | apply KeepBut.set_ | apply keep_drewN | apply keep_drew | apply keep_alloc) | exact HK.out)) (KeepBut.of_below hb g none) (.inl rfl)); have n3_ := Aside0.mk (below_step (by repeat (first | (with_reducible first | exact HB.out | apply below_alloc | apply pw_below_drewN | apply below_drew1 | refine below_set ?_ (IsS52.ge HI0.out)) | exact HB.out)) hb); clear HI0; clear HK; clear HB; have HO132 := n0_; have HI0 := n1_; have HK := n2_; have HB := n3_; clear n0_ n1_ n2_ n3_; clear hb ho7; obtain ⟨Ao8, co8, eo8⟩ := Kd.R_slice HO132.out; subst eo8) | ((with_reducible refine gate_callee (f := 12) rfl ?_); refine goesL_ (some 8) rfl rfl Tryd.func12 (by kernel_rfl) rfl #[.pointer (some ⟨g, 0, none⟩), .slice Ao8 y130.length co8] rfl (by (try simp only [List.map_toArray, List.map_cons, List.map_nil]); first | done | rfl | (simp only [List.length_drop, List.length_take]; rfl)) ?_; (with_reducible refine (paygen_Deck_Pick.calls k g s0_0 t129 _ _ y130 t133 t134 w0 _ ?side1 ?side2 ?side3 ?side4 ?side5 A4.out).mono ?_); (case side1 => repeat (first | (with_reducible first | exact HI0.out | apply IsS52.alloc | apply IsS52.drewN | apply IsS52.drew | apply IsS52.set_1) | exact HI0.out)); (case side2 => repeat (first | (with_reducible first | exact HB.out | apply below_alloc | apply pw_below_drewN | apply below_drew1 | refine below_set ?_ (IsS52.ge HI0.out)) | exact HB.out)); (case side3 => repeat (first | exact (Kd.R_reads' HO132.out).2.2 | (with_reducible refine Kd.C_alloc ?_ _) | (with_reducible refine Kd.C_drewN ?_ _) | (with_reducible refine Kd.C_drew ?_))); (case side4 => exact (Kd.R_reads' HO132.out).2.1); (case side5 => exact far_slice (IsS52.own_ne HI0.out HO132.out (by decide))); rintro e w9 ⟨rfl, hi, hb, hk⟩; refine ⟨_, rfl, ?_⟩; have n0_ := Aside0.mk (Kd.R_mono (Kd.R_keep (IsS52.apart (show IsS52 w0 _ g s0_0 t129 from by repeat (first | (with_reducible first | exact HI0.out | apply IsS52.alloc | apply IsS52.drewN | apply IsS52.drew | apply IsS52.set_1) | exact HI0.out)) (by (with_reducible repeat (first | apply Kd.R_alloc | apply Kd.R_drewN | apply Kd.R_drew)); exact HO132.out) (by decide)) hk (fun _ h => h.2)) (fun _ h => h.1)); have n1_ := Aside0.mk (KeepBut.trans (by repeat (first | (with_reducible first | exact HK.out | apply KeepBut.set_ | apply keep_drewN | apply keep_drew | apply keep_alloc) | exact HK.out)) hk (.inl rfl)); have n2_ := Aside0.mk (hb); have n3_ := Aside0.mk (hi); clear HO132; clear HK; clear HB; clear HI0; have HO132 := n0_; have HK := n1_; have HB := n2_; have HI0 := n3_; clear n0_ n1_ n2_ n3_; (try clear hb); (try clear hb2); (try clear hk); (try clear hi)))
    go_ret
    exact ⟨by first | rfl | (simp [errW_none, errW_some] <;> rfl) | (simp [*, errW_none, errW_some] <;> rfl), by repeat (first | (with_reducible first | exact HI0.out | apply IsS52.alloc | apply IsS52.drewN | apply IsS52.drew | apply IsS52.set_1) | exact HI0.out), by repeat (first | (with_reducible first | exact HB.out | apply below_alloc | apply pw_below_drewN | apply below_drew1 | refine below_set ?_ (IsS52.ge HI0.out)) | exact HB.out), by repeat (first | (with_reducible first | exact HK.out | apply KeepBut.set_ | apply keep_drewN | apply keep_drew | apply keep_alloc) | exact HK.out)⟩
  · rw [if_neg c3] at H
    have c3b0 : (t128 == 0) = false := beq_eq_false_iff_ne.mpr c3
    have c3b1 : (t128 != 0) = true := bne_iff_ne.mpr c3
    replace H := Option.bind_eq_some_iff.mp H
    obtain ⟨⟨t135, t136⟩, A100, H⟩ := H
    replace H : (some (t135, t136)) = some (r1, r2) := H
    have A10 := Aside0.mk A100
    clear A100
    simp only [Option.some.injEq, Prod.mk.injEq] at H
    obtain ⟨rfl, rfl⟩ := H
    go_enter Tryd.func24, Tryd.ntmps24
    go_wp2_with (first | ((with_reducible refine gate_callee (f := 23) rfl ?_); refine goesL_ (some 4) rfl rfl Tryd.func23 (by kernel_rfl) rfl #[.pointer (some ⟨g, 0, none⟩), .int .i64 5] rfl (by (try simp only [List.map_toArray, List.map_cons, List.map_nil]); first | done | rfl | (simp only [List.length_drop, List.length_take]; rfl)) ?_; (with_reducible refine (paygen_Deck_Next.calls k g s0_0 s0_1 5 t128 t129 w0 _ ?side1 ?side2 A2.out).mono ?_); (case side1 => repeat (first | (with_reducible first | exact HI0.out | apply IsS52.alloc | apply IsS52.drewN | apply IsS52.drew | apply IsS52.set_1) | exact HI0.out)); (case side2 => repeat (first | (with_reducible first | exact HB.out | apply below_alloc | apply pw_below_drewN | apply below_drew1 | refine below_set ?_ (IsS52.ge HI0.out)) | exact HB.out)); rintro e w11 ⟨rfl, hi, hb, hk⟩; refine ⟨_, rfl, ?_⟩; have n0_ := Aside0.mk (KeepBut.trans (by repeat (first | (with_reducible first | exact HK.out | apply KeepBut.set_ | apply keep_drewN | apply keep_drew | apply keep_alloc) | exact HK.out)) hk (.inl rfl)); have n1_ := Aside0.mk (hb); have n2_ := Aside0.mk (hi); clear HK; clear HB; clear HI0; have HK := n0_; have HB := n1_; have HI0 := n2_; clear n0_ n1_ n2_; (try clear hb); (try clear hb2); (try clear hk); (try clear hi)) | ((with_reducible refine gate_callee (f := 23) rfl ?_); refine goesL_ (some 10) rfl rfl Tryd.func23 (by kernel_rfl) rfl #[.pointer (some ⟨g, 0, none⟩), .int .i64 600000] rfl (by (try simp only [List.map_toArray, List.map_cons, List.map_nil]); first | done | rfl | (simp only [List.length_drop, List.length_take]; rfl)) ?_; (with_reducible refine (paygen_Deck_Next.calls k g s0_0 t129 600000 t135 t136 w0 _ ?side1 ?side2 A10.out).mono ?_); (case side1 => repeat (first | (with_reducible first | exact HI0.out | apply IsS52.alloc | apply IsS52.drewN | apply IsS52.drew | apply IsS52.set_1) | exact HI0.out)); (case side2 => repeat (first | (with_reducible first | exact HB.out | apply below_alloc | apply pw_below_drewN | apply below_drew1 | refine below_set ?_ (IsS52.ge HI0.out)) | exact HB.out)); rintro e w12 ⟨rfl, hi, hb, hk⟩; refine ⟨_, rfl, ?_⟩; have n0_ := Aside0.mk (KeepBut.trans (by repeat (first | (with_reducible first | exact HK.out | apply KeepBut.set_ | apply keep_drewN | apply keep_drew | apply keep_alloc) | exact HK.out)) hk (.inl rfl)); have n1_ := Aside0.mk (hb); have n2_ := Aside0.mk (hi); clear HK; clear HB; clear HI0; have HK := n0_; have HB := n1_; have HI0 := n2_; clear n0_ n1_ n2_; (try clear hb); (try clear hb2); (try clear hk); (try clear hi)))
    go_ret
    exact ⟨by first | rfl | (simp [errW_none, errW_some] <;> rfl) | (simp [*, errW_none, errW_some] <;> rfl), by repeat (first | (with_reducible first | exact HI0.out | apply IsS52.alloc | apply IsS52.drewN | apply IsS52.drew | apply IsS52.set_1) | exact HI0.out), by repeat (first | (with_reducible first | exact HB.out | apply below_alloc | apply pw_below_drewN | apply below_drew1 | refine below_set ?_ (IsS52.ge HI0.out)) | exact HB.out), by repeat (first | (with_reducible first | exact HK.out | apply KeepBut.set_ | apply keep_drewN | apply keep_drew | apply keep_alloc) | exact HK.out)⟩
def payrollref32_Bare.f (a0 : Int) : Option (Bool) := if a0 = 6 then (some true) else (if a0 = 9 then (some true) else (some (a0 == 10)))
set_option maxHeartbeats 8000000 in
set_option maxRecDepth 100000 in
theorem payrollref32_Bare.calls (a0 : Int) (r : Bool) (w : World) (h : payrollref32_Bare.f a0 = some r) :
    Calls Tryd.prog 25 #[.int .i64 a0] w fun e w' => e = .returned (.bool r) ∧ Drawn0 w w' := by
  have H : (if a0 = 6 then (some true) else (if a0 = 9 then (some true) else (some (a0 == 10)))) = some r := h
  clear h
  by_cases c2 : a0 = 6
  · rw [if_pos c2] at H
    have c2b0 : (a0 == 6) = true := beq_iff_eq.mpr c2
    have c2b1 : (a0 != 6) = false := bne_eq_false_iff_eq.mpr c2
    clear c2
    obtain rfl := Option.some.inj H
    go_enter Tryd.func25, Tryd.ntmps25
    go_wp2
    go_ret
    exact ⟨by first | rfl | (simp; done) | (simp [*]; done), by repeat (first | exact Drawn0.refl _ | apply Drawn0.step)⟩
  · rw [if_neg c2] at H
    have c2b0 : (a0 == 6) = false := beq_eq_false_iff_ne.mpr c2
    have c2b1 : (a0 != 6) = true := bne_iff_ne.mpr c2
    by_cases c3 : a0 = 9
    · rw [if_pos c3] at H
      have c3b0 : (a0 == 9) = true := beq_iff_eq.mpr c3
      have c3b1 : (a0 != 9) = false := bne_eq_false_iff_eq.mpr c3
      clear c3
      obtain rfl := Option.some.inj H
      go_enter Tryd.func25, Tryd.ntmps25
      go_wp2
      go_ret
      exact ⟨by first | rfl | (simp; done) | (simp [*]; done), by repeat (first | exact Drawn0.refl _ | apply Drawn0.step)⟩
    · rw [if_neg c3] at H
      have c3b0 : (a0 == 9) = false := beq_eq_false_iff_ne.mpr c3
      have c3b1 : (a0 != 9) = true := bne_iff_ne.mpr c3
      obtain rfl := Option.some.inj H
      go_enter Tryd.func25, Tryd.ntmps25
      go_wp2
      go_ret
      exact ⟨by first | rfl | (simp; done) | (simp [*]; done), by repeat (first | exact Drawn0.refl _ | apply Drawn0.step)⟩
def paygen_Deck_Code.f (k : Nat) (s0_0 : List Int) (s0_1 : Int) : Option (ByteArray × Int) := (some (([(⟨#[98, 111, 110, 117, 115]⟩ : ByteArray), (⟨#[99, 97, 114]⟩ : ByteArray), (⟨#[110, 105, 103, 104, 116]⟩ : ByteArray), (⟨#[115, 97, 108, 97, 114, 121]⟩ : ByteArray), (⟨#[97]⟩ : ByteArray), (⟨#[98]⟩ : ByteArray), (⟨#[120, 49]⟩ : ByteArray), (⟨#[97, 98, 99, 100, 101, 102, 103, 104, 105, 106, 107, 108, 109, 110, 111, 112, 113, 114, 115, 116, 117, 118, 119, 120]⟩ : ByteArray)] : List ByteArray) : List ByteArray)).bind fun y137 => ((paygen_Deck_Next.f k s0_0 s0_1 8).bind fun bt140 => (if 0 ≤ bt140.1 then (if bt140.1 < (y137.length : Int) then (some (rdOf ByteArray.empty y137 bt140.1, bt140.2)) else (none)) else (none)))
set_option maxHeartbeats 8000000 in
set_option maxRecDepth 100000 in
theorem paygen_Deck_Code.calls (k : Nat) (g : Nat) (s0_0 : List Int) (s0_1 : Int) (r1 : ByteArray) (r2 : Int) (w0 w : World) (hI : IsS52 w0 w g s0_0 s0_1) (hB : Below w0.heap.size w0 w) (h : paygen_Deck_Code.f k s0_0 s0_1 = some (r1, r2)) :
    Calls Tryd.prog 26 #[.pointer (some ⟨g, 0, none⟩)] w fun e w' => e = .returned (.string r1) ∧ IsS52 w0 w' g s0_0 r2 ∧ Below w0.heap.size w0 w' ∧ KeepBut w w' g none := by
  have HI0 := Aside0.mk hI
  have HK := Aside0.mk (KeepBut.refl w g none)
  have HL := Aside0.mk hB.size
  clear hI
  have HW0 := Aside0.mk hB.size
  have HB := Aside0.mk hB
  clear hB
  have H : ((some (([(⟨#[98, 111, 110, 117, 115]⟩ : ByteArray), (⟨#[99, 97, 114]⟩ : ByteArray), (⟨#[110, 105, 103, 104, 116]⟩ : ByteArray), (⟨#[115, 97, 108, 97, 114, 121]⟩ : ByteArray), (⟨#[97]⟩ : ByteArray), (⟨#[98]⟩ : ByteArray), (⟨#[120, 49]⟩ : ByteArray), (⟨#[97, 98, 99, 100, 101, 102, 103, 104, 105, 106, 107, 108, 109, 110, 111, 112, 113, 114, 115, 116, 117, 118, 119, 120]⟩ : ByteArray)] : List ByteArray) : List ByteArray)).bind fun y137 => ((paygen_Deck_Next.f k s0_0 s0_1 8).bind fun bt140 => (if 0 ≤ bt140.1 then (if bt140.1 < (y137.length : Int) then (some (rdOf ByteArray.empty y137 bt140.1, bt140.2)) else (none)) else (none)))) = some (r1, r2) := h
  clear h
  obtain ⟨y137, hy137⟩ : ∃ y_ : List ByteArray, y_ = (([(⟨#[98, 111, 110, 117, 115]⟩ : ByteArray), (⟨#[99, 97, 114]⟩ : ByteArray), (⟨#[110, 105, 103, 104, 116]⟩ : ByteArray), (⟨#[115, 97, 108, 97, 114, 121]⟩ : ByteArray), (⟨#[97]⟩ : ByteArray), (⟨#[98]⟩ : ByteArray), (⟨#[120, 49]⟩ : ByteArray), (⟨#[97, 98, 99, 100, 101, 102, 103, 104, 105, 106, 107, 108, 109, 110, 111, 112, 113, 114, 115, 116, 117, 118, 119, 120]⟩ : ByteArray)] : List ByteArray)) := ⟨_, rfl⟩
  replace H : ((paygen_Deck_Next.f k s0_0 s0_1 8).bind fun bt140 => (if 0 ≤ bt140.1 then (if bt140.1 < (y137.length : Int) then (some (rdOf ByteArray.empty y137 bt140.1, bt140.2)) else (none)) else (none))) = some (r1, r2) := by first | (rw [hy137]; with_reducible exact H) | (have H2_ := (Option.bind_some _ _).symm.trans H; rw [hy137]; with_reducible exact H2_) | (have H2_ := (Option.bind_some _ _).symm.trans H; with_reducible exact H2_) | with_reducible exact H | (rw [hy137]; exact H) | exact H
  have Ny137 := Aside0.mk hy137
  clear hy137
  replace H := Option.bind_eq_some_iff.mp H
  obtain ⟨⟨t140, t141⟩, A20, H⟩ := H
  replace H : (if 0 ≤ t140 then (if t140 < (y137.length : Int) then (some (rdOf ByteArray.empty y137 t140, t141)) else (none)) else (none)) = some (r1, r2) := H
  have A2 := Aside0.mk A20
  clear A20
  by_cases c3 : 0 ≤ t140
  · rw [if_pos c3] at H
    have c3b0 : decide (0 ≤ t140) = true := decide_eq_true c3
    clear c3
    by_cases c4 : t140 < (y137.length : Int)
    · rw [if_pos c4] at H
      have c4b0 : decide (t140 < (y137.length : Int)) = true := decide_eq_true c4
      clear c4
      simp only [Option.some.injEq, Prod.mk.injEq] at H
      obtain ⟨rfl, rfl⟩ := H
      go_enter Tryd.func26, Tryd.ntmps26
      go_wp2_with (first | ((with_reducible refine gate_dst (N := 3) rfl ?_); refine Kd.R_lit Kd.string _ 9 ?hg (N := 3) ?hd (xs := ([(⟨#[98, 111, 110, 117, 115]⟩ : ByteArray), (⟨#[99, 97, 114]⟩ : ByteArray), (⟨#[110, 105, 103, 104, 116]⟩ : ByteArray), (⟨#[115, 97, 108, 97, 114, 121]⟩ : ByteArray), (⟨#[97]⟩ : ByteArray), (⟨#[98]⟩ : ByteArray), (⟨#[120, 49]⟩ : ByteArray), (⟨#[97, 98, 99, 100, 101, 102, 103, 104, 105, 106, 107, 108, 109, 110, 111, 112, 113, 114, 115, 116, 117, 118, 119, 120]⟩ : ByteArray)] : List ByteArray)) (inner := [.string (⟨#[98, 111, 110, 117, 115]⟩ : ByteArray), .string (⟨#[99, 97, 114]⟩ : ByteArray), .string (⟨#[110, 105, 103, 104, 116]⟩ : ByteArray), .string (⟨#[115, 97, 108, 97, 114, 121]⟩ : ByteArray), .string (⟨#[97]⟩ : ByteArray), .string (⟨#[98]⟩ : ByteArray), .string (⟨#[120, 49]⟩ : ByteArray), .string (⟨#[97, 98, 99, 100, 101, 102, 103, 104, 105, 106, 107, 108, 109, 110, 111, 112, 113, 114, 115, 116, 117, 118, 119, 120]⟩ : ByteArray)]) (ok := fun _ => True) (okp := fun _ => True) ?hr ?hp (fun _ hk => hk) trivial (Below.refl _ _) (Nat.le_refl _) (by simp) ?_; (case hd => rfl); (case hg => rfl); (case hr => first | (go_simp; done) | (go_simp; rfl)); (case hp => exact (Reps.one (show Kd.M Kd.string _ _ _ (⟨#[98, 111, 110, 117, 115]⟩ : ByteArray) [.string (⟨#[98, 111, 110, 117, 115]⟩ : ByteArray)] from rfl) (Reps.one (show Kd.M Kd.string _ _ _ (⟨#[99, 97, 114]⟩ : ByteArray) [.string (⟨#[99, 97, 114]⟩ : ByteArray)] from rfl) (Reps.one (show Kd.M Kd.string _ _ _ (⟨#[110, 105, 103, 104, 116]⟩ : ByteArray) [.string (⟨#[110, 105, 103, 104, 116]⟩ : ByteArray)] from rfl) (Reps.one (show Kd.M Kd.string _ _ _ (⟨#[115, 97, 108, 97, 114, 121]⟩ : ByteArray) [.string (⟨#[115, 97, 108, 97, 114, 121]⟩ : ByteArray)] from rfl) (Reps.one (show Kd.M Kd.string _ _ _ (⟨#[97]⟩ : ByteArray) [.string (⟨#[97]⟩ : ByteArray)] from rfl) (Reps.one (show Kd.M Kd.string _ _ _ (⟨#[98]⟩ : ByteArray) [.string (⟨#[98]⟩ : ByteArray)] from rfl) (Reps.one (show Kd.M Kd.string _ _ _ (⟨#[120, 49]⟩ : ByteArray) [.string (⟨#[120, 49]⟩ : ByteArray)] from rfl) (Reps.one (show Kd.M Kd.string _ _ _ (⟨#[97, 98, 99, 100, 101, 102, 103, 104, 105, 106, 107, 108, 109, 110, 111, 112, 113, 114, 115, 116, 117, 118, 119, 120]⟩ : ByteArray) [.string (⟨#[97, 98, 99, 100, 101, 102, 103, 104, 105, 106, 107, 108, 109, 110, 111, 112, 113, 114, 115, 116, 117, 118, 119, 120]⟩ : ByteArray)] from rfl) (Reps.none _ _)))))))))); intro v138 w5 ho6 hb hg_ hnew_; clear hg_ hnew_; (first | rw [← Ny137.out] at ho6 | (simp only [Int.reduceToNat] at ho6; rw [← Ny137.out] at ho6)); have n0_ := Aside0.mk (Kd.R_lower ho6 (keep_size (w := w) (g := g) (row := none) (by repeat (first | (with_reducible first | exact HK.out | apply KeepBut.set_ | apply keep_drewN | apply keep_drew | apply keep_alloc) | exact HK.out)))); have n1_ := Aside0.mk (IsS52.below (by repeat (first | (with_reducible first | exact HI0.out | apply IsS52.alloc | apply IsS52.drewN | apply IsS52.drew | apply IsS52.set_1) | exact HI0.out)) hb); have n2_ := Aside0.mk (KeepBut.trans (by repeat (first | (with_reducible first | exact HK.out | apply KeepBut.set_ | apply keep_drewN | apply keep_drew | apply keep_alloc) | exact HK.out)) (KeepBut.of_below hb g none) (.inl rfl)); have n3_ := Aside0.mk (below_step (by repeat (first | (with_reducible first | exact HB.out | apply below_alloc | apply pw_below_drewN | apply below_drew1 | refine below_set ?_ (IsS52.ge HI0.out)) | exact HB.out)) hb); clear HI0; clear HK; clear HB; have HO139 := n0_; have HI0 := n1_; have HK := n2_; have HB := n3_; clear n0_ n1_ n2_ n3_; clear hb ho6) | ((with_reducible refine gate_callee (f := 23) rfl ?_); refine goesL_ (some 5) rfl rfl Tryd.func23 (by kernel_rfl) rfl #[.pointer (some ⟨g, 0, none⟩), .int .i64 8] rfl (by (try simp only [List.map_toArray, List.map_cons, List.map_nil]); first | done | rfl | (simp only [List.length_drop, List.length_take]; rfl)) ?_; (with_reducible refine (paygen_Deck_Next.calls k g s0_0 s0_1 8 t140 t141 w0 _ ?side1 ?side2 A2.out).mono ?_); (case side1 => repeat (first | (with_reducible first | exact HI0.out | apply IsS52.alloc | apply IsS52.drewN | apply IsS52.drew | apply IsS52.set_1) | exact HI0.out)); (case side2 => repeat (first | (with_reducible first | exact HB.out | apply below_alloc | apply pw_below_drewN | apply below_drew1 | refine below_set ?_ (IsS52.ge HI0.out)) | exact HB.out)); rintro e w7 ⟨rfl, hi, hb, hk⟩; refine ⟨_, rfl, ?_⟩; have n0_ := Aside0.mk (Kd.R_mono (Kd.R_keep (IsS52.apart (show IsS52 w0 _ g s0_0 s0_1 from by repeat (first | (with_reducible first | exact HI0.out | apply IsS52.alloc | apply IsS52.drewN | apply IsS52.drew | apply IsS52.set_1) | exact HI0.out)) (by (with_reducible repeat (first | apply Kd.R_alloc | apply Kd.R_drewN | apply Kd.R_drew)); exact HO139.out) (by decide)) hk (fun _ h => h.2)) (fun _ h => h.1)); have n1_ := Aside0.mk (KeepBut.trans (by repeat (first | (with_reducible first | exact HK.out | apply KeepBut.set_ | apply keep_drewN | apply keep_drew | apply keep_alloc) | exact HK.out)) hk (.inl rfl)); have n2_ := Aside0.mk (hb); have n3_ := Aside0.mk (hi); clear HO139; clear HK; clear HB; clear HI0; have HO139 := n0_; have HK := n1_; have HB := n2_; have HI0 := n3_; clear n0_ n1_ n2_ n3_; (try clear hb); (try clear hb2); (try clear hk); (try clear hi); obtain ⟨Ao8, co8, eo8⟩ := Kd.R_slice HO139.out; subst eo8; have p142 : 0 ≤ (t140 : Int) := of_decide_eq_true (by first | (with_reducible assumption) | assumption); have q142 : t140 < (y137.length : Int) := of_decide_eq_true (by first | (with_reducible assumption) | assumption); obtain ⟨ad142, e142, hx142_0⟩ := Kd.at_string (Kd.R_reads' HO139.out).2.2 t140 p142 q142; cases e142; replace p142 := eq_true p142; replace q142 := eq_true q142))
      go_ret
      exact ⟨by first | rfl | (simp [errW_none, errW_some] <;> rfl) | (simp [*, errW_none, errW_some] <;> rfl), by repeat (first | (with_reducible first | exact HI0.out | apply IsS52.alloc | apply IsS52.drewN | apply IsS52.drew | apply IsS52.set_1) | exact HI0.out), by repeat (first | (with_reducible first | exact HB.out | apply below_alloc | apply pw_below_drewN | apply below_drew1 | refine below_set ?_ (IsS52.ge HI0.out)) | exact HB.out), by repeat (first | (with_reducible first | exact HK.out | apply KeepBut.set_ | apply keep_drewN | apply keep_drew | apply keep_alloc) | exact HK.out)⟩
    · rw [if_neg c4] at H
      exact absurd H (by simp)
  · rw [if_neg c3] at H
    exact absurd H (by simp)
def paygen_Deck_Line.j0 : Nat → List Int → Int → Int → ByteArray → Int → Option (Int × ByteArray × Int × Int)
  | 0, _, _, _, _, _ => none
  | k + 1, x1000, x1001, x149000, x149001, x149002 => (paygen_Deck_Next.f k x1000 x1001 3).bind fun bt152 => (if bt152.1 = 0 then (some (x149000, x149001, wrap64 (-x149002), bt152.2)) else (some (x149000, x149001, x149002, bt152.2)))
def paygen_Deck_Line.f (k : Nat) (s0_0 : List Int) (s0_1 : Int) : Option (Int × ByteArray × Int × Int) := (paygen_Deck_Next.f k s0_0 s0_1 10).bind fun bt144 => ((paygen_Deck_Small.f k s0_0 bt144.2).bind fun bt146 => ((payrollref32_Bare.f (wrap64 (1 + bt144.1))).bind fun t149 => (if t149 = true then (paygen_Deck_Line.j0 k s0_0 bt146.2 (wrap64 (1 + bt144.1)) (⟨#[]⟩ : ByteArray) (wrap64 (1 + bt146.1))) else ((paygen_Deck_Code.f k s0_0 bt146.2).bind fun bt150 => (paygen_Deck_Line.j0 k s0_0 bt150.2 (wrap64 (1 + bt144.1)) bt150.1 (wrap64 (1 + bt146.1)))))))
set_option maxHeartbeats 8000000 in
set_option maxRecDepth 100000 in
theorem paygen_Deck_Line.calls (k : Nat) (g : Nat) (s0_0 : List Int) (s0_1 : Int) (r1 : Int) (r2 : ByteArray) (r3 : Int) (r4 : Int) (w0 w : World) (hI : IsS52 w0 w g s0_0 s0_1) (hB : Below w0.heap.size w0 w) (h : paygen_Deck_Line.f k s0_0 s0_1 = some (r1, r2, r3, r4)) :
    Calls Tryd.prog 10 #[.pointer (some ⟨g, 0, none⟩)] w fun e w' => e = .returned (.agg #[.int .i64 r1, .string r2, .int .i64 r3]) ∧ IsS52 w0 w' g s0_0 r4 ∧ Below w0.heap.size w0 w' ∧ KeepBut w w' g none := by
  have hu23 := Tryd.underlying23
  have HI0 := Aside0.mk hI
  have HK := Aside0.mk (KeepBut.refl w g none)
  have HL := Aside0.mk hB.size
  clear hI
  have HW0 := Aside0.mk hB.size
  have HB := Aside0.mk hB
  clear hB
  have H : ((paygen_Deck_Next.f k s0_0 s0_1 10).bind fun bt144 => ((paygen_Deck_Small.f k s0_0 bt144.2).bind fun bt146 => ((payrollref32_Bare.f (wrap64 (1 + bt144.1))).bind fun t149 => (if t149 = true then (paygen_Deck_Line.j0 k s0_0 bt146.2 (wrap64 (1 + bt144.1)) (⟨#[]⟩ : ByteArray) (wrap64 (1 + bt146.1))) else ((paygen_Deck_Code.f k s0_0 bt146.2).bind fun bt150 => (paygen_Deck_Line.j0 k s0_0 bt150.2 (wrap64 (1 + bt144.1)) bt150.1 (wrap64 (1 + bt146.1)))))))) = some (r1, r2, r3, r4) := h
  clear h
  replace H := Option.bind_eq_some_iff.mp H
  obtain ⟨⟨t144, t145⟩, A20, H⟩ := H
  replace H : ((paygen_Deck_Small.f k s0_0 t145).bind fun bt146 => ((payrollref32_Bare.f (wrap64 (1 + t144))).bind fun t149 => (if t149 = true then (paygen_Deck_Line.j0 k s0_0 bt146.2 (wrap64 (1 + t144)) (⟨#[]⟩ : ByteArray) (wrap64 (1 + bt146.1))) else ((paygen_Deck_Code.f k s0_0 bt146.2).bind fun bt150 => (paygen_Deck_Line.j0 k s0_0 bt150.2 (wrap64 (1 + t144)) bt150.1 (wrap64 (1 + bt146.1))))))) = some (r1, r2, r3, r4) := H
  have A2 := Aside0.mk A20
  clear A20
  replace H := Option.bind_eq_some_iff.mp H
  obtain ⟨⟨t146, t147⟩, A30, H⟩ := H
  replace H : ((payrollref32_Bare.f (wrap64 (1 + t144))).bind fun t149 => (if t149 = true then (paygen_Deck_Line.j0 k s0_0 t147 (wrap64 (1 + t144)) (⟨#[]⟩ : ByteArray) (wrap64 (1 + t146))) else ((paygen_Deck_Code.f k s0_0 t147).bind fun bt150 => (paygen_Deck_Line.j0 k s0_0 bt150.2 (wrap64 (1 + t144)) bt150.1 (wrap64 (1 + t146)))))) = some (r1, r2, r3, r4) := H
  have A3 := Aside0.mk A30
  clear A30
  replace H := Option.bind_eq_some_iff.mp H
  obtain ⟨t149, A40, H⟩ := H
  replace H : (if t149 = true then (paygen_Deck_Line.j0 k s0_0 t147 (wrap64 (1 + t144)) (⟨#[]⟩ : ByteArray) (wrap64 (1 + t146))) else ((paygen_Deck_Code.f k s0_0 t147).bind fun bt150 => (paygen_Deck_Line.j0 k s0_0 bt150.2 (wrap64 (1 + t144)) bt150.1 (wrap64 (1 + t146))))) = some (r1, r2, r3, r4) := H
  have A4 := Aside0.mk A40
  clear A40
  have HC5 := Aside0.mk H
  clear H
  go_enter Tryd.func10, Tryd.ntmps10
  go_upto_if 14 with (first | ((with_reducible refine gate_dst (N := 2) rfl ?_); refine box_event ?hg (N := 2) ?hd (cs := #[.int .i64 0, .string (⟨#[]⟩ : ByteArray), .int .i64 0]) (t := 23) ?hr ?_; (case hd => rfl); (case hg => rfl); (case hr => first | (go_simp; done) | (go_simp; rfl)); intro gb143 hg w6 hbox hb; have n0_ := Aside0.mk (IsS52.below (by repeat (first | (with_reducible first | exact HI0.out | apply IsS52.alloc | apply IsS52.drewN | apply IsS52.drew | apply IsS52.set_1) | exact HI0.out)) hb); have n1_ := Aside0.mk (KeepBut.trans (by repeat (first | (with_reducible first | exact HK.out | apply KeepBut.set_ | apply keep_drewN | apply keep_drew | apply keep_alloc) | exact HK.out)) (KeepBut.of_below hb g none) (.inl rfl)); have n2_ := Aside0.mk (below_step (by repeat (first | (with_reducible first | exact HB.out | apply below_alloc | apply pw_below_drewN | apply below_drew1 | refine below_set ?_ (IsS52.ge HI0.out)) | exact HB.out)) hb); have n3_ := Aside0.mk (hbox); have n4_ := Aside0.mk ((by rw [hg]; exact (keep_size (w := w) (g := g) (row := none) (by repeat (first | (with_reducible first | exact HK.out | apply KeepBut.set_ | apply keep_drewN | apply keep_drew | apply keep_alloc) | exact HK.out))) : w.heap.size ≤ gb143)); have n5_ := Aside0.mk ((Nat.le_trans HW0.out (by rw [hg]; exact (keep_size (w := w) (g := g) (row := none) (by repeat (first | (with_reducible first | exact HK.out | apply KeepBut.set_ | apply keep_drewN | apply keep_drew | apply keep_alloc) | exact HK.out))) : w.heap.size ≤ gb143) : w0.heap.size ≤ gb143)); have n6_ := Aside0.mk ((by rw [hg]; exact Nat.ne_of_lt (IsS52.lt (show IsS52 w0 _ g s0_0 s0_1 from by repeat (first | (with_reducible first | exact HI0.out | apply IsS52.alloc | apply IsS52.drewN | apply IsS52.drew | apply IsS52.set_1) | exact HI0.out))) : g ≠ gb143)); have n7_ := Aside0.mk ((by rw [hg]; exact Nat.ne_of_gt (IsS52.lt (show IsS52 w0 _ g s0_0 s0_1 from by repeat (first | (with_reducible first | exact HI0.out | apply IsS52.alloc | apply IsS52.drewN | apply IsS52.drew | apply IsS52.set_1) | exact HI0.out))) : gb143 ≠ g)); clear HI0; clear HK; clear HB; have HI0 := n0_; have HK := n1_; have HB := n2_; have BK143 := n3_; have GW143 := n4_; have GE143 := n5_; have NB0_143 := n6_; have NB143_0 := n7_; clear n0_ n1_ n2_ n3_ n4_ n5_ n6_ n7_; clear hb hbox hg) | ((with_reducible refine gate_callee (f := 23) rfl ?_); refine goesL_ (some 5) rfl rfl Tryd.func23 (by kernel_rfl) rfl #[.pointer (some ⟨g, 0, none⟩), .int .i64 10] rfl (by (try simp only [List.map_toArray, List.map_cons, List.map_nil]); first | done | rfl | (simp only [List.length_drop, List.length_take]; rfl)) ?_; (with_reducible refine (paygen_Deck_Next.calls k g s0_0 s0_1 10 t144 t145 w0 _ ?side1 ?side2 A2.out).mono ?_); (case side1 => repeat (first | (with_reducible first | exact HI0.out | apply IsS52.alloc | apply IsS52.drewN | apply IsS52.drew | apply IsS52.set_1 | refine IsS52.far ?_ NB0_143.out _) | exact HI0.out)); (case side2 => repeat (first | (with_reducible first | exact HB.out | apply below_alloc | apply pw_below_drewN | apply below_drew1 | refine below_set ?_ (IsS52.ge HI0.out) | refine below_set ?_ GE143.out) | exact HB.out)); rintro e w7 ⟨rfl, hi, hb, hk⟩; refine ⟨_, rfl, ?_⟩; have n0_ := Aside0.mk (KeepBut.blk hk (g' := gb143) (o := .cells #[.int .i64 0, .string (⟨#[]⟩ : ByteArray), .int .i64 0] 23 (0, 0)) (by (with_reducible repeat (first | refine blk_drewN ?_ _ | refine blk_drew ?_ | refine blk_alloc ?_ _)); exact BK143.out) NB143_0.out (by simp)); have n1_ := Aside0.mk (KeepBut.trans (by repeat (first | (with_reducible first | exact HK.out | apply KeepBut.set_ | apply keep_drewN | apply keep_drew | apply keep_alloc | refine keep_far ?_ GW143.out _) | exact HK.out)) hk (.inl rfl)); have n2_ := Aside0.mk (hb); have n3_ := Aside0.mk (hi); clear BK143; clear HK; clear HB; clear HI0; have BK143 := n0_; have HK := n1_; have HB := n2_; have HI0 := n3_; clear n0_ n1_ n2_ n3_; (try clear hb); (try clear hb2); (try clear hk); (try clear hi)) | ((with_reducible refine gate_callee (f := 24) rfl ?_); refine goesL_ (some 8) rfl rfl Tryd.func24 (by kernel_rfl) rfl #[.pointer (some ⟨g, 0, none⟩)] rfl (by (try simp only [List.map_toArray, List.map_cons, List.map_nil]); first | done | rfl | (simp only [List.length_drop, List.length_take]; rfl)) ?_; (with_reducible refine (paygen_Deck_Small.calls k g s0_0 t145 t146 t147 w0 _ ?side1 ?side2 A3.out).mono ?_); (case side1 => repeat (first | (with_reducible first | exact HI0.out | apply IsS52.alloc | apply IsS52.drewN | apply IsS52.drew | apply IsS52.set_1 | refine IsS52.far ?_ NB0_143.out _) | exact HI0.out)); (case side2 => repeat (first | (with_reducible first | exact HB.out | apply below_alloc | apply pw_below_drewN | apply below_drew1 | refine below_set ?_ (IsS52.ge HI0.out) | refine below_set ?_ GE143.out) | exact HB.out)); rintro e w8 ⟨rfl, hi, hb, hk⟩; refine ⟨_, rfl, ?_⟩; have n0_ := Aside0.mk (KeepBut.blk hk (g' := gb143) (o := .cells #[.int .i64 0, .string (⟨#[]⟩ : ByteArray), .int .i64 0] 23 (0, 0)) (by (with_reducible repeat (first | refine blk_drewN ?_ _ | refine blk_drew ?_ | refine blk_alloc ?_ _)); exact BK143.out) NB143_0.out (by simp)); have n1_ := Aside0.mk (KeepBut.trans (by repeat (first | (with_reducible first | exact HK.out | apply KeepBut.set_ | apply keep_drewN | apply keep_drew | apply keep_alloc | refine keep_far ?_ GW143.out _) | exact HK.out)) hk (.inl rfl)); have n2_ := Aside0.mk (hb); have n3_ := Aside0.mk (hi); clear BK143; clear HK; clear HB; clear HI0; have BK143 := n0_; have HK := n1_; have HB := n2_; have HI0 := n3_; clear n0_ n1_ n2_ n3_; (try clear hb); (try clear hb2); (try clear hk); (try clear hi)) | ((with_reducible refine gate_dst (N := 3) rfl ?_); refine box_event ?hg (N := 3) ?hd (cs := #[.int .i64 0, .string (⟨#[]⟩ : ByteArray), .int .i64 0]) (t := 23) ?hr ?_; (case hd => rfl); (case hg => rfl); (case hr => first | (go_simp; done) | (go_simp; rfl)); intro gb148 hg w9 hbox hb; have n0_ := Aside0.mk (IsS52.below (by repeat (first | (with_reducible first | exact HI0.out | apply IsS52.alloc | apply IsS52.drewN | apply IsS52.drew | apply IsS52.set_1 | refine IsS52.far ?_ NB0_143.out _) | exact HI0.out)) hb); have n1_ := Aside0.mk (blk_below (g := gb143) (o := .cells #[.int .i64 0, .string (⟨#[]⟩ : ByteArray), .int .i64 0] 23 (0, 0)) (by (with_reducible repeat (first | refine blk_drewN ?_ _ | refine blk_drew ?_ | refine blk_alloc ?_ _)); exact BK143.out) hb); have n2_ := Aside0.mk (KeepBut.trans (by repeat (first | (with_reducible first | exact HK.out | apply KeepBut.set_ | apply keep_drewN | apply keep_drew | apply keep_alloc | refine keep_far ?_ GW143.out _) | exact HK.out)) (KeepBut.of_below hb g none) (.inl rfl)); have n3_ := Aside0.mk (below_step (by repeat (first | (with_reducible first | exact HB.out | apply below_alloc | apply pw_below_drewN | apply below_drew1 | refine below_set ?_ (IsS52.ge HI0.out) | refine below_set ?_ GE143.out) | exact HB.out)) hb); have n4_ := Aside0.mk (hbox); have n5_ := Aside0.mk ((by rw [hg]; exact (keep_size (w := w) (g := g) (row := none) (by repeat (first | (with_reducible first | exact HK.out | apply KeepBut.set_ | apply keep_drewN | apply keep_drew | apply keep_alloc | refine keep_far ?_ GW143.out _) | exact HK.out))) : w.heap.size ≤ gb148)); have n6_ := Aside0.mk ((Nat.le_trans HW0.out (by rw [hg]; exact (keep_size (w := w) (g := g) (row := none) (by repeat (first | (with_reducible first | exact HK.out | apply KeepBut.set_ | apply keep_drewN | apply keep_drew | apply keep_alloc | refine keep_far ?_ GW143.out _) | exact HK.out))) : w.heap.size ≤ gb148) : w0.heap.size ≤ gb148)); have n7_ := Aside0.mk ((by rw [hg]; exact Nat.ne_of_lt (blk_lt (g := gb143) (o := .cells #[.int .i64 0, .string (⟨#[]⟩ : ByteArray), .int .i64 0] 23 (0, 0)) (by (with_reducible repeat (first | refine blk_drewN ?_ _ | refine blk_drew ?_ | refine blk_alloc ?_ _)); exact BK143.out)) : gb143 ≠ gb148)); have n8_ := Aside0.mk ((by rw [hg]; exact Nat.ne_of_gt (blk_lt (g := gb143) (o := .cells #[.int .i64 0, .string (⟨#[]⟩ : ByteArray), .int .i64 0] 23 (0, 0)) (by (with_reducible repeat (first | refine blk_drewN ?_ _ | refine blk_drew ?_ | refine blk_alloc ?_ _)); exact BK143.out)) : gb148 ≠ gb143)); have n9_ := Aside0.mk ((by rw [hg]; exact Nat.ne_of_lt (IsS52.lt (show IsS52 w0 _ g s0_0 t147 from by repeat (first | (with_reducible first | exact HI0.out | apply IsS52.alloc | apply IsS52.drewN | apply IsS52.drew | apply IsS52.set_1 | refine IsS52.far ?_ NB0_143.out _) | exact HI0.out))) : g ≠ gb148)); have n10_ := Aside0.mk ((by rw [hg]; exact Nat.ne_of_gt (IsS52.lt (show IsS52 w0 _ g s0_0 t147 from by repeat (first | (with_reducible first | exact HI0.out | apply IsS52.alloc | apply IsS52.drewN | apply IsS52.drew | apply IsS52.set_1 | refine IsS52.far ?_ NB0_143.out _) | exact HI0.out))) : gb148 ≠ g)); clear HI0; clear BK143; clear HK; clear HB; have HI0 := n0_; have BK143 := n1_; have HK := n2_; have HB := n3_; have BK148 := n4_; have GW148 := n5_; have GE148 := n6_; have NB143_148 := n7_; have NB148_143 := n8_; have NB0_148 := n9_; have NB148_0 := n10_; clear n0_ n1_ n2_ n3_ n4_ n5_ n6_ n7_ n8_ n9_ n10_; clear hb hbox hg; have hnb10 := NB148_143.out; have hnc10 := NB143_148.out; have hnb11 := NB148_0.out; have hnc11 := NB0_148.out; have hcz12_0 : w9.cell? ⟨gb148, 0, none⟩ = some (.int .i64 0) := (blk_cell BK148.out 0).trans rfl; have hcz12_1 : w9.cell? ⟨gb148, 1, none⟩ = some (.string (⟨#[]⟩ : ByteArray)) := (blk_cell BK148.out 1).trans rfl; have hcz12_2 : w9.cell? ⟨gb148, 2, none⟩ = some (.int .i64 0) := (blk_cell BK148.out 2).trans rfl; have hfz12_0 := blk_frozen BK148.out 0; have hfz12_1 := blk_frozen BK148.out 1; have hfz12_2 := blk_frozen BK148.out 2) | ((with_reducible refine gate_callee (f := 25) rfl ?_); refine goesL_ (some 13) rfl rfl Tryd.func25 (by kernel_rfl) rfl #[.int .i64 (wrap64 (1 + t144))] rfl (by (try simp only [List.map_toArray, List.map_cons, List.map_nil]); first | done | rfl | (simp only [List.length_drop, List.length_take]; rfl)) ?_; (with_reducible refine (payrollref32_Bare.calls (wrap64 (1 + t144)) t149 _ A4.out).mono ?_); rintro e w' ⟨rfl, ⟨nd, rfl⟩⟩; refine ⟨_, rfl, ?_⟩))
  (try simp only [Act.put, List.setIfInBounds_toArray, List.set_cons_zero, List.set_cons_succ])
  go_cut [] (fun wc => ∃ (kq : Nat) (x1001_4 : Int) (x149001_4 : ByteArray), Aside0 (paygen_Deck_Line.j0 kq s0_0 x1001_4 (wrap64 (1 + t144)) x149001_4 (wrap64 (1 + t146)) = some (r1, r2, r3, r4)) ∧ Aside0 (kq ≤ k) ∧ Aside0 (wc.heap[gb143]? = some (.cells #[.int .i64 0, .string (⟨#[]⟩ : ByteArray), .int .i64 0] 23 (0, 0))) ∧ Aside0 (wc.heap[gb148]? = some (.cells #[.int .i64 (wrap64 (1 + t144)), .string x149001_4, .int .i64 (wrap64 (1 + t146))] 23 (0, 0))) ∧ Aside0 (IsS52 w0 wc g s0_0 x1001_4) ∧ Aside0 (KeepBut w wc g none) ∧ Aside0 (Below w0.heap.size w0 wc))
  case first =>
    have H := HC5.out
    clear HC5
    by_cases c13 : t149 = true
    · subst c13
      have H1 : (paygen_Deck_Line.j0 k s0_0 t147 (wrap64 (1 + t144)) (⟨#[]⟩ : ByteArray) (wrap64 (1 + t146))) = some (r1, r2, r3, r4) := by rw [if_pos rfl] at H; exact H
      clear H
      have H := H1
      clear H1
      have H' := Aside0.mk H
      clear H
      go_wp2
      go_meet
      case rel => exact ⟨_, (t147), ((⟨#[]⟩ : ByteArray)), H', ⟨by first | omega | exact Nat.le_refl _⟩, ⟨by (with_reducible repeat (first | refine blk_drewN ?_ _ | refine blk_drew ?_ | refine blk_alloc ?_ _)); refine blk_far ?_ NB143_148.out _; (with_reducible repeat (first | refine blk_drewN ?_ _ | refine blk_drew ?_ | refine blk_alloc ?_ _)); refine blk_far ?_ NB143_148.out _; (with_reducible repeat (first | refine blk_drewN ?_ _ | refine blk_drew ?_ | refine blk_alloc ?_ _)); refine blk_far ?_ NB143_148.out _; (with_reducible repeat (first | refine blk_drewN ?_ _ | refine blk_drew ?_ | refine blk_alloc ?_ _)); exact BK143.out⟩, ⟨by (with_reducible repeat (first | refine blk_drewN ?_ _ | refine blk_drew ?_ | refine blk_alloc ?_ _)); refine blk_put (cs := #[.int .i64 (wrap64 (1 + t144)), .string (⟨#[]⟩ : ByteArray), .int .i64 0]) ?_ 2 _ rfl; (with_reducible repeat (first | refine blk_drewN ?_ _ | refine blk_drew ?_ | refine blk_alloc ?_ _)); refine blk_put (cs := #[.int .i64 (wrap64 (1 + t144)), .string (⟨#[]⟩ : ByteArray), .int .i64 0]) ?_ 1 _ rfl; (with_reducible repeat (first | refine blk_drewN ?_ _ | refine blk_drew ?_ | refine blk_alloc ?_ _)); refine blk_put (cs := #[.int .i64 0, .string (⟨#[]⟩ : ByteArray), .int .i64 0]) ?_ 0 _ rfl; (with_reducible repeat (first | refine blk_drewN ?_ _ | refine blk_drew ?_ | refine blk_alloc ?_ _)); exact BK148.out⟩, ⟨by repeat (first | (with_reducible first | exact HI0.out | apply IsS52.alloc | apply IsS52.drewN | apply IsS52.drew | apply IsS52.set_1 | refine IsS52.far ?_ NB0_143.out _ | refine IsS52.far ?_ NB0_148.out _) | exact HI0.out)⟩, ⟨by repeat (first | (with_reducible first | exact HK.out | apply KeepBut.set_ | apply keep_drewN | apply keep_drew | apply keep_alloc | refine keep_far ?_ GW143.out _ | refine keep_far ?_ GW148.out _) | exact HK.out)⟩, ⟨by repeat (first | (with_reducible first | exact HB.out | apply below_alloc | apply pw_below_drewN | apply below_drew1 | refine below_set ?_ (IsS52.ge HI0.out) | refine below_set ?_ GE143.out | refine below_set ?_ GE148.out) | exact HB.out)⟩⟩
    · replace c13 := Bool.eq_false_iff.mpr c13
      subst c13
      have H1 : ((paygen_Deck_Code.f k s0_0 t147).bind fun bt150 => (paygen_Deck_Line.j0 k s0_0 bt150.2 (wrap64 (1 + t144)) bt150.1 (wrap64 (1 + t146)))) = some (r1, r2, r3, r4) := by rw [if_neg (show ¬ (false = true) by decide)] at H; exact H
      clear H
      have H := H1
      clear H1
      replace H := Option.bind_eq_some_iff.mp H
      obtain ⟨⟨t150, t151⟩, A140, H⟩ := H
      replace H : (paygen_Deck_Line.j0 k s0_0 t151 (wrap64 (1 + t144)) t150 (wrap64 (1 + t146))) = some (r1, r2, r3, r4) := H
      have A14 := Aside0.mk A140
      clear A140
      have H' := Aside0.mk H
      clear H
      go_wp2_with (first | ((with_reducible refine gate_callee (f := 26) rfl ?_); refine goesL_ (some 16) rfl rfl Tryd.func26 (by kernel_rfl) rfl #[.pointer (some ⟨g, 0, none⟩)] rfl (by (try simp only [List.map_toArray, List.map_cons, List.map_nil]); first | done | rfl | (simp only [List.length_drop, List.length_take]; rfl)) ?_; (with_reducible refine (paygen_Deck_Code.calls k g s0_0 t147 t150 t151 w0 _ ?side1 ?side2 A14.out).mono ?_); (case side1 => repeat (first | (with_reducible first | exact HI0.out | apply IsS52.alloc | apply IsS52.drewN | apply IsS52.drew | apply IsS52.set_1 | refine IsS52.far ?_ NB0_143.out _ | refine IsS52.far ?_ NB0_148.out _) | exact HI0.out)); (case side2 => repeat (first | (with_reducible first | exact HB.out | apply below_alloc | apply pw_below_drewN | apply below_drew1 | refine below_set ?_ (IsS52.ge HI0.out) | refine below_set ?_ GE143.out | refine below_set ?_ GE148.out) | exact HB.out)); rintro e w15 ⟨rfl, hi, hb, hk⟩; refine ⟨_, rfl, ?_⟩; have n0_ := Aside0.mk (KeepBut.blk hk (g' := gb143) (o := .cells #[.int .i64 0, .string (⟨#[]⟩ : ByteArray), .int .i64 0] 23 (0, 0)) (by (with_reducible repeat (first | refine blk_drewN ?_ _ | refine blk_drew ?_ | refine blk_alloc ?_ _)); refine blk_far ?_ NB143_148.out _; (with_reducible repeat (first | refine blk_drewN ?_ _ | refine blk_drew ?_ | refine blk_alloc ?_ _)); refine blk_far ?_ NB143_148.out _; (with_reducible repeat (first | refine blk_drewN ?_ _ | refine blk_drew ?_ | refine blk_alloc ?_ _)); refine blk_far ?_ NB143_148.out _; (with_reducible repeat (first | refine blk_drewN ?_ _ | refine blk_drew ?_ | refine blk_alloc ?_ _)); exact BK143.out) NB143_0.out (by simp)); have n1_ := Aside0.mk (KeepBut.blk hk (g' := gb148) (o := .cells #[.int .i64 (wrap64 (1 + t144)), .string (⟨#[]⟩ : ByteArray), .int .i64 (wrap64 (1 + t146))] 23 (0, 0)) (by (with_reducible repeat (first | refine blk_drewN ?_ _ | refine blk_drew ?_ | refine blk_alloc ?_ _)); refine blk_put (cs := #[.int .i64 (wrap64 (1 + t144)), .string (⟨#[]⟩ : ByteArray), .int .i64 0]) ?_ 2 _ rfl; (with_reducible repeat (first | refine blk_drewN ?_ _ | refine blk_drew ?_ | refine blk_alloc ?_ _)); refine blk_put (cs := #[.int .i64 (wrap64 (1 + t144)), .string (⟨#[]⟩ : ByteArray), .int .i64 0]) ?_ 1 _ rfl; (with_reducible repeat (first | refine blk_drewN ?_ _ | refine blk_drew ?_ | refine blk_alloc ?_ _)); refine blk_put (cs := #[.int .i64 0, .string (⟨#[]⟩ : ByteArray), .int .i64 0]) ?_ 0 _ rfl; (with_reducible repeat (first | refine blk_drewN ?_ _ | refine blk_drew ?_ | refine blk_alloc ?_ _)); exact BK148.out) NB148_0.out (by simp)); have n2_ := Aside0.mk (KeepBut.trans (by repeat (first | (with_reducible first | exact HK.out | apply KeepBut.set_ | apply keep_drewN | apply keep_drew | apply keep_alloc | refine keep_far ?_ GW143.out _ | refine keep_far ?_ GW148.out _) | exact HK.out)) hk (.inl rfl)); have n3_ := Aside0.mk (hb); have n4_ := Aside0.mk (hi); clear BK143; clear BK148; clear HK; clear HB; clear HI0; have BK143 := n0_; have BK148 := n1_; have HK := n2_; have HB := n3_; have HI0 := n4_; clear n0_ n1_ n2_ n3_ n4_; (try clear hb); (try clear hb2); (try clear hk); (try clear hi); have hnb16 := NB148_143.out; have hnc16 := NB143_148.out; have hnb17 := NB148_0.out; have hnc17 := NB0_148.out; have hcz18_0 : w15.cell? ⟨gb148, 0, none⟩ = some (.int .i64 (wrap64 (1 + t144))) := (blk_cell BK148.out 0).trans rfl; have hcz18_1 : w15.cell? ⟨gb148, 1, none⟩ = some (.string (⟨#[]⟩ : ByteArray)) := (blk_cell BK148.out 1).trans rfl; have hcz18_2 : w15.cell? ⟨gb148, 2, none⟩ = some (.int .i64 (wrap64 (1 + t146))) := (blk_cell BK148.out 2).trans rfl; have hfz18_0 := blk_frozen BK148.out 0; have hfz18_1 := blk_frozen BK148.out 1; have hfz18_2 := blk_frozen BK148.out 2))
      go_meet
      case rel => exact ⟨_, (t151), (t150), H', ⟨by first | omega | exact Nat.le_refl _⟩, ⟨by (with_reducible repeat (first | refine blk_drewN ?_ _ | refine blk_drew ?_ | refine blk_alloc ?_ _)); refine blk_far ?_ NB143_148.out _; (with_reducible repeat (first | refine blk_drewN ?_ _ | refine blk_drew ?_ | refine blk_alloc ?_ _)); exact BK143.out⟩, ⟨by (with_reducible repeat (first | refine blk_drewN ?_ _ | refine blk_drew ?_ | refine blk_alloc ?_ _)); refine blk_put (cs := #[.int .i64 (wrap64 (1 + t144)), .string (⟨#[]⟩ : ByteArray), .int .i64 (wrap64 (1 + t146))]) ?_ 1 _ rfl; (with_reducible repeat (first | refine blk_drewN ?_ _ | refine blk_drew ?_ | refine blk_alloc ?_ _)); exact BK148.out⟩, ⟨by repeat (first | (with_reducible first | exact HI0.out | apply IsS52.alloc | apply IsS52.drewN | apply IsS52.drew | apply IsS52.set_1 | refine IsS52.far ?_ NB0_143.out _ | refine IsS52.far ?_ NB0_148.out _) | exact HI0.out)⟩, ⟨by repeat (first | (with_reducible first | exact HK.out | apply KeepBut.set_ | apply keep_drewN | apply keep_drew | apply keep_alloc | refine keep_far ?_ GW143.out _ | refine keep_far ?_ GW148.out _) | exact HK.out)⟩, ⟨by repeat (first | (with_reducible first | exact HB.out | apply below_alloc | apply pw_below_drewN | apply below_drew1 | refine below_set ?_ (IsS52.ge HI0.out) | refine below_set ?_ GE143.out | refine below_set ?_ GE148.out) | exact HB.out)⟩⟩
  case rest =>
    clear HC5
    try clear c1
    try clear c2
    try clear p2
    try clear p6
    try clear c10
    try clear c11
    try clear c13
    try clear c16
    try clear c17
    try clear hcz12_0
    try clear hcz12_1
    try clear hcz12_2
    try clear hcz18_0
    try clear hcz18_1
    try clear hcz18_2
    try clear hfz12_0
    try clear hfz12_1
    try clear hfz12_2
    try clear hfz18_0
    try clear hfz18_1
    try clear hfz18_2
    obtain ⟨kq, x1001_4, x149001_4, HA, HJ4, BK143, BK148, HI0, HK, HB⟩ := hcut
    cases kq with
    | zero => exact absurd HA.out (by simp [paygen_Deck_Line.j0])
    | succ kj4 =>
      have H := HA.out
      clear HA
      simp only [paygen_Deck_Line.j0] at H
      replace H := Option.bind_eq_some_iff.mp H
      obtain ⟨⟨t152, t153⟩, A190, H⟩ := H
      replace H : (if t152 = 0 then (some ((wrap64 (1 + t144)), x149001_4, wrap64 (-(wrap64 (1 + t146))), t153)) else (some ((wrap64 (1 + t144)), x149001_4, (wrap64 (1 + t146)), t153))) = some (r1, r2, r3, r4) := H
      have A19 := Aside0.mk A190
      clear A190
      by_cases c20 : t152 = 0
      · rw [if_pos c20] at H
        have c20b0 : (t152 == 0) = true := beq_iff_eq.mpr c20
        have c20b1 : (t152 != 0) = false := bne_eq_false_iff_eq.mpr c20
        clear c20
        simp only [Option.some.injEq, Prod.mk.injEq] at H
        obtain ⟨rfl, rfl, rfl, rfl⟩ := H
        go_wp2_with (first | ((with_reducible refine gate_callee (f := 23) rfl ?_); refine goesL_ (some 19) rfl rfl Tryd.func23 (by kernel_rfl) rfl #[.pointer (some ⟨g, 0, none⟩), .int .i64 3] rfl (by (try simp only [List.map_toArray, List.map_cons, List.map_nil]); first | done | rfl | (simp only [List.length_drop, List.length_take]; rfl)) ?_; (with_reducible refine (paygen_Deck_Next.calls kj4 g s0_0 x1001_4 3 t152 t153 w0 _ ?side1 ?side2 A19.out).mono ?_); (case side1 => repeat (first | (with_reducible first | exact HI0.out | apply IsS52.alloc | apply IsS52.drewN | apply IsS52.drew | apply IsS52.set_1 | refine IsS52.far ?_ NB0_143.out _ | refine IsS52.far ?_ NB0_148.out _) | exact HI0.out)); (case side2 => repeat (first | (with_reducible first | exact HB.out | apply below_alloc | apply pw_below_drewN | apply below_drew1 | refine below_set ?_ (IsS52.ge HI0.out) | refine below_set ?_ GE143.out | refine below_set ?_ GE148.out) | exact HB.out)); rintro e w21 ⟨rfl, hi, hb, hk⟩; refine ⟨_, rfl, ?_⟩; have n0_ := Aside0.mk (KeepBut.blk hk (g' := gb143) (o := .cells #[.int .i64 0, .string (⟨#[]⟩ : ByteArray), .int .i64 0] 23 (0, 0)) (by (with_reducible repeat (first | refine blk_drewN ?_ _ | refine blk_drew ?_ | refine blk_alloc ?_ _)); exact BK143.out) NB143_0.out (by simp)); have n1_ := Aside0.mk (KeepBut.blk hk (g' := gb148) (o := .cells #[.int .i64 (wrap64 (1 + t144)), .string x149001_4, .int .i64 (wrap64 (1 + t146))] 23 (0, 0)) (by (with_reducible repeat (first | refine blk_drewN ?_ _ | refine blk_drew ?_ | refine blk_alloc ?_ _)); exact BK148.out) NB148_0.out (by simp)); have n2_ := Aside0.mk (KeepBut.trans (by repeat (first | (with_reducible first | exact HK.out | apply KeepBut.set_ | apply keep_drewN | apply keep_drew | apply keep_alloc | refine keep_far ?_ GW143.out _ | refine keep_far ?_ GW148.out _) | exact HK.out)) hk (.inl rfl)); have n3_ := Aside0.mk (hb); have n4_ := Aside0.mk (hi); clear BK143; clear BK148; clear HK; clear HB; clear HI0; have BK143 := n0_; have BK148 := n1_; have HK := n2_; have HB := n3_; have HI0 := n4_; clear n0_ n1_ n2_ n3_ n4_; (try clear hb); (try clear hb2); (try clear hk); (try clear hi); have hnb22 := NB148_143.out; have hnc22 := NB143_148.out; have hnb23 := NB148_0.out; have hnc23 := NB0_148.out; have hcz24_0 : w21.cell? ⟨gb148, 0, none⟩ = some (.int .i64 (wrap64 (1 + t144))) := (blk_cell BK148.out 0).trans rfl; have hcz24_1 : w21.cell? ⟨gb148, 1, none⟩ = some (.string x149001_4) := (blk_cell BK148.out 1).trans rfl; have hcz24_2 : w21.cell? ⟨gb148, 2, none⟩ = some (.int .i64 (wrap64 (1 + t146))) := (blk_cell BK148.out 2).trans rfl; have hfz24_0 := blk_frozen BK148.out 0; have hfz24_1 := blk_frozen BK148.out 1; have hfz24_2 := blk_frozen BK148.out 2; have hnb25 := NB143_0.out; have hnc25 := NB0_143.out; have hcz26_0 : w21.cell? ⟨gb143, 0, none⟩ = some (.int .i64 0) := (blk_cell BK143.out 0).trans rfl; have hcz26_1 : w21.cell? ⟨gb143, 1, none⟩ = some (.string (⟨#[]⟩ : ByteArray)) := (blk_cell BK143.out 1).trans rfl; have hcz26_2 : w21.cell? ⟨gb143, 2, none⟩ = some (.int .i64 0) := (blk_cell BK143.out 2).trans rfl; have hfz26_0 := blk_frozen BK143.out 0; have hfz26_1 := blk_frozen BK143.out 1; have hfz26_2 := blk_frozen BK143.out 2))
        refine bodyPost_ret (results_cell_row rfl _ _ gb143 23 #[.int .i64 (wrap64 (1 + t144)), .string x149001_4, .int .i64 (wrap64 (-(wrap64 (1 + t146))))] (0, 0) _ rfl (by (with_reducible repeat (first | refine blk_drewN ?_ _ | refine blk_drew ?_ | refine blk_alloc ?_ _)); refine blk_put (cs := #[.int .i64 (wrap64 (1 + t144)), .string x149001_4, .int .i64 0]) ?_ 2 _ rfl; (with_reducible repeat (first | refine blk_drewN ?_ _ | refine blk_drew ?_ | refine blk_alloc ?_ _)); refine blk_put (cs := #[.int .i64 (wrap64 (1 + t144)), .string (⟨#[]⟩ : ByteArray), .int .i64 0]) ?_ 1 _ rfl; (with_reducible repeat (first | refine blk_drewN ?_ _ | refine blk_drew ?_ | refine blk_alloc ?_ _)); refine blk_put (cs := #[.int .i64 0, .string (⟨#[]⟩ : ByteArray), .int .i64 0]) ?_ 0 _ rfl; (with_reducible repeat (first | refine blk_drewN ?_ _ | refine blk_drew ?_ | refine blk_alloc ?_ _)); refine blk_far ?_ NB143_148.out _; (with_reducible repeat (first | refine blk_drewN ?_ _ | refine blk_drew ?_ | refine blk_alloc ?_ _)); exact BK143.out) Tryd.underlying23 rfl (by kernel_rfl)) rfl ?_
        exact ⟨by first | rfl | (simp [errW_none, errW_some] <;> rfl) | (simp [*, errW_none, errW_some] <;> rfl), by repeat (first | (with_reducible first | exact HI0.out | apply IsS52.alloc | apply IsS52.drewN | apply IsS52.drew | apply IsS52.set_1 | refine IsS52.far ?_ NB0_143.out _ | refine IsS52.far ?_ NB0_148.out _) | exact HI0.out), by repeat (first | (with_reducible first | exact HB.out | apply below_alloc | apply pw_below_drewN | apply below_drew1 | refine below_set ?_ (IsS52.ge HI0.out) | refine below_set ?_ GE143.out | refine below_set ?_ GE148.out) | exact HB.out), by repeat (first | (with_reducible first | exact HK.out | apply KeepBut.set_ | apply keep_drewN | apply keep_drew | apply keep_alloc | refine keep_far ?_ GW143.out _ | refine keep_far ?_ GW148.out _) | exact HK.out)⟩
      · rw [if_neg c20] at H
        have c20b0 : (t152 == 0) = false := beq_eq_false_iff_ne.mpr c20
        have c20b1 : (t152 != 0) = true := bne_iff_ne.mpr c20
        simp only [Option.some.injEq, Prod.mk.injEq] at H
        obtain ⟨rfl, rfl, rfl, rfl⟩ := H
        go_wp2_with (first | ((with_reducible refine gate_callee (f := 23) rfl ?_); refine goesL_ (some 19) rfl rfl Tryd.func23 (by kernel_rfl) rfl #[.pointer (some ⟨g, 0, none⟩), .int .i64 3] rfl (by (try simp only [List.map_toArray, List.map_cons, List.map_nil]); first | done | rfl | (simp only [List.length_drop, List.length_take]; rfl)) ?_; (with_reducible refine (paygen_Deck_Next.calls kj4 g s0_0 x1001_4 3 t152 t153 w0 _ ?side1 ?side2 A19.out).mono ?_); (case side1 => repeat (first | (with_reducible first | exact HI0.out | apply IsS52.alloc | apply IsS52.drewN | apply IsS52.drew | apply IsS52.set_1 | refine IsS52.far ?_ NB0_143.out _ | refine IsS52.far ?_ NB0_148.out _) | exact HI0.out)); (case side2 => repeat (first | (with_reducible first | exact HB.out | apply below_alloc | apply pw_below_drewN | apply below_drew1 | refine below_set ?_ (IsS52.ge HI0.out) | refine below_set ?_ GE143.out | refine below_set ?_ GE148.out) | exact HB.out)); rintro e w27 ⟨rfl, hi, hb, hk⟩; refine ⟨_, rfl, ?_⟩; have n0_ := Aside0.mk (KeepBut.blk hk (g' := gb143) (o := .cells #[.int .i64 0, .string (⟨#[]⟩ : ByteArray), .int .i64 0] 23 (0, 0)) (by (with_reducible repeat (first | refine blk_drewN ?_ _ | refine blk_drew ?_ | refine blk_alloc ?_ _)); exact BK143.out) NB143_0.out (by simp)); have n1_ := Aside0.mk (KeepBut.blk hk (g' := gb148) (o := .cells #[.int .i64 (wrap64 (1 + t144)), .string x149001_4, .int .i64 (wrap64 (1 + t146))] 23 (0, 0)) (by (with_reducible repeat (first | refine blk_drewN ?_ _ | refine blk_drew ?_ | refine blk_alloc ?_ _)); exact BK148.out) NB148_0.out (by simp)); have n2_ := Aside0.mk (KeepBut.trans (by repeat (first | (with_reducible first | exact HK.out | apply KeepBut.set_ | apply keep_drewN | apply keep_drew | apply keep_alloc | refine keep_far ?_ GW143.out _ | refine keep_far ?_ GW148.out _) | exact HK.out)) hk (.inl rfl)); have n3_ := Aside0.mk (hb); have n4_ := Aside0.mk (hi); clear BK143; clear BK148; clear HK; clear HB; clear HI0; have BK143 := n0_; have BK148 := n1_; have HK := n2_; have HB := n3_; have HI0 := n4_; clear n0_ n1_ n2_ n3_ n4_; (try clear hb); (try clear hb2); (try clear hk); (try clear hi); have hnb28 := NB148_143.out; have hnc28 := NB143_148.out; have hnb29 := NB148_0.out; have hnc29 := NB0_148.out; have hcz30_0 : w27.cell? ⟨gb148, 0, none⟩ = some (.int .i64 (wrap64 (1 + t144))) := (blk_cell BK148.out 0).trans rfl; have hcz30_1 : w27.cell? ⟨gb148, 1, none⟩ = some (.string x149001_4) := (blk_cell BK148.out 1).trans rfl; have hcz30_2 : w27.cell? ⟨gb148, 2, none⟩ = some (.int .i64 (wrap64 (1 + t146))) := (blk_cell BK148.out 2).trans rfl; have hfz30_0 := blk_frozen BK148.out 0; have hfz30_1 := blk_frozen BK148.out 1; have hfz30_2 := blk_frozen BK148.out 2; have hnb31 := NB143_0.out; have hnc31 := NB0_143.out; have hcz32_0 : w27.cell? ⟨gb143, 0, none⟩ = some (.int .i64 0) := (blk_cell BK143.out 0).trans rfl; have hcz32_1 : w27.cell? ⟨gb143, 1, none⟩ = some (.string (⟨#[]⟩ : ByteArray)) := (blk_cell BK143.out 1).trans rfl; have hcz32_2 : w27.cell? ⟨gb143, 2, none⟩ = some (.int .i64 0) := (blk_cell BK143.out 2).trans rfl; have hfz32_0 := blk_frozen BK143.out 0; have hfz32_1 := blk_frozen BK143.out 1; have hfz32_2 := blk_frozen BK143.out 2))
        refine bodyPost_ret (results_cell_row rfl _ _ gb143 23 #[.int .i64 (wrap64 (1 + t144)), .string x149001_4, .int .i64 (wrap64 (1 + t146))] (0, 0) _ rfl (by (with_reducible repeat (first | refine blk_drewN ?_ _ | refine blk_drew ?_ | refine blk_alloc ?_ _)); refine blk_put (cs := #[.int .i64 (wrap64 (1 + t144)), .string x149001_4, .int .i64 0]) ?_ 2 _ rfl; (with_reducible repeat (first | refine blk_drewN ?_ _ | refine blk_drew ?_ | refine blk_alloc ?_ _)); refine blk_put (cs := #[.int .i64 (wrap64 (1 + t144)), .string (⟨#[]⟩ : ByteArray), .int .i64 0]) ?_ 1 _ rfl; (with_reducible repeat (first | refine blk_drewN ?_ _ | refine blk_drew ?_ | refine blk_alloc ?_ _)); refine blk_put (cs := #[.int .i64 0, .string (⟨#[]⟩ : ByteArray), .int .i64 0]) ?_ 0 _ rfl; (with_reducible repeat (first | refine blk_drewN ?_ _ | refine blk_drew ?_ | refine blk_alloc ?_ _)); exact BK143.out) Tryd.underlying23 rfl (by kernel_rfl)) rfl ?_
        exact ⟨by first | rfl | (simp [errW_none, errW_some] <;> rfl) | (simp [*, errW_none, errW_some] <;> rfl), by repeat (first | (with_reducible first | exact HI0.out | apply IsS52.alloc | apply IsS52.drewN | apply IsS52.drew | apply IsS52.set_1 | refine IsS52.far ?_ NB0_143.out _ | refine IsS52.far ?_ NB0_148.out _) | exact HI0.out), by repeat (first | (with_reducible first | exact HB.out | apply below_alloc | apply pw_below_drewN | apply below_drew1 | refine below_set ?_ (IsS52.ge HI0.out) | refine below_set ?_ GE143.out | refine below_set ?_ GE148.out) | exact HB.out), by repeat (first | (with_reducible first | exact HK.out | apply KeepBut.set_ | apply keep_drewN | apply keep_drew | apply keep_alloc | refine keep_far ?_ GW143.out _ | refine keep_far ?_ GW148.out _) | exact HK.out)⟩
def paygen_Mod.f (a0 : Int) (a1 : Int) : Option (Int) := if a1 = 0 then (none) else (if (Int.tmod a0 a1) < 0 then (some (wrap64 ((Int.tmod a0 a1) + a1))) else (some (Int.tmod a0 a1)))
set_option maxHeartbeats 8000000 in
set_option maxRecDepth 100000 in
theorem paygen_Mod.calls (a0 : Int) (a1 : Int) (r : Int) (w : World) (h : paygen_Mod.f a0 a1 = some r) :
    Calls Tryd.prog 11 #[.int .i64 a0, .int .i64 a1] w fun e w' => e = .returned (.int .i64 r) ∧ Drawn0 w w' := by
  have H : (if a1 = 0 then (none) else (if (Int.tmod a0 a1) < 0 then (some (wrap64 ((Int.tmod a0 a1) + a1))) else (some (Int.tmod a0 a1)))) = some r := h
  clear h
  by_cases c3 : a1 = 0
  · rw [if_pos c3] at H
    exact absurd H (by simp)
  · rw [if_neg c3] at H
    have c3b0 : (a1 == 0) = false := beq_eq_false_iff_ne.mpr c3
    have c3b1 : (a1 != 0) = true := bne_iff_ne.mpr c3
    by_cases c4 : (Int.tmod a0 a1) < 0
    · rw [if_pos c4] at H
      have c4b0 : decide ((Int.tmod a0 a1) < 0) = true := decide_eq_true c4
      clear c4
      obtain rfl := Option.some.inj H
      go_enter Tryd.func11, Tryd.ntmps11
      go_wp2
      go_ret
      exact ⟨by first | rfl | (simp; done) | (simp [*]; done), by repeat (first | exact Drawn0.refl _ | apply Drawn0.step)⟩
    · rw [if_neg c4] at H
      have c4b0 : decide ((Int.tmod a0 a1) < 0) = false := decide_eq_false c4
      clear c4
      obtain rfl := Option.some.inj H
      go_enter Tryd.func11, Tryd.ntmps11
      go_wp2
      go_ret
      exact ⟨by first | rfl | (simp; done) | (simp [*]; done), by repeat (first | exact Drawn0.refl _ | apply Drawn0.step)⟩
def payslip_Form.f (k : Nat) (a0_0 : Int) (a0_1 : ByteArray) (a0_2 : Int) : Option (Bool) := (payslip_form.f k a0_0 a0_1 a0_2).bind fun t155 => (if t155 = true then (some (a0_2 != 0)) else (some false))
set_option maxHeartbeats 8000000 in
set_option maxRecDepth 100000 in
theorem payslip_Form.calls (k : Nat) (a0_0 : Int) (a0_1 : ByteArray) (a0_2 : Int) (r : Bool) (w : World) (h : payslip_Form.f k a0_0 a0_1 a0_2 = some r) :
    Calls Tryd.prog 13 #[.agg #[.int .i64 a0_0, .string a0_1, .int .i64 a0_2]] w fun e w' => e = .returned (.bool r) ∧ Below w.heap.size w w' := by
  have hu23 := Tryd.underlying23
  have HB := Aside0.mk (Below.refl w.heap.size w)
  have H : ((payslip_form.f k a0_0 a0_1 a0_2).bind fun t155 => (if t155 = true then (some (a0_2 != 0)) else (some false))) = some r := h
  clear h
  replace H := Option.bind_eq_some_iff.mp H
  obtain ⟨t155, A20, H⟩ := H
  replace H : (if t155 = true then (some (a0_2 != 0)) else (some false)) = some r := H
  have A2 := Aside0.mk A20
  clear A20
  by_cases c3 : t155 = true
  · subst c3
    have H1 : (some (a0_2 != 0)) = some r := by rw [if_pos rfl] at H; exact H
    clear H
    have H := H1
    clear H1
    obtain rfl := Option.some.inj H
    go_enter Tryd.func13, Tryd.ntmps13
    go_wp2_with (first | ((with_reducible refine gate_dst (N := 1) rfl ?_); refine box_event ?hg (N := 1) ?hd (cs := #[.int .i64 a0_0, .string a0_1, .int .i64 a0_2]) (t := 23) ?hr ?_; (case hd => rfl); (case hg => rfl); (case hr => first | (go_simp; done) | (go_simp; rfl)); intro gb154 hg w4 hbox hb; have n0_ := Aside0.mk (below_step (by repeat (first | (with_reducible first | exact HB.out | apply below_alloc | apply pw_below_drewN | apply below_drew1) | exact HB.out)) hb); have n1_ := Aside0.mk (hbox); have n2_ := Aside0.mk ((by rw [hg]; exact (below_size (by repeat (first | (with_reducible first | exact HB.out | apply below_alloc | apply pw_below_drewN | apply below_drew1) | exact HB.out))) : w.heap.size ≤ gb154)); have n3_ := Aside0.mk ((by rw [hg]; exact (below_size (by repeat (first | (with_reducible first | exact HB.out | apply below_alloc | apply pw_below_drewN | apply below_drew1) | exact HB.out))) : w.heap.size ≤ gb154)); clear HB; have HB := n0_; have BK154 := n1_; have GW154 := n2_; have GE154 := n3_; clear n0_ n1_ n2_ n3_; clear hb hbox hg; have hcz5_0 : w4.cell? ⟨gb154, 0, none⟩ = some (.int .i64 a0_0) := (blk_cell BK154.out 0).trans rfl; have hcz5_1 : w4.cell? ⟨gb154, 1, none⟩ = some (.string a0_1) := (blk_cell BK154.out 1).trans rfl; have hcz5_2 : w4.cell? ⟨gb154, 2, none⟩ = some (.int .i64 a0_2) := (blk_cell BK154.out 2).trans rfl; have hfz5_0 := blk_frozen BK154.out 0; have hfz5_1 := blk_frozen BK154.out 1; have hfz5_2 := blk_frozen BK154.out 2) | ((with_reducible refine gate_callee (f := 27) rfl ?_); refine goesL_ (some 4) rfl rfl Tryd.func27 (by kernel_rfl) rfl #[.agg #[.int .i64 a0_0, .string a0_1, .int .i64 a0_2]] rfl (by (try simp only [List.map_toArray, List.map_cons, List.map_nil]); first | done | rfl | (simp only [List.length_drop, List.length_take]; rfl)) ?_; (with_reducible refine (payslip_form.calls k a0_0 a0_1 a0_2 true _ A2.out).mono ?_); rintro e w6 ⟨rfl, hb⟩; refine ⟨_, rfl, ?_⟩; have n0_ := Aside0.mk (blk_below (g := gb154) (o := .cells #[.int .i64 a0_0, .string a0_1, .int .i64 a0_2] 23 (0, 0)) (by (with_reducible repeat (first | refine blk_drewN ?_ _ | refine blk_drew ?_ | refine blk_alloc ?_ _)); exact BK154.out) hb); have n1_ := Aside0.mk (below_step (by repeat (first | (with_reducible first | exact HB.out | apply below_alloc | apply pw_below_drewN | apply below_drew1 | refine below_set ?_ GE154.out) | exact HB.out)) hb); clear BK154; clear HB; have BK154 := n0_; have HB := n1_; clear n0_ n1_; (try clear hb); (try clear hb2); (try clear hk); (try clear hi); have hcz7_0 : w6.cell? ⟨gb154, 0, none⟩ = some (.int .i64 a0_0) := (blk_cell BK154.out 0).trans rfl; have hcz7_1 : w6.cell? ⟨gb154, 1, none⟩ = some (.string a0_1) := (blk_cell BK154.out 1).trans rfl; have hcz7_2 : w6.cell? ⟨gb154, 2, none⟩ = some (.int .i64 a0_2) := (blk_cell BK154.out 2).trans rfl; have hfz7_0 := blk_frozen BK154.out 0; have hfz7_1 := blk_frozen BK154.out 1; have hfz7_2 := blk_frozen BK154.out 2))
    go_ret
    exact ⟨by first | rfl | (simp [errW_none, errW_some] <;> rfl) | (simp [*, errW_none, errW_some] <;> rfl), by repeat (first | (with_reducible first | exact HB.out | apply below_alloc | apply pw_below_drewN | apply below_drew1 | refine below_set ?_ GE154.out) | exact HB.out)⟩
  · replace c3 := Bool.eq_false_iff.mpr c3
    subst c3
    have H1 : (some false) = some r := by rw [if_neg (show ¬ (false = true) by decide)] at H; exact H
    clear H
    have H := H1
    clear H1
    obtain rfl := Option.some.inj H
    go_enter Tryd.func13, Tryd.ntmps13
    go_wp2_with (first | ((with_reducible refine gate_dst (N := 1) rfl ?_); refine box_event ?hg (N := 1) ?hd (cs := #[.int .i64 a0_0, .string a0_1, .int .i64 a0_2]) (t := 23) ?hr ?_; (case hd => rfl); (case hg => rfl); (case hr => first | (go_simp; done) | (go_simp; rfl)); intro gb154 hg w8 hbox hb; have n0_ := Aside0.mk (below_step (by repeat (first | (with_reducible first | exact HB.out | apply below_alloc | apply pw_below_drewN | apply below_drew1) | exact HB.out)) hb); have n1_ := Aside0.mk (hbox); have n2_ := Aside0.mk ((by rw [hg]; exact (below_size (by repeat (first | (with_reducible first | exact HB.out | apply below_alloc | apply pw_below_drewN | apply below_drew1) | exact HB.out))) : w.heap.size ≤ gb154)); have n3_ := Aside0.mk ((by rw [hg]; exact (below_size (by repeat (first | (with_reducible first | exact HB.out | apply below_alloc | apply pw_below_drewN | apply below_drew1) | exact HB.out))) : w.heap.size ≤ gb154)); clear HB; have HB := n0_; have BK154 := n1_; have GW154 := n2_; have GE154 := n3_; clear n0_ n1_ n2_ n3_; clear hb hbox hg; have hcz9_0 : w8.cell? ⟨gb154, 0, none⟩ = some (.int .i64 a0_0) := (blk_cell BK154.out 0).trans rfl; have hcz9_1 : w8.cell? ⟨gb154, 1, none⟩ = some (.string a0_1) := (blk_cell BK154.out 1).trans rfl; have hcz9_2 : w8.cell? ⟨gb154, 2, none⟩ = some (.int .i64 a0_2) := (blk_cell BK154.out 2).trans rfl; have hfz9_0 := blk_frozen BK154.out 0; have hfz9_1 := blk_frozen BK154.out 1; have hfz9_2 := blk_frozen BK154.out 2) | ((with_reducible refine gate_callee (f := 27) rfl ?_); refine goesL_ (some 4) rfl rfl Tryd.func27 (by kernel_rfl) rfl #[.agg #[.int .i64 a0_0, .string a0_1, .int .i64 a0_2]] rfl (by (try simp only [List.map_toArray, List.map_cons, List.map_nil]); first | done | rfl | (simp only [List.length_drop, List.length_take]; rfl)) ?_; (with_reducible refine (payslip_form.calls k a0_0 a0_1 a0_2 false _ A2.out).mono ?_); rintro e w10 ⟨rfl, hb⟩; refine ⟨_, rfl, ?_⟩; have n0_ := Aside0.mk (blk_below (g := gb154) (o := .cells #[.int .i64 a0_0, .string a0_1, .int .i64 a0_2] 23 (0, 0)) (by (with_reducible repeat (first | refine blk_drewN ?_ _ | refine blk_drew ?_ | refine blk_alloc ?_ _)); exact BK154.out) hb); have n1_ := Aside0.mk (below_step (by repeat (first | (with_reducible first | exact HB.out | apply below_alloc | apply pw_below_drewN | apply below_drew1 | refine below_set ?_ GE154.out) | exact HB.out)) hb); clear BK154; clear HB; have BK154 := n0_; have HB := n1_; clear n0_ n1_; (try clear hb); (try clear hb2); (try clear hk); (try clear hi)))
    go_ret
    exact ⟨by first | rfl | (simp [errW_none, errW_some] <;> rfl) | (simp [*, errW_none, errW_some] <;> rfl), by repeat (first | (with_reducible first | exact HB.out | apply below_alloc | apply pw_below_drewN | apply below_drew1 | refine below_set ?_ GE154.out) | exact HB.out)⟩
def payrollref17_lower.f (a0 : Int) : Option (Bool) := if a0 ≥ 97 then (some (decide (a0 ≤ 122))) else (some false)
set_option maxHeartbeats 8000000 in
set_option maxRecDepth 100000 in
theorem payrollref17_lower.calls (a0 : Int) (r : Bool) (w : World) (h : payrollref17_lower.f a0 = some r) :
    Calls Tryd.prog 59 #[.int .u8 a0] w fun e w' => e = .returned (.bool r) ∧ Drawn0 w w' := by
  have H : (if a0 ≥ 97 then (some (decide (a0 ≤ 122))) else (some false)) = some r := h
  clear h
  by_cases c2 : a0 ≥ 97
  · rw [if_pos c2] at H
    have c2b0 : decide (97 ≤ a0) = true := decide_eq_true c2
    clear c2
    obtain rfl := Option.some.inj H
    go_enter Tryd.func59, Tryd.ntmps59
    go_wp2
    go_ret
    exact ⟨by first | rfl | (simp; done) | (simp [*]; done), by repeat (first | exact Drawn0.refl _ | apply Drawn0.step)⟩
  · rw [if_neg c2] at H
    have c2b0 : decide (97 ≤ a0) = false := decide_eq_false c2
    clear c2
    obtain rfl := Option.some.inj H
    go_enter Tryd.func59, Tryd.ntmps59
    go_wp2
    go_ret
    exact ⟨by first | rfl | (simp; done) | (simp [*]; done), by repeat (first | exact Drawn0.refl _ | apply Drawn0.step)⟩
def payrollref17_digit.f (a0 : Int) : Option (Bool) := if a0 ≥ 48 then (some (decide (a0 ≤ 57))) else (some false)
set_option maxHeartbeats 8000000 in
set_option maxRecDepth 100000 in
theorem payrollref17_digit.calls (a0 : Int) (r : Bool) (w : World) (h : payrollref17_digit.f a0 = some r) :
    Calls Tryd.prog 60 #[.int .u8 a0] w fun e w' => e = .returned (.bool r) ∧ Drawn0 w w' := by
  have H : (if a0 ≥ 48 then (some (decide (a0 ≤ 57))) else (some false)) = some r := h
  clear h
  by_cases c2 : a0 ≥ 48
  · rw [if_pos c2] at H
    have c2b0 : decide (48 ≤ a0) = true := decide_eq_true c2
    clear c2
    obtain rfl := Option.some.inj H
    go_enter Tryd.func60, Tryd.ntmps60
    go_wp2
    go_ret
    exact ⟨by first | rfl | (simp; done) | (simp [*]; done), by repeat (first | exact Drawn0.refl _ | apply Drawn0.step)⟩
  · rw [if_neg c2] at H
    have c2b0 : decide (48 ≤ a0) = false := decide_eq_false c2
    clear c2
    obtain rfl := Option.some.inj H
    go_enter Tryd.func60, Tryd.ntmps60
    go_wp2
    go_ret
    exact ⟨by first | rfl | (simp; done) | (simp [*]; done), by repeat (first | exact Drawn0.refl _ | apply Drawn0.step)⟩
end Go.Proofs.YtlanldccamphcaaDoor.P
