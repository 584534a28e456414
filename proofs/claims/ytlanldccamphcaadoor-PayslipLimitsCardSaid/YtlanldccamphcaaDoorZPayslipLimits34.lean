/- Texts for the law PayslipLimits (kept out of a larger one). -/
import Derived.Test.YtlanldccamphcaaDoorZPayslipLimits11
import Derived.Test.YtlanldccamphcaaDoorZPayslipLimits33
import Derived.Test.YtlanldccamphcaaDoorZPayslipLimits32
import Derived.Test.YtlanldccamphcaaDoorZPayslipLimits18
-- Written by a program of this session (wip/tools/xprint.py) out of the translation; Lean checks it.
namespace Go.Proofs.YtlanldccamphcaaDoor.P
open Go.RowKit Go.Proofs.YtlanldccamphcaaDoorW.PrintWords Go.Proofs.YtlanldccamphcaaDoorW.PrintLast Go.Proofs.YtlanldccamphcaaDoorW.PrintMore
attribute [local go_sem] max2_int min2_int max_two min_two max_three min_three max_four min_four   -- for this text's walks alone
set_option linter.unusedVariables false
set_option linter.unusedSimpArgs false

-- given by hand: function 20 (payslip_Merge), in needs
def payrolllaw34_PayslipLimits.l0 : Nat → Int → List (S23) → Int → Option (Bool)
  | 0, _, _, _ => none
  | k + 1, x3, x4, x5 => if x5 < x3 then (if 0 ≤ x5 then (if x5 < (x4.length : Int) then (payrolllaw34_PayslipLimits.l0 k x3 (x4.set (x5 : Int).toNat (⟨6, (⟨#[]⟩ : ByteArray), 1⟩ : S23)) (wrap64 (x5 + 1))) else (none)) else (none)) else ((payslip_Merge.f k x4).bind fun bt313 => ((payslip_Compare.f k ([] : List (S23)) x4).bind fun bt317 => (if x3 > 65536 then (if bt313.2 = 3 then (if bt317.2 = 3 then (if (bt313.1.length : Int) = 0 then (if (bt317.1.length : Int) = 0 then ((payrolllaw34_awake.f k).bind fun t321 => (some t321)) else (some false)) else (some false)) else (some false)) else (some false)) else (if bt313.2 = 0 then (if bt317.2 = 0 then (if (bt313.1.length : Int) = 1 then (if 0 < (bt313.1.length : Int) then (if ((rd_T23 bt313.1 0).f2) = x3 then (if (bt317.1.length : Int) = 1 then (if 0 < (bt317.1.length : Int) then (if ((rd_T23 bt317.1 0).f2) = x3 then ((payrolllaw34_awake.f k).bind fun t324 => (some t324)) else (some false)) else (none)) else (some false)) else (some false)) else (none)) else (some false)) else (some false)) else (some false)))))
def payrolllaw34_PayslipLimits.f (k : Nat) (a0 : Int) : Option (Bool) := (paygen_Mod.f a0 3).bind fun t308 => (if 0 ≤ (wrap64 (65535 + t308)) then (if (wrap64 (65535 + t308) : Int).toNat ≤ 8796093022208 then (payrolllaw34_PayslipLimits.l0 k (wrap64 (65535 + t308)) (List.replicate (wrap64 (65535 + t308) : Int).toNat z23) 0) else (none)) else (none))
set_option maxHeartbeats 8000000 in
set_option maxRecDepth 100000 in
theorem payrolllaw34_PayslipLimits.calls (k : Nat) (a0 : Int) (w : World) (hT : Tabs w) (h : payrolllaw34_PayslipLimits.f k a0 = some true) :
    Calls Tryd.prog 5 #[.int .i64 a0] w fun e w' => e = .returned (.bool true) ∧ Below w.heap.size w w' := by
  have hu23 := Tryd.underlying23
  have HB := Aside0.mk (Below.refl w.heap.size w)
  have HT := Aside0.mk hT
  clear hT
  have H : ((paygen_Mod.f a0 3).bind fun t308 => (if 0 ≤ (wrap64 (65535 + t308)) then (if (wrap64 (65535 + t308) : Int).toNat ≤ 8796093022208 then (payrolllaw34_PayslipLimits.l0 k (wrap64 (65535 + t308)) (List.replicate (wrap64 (65535 + t308) : Int).toNat z23) 0) else (none)) else (none))) = some true := h
  clear h
  replace H := Option.bind_eq_some_iff.mp H
  obtain ⟨t308, A20, H⟩ := H
  replace H : (if 0 ≤ (wrap64 (65535 + t308)) then (if (wrap64 (65535 + t308) : Int).toNat ≤ 8796093022208 then (payrolllaw34_PayslipLimits.l0 k (wrap64 (65535 + t308)) (List.replicate (wrap64 (65535 + t308) : Int).toNat z23) 0) else (none)) else (none)) = some true := H
  have A2 := Aside0.mk A20
  clear A20
  obtain ⟨ji3, hji3⟩ : ∃ j_ : Int, (wrap64 (65535 + t308)) = j_ := ⟨_, rfl⟩
  replace H : (if 0 ≤ (ji3) then (if (ji3 : Int).toNat ≤ 8796093022208 then (payrolllaw34_PayslipLimits.l0 k ji3 (List.replicate (ji3 : Int).toNat z23) 0) else (none)) else (none)) = some true := by first | (rw [hji3] at H; exact H) | (simp only [hji3] at H ⊢; exact H)
  (try rw [hji3] at A2)
  have hji3w : (IntKind.i64.wrap (65535 + t308)) = ji3 := (i64_w _).trans hji3
  by_cases c4 : 0 ≤ (ji3)
  · rw [if_pos c4] at H
    have c4b0 := eq_true c4
    have c4b1 : decide (0 ≤ (ji3)) = true := decide_eq_true c4
    clear c4
    by_cases c5 : (ji3 : Int).toNat ≤ 8796093022208
    · rw [if_pos c5] at H
      have c5b0 := eq_true c5
      have c5b1 : decide ((ji3 : Int).toNat ≤ 8796093022208) = true := decide_eq_true c5
      clear c5
      obtain ⟨y309, hy309⟩ : ∃ y_ : List (S23), y_ = (List.replicate (ji3 : Int).toNat z23) := ⟨_, rfl⟩
      replace H : (payrolllaw34_PayslipLimits.l0 k ji3 y309 0) = some true := by first | (rw [hy309]; with_reducible exact H) | (have H2_ := (Option.bind_some _ _).symm.trans H; rw [hy309]; with_reducible exact H2_) | (have H2_ := (Option.bind_some _ _).symm.trans H; with_reducible exact H2_) | with_reducible exact H | (rw [hy309]; exact H) | exact H
      have Ny309 := Aside0.mk hy309
      clear hy309
      have H' := Aside0.mk H
      clear H
      go_enter Tryd.func5, Tryd.ntmps5
      go_wp2_with (first | ((with_reducible refine gate_callee (f := 11) rfl ?_); refine goesL_ (some 11) rfl rfl Tryd.func11 (by kernel_rfl) rfl #[.int .i64 a0, .int .i64 3] rfl (by (try simp only [List.map_toArray, List.map_cons, List.map_nil]); first | done | rfl | (simp only [List.length_drop, List.length_take]; rfl)) ?_; (with_reducible refine (paygen_Mod.calls a0 3 t308 _ A2.out).mono ?_); rintro e w' ⟨rfl, ⟨nd, rfl⟩⟩; refine ⟨_, rfl, ?_⟩) | ((with_reducible refine gate_dst (N := 14) rfl ?_); (try (refine gate_guard (by rfl) ?_; dsimp only)); refine Kd.R_make k23 _ 23 rfl (N := 14) rfl 33 _ _ rfl ji3 rfl rfl Tryd.underlying33 (.agg #[(.int .i64 0), (.string ⟨#[]⟩), (.int .i64 0)]) 32 info23 rfl (by decide) (by omega) z23 (ok := fun _ => True) (okp := fun _ => True) (k23_mkM _ _ _ z23 ) (fun _ hk => hk) trivial (of_decide_eq_true (by first | (with_reducible assumption) | assumption)) (Nat.le_trans (Nat.mul_le_mul_right _ (of_decide_eq_true (by first | (with_reducible assumption) | assumption) : ji3.toNat ≤ 8796093022208)) (by omega)) (Below.refl _ _) (Nat.le_refl _) ?_; intro v310 w6 ho7 hb hg_ hnew_; clear hg_ hnew_; (first | rw [← Ny309.out] at ho7 | (simp only [Int.reduceToNat] at ho7; rw [← Ny309.out] at ho7)); have n0_ := Aside0.mk (Kd.R_lower ho7 (below_size (by repeat (first | (with_reducible first | exact HB.out | apply below_alloc | apply pw_below_drewN | apply below_drew1) | exact HB.out)))); have n1_ := Aside0.mk (below_step (by repeat (first | (with_reducible first | exact HB.out | apply below_alloc | apply pw_below_drewN | apply below_drew1) | exact HB.out)) hb); clear HB; have HO311 := n0_; have HB := n1_; clear n0_ n1_; clear hb ho7))
      go_loopg [5] k (fun kq v5 w' => ∃ (x4_1 : List (S23)) (x5_1 : Int), v5 = .int .i64 x5_1 ∧ Aside0 (payrolllaw34_PayslipLimits.l0 kq ji3 x4_1 x5_1 = some true) ∧ Aside0 (kq ≤ k) ∧ Aside0 (Kd.R k23 23 w' w.heap.size (fun _ => True) v310 x4_1) ∧ Aside0 (Below w.heap.size w w'))
      case atStart => exact ⟨(y309), (0), (by first | rfl | (simp; done) | (simp [*]; done)), H', ⟨Nat.le_refl _⟩, ⟨by (with_reducible repeat (first | apply Kd.R_alloc | apply Kd.R_drewN | apply Kd.R_drew)); exact HO311.out⟩, ⟨by repeat (first | (with_reducible first | exact HB.out | apply below_alloc | apply pw_below_drewN | apply below_drew1) | exact HB.out)⟩⟩
      case round =>
        clear H'
        try clear c1
        try clear p2
        try clear c4
        try clear c4b0
        try clear c4b1
        try clear c5
        try clear c5b0
        try clear c5b1
        try clear p6
        obtain ⟨x4_1, x5_1, rfl, HA, HK1, HO_4, HB⟩ := hrel
        cases gk with
        | zero => exact absurd HA.out (by simp [payrolllaw34_PayslipLimits.l0])
        | succ k1 =>
          have H := HA.out
          clear HA
          simp only [payrolllaw34_PayslipLimits.l0] at H
          by_cases c8 : x5_1 < ji3
          · rw [if_pos c8] at H
            have c8b0 : decide (x5_1 < ji3) = true := decide_eq_true c8
            clear c8
            by_cases c9 : 0 ≤ x5_1
            · rw [if_pos c9] at H
              have c9b0 : decide (0 ≤ x5_1) = true := decide_eq_true c9
              clear c9
              by_cases c10 : x5_1 < (x4_1.length : Int)
              · rw [if_pos c10] at H
                have c10b0 : decide (x5_1 < (x4_1.length : Int)) = true := decide_eq_true c10
                clear c10
                obtain ⟨y312, hy312⟩ : ∃ y_ : List (S23), y_ = (x4_1.set (x5_1 : Int).toNat (⟨6, (⟨#[]⟩ : ByteArray), 1⟩ : S23)) := ⟨_, rfl⟩
                replace H : (payrolllaw34_PayslipLimits.l0 k1 ji3 y312 (wrap64 (x5_1 + 1))) = some true := by first | (rw [hy312]; with_reducible exact H) | (have H2_ := (Option.bind_some _ _).symm.trans H; rw [hy312]; with_reducible exact H2_) | (have H2_ := (Option.bind_some _ _).symm.trans H; with_reducible exact H2_) | with_reducible exact H | (rw [hy312]; exact H) | exact H
                have Ny312 := Aside0.mk hy312
                clear hy312
                have H' := Aside0.mk H
                clear H
                have p11 : 0 ≤ (x5_1 : Int) := of_decide_eq_true (by first | (with_reducible assumption) | assumption)
                have q11 : (x5_1 : Int) < ((x4_1.length : Int) : Int) := of_decide_eq_true (by first | (with_reducible assumption) | assumption)
                obtain ⟨go11, co11, eo11, gb11, gl11, cl11, HG11⟩ := Kd.R_form HO_4.out (by omega)
                (first | cases eo11 | (injection eo11 with ea_ en_ ec_; (first | subst ea_ | (injection ea_ with ea_; subst ea_)); subst ec_; clear en_))
                have GB11 := Aside0.mk gb11
                have GG11 := Aside0.mk HG11
                clear gb11 gl11 HG11
                obtain ⟨ce11, hcl11, hM11, hcc11, hfr11⟩ := Kd.R_elem HO_4.out z23 (x5_1 : Int) p11 q11
                obtain rfl := k23_openM hM11
                have hx11_0 : wr.cell? ⟨go11, (x5_1 : Int).toNat * 3, none⟩ = some (.int .i64 ((rd_T23 x4_1 x5_1).f0)) := hcc11 0 _ rfl
                have hx11_1 : wr.cell? ⟨go11, (x5_1 : Int).toNat * 3 + 1, none⟩ = some (.string ((rd_T23 x4_1 x5_1).f1)) := hcc11 1 _ rfl
                have hx11_2 : wr.cell? ⟨go11, (x5_1 : Int).toNat * 3 + 2, none⟩ = some (.int .i64 ((rd_T23 x4_1 x5_1).f2)) := hcc11 2 _ rfl
                have hf11_0 : wr.frozen? ⟨go11, (x5_1 : Int).toNat * 3, none⟩ = false := hfr11 0
                have hf11_1 : wr.frozen? ⟨go11, (x5_1 : Int).toNat * 3 + 1, none⟩ = false := hfr11 1
                have hf11_2 : wr.frozen? ⟨go11, (x5_1 : Int).toNat * 3 + 2, none⟩ = false := hfr11 2
                clear hcl11 hcc11 hfr11 hM11
                replace p11 := eq_true p11
                replace q11 := eq_true q11
                have HX12 := Aside0.mk (show Kd.R k23 23 wr w.heap.size (fun _ => True) (.slice (some ⟨go11, 0, none⟩) x4_1.length co11) x4_1 from (by (with_reducible repeat (first | apply Kd.R_alloc | apply Kd.R_drewN | apply Kd.R_drew)); exact HO_4.out))
                obtain ⟨ce12, hcl12, hM12, hcc12, hfr12⟩ := Kd.R_elem HX12.out z23 (x5_1 : Int) (of_decide_eq_true (by first | (with_reducible assumption) | assumption)) (by have h_ : (x5_1 : Int) < ((x4_1.length : Int) : Int) := of_decide_eq_true (by first | (with_reducible assumption) | assumption); first | exact h_ | (have e_ := (Kd.R_reads' HO_4.out).1; omega) | simpa using h_)
                obtain rfl := k23_openM hM12
                have HP12 := Kd.R_seg HX12.out (x5_1 : Int) (of_decide_eq_true (by first | (with_reducible assumption) | assumption)) (by have h_ : (x5_1 : Int) < ((x4_1.length : Int) : Int) := of_decide_eq_true (by first | (with_reducible assumption) | assumption); first | exact h_ | (have e_ := (Kd.R_reads' HO_4.out).1; omega) | simpa using h_) (seg := [.int .i64 6, .string (⟨#[]⟩ : ByteArray), .int .i64 1]) (j := 0) hcl12 hcc12 (show 3 ≤ 3 from by decide) (x' := (⟨6, (⟨#[]⟩ : ByteArray), 1⟩ : S23)) (k23_mkM _ _ _ (⟨6, (⟨#[]⟩ : ByteArray), 1⟩ : S23) ) (fun _ hk => hk)
                have hx12_0 := hcc12 0 _ rfl
                (try simp only [show (k23).sz = 3 from rfl, Nat.mul_one, Nat.add_zero] at hx12_0)
                have hf12_0 := hfr12 0
                (try simp only [show (k23).sz = 3 from rfl, Nat.mul_one, Nat.add_zero] at hf12_0)
                have hx12_1 := hcc12 1 _ rfl
                (try simp only [show (k23).sz = 3 from rfl, Nat.mul_one, Nat.add_zero] at hx12_1)
                have hf12_1 := hfr12 1
                (try simp only [show (k23).sz = 3 from rfl, Nat.mul_one, Nat.add_zero] at hf12_1)
                have hx12_2 := hcc12 2 _ rfl
                (try simp only [show (k23).sz = 3 from rfl, Nat.mul_one, Nat.add_zero] at hx12_2)
                have hf12_2 := hfr12 2
                (try simp only [show (k23).sz = 3 from rfl, Nat.mul_one, Nat.add_zero] at hf12_2)
                clear hcl12 hcc12 hfr12 hM12
                go_wp2_with (first | ((with_reducible refine gate_store (t := 23) (p := 23) rfl ?_); refine store_event (t := 23) (p := 23) (v := ?vo_w13) (w1 := (((wr.setCell ⟨go11, (x5_1 : Int).toNat * 3, none⟩ (.int .i64 6)).setCell ⟨go11, (x5_1 : Int).toNat * 3 + 1, none⟩ (.string (⟨#[]⟩ : ByteArray))).setCell ⟨go11, (x5_1 : Int).toNat * 3 + 2, none⟩ (.int .i64 1))) ?hg ?ho ?hn ?hr ?_; (case ho => rfl); (case hg => rfl); (case hn => rfl); (case hr => first | (go_simp; done) | (go_simp; rfl)); intro w13 hw; have hg : wr.grownBy w13 (some go11) := (by rw [hw]; exact HP12.2); have hp_ : Kd.R k23 23 w13 w.heap.size (fun _ => True) (.slice (some ⟨go11, 0, none⟩) x4_1.length co11) y312 := (by rw [hw, Ny312.out]; exact HP12.1); clear HP12; have n0_ := Aside0.mk (hp_); have n1_ := Aside0.mk ((by rw [hw]; exact below_set (below_set (below_set (HB.out) GB11.out) GB11.out) GB11.out : Below w.heap.size w w13)); clear HO_4; clear HB; have HO_4 := n0_; have HB := n1_; clear n0_ n1_; clear hg hw hp_))
                go_roundg k1
                case measure => have := HK1.out; omega
                case rel => exact ⟨(y312), (wrap64 (x5_1 + 1)), (by first | rfl | (simp; done) | (simp [*]; done)), H', ⟨by have := HK1.out; omega⟩, ⟨by (with_reducible repeat (first | apply Kd.R_alloc | apply Kd.R_drewN | apply Kd.R_drew)); exact HO_4.out⟩, ⟨by repeat (first | (with_reducible first | exact HB.out | apply below_alloc | apply pw_below_drewN | apply below_drew1) | exact HB.out)⟩⟩
              · rw [if_neg c10] at H
                exact absurd H (by simp)
            · rw [if_neg c9] at H
              exact absurd H (by simp)
          · rw [if_neg c8] at H
            have c8b0 : decide (x5_1 < ji3) = false := decide_eq_false c8
            clear c8
            replace H := Option.bind_eq_some_iff.mp H
            obtain ⟨⟨t313, t314⟩, A140, H⟩ := H
            replace H : ((payslip_Compare.f k1 ([] : List (S23)) x4_1).bind fun bt317 => (if ji3 > 65536 then (if t314 = 3 then (if bt317.2 = 3 then (if (t313.length : Int) = 0 then (if (bt317.1.length : Int) = 0 then ((payrolllaw34_awake.f k1).bind fun t321 => (some t321)) else (some false)) else (some false)) else (some false)) else (some false)) else (if t314 = 0 then (if bt317.2 = 0 then (if (t313.length : Int) = 1 then (if 0 < (t313.length : Int) then (if ((rd_T23 t313 0).f2) = ji3 then (if (bt317.1.length : Int) = 1 then (if 0 < (bt317.1.length : Int) then (if ((rd_T23 bt317.1 0).f2) = ji3 then ((payrolllaw34_awake.f k1).bind fun t324 => (some t324)) else (some false)) else (none)) else (some false)) else (some false)) else (none)) else (some false)) else (some false)) else (some false)))) = some true := H
            have A14 := Aside0.mk A140
            clear A140
            replace H := Option.bind_eq_some_iff.mp H
            obtain ⟨⟨t317, t318⟩, A150, H⟩ := H
            replace H : (if ji3 > 65536 then (if t314 = 3 then (if t318 = 3 then (if (t313.length : Int) = 0 then (if (t317.length : Int) = 0 then ((payrolllaw34_awake.f k1).bind fun t321 => (some t321)) else (some false)) else (some false)) else (some false)) else (some false)) else (if t314 = 0 then (if t318 = 0 then (if (t313.length : Int) = 1 then (if 0 < (t313.length : Int) then (if ((rd_T23 t313 0).f2) = ji3 then (if (t317.length : Int) = 1 then (if 0 < (t317.length : Int) then (if ((rd_T23 t317 0).f2) = ji3 then ((payrolllaw34_awake.f k1).bind fun t324 => (some t324)) else (some false)) else (none)) else (some false)) else (some false)) else (none)) else (some false)) else (some false)) else (some false))) = some true := H
            have A15 := Aside0.mk A150
            clear A150
            by_cases c16 : ji3 > 65536
            · rw [if_pos c16] at H
              have c16b0 : decide (65536 < ji3) = true := decide_eq_true c16
              clear c16
              by_cases c17 : t314 = 3
              · rw [if_pos c17] at H
                have c17b0 : (t314 == 3) = true := beq_iff_eq.mpr c17
                have c17b1 : (t314 != 3) = false := bne_eq_false_iff_eq.mpr c17
                clear c17
                by_cases c18 : t318 = 3
                · rw [if_pos c18] at H
                  have c18b0 : (t318 == 3) = true := beq_iff_eq.mpr c18
                  have c18b1 : (t318 != 3) = false := bne_eq_false_iff_eq.mpr c18
                  clear c18
                  by_cases c19 : (t313.length : Int) = 0
                  · rw [if_pos c19] at H
                    have c19b0 : ((t313.length : Int) == 0) = true := beq_iff_eq.mpr c19
                    have c19b1 : ((t313.length : Int) != 0) = false := bne_eq_false_iff_eq.mpr c19
                    clear c19
                    by_cases c20 : (t317.length : Int) = 0
                    · rw [if_pos c20] at H
                      have c20b0 : ((t317.length : Int) == 0) = true := beq_iff_eq.mpr c20
                      have c20b1 : ((t317.length : Int) != 0) = false := bne_eq_false_iff_eq.mpr c20
                      clear c20
                      replace H := Option.bind_eq_some_iff.mp H
                      obtain ⟨t321, A210, H⟩ := H
                      replace H : (some t321) = some true := H
                      have A21 := Aside0.mk A210
                      clear A210
                      obtain rfl := Option.some.inj H
                      obtain ⟨Ao22, co22, eo22⟩ := Kd.R_slice HO_4.out
                      subst eo22
                      go_wp2_with (first | ((with_reducible refine gate_callee (f := 20) rfl ?_); refine goesL_ (some 26) rfl rfl Tryd.func20 (by kernel_rfl) rfl #[.slice Ao22 x4_1.length co22] rfl (by (try simp only [List.map_toArray, List.map_cons, List.map_nil]); first | done | rfl | (simp only [List.length_drop, List.length_take]; rfl)) ?_; (with_reducible refine (payslip_Merge.calls k1 _ _ x4_1 t313 t314 _ ?side1 ?side2 A14.out).mono ?_); (case side1 => repeat (first | exact (Kd.R_reads' HO_4.out).2.2 | (with_reducible refine Kd.C_alloc ?_ _) | (with_reducible refine Kd.C_drewN ?_ _) | (with_reducible refine Kd.C_drew ?_))); (case side2 => exact (Kd.R_reads' HO_4.out).2.1); rintro e w23 ⟨v315, rfl, ho0, hb⟩; refine ⟨_, rfl, ?_⟩; have n0_ := Aside0.mk (Kd.R_elder' (by (with_reducible repeat (first | apply Kd.R_alloc | apply Kd.R_drewN | apply Kd.R_drew)); exact HO_4.out) (Kd.R_base ho0) hb); have n1_ := Aside0.mk (Kd.R_lower (Kd.R_new' ho0 (Kd.R_lt (by (with_reducible repeat (first | apply Kd.R_alloc | apply Kd.R_drewN | apply Kd.R_drew)); exact HO_4.out))) (below_size (by repeat (first | (with_reducible first | exact HB.out | apply below_alloc | apply pw_below_drewN | apply below_drew1) | exact HB.out)))); have n2_ := Aside0.mk (below_step (by repeat (first | (with_reducible first | exact HB.out | apply below_alloc | apply pw_below_drewN | apply below_drew1) | exact HB.out)) hb); clear HO_4; clear HB; have HO_4 := n0_; have HO316 := n1_; have HB := n2_; clear n0_ n1_ n2_; (try clear hb); (try clear hb2); (try clear hk); (try clear hi); (try clear ho0)) | ((with_reducible refine gate_callee (f := 17) rfl ?_); refine goesL_ (some 31) rfl rfl Tryd.func17 (by kernel_rfl) rfl #[.slice none 0 0, .slice Ao22 x4_1.length co22] rfl (by (try simp only [List.map_toArray, List.map_cons, List.map_nil]); first | done | rfl | (simp only [List.length_drop, List.length_take]; rfl)) ?_; (refine (payslip_Compare.calls k1 _ _ ([] : List (S23)) _ _ x4_1 t317 t318 _ ?side1 ?side2 ?side3 ?side4 A15.out).mono ?_); (case side1 => exact Kd.C_nil _ _); (case side2 => exact Nat.le_refl _); (case side3 => repeat (first | exact (Kd.R_reads' HO_4.out).2.2 | (with_reducible refine Kd.C_alloc ?_ _) | (with_reducible refine Kd.C_drewN ?_ _) | (with_reducible refine Kd.C_drew ?_))); (case side4 => exact (Kd.R_reads' HO_4.out).2.1); rintro e w24 ⟨v319, rfl, ho0, hb⟩; refine ⟨_, rfl, ?_⟩; have n0_ := Aside0.mk (Kd.R_elder' (by (with_reducible repeat (first | apply Kd.R_alloc | apply Kd.R_drewN | apply Kd.R_drew)); exact HO_4.out) (Kd.R_base ho0) hb); have n1_ := Aside0.mk (Kd.R_elder' (by (with_reducible repeat (first | apply Kd.R_alloc | apply Kd.R_drewN | apply Kd.R_drew)); exact HO316.out) (Kd.R_base ho0) hb); have n2_ := Aside0.mk (Kd.R_lower (Kd.R_new' (Kd.R_new' ho0 (Kd.R_lt (by (with_reducible repeat (first | apply Kd.R_alloc | apply Kd.R_drewN | apply Kd.R_drew)); exact HO_4.out))) (Kd.R_lt (by (with_reducible repeat (first | apply Kd.R_alloc | apply Kd.R_drewN | apply Kd.R_drew)); exact HO316.out))) (below_size (by repeat (first | (with_reducible first | exact HB.out | apply below_alloc | apply pw_below_drewN | apply below_drew1) | exact HB.out)))); have n3_ := Aside0.mk (below_step (by repeat (first | (with_reducible first | exact HB.out | apply below_alloc | apply pw_below_drewN | apply below_drew1) | exact HB.out)) hb); clear HO_4; clear HO316; clear HB; have HO_4 := n0_; have HO316 := n1_; have HO320 := n2_; have HB := n3_; clear n0_ n1_ n2_ n3_; (try clear hb); (try clear hb2); (try clear hk); (try clear hi); (try clear ho0); obtain ⟨Ao25, co25, eo25⟩ := Kd.R_slice HO316.out; subst eo25; obtain ⟨Ao26, co26, eo26⟩ := Kd.R_slice HO320.out; subst eo26) | (go_at_call 8; (with_reducible refine (payrolllaw34_awake.calls k1   _ ?side1 A21.out).mono ?_); (case side1 => exact Tabs.below HT.out (by repeat (first | (with_reducible first | exact HB.out | apply below_alloc | apply pw_below_drewN | apply below_drew1) | exact HB.out))); rintro e w27 ⟨rfl, hb⟩; have n0_ := Aside0.mk (Kd.R_below (by (with_reducible repeat (first | apply Kd.R_alloc | apply Kd.R_drewN | apply Kd.R_drew)); exact HO_4.out) hb); have n1_ := Aside0.mk (Kd.R_below (by (with_reducible repeat (first | apply Kd.R_alloc | apply Kd.R_drewN | apply Kd.R_drew)); exact HO316.out) hb); have n2_ := Aside0.mk (Kd.R_below (by (with_reducible repeat (first | apply Kd.R_alloc | apply Kd.R_drewN | apply Kd.R_drew)); exact HO320.out) hb); have n3_ := Aside0.mk (below_step (by repeat (first | (with_reducible first | exact HB.out | apply below_alloc | apply pw_below_drewN | apply below_drew1) | exact HB.out)) hb); clear HO_4; clear HO316; clear HO320; clear HB; have HO_4 := n0_; have HO316 := n1_; have HO320 := n2_; have HB := n3_; clear n0_ n1_ n2_ n3_; (try clear hb); (try clear hb2); (try clear hk); (try clear hi)))
                      go_ret
                      exact ⟨by first | rfl | (rw [HY.out] <;> rfl) | (simp [errW_none, errW_some] <;> rfl) | (simp only [← hji3]; first | rfl | (simp [errW_none, errW_some] <;> rfl)) | (simp [*, errW_none, errW_some] <;> rfl), by repeat (first | (with_reducible first | exact HB.out | apply below_alloc | apply pw_below_drewN | apply below_drew1) | exact HB.out)⟩
                    · rw [if_neg c20] at H
                      have c20b0 : ((t317.length : Int) == 0) = false := beq_eq_false_iff_ne.mpr c20
                      have c20b1 : ((t317.length : Int) != 0) = true := bne_iff_ne.mpr c20
                      have c20b2 : ¬ (t317 = []) := fun h_ => c20 (by rw [h_]; rfl)
                      exact absurd H (by simp)
                  · rw [if_neg c19] at H
                    have c19b0 : ((t313.length : Int) == 0) = false := beq_eq_false_iff_ne.mpr c19
                    have c19b1 : ((t313.length : Int) != 0) = true := bne_iff_ne.mpr c19
                    have c19b2 : ¬ (t313 = []) := fun h_ => c19 (by rw [h_]; rfl)
                    exact absurd H (by simp)
                · rw [if_neg c18] at H
                  have c18b0 : (t318 == 3) = false := beq_eq_false_iff_ne.mpr c18
                  have c18b1 : (t318 != 3) = true := bne_iff_ne.mpr c18
                  exact absurd H (by simp)
              · rw [if_neg c17] at H
                have c17b0 : (t314 == 3) = false := beq_eq_false_iff_ne.mpr c17
                have c17b1 : (t314 != 3) = true := bne_iff_ne.mpr c17
                exact absurd H (by simp)
            · rw [if_neg c16] at H
              have c16b0 : decide (65536 < ji3) = false := decide_eq_false c16
              clear c16
              by_cases c28 : t314 = 0
              · rw [if_pos c28] at H
                have c28b0 : (t314 == 0) = true := beq_iff_eq.mpr c28
                have c28b1 : (t314 != 0) = false := bne_eq_false_iff_eq.mpr c28
                clear c28
                by_cases c29 : t318 = 0
                · rw [if_pos c29] at H
                  have c29b0 : (t318 == 0) = true := beq_iff_eq.mpr c29
                  have c29b1 : (t318 != 0) = false := bne_eq_false_iff_eq.mpr c29
                  clear c29
                  by_cases c30 : (t313.length : Int) = 1
                  · rw [if_pos c30] at H
                    have c30b0 : ((t313.length : Int) == 1) = true := beq_iff_eq.mpr c30
                    have c30b1 : ((t313.length : Int) != 1) = false := bne_eq_false_iff_eq.mpr c30
                    clear c30
                    by_cases c31 : 0 < (t313.length : Int)
                    · rw [if_pos c31] at H
                      have c31b0 : decide (0 < (t313.length : Int)) = true := decide_eq_true c31
                      have c31b1 : decide (0 < t313.length) = true := decide_eq_true (by omega)
                      clear c31
                      by_cases c32 : ((rd_T23 t313 0).f2) = ji3
                      · rw [if_pos c32] at H
                        have c32b0 : (((rd_T23 t313 0).f2) == ji3) = true := beq_iff_eq.mpr c32
                        have c32b1 : (((rd_T23 t313 0).f2) != ji3) = false := bne_eq_false_iff_eq.mpr c32
                        clear c32
                        by_cases c33 : (t317.length : Int) = 1
                        · rw [if_pos c33] at H
                          have c33b0 : ((t317.length : Int) == 1) = true := beq_iff_eq.mpr c33
                          have c33b1 : ((t317.length : Int) != 1) = false := bne_eq_false_iff_eq.mpr c33
                          clear c33
                          by_cases c34 : 0 < (t317.length : Int)
                          · rw [if_pos c34] at H
                            have c34b0 : decide (0 < (t317.length : Int)) = true := decide_eq_true c34
                            have c34b1 : decide (0 < t317.length) = true := decide_eq_true (by omega)
                            clear c34
                            by_cases c35 : ((rd_T23 t317 0).f2) = ji3
                            · rw [if_pos c35] at H
                              have c35b0 : (((rd_T23 t317 0).f2) == ji3) = true := beq_iff_eq.mpr c35
                              have c35b1 : (((rd_T23 t317 0).f2) != ji3) = false := bne_eq_false_iff_eq.mpr c35
                              clear c35
                              replace H := Option.bind_eq_some_iff.mp H
                              obtain ⟨t324, A360, H⟩ := H
                              replace H : (some t324) = some true := H
                              have A36 := Aside0.mk A360
                              clear A360
                              obtain rfl := Option.some.inj H
                              obtain ⟨Ao37, co37, eo37⟩ := Kd.R_slice HO_4.out
                              subst eo37
                              go_wp2_with (first | ((with_reducible refine gate_callee (f := 20) rfl ?_); refine goesL_ (some 26) rfl rfl Tryd.func20 (by kernel_rfl) rfl #[.slice Ao37 x4_1.length co37] rfl (by (try simp only [List.map_toArray, List.map_cons, List.map_nil]); first | done | rfl | (simp only [List.length_drop, List.length_take]; rfl)) ?_; (with_reducible refine (payslip_Merge.calls k1 _ _ x4_1 t313 t314 _ ?side1 ?side2 A14.out).mono ?_); (case side1 => repeat (first | exact (Kd.R_reads' HO_4.out).2.2 | (with_reducible refine Kd.C_alloc ?_ _) | (with_reducible refine Kd.C_drewN ?_ _) | (with_reducible refine Kd.C_drew ?_))); (case side2 => exact (Kd.R_reads' HO_4.out).2.1); rintro e w38 ⟨v315, rfl, ho0, hb⟩; refine ⟨_, rfl, ?_⟩; have n0_ := Aside0.mk (Kd.R_elder' (by (with_reducible repeat (first | apply Kd.R_alloc | apply Kd.R_drewN | apply Kd.R_drew)); exact HO_4.out) (Kd.R_base ho0) hb); have n1_ := Aside0.mk (Kd.R_lower (Kd.R_new' ho0 (Kd.R_lt (by (with_reducible repeat (first | apply Kd.R_alloc | apply Kd.R_drewN | apply Kd.R_drew)); exact HO_4.out))) (below_size (by repeat (first | (with_reducible first | exact HB.out | apply below_alloc | apply pw_below_drewN | apply below_drew1) | exact HB.out)))); have n2_ := Aside0.mk (below_step (by repeat (first | (with_reducible first | exact HB.out | apply below_alloc | apply pw_below_drewN | apply below_drew1) | exact HB.out)) hb); clear HO_4; clear HB; have HO_4 := n0_; have HO316 := n1_; have HB := n2_; clear n0_ n1_ n2_; (try clear hb); (try clear hb2); (try clear hk); (try clear hi); (try clear ho0)) | ((with_reducible refine gate_callee (f := 17) rfl ?_); refine goesL_ (some 31) rfl rfl Tryd.func17 (by kernel_rfl) rfl #[.slice none 0 0, .slice Ao37 x4_1.length co37] rfl (by (try simp only [List.map_toArray, List.map_cons, List.map_nil]); first | done | rfl | (simp only [List.length_drop, List.length_take]; rfl)) ?_; (refine (payslip_Compare.calls k1 _ _ ([] : List (S23)) _ _ x4_1 t317 t318 _ ?side1 ?side2 ?side3 ?side4 A15.out).mono ?_); (case side1 => exact Kd.C_nil _ _); (case side2 => exact Nat.le_refl _); (case side3 => repeat (first | exact (Kd.R_reads' HO_4.out).2.2 | (with_reducible refine Kd.C_alloc ?_ _) | (with_reducible refine Kd.C_drewN ?_ _) | (with_reducible refine Kd.C_drew ?_))); (case side4 => exact (Kd.R_reads' HO_4.out).2.1); rintro e w39 ⟨v319, rfl, ho0, hb⟩; refine ⟨_, rfl, ?_⟩; have n0_ := Aside0.mk (Kd.R_elder' (by (with_reducible repeat (first | apply Kd.R_alloc | apply Kd.R_drewN | apply Kd.R_drew)); exact HO_4.out) (Kd.R_base ho0) hb); have n1_ := Aside0.mk (Kd.R_elder' (by (with_reducible repeat (first | apply Kd.R_alloc | apply Kd.R_drewN | apply Kd.R_drew)); exact HO316.out) (Kd.R_base ho0) hb); have n2_ := Aside0.mk (Kd.R_lower (Kd.R_new' (Kd.R_new' ho0 (Kd.R_lt (by (with_reducible repeat (first | apply Kd.R_alloc | apply Kd.R_drewN | apply Kd.R_drew)); exact HO_4.out))) (Kd.R_lt (by (with_reducible repeat (first | apply Kd.R_alloc | apply Kd.R_drewN | apply Kd.R_drew)); exact HO316.out))) (below_size (by repeat (first | (with_reducible first | exact HB.out | apply below_alloc | apply pw_below_drewN | apply below_drew1) | exact HB.out)))); have n3_ := Aside0.mk (below_step (by repeat (first | (with_reducible first | exact HB.out | apply below_alloc | apply pw_below_drewN | apply below_drew1) | exact HB.out)) hb); clear HO_4; clear HO316; clear HB; have HO_4 := n0_; have HO316 := n1_; have HO320 := n2_; have HB := n3_; clear n0_ n1_ n2_ n3_; (try clear hb); (try clear hb2); (try clear hk); (try clear hi); (try clear ho0); obtain ⟨Ao40, co40, eo40⟩ := Kd.R_slice HO316.out; subst eo40; have p322 : 0 ≤ (0 : Int) := (by omega); have q322 : 0 < (t313.length : Int) := of_decide_eq_true (by first | (with_reducible assumption) | assumption); obtain ⟨ad322, e322, hx322_0, hx322_1, hx322_2⟩ := at_T23 (Kd.R_reads' HO316.out).2.2 0 p322 q322; cases e322; have qi322 : (0 < t313.length) = True := eq_true (by omega); (try rw [show ((0 : Int)).toNat = 0 from rfl] at hx322_0); (try rw [show 0 * 3 = 0 from rfl] at hx322_0); (try rw [Addr.add_zero'] at hx322_0); (try rw [show ((0 : Int)).toNat = 0 from rfl] at hx322_1); (try rw [show 0 * 3 = 0 from rfl] at hx322_1); (try rw [Addr.add_zero'] at hx322_1); (try rw [show ((0 : Int)).toNat = 0 from rfl] at hx322_2); (try rw [show 0 * 3 = 0 from rfl] at hx322_2); (try rw [Addr.add_zero'] at hx322_2); replace p322 := eq_true p322; replace q322 := eq_true q322; obtain ⟨Ao41, co41, eo41⟩ := Kd.R_slice HO320.out; subst eo41; have p323 : 0 ≤ (0 : Int) := (by omega); have q323 : 0 < (t317.length : Int) := of_decide_eq_true (by first | (with_reducible assumption) | assumption); obtain ⟨ad323, e323, hx323_0, hx323_1, hx323_2⟩ := at_T23 (Kd.R_reads' HO320.out).2.2 0 p323 q323; cases e323; have qi323 : (0 < t317.length) = True := eq_true (by omega); (try rw [show ((0 : Int)).toNat = 0 from rfl] at hx323_0); (try rw [show 0 * 3 = 0 from rfl] at hx323_0); (try rw [Addr.add_zero'] at hx323_0); (try rw [show ((0 : Int)).toNat = 0 from rfl] at hx323_1); (try rw [show 0 * 3 = 0 from rfl] at hx323_1); (try rw [Addr.add_zero'] at hx323_1); (try rw [show ((0 : Int)).toNat = 0 from rfl] at hx323_2); (try rw [show 0 * 3 = 0 from rfl] at hx323_2); (try rw [Addr.add_zero'] at hx323_2); replace p323 := eq_true p323; replace q323 := eq_true q323) | (go_at_call 8; (with_reducible refine (payrolllaw34_awake.calls k1   _ ?side1 A36.out).mono ?_); (case side1 => exact Tabs.below HT.out (by repeat (first | (with_reducible first | exact HB.out | apply below_alloc | apply pw_below_drewN | apply below_drew1) | exact HB.out))); rintro e w42 ⟨rfl, hb⟩; have n0_ := Aside0.mk (Kd.R_below (by (with_reducible repeat (first | apply Kd.R_alloc | apply Kd.R_drewN | apply Kd.R_drew)); exact HO_4.out) hb); have n1_ := Aside0.mk (Kd.R_below (by (with_reducible repeat (first | apply Kd.R_alloc | apply Kd.R_drewN | apply Kd.R_drew)); exact HO316.out) hb); have n2_ := Aside0.mk (Kd.R_below (by (with_reducible repeat (first | apply Kd.R_alloc | apply Kd.R_drewN | apply Kd.R_drew)); exact HO320.out) hb); have n3_ := Aside0.mk (below_step (by repeat (first | (with_reducible first | exact HB.out | apply below_alloc | apply pw_below_drewN | apply below_drew1) | exact HB.out)) hb); clear HO_4; clear HO316; clear HO320; clear HB; have HO_4 := n0_; have HO316 := n1_; have HO320 := n2_; have HB := n3_; clear n0_ n1_ n2_ n3_; (try clear hb); (try clear hb2); (try clear hk); (try clear hi)))
                              go_ret
                              exact ⟨by first | rfl | (rw [HY.out] <;> rfl) | (simp [errW_none, errW_some] <;> rfl) | (simp only [← hji3]; first | rfl | (simp [errW_none, errW_some] <;> rfl)) | (simp [*, errW_none, errW_some] <;> rfl), by repeat (first | (with_reducible first | exact HB.out | apply below_alloc | apply pw_below_drewN | apply below_drew1) | exact HB.out)⟩
                            · rw [if_neg c35] at H
                              have c35b0 : (((rd_T23 t317 0).f2) == ji3) = false := beq_eq_false_iff_ne.mpr c35
                              have c35b1 : (((rd_T23 t317 0).f2) != ji3) = true := bne_iff_ne.mpr c35
                              exact absurd H (by simp)
                          · rw [if_neg c34] at H
                            exact absurd H (by simp)
                        · rw [if_neg c33] at H
                          have c33b0 : ((t317.length : Int) == 1) = false := beq_eq_false_iff_ne.mpr c33
                          have c33b1 : ((t317.length : Int) != 1) = true := bne_iff_ne.mpr c33
                          exact absurd H (by simp)
                      · rw [if_neg c32] at H
                        have c32b0 : (((rd_T23 t313 0).f2) == ji3) = false := beq_eq_false_iff_ne.mpr c32
                        have c32b1 : (((rd_T23 t313 0).f2) != ji3) = true := bne_iff_ne.mpr c32
                        exact absurd H (by simp)
                    · rw [if_neg c31] at H
                      exact absurd H (by simp)
                  · rw [if_neg c30] at H
                    have c30b0 : ((t313.length : Int) == 1) = false := beq_eq_false_iff_ne.mpr c30
                    have c30b1 : ((t313.length : Int) != 1) = true := bne_iff_ne.mpr c30
                    exact absurd H (by simp)
                · rw [if_neg c29] at H
                  have c29b0 : (t318 == 0) = false := beq_eq_false_iff_ne.mpr c29
                  have c29b1 : (t318 != 0) = true := bne_iff_ne.mpr c29
                  exact absurd H (by simp)
              · rw [if_neg c28] at H
                have c28b0 : (t314 == 0) = false := beq_eq_false_iff_ne.mpr c28
                have c28b1 : (t314 != 0) = true := bne_iff_ne.mpr c28
                exact absurd H (by simp)
    · rw [if_neg c5] at H
      exact absurd H (by simp)
  · rw [if_neg c4] at H
    exact absurd H (by simp)
end Go.Proofs.YtlanldccamphcaaDoor.P
