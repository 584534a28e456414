/- Texts for the law FilingDecodes (kept out of a larger one). -/
import Derived.Test.YtejgfblphgcgkaaGreatDoorZFilingDecodes3
namespace Go.Proofs.YtejgfblphgcgkaaGreatDoor.P
open Go.RowKit Go.Proofs.YtejgfblphgcgkaaGreatDoorW.PrintWords Go.Proofs.YtejgfblphgcgkaaGreatDoorW.PrintLast Go.Proofs.YtejgfblphgcgkaaGreatDoorW.PrintMore
attribute [local go_sem] max2_int min2_int max_two min_two max_three min_three max_four min_four   -- for this text's walks alone
set_option linter.unusedVariables false
set_option maxHeartbeats 8000000
set_option maxRecDepth 100000
set_option linter.unusedSimpArgs false
def payrollref34_Lines.l0 : Nat → Zb → List Zb → Int → Int → Option (List Zb × Bool)
 | 0, _, _, _, _ => none
 | k + 1, x0, x4, x5, x6 => if x6 < (x0.size : Int) then (if 0 ≤ x6 then (if (bt x0 x6) = 10 then (if 0 ≤ x5 then (if x5 ≤ x6 then (if x6 ≤ (x0.size : Int) then (if x4.length < 8796093022208 then (payrollref34_Lines.l0 k x0 (x4 ++ [x0.extract (x5 : Int).toNat (x6 : Int).toNat]) (wrap64 (x6 + 1)) (wrap64 (x6 + 1))) else (none)) else (none)) else (none)) else (none)) else (payrollref34_Lines.l0 k x0 x4 x5 (wrap64 (x6 + 1)))) else (none)) else (some (x4, (x5 == (x0.size : Int))))
def payrollref34_Lines.f (k : Nat) (a0 : Zb) : Option (List Zb × Bool) := payrollref34_Lines.l0 k a0 ([] : List Zb) 0 0
theorem payrollref34_Lines.calls (k : Nat) (a0 : Zb) (r1 : List Zb) (r2 : Bool) (w : World) (h : payrollref34_Lines.f k a0 = some (r1, r2)) :
 Calls Tryz.prog 47 #[.string a0] w fun e w' => ∃ v0_ : Value, e = .returned (.tuple #[v0_, .bool r2]) ∧ Kd.R Kd.string 9 w' w.heap.size (fun _ => True) v0_ r1 ∧ Below w.heap.size w w' := by
 have HB := Qa (Below.refl w.heap.size w)
 have H : (payrollref34_Lines.l0 k a0 ([] : List Zb) 0 0) = some (r1, r2) := h
 clear h
 have H' := Qa H
 clear H
 go_enter Tryz.func47, Tryz.ntmps47
 go_wp2
 go_loopg [4,5,6] k (fun kq v4 v5 v6 w' => ∃ (x4_1 : List Zb) (x5_1 : Int) (x6_1 : Int), v5 = .int .i64 x5_1 ∧ v6 = .int .i64 x6_1 ∧ Aside0 (payrollref34_Lines.l0 kq a0 x4_1 x5_1 x6_1 = some (r1, r2)) ∧ Aside0 (kq ≤ k) ∧ Aside0 (Kd.R Kd.string 9 w' w.heap.size (fun _ => True) v4 x4_1) ∧ Aside0 (Below w.heap.size w w'))
 case atStart => exact ⟨(([] : List Zb)), (0), (0), (by first | rfl | (simp; done) | (simp [*]; done)), (by first | rfl | (simp; done) | (simp [*]; done)), H', ⟨Nat.le_refl _⟩, ⟨by first | exact Kd.R_nil _ _ _ _ _ | exact Kd.N_nil _ _ _ _ _ | exact Kd.V_nil _ _ _ _ _ | exact Kd.Q_nil _ _ _ _ _ | exact Kd.S_nil _ _ _ _ _⟩, ⟨bl HB.out⟩⟩
 case round =>
  clear H'
  obtain ⟨x4_1, x5_1, x6_1, rfl, rfl, HA, HK1, HO_4, HB⟩ := hrel
  cases gk with
  | zero => exact absurd HA.out (by simp [payrollref34_Lines.l0])
  | succ k1 =>
   have H := HA.out
   clear HA
   simp only [payrollref34_Lines.l0] at H
   by_cases c2 : x6_1 < (a0.size : Int)
   · rw [if_pos c2] at H
     have c2b0 : decide (x6_1 < (a0.size : Int)) = true := Xq c2
     clear c2
     by_cases c3 : 0 ≤ x6_1
     · rw [if_pos c3] at H
       have c3b0 : decide (0 ≤ x6_1) = true := Xq c3
       clear c3
       by_cases c5 : (bt a0 x6_1) = 10
       · rw [if_pos c5] at H
         have c5b0 : ((bt a0 x6_1) == 10) = true := Yb.mpr c5
         have c5b1 : ((bt a0 x6_1) != 10) = false := bne_eq_false_iff_eq.mpr c5
         clear c5
         by_cases c6 : 0 ≤ x5_1
         · rw [if_pos c6] at H
           have c6b0 := eq_true c6
           have c6b1 : decide (0 ≤ x5_1) = true := Xq c6
           clear c6
           by_cases c7 : x5_1 ≤ x6_1
           · rw [if_pos c7] at H
             have c7b0 := eq_true c7
             have c7b1 : decide (x5_1 ≤ x6_1) = true := Xq c7
             clear c7
             by_cases c8 : x6_1 ≤ (a0.size : Int)
             · rw [if_pos c8] at H
               have c8b0 := eq_true c8
               have c8b1 : decide (x6_1 ≤ (a0.size : Int)) = true := Xq c8
               clear c8
               by_cases c9 : x4_1.length < 8796093022208
               · rw [if_pos c9] at H
                 have LMc9 := Qa c9
                 clear c9
                 obtain ⟨y402, hy402⟩ : ∃ y_ : List Zb, y_ = (x4_1 ++ [a0.extract (x5_1 : Int).toNat (x6_1 : Int).toNat]) := ⟨_, rfl⟩
                 replace H : (payrollref34_Lines.l0 k1 a0 y402 (wrap64 (x6_1 + 1)) (wrap64 (x6_1 + 1))) = some (r1, r2) := by first | (rw [hy402]; with_reducible exact H) | (have H2_ := (Xy _ _).symm.trans H; rw [hy402]; with_reducible exact H2_) | (have H2_ := (Xy _ _).symm.trans H; with_reducible exact H2_) | with_reducible exact H | (rw [hy402]; exact H) | exact H
                 have Ny402 := Qa hy402
                 clear hy402
                 have H' := Qa H
                 clear H
                 have p4 : 0 ≤ (x6_1 : Int) := Xp (by assumption)
                 have q4 : x6_1 < (a0.size : Int) := Xp (by assumption)
                 have hx4 := bt_at a0 x6_1
                 replace p4 := eq_true p4
                 replace q4 := eq_true q4
                 go_wp2_with (first | ((with_reducible refine gate_builtin (b := .append) (xs := #[.tmp 17, .tmp 22]) rfl ?_); at_builtin; refine Kd.R_append Kd.string (w0 := w) w.heap.size rfl (.tmp 17) (.tmp 22) 39 9 (.string ⟨#[]⟩) 16 rfl Tryz.underlying39 info9 rfl (by decide) (by omega) u4 x4_1 (a0.extract (x5_1 : Int).toNat (x6_1 : Int).toNat) [.string (a0.extract (x5_1 : Int).toNat (x6_1 : Int).toNat)] (fun _ => True) (fun _ => False) rfl rfl ?aP (fun _ hk => hk.elim) ?aF ?aO ?aB ?aS ?aL ?_; (case aP => exact rfl); (case aB => exact (bl HB.out)); (case aF => exact (fun _ _ => trivial)); (case aO => exact (kr HO_4.out)); (case aS => exact (Qi (bl HB.out))); (case aL => have := LMc9.out; omega); intro v403 w10 ho hb hg hat; rw [← Ny402.out] at ho; have n0_ := Qa (hb); have n1_ := Qa (ho); clear HB HO_4; have HB := n0_; have HO404 := n1_; clear n0_ n1_; clear ho hb hg hat))
                 go_roundg k1
                 case measure => have := HK1.out; omega
                 case rel => exact ⟨(y402), (wrap64 (x6_1 + 1)), (wrap64 (x6_1 + 1)), (by first | rfl | (simp; done) | (simp [*]; done)), (by first | rfl | (simp; done) | (simp [*]; done)), H', ⟨by have := HK1.out; omega⟩, ⟨kr HO404.out⟩, ⟨bl HB.out⟩⟩
               rw [if_neg c9] at H
               exact absurd H (by simp)
             rw [if_neg c8] at H
             exact absurd H (by simp)
           rw [if_neg c7] at H
           exact absurd H (by simp)
         rw [if_neg c6] at H
         exact absurd H (by simp)
       rw [if_neg c5] at H
       have c5b0 : ((bt a0 x6_1) == 10) = false := Ya.mpr c5
       have c5b1 : ((bt a0 x6_1) != 10) = true := Yc.mpr c5
       have H' := Qa H
       clear H
       have p4 : 0 ≤ (x6_1 : Int) := Xp (by assumption)
       have q4 : x6_1 < (a0.size : Int) := Xp (by assumption)
       have hx4 := bt_at a0 x6_1
       replace p4 := eq_true p4
       replace q4 := eq_true q4
       go_wp2
       go_roundg k1
       case measure => have := HK1.out; omega
       case rel => exact ⟨(x4_1), (x5_1), (wrap64 (x6_1 + 1)), (by first | rfl | (simp; done) | (simp [*]; done)), (by first | rfl | (simp; done) | (simp [*]; done)), H', ⟨by have := HK1.out; omega⟩, ⟨kr HO_4.out⟩, ⟨bl HB.out⟩⟩
     rw [if_neg c3] at H
     exact absurd H (by simp)
   rw [if_neg c2] at H
   have c2b0 : decide (x6_1 < (a0.size : Int)) = false := Xr c2
   clear c2
   simp only [Option.some.injEq, Prod.mk.injEq] at H
   obtain ⟨rfl, rfl⟩ := H
   go_wp2
   go_ret2
   exact ⟨_, by first | rfl | (simp [errW_none, errW_some] <;> rfl) | (simp [*, errW_none, errW_some] <;> rfl), by (with_reducible repeat (first | apply Xc | apply Xd | apply Xe)); exact HO_4.out, bl HB.out⟩
def payrollref34_Words.l0 : Nat → Zb → List Zb → Int → Int → Option (List Zb)
 | 0, _, _, _, _ => none
 | k + 1, x0, x3, x4, x5 => if x5 ≤ (x0.size : Int) then (if x5 = (x0.size : Int) then (if 0 ≤ x4 then (if x4 ≤ x5 then (if x3.length < 8796093022208 then (payrollref34_Words.l0 k x0 (x3 ++ [x0.extract (x4 : Int).toNat (x5 : Int).toNat]) (wrap64 (x5 + 1)) (wrap64 (x5 + 1))) else (none)) else (none)) else (none)) else (if 0 ≤ x5 then (if x5 < (x0.size : Int) then (if (bt x0 x5) = 32 then (if 0 ≤ x4 then (if x4 ≤ x5 then (if x3.length < 8796093022208 then (payrollref34_Words.l0 k x0 (x3 ++ [x0.extract (x4 : Int).toNat (x5 : Int).toNat]) (wrap64 (x5 + 1)) (wrap64 (x5 + 1))) else (none)) else (none)) else (none)) else (payrollref34_Words.l0 k x0 x3 x4 (wrap64 (x5 + 1)))) else (none)) else (none))) else (some x3)
def payrollref34_Words.f (k : Nat) (a0 : Zb) : Option (List Zb) := payrollref34_Words.l0 k a0 ([] : List Zb) 0 0
theorem payrollref34_Words.calls (k : Nat) (a0 : Zb) (r : List Zb) (w : World) (h : payrollref34_Words.f k a0 = some r) :
 Calls Tryz.prog 48 #[.string a0] w fun e w' => ∃ v0_ : Value, e = .returned (v0_) ∧ Kd.R Kd.string 9 w' w.heap.size (fun _ => True) v0_ r ∧ Below w.heap.size w w' := by
 have HB := Qa (Below.refl w.heap.size w)
 have H : (payrollref34_Words.l0 k a0 ([] : List Zb) 0 0) = some r := h
 clear h
 have H' := Qa H
 clear H
 go_enter Tryz.func48, Tryz.ntmps48
 go_wp2
 go_loopg [3,4,5] k (fun kq v3 v4 v5 w' => ∃ (x3_1 : List Zb) (x4_1 : Int) (x5_1 : Int), v4 = .int .i64 x4_1 ∧ v5 = .int .i64 x5_1 ∧ Aside0 (payrollref34_Words.l0 kq a0 x3_1 x4_1 x5_1 = some r) ∧ Aside0 (kq ≤ k) ∧ Aside0 (Kd.R Kd.string 9 w' w.heap.size (fun _ => True) v3 x3_1) ∧ Aside0 (Below w.heap.size w w'))
 case atStart => exact ⟨(([] : List Zb)), (0), (0), (by first | rfl | (simp; done) | (simp [*]; done)), (by first | rfl | (simp; done) | (simp [*]; done)), H', ⟨Nat.le_refl _⟩, ⟨by first | exact Kd.R_nil _ _ _ _ _ | exact Kd.N_nil _ _ _ _ _ | exact Kd.V_nil _ _ _ _ _ | exact Kd.Q_nil _ _ _ _ _ | exact Kd.S_nil _ _ _ _ _⟩, ⟨bl HB.out⟩⟩
 case round =>
  clear H'
  obtain ⟨x3_1, x4_1, x5_1, rfl, rfl, HA, HK1, HO_3, HB⟩ := hrel
  cases gk with
  | zero => exact absurd HA.out (by simp [payrollref34_Words.l0])
  | succ k1 =>
   have H := HA.out
   clear HA
   simp only [payrollref34_Words.l0] at H
   by_cases c2 : x5_1 ≤ (a0.size : Int)
   · rw [if_pos c2] at H
     have c2b0 : decide (x5_1 ≤ (a0.size : Int)) = true := Xq c2
     clear c2
     by_cases c3 : x5_1 = (a0.size : Int)
     · rw [if_pos c3] at H
       have c3b0 : (x5_1 == (a0.size : Int)) = true := Yb.mpr c3
       have c3b1 : (x5_1 != (a0.size : Int)) = false := bne_eq_false_iff_eq.mpr c3
       clear c3
       by_cases c4 : 0 ≤ x4_1
       · rw [if_pos c4] at H
         have c4b0 := eq_true c4
         have c4b1 : decide (0 ≤ x4_1) = true := Xq c4
         clear c4
         by_cases c5 : x4_1 ≤ x5_1
         · rw [if_pos c5] at H
           have c5b0 := eq_true c5
           have c5b1 : decide (x4_1 ≤ x5_1) = true := Xq c5
           clear c5
           have c6b0 := eq_true (Xp (by assumption) : x5_1 ≤ (a0.size : Int))
           by_cases c7 : x3_1.length < 8796093022208
           · rw [if_pos c7] at H
             have LMc7 := Qa c7
             clear c7
             obtain ⟨y405, hy405⟩ : ∃ y_ : List Zb, y_ = (x3_1 ++ [a0.extract (x4_1 : Int).toNat (x5_1 : Int).toNat]) := ⟨_, rfl⟩
             replace H : (payrollref34_Words.l0 k1 a0 y405 (wrap64 (x5_1 + 1)) (wrap64 (x5_1 + 1))) = some r := by first | (rw [hy405]; with_reducible exact H) | (have H2_ := (Xy _ _).symm.trans H; rw [hy405]; with_reducible exact H2_) | (have H2_ := (Xy _ _).symm.trans H; with_reducible exact H2_) | with_reducible exact H | (rw [hy405]; exact H) | exact H
             have Ny405 := Qa hy405
             clear hy405
             have H' := Qa H
             clear H
             go_wp2_with (first | ((with_reducible refine gate_builtin (b := .append) (xs := #[.tmp 22, .tmp 27]) rfl ?_); at_builtin; refine Kd.R_append Kd.string (w0 := w) w.heap.size rfl (.tmp 22) (.tmp 27) 39 9 (.string ⟨#[]⟩) 16 rfl Tryz.underlying39 info9 rfl (by decide) (by omega) u3 x3_1 (a0.extract (x4_1 : Int).toNat (x5_1 : Int).toNat) [.string (a0.extract (x4_1 : Int).toNat (x5_1 : Int).toNat)] (fun _ => True) (fun _ => False) rfl rfl ?aP (fun _ hk => hk.elim) ?aF ?aO ?aB ?aS ?aL ?_; (case aP => exact rfl); (case aB => exact (bl HB.out)); (case aF => exact (fun _ _ => trivial)); (case aO => exact (kr HO_3.out)); (case aS => exact (Qi (bl HB.out))); (case aL => have := LMc7.out; omega); intro v406 w8 ho hb hg hat; rw [← Ny405.out] at ho; have n0_ := Qa (hb); have n1_ := Qa (ho); clear HB HO_3; have HB := n0_; have HO407 := n1_; clear n0_ n1_; clear ho hb hg hat))
             go_roundg k1
             case measure => have := HK1.out; omega
             case rel => exact ⟨(y405), (wrap64 (x5_1 + 1)), (wrap64 (x5_1 + 1)), (by first | rfl | (simp; done) | (simp [*]; done)), (by first | rfl | (simp; done) | (simp [*]; done)), H', ⟨by have := HK1.out; omega⟩, ⟨kr HO407.out⟩, ⟨bl HB.out⟩⟩
           rw [if_neg c7] at H
           exact absurd H (by simp)
         rw [if_neg c5] at H
         exact absurd H (by simp)
       rw [if_neg c4] at H
       exact absurd H (by simp)
     rw [if_neg c3] at H
     have c3b0 : (x5_1 == (a0.size : Int)) = false := Ya.mpr c3
     have c3b1 : (x5_1 != (a0.size : Int)) = true := Yc.mpr c3
     by_cases c9 : 0 ≤ x5_1
     · rw [if_pos c9] at H
       have c9b0 : decide (0 ≤ x5_1) = true := Xq c9
       clear c9
       by_cases c10 : x5_1 < (a0.size : Int)
       · rw [if_pos c10] at H
         have c10b0 : decide (x5_1 < (a0.size : Int)) = true := Xq c10
         clear c10
         by_cases c12 : (bt a0 x5_1) = 32
         · rw [if_pos c12] at H
           have c12b0 : ((bt a0 x5_1) == 32) = true := Yb.mpr c12
           have c12b1 : ((bt a0 x5_1) != 32) = false := bne_eq_false_iff_eq.mpr c12
           clear c12
           by_cases c13 : 0 ≤ x4_1
           · rw [if_pos c13] at H
             have c13b0 := eq_true c13
             have c13b1 : decide (0 ≤ x4_1) = true := Xq c13
             clear c13
             by_cases c14 : x4_1 ≤ x5_1
             · rw [if_pos c14] at H
               have c14b0 := eq_true c14
               have c14b1 : decide (x4_1 ≤ x5_1) = true := Xq c14
               clear c14
               have c15b0 := eq_true (Xp (by assumption) : x5_1 ≤ (a0.size : Int))
               by_cases c16 : x3_1.length < 8796093022208
               · rw [if_pos c16] at H
                 have LMc16 := Qa c16
                 clear c16
                 obtain ⟨y408, hy408⟩ : ∃ y_ : List Zb, y_ = (x3_1 ++ [a0.extract (x4_1 : Int).toNat (x5_1 : Int).toNat]) := ⟨_, rfl⟩
                 replace H : (payrollref34_Words.l0 k1 a0 y408 (wrap64 (x5_1 + 1)) (wrap64 (x5_1 + 1))) = some r := by first | (rw [hy408]; with_reducible exact H) | (have H2_ := (Xy _ _).symm.trans H; rw [hy408]; with_reducible exact H2_) | (have H2_ := (Xy _ _).symm.trans H; with_reducible exact H2_) | with_reducible exact H | (rw [hy408]; exact H) | exact H
                 have Ny408 := Qa hy408
                 clear hy408
                 have H' := Qa H
                 clear H
                 have p11 : 0 ≤ (x5_1 : Int) := Xp (by assumption)
                 have q11 : x5_1 < (a0.size : Int) := Xp (by assumption)
                 have hx11 := bt_at a0 x5_1
                 replace p11 := eq_true p11
                 replace q11 := eq_true q11
                 go_wp2_with (first | ((with_reducible refine gate_builtin (b := .append) (xs := #[.tmp 22, .tmp 27]) rfl ?_); at_builtin; refine Kd.R_append Kd.string (w0 := w) w.heap.size rfl (.tmp 22) (.tmp 27) 39 9 (.string ⟨#[]⟩) 16 rfl Tryz.underlying39 info9 rfl (by decide) (by omega) u3 x3_1 (a0.extract (x4_1 : Int).toNat (x5_1 : Int).toNat) [.string (a0.extract (x4_1 : Int).toNat (x5_1 : Int).toNat)] (fun _ => True) (fun _ => False) rfl rfl ?aP (fun _ hk => hk.elim) ?aF ?aO ?aB ?aS ?aL ?_; (case aP => exact rfl); (case aB => exact (bl HB.out)); (case aF => exact (fun _ _ => trivial)); (case aO => exact (kr HO_3.out)); (case aS => exact (Qi (bl HB.out))); (case aL => have := LMc16.out; omega); intro v409 w17 ho hb hg hat; rw [← Ny408.out] at ho; have n0_ := Qa (hb); have n1_ := Qa (ho); clear HB HO_3; have HB := n0_; have HO410 := n1_; clear n0_ n1_; clear ho hb hg hat))
                 go_roundg k1
                 case measure => have := HK1.out; omega
                 case rel => exact ⟨(y408), (wrap64 (x5_1 + 1)), (wrap64 (x5_1 + 1)), (by first | rfl | (simp; done) | (simp [*]; done)), (by first | rfl | (simp; done) | (simp [*]; done)), H', ⟨by have := HK1.out; omega⟩, ⟨kr HO410.out⟩, ⟨bl HB.out⟩⟩
               rw [if_neg c16] at H
               exact absurd H (by simp)
             rw [if_neg c14] at H
             exact absurd H (by simp)
           rw [if_neg c13] at H
           exact absurd H (by simp)
         rw [if_neg c12] at H
         have c12b0 : ((bt a0 x5_1) == 32) = false := Ya.mpr c12
         have c12b1 : ((bt a0 x5_1) != 32) = true := Yc.mpr c12
         have H' := Qa H
         clear H
         have p11 : 0 ≤ (x5_1 : Int) := Xp (by assumption)
         have q11 : x5_1 < (a0.size : Int) := Xp (by assumption)
         have hx11 := bt_at a0 x5_1
         replace p11 := eq_true p11
         replace q11 := eq_true q11
         go_wp2
         go_roundg k1
         case measure => have := HK1.out; omega
         case rel => exact ⟨(x3_1), (x4_1), (wrap64 (x5_1 + 1)), (by first | rfl | (simp; done) | (simp [*]; done)), (by first | rfl | (simp; done) | (simp [*]; done)), H', ⟨by have := HK1.out; omega⟩, ⟨kr HO_3.out⟩, ⟨bl HB.out⟩⟩
       rw [if_neg c10] at H
       exact absurd H (by simp)
     rw [if_neg c9] at H
     exact absurd H (by simp)
   rw [if_neg c2] at H
   have c2b0 : decide (x5_1 ≤ (a0.size : Int)) = false := Xr c2
   clear c2
   obtain rfl := Xz H
   go_wp2
   go_ret
   exact ⟨_, by first | rfl | (simp [errW_none, errW_some] <;> rfl) | (simp [*, errW_none, errW_some] <;> rfl), by (with_reducible repeat (first | apply Xc | apply Xd | apply Xe)); exact HO_3.out, bl HB.out⟩
end Go.Proofs.YtejgfblphgcgkaaGreatDoor.P
