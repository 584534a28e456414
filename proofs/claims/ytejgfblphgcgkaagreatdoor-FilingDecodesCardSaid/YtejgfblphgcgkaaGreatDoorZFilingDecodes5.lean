/- Texts for the law FilingDecodes (kept out of a larger one). -/
import Derived.Test.YtejgfblphgcgkaaGreatDoorZFilingDecodes4
import Derived.Sort.Walk0
namespace Go.Proofs.YtejgfblphgcgkaaGreatDoor.P
open Go.RowKit Go.Proofs.YtejgfblphgcgkaaGreatDoorW.PrintWords Go.Proofs.YtejgfblphgcgkaaGreatDoorW.PrintLast Go.Proofs.YtejgfblphgcgkaaGreatDoorW.PrintMore
attribute [local go_sem] max2_int min2_int max_two min_two max_three min_three max_four min_four   -- for this text's walks alone
set_option linter.unusedVariables false
set_option maxHeartbeats 8000000
set_option maxRecDepth 100000
set_option linter.unusedSimpArgs false
def payslip_Form.f (k : Nat) (a0_0 : Int) (a0_1 : Zb) (a0_2 : Int) : Option (Bool) := (payslip_form.f k a0_0 a0_1 a0_2).bind fun t111 => (if t111 = true then (some (a0_2 != 0)) else (some false))
theorem payslip_Form.calls (k : Nat) (a0_0 : Int) (a0_1 : Zb) (a0_2 : Int) (r : Bool) (w : World) (h : payslip_Form.f k a0_0 a0_1 a0_2 = some r) :
 Calls Tryz.prog 41 #[.agg #[.int .i64 a0_0, .string a0_1, .int .i64 a0_2]] w fun e w' => e = .returned (.bool r) ∧ Below w.heap.size w w' := by
 have hu60 := Tryz.underlying60
 have HB := Qa (Below.refl w.heap.size w)
 have H : ((payslip_form.f k a0_0 a0_1 a0_2).bind fun t111 => (if t111 = true then (some (a0_2 != 0)) else (some false))) = some r := h
 clear h
 replace H := Xx.mp H
 obtain ⟨t111, A20, H⟩ := H
 replace H : (if t111 = true then (some (a0_2 != 0)) else (some false)) = some r := H
 have A2 := Qa A20
 clear A20
 by_cases c3 : t111 = true
 · subst c3
   have H1 : (some (a0_2 != 0)) = some r := by rw [if_pos rfl] at H; exact H
   clear H
   have H := H1
   clear H1
   obtain rfl := Xz H
   go_enter Tryz.func41, Tryz.ntmps41
   go_wp2_with (first | ((with_reducible refine Qx (N := 1) rfl ?_); refine Qv ?hg (N := 1) ?hd (cs := #[.int .i64 a0_0, .string a0_1, .int .i64 a0_2]) (t := 60) ?hr ?_; (case hd => rfl); (case hg => rfl); (case hr => first | (go_simp; done) | (go_simp; rfl)); intro gb110 hg w4 hbox hb; have n0_ := Qa (Qh (bl HB.out) hb); have n1_ := Qa (hbox); have n2_ := Qa ((by rw [hg]; exact (Qi (bl HB.out)) : w.heap.size ≤ gb110)); have n3_ := Qa ((by rw [hg]; exact (Qi (bl HB.out)) : w.heap.size ≤ gb110)); clear HB; have HB := n0_; have BK110 := n1_; have GW110 := n2_; have GE110 := n3_; clear n0_ n1_ n2_ n3_; clear hb hbox hg; have hcz5_0 := hz BK110.out 0; have hcz5_1 := hz BK110.out 1; have hcz5_2 := hz BK110.out 2; have hfz5_0 := Qm BK110.out 0; have hfz5_1 := Qm BK110.out 1; have hfz5_2 := Qm BK110.out 2) | ((with_reducible refine Qw (f := 65) rfl ?_); refine gc (some 4) Tryz.func65 #[.agg #[.int .i64 a0_0, .string a0_1, .int .i64 a0_2]] ?_; (with_reducible refine (payslip_form.calls k a0_0 a0_1 a0_2 true _ A2.out).mono ?_); rintro e w6 ⟨rfl, hb⟩; refine ⟨_, rfl, ?_⟩; have n0_ := Qa (Qb (nc BK110.out) hb); have n1_ := Qa (Qh (bl HB.out) hb); clear BK110 HB; have BK110 := n0_; have HB := n1_; clear n0_ n1_; (try clear hb); have hcz7_0 := hz BK110.out 0; have hcz7_1 := hz BK110.out 1; have hcz7_2 := hz BK110.out 2; have hfz7_0 := Qm BK110.out 0; have hfz7_1 := Qm BK110.out 1; have hfz7_2 := Qm BK110.out 2))
   go_ret
   exact ⟨by first | rfl | (simp [errW_none, errW_some] <;> rfl) | (simp [*, errW_none, errW_some] <;> rfl), bl HB.out⟩
 replace c3 := Bool.eq_false_iff.mpr c3
 subst c3
 have H1 : (some false) = some r := by rw [if_neg (show ¬ (false = true) by decide)] at H; exact H
 clear H
 have H := H1
 clear H1
 obtain rfl := Xz H
 go_enter Tryz.func41, Tryz.ntmps41
 go_wp2_with (first | ((with_reducible refine Qx (N := 1) rfl ?_); refine Qv ?hg (N := 1) ?hd (cs := #[.int .i64 a0_0, .string a0_1, .int .i64 a0_2]) (t := 60) ?hr ?_; (case hd => rfl); (case hg => rfl); (case hr => first | (go_simp; done) | (go_simp; rfl)); intro gb110 hg w8 hbox hb; have n0_ := Qa (Qh (bl HB.out) hb); have n1_ := Qa (hbox); have n2_ := Qa ((by rw [hg]; exact (Qi (bl HB.out)) : w.heap.size ≤ gb110)); have n3_ := Qa ((by rw [hg]; exact (Qi (bl HB.out)) : w.heap.size ≤ gb110)); clear HB; have HB := n0_; have BK110 := n1_; have GW110 := n2_; have GE110 := n3_; clear n0_ n1_ n2_ n3_; clear hb hbox hg; have hcz9_0 := hz BK110.out 0; have hcz9_1 := hz BK110.out 1; have hcz9_2 := hz BK110.out 2; have hfz9_0 := Qm BK110.out 0; have hfz9_1 := Qm BK110.out 1; have hfz9_2 := Qm BK110.out 2) | ((with_reducible refine Qw (f := 65) rfl ?_); refine gc (some 4) Tryz.func65 #[.agg #[.int .i64 a0_0, .string a0_1, .int .i64 a0_2]] ?_; (with_reducible refine (payslip_form.calls k a0_0 a0_1 a0_2 false _ A2.out).mono ?_); rintro e w10 ⟨rfl, hb⟩; refine ⟨_, rfl, ?_⟩; have n0_ := Qa (Qb (nc BK110.out) hb); have n1_ := Qa (Qh (bl HB.out) hb); clear BK110 HB; have BK110 := n0_; have HB := n1_; clear n0_ n1_; (try clear hb)))
 go_ret
 exact ⟨by first | rfl | (simp [errW_none, errW_some] <;> rfl) | (simp [*, errW_none, errW_some] <;> rfl), bl HB.out⟩
def cmp_Or_int.l0 : Nat → Int → List Int → Int → Int → Option (Int)
 | 0, _, _, _, _ => none
 | k + 1, x3, x6, x7, x8 => if x8 < x7 then (if 0 ≤ x8 then (if x8 < (x6.length : Int) then (if (rd x6 x8) = x3 then (cmp_Or_int.l0 k x3 x6 x7 (wrap64 (x8 + 1))) else (some (rd x6 x8))) else (none)) else (none)) else (some x3)
def cmp_Or_int.f (k : Nat) (l0 : List Int) : Option (Int) := cmp_Or_int.l0 k 0 l0 (l0.length : Int) 0
theorem cmp_Or_int.calls (k : Nat) (A0 : Option Addr) (c0 : Nat) (l0 : List Int) (r : Int) (w : World) (hr0 : Kd.C (Kd.int .i64) w A0 l0.length l0) (hc0 : l0.length ≤ c0) (h : cmp_Or_int.f k l0 = some r) :
 Calls Tryz.prog 42 #[.slice A0 l0.length c0] w fun e w' => e = .returned (.int .i64 r) ∧ Drawn0 w w' := by
 have HR0 := Qa hr0
 have HC0 := Qa hc0
 clear hr0 hc0
 have H : (cmp_Or_int.l0 k 0 l0 (l0.length : Int) 0) = some r := h
 clear h
 have H' := Qa H
 clear H
 go_enter Tryz.func42, Tryz.ntmps42
 go_wp2
 go_loopg [8] k (fun kq v8 w' => ∃ (x8_1 : Int), v8 = .int .i64 x8_1 ∧ Aside0 (cmp_Or_int.l0 kq 0 l0 (l0.length : Int) x8_1 = some r) ∧ Aside0 (kq ≤ k) ∧ Drawn0 w w')
 case atStart => exact ⟨(0), (by first | rfl | (simp; done) | (simp [*]; done)), H', ⟨Nat.le_refl _⟩, by repeat (first | exact Drawn0.refl _ | apply Drawn0.step)⟩
 case round =>
  clear H'
  obtain ⟨x8_1, rfl, HA, HK1, ⟨m1, rfl⟩⟩ := hrel
  cases gk with
  | zero => exact absurd HA.out (by simp [cmp_Or_int.l0])
  | succ k1 =>
   have H := HA.out
   clear HA
   simp only [cmp_Or_int.l0] at H
   by_cases c2 : x8_1 < (l0.length : Int)
   · rw [if_pos c2] at H
     have c2b0 : decide (x8_1 < (l0.length : Int)) = true := Xq c2
     clear c2
     by_cases c3 : 0 ≤ x8_1
     · rw [if_pos c3] at H
       have c3b0 : decide (0 ≤ x8_1) = true := Xq c3
       clear c3
       by_cases c4 : x8_1 < (l0.length : Int)
       · rw [if_pos c4] at H
         have c4b0 : decide (x8_1 < (l0.length : Int)) = true := Xq c4
         clear c4
         by_cases c5 : (rd l0 x8_1) = 0
         · rw [if_pos c5] at H
           have c5b0 : ((rd l0 x8_1) == 0) = true := Yb.mpr c5
           have c5b1 : ((rd l0 x8_1) != 0) = false := bne_eq_false_iff_eq.mpr c5
           clear c5
           have H' := Qa H
           clear H
           have p112 : 0 ≤ (x8_1 : Int) := Xp (by assumption)
           have q112 : x8_1 < (l0.length : Int) := Xp (by assumption)
           obtain ⟨ad112, e112, hx112_0⟩ := Kd.at_int HR0.out x8_1 p112 q112
           cases e112
           replace p112 := eq_true p112
           replace q112 := eq_true q112
           go_wp2
           go_roundg k1
           case measure => have := HK1.out; omega
           case rel => exact ⟨(wrap64 (x8_1 + 1)), (by first | rfl | (simp; done) | (simp [*]; done)), H', ⟨by have := HK1.out; omega⟩, by repeat (first | exact Drawn0.refl _ | apply Drawn0.step)⟩
         rw [if_neg c5] at H
         have c5b0 : ((rd l0 x8_1) == 0) = false := Ya.mpr c5
         have c5b1 : ((rd l0 x8_1) != 0) = true := Yc.mpr c5
         obtain rfl := Xz H
         have p112 : 0 ≤ (x8_1 : Int) := Xp (by assumption)
         have q112 : x8_1 < (l0.length : Int) := Xp (by assumption)
         obtain ⟨ad112, e112, hx112_0⟩ := Kd.at_int HR0.out x8_1 p112 q112
         cases e112
         replace p112 := eq_true p112
         replace q112 := eq_true q112
         go_wp2
         go_ret
         exact ⟨by first | rfl | (simp; done) | (simp [*]; done), by repeat (first | exact Drawn0.refl _ | apply Drawn0.step)⟩
       rw [if_neg c4] at H
       exact absurd H (by simp)
     rw [if_neg c3] at H
     exact absurd H (by simp)
   rw [if_neg c2] at H
   have c2b0 : decide (x8_1 < (l0.length : Int)) = false := Xr c2
   clear c2
   obtain rfl := Xz H
   go_wp2
   go_ret
   exact ⟨by first | rfl | (simp; done) | (simp [*]; done), by repeat (first | exact Drawn0.refl _ | apply Drawn0.step)⟩
def cmp_isNaN_int.f (a0 : Int) : Option (Bool) := some (a0 != a0)
theorem cmp_isNaN_int.calls (a0 : Int) (r : Bool) (w : World) (h : cmp_isNaN_int.f a0 = some r) :
 Calls Tryz.prog 66 #[.int .i64 a0] w fun e w' => e = .returned (.bool r) ∧ Drawn0 w w' := by
 have H : (some (a0 != a0)) = some r := h
 clear h
 obtain rfl := Xz H
 go_enter Tryz.func66, Tryz.ntmps66
 go_wp2
 go_ret
 exact ⟨by first | rfl | (simp; done) | (simp [*]; done), by repeat (first | exact Drawn0.refl _ | apply Drawn0.step)⟩
def cmp_Compare_int.f (a0 : Int) (a1 : Int) : Option (Int) := (cmp_isNaN_int.f a0).bind fun t113 => ((cmp_isNaN_int.f a1).bind fun t114 => (if t113 = true then (if t114 = true then (some 0) else (some (-1))) else (if t114 = true then (some 1) else (if a0 < a1 then (some (-1)) else (if a0 > a1 then (some 1) else (some 0))))))
theorem cmp_Compare_int.calls (a0 : Int) (a1 : Int) (r : Int) (w : World) (h : cmp_Compare_int.f a0 a1 = some r) :
 Calls Tryz.prog 43 #[.int .i64 a0, .int .i64 a1] w fun e w' => e = .returned (.int .i64 r) ∧ Drawn0 w w' := by
 have H : ((cmp_isNaN_int.f a0).bind fun t113 => ((cmp_isNaN_int.f a1).bind fun t114 => (if t113 = true then (if t114 = true then (some 0) else (some (-1))) else (if t114 = true then (some 1) else (if a0 < a1 then (some (-1)) else (if a0 > a1 then (some 1) else (some 0))))))) = some r := h
 clear h
 replace H := Xx.mp H
 obtain ⟨t113, A30, H⟩ := H
 replace H : ((cmp_isNaN_int.f a1).bind fun t114 => (if t113 = true then (if t114 = true then (some 0) else (some (-1))) else (if t114 = true then (some 1) else (if a0 < a1 then (some (-1)) else (if a0 > a1 then (some 1) else (some 0)))))) = some r := H
 have A3 := Qa A30
 clear A30
 replace H := Xx.mp H
 obtain ⟨t114, A40, H⟩ := H
 replace H : (if t113 = true then (if t114 = true then (some 0) else (some (-1))) else (if t114 = true then (some 1) else (if a0 < a1 then (some (-1)) else (if a0 > a1 then (some 1) else (some 0))))) = some r := H
 have A4 := Qa A40
 clear A40
 by_cases c5 : t113 = true
 · subst c5
   have H1 : (if t114 = true then (some 0) else (some (-1))) = some r := by rw [if_pos rfl] at H; exact H
   clear H
   have H := H1
   clear H1
   by_cases c6 : t114 = true
   · subst c6
     have H1 : (some 0) = some r := by rw [if_pos rfl] at H; exact H
     clear H
     have H := H1
     clear H1
     obtain rfl := Xz H
     go_enter Tryz.func43, Tryz.ntmps43
     go_wp2_with (first | ((with_reducible refine Qw (f := 66) rfl ?_); refine gc (some 8) Tryz.func66 #[.int .i64 a0] ?_; (with_reducible refine (cmp_isNaN_int.calls a0 true _ A3.out).mono ?_); rintro e w' ⟨rfl, ⟨nd, rfl⟩⟩; refine ⟨_, rfl, ?_⟩) | ((with_reducible refine Qw (f := 66) rfl ?_); refine gc (some 10) Tryz.func66 #[.int .i64 a1] ?_; (with_reducible refine (cmp_isNaN_int.calls a1 true _ A4.out).mono ?_); rintro e w' ⟨rfl, ⟨nd, rfl⟩⟩; refine ⟨_, rfl, ?_⟩))
     go_ret
     exact ⟨by first | rfl | (simp; done) | (simp [*]; done), by repeat (first | exact Drawn0.refl _ | apply Drawn0.step)⟩
   replace c6 := Bool.eq_false_iff.mpr c6
   subst c6
   have H1 : (some (-1)) = some r := by rw [if_neg (show ¬ (false = true) by decide)] at H; exact H
   clear H
   have H := H1
   clear H1
   obtain rfl := Xz H
   go_enter Tryz.func43, Tryz.ntmps43
   go_wp2_with (first | ((with_reducible refine Qw (f := 66) rfl ?_); refine gc (some 8) Tryz.func66 #[.int .i64 a0] ?_; (with_reducible refine (cmp_isNaN_int.calls a0 true _ A3.out).mono ?_); rintro e w' ⟨rfl, ⟨nd, rfl⟩⟩; refine ⟨_, rfl, ?_⟩) | ((with_reducible refine Qw (f := 66) rfl ?_); refine gc (some 10) Tryz.func66 #[.int .i64 a1] ?_; (with_reducible refine (cmp_isNaN_int.calls a1 false _ A4.out).mono ?_); rintro e w' ⟨rfl, ⟨nd, rfl⟩⟩; refine ⟨_, rfl, ?_⟩))
   go_ret
   exact ⟨by first | rfl | (simp; done) | (simp [*]; done), by repeat (first | exact Drawn0.refl _ | apply Drawn0.step)⟩
 replace c5 := Bool.eq_false_iff.mpr c5
 subst c5
 have H1 : (if t114 = true then (some 1) else (if a0 < a1 then (some (-1)) else (if a0 > a1 then (some 1) else (some 0)))) = some r := by rw [if_neg (show ¬ (false = true) by decide)] at H; exact H
 clear H
 have H := H1
 clear H1
 by_cases c7 : t114 = true
 · subst c7
   have H1 : (some 1) = some r := by rw [if_pos rfl] at H; exact H
   clear H
   have H := H1
   clear H1
   obtain rfl := Xz H
   go_enter Tryz.func43, Tryz.ntmps43
   go_wp2_with (first | ((with_reducible refine Qw (f := 66) rfl ?_); refine gc (some 8) Tryz.func66 #[.int .i64 a0] ?_; (with_reducible refine (cmp_isNaN_int.calls a0 false _ A3.out).mono ?_); rintro e w' ⟨rfl, ⟨nd, rfl⟩⟩; refine ⟨_, rfl, ?_⟩) | ((with_reducible refine Qw (f := 66) rfl ?_); refine gc (some 10) Tryz.func66 #[.int .i64 a1] ?_; (with_reducible refine (cmp_isNaN_int.calls a1 true _ A4.out).mono ?_); rintro e w' ⟨rfl, ⟨nd, rfl⟩⟩; refine ⟨_, rfl, ?_⟩))
   go_ret
   exact ⟨by first | rfl | (simp; done) | (simp [*]; done), by repeat (first | exact Drawn0.refl _ | apply Drawn0.step)⟩
 replace c7 := Bool.eq_false_iff.mpr c7
 subst c7
 have H1 : (if a0 < a1 then (some (-1)) else (if a0 > a1 then (some 1) else (some 0))) = some r := by rw [if_neg (show ¬ (false = true) by decide)] at H; exact H
 clear H
 have H := H1
 clear H1
 by_cases c8 : a0 < a1
 · rw [if_pos c8] at H
   have c8b0 : decide (a0 < a1) = true := Xq c8
   clear c8
   obtain rfl := Xz H
   go_enter Tryz.func43, Tryz.ntmps43
   go_wp2_with (first | ((with_reducible refine Qw (f := 66) rfl ?_); refine gc (some 8) Tryz.func66 #[.int .i64 a0] ?_; (with_reducible refine (cmp_isNaN_int.calls a0 false _ A3.out).mono ?_); rintro e w' ⟨rfl, ⟨nd, rfl⟩⟩; refine ⟨_, rfl, ?_⟩) | ((with_reducible refine Qw (f := 66) rfl ?_); refine gc (some 10) Tryz.func66 #[.int .i64 a1] ?_; (with_reducible refine (cmp_isNaN_int.calls a1 false _ A4.out).mono ?_); rintro e w' ⟨rfl, ⟨nd, rfl⟩⟩; refine ⟨_, rfl, ?_⟩))
   go_ret
   exact ⟨by first | rfl | (simp; done) | (simp [*]; done), by repeat (first | exact Drawn0.refl _ | apply Drawn0.step)⟩
 rw [if_neg c8] at H
 have c8b0 : decide (a0 < a1) = false := Xr c8
 clear c8
 by_cases c9 : a0 > a1
 · rw [if_pos c9] at H
   have c9b0 : decide (a1 < a0) = true := Xq c9
   clear c9
   obtain rfl := Xz H
   go_enter Tryz.func43, Tryz.ntmps43
   go_wp2_with (first | ((with_reducible refine Qw (f := 66) rfl ?_); refine gc (some 8) Tryz.func66 #[.int .i64 a0] ?_; (with_reducible refine (cmp_isNaN_int.calls a0 false _ A3.out).mono ?_); rintro e w' ⟨rfl, ⟨nd, rfl⟩⟩; refine ⟨_, rfl, ?_⟩) | ((with_reducible refine Qw (f := 66) rfl ?_); refine gc (some 10) Tryz.func66 #[.int .i64 a1] ?_; (with_reducible refine (cmp_isNaN_int.calls a1 false _ A4.out).mono ?_); rintro e w' ⟨rfl, ⟨nd, rfl⟩⟩; refine ⟨_, rfl, ?_⟩))
   go_ret
   exact ⟨by first | rfl | (simp; done) | (simp [*]; done), by repeat (first | exact Drawn0.refl _ | apply Drawn0.step)⟩
 rw [if_neg c9] at H
 have c9b0 : decide (a1 < a0) = false := Xr c9
 clear c9
 obtain rfl := Xz H
 go_enter Tryz.func43, Tryz.ntmps43
 go_wp2_with (first | ((with_reducible refine Qw (f := 66) rfl ?_); refine gc (some 8) Tryz.func66 #[.int .i64 a0] ?_; (with_reducible refine (cmp_isNaN_int.calls a0 false _ A3.out).mono ?_); rintro e w' ⟨rfl, ⟨nd, rfl⟩⟩; refine ⟨_, rfl, ?_⟩) | ((with_reducible refine Qw (f := 66) rfl ?_); refine gc (some 10) Tryz.func66 #[.int .i64 a1] ?_; (with_reducible refine (cmp_isNaN_int.calls a1 false _ A4.out).mono ?_); rintro e w' ⟨rfl, ⟨nd, rfl⟩⟩; refine ⟨_, rfl, ?_⟩))
 go_ret
 exact ⟨by first | rfl | (simp; done) | (simp [*]; done), by repeat (first | exact Drawn0.refl _ | apply Drawn0.step)⟩
def cmp_isNaN_string.f (a0 : Zb) : Option (Bool) := some (a0.toList != a0.toList)
theorem cmp_isNaN_string.calls (a0 : Zb) (r : Bool) (w : World) (h : cmp_isNaN_string.f a0 = some r) :
 Calls Tryz.prog 67 #[.string a0] w fun e w' => e = .returned (.bool r) ∧ Drawn0 w w' := by
 have H : (some (a0.toList != a0.toList)) = some r := h
 clear h
 obtain rfl := Xz H
 go_enter Tryz.func67, Tryz.ntmps67
 go_wp2
 go_ret
 exact ⟨by first | rfl | (simp; done) | (simp [*]; done), by repeat (first | exact Drawn0.refl _ | apply Drawn0.step)⟩
theorem gtr_less (t : TypeId) (a b : Zb) : binOp .gtr t (.string a) (.string b) = pure (.bool (Op.bytesLess b.toList a.toList)) := by
 have h : (!(Op.bytesLess a.toList b.toList || a.toList == b.toList)) = Op.bytesLess b.toList a.toList := by
  rw [Go.Proofs.bytesLess_eq, Go.Proofs.bytesLess_eq]
  by_cases h1 : a.toList < b.toList
  · have h2 : ¬ b.toList < a.toList := fun h2 => List.lt_irrefl _ (List.lt_trans h1 h2)
    simp [h1, h2]
  by_cases h2 : b.toList < a.toList
  · have h3 : a.toList ≠ b.toList := fun e => by rw [e] at h2; exact List.lt_irrefl _ h2
    simp [h1, h2, h3]
  have h3 : a.toList = b.toList := Std.Trichotomous.trichotomous (r := fun (x y : List UInt8) => x < y) a.toList b.toList h1 h2
  simp [h1, h2, h3, List.lt_irrefl]
 rw [← h]
 simp [binOp, Op.stringOp]
attribute [local go_sem] gtr_less
def cmp_Compare_string.f (a0 : Zb) (a1 : Zb) : Option (Int) := (cmp_isNaN_string.f a0).bind fun t115 => ((cmp_isNaN_string.f a1).bind fun t116 => (if t115 = true then (if t116 = true then (some 0) else (some (-1))) else (if t116 = true then (some 1) else (if (Op.bytesLess a0.toList a1.toList) = true then (some (-1)) else (if (Op.bytesLess a1.toList a0.toList) = true then (some 1) else (some 0))))))
theorem cmp_Compare_string.calls (a0 : Zb) (a1 : Zb) (r : Int) (w : World) (h : cmp_Compare_string.f a0 a1 = some r) :
 Calls Tryz.prog 44 #[.string a0, .string a1] w fun e w' => e = .returned (.int .i64 r) ∧ Drawn0 w w' := by
 have H : ((cmp_isNaN_string.f a0).bind fun t115 => ((cmp_isNaN_string.f a1).bind fun t116 => (if t115 = true then (if t116 = true then (some 0) else (some (-1))) else (if t116 = true then (some 1) else (if (Op.bytesLess a0.toList a1.toList) = true then (some (-1)) else (if (Op.bytesLess a1.toList a0.toList) = true then (some 1) else (some 0))))))) = some r := h
 clear h
 replace H := Xx.mp H
 obtain ⟨t115, A30, H⟩ := H
 replace H : ((cmp_isNaN_string.f a1).bind fun t116 => (if t115 = true then (if t116 = true then (some 0) else (some (-1))) else (if t116 = true then (some 1) else (if (Op.bytesLess a0.toList a1.toList) = true then (some (-1)) else (if (Op.bytesLess a1.toList a0.toList) = true then (some 1) else (some 0)))))) = some r := H
 have A3 := Qa A30
 clear A30
 replace H := Xx.mp H
 obtain ⟨t116, A40, H⟩ := H
 replace H : (if t115 = true then (if t116 = true then (some 0) else (some (-1))) else (if t116 = true then (some 1) else (if (Op.bytesLess a0.toList a1.toList) = true then (some (-1)) else (if (Op.bytesLess a1.toList a0.toList) = true then (some 1) else (some 0))))) = some r := H
 have A4 := Qa A40
 clear A40
 by_cases c5 : t115 = true
 · subst c5
   have H1 : (if t116 = true then (some 0) else (some (-1))) = some r := by rw [if_pos rfl] at H; exact H
   clear H
   have H := H1
   clear H1
   by_cases c6 : t116 = true
   · subst c6
     have H1 : (some 0) = some r := by rw [if_pos rfl] at H; exact H
     clear H
     have H := H1
     clear H1
     obtain rfl := Xz H
     go_enter Tryz.func44, Tryz.ntmps44
     go_wp2_with (first | ((with_reducible refine Qw (f := 67) rfl ?_); refine gc (some 8) Tryz.func67 #[.string a0] ?_; (with_reducible refine (cmp_isNaN_string.calls a0 true _ A3.out).mono ?_); rintro e w' ⟨rfl, ⟨nd, rfl⟩⟩; refine ⟨_, rfl, ?_⟩) | ((with_reducible refine Qw (f := 67) rfl ?_); refine gc (some 10) Tryz.func67 #[.string a1] ?_; (with_reducible refine (cmp_isNaN_string.calls a1 true _ A4.out).mono ?_); rintro e w' ⟨rfl, ⟨nd, rfl⟩⟩; refine ⟨_, rfl, ?_⟩))
     go_ret
     exact ⟨by first | rfl | (simp; done) | (simp [*]; done), by repeat (first | exact Drawn0.refl _ | apply Drawn0.step)⟩
   replace c6 := Bool.eq_false_iff.mpr c6
   subst c6
   have H1 : (some (-1)) = some r := by rw [if_neg (show ¬ (false = true) by decide)] at H; exact H
   clear H
   have H := H1
   clear H1
   obtain rfl := Xz H
   go_enter Tryz.func44, Tryz.ntmps44
   go_wp2_with (first | ((with_reducible refine Qw (f := 67) rfl ?_); refine gc (some 8) Tryz.func67 #[.string a0] ?_; (with_reducible refine (cmp_isNaN_string.calls a0 true _ A3.out).mono ?_); rintro e w' ⟨rfl, ⟨nd, rfl⟩⟩; refine ⟨_, rfl, ?_⟩) | ((with_reducible refine Qw (f := 67) rfl ?_); refine gc (some 10) Tryz.func67 #[.string a1] ?_; (with_reducible refine (cmp_isNaN_string.calls a1 false _ A4.out).mono ?_); rintro e w' ⟨rfl, ⟨nd, rfl⟩⟩; refine ⟨_, rfl, ?_⟩))
   go_ret
   exact ⟨by first | rfl | (simp; done) | (simp [*]; done), by repeat (first | exact Drawn0.refl _ | apply Drawn0.step)⟩
 replace c5 := Bool.eq_false_iff.mpr c5
 subst c5
 have H1 : (if t116 = true then (some 1) else (if (Op.bytesLess a0.toList a1.toList) = true then (some (-1)) else (if (Op.bytesLess a1.toList a0.toList) = true then (some 1) else (some 0)))) = some r := by rw [if_neg (show ¬ (false = true) by decide)] at H; exact H
 clear H
 have H := H1
 clear H1
 by_cases c7 : t116 = true
 · subst c7
   have H1 : (some 1) = some r := by rw [if_pos rfl] at H; exact H
   clear H
   have H := H1
   clear H1
   obtain rfl := Xz H
   go_enter Tryz.func44, Tryz.ntmps44
   go_wp2_with (first | ((with_reducible refine Qw (f := 67) rfl ?_); refine gc (some 8) Tryz.func67 #[.string a0] ?_; (with_reducible refine (cmp_isNaN_string.calls a0 false _ A3.out).mono ?_); rintro e w' ⟨rfl, ⟨nd, rfl⟩⟩; refine ⟨_, rfl, ?_⟩) | ((with_reducible refine Qw (f := 67) rfl ?_); refine gc (some 10) Tryz.func67 #[.string a1] ?_; (with_reducible refine (cmp_isNaN_string.calls a1 true _ A4.out).mono ?_); rintro e w' ⟨rfl, ⟨nd, rfl⟩⟩; refine ⟨_, rfl, ?_⟩))
   go_ret
   exact ⟨by first | rfl | (simp; done) | (simp [*]; done), by repeat (first | exact Drawn0.refl _ | apply Drawn0.step)⟩
 replace c7 := Bool.eq_false_iff.mpr c7
 subst c7
 have H1 : (if (Op.bytesLess a0.toList a1.toList) = true then (some (-1)) else (if (Op.bytesLess a1.toList a0.toList) = true then (some 1) else (some 0))) = some r := by rw [if_neg (show ¬ (false = true) by decide)] at H; exact H
 clear H
 have H := H1
 clear H1
 by_cases c8 : (Op.bytesLess a0.toList a1.toList) = true
 · rw [if_pos c8] at H
   have c8b0 : (Op.bytesLess a0.toList a1.toList) = true := c8
   clear c8
   obtain rfl := Xz H
   go_enter Tryz.func44, Tryz.ntmps44
   go_wp2_with (first | ((with_reducible refine Qw (f := 67) rfl ?_); refine gc (some 8) Tryz.func67 #[.string a0] ?_; (with_reducible refine (cmp_isNaN_string.calls a0 false _ A3.out).mono ?_); rintro e w' ⟨rfl, ⟨nd, rfl⟩⟩; refine ⟨_, rfl, ?_⟩) | ((with_reducible refine Qw (f := 67) rfl ?_); refine gc (some 10) Tryz.func67 #[.string a1] ?_; (with_reducible refine (cmp_isNaN_string.calls a1 false _ A4.out).mono ?_); rintro e w' ⟨rfl, ⟨nd, rfl⟩⟩; refine ⟨_, rfl, ?_⟩))
   go_ret
   exact ⟨by first | rfl | (simp; done) | (simp [*]; done), by repeat (first | exact Drawn0.refl _ | apply Drawn0.step)⟩
 rw [if_neg c8] at H
 have c8b0 : (Op.bytesLess a0.toList a1.toList) = false := by simpa using c8
 clear c8
 by_cases c9 : (Op.bytesLess a1.toList a0.toList) = true
 · rw [if_pos c9] at H
   have c9b0 : (Op.bytesLess a1.toList a0.toList) = true := c9
   clear c9
   obtain rfl := Xz H
   go_enter Tryz.func44, Tryz.ntmps44
   go_wp2_with (first | ((with_reducible refine Qw (f := 67) rfl ?_); refine gc (some 8) Tryz.func67 #[.string a0] ?_; (with_reducible refine (cmp_isNaN_string.calls a0 false _ A3.out).mono ?_); rintro e w' ⟨rfl, ⟨nd, rfl⟩⟩; refine ⟨_, rfl, ?_⟩) | ((with_reducible refine Qw (f := 67) rfl ?_); refine gc (some 10) Tryz.func67 #[.string a1] ?_; (with_reducible refine (cmp_isNaN_string.calls a1 false _ A4.out).mono ?_); rintro e w' ⟨rfl, ⟨nd, rfl⟩⟩; refine ⟨_, rfl, ?_⟩))
   go_ret
   exact ⟨by first | rfl | (simp; done) | (simp [*]; done), by repeat (first | exact Drawn0.refl _ | apply Drawn0.step)⟩
 rw [if_neg c9] at H
 have c9b0 : (Op.bytesLess a1.toList a0.toList) = false := by simpa using c9
 clear c9
 obtain rfl := Xz H
 go_enter Tryz.func44, Tryz.ntmps44
 go_wp2_with (first | ((with_reducible refine Qw (f := 67) rfl ?_); refine gc (some 8) Tryz.func67 #[.string a0] ?_; (with_reducible refine (cmp_isNaN_string.calls a0 false _ A3.out).mono ?_); rintro e w' ⟨rfl, ⟨nd, rfl⟩⟩; refine ⟨_, rfl, ?_⟩) | ((with_reducible refine Qw (f := 67) rfl ?_); refine gc (some 10) Tryz.func67 #[.string a1] ?_; (with_reducible refine (cmp_isNaN_string.calls a1 false _ A4.out).mono ?_); rintro e w' ⟨rfl, ⟨nd, rfl⟩⟩; refine ⟨_, rfl, ?_⟩))
 go_ret
 exact ⟨by first | rfl | (simp; done) | (simp [*]; done), by repeat (first | exact Drawn0.refl _ | apply Drawn0.step)⟩
end Go.Proofs.YtejgfblphgcgkaaGreatDoor.P
