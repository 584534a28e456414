/- Texts for the law FilingDecodes (kept out of a larger one). -/
import Derived.Test.YtejgfblphgcgkaaGreatDoorZFilingDecodes14
namespace Go.Proofs.YtejgfblphgcgkaaGreatDoor.P
open Go.RowKit Go.Proofs.YtejgfblphgcgkaaGreatDoorW.PrintWords Go.Proofs.YtejgfblphgcgkaaGreatDoorW.PrintLast Go.Proofs.YtejgfblphgcgkaaGreatDoorW.PrintMore
attribute [local go_sem] max2_int min2_int max_two min_two max_three min_three max_four min_four   -- for this text's walks alone
set_option linter.unusedVariables false
set_option maxHeartbeats 8000000
set_option maxRecDepth 100000
set_option linter.unusedSimpArgs false
def payrollref38_Form.l0 : Nat → List (S60) → Int → Option (Bool)
 | 0, _, _ => none
 | k + 1, x0, x3 => if x3 < (x0.length : Int) then (if 0 ≤ x3 then ((payrollref38_Filed.f ((rd_T60 x0 x3).f0)).bind fun t321 => (if t321 = true then (payrollref38_Form.l0 k x0 (wrap64 (x3 + 1))) else (some false))) else (none)) else (some true)
def payrollref38_Form.f (k : Nat) (l0 : List (S60)) : Option (Bool) := (payrollref34_Ordered.f k l0).bind fun t319 => (if t319 = true then (payrollref38_Form.l0 k l0 0) else (some false))
theorem payrollref38_Form.calls (k : Nat) (A0 : Option Addr) (c0 : Nat) (l0 : List (S60)) (r : Bool) (w : World) (hr0 : Kd.C k60 w A0 l0.length l0) (hc0 : l0.length ≤ c0) (h : payrollref38_Form.f k l0 = some r) :
 Calls Tryz.prog 45 #[.slice A0 l0.length c0] w fun e w' => e = .returned (.bool r) ∧ Below w.heap.size w w' := by
 have HR0 := Qa hr0
 have HC0 := Qa hc0
 clear hr0 hc0
 have HB := Qa (Below.refl w.heap.size w)
 have H : ((payrollref34_Ordered.f k l0).bind fun t319 => (if t319 = true then (payrollref38_Form.l0 k l0 0) else (some false))) = some r := h
 clear h
 replace H := Xx.mp H
 obtain ⟨t319, A20, H⟩ := H
 replace H : (if t319 = true then (payrollref38_Form.l0 k l0 0) else (some false)) = some r := H
 have A2 := Qa A20
 clear A20
 by_cases c3 : t319 = true
 · subst c3
   have H1 : (payrollref38_Form.l0 k l0 0) = some r := by rw [if_pos rfl] at H; exact H
   clear H
   have H := H1
   clear H1
   have H' := Qa H
   clear H
   go_enter Tryz.func45, Tryz.ntmps45
   go_wp2_with (first | ((with_reducible refine Qw (f := 68) rfl ?_); refine gc (some 5) Tryz.func68 #[.slice A0 l0.length c0] ?_; (with_reducible refine (payrollref34_Ordered.calls k _ _ l0 true _ ?side1 ?side2 A2.out).mono ?_); (case side1 => repeat (first | exact HR0.out | (with_reducible refine Kd.C_alloc ?_ _) | (with_reducible refine Kd.C_drewN ?_ _) | (with_reducible refine Kd.C_drew ?_))); (case side2 => exact HC0.out); rintro e w4 ⟨rfl, hb⟩; refine ⟨_, rfl, ?_⟩; have n0_ := Qa (Qh (bl HB.out) hb); clear HB; have HB := n0_; clear n0_; (try clear hb)))
   go_loopg [3] k (fun kq v3 w' => ∃ (x3_1 : Int), v3 = .int .i64 x3_1 ∧ Aside0 (payrollref38_Form.l0 kq l0 x3_1 = some r) ∧ Aside0 (kq ≤ k) ∧ Aside0 (Below w.heap.size w w'))
   case atStart => exact ⟨(0), (by first | rfl | (simp; done) | (simp [*]; done)), H', ⟨Nat.le_refl _⟩, ⟨bl HB.out⟩⟩
   case round =>
    clear H'
    try clear p2
    try clear c3
    try clear c4
    obtain ⟨x3_1, rfl, HA, HK1, HB⟩ := hrel
    cases gk with
    | zero => exact absurd HA.out (by simp [payrollref38_Form.l0])
    | succ k1 =>
     have H := HA.out
     clear HA
     simp only [payrollref38_Form.l0] at H
     by_cases c5 : x3_1 < (l0.length : Int)
     · rw [if_pos c5] at H
       have c5b0 : decide (x3_1 < (l0.length : Int)) = true := Xq c5
       clear c5
       by_cases c6 : 0 ≤ x3_1
       · rw [if_pos c6] at H
         have c6b0 : decide (0 ≤ x3_1) = true := Xq c6
         clear c6
         replace H := Xx.mp H
         obtain ⟨t321, A70, H⟩ := H
         replace H : (if t321 = true then (payrollref38_Form.l0 k1 l0 (wrap64 (x3_1 + 1))) else (some false)) = some r := H
         have A7 := Qa A70
         clear A70
         by_cases c8 : t321 = true
         · subst c8
           have H1 : (payrollref38_Form.l0 k1 l0 (wrap64 (x3_1 + 1))) = some r := by rw [if_pos rfl] at H; exact H
           clear H
           have H := H1
           clear H1
           have H' := Qa H
           clear H
           have p320 : 0 ≤ (x3_1 : Int) := Xp (by assumption)
           have q320 : x3_1 < (l0.length : Int) := Xp (by assumption)
           obtain ⟨ad320, e320, hx320_0, hx320_1, hx320_2⟩ := at_T60 HR0.out x3_1 p320 q320
           cases e320
           replace hx320_0 := (HB.out.cell (Xs w _ hx320_0)).trans hx320_0
           replace hx320_1 := (HB.out.cell (Xs w _ hx320_1)).trans hx320_1
           replace hx320_2 := (HB.out.cell (Xs w _ hx320_2)).trans hx320_2
           replace p320 := eq_true p320
           replace q320 := eq_true q320
           go_wp2_with (first | ((with_reducible refine Qw (f := 69) rfl ?_); refine gc (some 18) Tryz.func69 #[.int .i64 ((rd_T60 l0 x3_1).f0)] ?_; (with_reducible refine (payrollref38_Filed.calls ((rd_T60 l0 x3_1).f0) true _ A7.out).mono ?_); rintro e w' ⟨rfl, ⟨nd, rfl⟩⟩; refine ⟨_, rfl, ?_⟩))
           go_roundg k1
           case measure => have := HK1.out; omega
           case rel => exact ⟨(wrap64 (x3_1 + 1)), (by first | rfl | (simp; done) | (simp [*]; done)), H', ⟨by have := HK1.out; omega⟩, ⟨bl HB.out⟩⟩
         replace c8 := Bool.eq_false_iff.mpr c8
         subst c8
         have H1 : (some false) = some r := by rw [if_neg (show ¬ (false = true) by decide)] at H; exact H
         clear H
         have H := H1
         clear H1
         obtain rfl := Xz H
         have p320 : 0 ≤ (x3_1 : Int) := Xp (by assumption)
         have q320 : x3_1 < (l0.length : Int) := Xp (by assumption)
         obtain ⟨ad320, e320, hx320_0, hx320_1, hx320_2⟩ := at_T60 HR0.out x3_1 p320 q320
         cases e320
         replace hx320_0 := (HB.out.cell (Xs w _ hx320_0)).trans hx320_0
         replace hx320_1 := (HB.out.cell (Xs w _ hx320_1)).trans hx320_1
         replace hx320_2 := (HB.out.cell (Xs w _ hx320_2)).trans hx320_2
         replace p320 := eq_true p320
         replace q320 := eq_true q320
         go_wp2_with (first | ((with_reducible refine Qw (f := 69) rfl ?_); refine gc (some 18) Tryz.func69 #[.int .i64 ((rd_T60 l0 x3_1).f0)] ?_; (with_reducible refine (payrollref38_Filed.calls ((rd_T60 l0 x3_1).f0) false _ A7.out).mono ?_); rintro e w' ⟨rfl, ⟨nd, rfl⟩⟩; refine ⟨_, rfl, ?_⟩))
         go_ret
         exact ⟨by first | rfl | (simp [errW_none, errW_some] <;> rfl) | (simp [*, errW_none, errW_some] <;> rfl), bl HB.out⟩
       rw [if_neg c6] at H
       exact absurd H (by simp)
     rw [if_neg c5] at H
     have c5b0 : decide (x3_1 < (l0.length : Int)) = false := Xr c5
     clear c5
     obtain rfl := Xz H
     go_wp2
     go_ret
     exact ⟨by first | rfl | (simp [errW_none, errW_some] <;> rfl) | (simp [*, errW_none, errW_some] <;> rfl), bl HB.out⟩
 replace c3 := Bool.eq_false_iff.mpr c3
 subst c3
 have H1 : (some false) = some r := by rw [if_neg (show ¬ (false = true) by decide)] at H; exact H
 clear H
 have H := H1
 clear H1
 obtain rfl := Xz H
 go_enter Tryz.func45, Tryz.ntmps45
 go_wp2_with (first | ((with_reducible refine Qw (f := 68) rfl ?_); refine gc (some 5) Tryz.func68 #[.slice A0 l0.length c0] ?_; (with_reducible refine (payrollref34_Ordered.calls k _ _ l0 false _ ?side1 ?side2 A2.out).mono ?_); (case side1 => repeat (first | exact HR0.out | (with_reducible refine Kd.C_alloc ?_ _) | (with_reducible refine Kd.C_drewN ?_ _) | (with_reducible refine Kd.C_drew ?_))); (case side2 => exact HC0.out); rintro e w9 ⟨rfl, hb⟩; refine ⟨_, rfl, ?_⟩; have n0_ := Qa (Qh (bl HB.out) hb); clear HB; have HB := n0_; clear n0_; (try clear hb)))
 go_ret
 exact ⟨by first | rfl | (simp [errW_none, errW_some] <;> rfl) | (simp [*, errW_none, errW_some] <;> rfl), bl HB.out⟩
def payrollref43_Valid.f (k : Nat) (a0_0 : Int) (a0_1 : Int) (l0_2 : List (S60)) : Option (Bool) := if a0_0 ≥ 0 then (if a0_0 ≤ 84005 then (if a0_1 ≥ 1 then (if a0_1 ≤ 65536 then (if (l0_2.length : Int) ≤ 256 then ((payrollref38_Form.f k l0_2).bind fun t323 => (some t323)) else (some false)) else (some false)) else (some false)) else (some false)) else (some false)
theorem payrollref43_Valid.calls (k : Nat) (a0_0 : Int) (a0_1 : Int) (A0_2 : Option Addr) (c0_2 : Nat) (l0_2 : List (S60)) (r : Bool) (w : World) (hr0_2 : Kd.C k60 w A0_2 l0_2.length l0_2) (hc0_2 : l0_2.length ≤ c0_2) (h : payrollref43_Valid.f k a0_0 a0_1 l0_2 = some r) :
 Calls Tryz.prog 17 #[.agg #[.int .i64 a0_0, .int .i64 a0_1, .slice A0_2 l0_2.length c0_2]] w fun e w' => e = .returned (.bool r) ∧ Below w.heap.size w w' := by
 have hu25 := Tryz.underlying25
 have HR0_2 := Qa hr0_2
 have HC0_2 := Qa hc0_2
 clear hr0_2 hc0_2
 have HB := Qa (Below.refl w.heap.size w)
 have H : (if a0_0 ≥ 0 then (if a0_0 ≤ 84005 then (if a0_1 ≥ 1 then (if a0_1 ≤ 65536 then (if (l0_2.length : Int) ≤ 256 then ((payrollref38_Form.f k l0_2).bind fun t323 => (some t323)) else (some false)) else (some false)) else (some false)) else (some false)) else (some false)) = some r := h
 clear h
 by_cases c2 : a0_0 ≥ 0
 · rw [if_pos c2] at H
   have c2b0 : decide (0 ≤ a0_0) = true := Xq c2
   clear c2
   by_cases c3 : a0_0 ≤ 84005
   · rw [if_pos c3] at H
     have c3b0 : decide (a0_0 ≤ 84005) = true := Xq c3
     clear c3
     by_cases c4 : a0_1 ≥ 1
     · rw [if_pos c4] at H
       have c4b0 : decide (1 ≤ a0_1) = true := Xq c4
       clear c4
       by_cases c5 : a0_1 ≤ 65536
       · rw [if_pos c5] at H
         have c5b0 : decide (a0_1 ≤ 65536) = true := Xq c5
         clear c5
         by_cases c6 : (l0_2.length : Int) ≤ 256
         · rw [if_pos c6] at H
           have c6b0 : decide ((l0_2.length : Int) ≤ 256) = true := Xq c6
           have c6b1 : decide (l0_2.length ≤ 256) = true := Xq (by omega)
           clear c6
           replace H := Xx.mp H
           obtain ⟨t323, A70, H⟩ := H
           replace H : (some t323) = some r := H
           have A7 := Qa A70
           clear A70
           obtain rfl := Xz H
           go_enter Tryz.func17, Tryz.ntmps17
           go_wp2_with (first | ((with_reducible refine Qx (N := 1) rfl ?_); (try (refine gate_guard (by rfl) ?_; dsimp only)); refine Qv ?hg (N := 1) ?hd (cs := #[.int .i64 a0_0, .int .i64 a0_1, .slice A0_2 l0_2.length c0_2]) (t := 25) ?hr ?_; (case hd => rfl); (case hg => rfl); (case hr => first | (go_simp; done) | (go_simp; rfl)); intro gb322 hg w8 hbox hb; have n0_ := Qa (Qh (bl HB.out) hb); have n1_ := Qa (hbox); have n2_ := Qa ((by rw [hg]; exact (Qi (bl HB.out)) : w.heap.size ≤ gb322)); have n3_ := Qa ((by rw [hg]; exact (Qi (bl HB.out)) : w.heap.size ≤ gb322)); clear HB; have HB := n0_; have BK322 := n1_; have GW322 := n2_; have GE322 := n3_; clear n0_ n1_ n2_ n3_; clear hb hbox hg; have hcz9_0 := hz BK322.out 0; have hcz9_1 := hz BK322.out 1; have hcz9_2 := hz BK322.out 2; have hfz9_0 := Qm BK322.out 0; have hfz9_1 := Qm BK322.out 1; have hfz9_2 := Qm BK322.out 2) | (go_at_call 45; (with_reducible refine (payrollref38_Form.calls k _ _ l0_2 t323 _ ?side1 ?side2 A7.out).mono ?_); (case side1 => repeat (first | exact (Kd.C_below HR0_2.out HB.out) | (with_reducible refine Kd.C_alloc ?_ _) | (with_reducible refine Kd.C_drewN ?_ _) | (with_reducible refine Kd.C_drew ?_))); (case side2 => exact HC0_2.out); rintro e w10 ⟨rfl, hb⟩; have n0_ := Qa (Qb (nc BK322.out) hb); have n1_ := Qa (Qh (bl HB.out) hb); clear BK322 HB; have BK322 := n0_; have HB := n1_; clear n0_ n1_; (try clear hb)))
           go_ret
           exact ⟨by first | rfl | (simp [errW_none, errW_some] <;> rfl) | (simp [*, errW_none, errW_some] <;> rfl), bl HB.out⟩
         rw [if_neg c6] at H
         have c6b0 : decide ((l0_2.length : Int) ≤ 256) = false := Xr c6
         have c6b1 : decide (l0_2.length ≤ 256) = false := Xr (by omega)
         clear c6
         obtain rfl := Xz H
         go_enter Tryz.func17, Tryz.ntmps17
         go_wp2_with (first | ((with_reducible refine Qx (N := 1) rfl ?_); (try (refine gate_guard (by rfl) ?_; dsimp only)); refine Qv ?hg (N := 1) ?hd (cs := #[.int .i64 a0_0, .int .i64 a0_1, .slice A0_2 l0_2.length c0_2]) (t := 25) ?hr ?_; (case hd => rfl); (case hg => rfl); (case hr => first | (go_simp; done) | (go_simp; rfl)); intro gb322 hg w11 hbox hb; have n0_ := Qa (Qh (bl HB.out) hb); have n1_ := Qa (hbox); have n2_ := Qa ((by rw [hg]; exact (Qi (bl HB.out)) : w.heap.size ≤ gb322)); have n3_ := Qa ((by rw [hg]; exact (Qi (bl HB.out)) : w.heap.size ≤ gb322)); clear HB; have HB := n0_; have BK322 := n1_; have GW322 := n2_; have GE322 := n3_; clear n0_ n1_ n2_ n3_; clear hb hbox hg; have hcz12_0 := hz BK322.out 0; have hcz12_1 := hz BK322.out 1; have hcz12_2 := hz BK322.out 2; have hfz12_0 := Qm BK322.out 0; have hfz12_1 := Qm BK322.out 1; have hfz12_2 := Qm BK322.out 2))
         go_ret
         exact ⟨by first | rfl | (simp [errW_none, errW_some] <;> rfl) | (simp [*, errW_none, errW_some] <;> rfl), bl HB.out⟩
       rw [if_neg c5] at H
       have c5b0 : decide (a0_1 ≤ 65536) = false := Xr c5
       clear c5
       obtain rfl := Xz H
       go_enter Tryz.func17, Tryz.ntmps17
       go_wp2_with (first | ((with_reducible refine Qx (N := 1) rfl ?_); (try (refine gate_guard (by rfl) ?_; dsimp only)); refine Qv ?hg (N := 1) ?hd (cs := #[.int .i64 a0_0, .int .i64 a0_1, .slice A0_2 l0_2.length c0_2]) (t := 25) ?hr ?_; (case hd => rfl); (case hg => rfl); (case hr => first | (go_simp; done) | (go_simp; rfl)); intro gb322 hg w13 hbox hb; have n0_ := Qa (Qh (bl HB.out) hb); have n1_ := Qa (hbox); have n2_ := Qa ((by rw [hg]; exact (Qi (bl HB.out)) : w.heap.size ≤ gb322)); have n3_ := Qa ((by rw [hg]; exact (Qi (bl HB.out)) : w.heap.size ≤ gb322)); clear HB; have HB := n0_; have BK322 := n1_; have GW322 := n2_; have GE322 := n3_; clear n0_ n1_ n2_ n3_; clear hb hbox hg; have hcz14_0 := hz BK322.out 0; have hcz14_1 := hz BK322.out 1; have hcz14_2 := hz BK322.out 2; have hfz14_0 := Qm BK322.out 0; have hfz14_1 := Qm BK322.out 1; have hfz14_2 := Qm BK322.out 2))
       go_ret
       exact ⟨by first | rfl | (simp [errW_none, errW_some] <;> rfl) | (simp [*, errW_none, errW_some] <;> rfl), bl HB.out⟩
     rw [if_neg c4] at H
     have c4b0 : decide (1 ≤ a0_1) = false := Xr c4
     clear c4
     obtain rfl := Xz H
     go_enter Tryz.func17, Tryz.ntmps17
     go_wp2_with (first | ((with_reducible refine Qx (N := 1) rfl ?_); (try (refine gate_guard (by rfl) ?_; dsimp only)); refine Qv ?hg (N := 1) ?hd (cs := #[.int .i64 a0_0, .int .i64 a0_1, .slice A0_2 l0_2.length c0_2]) (t := 25) ?hr ?_; (case hd => rfl); (case hg => rfl); (case hr => first | (go_simp; done) | (go_simp; rfl)); intro gb322 hg w15 hbox hb; have n0_ := Qa (Qh (bl HB.out) hb); have n1_ := Qa (hbox); have n2_ := Qa ((by rw [hg]; exact (Qi (bl HB.out)) : w.heap.size ≤ gb322)); have n3_ := Qa ((by rw [hg]; exact (Qi (bl HB.out)) : w.heap.size ≤ gb322)); clear HB; have HB := n0_; have BK322 := n1_; have GW322 := n2_; have GE322 := n3_; clear n0_ n1_ n2_ n3_; clear hb hbox hg; have hcz16_0 := hz BK322.out 0; have hcz16_1 := hz BK322.out 1; have hcz16_2 := hz BK322.out 2; have hfz16_0 := Qm BK322.out 0; have hfz16_1 := Qm BK322.out 1; have hfz16_2 := Qm BK322.out 2))
     go_ret
     exact ⟨by first | rfl | (simp [errW_none, errW_some] <;> rfl) | (simp [*, errW_none, errW_some] <;> rfl), bl HB.out⟩
   rw [if_neg c3] at H
   have c3b0 : decide (a0_0 ≤ 84005) = false := Xr c3
   clear c3
   obtain rfl := Xz H
   go_enter Tryz.func17, Tryz.ntmps17
   go_wp2_with (first | ((with_reducible refine Qx (N := 1) rfl ?_); (try (refine gate_guard (by rfl) ?_; dsimp only)); refine Qv ?hg (N := 1) ?hd (cs := #[.int .i64 a0_0, .int .i64 a0_1, .slice A0_2 l0_2.length c0_2]) (t := 25) ?hr ?_; (case hd => rfl); (case hg => rfl); (case hr => first | (go_simp; done) | (go_simp; rfl)); intro gb322 hg w17 hbox hb; have n0_ := Qa (Qh (bl HB.out) hb); have n1_ := Qa (hbox); have n2_ := Qa ((by rw [hg]; exact (Qi (bl HB.out)) : w.heap.size ≤ gb322)); have n3_ := Qa ((by rw [hg]; exact (Qi (bl HB.out)) : w.heap.size ≤ gb322)); clear HB; have HB := n0_; have BK322 := n1_; have GW322 := n2_; have GE322 := n3_; clear n0_ n1_ n2_ n3_; clear hb hbox hg; have hcz18_0 := hz BK322.out 0; have hcz18_1 := hz BK322.out 1; have hcz18_2 := hz BK322.out 2; have hfz18_0 := Qm BK322.out 0; have hfz18_1 := Qm BK322.out 1; have hfz18_2 := Qm BK322.out 2))
   go_ret
   exact ⟨by first | rfl | (simp [errW_none, errW_some] <;> rfl) | (simp [*, errW_none, errW_some] <;> rfl), bl HB.out⟩
 rw [if_neg c2] at H
 have c2b0 : decide (0 ≤ a0_0) = false := Xr c2
 clear c2
 obtain rfl := Xz H
 go_enter Tryz.func17, Tryz.ntmps17
 go_wp2_with (first | ((with_reducible refine Qx (N := 1) rfl ?_); (try (refine gate_guard (by rfl) ?_; dsimp only)); refine Qv ?hg (N := 1) ?hd (cs := #[.int .i64 a0_0, .int .i64 a0_1, .slice A0_2 l0_2.length c0_2]) (t := 25) ?hr ?_; (case hd => rfl); (case hg => rfl); (case hr => first | (go_simp; done) | (go_simp; rfl)); intro gb322 hg w19 hbox hb; have n0_ := Qa (Qh (bl HB.out) hb); have n1_ := Qa (hbox); have n2_ := Qa ((by rw [hg]; exact (Qi (bl HB.out)) : w.heap.size ≤ gb322)); have n3_ := Qa ((by rw [hg]; exact (Qi (bl HB.out)) : w.heap.size ≤ gb322)); clear HB; have HB := n0_; have BK322 := n1_; have GW322 := n2_; have GE322 := n3_; clear n0_ n1_ n2_ n3_; clear hb hbox hg; have hcz20_0 := hz BK322.out 0; have hcz20_1 := hz BK322.out 1; have hcz20_2 := hz BK322.out 2; have hfz20_0 := Qm BK322.out 0; have hfz20_1 := Qm BK322.out 1; have hfz20_2 := Qm BK322.out 2))
 go_ret
 exact ⟨by first | rfl | (simp [errW_none, errW_some] <;> rfl) | (simp [*, errW_none, errW_some] <;> rfl), bl HB.out⟩
def payrollref1_size.f (a0 : Int) : Option (Int) := if a0 < 0 then (some (IntKind.u64.wrap ((IntKind.u64.wrap (wrap64 (-(wrap64 (a0 + 1))))) + 1))) else (some (IntKind.u64.wrap (a0)))
theorem payrollref1_size.calls (a0 : Int) (r : Int) (w : World) (h : payrollref1_size.f a0 = some r) :
 Calls Tryz.prog 63 #[.int .i64 a0] w fun e w' => e = .returned (.int .u64 r) ∧ Drawn0 w w' := by
 have H : (if a0 < 0 then (some (IntKind.u64.wrap ((IntKind.u64.wrap (wrap64 (-(wrap64 (a0 + 1))))) + 1))) else (some (IntKind.u64.wrap (a0)))) = some r := h
 clear h
 by_cases c2 : a0 < 0
 · rw [if_pos c2] at H
   have c2b0 : decide (a0 < 0) = true := Xq c2
   clear c2
   obtain rfl := Xz H
   go_enter Tryz.func63, Tryz.ntmps63
   go_wp2
   go_ret
   exact ⟨by first | rfl | (simp; done) | (simp [*]; done), by repeat (first | exact Drawn0.refl _ | apply Drawn0.step)⟩
 rw [if_neg c2] at H
 have c2b0 : decide (a0 < 0) = false := Xr c2
 clear c2
 obtain rfl := Xz H
 go_enter Tryz.func63, Tryz.ntmps63
 go_wp2
 go_ret
 exact ⟨by first | rfl | (simp; done) | (simp [*]; done), by repeat (first | exact Drawn0.refl _ | apply Drawn0.step)⟩
def payrollref1_Decimal.l0 : Nat → Int → Zb → Int → Option (Zb)
 | 0, _, _, _ => none
 | k + 1, x0, x3, x4 => if x4 > 0 then ((some (([(IntKind.u64.wrap (48 + (Int.tmod x4 10))) % 256] : List Int) : List Int)).bind fun y325 => (if (strOfNums y325).size + x3.size ≤ 9223372036854775807 then (payrollref1_Decimal.l0 k x0 ((strOfNums y325) ++ x3) (IntKind.u64.wrap (Int.tdiv x4 10))) else (none))) else (if x3.toList = ([] : List UInt8) then ((some (([(IntKind.u64.wrap (48 + (Int.tmod x4 10))) % 256] : List Int) : List Int)).bind fun y328 => (if (strOfNums y328).size + x3.size ≤ 9223372036854775807 then (payrollref1_Decimal.l0 k x0 ((strOfNums y328) ++ x3) (IntKind.u64.wrap (Int.tdiv x4 10))) else (none))) else (if x0 < 0 then (if 1 + x3.size ≤ 9223372036854775807 then (some ((⟨#[45]⟩ : Zb) ++ x3)) else (none)) else (some x3)))
def payrollref1_Decimal.f (k : Nat) (a0 : Int) : Option (Zb) := (payrollref1_size.f a0).bind fun t324 => (payrollref1_Decimal.l0 k a0 (⟨#[]⟩ : Zb) t324)
theorem payrollref1_Decimal.calls (k : Nat) (a0 : Int) (r : Zb) (w : World) (h : payrollref1_Decimal.f k a0 = some r) :
 Calls Tryz.prog 39 #[.int .i64 a0] w fun e w' => e = .returned (.string r) ∧ Below w.heap.size w w' := by
 have HB := Qa (Below.refl w.heap.size w)
 have H : ((payrollref1_size.f a0).bind fun t324 => (payrollref1_Decimal.l0 k a0 (⟨#[]⟩ : Zb) t324)) = some r := h
 clear h
 replace H := Xx.mp H
 obtain ⟨t324, A20, H⟩ := H
 replace H : (payrollref1_Decimal.l0 k a0 (⟨#[]⟩ : Zb) t324) = some r := H
 have A2 := Qa A20
 clear A20
 have H' := Qa H
 clear H
 go_enter Tryz.func39, Tryz.ntmps39
 go_wp2_with (first | ((with_reducible refine Qw (f := 63) rfl ?_); refine gc (some 6) Tryz.func63 #[.int .i64 a0] ?_; (with_reducible refine (payrollref1_size.calls a0 t324 _ A2.out).mono ?_); rintro e w' ⟨rfl, ⟨nd, rfl⟩⟩; refine ⟨_, rfl, ?_⟩))
 go_loopg [3,4] k (fun kq v3 v4 w' => ∃ (x3_1 : Zb) (x4_1 : Int), v3 = .string x3_1 ∧ v4 = .int .u64 x4_1 ∧ Aside0 (payrollref1_Decimal.l0 kq a0 x3_1 x4_1 = some r) ∧ Aside0 (kq ≤ k) ∧ Aside0 (Below w.heap.size w w'))
 case atStart => exact ⟨((⟨#[]⟩ : Zb)), (t324), (by first | rfl | (simp; done) | (simp [*]; done)), (by first | rfl | (simp; done) | (simp [*]; done)), H', ⟨Nat.le_refl _⟩, ⟨bl HB.out⟩⟩
 case round =>
  clear H'
  try clear p2
  obtain ⟨x3_1, x4_1, rfl, rfl, HA, HK1, HB⟩ := hrel
  cases gk with
  | zero => exact absurd HA.out (by simp [payrollref1_Decimal.l0])
  | succ k1 =>
   have H := HA.out
   clear HA
   simp only [payrollref1_Decimal.l0] at H
   by_cases c3 : x4_1 > 0
   · rw [if_pos c3] at H
     have c3b0 : decide (0 < x4_1) = true := Xq c3
     clear c3
     obtain ⟨y325, hy325⟩ : ∃ y_ : List Int, y_ = (([(IntKind.u64.wrap (48 + (Int.tmod x4_1 10))) % 256] : List Int)) := ⟨_, rfl⟩
     replace H : (if (strOfNums y325).size + x3_1.size ≤ 9223372036854775807 then (payrollref1_Decimal.l0 k1 a0 ((strOfNums y325) ++ x3_1) (IntKind.u64.wrap (Int.tdiv x4_1 10))) else (none)) = some r := by first | (rw [hy325]; with_reducible exact H) | (have H2_ := (Xy _ _).symm.trans H; rw [hy325]; with_reducible exact H2_) | (have H2_ := (Xy _ _).symm.trans H; with_reducible exact H2_) | with_reducible exact H | (rw [hy325]; exact H) | exact H
     have Ny325 := Qa hy325
     clear hy325
     by_cases c4 : (strOfNums y325).size + x3_1.size ≤ 9223372036854775807
     · rw [if_pos c4] at H
       have c4b0 := eq_true c4
       have c4b1 : decide ((strOfNums y325).size + x3_1.size ≤ 9223372036854775807) = true := Xq c4
       try have c4b2 : (9223372036854775807 < (strOfNums y325).size + x3_1.size) = False := eq_false (Nat.not_lt.2 c4)
       have H' := Qa H
       clear H
       go_wp2_with (first | ((with_reducible refine Qx (N := 19) rfl ?_); refine Kd.R_lit (Kd.int .u8) _ 5 ?hg (N := 19) ?hd (xs := ([(IntKind.u64.wrap (48 + (Int.tmod x4_1 10))) % 256] : List Int)) (inner := [.int .u8 ((IntKind.u64.wrap (48 + (Int.tmod x4_1 10))) % 256)]) (ok := fun _ => True) (okp := fun _ => True) ?hr ?hp (fun _ hk => hk) trivial (Below.refl _ _) (Nat.le_refl _) (by simp) ?_; (case hd => rfl); (case hg => rfl); (case hr => first | (go_simp; done) | (go_simp; rfl)); (case hp => exact (Reps.one (show Kd.M (Kd.int .u8) _ _ _ ((IntKind.u64.wrap (48 + (Int.tmod x4_1 10))) % 256) [.int .u8 ((IntKind.u64.wrap (48 + (Int.tmod x4_1 10))) % 256)] from rfl) (Reps.none _ _))); intro v326 w5 ho6 hb hg_ hnew_; clear hg_ hnew_; (first | rw [← Ny325.out] at ho6 | (simp only [Int.reduceToNat] at ho6; rw [← Ny325.out] at ho6)); have n0_ := Qa (Kd.R_lower ho6 (Qi (bl HB.out))); have n1_ := Qa (Qh (bl HB.out) hb); clear HB; have HO327 := n0_; have HB := n1_; clear n0_ n1_; clear hb ho6; have hcv7 := own_string (P := Tryz.prog) Tryz.underlying67 Tryz.underlying5 Tryz.underlying9 (Kd.own_of_R HO327.out)))
       go_roundg k1
       case measure => have := HK1.out; omega
       case rel => exact ⟨((strOfNums y325) ++ x3_1), (IntKind.u64.wrap (Int.tdiv x4_1 10)), (by first | rfl | (simp; done) | (simp [*]; done)), (by first | rfl | (simp; done) | (simp [*]; done)), H', ⟨by have := HK1.out; omega⟩, ⟨bl HB.out⟩⟩
     rw [if_neg c4] at H
     exact absurd H (by simp)
   rw [if_neg c3] at H
   have c3b0 : decide (0 < x4_1) = false := Xr c3
   clear c3
   by_cases c8 : x3_1.toList = ([] : List UInt8)
   · rw [if_pos c8] at H
     have c8b0 : (x3_1.toList == ([] : List UInt8)) = true := Yb.mpr c8
     have c8b1 : (x3_1.toList != ([] : List UInt8)) = false := bne_eq_false_iff_eq.mpr c8
     clear c8
     obtain ⟨y328, hy328⟩ : ∃ y_ : List Int, y_ = (([(IntKind.u64.wrap (48 + (Int.tmod x4_1 10))) % 256] : List Int)) := ⟨_, rfl⟩
     replace H : (if (strOfNums y328).size + x3_1.size ≤ 9223372036854775807 then (payrollref1_Decimal.l0 k1 a0 ((strOfNums y328) ++ x3_1) (IntKind.u64.wrap (Int.tdiv x4_1 10))) else (none)) = some r := by first | (rw [hy328]; with_reducible exact H) | (have H2_ := (Xy _ _).symm.trans H; rw [hy328]; with_reducible exact H2_) | (have H2_ := (Xy _ _).symm.trans H; with_reducible exact H2_) | with_reducible exact H | (rw [hy328]; exact H) | exact H
     have Ny328 := Qa hy328
     clear hy328
     by_cases c9 : (strOfNums y328).size + x3_1.size ≤ 9223372036854775807
     · rw [if_pos c9] at H
       have c9b0 := eq_true c9
       have c9b1 : decide ((strOfNums y328).size + x3_1.size ≤ 9223372036854775807) = true := Xq c9
       try have c9b2 : (9223372036854775807 < (strOfNums y328).size + x3_1.size) = False := eq_false (Nat.not_lt.2 c9)
       have H' := Qa H
       clear H
       go_wp2_with (first | ((with_reducible refine Qx (N := 19) rfl ?_); refine Kd.R_lit (Kd.int .u8) _ 5 ?hg (N := 19) ?hd (xs := ([(IntKind.u64.wrap (48 + (Int.tmod x4_1 10))) % 256] : List Int)) (inner := [.int .u8 ((IntKind.u64.wrap (48 + (Int.tmod x4_1 10))) % 256)]) (ok := fun _ => True) (okp := fun _ => True) ?hr ?hp (fun _ hk => hk) trivial (Below.refl _ _) (Nat.le_refl _) (by simp) ?_; (case hd => rfl); (case hg => rfl); (case hr => first | (go_simp; done) | (go_simp; rfl)); (case hp => exact (Reps.one (show Kd.M (Kd.int .u8) _ _ _ ((IntKind.u64.wrap (48 + (Int.tmod x4_1 10))) % 256) [.int .u8 ((IntKind.u64.wrap (48 + (Int.tmod x4_1 10))) % 256)] from rfl) (Reps.none _ _))); intro v329 w10 ho11 hb hg_ hnew_; clear hg_ hnew_; (first | rw [← Ny328.out] at ho11 | (simp only [Int.reduceToNat] at ho11; rw [← Ny328.out] at ho11)); have n0_ := Qa (Kd.R_lower ho11 (Qi (bl HB.out))); have n1_ := Qa (Qh (bl HB.out) hb); clear HB; have HO330 := n0_; have HB := n1_; clear n0_ n1_; clear hb ho11; have hcv12 := own_string (P := Tryz.prog) Tryz.underlying67 Tryz.underlying5 Tryz.underlying9 (Kd.own_of_R HO330.out)))
       go_roundg k1
       case measure => have := HK1.out; omega
       case rel => exact ⟨((strOfNums y328) ++ x3_1), (IntKind.u64.wrap (Int.tdiv x4_1 10)), (by first | rfl | (simp; done) | (simp [*]; done)), (by first | rfl | (simp; done) | (simp [*]; done)), H', ⟨by have := HK1.out; omega⟩, ⟨bl HB.out⟩⟩
     rw [if_neg c9] at H
     exact absurd H (by simp)
   rw [if_neg c8] at H
   have c8b0 : (x3_1.toList == ([] : List UInt8)) = false := Ya.mpr c8
   have c8b1 : (x3_1.toList != ([] : List UInt8)) = true := Yc.mpr c8
   by_cases c13 : a0 < 0
   · rw [if_pos c13] at H
     have c13b0 : decide (a0 < 0) = true := Xq c13
     clear c13
     by_cases c14 : 1 + x3_1.size ≤ 9223372036854775807
     · rw [if_pos c14] at H
       have c14b0 := eq_true c14
       have c14b1 : decide (1 + x3_1.size ≤ 9223372036854775807) = true := Xq c14
       try have c14b2 : (9223372036854775807 < 1 + x3_1.size) = False := eq_false (Nat.not_lt.2 c14)
       obtain rfl := Xz H
       go_wp2
       go_ret
       exact ⟨by first | rfl | (simp [errW_none, errW_some] <;> rfl) | (simp [*, errW_none, errW_some] <;> rfl), bl HB.out⟩
     rw [if_neg c14] at H
     exact absurd H (by simp)
   rw [if_neg c13] at H
   have c13b0 : decide (a0 < 0) = false := Xr c13
   clear c13
   obtain rfl := Xz H
   go_wp2
   go_ret
   exact ⟨by first | rfl | (simp [errW_none, errW_some] <;> rfl) | (simp [*, errW_none, errW_some] <;> rfl), bl HB.out⟩
def payrollref34_Word.f (a0 : Int) : Option (Zb) := (some (([(⟨#[101,97,114,110,105,110,103]⟩ : Zb), (⟨#[98,101,110,101,102,105,116]⟩ : Zb), (⟨#[98,101,102,111,114,101]⟩ : Zb), (⟨#[108,101,118,121]⟩ : Zb), (⟨#[101,109,112,108,111,121,101,114]⟩ : Zb), (⟨#[116,97,120]⟩ : Zb), (⟨#[97,116,116,97,99,104,101,100]⟩ : Zb), (⟨#[97,102,116,101,114]⟩ : Zb), (⟨#[110,101,116]⟩ : Zb), (⟨#[115,104,111,114,116]⟩ : Zb)] : List Zb) : List Zb)).bind fun y331 => (if a0 < 1 then (some (⟨#[]⟩ : Zb)) else (if a0 > (y331.length : Int) then (some (⟨#[]⟩ : Zb)) else (if 0 ≤ (wrap64 (a0 - 1)) then (if (wrap64 (a0 - 1)) < (y331.length : Int) then (some (rdOf ByteArray.empty y331 (wrap64 (a0 - 1)))) else (none)) else (none))))
theorem payrollref34_Word.calls (a0 : Int) (r : Zb) (w : World) (h : payrollref34_Word.f a0 = some r) :
 Calls Tryz.prog 64 #[.int .i64 a0] w fun e w' => e = .returned (.string r) ∧ Below w.heap.size w w' := by
 have HB := Qa (Below.refl w.heap.size w)
 have H : ((some (([(⟨#[101,97,114,110,105,110,103]⟩ : Zb), (⟨#[98,101,110,101,102,105,116]⟩ : Zb), (⟨#[98,101,102,111,114,101]⟩ : Zb), (⟨#[108,101,118,121]⟩ : Zb), (⟨#[101,109,112,108,111,121,101,114]⟩ : Zb), (⟨#[116,97,120]⟩ : Zb), (⟨#[97,116,116,97,99,104,101,100]⟩ : Zb), (⟨#[97,102,116,101,114]⟩ : Zb), (⟨#[110,101,116]⟩ : Zb), (⟨#[115,104,111,114,116]⟩ : Zb)] : List Zb) : List Zb)).bind fun y331 => (if a0 < 1 then (some (⟨#[]⟩ : Zb)) else (if a0 > (y331.length : Int) then (some (⟨#[]⟩ : Zb)) else (if 0 ≤ (wrap64 (a0 - 1)) then (if (wrap64 (a0 - 1)) < (y331.length : Int) then (some (rdOf ByteArray.empty y331 (wrap64 (a0 - 1)))) else (none)) else (none))))) = some r := h
 clear h
 obtain ⟨y331, hy331⟩ : ∃ y_ : List Zb, y_ = (([(⟨#[101,97,114,110,105,110,103]⟩ : Zb), (⟨#[98,101,110,101,102,105,116]⟩ : Zb), (⟨#[98,101,102,111,114,101]⟩ : Zb), (⟨#[108,101,118,121]⟩ : Zb), (⟨#[101,109,112,108,111,121,101,114]⟩ : Zb), (⟨#[116,97,120]⟩ : Zb), (⟨#[97,116,116,97,99,104,101,100]⟩ : Zb), (⟨#[97,102,116,101,114]⟩ : Zb), (⟨#[110,101,116]⟩ : Zb), (⟨#[115,104,111,114,116]⟩ : Zb)] : List Zb)) := ⟨_, rfl⟩
 replace H : (if a0 < 1 then (some (⟨#[]⟩ : Zb)) else (if a0 > (y331.length : Int) then (some (⟨#[]⟩ : Zb)) else (if 0 ≤ (wrap64 (a0 - 1)) then (if (wrap64 (a0 - 1)) < (y331.length : Int) then (some (rdOf ByteArray.empty y331 (wrap64 (a0 - 1)))) else (none)) else (none)))) = some r := by first | (rw [hy331]; with_reducible exact H) | (have H2_ := (Xy _ _).symm.trans H; rw [hy331]; with_reducible exact H2_) | (have H2_ := (Xy _ _).symm.trans H; with_reducible exact H2_) | with_reducible exact H | (rw [hy331]; exact H) | exact H
 have Ny331 := Qa hy331
 clear hy331
 by_cases c2 : a0 < 1
 · rw [if_pos c2] at H
   have c2b0 : decide (a0 < 1) = true := Xq c2
   clear c2
   obtain rfl := Xz H
   go_enter Tryz.func64, Tryz.ntmps64
   go_wp2_with (first | ((with_reducible refine Qx (N := 4) rfl ?_); (try (refine gate_guard (by rfl) ?_; dsimp only)); refine Kd.R_lit Kd.string _ 9 ?hg (N := 4) ?hd (xs := ([(⟨#[101,97,114,110,105,110,103]⟩ : Zb), (⟨#[98,101,110,101,102,105,116]⟩ : Zb), (⟨#[98,101,102,111,114,101]⟩ : Zb), (⟨#[108,101,118,121]⟩ : Zb), (⟨#[101,109,112,108,111,121,101,114]⟩ : Zb), (⟨#[116,97,120]⟩ : Zb), (⟨#[97,116,116,97,99,104,101,100]⟩ : Zb), (⟨#[97,102,116,101,114]⟩ : Zb), (⟨#[110,101,116]⟩ : Zb), (⟨#[115,104,111,114,116]⟩ : Zb)] : List Zb)) (inner := [.string (⟨#[101,97,114,110,105,110,103]⟩ : Zb), .string (⟨#[98,101,110,101,102,105,116]⟩ : Zb), .string (⟨#[98,101,102,111,114,101]⟩ : Zb), .string (⟨#[108,101,118,121]⟩ : Zb), .string (⟨#[101,109,112,108,111,121,101,114]⟩ : Zb), .string (⟨#[116,97,120]⟩ : Zb), .string (⟨#[97,116,116,97,99,104,101,100]⟩ : Zb), .string (⟨#[97,102,116,101,114]⟩ : Zb), .string (⟨#[110,101,116]⟩ : Zb), .string (⟨#[115,104,111,114,116]⟩ : Zb)]) (ok := fun _ => True) (okp := fun _ => True) ?hr ?hp (fun _ hk => hk) trivial (Below.refl _ _) (Nat.le_refl _) (by simp) ?_; (case hd => rfl); (case hg => rfl); (case hr => first | (go_simp; done) | (go_simp; rfl)); (case hp => exact (Reps.one (show Kd.M Kd.string _ _ _ (⟨#[101,97,114,110,105,110,103]⟩ : Zb) [.string (⟨#[101,97,114,110,105,110,103]⟩ : Zb)] from rfl) (Reps.one (show Kd.M Kd.string _ _ _ (⟨#[98,101,110,101,102,105,116]⟩ : Zb) [.string (⟨#[98,101,110,101,102,105,116]⟩ : Zb)] from rfl) (Reps.one (show Kd.M Kd.string _ _ _ (⟨#[98,101,102,111,114,101]⟩ : Zb) [.string (⟨#[98,101,102,111,114,101]⟩ : Zb)] from rfl) (Reps.one (show Kd.M Kd.string _ _ _ (⟨#[108,101,118,121]⟩ : Zb) [.string (⟨#[108,101,118,121]⟩ : Zb)] from rfl) (Reps.one (show Kd.M Kd.string _ _ _ (⟨#[101,109,112,108,111,121,101,114]⟩ : Zb) [.string (⟨#[101,109,112,108,111,121,101,114]⟩ : Zb)] from rfl) (Reps.one (show Kd.M Kd.string _ _ _ (⟨#[116,97,120]⟩ : Zb) [.string (⟨#[116,97,120]⟩ : Zb)] from rfl) (Reps.one (show Kd.M Kd.string _ _ _ (⟨#[97,116,116,97,99,104,101,100]⟩ : Zb) [.string (⟨#[97,116,116,97,99,104,101,100]⟩ : Zb)] from rfl) (Reps.one (show Kd.M Kd.string _ _ _ (⟨#[97,102,116,101,114]⟩ : Zb) [.string (⟨#[97,102,116,101,114]⟩ : Zb)] from rfl) (Reps.one (show Kd.M Kd.string _ _ _ (⟨#[110,101,116]⟩ : Zb) [.string (⟨#[110,101,116]⟩ : Zb)] from rfl) (Reps.one (show Kd.M Kd.string _ _ _ (⟨#[115,104,111,114,116]⟩ : Zb) [.string (⟨#[115,104,111,114,116]⟩ : Zb)] from rfl) (Reps.none _ _)))))))))))); intro v332 w3 ho4 hb hg_ hnew_; clear hg_ hnew_; (first | rw [← Ny331.out] at ho4 | (simp only [Int.reduceToNat] at ho4; rw [← Ny331.out] at ho4)); have n0_ := Qa (Kd.R_lower ho4 (Qi (bl HB.out))); have n1_ := Qa (Qh (bl HB.out) hb); clear HB; have HO333 := n0_; have HB := n1_; clear n0_ n1_; clear hb ho4))
   go_ret
   exact ⟨by first | rfl | (simp [errW_none, errW_some] <;> rfl) | (simp [*, errW_none, errW_some] <;> rfl), bl HB.out⟩
 rw [if_neg c2] at H
 have c2b0 : decide (a0 < 1) = false := Xr c2
 clear c2
 by_cases c5 : a0 > (y331.length : Int)
 · rw [if_pos c5] at H
   have c5b0 : decide ((y331.length : Int) < a0) = true := Xq c5
   clear c5
   obtain rfl := Xz H
   go_enter Tryz.func64, Tryz.ntmps64
   go_wp2_with (first | ((with_reducible refine Qx (N := 4) rfl ?_); (try (refine gate_guard (by rfl) ?_; dsimp only)); refine Kd.R_lit Kd.string _ 9 ?hg (N := 4) ?hd (xs := ([(⟨#[101,97,114,110,105,110,103]⟩ : Zb), (⟨#[98,101,110,101,102,105,116]⟩ : Zb), (⟨#[98,101,102,111,114,101]⟩ : Zb), (⟨#[108,101,118,121]⟩ : Zb), (⟨#[101,109,112,108,111,121,101,114]⟩ : Zb), (⟨#[116,97,120]⟩ : Zb), (⟨#[97,116,116,97,99,104,101,100]⟩ : Zb), (⟨#[97,102,116,101,114]⟩ : Zb), (⟨#[110,101,116]⟩ : Zb), (⟨#[115,104,111,114,116]⟩ : Zb)] : List Zb)) (inner := [.string (⟨#[101,97,114,110,105,110,103]⟩ : Zb), .string (⟨#[98,101,110,101,102,105,116]⟩ : Zb), .string (⟨#[98,101,102,111,114,101]⟩ : Zb), .string (⟨#[108,101,118,121]⟩ : Zb), .string (⟨#[101,109,112,108,111,121,101,114]⟩ : Zb), .string (⟨#[116,97,120]⟩ : Zb), .string (⟨#[97,116,116,97,99,104,101,100]⟩ : Zb), .string (⟨#[97,102,116,101,114]⟩ : Zb), .string (⟨#[110,101,116]⟩ : Zb), .string (⟨#[115,104,111,114,116]⟩ : Zb)]) (ok := fun _ => True) (okp := fun _ => True) ?hr ?hp (fun _ hk => hk) trivial (Below.refl _ _) (Nat.le_refl _) (by simp) ?_; (case hd => rfl); (case hg => rfl); (case hr => first | (go_simp; done) | (go_simp; rfl)); (case hp => exact (Reps.one (show Kd.M Kd.string _ _ _ (⟨#[101,97,114,110,105,110,103]⟩ : Zb) [.string (⟨#[101,97,114,110,105,110,103]⟩ : Zb)] from rfl) (Reps.one (show Kd.M Kd.string _ _ _ (⟨#[98,101,110,101,102,105,116]⟩ : Zb) [.string (⟨#[98,101,110,101,102,105,116]⟩ : Zb)] from rfl) (Reps.one (show Kd.M Kd.string _ _ _ (⟨#[98,101,102,111,114,101]⟩ : Zb) [.string (⟨#[98,101,102,111,114,101]⟩ : Zb)] from rfl) (Reps.one (show Kd.M Kd.string _ _ _ (⟨#[108,101,118,121]⟩ : Zb) [.string (⟨#[108,101,118,121]⟩ : Zb)] from rfl) (Reps.one (show Kd.M Kd.string _ _ _ (⟨#[101,109,112,108,111,121,101,114]⟩ : Zb) [.string (⟨#[101,109,112,108,111,121,101,114]⟩ : Zb)] from rfl) (Reps.one (show Kd.M Kd.string _ _ _ (⟨#[116,97,120]⟩ : Zb) [.string (⟨#[116,97,120]⟩ : Zb)] from rfl) (Reps.one (show Kd.M Kd.string _ _ _ (⟨#[97,116,116,97,99,104,101,100]⟩ : Zb) [.string (⟨#[97,116,116,97,99,104,101,100]⟩ : Zb)] from rfl) (Reps.one (show Kd.M Kd.string _ _ _ (⟨#[97,102,116,101,114]⟩ : Zb) [.string (⟨#[97,102,116,101,114]⟩ : Zb)] from rfl) (Reps.one (show Kd.M Kd.string _ _ _ (⟨#[110,101,116]⟩ : Zb) [.string (⟨#[110,101,116]⟩ : Zb)] from rfl) (Reps.one (show Kd.M Kd.string _ _ _ (⟨#[115,104,111,114,116]⟩ : Zb) [.string (⟨#[115,104,111,114,116]⟩ : Zb)] from rfl) (Reps.none _ _)))))))))))); intro v332 w6 ho7 hb hg_ hnew_; clear hg_ hnew_; (first | rw [← Ny331.out] at ho7 | (simp only [Int.reduceToNat] at ho7; rw [← Ny331.out] at ho7)); have n0_ := Qa (Kd.R_lower ho7 (Qi (bl HB.out))); have n1_ := Qa (Qh (bl HB.out) hb); clear HB; have HO333 := n0_; have HB := n1_; clear n0_ n1_; clear hb ho7; obtain ⟨Ao8, co8, eo8⟩ := Xk HO333.out; subst eo8))
   go_ret
   exact ⟨by first | rfl | (simp [errW_none, errW_some] <;> rfl) | (simp [*, errW_none, errW_some] <;> rfl), bl HB.out⟩
 rw [if_neg c5] at H
 have c5b0 : decide ((y331.length : Int) < a0) = false := Xr c5
 clear c5
 obtain ⟨ji9, hji9⟩ : ∃ j_ : Int, (wrap64 (a0 - 1)) = j_ := ⟨_, rfl⟩
 replace H : (if 0 ≤ (ji9) then (if (ji9) < (y331.length : Int) then (some (rdOf ByteArray.empty y331 (ji9))) else (none)) else (none)) = some r := by first | (rw [hji9] at H; exact H) | (simp only [hji9] at H ⊢; exact H)
 have hji9w : (IntKind.i64.wrap (a0 - 1)) = ji9 := (i64_w _).trans hji9
 by_cases c10 : 0 ≤ (ji9)
 · rw [if_pos c10] at H
   have c10b0 : decide (0 ≤ (ji9)) = true := Xq c10
   clear c10
   by_cases c11 : (ji9) < (y331.length : Int)
   · rw [if_pos c11] at H
     have c11b0 : decide ((ji9) < (y331.length : Int)) = true := Xq c11
     clear c11
     obtain rfl := Xz H
     go_enter Tryz.func64, Tryz.ntmps64
     go_wp2_with (first | ((with_reducible refine Qx (N := 4) rfl ?_); (try (refine gate_guard (by rfl) ?_; dsimp only)); refine Kd.R_lit Kd.string _ 9 ?hg (N := 4) ?hd (xs := ([(⟨#[101,97,114,110,105,110,103]⟩ : Zb), (⟨#[98,101,110,101,102,105,116]⟩ : Zb), (⟨#[98,101,102,111,114,101]⟩ : Zb), (⟨#[108,101,118,121]⟩ : Zb), (⟨#[101,109,112,108,111,121,101,114]⟩ : Zb), (⟨#[116,97,120]⟩ : Zb), (⟨#[97,116,116,97,99,104,101,100]⟩ : Zb), (⟨#[97,102,116,101,114]⟩ : Zb), (⟨#[110,101,116]⟩ : Zb), (⟨#[115,104,111,114,116]⟩ : Zb)] : List Zb)) (inner := [.string (⟨#[101,97,114,110,105,110,103]⟩ : Zb), .string (⟨#[98,101,110,101,102,105,116]⟩ : Zb), .string (⟨#[98,101,102,111,114,101]⟩ : Zb), .string (⟨#[108,101,118,121]⟩ : Zb), .string (⟨#[101,109,112,108,111,121,101,114]⟩ : Zb), .string (⟨#[116,97,120]⟩ : Zb), .string (⟨#[97,116,116,97,99,104,101,100]⟩ : Zb), .string (⟨#[97,102,116,101,114]⟩ : Zb), .string (⟨#[110,101,116]⟩ : Zb), .string (⟨#[115,104,111,114,116]⟩ : Zb)]) (ok := fun _ => True) (okp := fun _ => True) ?hr ?hp (fun _ hk => hk) trivial (Below.refl _ _) (Nat.le_refl _) (by simp) ?_; (case hd => rfl); (case hg => rfl); (case hr => first | (go_simp; done) | (go_simp; rfl)); (case hp => exact (Reps.one (show Kd.M Kd.string _ _ _ (⟨#[101,97,114,110,105,110,103]⟩ : Zb) [.string (⟨#[101,97,114,110,105,110,103]⟩ : Zb)] from rfl) (Reps.one (show Kd.M Kd.string _ _ _ (⟨#[98,101,110,101,102,105,116]⟩ : Zb) [.string (⟨#[98,101,110,101,102,105,116]⟩ : Zb)] from rfl) (Reps.one (show Kd.M Kd.string _ _ _ (⟨#[98,101,102,111,114,101]⟩ : Zb) [.string (⟨#[98,101,102,111,114,101]⟩ : Zb)] from rfl) (Reps.one (show Kd.M Kd.string _ _ _ (⟨#[108,101,118,121]⟩ : Zb) [.string (⟨#[108,101,118,121]⟩ : Zb)] from rfl) (Reps.one (show Kd.M Kd.string _ _ _ (⟨#[101,109,112,108,111,121,101,114]⟩ : Zb) [.string (⟨#[101,109,112,108,111,121,101,114]⟩ : Zb)] from rfl) (Reps.one (show Kd.M Kd.string _ _ _ (⟨#[116,97,120]⟩ : Zb) [.string (⟨#[116,97,120]⟩ : Zb)] from rfl) (Reps.one (show Kd.M Kd.string _ _ _ (⟨#[97,116,116,97,99,104,101,100]⟩ : Zb) [.string (⟨#[97,116,116,97,99,104,101,100]⟩ : Zb)] from rfl) (Reps.one (show Kd.M Kd.string _ _ _ (⟨#[97,102,116,101,114]⟩ : Zb) [.string (⟨#[97,102,116,101,114]⟩ : Zb)] from rfl) (Reps.one (show Kd.M Kd.string _ _ _ (⟨#[110,101,116]⟩ : Zb) [.string (⟨#[110,101,116]⟩ : Zb)] from rfl) (Reps.one (show Kd.M Kd.string _ _ _ (⟨#[115,104,111,114,116]⟩ : Zb) [.string (⟨#[115,104,111,114,116]⟩ : Zb)] from rfl) (Reps.none _ _)))))))))))); intro v332 w12 ho13 hb hg_ hnew_; clear hg_ hnew_; (first | rw [← Ny331.out] at ho13 | (simp only [Int.reduceToNat] at ho13; rw [← Ny331.out] at ho13)); have n0_ := Qa (Kd.R_lower ho13 (Qi (bl HB.out))); have n1_ := Qa (Qh (bl HB.out) hb); clear HB; have HO333 := n0_; have HB := n1_; clear n0_ n1_; clear hb ho13; obtain ⟨Ao14, co14, eo14⟩ := Xk HO333.out; subst eo14; have p334 : 0 ≤ ((ji9) : Int) := Xp (by assumption); have q334 : (ji9) < (y331.length : Int) := Xp (by assumption); obtain ⟨ad334, e334, hx334_0⟩ := Kd.at_string (Xb HO333.out).2.2 (ji9) p334 q334; cases e334; replace p334 := eq_true p334; replace q334 := eq_true q334))
     go_ret
     exact ⟨by first | rfl | (simp [errW_none, errW_some] <;> rfl) | (simp only [← hji9]; first | rfl | (simp [errW_none, errW_some] <;> rfl)) | (simp [*, errW_none, errW_some] <;> rfl), bl HB.out⟩
   rw [if_neg c11] at H
   exact absurd H (by simp)
 rw [if_neg c10] at H
 exact absurd H (by simp)
def payrollref34_Text.f (k : Nat) (a0_0 : Int) (a0_1 : Zb) (a0_2 : Int) : Option (Zb) := (payrollref32_Bare.f a0_0).bind fun t336 => (if t336 = true then ((payrollref34_Word.f a0_0).bind fun t337 => (if t337.size + 1 ≤ 9223372036854775807 then ((payrollref1_Decimal.f k a0_2).bind fun t338 => (if (t337 ++ (⟨#[32]⟩ : Zb)).size + t338.size ≤ 9223372036854775807 then (if ((t337 ++ (⟨#[32]⟩ : Zb)) ++ t338).size + 1 ≤ 9223372036854775807 then (some (((t337 ++ (⟨#[32]⟩ : Zb)) ++ t338) ++ (⟨#[10]⟩ : Zb))) else (none)) else (none))) else (none))) else ((payrollref34_Word.f a0_0).bind fun t339 => (if t339.size + 1 ≤ 9223372036854775807 then (if (t339 ++ (⟨#[32]⟩ : Zb)).size + a0_1.size ≤ 9223372036854775807 then (if ((t339 ++ (⟨#[32]⟩ : Zb)) ++ a0_1).size + 1 ≤ 9223372036854775807 then ((payrollref1_Decimal.f k a0_2).bind fun t340 => (if (((t339 ++ (⟨#[32]⟩ : Zb)) ++ a0_1) ++ (⟨#[32]⟩ : Zb)).size + t340.size ≤ 9223372036854775807 then (if ((((t339 ++ (⟨#[32]⟩ : Zb)) ++ a0_1) ++ (⟨#[32]⟩ : Zb)) ++ t340).size + 1 ≤ 9223372036854775807 then (some (((((t339 ++ (⟨#[32]⟩ : Zb)) ++ a0_1) ++ (⟨#[32]⟩ : Zb)) ++ t340) ++ (⟨#[10]⟩ : Zb))) else (none)) else (none))) else (none)) else (none)) else (none))))
def payrollref34_Text.T2 : Bool × List (List Nat × List Nat) := (true, [([], []), ([0], [0]), ([1], [1]), ([2], [2]), ([], []), ([4], [4]), ([5,2], [5]), ([3,6], [3,6]), ([7], [7]), ([8,6,0,1,2,3,4,5,6,7,8], [8])])
def payrollref34_Text.B2 : List Nat := [0,1,3,7,0,16,55,127,255,511]
theorem payrollref34_Text.tab2 : rtab .any (opsOf Tryz.f40 2) = payrollref34_Text.T2 := by kernel_rfl
theorem payrollref34_Text.bits2 : waitsOk payrollref34_Text.T2.2 payrollref34_Text.B2 = true := by kernel_rfl
def payrollref34_Text.T3 : Bool × List (List Nat × List Nat) := (true, [([], []), ([0], [0]), ([1], [1]), ([2], [2]), ([], []), ([4], [4]), ([3,5], [3,5]), ([6], [6]), ([], []), ([8], [8]), ([9,2], [9]), ([7,10], [7,10]), ([11], [11]), ([12,10,0,1,2,3,4,5,6,7,8,9,10,11,12], [12])])
def payrollref34_Text.B3 : List Nat := [0,1,3,7,0,16,63,127,0,256,775,2047,4095,8191]
theorem payrollref34_Text.tab3 : rtab .any (opsOf Tryz.f40 3) = payrollref34_Text.T3 := by kernel_rfl
theorem payrollref34_Text.bits3 : waitsOk payrollref34_Text.T3.2 payrollref34_Text.B3 = true := by kernel_rfl
theorem payrollref34_Text.calls (k : Nat) (a0_0 : Int) (a0_1 : Zb) (a0_2 : Int) (r : Zb) (w : World) (h : payrollref34_Text.f k a0_0 a0_1 a0_2 = some r) :
 Calls Tryz.prog 40 #[.agg #[.int .i64 a0_0, .string a0_1, .int .i64 a0_2]] w fun e w' => e = .returned (.string r) ∧ Below w.heap.size w w' := by
 have hu60 := Tryz.underlying60
 have HB := Qa (Below.refl w.heap.size w)
 have H : ((payrollref32_Bare.f a0_0).bind fun t336 => (if t336 = true then ((payrollref34_Word.f a0_0).bind fun t337 => (if t337.size + 1 ≤ 9223372036854775807 then ((payrollref1_Decimal.f k a0_2).bind fun t338 => (if (t337 ++ (⟨#[32]⟩ : Zb)).size + t338.size ≤ 9223372036854775807 then (if ((t337 ++ (⟨#[32]⟩ : Zb)) ++ t338).size + 1 ≤ 9223372036854775807 then (some (((t337 ++ (⟨#[32]⟩ : Zb)) ++ t338) ++ (⟨#[10]⟩ : Zb))) else (none)) else (none))) else (none))) else ((payrollref34_Word.f a0_0).bind fun t339 => (if t339.size + 1 ≤ 9223372036854775807 then (if (t339 ++ (⟨#[32]⟩ : Zb)).size + a0_1.size ≤ 9223372036854775807 then (if ((t339 ++ (⟨#[32]⟩ : Zb)) ++ a0_1).size + 1 ≤ 9223372036854775807 then ((payrollref1_Decimal.f k a0_2).bind fun t340 => (if (((t339 ++ (⟨#[32]⟩ : Zb)) ++ a0_1) ++ (⟨#[32]⟩ : Zb)).size + t340.size ≤ 9223372036854775807 then (if ((((t339 ++ (⟨#[32]⟩ : Zb)) ++ a0_1) ++ (⟨#[32]⟩ : Zb)) ++ t340).size + 1 ≤ 9223372036854775807 then (some (((((t339 ++ (⟨#[32]⟩ : Zb)) ++ a0_1) ++ (⟨#[32]⟩ : Zb)) ++ t340) ++ (⟨#[10]⟩ : Zb))) else (none)) else (none))) else (none)) else (none)) else (none))))) = some r := h
 clear h
 replace H := Xx.mp H
 obtain ⟨t336, A20, H⟩ := H
 replace H : (if t336 = true then ((payrollref34_Word.f a0_0).bind fun t337 => (if t337.size + 1 ≤ 9223372036854775807 then ((payrollref1_Decimal.f k a0_2).bind fun t338 => (if (t337 ++ (⟨#[32]⟩ : Zb)).size + t338.size ≤ 9223372036854775807 then (if ((t337 ++ (⟨#[32]⟩ : Zb)) ++ t338).size + 1 ≤ 9223372036854775807 then (some (((t337 ++ (⟨#[32]⟩ : Zb)) ++ t338) ++ (⟨#[10]⟩ : Zb))) else (none)) else (none))) else (none))) else ((payrollref34_Word.f a0_0).bind fun t339 => (if t339.size + 1 ≤ 9223372036854775807 then (if (t339 ++ (⟨#[32]⟩ : Zb)).size + a0_1.size ≤ 9223372036854775807 then (if ((t339 ++ (⟨#[32]⟩ : Zb)) ++ a0_1).size + 1 ≤ 9223372036854775807 then ((payrollref1_Decimal.f k a0_2).bind fun t340 => (if (((t339 ++ (⟨#[32]⟩ : Zb)) ++ a0_1) ++ (⟨#[32]⟩ : Zb)).size + t340.size ≤ 9223372036854775807 then (if ((((t339 ++ (⟨#[32]⟩ : Zb)) ++ a0_1) ++ (⟨#[32]⟩ : Zb)) ++ t340).size + 1 ≤ 9223372036854775807 then (some (((((t339 ++ (⟨#[32]⟩ : Zb)) ++ a0_1) ++ (⟨#[32]⟩ : Zb)) ++ t340) ++ (⟨#[10]⟩ : Zb))) else (none)) else (none))) else (none)) else (none)) else (none)))) = some r := H
 have A2 := Qa A20
 clear A20
 by_cases c3 : t336 = true
 · subst c3
   have H1 : ((payrollref34_Word.f a0_0).bind fun t337 => (if t337.size + 1 ≤ 9223372036854775807 then ((payrollref1_Decimal.f k a0_2).bind fun t338 => (if (t337 ++ (⟨#[32]⟩ : Zb)).size + t338.size ≤ 9223372036854775807 then (if ((t337 ++ (⟨#[32]⟩ : Zb)) ++ t338).size + 1 ≤ 9223372036854775807 then (some (((t337 ++ (⟨#[32]⟩ : Zb)) ++ t338) ++ (⟨#[10]⟩ : Zb))) else (none)) else (none))) else (none))) = some r := by rw [if_pos rfl] at H; exact H
   clear H
   have H := H1
   clear H1
   replace H := Xx.mp H
   obtain ⟨t337, A40, H⟩ := H
   replace H : (if t337.size + 1 ≤ 9223372036854775807 then ((payrollref1_Decimal.f k a0_2).bind fun t338 => (if (t337 ++ (⟨#[32]⟩ : Zb)).size + t338.size ≤ 9223372036854775807 then (if ((t337 ++ (⟨#[32]⟩ : Zb)) ++ t338).size + 1 ≤ 9223372036854775807 then (some (((t337 ++ (⟨#[32]⟩ : Zb)) ++ t338) ++ (⟨#[10]⟩ : Zb))) else (none)) else (none))) else (none)) = some r := H
   have A4 := Qa A40
   clear A40
   by_cases c5 : t337.size + 1 ≤ 9223372036854775807
   · rw [if_pos c5] at H
     have c5b0 := eq_true c5
     have c5b1 : decide (t337.size + 1 ≤ 9223372036854775807) = true := Xq c5
     try have c5b2 : (9223372036854775807 < t337.size + 1) = False := eq_false (Nat.not_lt.2 c5)
     replace H := Xx.mp H
     obtain ⟨t338, A60, H⟩ := H
     replace H : (if (t337 ++ (⟨#[32]⟩ : Zb)).size + t338.size ≤ 9223372036854775807 then (if ((t337 ++ (⟨#[32]⟩ : Zb)) ++ t338).size + 1 ≤ 9223372036854775807 then (some (((t337 ++ (⟨#[32]⟩ : Zb)) ++ t338) ++ (⟨#[10]⟩ : Zb))) else (none)) else (none)) = some r := H
     have A6 := Qa A60
     clear A60
     by_cases c7 : (t337 ++ (⟨#[32]⟩ : Zb)).size + t338.size ≤ 9223372036854775807
     · rw [if_pos c7] at H
       have c7b0 := eq_true c7
       have c7b1 : decide ((t337 ++ (⟨#[32]⟩ : Zb)).size + t338.size ≤ 9223372036854775807) = true := Xq c7
       try have c7b2 : (9223372036854775807 < (t337 ++ (⟨#[32]⟩ : Zb)).size + t338.size) = False := eq_false (Nat.not_lt.2 c7)
       (try (have c7n0 : (t337.size + 1 + t338.size ≤ 9223372036854775807) = True := eq_true (by have h_ := c7; simp only [Xw] at h_; exact h_)))
       (try (have c7n1 : (9223372036854775807 < t337.size + 1 + t338.size) = False := eq_false (by have h_ := c7; simp only [Xw] at h_; exact Nat.not_lt.2 h_)))
       by_cases c8 : ((t337 ++ (⟨#[32]⟩ : Zb)) ++ t338).size + 1 ≤ 9223372036854775807
       · rw [if_pos c8] at H
         have c8b0 := eq_true c8
         have c8b1 : decide (((t337 ++ (⟨#[32]⟩ : Zb)) ++ t338).size + 1 ≤ 9223372036854775807) = true := Xq c8
         try have c8b2 : (9223372036854775807 < ((t337 ++ (⟨#[32]⟩ : Zb)) ++ t338).size + 1) = False := eq_false (Nat.not_lt.2 c8)
         (try (have c8n0 : (t337.size + 1 + t338.size + 1 ≤ 9223372036854775807) = True := eq_true (by have h_ := c8; simp only [Xw] at h_; exact h_)))
         (try (have c8n1 : (9223372036854775807 < t337.size + 1 + t338.size + 1) = False := eq_false (by have h_ := c8; simp only [Xw] at h_; exact Nat.not_lt.2 h_)))
         obtain rfl := Xz H
         go_enter Tryz.func40, Tryz.ntmps40
         try go_wp2_with (first | ((with_reducible refine Qx (N := 1) rfl ?_); refine Qv ?hg (N := 1) ?hd (cs := #[.int .i64 a0_0, .string a0_1, .int .i64 a0_2]) (t := 60) ?hr ?_; (case hd => rfl); (case hg => rfl); (case hr => first | (go_simp; done) | (go_simp; rfl)); intro gb335 hg w9 hbox hb; have n0_ := Qa (Qh (bl HB.out) hb); have n1_ := Qa (hbox); have n2_ := Qa ((by rw [hg]; exact (Qi (bl HB.out)) : w.heap.size ≤ gb335)); have n3_ := Qa ((by rw [hg]; exact (Qi (bl HB.out)) : w.heap.size ≤ gb335)); clear HB; have HB := n0_; have BK335 := n1_; have GW335 := n2_; have GE335 := n3_; clear n0_ n1_ n2_ n3_; clear hb hbox hg; have hcz10_0 := hz BK335.out 0; have hcz10_1 := hz BK335.out 1; have hcz10_2 := hz BK335.out 2; have hfz10_0 := Qm BK335.out 0; have hfz10_1 := Qm BK335.out 1; have hfz10_2 := Qm BK335.out 2) | ((with_reducible refine Qw (f := 60) rfl ?_); refine gc (some 5) Tryz.func60 #[.int .i64 a0_0] ?_; (with_reducible refine (payrollref32_Bare.calls a0_0 true _ A2.out).mono ?_); rintro e w' ⟨rfl, ⟨nd, rfl⟩⟩; refine ⟨_, rfl, ?_⟩))
         (try simp only [World.drewN_drewN]); (try (rw [drewN_self w9]; generalize hq_ : World.drewN w9 _ = w9; have n0_ : Aside0 (w9.heap[gb335]? = some (.cells #[.int .i64 a0_0, .string a0_1, .int .i64 a0_2] 60 (0,0))) := ⟨by rw [← hq_]; exact (nc BK335.out)⟩; have n1_ : Aside0 (Below w.heap.size w w9) := ⟨by rw [← hq_]; exact (bl HB.out)⟩; clear BK335 HB hq_; have BK335 := n0_; have HB := n1_; clear n0_ n1_))
         have n0_ := Qa (Qk BK335.out)
         have n1_ := Qa (Qf HB.out)
         clear BK335
         clear HB
         have BK335 := n0_
         have HB := n1_
         clear n0_ n1_
         refine start_ (n := 10) (S := fun w' => w'.cell? ⟨gb335,0, none⟩ = some (.int .i64 a0_0) ∧ w'.cell? ⟨gb335,1, none⟩ = some (.string a0_1) ∧ w'.cell? ⟨gb335,2, none⟩ = some (.int .i64 a0_2)) (ds := []) #[Zf,Zf,Zf,Zf,Zf,Zf,Zf,Zf,Zf,Zf] (by kernel_rfl) rfl rfl ⟨(Qn BK335.out 0).trans rfl, (Qn BK335.out 1).trans rfl, (Qn BK335.out 2).trans rfl⟩ (fun hHeld => ?_); refine with_tabW payrollref34_Text.tab2 payrollref34_Text.bits2 (fun HT_ HW_ => ?_)
         generalize w9.drew = w11 at BK335 HB hHeld ⊢
         refine pu (i := 0) (N := some 6) (v := ?_) (a' := ?_) #[Zt,Zf,Zf,Zf,Zf,Zf,Zf,Zf,Zf,Zf] HT_ ?_ ?_ ?_
         rotate_left
         · intro w'
           go_simp
           with_reducible rfl
         rotate_left
         · simp only [Act.put, Xt, Xu, Xv, i64_w, i32_w]
           rfl
         refine pu (i := 4) (N := some 10) (v := ?_) (a' := ?_) #[Zt,Zf,Zf,Zf,Zt,Zf,Zf,Zf,Zf,Zf] HT_ ?_ ?_ ?_
         rotate_left
         · intro w'
           go_simp
           with_reducible rfl
         rotate_left
         · simp only [Act.put, Xt, Xu, Xv, i64_w, i32_w]
           rfl
         refine take_ (i := 1) (N := some 7) (v := ?_) (a' := ?_) #[Zt,Zt,Zf,Zf,Zt,Zf,Zf,Zf,Zf,Zf] rfl rfl (take_ofW HT_.out HW_.out (by kernel_rfl)) (fun _ _ _ h => h) (Or.inl ⟨by rfl, ?_⟩) hHeld ?_ ?_
         rotate_left
         · rintro w' ⟨s0, s1, s2⟩
           go_simp
           with_reducible rfl
         rotate_left
         · simp only [Act.put, Xt, Xu, Xv, i64_w, i32_w]
           rfl
         refine take_ (i := 5) (N := some 11) (v := ?_) (a' := ?_) #[Zt,Zt,Zf,Zf,Zt,Zt,Zf,Zf,Zf,Zf] rfl rfl (take_ofW HT_.out HW_.out (by kernel_rfl)) (fun _ _ _ h => h) (Or.inl ⟨by rfl, ?_⟩) hHeld ?_ ?_
         rotate_left
         · rintro w' ⟨s0, s1, s2⟩
           go_simp
           with_reducible rfl
         rotate_left
         · simp only [Act.put, Xt, Xu, Xv, i64_w, i32_w]
           rfl
         refine one_ (i := 2) (N := some 8) #[Zt,Zt,Zt,Zf,Zt,Zt,Zf,Zf,Zf,Zf] rfl rfl (one_of HT_.out (by kernel_rfl)) (by decide) (fun K hK => ?_)
         refine goes_ Tryz.func64 (by kernel_rfl) rfl #[.int .i64 a0_0] (by rfl) rfl rfl (by (try simp only [List.map_toArray, List.map_cons, List.map_nil]); first | done | rfl | (simp only [List.length_drop, List.length_take]; rfl)) ?_
         with_reducible refine (payrollref34_Word.calls a0_0 t337 _ A4.out).mono ?_
         rintro e w12 ⟨rfl, hb⟩
         refine ⟨_, rfl, ?_⟩
         have n0_ := Qa (Qb (nc BK335.out) hb)
         have n1_ := Qa (Qh (bl HB.out) hb)
         clear BK335
         clear HB
         have BK335 := n0_
         have HB := n1_
         clear n0_ n1_
         (try clear hb)
         (try clear hb2)
         (try clear hk)
         (try clear hi)
         refine hK.out _ _ ⟨(Qn BK335.out 0).trans rfl, (Qn BK335.out 1).trans rfl, (Qn BK335.out 2).trans rfl⟩ (fun hHeld => ?_)
         clear hK K
         refine norm_ (a' := ?_) ?_ ?_
         rotate_left
         · show Act.put _ (some 8) _ = _
           simp only [Act.put, Xt, Xu, Xv, i64_w, i32_w]
           rfl
         refine pu (i := 3) (N := some 9) (v := ?_) (a' := ?_) #[Zt,Zt,Zt,Zt,Zt,Zt,Zf,Zf,Zf,Zf] HT_ ?_ ?_ ?_
         rotate_left
         · intro w'
           go_simp
           with_reducible rfl
         rotate_left
         · simp only [Act.put, Xt, Xu, Xv, i64_w, i32_w]
           rfl
         refine one_ (i := 6) (N := some 12) #[Zt,Zt,Zt,Zt,Zt,Zt,Zt,Zf,Zf,Zf] rfl rfl (one_of HT_.out (by kernel_rfl)) (by decide) (fun K hK => ?_)
         refine goes_ Tryz.func39 (by kernel_rfl) rfl #[.int .i64 a0_2] (by rfl) rfl rfl (by (try simp only [List.map_toArray, List.map_cons, List.map_nil]); first | done | rfl | (simp only [List.length_drop, List.length_take]; rfl)) ?_
         with_reducible refine (payrollref1_Decimal.calls k a0_2 t338 _ A6.out).mono ?_
         rintro e w13 ⟨rfl, hb⟩
         refine ⟨_, rfl, ?_⟩
         have n0_ := Qa (Qb (nc BK335.out) hb)
         have n1_ := Qa (Qh (bl HB.out) hb)
         clear BK335
         clear HB
         have BK335 := n0_
         have HB := n1_
         clear n0_ n1_
         (try clear hb)
         (try clear hb2)
         (try clear hk)
         (try clear hi)
         refine hK.out _ _ ⟨(Qn BK335.out 0).trans rfl, (Qn BK335.out 1).trans rfl, (Qn BK335.out 2).trans rfl⟩ (fun hHeld => ?_)
         clear hK K
         refine norm_ (a' := ?_) ?_ ?_
         rotate_left
         · show Act.put _ (some 12) _ = _
           simp only [Act.put, Xt, Xu, Xv, i64_w, i32_w]
           rfl
         refine pu (i := 7) (N := some 13) (v := ?_) (a' := ?_) #[Zt,Zt,Zt,Zt,Zt,Zt,Zt,Zt,Zf,Zf] HT_ ?_ ?_ ?_
         rotate_left
         · intro w'
           go_simp
           with_reducible rfl
         rotate_left
         · simp only [Act.put, Xt, Xu, Xv, i64_w, i32_w]
           rfl
         refine pu (i := 8) (N := some 14) (v := ?_) (a' := ?_) #[Zt,Zt,Zt,Zt,Zt,Zt,Zt,Zt,Zt,Zf] HT_ ?_ ?_ ?_
         rotate_left
         · intro w'
           go_simp
           with_reducible rfl
         rotate_left
         · simp only [Act.put, Xt, Xu, Xv, i64_w, i32_w]
           rfl
         refine pu (i := 9) (N := some 2) (v := ?_) (a' := ?_) #[Zt,Zt,Zt,Zt,Zt,Zt,Zt,Zt,Zt,Zt] HT_ ?_ ?_ ?_
         rotate_left
         · intro w'
           go_simp
           with_reducible rfl
         rotate_left
         · simp only [Act.put, Xt, Xu, Xv, i64_w, i32_w]
           rfl
         refine done_ (done_of HT_.out (by kernel_rfl)) ?_
         try go_wp2
         go_ret
         exact ⟨by first | rfl | (simp [errW_none, errW_some] <;> rfl) | (simp [*, errW_none, errW_some] <;> rfl), bl HB.out⟩
       rw [if_neg c8] at H
       exact absurd H (by simp)
     rw [if_neg c7] at H
     exact absurd H (by simp)
   rw [if_neg c5] at H
   exact absurd H (by simp)
 replace c3 := Bool.eq_false_iff.mpr c3
 subst c3
 have H1 : ((payrollref34_Word.f a0_0).bind fun t339 => (if t339.size + 1 ≤ 9223372036854775807 then (if (t339 ++ (⟨#[32]⟩ : Zb)).size + a0_1.size ≤ 9223372036854775807 then (if ((t339 ++ (⟨#[32]⟩ : Zb)) ++ a0_1).size + 1 ≤ 9223372036854775807 then ((payrollref1_Decimal.f k a0_2).bind fun t340 => (if (((t339 ++ (⟨#[32]⟩ : Zb)) ++ a0_1) ++ (⟨#[32]⟩ : Zb)).size + t340.size ≤ 9223372036854775807 then (if ((((t339 ++ (⟨#[32]⟩ : Zb)) ++ a0_1) ++ (⟨#[32]⟩ : Zb)) ++ t340).size + 1 ≤ 9223372036854775807 then (some (((((t339 ++ (⟨#[32]⟩ : Zb)) ++ a0_1) ++ (⟨#[32]⟩ : Zb)) ++ t340) ++ (⟨#[10]⟩ : Zb))) else (none)) else (none))) else (none)) else (none)) else (none))) = some r := by rw [if_neg (show ¬ (false = true) by decide)] at H; exact H
 clear H
 have H := H1
 clear H1
 replace H := Xx.mp H
 obtain ⟨t339, A140, H⟩ := H
 replace H : (if t339.size + 1 ≤ 9223372036854775807 then (if (t339 ++ (⟨#[32]⟩ : Zb)).size + a0_1.size ≤ 9223372036854775807 then (if ((t339 ++ (⟨#[32]⟩ : Zb)) ++ a0_1).size + 1 ≤ 9223372036854775807 then ((payrollref1_Decimal.f k a0_2).bind fun t340 => (if (((t339 ++ (⟨#[32]⟩ : Zb)) ++ a0_1) ++ (⟨#[32]⟩ : Zb)).size + t340.size ≤ 9223372036854775807 then (if ((((t339 ++ (⟨#[32]⟩ : Zb)) ++ a0_1) ++ (⟨#[32]⟩ : Zb)) ++ t340).size + 1 ≤ 9223372036854775807 then (some (((((t339 ++ (⟨#[32]⟩ : Zb)) ++ a0_1) ++ (⟨#[32]⟩ : Zb)) ++ t340) ++ (⟨#[10]⟩ : Zb))) else (none)) else (none))) else (none)) else (none)) else (none)) = some r := H
 have A14 := Qa A140
 clear A140
 by_cases c15 : t339.size + 1 ≤ 9223372036854775807
 · rw [if_pos c15] at H
   have c15b0 := eq_true c15
   have c15b1 : decide (t339.size + 1 ≤ 9223372036854775807) = true := Xq c15
   try have c15b2 : (9223372036854775807 < t339.size + 1) = False := eq_false (Nat.not_lt.2 c15)
   by_cases c16 : (t339 ++ (⟨#[32]⟩ : Zb)).size + a0_1.size ≤ 9223372036854775807
   · rw [if_pos c16] at H
     have c16b0 := eq_true c16
     have c16b1 : decide ((t339 ++ (⟨#[32]⟩ : Zb)).size + a0_1.size ≤ 9223372036854775807) = true := Xq c16
     try have c16b2 : (9223372036854775807 < (t339 ++ (⟨#[32]⟩ : Zb)).size + a0_1.size) = False := eq_false (Nat.not_lt.2 c16)
     (try (have c16n0 : (t339.size + 1 + a0_1.size ≤ 9223372036854775807) = True := eq_true (by have h_ := c16; simp only [Xw] at h_; exact h_)))
     (try (have c16n1 : (9223372036854775807 < t339.size + 1 + a0_1.size) = False := eq_false (by have h_ := c16; simp only [Xw] at h_; exact Nat.not_lt.2 h_)))
     by_cases c17 : ((t339 ++ (⟨#[32]⟩ : Zb)) ++ a0_1).size + 1 ≤ 9223372036854775807
     · rw [if_pos c17] at H
       have c17b0 := eq_true c17
       have c17b1 : decide (((t339 ++ (⟨#[32]⟩ : Zb)) ++ a0_1).size + 1 ≤ 9223372036854775807) = true := Xq c17
       try have c17b2 : (9223372036854775807 < ((t339 ++ (⟨#[32]⟩ : Zb)) ++ a0_1).size + 1) = False := eq_false (Nat.not_lt.2 c17)
       (try (have c17n0 : (t339.size + 1 + a0_1.size + 1 ≤ 9223372036854775807) = True := eq_true (by have h_ := c17; simp only [Xw] at h_; exact h_)))
       (try (have c17n1 : (9223372036854775807 < t339.size + 1 + a0_1.size + 1) = False := eq_false (by have h_ := c17; simp only [Xw] at h_; exact Nat.not_lt.2 h_)))
       replace H := Xx.mp H
       obtain ⟨t340, A180, H⟩ := H
       replace H : (if (((t339 ++ (⟨#[32]⟩ : Zb)) ++ a0_1) ++ (⟨#[32]⟩ : Zb)).size + t340.size ≤ 9223372036854775807 then (if ((((t339 ++ (⟨#[32]⟩ : Zb)) ++ a0_1) ++ (⟨#[32]⟩ : Zb)) ++ t340).size + 1 ≤ 9223372036854775807 then (some (((((t339 ++ (⟨#[32]⟩ : Zb)) ++ a0_1) ++ (⟨#[32]⟩ : Zb)) ++ t340) ++ (⟨#[10]⟩ : Zb))) else (none)) else (none)) = some r := H
       have A18 := Qa A180
       clear A180
       by_cases c19 : (((t339 ++ (⟨#[32]⟩ : Zb)) ++ a0_1) ++ (⟨#[32]⟩ : Zb)).size + t340.size ≤ 9223372036854775807
       · rw [if_pos c19] at H
         have c19b0 := eq_true c19
         have c19b1 : decide ((((t339 ++ (⟨#[32]⟩ : Zb)) ++ a0_1) ++ (⟨#[32]⟩ : Zb)).size + t340.size ≤ 9223372036854775807) = true := Xq c19
         try have c19b2 : (9223372036854775807 < (((t339 ++ (⟨#[32]⟩ : Zb)) ++ a0_1) ++ (⟨#[32]⟩ : Zb)).size + t340.size) = False := eq_false (Nat.not_lt.2 c19)
         (try (have c19n0 : (t339.size + 1 + a0_1.size + 1 + t340.size ≤ 9223372036854775807) = True := eq_true (by have h_ := c19; simp only [Xw] at h_; exact h_)))
         (try (have c19n1 : (9223372036854775807 < t339.size + 1 + a0_1.size + 1 + t340.size) = False := eq_false (by have h_ := c19; simp only [Xw] at h_; exact Nat.not_lt.2 h_)))
         by_cases c20 : ((((t339 ++ (⟨#[32]⟩ : Zb)) ++ a0_1) ++ (⟨#[32]⟩ : Zb)) ++ t340).size + 1 ≤ 9223372036854775807
         · rw [if_pos c20] at H
           have c20b0 := eq_true c20
           have c20b1 : decide (((((t339 ++ (⟨#[32]⟩ : Zb)) ++ a0_1) ++ (⟨#[32]⟩ : Zb)) ++ t340).size + 1 ≤ 9223372036854775807) = true := Xq c20
           try have c20b2 : (9223372036854775807 < ((((t339 ++ (⟨#[32]⟩ : Zb)) ++ a0_1) ++ (⟨#[32]⟩ : Zb)) ++ t340).size + 1) = False := eq_false (Nat.not_lt.2 c20)
           (try (have c20n0 : (t339.size + 1 + a0_1.size + 1 + t340.size + 1 ≤ 9223372036854775807) = True := eq_true (by have h_ := c20; simp only [Xw] at h_; exact h_)))
           (try (have c20n1 : (9223372036854775807 < t339.size + 1 + a0_1.size + 1 + t340.size + 1) = False := eq_false (by have h_ := c20; simp only [Xw] at h_; exact Nat.not_lt.2 h_)))
           obtain rfl := Xz H
           go_enter Tryz.func40, Tryz.ntmps40
           try go_wp2_with (first | ((with_reducible refine Qx (N := 1) rfl ?_); refine Qv ?hg (N := 1) ?hd (cs := #[.int .i64 a0_0, .string a0_1, .int .i64 a0_2]) (t := 60) ?hr ?_; (case hd => rfl); (case hg => rfl); (case hr => first | (go_simp; done) | (go_simp; rfl)); intro gb335 hg w21 hbox hb; have n0_ := Qa (Qh (bl HB.out) hb); have n1_ := Qa (hbox); have n2_ := Qa ((by rw [hg]; exact (Qi (bl HB.out)) : w.heap.size ≤ gb335)); have n3_ := Qa ((by rw [hg]; exact (Qi (bl HB.out)) : w.heap.size ≤ gb335)); clear HB; have HB := n0_; have BK335 := n1_; have GW335 := n2_; have GE335 := n3_; clear n0_ n1_ n2_ n3_; clear hb hbox hg; have hcz22_0 := hz BK335.out 0; have hcz22_1 := hz BK335.out 1; have hcz22_2 := hz BK335.out 2; have hfz22_0 := Qm BK335.out 0; have hfz22_1 := Qm BK335.out 1; have hfz22_2 := Qm BK335.out 2) | ((with_reducible refine Qw (f := 60) rfl ?_); refine gc (some 5) Tryz.func60 #[.int .i64 a0_0] ?_; (with_reducible refine (payrollref32_Bare.calls a0_0 false _ A2.out).mono ?_); rintro e w' ⟨rfl, ⟨nd, rfl⟩⟩; refine ⟨_, rfl, ?_⟩))
           (try simp only [World.drewN_drewN]); (try (rw [drewN_self w21]; generalize hq_ : World.drewN w21 _ = w21; have n0_ : Aside0 (w21.heap[gb335]? = some (.cells #[.int .i64 a0_0, .string a0_1, .int .i64 a0_2] 60 (0,0))) := ⟨by rw [← hq_]; exact (nc BK335.out)⟩; have n1_ : Aside0 (Below w.heap.size w w21) := ⟨by rw [← hq_]; exact (bl HB.out)⟩; clear BK335 HB hq_; have BK335 := n0_; have HB := n1_; clear n0_ n1_))
           have n0_ := Qa (Qk BK335.out)
           have n1_ := Qa (Qf HB.out)
           clear BK335
           clear HB
           have BK335 := n0_
           have HB := n1_
           clear n0_ n1_
           refine start_ (n := 14) (S := fun w' => w'.cell? ⟨gb335,0, none⟩ = some (.int .i64 a0_0) ∧ w'.cell? ⟨gb335,1, none⟩ = some (.string a0_1) ∧ w'.cell? ⟨gb335,2, none⟩ = some (.int .i64 a0_2)) (ds := []) #[Zf,Zf,Zf,Zf,Zf,Zf,Zf,Zf,Zf,Zf,Zf,Zf,Zf,Zf] (by kernel_rfl) rfl rfl ⟨(Qn BK335.out 0).trans rfl, (Qn BK335.out 1).trans rfl, (Qn BK335.out 2).trans rfl⟩ (fun hHeld => ?_); refine with_tabW payrollref34_Text.tab3 payrollref34_Text.bits3 (fun HT_ HW_ => ?_)
           generalize w21.drew = w23 at BK335 HB hHeld ⊢
           refine pu (i := 0) (N := some 15) (v := ?_) (a' := ?_) #[Zt,Zf,Zf,Zf,Zf,Zf,Zf,Zf,Zf,Zf,Zf,Zf,Zf,Zf] HT_ ?_ ?_ ?_
           rotate_left
           · intro w'
             go_simp
             with_reducible rfl
           rotate_left
           · simp only [Act.put, Xt, Xu, Xv, i64_w, i32_w]
             rfl
           refine pu (i := 4) (N := some 19) (v := ?_) (a' := ?_) #[Zt,Zf,Zf,Zf,Zt,Zf,Zf,Zf,Zf,Zf,Zf,Zf,Zf,Zf] HT_ ?_ ?_ ?_
           rotate_left
           · intro w'
             go_simp
             with_reducible rfl
           rotate_left
           · simp only [Act.put, Xt, Xu, Xv, i64_w, i32_w]
             rfl
           refine pu (i := 8) (N := some 23) (v := ?_) (a' := ?_) #[Zt,Zf,Zf,Zf,Zt,Zf,Zf,Zf,Zt,Zf,Zf,Zf,Zf,Zf] HT_ ?_ ?_ ?_
           rotate_left
           · intro w'
             go_simp
             with_reducible rfl
           rotate_left
           · simp only [Act.put, Xt, Xu, Xv, i64_w, i32_w]
             rfl
           refine take_ (i := 1) (N := some 16) (v := ?_) (a' := ?_) #[Zt,Zt,Zf,Zf,Zt,Zf,Zf,Zf,Zt,Zf,Zf,Zf,Zf,Zf] rfl rfl (take_ofW HT_.out HW_.out (by kernel_rfl)) (fun _ _ _ h => h) (Or.inl ⟨by rfl, ?_⟩) hHeld ?_ ?_
           rotate_left
           · rintro w' ⟨s0, s1, s2⟩
             go_simp
             with_reducible rfl
           rotate_left
           · simp only [Act.put, Xt, Xu, Xv, i64_w, i32_w]
             rfl
           refine take_ (i := 5) (N := some 20) (v := ?_) (a' := ?_) #[Zt,Zt,Zf,Zf,Zt,Zt,Zf,Zf,Zt,Zf,Zf,Zf,Zf,Zf] rfl rfl (take_ofW HT_.out HW_.out (by kernel_rfl)) (fun _ _ _ h => h) (Or.inl ⟨by rfl, ?_⟩) hHeld ?_ ?_
           rotate_left
           · rintro w' ⟨s0, s1, s2⟩
             go_simp
             with_reducible rfl
           rotate_left
           · simp only [Act.put, Xt, Xu, Xv, i64_w, i32_w]
             rfl
           refine take_ (i := 9) (N := some 24) (v := ?_) (a' := ?_) #[Zt,Zt,Zf,Zf,Zt,Zt,Zf,Zf,Zt,Zt,Zf,Zf,Zf,Zf] rfl rfl (take_ofW HT_.out HW_.out (by kernel_rfl)) (fun _ _ _ h => h) (Or.inl ⟨by rfl, ?_⟩) hHeld ?_ ?_
           rotate_left
           · rintro w' ⟨s0, s1, s2⟩
             go_simp
             with_reducible rfl
           rotate_left
           · simp only [Act.put, Xt, Xu, Xv, i64_w, i32_w]
             rfl
           refine one_ (i := 2) (N := some 17) #[Zt,Zt,Zt,Zf,Zt,Zt,Zf,Zf,Zt,Zt,Zf,Zf,Zf,Zf] rfl rfl (one_of HT_.out (by kernel_rfl)) (by decide) (fun K hK => ?_)
           refine goes_ Tryz.func64 (by kernel_rfl) rfl #[.int .i64 a0_0] (by rfl) rfl rfl (by (try simp only [List.map_toArray, List.map_cons, List.map_nil]); first | done | rfl | (simp only [List.length_drop, List.length_take]; rfl)) ?_
           with_reducible refine (payrollref34_Word.calls a0_0 t339 _ A14.out).mono ?_
           rintro e w24 ⟨rfl, hb⟩
           refine ⟨_, rfl, ?_⟩
           have n0_ := Qa (Qb (nc BK335.out) hb)
           have n1_ := Qa (Qh (bl HB.out) hb)
           clear BK335
           clear HB
           have BK335 := n0_
           have HB := n1_
           clear n0_ n1_
           (try clear hb)
           (try clear hb2)
           (try clear hk)
           (try clear hi)
           refine hK.out _ _ ⟨(Qn BK335.out 0).trans rfl, (Qn BK335.out 1).trans rfl, (Qn BK335.out 2).trans rfl⟩ (fun hHeld => ?_)
           clear hK K
           refine norm_ (a' := ?_) ?_ ?_
           rotate_left
           · show Act.put _ (some 17) _ = _
             simp only [Act.put, Xt, Xu, Xv, i64_w, i32_w]
             rfl
           refine pu (i := 3) (N := some 18) (v := ?_) (a' := ?_) #[Zt,Zt,Zt,Zt,Zt,Zt,Zf,Zf,Zt,Zt,Zf,Zf,Zf,Zf] HT_ ?_ ?_ ?_
           rotate_left
           · intro w'
             go_simp
             with_reducible rfl
           rotate_left
           · simp only [Act.put, Xt, Xu, Xv, i64_w, i32_w]
             rfl
           refine pu (i := 6) (N := some 21) (v := ?_) (a' := ?_) #[Zt,Zt,Zt,Zt,Zt,Zt,Zt,Zf,Zt,Zt,Zf,Zf,Zf,Zf] HT_ ?_ ?_ ?_
           rotate_left
           · intro w'
             go_simp
             with_reducible rfl
           rotate_left
           · simp only [Act.put, Xt, Xu, Xv, i64_w, i32_w]
             rfl
           refine pu (i := 7) (N := some 22) (v := ?_) (a' := ?_) #[Zt,Zt,Zt,Zt,Zt,Zt,Zt,Zt,Zt,Zt,Zf,Zf,Zf,Zf] HT_ ?_ ?_ ?_
           rotate_left
           · intro w'
             go_simp
             with_reducible rfl
           rotate_left
           · simp only [Act.put, Xt, Xu, Xv, i64_w, i32_w]
             rfl
           refine one_ (i := 10) (N := some 25) #[Zt,Zt,Zt,Zt,Zt,Zt,Zt,Zt,Zt,Zt,Zt,Zf,Zf,Zf] rfl rfl (one_of HT_.out (by kernel_rfl)) (by decide) (fun K hK => ?_)
           refine goes_ Tryz.func39 (by kernel_rfl) rfl #[.int .i64 a0_2] (by rfl) rfl rfl (by (try simp only [List.map_toArray, List.map_cons, List.map_nil]); first | done | rfl | (simp only [List.length_drop, List.length_take]; rfl)) ?_
           with_reducible refine (payrollref1_Decimal.calls k a0_2 t340 _ A18.out).mono ?_
           rintro e w25 ⟨rfl, hb⟩
           refine ⟨_, rfl, ?_⟩
           have n0_ := Qa (Qb (nc BK335.out) hb)
           have n1_ := Qa (Qh (bl HB.out) hb)
           clear BK335
           clear HB
           have BK335 := n0_
           have HB := n1_
           clear n0_ n1_
           (try clear hb)
           (try clear hb2)
           (try clear hk)
           (try clear hi)
           refine hK.out _ _ ⟨(Qn BK335.out 0).trans rfl, (Qn BK335.out 1).trans rfl, (Qn BK335.out 2).trans rfl⟩ (fun hHeld => ?_)
           clear hK K
           refine norm_ (a' := ?_) ?_ ?_
           rotate_left
           · show Act.put _ (some 25) _ = _
             simp only [Act.put, Xt, Xu, Xv, i64_w, i32_w]
             rfl
           refine pu (i := 11) (N := some 26) (v := ?_) (a' := ?_) #[Zt,Zt,Zt,Zt,Zt,Zt,Zt,Zt,Zt,Zt,Zt,Zt,Zf,Zf] HT_ ?_ ?_ ?_
           rotate_left
           · intro w'
             go_simp
             with_reducible rfl
           rotate_left
           · simp only [Act.put, Xt, Xu, Xv, i64_w, i32_w]
             rfl
           refine pu (i := 12) (N := some 27) (v := ?_) (a' := ?_) #[Zt,Zt,Zt,Zt,Zt,Zt,Zt,Zt,Zt,Zt,Zt,Zt,Zt,Zf] HT_ ?_ ?_ ?_
           rotate_left
           · intro w'
             go_simp
             with_reducible rfl
           rotate_left
           · simp only [Act.put, Xt, Xu, Xv, i64_w, i32_w]
             rfl
           refine pu (i := 13) (N := some 2) (v := ?_) (a' := ?_) #[Zt,Zt,Zt,Zt,Zt,Zt,Zt,Zt,Zt,Zt,Zt,Zt,Zt,Zt] HT_ ?_ ?_ ?_
           rotate_left
           · intro w'
             go_simp
             with_reducible rfl
           rotate_left
           · simp only [Act.put, Xt, Xu, Xv, i64_w, i32_w]
             rfl
           refine done_ (done_of HT_.out (by kernel_rfl)) ?_
           try go_wp2
           go_ret
           exact ⟨by first | rfl | (simp [errW_none, errW_some] <;> rfl) | (simp [*, errW_none, errW_some] <;> rfl), bl HB.out⟩
         rw [if_neg c20] at H
         exact absurd H (by simp)
       rw [if_neg c19] at H
       exact absurd H (by simp)
     rw [if_neg c17] at H
     exact absurd H (by simp)
   rw [if_neg c16] at H
   exact absurd H (by simp)
 rw [if_neg c15] at H
 exact absurd H (by simp)
end Go.Proofs.YtejgfblphgcgkaaGreatDoor.P
