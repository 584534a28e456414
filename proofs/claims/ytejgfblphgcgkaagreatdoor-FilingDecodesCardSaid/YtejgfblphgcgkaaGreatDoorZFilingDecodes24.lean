/- Texts for the law FilingDecodes (kept out of a larger one). -/
import Derived.Test.YtejgfblphgcgkaaGreatDoorZFilingDecodes16
import Derived.Test.YtejgfblphgcgkaaGreatDoorZFilingDecodes17
import Derived.Test.YtejgfblphgcgkaaGreatDoorZFilingDecodes21
import Derived.Test.YtejgfblphgcgkaaGreatDoorZFilingDecodes23
import Derived.WalkKit
import Derived.Lib.Strings
namespace Go.Proofs.YtejgfblphgcgkaaGreatDoor.P
open Go.RowKit Go.Proofs.YtejgfblphgcgkaaGreatDoorW.PrintWords Go.Proofs.YtejgfblphgcgkaaGreatDoorW.PrintLast Go.Proofs.YtejgfblphgcgkaaGreatDoorW.PrintMore
attribute [local go_sem] max2_int min2_int max_two min_two max_three min_three max_four min_four   -- for this text's walks alone
set_option linter.unusedVariables false
set_option maxHeartbeats 8000000
set_option maxRecDepth 100000
set_option linter.unusedSimpArgs false
def payrollref38_Same.f (k : Nat) (a0_0 : Int) (a0_1 : Int) (l0_2 : List (S60)) (a1_0 : Int) (a1_1 : Int) (l1_2 : List (S60)) : Option (Bool) := if a0_0 = a1_0 then (if a0_1 = a1_1 then ((payrollref32_Same.f k l0_2 l1_2).bind fun t455 => (some t455)) else (some false)) else (some false)
theorem payrollref38_Same.calls (k : Nat) (a0_0 : Int) (a0_1 : Int) (A0_2 : Option Addr) (c0_2 : Nat) (l0_2 : List (S60)) (a1_0 : Int) (a1_1 : Int) (A1_2 : Option Addr) (c1_2 : Nat) (l1_2 : List (S60)) (r : Bool) (w : World) (hr0_2 : Kd.C k60 w A0_2 l0_2.length l0_2) (hc0_2 : l0_2.length ≤ c0_2) (hr1_2 : Kd.C k60 w A1_2 l1_2.length l1_2) (hc1_2 : l1_2.length ≤ c1_2) (h : payrollref38_Same.f k a0_0 a0_1 l0_2 a1_0 a1_1 l1_2 = some r) :
 Calls Tryz.prog 21 #[.agg #[.int .i64 a0_0, .int .i64 a0_1, .slice A0_2 l0_2.length c0_2], .agg #[.int .i64 a1_0, .int .i64 a1_1, .slice A1_2 l1_2.length c1_2]] w fun e w' => e = .returned (.bool r) ∧ Below w.heap.size w w' := by
 have hu25 := Tryz.underlying25
 have HR0_2 := Qa hr0_2
 have HC0_2 := Qa hc0_2
 clear hr0_2 hc0_2
 have HR1_2 := Qa hr1_2
 have HC1_2 := Qa hc1_2
 clear hr1_2 hc1_2
 have HB := Qa (Below.refl w.heap.size w)
 have H : (if a0_0 = a1_0 then (if a0_1 = a1_1 then ((payrollref32_Same.f k l0_2 l1_2).bind fun t455 => (some t455)) else (some false)) else (some false)) = some r := h
 clear h
 by_cases c3 : a0_0 = a1_0
 · rw [if_pos c3] at H
   have c3b0 : (a0_0 == a1_0) = true := Yb.mpr c3
   have c3b1 : (a0_0 != a1_0) = false := bne_eq_false_iff_eq.mpr c3
   clear c3
   by_cases c4 : a0_1 = a1_1
   · rw [if_pos c4] at H
     have c4b0 : (a0_1 == a1_1) = true := Yb.mpr c4
     have c4b1 : (a0_1 != a1_1) = false := bne_eq_false_iff_eq.mpr c4
     clear c4
     replace H := Xx.mp H
     obtain ⟨t455, A50, H⟩ := H
     replace H : (some t455) = some r := H
     have A5 := Qa A50
     clear A50
     obtain rfl := Xz H
     go_enter Tryz.func21, Tryz.ntmps21
     go_wp2_with (first | ((with_reducible refine Qx (N := 2) rfl ?_); refine Qv ?hg (N := 2) ?hd (cs := #[.int .i64 a0_0, .int .i64 a0_1, .slice A0_2 l0_2.length c0_2]) (t := 25) ?hr ?_; (case hd => rfl); (case hg => rfl); (case hr => first | (go_simp; done) | (go_simp; rfl)); intro gb453 hg w6 hbox hb; have n0_ := Qa (Qh (bl HB.out) hb); have n1_ := Qa (hbox); have n2_ := Qa ((by rw [hg]; exact (Qi (bl HB.out)) : w.heap.size ≤ gb453)); have n3_ := Qa ((by rw [hg]; exact (Qi (bl HB.out)) : w.heap.size ≤ gb453)); clear HB; have HB := n0_; have BK453 := n1_; have GW453 := n2_; have GE453 := n3_; clear n0_ n1_ n2_ n3_; clear hb hbox hg) | ((with_reducible refine Qx (N := 3) rfl ?_); refine Qv ?hg (N := 3) ?hd (cs := #[.int .i64 a1_0, .int .i64 a1_1, .slice A1_2 l1_2.length c1_2]) (t := 25) ?hr ?_; (case hd => rfl); (case hg => rfl); (case hr => first | (go_simp; done) | (go_simp; rfl)); intro gb454 hg w7 hbox hb; have n0_ := Qa (Qb (nc BK453.out) hb); have n1_ := Qa (Qh (bl HB.out) hb); have n2_ := Qa (hbox); have n3_ := Qa ((by rw [hg]; exact (Qi (bl HB.out)) : w.heap.size ≤ gb454)); have n4_ := Qa ((by rw [hg]; exact (Qi (bl HB.out)) : w.heap.size ≤ gb454)); have n5_ := Qa ((by rw [hg]; exact Nat.ne_of_lt (blk_lt (nc BK453.out)) : gb453 ≠ gb454)); have n6_ := Qa ((by rw [hg]; exact Nat.ne_of_gt (blk_lt (nc BK453.out)) : gb454 ≠ gb453)); clear BK453 HB; have BK453 := n0_; have HB := n1_; have BK454 := n2_; have GW454 := n3_; have GE454 := n4_; have NB453_454 := n5_; have NB454_453 := n6_; clear n0_ n1_ n2_ n3_ n4_ n5_ n6_; clear hb hbox hg; have hnb8 := NB453_454.out; have hnc8 := NB454_453.out; have hcz9_0 := hz BK453.out 0; have hcz9_1 := hz BK453.out 1; have hcz9_2 := hz BK453.out 2; have hfz9_0 := Qm BK453.out 0; have hfz9_1 := Qm BK453.out 1; have hfz9_2 := Qm BK453.out 2; have hcz10_0 := hz BK454.out 0; have hcz10_1 := hz BK454.out 1; have hcz10_2 := hz BK454.out 2; have hfz10_0 := Qm BK454.out 0; have hfz10_1 := Qm BK454.out 1; have hfz10_2 := Qm BK454.out 2) | (go_at_call 51; (with_reducible refine (payrollref32_Same.calls k _ _ l0_2 _ _ l1_2 t455 _ ?side1 ?side2 ?side3 ?side4 A5.out).mono ?_); (case side1 => repeat (first | exact (Kd.C_below HR0_2.out HB.out) | (with_reducible refine Kd.C_alloc ?_ _) | (with_reducible refine Kd.C_drewN ?_ _) | (with_reducible refine Kd.C_drew ?_))); (case side2 => exact HC0_2.out); (case side3 => repeat (first | exact (Kd.C_below HR1_2.out HB.out) | (with_reducible refine Kd.C_alloc ?_ _) | (with_reducible refine Kd.C_drewN ?_ _) | (with_reducible refine Kd.C_drew ?_))); (case side4 => exact HC1_2.out); rintro e w' ⟨rfl, ⟨nd, rfl⟩⟩))
     go_ret
     exact ⟨by first | rfl | (simp [errW_none, errW_some] <;> rfl) | (simp [*, errW_none, errW_some] <;> rfl), bl HB.out⟩
   rw [if_neg c4] at H
   have c4b0 : (a0_1 == a1_1) = false := Ya.mpr c4
   have c4b1 : (a0_1 != a1_1) = true := Yc.mpr c4
   obtain rfl := Xz H
   go_enter Tryz.func21, Tryz.ntmps21
   go_wp2_with (first | ((with_reducible refine Qx (N := 2) rfl ?_); refine Qv ?hg (N := 2) ?hd (cs := #[.int .i64 a0_0, .int .i64 a0_1, .slice A0_2 l0_2.length c0_2]) (t := 25) ?hr ?_; (case hd => rfl); (case hg => rfl); (case hr => first | (go_simp; done) | (go_simp; rfl)); intro gb453 hg w11 hbox hb; have n0_ := Qa (Qh (bl HB.out) hb); have n1_ := Qa (hbox); have n2_ := Qa ((by rw [hg]; exact (Qi (bl HB.out)) : w.heap.size ≤ gb453)); have n3_ := Qa ((by rw [hg]; exact (Qi (bl HB.out)) : w.heap.size ≤ gb453)); clear HB; have HB := n0_; have BK453 := n1_; have GW453 := n2_; have GE453 := n3_; clear n0_ n1_ n2_ n3_; clear hb hbox hg) | ((with_reducible refine Qx (N := 3) rfl ?_); refine Qv ?hg (N := 3) ?hd (cs := #[.int .i64 a1_0, .int .i64 a1_1, .slice A1_2 l1_2.length c1_2]) (t := 25) ?hr ?_; (case hd => rfl); (case hg => rfl); (case hr => first | (go_simp; done) | (go_simp; rfl)); intro gb454 hg w12 hbox hb; have n0_ := Qa (Qb (nc BK453.out) hb); have n1_ := Qa (Qh (bl HB.out) hb); have n2_ := Qa (hbox); have n3_ := Qa ((by rw [hg]; exact (Qi (bl HB.out)) : w.heap.size ≤ gb454)); have n4_ := Qa ((by rw [hg]; exact (Qi (bl HB.out)) : w.heap.size ≤ gb454)); have n5_ := Qa ((by rw [hg]; exact Nat.ne_of_lt (blk_lt (nc BK453.out)) : gb453 ≠ gb454)); have n6_ := Qa ((by rw [hg]; exact Nat.ne_of_gt (blk_lt (nc BK453.out)) : gb454 ≠ gb453)); clear BK453 HB; have BK453 := n0_; have HB := n1_; have BK454 := n2_; have GW454 := n3_; have GE454 := n4_; have NB453_454 := n5_; have NB454_453 := n6_; clear n0_ n1_ n2_ n3_ n4_ n5_ n6_; clear hb hbox hg; have hnb13 := NB453_454.out; have hnc13 := NB454_453.out; have hcz14_0 := hz BK453.out 0; have hcz14_1 := hz BK453.out 1; have hcz14_2 := hz BK453.out 2; have hfz14_0 := Qm BK453.out 0; have hfz14_1 := Qm BK453.out 1; have hfz14_2 := Qm BK453.out 2; have hcz15_0 := hz BK454.out 0; have hcz15_1 := hz BK454.out 1; have hcz15_2 := hz BK454.out 2; have hfz15_0 := Qm BK454.out 0; have hfz15_1 := Qm BK454.out 1; have hfz15_2 := Qm BK454.out 2))
   go_ret
   exact ⟨by first | rfl | (simp [errW_none, errW_some] <;> rfl) | (simp [*, errW_none, errW_some] <;> rfl), bl HB.out⟩
 rw [if_neg c3] at H
 have c3b0 : (a0_0 == a1_0) = false := Ya.mpr c3
 have c3b1 : (a0_0 != a1_0) = true := Yc.mpr c3
 obtain rfl := Xz H
 go_enter Tryz.func21, Tryz.ntmps21
 go_wp2_with (first | ((with_reducible refine Qx (N := 2) rfl ?_); refine Qv ?hg (N := 2) ?hd (cs := #[.int .i64 a0_0, .int .i64 a0_1, .slice A0_2 l0_2.length c0_2]) (t := 25) ?hr ?_; (case hd => rfl); (case hg => rfl); (case hr => first | (go_simp; done) | (go_simp; rfl)); intro gb453 hg w16 hbox hb; have n0_ := Qa (Qh (bl HB.out) hb); have n1_ := Qa (hbox); have n2_ := Qa ((by rw [hg]; exact (Qi (bl HB.out)) : w.heap.size ≤ gb453)); have n3_ := Qa ((by rw [hg]; exact (Qi (bl HB.out)) : w.heap.size ≤ gb453)); clear HB; have HB := n0_; have BK453 := n1_; have GW453 := n2_; have GE453 := n3_; clear n0_ n1_ n2_ n3_; clear hb hbox hg) | ((with_reducible refine Qx (N := 3) rfl ?_); refine Qv ?hg (N := 3) ?hd (cs := #[.int .i64 a1_0, .int .i64 a1_1, .slice A1_2 l1_2.length c1_2]) (t := 25) ?hr ?_; (case hd => rfl); (case hg => rfl); (case hr => first | (go_simp; done) | (go_simp; rfl)); intro gb454 hg w17 hbox hb; have n0_ := Qa (Qb (nc BK453.out) hb); have n1_ := Qa (Qh (bl HB.out) hb); have n2_ := Qa (hbox); have n3_ := Qa ((by rw [hg]; exact (Qi (bl HB.out)) : w.heap.size ≤ gb454)); have n4_ := Qa ((by rw [hg]; exact (Qi (bl HB.out)) : w.heap.size ≤ gb454)); have n5_ := Qa ((by rw [hg]; exact Nat.ne_of_lt (blk_lt (nc BK453.out)) : gb453 ≠ gb454)); have n6_ := Qa ((by rw [hg]; exact Nat.ne_of_gt (blk_lt (nc BK453.out)) : gb454 ≠ gb453)); clear BK453 HB; have BK453 := n0_; have HB := n1_; have BK454 := n2_; have GW454 := n3_; have GE454 := n4_; have NB453_454 := n5_; have NB454_453 := n6_; clear n0_ n1_ n2_ n3_ n4_ n5_ n6_; clear hb hbox hg; have hnb18 := NB453_454.out; have hnc18 := NB454_453.out; have hcz19_0 := hz BK453.out 0; have hcz19_1 := hz BK453.out 1; have hcz19_2 := hz BK453.out 2; have hfz19_0 := Qm BK453.out 0; have hfz19_1 := Qm BK453.out 1; have hfz19_2 := Qm BK453.out 2; have hcz20_0 := hz BK454.out 0; have hcz20_1 := hz BK454.out 1; have hcz20_2 := hz BK454.out 2; have hfz20_0 := Qm BK454.out 0; have hfz20_1 := Qm BK454.out 1; have hfz20_2 := Qm BK454.out 2))
 go_ret
 exact ⟨by first | rfl | (simp [errW_none, errW_some] <;> rfl) | (simp [*, errW_none, errW_some] <;> rfl), bl HB.out⟩
def payrolllaw43_FilingDecodes.l0 : Nat → List Zb → Int → Option (Bool)
 | 0, _, _ => none
 | k + 1, x8, x9 => if x9 < (x8.length : Int) then (if 0 ≤ x9 then ((filing_Decode.f k (rdOf ByteArray.empty x8 x9)).bind fun bt475 => ((payrollref43_Decode.f k (rdOf ByteArray.empty x8 x9)).bind fun bt483 => (if bt475.2.2.2 = bt483.2.2.2 then ((payrollref38_Same.f k bt475.1 bt475.2.1 bt475.2.2.1 bt483.1 bt483.2.1 bt483.2.2.1).bind fun t490 => (if t490 = true then (payrolllaw43_FilingDecodes.l0 k x8 (wrap64 (x9 + 1))) else (some false))) else (some false)))) else (none)) else ((payrolllaw43_awake.f k).bind fun t473 => (some t473))
def payrolllaw43_FilingDecodes.f (k : Nat) (l0 : List Int) (a1 : Zb) : Option (Bool) := if (a1.size : Int) > 1000 then ((payrolllaw43_awake.f k).bind fun t456 => (some t456)) else ((paygen_New.f l0).bind fun bt457 => ((payrolllaw43_drawn.f k bt457.1 bt457.2).bind fun bt460 => ((payrollref43_Encode.f k bt460.1 bt460.2.1 bt460.2.2.1).bind fun bt466 => ((paygen_Deck_Damage.f k bt457.1 bt460.2.2.2 bt466.1).bind fun bt468 => (if bt466.1.size + a1.size ≤ 9223372036854775807 then (payrolllaw43_FilingDecodes.l0 k (([bt466.1, bt468.1, a1, bt466.1 ++ a1] : List Zb)) 0) else (none))))))
theorem payrolllaw43_FilingDecodes.calls (k : Nat) (A0 : Option Addr) (c0 : Nat) (l0 : List Int) (a1 : Zb) (w : World) (hr0 : Kd.C (Kd.int .i64) w A0 l0.length l0) (hc0 : l0.length ≤ c0) (hT : Tabs w) (h : payrolllaw43_FilingDecodes.f k l0 a1 = some true) :
 Calls Tryz.prog 4 #[.slice A0 l0.length c0, .string a1] w fun e w' => e = .returned (.bool true) ∧ Below w.heap.size w w' := by
 have hu25 := Tryz.underlying25
 have HR0 := Qa hr0
 have HC0 := Qa hc0
 clear hr0 hc0
 have HB := Qa (Below.refl w.heap.size w)
 have HT := Qa hT
 clear hT
 have H : (if (a1.size : Int) > 1000 then ((payrolllaw43_awake.f k).bind fun t456 => (some t456)) else ((paygen_New.f l0).bind fun bt457 => ((payrolllaw43_drawn.f k bt457.1 bt457.2).bind fun bt460 => ((payrollref43_Encode.f k bt460.1 bt460.2.1 bt460.2.2.1).bind fun bt466 => ((paygen_Deck_Damage.f k bt457.1 bt460.2.2.2 bt466.1).bind fun bt468 => (if bt466.1.size + a1.size ≤ 9223372036854775807 then (payrolllaw43_FilingDecodes.l0 k (([bt466.1, bt468.1, a1, bt466.1 ++ a1] : List Zb)) 0) else (none))))))) = some true := h
 clear h
 by_cases c3 : (a1.size : Int) > 1000
 · rw [if_pos c3] at H
   have c3b0 : decide (1000 < (a1.size : Int)) = true := Xq c3
   have c3b1 : decide (1000 < a1.size) = true := Xq (by omega)
   clear c3
   replace H := Xx.mp H
   obtain ⟨t456, A40, H⟩ := H
   replace H : (some t456) = some true := H
   have A4 := Qa A40
   clear A40
   obtain rfl := Xz H
   go_enter Tryz.func4, Tryz.ntmps4
   go_wp2_with (first | ((with_reducible refine Qw (f := 9) rfl ?_); refine gc (some 17) Tryz.func9 #[] ?_; (with_reducible refine (payrolllaw43_awake.calls k  true _ ?side1 A4.out).mono ?_); (case side1 => exact Tabs.below HT.out (bl HB.out)); rintro e w5 ⟨rfl, hb⟩; refine ⟨_, rfl, ?_⟩; have n0_ := Qa (Qh (bl HB.out) hb); clear HB; have HB := n0_; clear n0_; (try clear hb)))
   go_ret
   exact ⟨by first | rfl | (rw [HY.out] <;> rfl) | (simp [errW_none, errW_some] <;> rfl) | (simp [*, errW_none, errW_some] <;> rfl), bl HB.out⟩
 rw [if_neg c3] at H
 have c3b0 : decide (1000 < (a1.size : Int)) = false := Xr c3
 have c3b1 : decide (1000 < a1.size) = false := Xr (by omega)
 clear c3
 replace H := Xx.mp H
 obtain ⟨⟨t457, t458⟩, A60, H⟩ := H
 replace H : ((payrolllaw43_drawn.f k t457 t458).bind fun bt460 => ((payrollref43_Encode.f k bt460.1 bt460.2.1 bt460.2.2.1).bind fun bt466 => ((paygen_Deck_Damage.f k t457 bt460.2.2.2 bt466.1).bind fun bt468 => (if bt466.1.size + a1.size ≤ 9223372036854775807 then (payrolllaw43_FilingDecodes.l0 k (([bt466.1, bt468.1, a1, bt466.1 ++ a1] : List Zb)) 0) else (none))))) = some true := H
 have A6 := Qa A60
 clear A60
 replace H := Xx.mp H
 obtain ⟨⟨t460, t461, t462, t465⟩, A70, H⟩ := H
 replace H : ((payrollref43_Encode.f k t460 t461 t462).bind fun bt466 => ((paygen_Deck_Damage.f k t457 t465 bt466.1).bind fun bt468 => (if bt466.1.size + a1.size ≤ 9223372036854775807 then (payrolllaw43_FilingDecodes.l0 k (([bt466.1, bt468.1, a1, bt466.1 ++ a1] : List Zb)) 0) else (none)))) = some true := H
 have A7 := Qa A70
 clear A70
 replace H := Xx.mp H
 obtain ⟨⟨t466, t467⟩, A80, H⟩ := H
 replace H : ((paygen_Deck_Damage.f k t457 t465 t466).bind fun bt468 => (if t466.size + a1.size ≤ 9223372036854775807 then (payrolllaw43_FilingDecodes.l0 k (([t466, bt468.1, a1, t466 ++ a1] : List Zb)) 0) else (none))) = some true := H
 have A8 := Qa A80
 clear A80
 replace H := Xx.mp H
 obtain ⟨⟨t468, t469⟩, A90, H⟩ := H
 replace H : (if t466.size + a1.size ≤ 9223372036854775807 then (payrolllaw43_FilingDecodes.l0 k (([t466, t468, a1, t466 ++ a1] : List Zb)) 0) else (none)) = some true := H
 have A9 := Qa A90
 clear A90
 by_cases c10 : t466.size + a1.size ≤ 9223372036854775807
 · rw [if_pos c10] at H
   have c10b0 := eq_true c10
   have c10b1 : decide (t466.size + a1.size ≤ 9223372036854775807) = true := Xq c10
   try have c10b2 : (9223372036854775807 < t466.size + a1.size) = False := eq_false (Nat.not_lt.2 c10)
   obtain ⟨y470, hy470⟩ : ∃ y_ : List Zb, y_ = (([t466, t468, a1, t466 ++ a1] : List Zb)) := ⟨_, rfl⟩
   replace H : (payrolllaw43_FilingDecodes.l0 k y470 0) = some true := by first | (rw [hy470]; with_reducible exact H) | (have H2_ := (Xy _ _).symm.trans H; rw [hy470]; with_reducible exact H2_) | (have H2_ := (Xy _ _).symm.trans H; with_reducible exact H2_) | with_reducible exact H | (rw [hy470]; exact H) | exact H
   have Ny470 := Qa hy470
   clear hy470
   have H' := Qa H
   clear H
   go_enter Tryz.func4, Tryz.ntmps4
   go_wp2_with (first | ((with_reducible refine Qw (f := 10) rfl ?_); refine gc (some 19) Tryz.func10 #[.slice A0 l0.length c0] ?_; (with_reducible refine (paygen_New.calls _ _ l0 t457 t458 w _ ?side1 ?side2 ?side3 A6.out).mono ?_); (case side1 => exact bl HB.out); (case side2 => exact HR0.out); (case side3 => exact HC0.out); rintro e w11 ⟨g459, rfl, hi, hb, hb2⟩; refine ⟨_, rfl, ?_⟩; have n0_ := Qa (hb); have n1_ := Qa (hi); clear HB; have HB := n0_; have HI459 := n1_; clear n0_ n1_; (try clear hb); (try clear hb2); (try clear hi)) | ((with_reducible refine Qw (f := 11) rfl ?_); refine gc (some 22) Tryz.func11 #[.pointer (some ⟨g459,0, none⟩)] ?_; (with_reducible refine (payrolllaw43_drawn.calls k g459 t457 t458 t460 t461 t462 t465 w _ ?side1 ?side2 A7.out).mono ?_); (case side1 => repeat (first | (with_reducible first | exact HI459.out | apply IsS64.alloc | apply IsS64.drewN | apply IsS64.drew | apply IsS64.set_1) | exact HI459.out)); (case side2 => repeat (first | (with_reducible first | exact HB.out | apply Qd | apply Qe | apply Qf | refine Qg ?_ (IsS64.ge HI459.out)) | exact HB.out)); rintro e w12 ⟨v463, rfl, ho0, hi, hb, hk⟩; refine ⟨_, rfl, ?_⟩; have n0_ := Qa (Kd.R_lower ho0 (Qi (by repeat (first | (with_reducible first | exact HB.out | apply Qd | apply Qe | apply Qf | refine Qg ?_ (IsS64.ge HI459.out)) | exact HB.out)))); have n1_ := Qa (hb); have n2_ := Qa (hi); clear HB HI459; have HO464 := n0_; have HB := n1_; have HI459 := n2_; clear n0_ n1_ n2_; (try clear hb); (try clear hk); (try clear hi); (try clear ho0); obtain ⟨Ao13, co13, eo13⟩ := Xk HO464.out; subst eo13) | ((with_reducible refine Qw (f := 15) rfl ?_); refine gc (some 23) Tryz.func15 #[.agg #[.int .i64 t460, .int .i64 t461, .slice Ao13 t462.length co13]] ?_; (with_reducible refine (payrollref43_Encode.calls k t460 t461 _ _ t462 t466 t467 _ ?side1 ?side2 A8.out).mono ?_); (case side1 => repeat (first | exact (Xb HO464.out).2.2 | (with_reducible refine Kd.C_alloc ?_ _) | (with_reducible refine Kd.C_drewN ?_ _) | (with_reducible refine Kd.C_drew ?_))); (case side2 => exact (Xb HO464.out).2.1); rintro e w14 ⟨rfl, hb⟩; refine ⟨_, rfl, ?_⟩; have n0_ := Qa (Xh (kr HO464.out) hb); have n1_ := Qa (IsS64.below (by repeat (first | (with_reducible first | exact HI459.out | apply IsS64.alloc | apply IsS64.drewN | apply IsS64.drew | apply IsS64.set_1) | exact HI459.out)) hb); have n2_ := Qa (Qh (by repeat (first | (with_reducible first | exact HB.out | apply Qd | apply Qe | apply Qf | refine Qg ?_ (IsS64.ge HI459.out)) | exact HB.out)) hb); clear HO464 HI459 HB; have HO464 := n0_; have HI459 := n1_; have HB := n2_; clear n0_ n1_ n2_; (try clear hb)) | ((with_reducible refine Qw (f := 18) rfl ?_); refine gc (some 29) Tryz.func18 #[.pointer (some ⟨g459,0, none⟩), .string t466] ?_; (with_reducible refine (paygen_Deck_Damage.calls k g459 t457 t465 t466 t468 t469 w _ ?side1 ?side2 A9.out).mono ?_); (case side1 => repeat (first | (with_reducible first | exact HI459.out | apply IsS64.alloc | apply IsS64.drewN | apply IsS64.drew | apply IsS64.set_1) | exact HI459.out)); (case side2 => repeat (first | (with_reducible first | exact HB.out | apply Qd | apply Qe | apply Qf | refine Qg ?_ (IsS64.ge HI459.out)) | exact HB.out)); rintro e w15 ⟨rfl, hi, hb, hk⟩; refine ⟨_, rfl, ?_⟩; have n0_ := Qa (Xf (Xj (IsS64.apart (show IsS64 w _ g459 t457 t465 from by repeat (first | (with_reducible first | exact HI459.out | apply IsS64.alloc | apply IsS64.drewN | apply IsS64.drew | apply IsS64.set_1) | exact HI459.out)) (kr HO464.out) (by decide)) hk (fun _ h => h.2)) (fun _ h => h.1)); have n1_ := Qa (hb); have n2_ := Qa (hi); clear HO464 HB HI459; have HO464 := n0_; have HB := n1_; have HI459 := n2_; clear n0_ n1_ n2_; (try clear hb); (try clear hk); (try clear hi)) | ((with_reducible refine Qx (N := 34) rfl ?_); refine Kd.R_lit Kd.string _ 9 ?hg (N := 34) ?hd (xs := ([t466, t468, a1, t466 ++ a1] : List Zb)) (inner := [.string t466, .string t468, .string a1, .string (t466 ++ a1)]) (ok := fun _ => True) (okp := fun _ => True) ?hr ?hp (fun _ hk => hk) trivial (Below.refl _ _) (Nat.le_refl _) (by simp) ?_; (case hd => rfl); (case hg => rfl); (case hr => first | (go_simp; done) | (go_simp; rfl)); (case hp => exact (Reps.one (show Kd.M Kd.string _ _ _ t466 [.string t466] from rfl) (Reps.one (show Kd.M Kd.string _ _ _ t468 [.string t468] from rfl) (Reps.one (show Kd.M Kd.string _ _ _ a1 [.string a1] from rfl) (Reps.one (show Kd.M Kd.string _ _ _ (t466 ++ a1) [.string (t466 ++ a1)] from rfl) (Reps.none _ _)))))); intro v471 w16 ho17 hb hg_ hnew_; clear hg_ hnew_; (first | rw [← Ny470.out] at ho17 | (simp only [Int.reduceToNat] at ho17; rw [← Ny470.out] at ho17)); have n0_ := Qa (Xh (kr HO464.out) hb); have n1_ := Qa (Kd.R_lower ho17 (Qi (by repeat (first | (with_reducible first | exact HB.out | apply Qd | apply Qe | apply Qf | refine Qg ?_ (IsS64.ge HI459.out)) | exact HB.out)))); have n2_ := Qa (IsS64.below (by repeat (first | (with_reducible first | exact HI459.out | apply IsS64.alloc | apply IsS64.drewN | apply IsS64.drew | apply IsS64.set_1) | exact HI459.out)) hb); have n3_ := Qa (Qh (by repeat (first | (with_reducible first | exact HB.out | apply Qd | apply Qe | apply Qf | refine Qg ?_ (IsS64.ge HI459.out)) | exact HB.out)) hb); clear HO464 HI459 HB; have HO464 := n0_; have HO472 := n1_; have HI459 := n2_; have HB := n3_; clear n0_ n1_ n2_ n3_; clear hb ho17))
   go_loopg [9] k (fun kq v9 w' => ∃ (x9_1 : Int), v9 = .int .i64 x9_1 ∧ Aside0 (payrolllaw43_FilingDecodes.l0 kq y470 x9_1 = some true) ∧ Aside0 (kq ≤ k) ∧ Aside0 (Kd.R Kd.string 9 w' w.heap.size (fun _ => True) v471 y470) ∧ Aside0 (Below w.heap.size w w'))
   case atStart => exact ⟨(0), (by first | rfl | (simp; done) | (simp [*]; done)), H', ⟨Nat.le_refl _⟩, ⟨kr HO472.out⟩, ⟨by repeat (first | (with_reducible first | exact HB.out | apply Qd | apply Qe | apply Qf | refine Qg ?_ (IsS64.ge HI459.out)) | exact HB.out)⟩⟩
   case round =>
    clear H'
    try clear c1
    try clear p2
    try clear c3
    try clear c3b0
    try clear c3b1
    try clear c4
    try clear c9
    try clear c10
    try clear c10b0
    try clear c10b1
    try clear c10b2
    try clear c11
    try clear c15
    obtain ⟨x9_1, rfl, HA, HK1, HO_8, HB⟩ := hrel
    cases gk with
    | zero => exact absurd HA.out (by simp [payrolllaw43_FilingDecodes.l0])
    | succ k1 =>
     have H := HA.out
     clear HA
     simp only [payrolllaw43_FilingDecodes.l0] at H
     by_cases c18 : x9_1 < (y470.length : Int)
     · rw [if_pos c18] at H
       have c18b0 : decide (x9_1 < (y470.length : Int)) = true := Xq c18
       clear c18
       by_cases c19 : 0 ≤ x9_1
       · rw [if_pos c19] at H
         have c19b0 : decide (0 ≤ x9_1) = true := Xq c19
         clear c19
         replace H := Xx.mp H
         obtain ⟨⟨t475, t476, t477, t480⟩, A200, H⟩ := H
         replace H : ((payrollref43_Decode.f k1 (rdOf ByteArray.empty y470 x9_1)).bind fun bt483 => (if t480 = bt483.2.2.2 then ((payrollref38_Same.f k1 t475 t476 t477 bt483.1 bt483.2.1 bt483.2.2.1).bind fun t490 => (if t490 = true then (payrolllaw43_FilingDecodes.l0 k1 y470 (wrap64 (x9_1 + 1))) else (some false))) else (some false))) = some true := H
         have A20 := Qa A200
         clear A200
         replace H := Xx.mp H
         obtain ⟨⟨t483, t484, t485, t488⟩, A210, H⟩ := H
         replace H : (if t480 = t488 then ((payrollref38_Same.f k1 t475 t476 t477 t483 t484 t485).bind fun t490 => (if t490 = true then (payrolllaw43_FilingDecodes.l0 k1 y470 (wrap64 (x9_1 + 1))) else (some false))) else (some false)) = some true := H
         have A21 := Qa A210
         clear A210
         by_cases c22 : t480 = t488
         · rw [if_pos c22] at H
           have c22b0 : (t480 == t488) = true := Yb.mpr c22
           have c22b1 : (t480 != t488) = false := bne_eq_false_iff_eq.mpr c22
           clear c22
           replace H := Xx.mp H
           obtain ⟨t490, A230, H⟩ := H
           replace H : (if t490 = true then (payrolllaw43_FilingDecodes.l0 k1 y470 (wrap64 (x9_1 + 1))) else (some false)) = some true := H
           have A23 := Qa A230
           clear A230
           by_cases c24 : t490 = true
           · subst c24
             have H1 : (payrolllaw43_FilingDecodes.l0 k1 y470 (wrap64 (x9_1 + 1))) = some true := by rw [if_pos rfl] at H; exact H
             clear H
             have H := H1
             clear H1
             have H' := Qa H
             clear H
             obtain ⟨Ao25, co25, eo25⟩ := Xk HO_8.out
             subst eo25
             have p474 : 0 ≤ (x9_1 : Int) := Xp (by assumption)
             have q474 : x9_1 < (y470.length : Int) := Xp (by assumption)
             obtain ⟨ad474, e474, hx474_0⟩ := Kd.at_string (Xb HO_8.out).2.2 x9_1 p474 q474
             cases e474
             replace p474 := eq_true p474
             replace q474 := eq_true q474
             go_wp2_with (first | ((with_reducible refine Qw (f := 19) rfl ?_); refine gc (some 46) Tryz.func19 #[.string (rdOf ByteArray.empty y470 x9_1)] ?_; (with_reducible refine (filing_Decode.calls k1 (rdOf ByteArray.empty y470 x9_1) t475 t476 t477 t480 _ ?side1 A20.out).mono ?_); (case side1 => exact Tabs.below HT.out (bl HB.out)); rintro e w26 ⟨v478, rfl, ho0, hb⟩; refine ⟨_, rfl, ?_⟩; have n0_ := Qa (Xh (kr HO_8.out) hb); have n1_ := Qa (Kd.R_lower ho0 (Qi (bl HB.out))); have n2_ := Qa (Qh (bl HB.out) hb); clear HO_8 HB; have HO_8 := n0_; have HO479 := n1_; have HB := n2_; clear n0_ n1_ n2_; (try clear hb); (try clear ho0)) | ((with_reducible refine Qx (N := 10) rfl ?_); refine Qv ?hg (N := 10) ?hd (cs := #[.int .i64 0, .int .i64 0, .slice none 0 0]) (t := 25) ?hr ?_; (case hd => rfl); (case hg => rfl); (case hr => first | (go_simp; done) | (go_simp; rfl)); intro gb481 hg w27 hbox hb; have n0_ := Qa (Xh (kr HO_8.out) hb); have n1_ := Qa (Xh (kr HO479.out) hb); have n2_ := Qa (Qh (bl HB.out) hb); have n3_ := Qa (hbox); have n4_ := Qa ((by rw [hg]; exact (Qi (bl HB.out)) : w.heap.size ≤ gb481)); have n5_ := Qa ((by rw [hg]; exact (Qi (bl HB.out)) : w.heap.size ≤ gb481)); clear HO_8 HO479 HB; have HO_8 := n0_; have HO479 := n1_; have HB := n2_; have BK481 := n3_; have GW481 := n4_; have GE481 := n5_; clear n0_ n1_ n2_ n3_ n4_ n5_; clear hb hbox hg; have hcz28_0 := hz BK481.out 0; have hcz28_1 := hz BK481.out 1; have hcz28_2 := hz BK481.out 2; have hfz28_0 := Qm BK481.out 0; have hfz28_1 := Qm BK481.out 1; have hfz28_2 := Qm BK481.out 2; obtain ⟨Ao29, co29, eo29⟩ := Xk HO479.out; subst eo29; have p482 : 0 ≤ (x9_1 : Int) := Xp (by assumption); have q482 : x9_1 < (y470.length : Int) := Xp (by assumption); obtain ⟨ad482, e482, hx482_0⟩ := Kd.at_string (Xb HO_8.out).2.2 x9_1 p482 q482; obtain rfl : ad474 = ad482 := (by injection e482); have hn482_0 : ad474.block ≠ gb481 := Kd.own_blk (Kd.R_ne HO_8.out BK481.out (by decide)); have hn482_1 : ad474.block ≠ gb481 := Kd.own_blk (Kd.R_ne HO_8.out BK481.out (by decide)); have hn482_2 : ad474.block ≠ gb481 := Kd.own_blk (Kd.R_ne HO_8.out BK481.out (by decide)); replace hx482_0 := (cell_far (p := ⟨gb481,0, none⟩) (by first | (rw [add_block]; exact hn482_0) | (show (Addr.add _ _).block ≠ _; rw [add_block]; exact hn482_0) | exact hn482_0) (.int .i64 t475)).trans hx482_0; replace hx482_0 := (cell_far (p := ⟨gb481,1, none⟩) (by first | (rw [add_block]; exact hn482_1) | (show (Addr.add _ _).block ≠ _; rw [add_block]; exact hn482_1) | exact hn482_1) (.int .i64 t476)).trans hx482_0; replace hx482_0 := (cell_far (p := ⟨gb481,2, none⟩) (by first | (rw [add_block]; exact hn482_2) | (show (Addr.add _ _).block ≠ _; rw [add_block]; exact hn482_2) | exact hn482_2) (.slice Ao29 t477.length co29)).trans hx482_0; clear hn482_0 hn482_1 hn482_2; replace p482 := eq_true p482; replace q482 := eq_true q482) | ((with_reducible refine Qw (f := 20) rfl ?_); refine gc (some 54) Tryz.func20 #[.string (rdOf ByteArray.empty y470 x9_1)] ?_; (with_reducible refine (payrollref43_Decode.calls k1 (rdOf ByteArray.empty y470 x9_1) t483 t484 t485 t488 _ A21.out).mono ?_); rintro e w30 ⟨v486, rfl, ho0, hb⟩; refine ⟨_, rfl, ?_⟩; have n0_ := Qa (Xh (by (with_reducible repeat (first | apply Xc | apply Xd | apply Xe)); exact (Xf (Xg (p := ⟨gb481,2, none⟩) (Xg (p := ⟨gb481,1, none⟩) (Xg (p := ⟨gb481,0, none⟩) (Kd.R_types HO_8.out BK481.out (by decide)) (fun _ hk => hk.2) (.int .i64 t475)) (fun _ hk => hk.2) (.int .i64 t476)) (fun _ hk => hk.2) (.slice Ao29 t477.length co29)) (fun _ h_ => h_.1))) hb); have n1_ := Qa (Kd.R_elder' (by (with_reducible repeat (first | apply Xc | apply Xd | apply Xe)); exact (Xf (Xg (p := ⟨gb481,2, none⟩) (Xg (p := ⟨gb481,1, none⟩) (Xg (p := ⟨gb481,0, none⟩) (Kd.R_types HO479.out BK481.out (by decide)) (fun _ hk => hk.2) (.int .i64 t475)) (fun _ hk => hk.2) (.int .i64 t476)) (fun _ hk => hk.2) (.slice Ao29 t477.length co29)) (fun _ h_ => h_.1))) (Kd.R_base ho0) hb); have n2_ := Qa (Kd.R_lower (Kd.R_new' ho0 (Kd.R_lt (by (with_reducible repeat (first | apply Xc | apply Xd | apply Xe)); exact (Xf (Xg (p := ⟨gb481,2, none⟩) (Xg (p := ⟨gb481,1, none⟩) (Xg (p := ⟨gb481,0, none⟩) (Kd.R_types HO479.out BK481.out (by decide)) (fun _ hk => hk.2) (.int .i64 t475)) (fun _ hk => hk.2) (.int .i64 t476)) (fun _ hk => hk.2) (.slice Ao29 t477.length co29)) (fun _ h_ => h_.1))))) (Qi (bl HB.out))); have n3_ := Qa (Qb (g := gb481) (o := .cells #[.int .i64 t475, .int .i64 t476, .slice Ao29 t477.length co29] 25 (0,0)) (by (with_reducible repeat (first | refine Qj ?_ _ | refine Qk ?_ | refine Ql ?_ _)); refine Qo (cs := #[.int .i64 t475, .int .i64 t476, .slice none 0 0]) ?_ 2 _ rfl; (with_reducible repeat (first | refine Qj ?_ _ | refine Qk ?_ | refine Ql ?_ _)); refine Qo (cs := #[.int .i64 t475, .int .i64 0, .slice none 0 0]) ?_ 1 _ rfl; (with_reducible repeat (first | refine Qj ?_ _ | refine Qk ?_ | refine Ql ?_ _)); refine Qo (cs := #[.int .i64 0, .int .i64 0, .slice none 0 0]) ?_ 0 _ rfl; (with_reducible repeat (first | refine Qj ?_ _ | refine Qk ?_ | refine Ql ?_ _)); exact BK481.out) hb); have n4_ := Qa (Qh (bl HB.out) hb); clear HO_8 HO479; clear BK481 HB; have HO_8 := n0_; have HO479 := n1_; have HO487 := n2_; have BK481 := n3_; have HB := n4_; clear n0_ n1_ n2_ n3_ n4_; (try clear hb); (try clear ho0)) | ((with_reducible refine Qx (N := 12) rfl ?_); refine Qv ?hg (N := 12) ?hd (cs := #[.int .i64 0, .int .i64 0, .slice none 0 0]) (t := 25) ?hr ?_; (case hd => rfl); (case hg => rfl); (case hr => first | (go_simp; done) | (go_simp; rfl)); intro gb489 hg w31 hbox hb; have n0_ := Qa (Xh (kr HO_8.out) hb); have n1_ := Qa (Xh (kr HO479.out) hb); have n2_ := Qa (Xh (kr HO487.out) hb); have n3_ := Qa (Qb (nc BK481.out) hb); have n4_ := Qa (Qh (bl HB.out) hb); have n5_ := Qa (hbox); have n6_ := Qa ((by rw [hg]; exact (Qi (bl HB.out)) : w.heap.size ≤ gb489)); have n7_ := Qa ((by rw [hg]; exact (Qi (bl HB.out)) : w.heap.size ≤ gb489)); have n8_ := Qa ((by rw [hg]; exact Nat.ne_of_lt (blk_lt (nc BK481.out)) : gb481 ≠ gb489)); have n9_ := Qa ((by rw [hg]; exact Nat.ne_of_gt (blk_lt (nc BK481.out)) : gb489 ≠ gb481)); clear HO_8 HO479; clear HO487 BK481 HB; have HO_8 := n0_; have HO479 := n1_; have HO487 := n2_; have BK481 := n3_; have HB := n4_; have BK489 := n5_; have GW489 := n6_; have GE489 := n7_; have NB481_489 := n8_; have NB489_481 := n9_; clear n0_ n1_ n2_ n3_ n4_ n5_ n6_ n7_ n8_ n9_; clear hb hbox hg; have hnb32 := NB489_481.out; have hnc32 := NB481_489.out; have hcz33_0 := hz BK489.out 0; have hcz33_1 := hz BK489.out 1; have hcz33_2 := hz BK489.out 2; have hfz33_0 := Qm BK489.out 0; have hfz33_1 := Qm BK489.out 1; have hfz33_2 := Qm BK489.out 2; obtain ⟨Ao34, co34, eo34⟩ := Xk HO487.out; subst eo34; have hcz35_0 := hz BK481.out 0; have hcz35_1 := hz BK481.out 1; have hcz35_2 := hz BK481.out 2; have hfz35_0 := Qm BK481.out 0; have hfz35_1 := Qm BK481.out 1; have hfz35_2 := Qm BK481.out 2) | (go_at_call 21; (with_reducible refine (payrollref38_Same.calls k1 t475 t476 _ _ t477 t483 t484 _ _ t485 true _ ?side1 ?side2 ?side3 ?side4 A23.out).mono ?_); (case side1 => refine (Xb (e := 60) (base := w.heap.size) (ok := fun k_ => (True ∧ some k_ ≠ (.slice Ao34 t485.length co34 : Value).ownBlock)) (n := t477.length) (c := co29) ?_).2.2; exact (by (with_reducible repeat (first | apply Xc | apply Xd | apply Xe)); exact (Xf (Xg (p := ⟨gb489,2, none⟩) (Xg (p := ⟨gb489,1, none⟩) (Xg (p := ⟨gb489,0, none⟩) (Kd.R_types HO479.out BK489.out (by decide)) (fun _ hk => hk.2) (.int .i64 t483)) (fun _ hk => hk.2) (.int .i64 t484)) (fun _ hk => hk.2) (.slice Ao34 t485.length co34)) (fun _ h_ => h_.1)))); (case side2 => exact (Xb HO479.out).2.1); (case side3 => refine (Xb (e := 60) (base := w.heap.size) (ok := fun k_ => (True ∧ some k_ ≠ (.slice Ao29 t477.length co29 : Value).ownBlock)) (n := t485.length) (c := co34) ?_).2.2; exact (by (with_reducible repeat (first | apply Xc | apply Xd | apply Xe)); exact (Xf (Xg (p := ⟨gb489,2, none⟩) (Xg (p := ⟨gb489,1, none⟩) (Xg (p := ⟨gb489,0, none⟩) (Kd.R_types HO487.out BK489.out (by decide)) (fun _ hk => hk.2) (.int .i64 t483)) (fun _ hk => hk.2) (.int .i64 t484)) (fun _ hk => hk.2) (.slice Ao34 t485.length co34)) (fun _ h_ => h_.1)))); (case side4 => exact (Xb HO487.out).2.1); rintro e w36 ⟨rfl, hb⟩; have n0_ := Qa (Xh (by (with_reducible repeat (first | apply Xc | apply Xd | apply Xe)); exact (Xf (Xg (p := ⟨gb489,2, none⟩) (Xg (p := ⟨gb489,1, none⟩) (Xg (p := ⟨gb489,0, none⟩) (Kd.R_types HO_8.out BK489.out (by decide)) (fun _ hk => hk.2) (.int .i64 t483)) (fun _ hk => hk.2) (.int .i64 t484)) (fun _ hk => hk.2) (.slice Ao34 t485.length co34)) (fun _ h_ => h_.1))) hb); have n1_ := Qa (Xh (by (with_reducible repeat (first | apply Xc | apply Xd | apply Xe)); exact (Xf (Xg (p := ⟨gb489,2, none⟩) (Xg (p := ⟨gb489,1, none⟩) (Xg (p := ⟨gb489,0, none⟩) (Kd.R_types HO479.out BK489.out (by decide)) (fun _ hk => hk.2) (.int .i64 t483)) (fun _ hk => hk.2) (.int .i64 t484)) (fun _ hk => hk.2) (.slice Ao34 t485.length co34)) (fun _ h_ => h_.1))) hb); have n2_ := Qa (Xh (by (with_reducible repeat (first | apply Xc | apply Xd | apply Xe)); exact (Xf (Xg (p := ⟨gb489,2, none⟩) (Xg (p := ⟨gb489,1, none⟩) (Xg (p := ⟨gb489,0, none⟩) (Kd.R_types HO487.out BK489.out (by decide)) (fun _ hk => hk.2) (.int .i64 t483)) (fun _ hk => hk.2) (.int .i64 t484)) (fun _ hk => hk.2) (.slice Ao34 t485.length co34)) (fun _ h_ => h_.1))) hb); have n3_ := Qa (Qb (g := gb481) (o := .cells #[.int .i64 t475, .int .i64 t476, .slice Ao29 t477.length co29] 25 (0,0)) (by (with_reducible repeat (first | refine Qj ?_ _ | refine Qk ?_ | refine Ql ?_ _)); refine Qc ?_ NB481_489.out _; (with_reducible repeat (first | refine Qj ?_ _ | refine Qk ?_ | refine Ql ?_ _)); refine Qc ?_ NB481_489.out _; (with_reducible repeat (first | refine Qj ?_ _ | refine Qk ?_ | refine Ql ?_ _)); refine Qc ?_ NB481_489.out _; (with_reducible repeat (first | refine Qj ?_ _ | refine Qk ?_ | refine Ql ?_ _)); exact BK481.out) hb); have n4_ := Qa (Qb (g := gb489) (o := .cells #[.int .i64 t483, .int .i64 t484, .slice Ao34 t485.length co34] 25 (0,0)) (by (with_reducible repeat (first | refine Qj ?_ _ | refine Qk ?_ | refine Ql ?_ _)); refine Qo (cs := #[.int .i64 t483, .int .i64 t484, .slice none 0 0]) ?_ 2 _ rfl; (with_reducible repeat (first | refine Qj ?_ _ | refine Qk ?_ | refine Ql ?_ _)); refine Qo (cs := #[.int .i64 t483, .int .i64 0, .slice none 0 0]) ?_ 1 _ rfl; (with_reducible repeat (first | refine Qj ?_ _ | refine Qk ?_ | refine Ql ?_ _)); refine Qo (cs := #[.int .i64 0, .int .i64 0, .slice none 0 0]) ?_ 0 _ rfl; (with_reducible repeat (first | refine Qj ?_ _ | refine Qk ?_ | refine Ql ?_ _)); exact BK489.out) hb); have n5_ := Qa (Qh (bl HB.out) hb); clear HO_8 HO479; clear HO487 BK481; clear BK489 HB; have HO_8 := n0_; have HO479 := n1_; have HO487 := n2_; have BK481 := n3_; have BK489 := n4_; have HB := n5_; clear n0_ n1_ n2_ n3_ n4_ n5_; (try clear hb)))
             go_roundg k1
             case measure => have := HK1.out; omega
             case rel => exact ⟨(wrap64 (x9_1 + 1)), (by first | rfl | (simp; done) | (simp [*]; done)), H', ⟨by have := HK1.out; omega⟩, ⟨kr HO_8.out⟩, ⟨bl HB.out⟩⟩
           replace c24 := Bool.eq_false_iff.mpr c24
           subst c24
           have H1 : (some false) = some true := by rw [if_neg (show ¬ (false = true) by decide)] at H; exact H
           clear H
           have H := H1
           clear H1
           exact absurd H (by simp)
         rw [if_neg c22] at H
         have c22b0 : (t480 == t488) = false := Ya.mpr c22
         have c22b1 : (t480 != t488) = true := Yc.mpr c22
         exact absurd H (by simp)
       rw [if_neg c19] at H
       exact absurd H (by simp)
     rw [if_neg c18] at H
     have c18b0 : decide (x9_1 < (y470.length : Int)) = false := Xr c18
     clear c18
     replace H := Xx.mp H
     obtain ⟨t473, A370, H⟩ := H
     replace H : (some t473) = some true := H
     have A37 := Qa A370
     clear A370
     obtain rfl := Xz H
     obtain ⟨Ao38, co38, eo38⟩ := Xk HO_8.out
     subst eo38
     go_wp2_with (first | ((with_reducible refine Qw (f := 9) rfl ?_); refine gc (some 66) Tryz.func9 #[] ?_; (with_reducible refine (payrolllaw43_awake.calls k1  true _ ?side1 A37.out).mono ?_); (case side1 => exact Tabs.below HT.out (bl HB.out)); rintro e w39 ⟨rfl, hb⟩; refine ⟨_, rfl, ?_⟩; have n0_ := Qa (Xh (kr HO_8.out) hb); have n1_ := Qa (Qh (bl HB.out) hb); clear HO_8 HB; have HO_8 := n0_; have HB := n1_; clear n0_ n1_; (try clear hb)))
     go_ret
     exact ⟨by first | rfl | (rw [HY.out] <;> rfl) | (simp [errW_none, errW_some] <;> rfl) | (simp [*, errW_none, errW_some] <;> rfl), bl HB.out⟩
 rw [if_neg c10] at H
 exact absurd H (by simp)
end Go.Proofs.YtejgfblphgcgkaaGreatDoor.P
namespace Go.Proofs.YtejgfblphgcgkaaGreatDoor.P
set_option linter.unusedVariables false
open Go.RowKit Go.Proofs.YtejgfblphgcgkaaGreatDoorW.PrintWords
def Near (p : Int) : Prop := 0 ≤ p ∧ p ≤ 1000000000000
theorem tmod_range (x n : Int) (hn : 1 ≤ n) (hn2 : n ≤ 4611686018427387904) : ∃ v, 0 ≤ v ∧ v < n ∧ (if Int.tmod x n < 0 then wrap64 (Int.tmod x n + n) else Int.tmod x n) = v := by
 have h1 : Int.tmod x n < n := Int.tmod_lt_of_pos x (by omega)
 have h2 : -n < Int.tmod x n := by
  have h3 := Int.tmod_lt_of_pos (-x) (by omega : (0 : Int) < n)
  rw [Int.neg_tmod] at h3; omega
 by_cases h : Int.tmod x n < 0
 · exact ⟨Int.tmod x n + n, by omega, by omega, by rw [if_pos h]; unfold wrap64; omega⟩
 · exact ⟨Int.tmod x n, by omega, h1, by rw [if_neg h]⟩
theorem deck_next (l : List Int) (p n : Int) (hp : Near p) (hn : 1 ≤ n) (hn2 : n ≤ 4611686018427387904) : ∃ v, Ev (fun k => paygen_Deck_Next.f k l p n) (v, p + 1) ∧ 0 ≤ v ∧ v < n := by
 have hj : ∀ x, ∃ v, Ev (fun k => paygen_Deck_Next.j0 k n x l p) (v, p + 1) ∧ 0 ≤ v ∧ v < n := by
  intro x
  obtain ⟨v, h1, h2, h3⟩ := tmod_range x n hn hn2
  have e : wrap64 (p + 1) = p + 1 := by unfold wrap64; unfold Near at hp; omega
  refine ⟨v, Ev.step (fun k => by simp only [paygen_Deck_Next.j0]; rfl) (Ev.ifn (by omega) ?_), h1, h2⟩
  rw [e]
  by_cases h : Int.tmod x n < 0
  · rw [if_pos h] at h3; exact Ev.ifp h (by rw [h3]; exact Ev.now _)
  · rw [if_neg h] at h3; exact Ev.ifn h (by rw [h3]; exact Ev.now _)
 unfold paygen_Deck_Next.f
 by_cases c : p < (l.length : Int)
 · obtain ⟨v, h1, h2⟩ := hj (rd l p)
   exact ⟨v, Ev.ifp c (Ev.ifp hp.1 h1), h2⟩
 · obtain ⟨v, h1, h2⟩ := hj (wrap64 ((wrap64 (5 * p)) + 2))
   exact ⟨v, Ev.ifn c h1, h2⟩
end Go.Proofs.YtejgfblphgcgkaaGreatDoor.P
namespace Go.Proofs.YtejgfblphgcgkaaGreatDoor.P
set_option linter.unusedVariables false
set_option linter.unusedSimpArgs false
open Go.RowKit Go.Proofs.YtejgfblphgcgkaaGreatDoorW.PrintWords
def dmgL : List ByteArray := [(⟨#[32]⟩ : ByteArray), (⟨#[10]⟩ : ByteArray), (⟨#[48]⟩ : ByteArray), (⟨#[49]⟩ : ByteArray), (⟨#[45]⟩ : ByteArray), (⟨#[101, 110, 100, 10]⟩ : ByteArray)]
theorem damage_ev (L : List Int) (a : Int) (ha : 0 ≤ a) (hb : a ≤ 100000) (s : ByteArray) (hs : s.size ≤ 65536) : ∃ t b, Ev (fun k => paygen_Deck_Damage.f k L a s) (t, b) := by
 have fin : ∀ (g : Nat → Option (ByteArray × Int)) (r : ByteArray × Int), Ev g r → ∃ t b, Ev g (t, b) := fun g r h => ⟨r.1, r.2, h⟩
 unfold paygen_Deck_Damage.f
 by_cases h0 : s.toList = ([] : List UInt8)
 · exact ⟨s, a, Ev.ifp h0 (Ev.now _)⟩
 · have hpos : 1 ≤ s.size := by
    rw [Lib.toList_data] at h0
    have : s.data.toList.length = s.size := rfl
    cases e : s.data.toList with
    | nil => exact absurd e h0
    | cons x r => rw [e] at this; simp at this; omega
   obtain ⟨n, h1, h2, h3⟩ := deck_next L a (s.size : Int) ⟨ha, by omega⟩ (by omega) (by omega)
   obtain ⟨c, i1, i2, i3⟩ := deck_next L (a + 1) 5 ⟨by omega, by omega⟩ (by omega) (by omega)
   have en : wrap64 (n + 1) = n + 1 := by unfold wrap64; omega
   have z1 : (s.extract 0 n.toNat).size ≤ 65536 := by rw [ByteArray.size_extract]; omega
   have z2 : (s.extract (n + 1).toNat s.size).size ≤ 65536 := by rw [ByteArray.size_extract]; omega
   have z3 : (s.extract n.toNat s.size).size ≤ 65536 := by rw [ByteArray.size_extract]; omega
   by_cases c0 : c = 0
   · refine fin _ (s.extract 0 n.toNat, a + 1 + 1) (Ev.ifn h0 (Ev.bind h1 (Ev.bind i1 (Ev.ifp c0 ?_))))
     exact Ev.ifp h2 (Ev.ifp (by show n ≤ _; omega) (Ev.now _))
   · by_cases c1 : c = 1
     · refine fin _ (s.extract 0 n.toNat ++ s.extract (n + 1).toNat s.size, a + 1 + 1) (Ev.ifn h0 (Ev.bind h1 (Ev.bind i1 (Ev.ifn c0 (Ev.ifp c1 ?_)))))
       simp only [en]
       exact Ev.ifp h2 (Ev.ifp (by omega) (Ev.ifp (by omega) (Ev.ifp (by omega) (Ev.ifp (by omega) (Ev.now _)))))
     · by_cases c2 : c = 2
       · obtain ⟨m, j1, j2, j3⟩ := deck_next L (a + 1 + 1) 6 ⟨by omega, by omega⟩ (by omega) (by omega)
         refine fin _ (s.extract 0 n.toNat ++ rdOf ByteArray.empty dmgL m ++ s.extract n.toNat s.size, a + 1 + 1 + 1) (Ev.ifn h0 (Ev.bind h1 (Ev.bind i1 (Ev.ifn c0 (Ev.ifn c1 (Ev.ifp c2 ?_))))))
         refine Ev.ifp h2 ?_
         refine Ev.ifp (by show n ≤ _; omega) (Ev.bindc rfl (Ev.bind j1 ?_))
         have hz : (rdOf ByteArray.empty dmgL m).size ≤ 4 := by
          have hm : m = 0 ∨ m = 1 ∨ m = 2 ∨ m = 3 ∨ m = 4 ∨ m = 5 := by omega
          rcases hm with e | e | e | e | e | e <;> (subst e; decide)
         refine Ev.ifp j2 ?_
         refine Ev.ifp j3 ?_
         refine Ev.ifp (show (s.extract 0 n.toNat).size + (rdOf ByteArray.empty dmgL m).size ≤ 9223372036854775807 by omega) ?_
         refine Ev.ifp (show (s.extract 0 n.toNat ++ rdOf ByteArray.empty dmgL m).size + (s.extract n.toNat s.size).size ≤ 9223372036854775807 by rw [ByteArray.size_append]; omega) (Ev.now _)
       · by_cases c3 : c = 3
         · obtain ⟨m, j1, j2, j3⟩ := deck_next L (a + 1 + 1) 256 ⟨by omega, by omega⟩ (by omega) (by omega)
           refine fin _ (s.extract 0 n.toNat ++ strOfNums [m % 256] ++ s.extract (n + 1).toNat s.size, a + 1 + 1 + 1) (Ev.ifn h0 (Ev.bind h1 (Ev.bind i1 (Ev.ifn c0 (Ev.ifn c1 (Ev.ifn c2 (Ev.ifp c3 ?_)))))))
           refine Ev.ifp h2 ?_
           refine Ev.ifp (by show n ≤ _; omega) (Ev.bind j1 (Ev.bindc rfl ?_))
           simp only [en]
           have hz : (strOfNums [m % 256]).size = 1 := by rw [strOfNums_size]; rfl
           refine Ev.ifp (by show (s.extract 0 n.toNat).size + (strOfNums [m % 256]).size ≤ _; omega) ?_
           refine Ev.ifp (by omega) ?_
           refine Ev.ifp (by omega) ?_
           refine Ev.ifp (by rw [ByteArray.size_append]; show (s.extract 0 n.toNat).size + (strOfNums [m % 256]).size + (s.extract (n + 1).toNat s.size).size ≤ _; omega) (Ev.now _)
         · refine fin _ (s, a + 1 + 1) ?_
           exact Ev.ifn h0 (Ev.bind h1 (Ev.bind i1 (Ev.ifn c0 (Ev.ifn c1 (Ev.ifn c2 (Ev.ifn c3 (Ev.now _)))))))
end Go.Proofs.YtejgfblphgcgkaaGreatDoor.P
