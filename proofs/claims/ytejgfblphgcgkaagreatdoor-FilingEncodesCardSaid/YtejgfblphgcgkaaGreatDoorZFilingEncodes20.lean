/- Texts for the law FilingEncodes (kept out of a larger one). -/
import Derived.Test.YtejgfblphgcgkaaGreatDoorZFilingEncodes2
import Derived.Test.YtejgfblphgcgkaaGreatDoorZFilingEncodes3
import Derived.Test.YtejgfblphgcgkaaGreatDoorZFilingEncodes4
import Derived.Test.YtejgfblphgcgkaaGreatDoorZFilingEncodes6
import Derived.Test.YtejgfblphgcgkaaGreatDoorZFilingEncodes8
import Derived.Test.YtejgfblphgcgkaaGreatDoorZFilingEncodes9
import Derived.Test.YtejgfblphgcgkaaGreatDoorZFilingEncodes12
import Derived.Test.YtejgfblphgcgkaaGreatDoorZFilingEncodes13
import Derived.Test.YtejgfblphgcgkaaGreatDoorZFilingEncodes19
import Derived.Test.YtejgfblphgcgkaaGreatDoorZFilingEncodes18
import Derived.Test.YtejgfblphgcgkaaGreatDoorZFilingEncodes14
namespace Go.Proofs.YtejgfblphgcgkaaGreatDoor.P
open Go.RowKit Go.Proofs.YtejgfblphgcgkaaGreatDoorW.PrintWords Go.Proofs.YtejgfblphgcgkaaGreatDoorW.PrintLast Go.Proofs.YtejgfblphgcgkaaGreatDoorW.PrintMore
attribute [local go_sem] max2_int min2_int max_two min_two max_three min_three max_four min_four   -- for this text's walks alone
set_option linter.unusedVariables false
set_option linter.unusedSimpArgs false
def payrolllaw43_FilingEncodes.j0 : Nat → Int → Int → List (S60) → Int → Int → List (S60) → Option (Bool)
 | 0, _, _, _, _, _, _ => none
 | k + 1, x348000, x348001, x348002, x360000, x360001, x360002 => (filing_Encode.f k x360000 x360001 x360002).bind fun bt374 => ((payrollref43_Encode.f k x360000 x360001 x360002).bind fun bt376 => ((filing_Encode.f k x348000 x348001 x348002).bind fun bt378 => ((payrollref43_Encode.f k x348000 x348001 x348002).bind fun bt380 => ((filing_Valid.f k x360000 x360001 x360002).bind fun t382 => ((payrollref43_Valid.f k x360000 x360001 x360002).bind fun t383 => (if (t382 == t383) = true then ((filing_Valid.f k x348000 x348001 x348002).bind fun t384 => ((payrollref43_Valid.f k x348000 x348001 x348002).bind fun t385 => (if (t384 == t385) = true then (if bt374.1.toList = bt376.1.toList then (if bt374.2 = bt376.2 then (if bt378.1.toList = bt380.1.toList then (if bt378.2 = bt380.2 then ((payrolllaw43_awake.f k).bind fun t386 => (some t386)) else (some false)) else (some false)) else (some false)) else (some false)) else (some false)))) else (some false)))))))
def payrolllaw43_FilingEncodes.f (k : Nat) (l0 : List Int) (a1_0 : Int) (a1_1 : Int) (l1_2 : List (S60)) (a2 : Int) (a3 : Int) : Option (Bool) := (paygen_ShortLines.f k l1_2).bind fun t348 => (if t348 = true then ((paygen_New.f l0).bind fun bt350 => ((payrolllaw43_drawn.f k bt350.1 bt350.2).bind fun bt353 => ((paygen_Mod.f a3 4).bind fun t360 => ((paygen_Mod.f a2 4).bind fun t361 => (if t361 = 0 then ((some (([(-1), 0,84005,84006] : List Int) : List Int)).bind fun y362 => (if 0 ≤ t360 then (if t360 < (y362.length : Int) then (payrolllaw43_FilingEncodes.j0 k a1_0 a1_1 l1_2 (rd y362 t360) bt353.2.1 bt353.2.2.1) else (none)) else (none))) else (if t361 = 1 then ((some (([0,1,65536,65537] : List Int) : List Int)).bind fun y366 => (if 0 ≤ t360 then (if t360 < (y366.length : Int) then (payrolllaw43_FilingEncodes.j0 k a1_0 a1_1 l1_2 bt353.1 (rd y366 t360) bt353.2.2.1) else (none)) else (none))) else (if t361 = 2 then ((paygen_Deck_Lines.f k bt350.1 bt353.2.2.2 3).bind fun bt370 => (payrolllaw43_FilingEncodes.j0 k a1_0 a1_1 l1_2 bt353.1 bt353.2.1 bt370.1)) else (payrolllaw43_FilingEncodes.j0 k a1_0 a1_1 l1_2 bt353.1 bt353.2.1 bt353.2.2.1)))))))) else ((payrolllaw43_awake.f k).bind fun t349 => (some t349)))
def payrolllaw43_FilingEncodes.T17 : Bool × List (List Nat × List Nat) := (true, [([], []), ([0], [0]), ([], []), ([2,1], [2]), ([1,3], [1,3]), ([4,3], [4]), ([5], [5]), ([6,5,5], [5,6]), ([5], [5]), ([8,7,5], [5,8]), ([7,9,5], [5,7,9]), ([5,10], [5,10]), ([11,9], [11]), ([12], [12]), ([12], [12]), ([13,14,12], [12,13,14]), ([12,15], [12,15]), ([16,12], [16]), ([17], [17]), ([17], [17]), ([18,19,17], [17,18,19]), ([17,20], [17,20]), ([21,17], [21]), ([22], [22]), ([22], [22]), ([23,24,22], [22,23,24]), ([22,25], [22,25]), ([26,22], [26]), ([27], [27]), ([27], [27]), ([28,29,27], [27,28,29]), ([27,30], [27,30]), ([31,27], [31]), ([32,32], [32]), ([32,33], [32,33]), ([34,33,0,1,2,3,4,5,6,7,8,9,10,11,12,13,14,15,16,17,18,19,20,21,22,23,24,25,26,27,28,29,30,31,32,33,34], [34])])
def payrolllaw43_FilingEncodes.B17 : List Nat := [0,1,0,7,15,31,63,127,63,511,1023,2047,4095,8191,8191,32767,65535,131071,262143,262143,1048575,2097151,4194303,8388607,8388607,33554431,67108863,134217727,268435455,268435455,1073741823,2147483647,4294967295,8589934591,17179869183,34359738367]
theorem payrolllaw43_FilingEncodes.tab17 : rtab .any (opsOf Tryz.f3 17) = payrolllaw43_FilingEncodes.T17 := by kernel_rfl
theorem payrolllaw43_FilingEncodes.bits17 : waitsOk payrolllaw43_FilingEncodes.T17.2 payrolllaw43_FilingEncodes.B17 = true := by kernel_rfl
set_option maxHeartbeats 8000000 in
set_option maxRecDepth 100000 in
theorem payrolllaw43_FilingEncodes.calls (k : Nat) (A0 : Option Addr) (c0 : Nat) (l0 : List Int) (a1_0 : Int) (a1_1 : Int) (A1_2 : Option Addr) (c1_2 : Nat) (l1_2 : List (S60)) (a2 : Int) (a3 : Int) (w : World) (hr0 : Kd.C (Kd.int .i64) w A0 l0.length l0) (hc0 : l0.length ≤ c0) (hr1_2 : Kd.C k60 w A1_2 l1_2.length l1_2) (hc1_2 : l1_2.length ≤ c1_2) (hT : Tabs w) (h : payrolllaw43_FilingEncodes.f k l0 a1_0 a1_1 l1_2 a2 a3 = some true) :
 Calls Tryz.prog 3 #[.slice A0 l0.length c0, .agg #[.int .i64 a1_0, .int .i64 a1_1, .slice A1_2 l1_2.length c1_2], .int .i64 a2, .int .i64 a3] w fun e w' => e = .returned (.bool true) ∧ Below w.heap.size w w' := by
 have hu25 := Tryz.underlying25
 have HR0 := Qa hr0
 have HC0 := Qa hc0
 clear hr0 hc0
 have HR1_2 := Qa hr1_2
 have HC1_2 := Qa hc1_2
 clear hr1_2 hc1_2
 have HB := Qa (Below.refl w.heap.size w)
 have HT := Qa hT
 clear hT
 have H : ((paygen_ShortLines.f k l1_2).bind fun t348 => (if t348 = true then ((paygen_New.f l0).bind fun bt350 => ((payrolllaw43_drawn.f k bt350.1 bt350.2).bind fun bt353 => ((paygen_Mod.f a3 4).bind fun t360 => ((paygen_Mod.f a2 4).bind fun t361 => (if t361 = 0 then ((some (([(-1), 0,84005,84006] : List Int) : List Int)).bind fun y362 => (if 0 ≤ t360 then (if t360 < (y362.length : Int) then (payrolllaw43_FilingEncodes.j0 k a1_0 a1_1 l1_2 (rd y362 t360) bt353.2.1 bt353.2.2.1) else (none)) else (none))) else (if t361 = 1 then ((some (([0,1,65536,65537] : List Int) : List Int)).bind fun y366 => (if 0 ≤ t360 then (if t360 < (y366.length : Int) then (payrolllaw43_FilingEncodes.j0 k a1_0 a1_1 l1_2 bt353.1 (rd y366 t360) bt353.2.2.1) else (none)) else (none))) else (if t361 = 2 then ((paygen_Deck_Lines.f k bt350.1 bt353.2.2.2 3).bind fun bt370 => (payrolllaw43_FilingEncodes.j0 k a1_0 a1_1 l1_2 bt353.1 bt353.2.1 bt370.1)) else (payrolllaw43_FilingEncodes.j0 k a1_0 a1_1 l1_2 bt353.1 bt353.2.1 bt353.2.2.1)))))))) else ((payrolllaw43_awake.f k).bind fun t349 => (some t349)))) = some true := h
 clear h
 replace H := Xx.mp H
 obtain ⟨t348, A50, H⟩ := H
 replace H : (if t348 = true then ((paygen_New.f l0).bind fun bt350 => ((payrolllaw43_drawn.f k bt350.1 bt350.2).bind fun bt353 => ((paygen_Mod.f a3 4).bind fun t360 => ((paygen_Mod.f a2 4).bind fun t361 => (if t361 = 0 then ((some (([(-1), 0,84005,84006] : List Int) : List Int)).bind fun y362 => (if 0 ≤ t360 then (if t360 < (y362.length : Int) then (payrolllaw43_FilingEncodes.j0 k a1_0 a1_1 l1_2 (rd y362 t360) bt353.2.1 bt353.2.2.1) else (none)) else (none))) else (if t361 = 1 then ((some (([0,1,65536,65537] : List Int) : List Int)).bind fun y366 => (if 0 ≤ t360 then (if t360 < (y366.length : Int) then (payrolllaw43_FilingEncodes.j0 k a1_0 a1_1 l1_2 bt353.1 (rd y366 t360) bt353.2.2.1) else (none)) else (none))) else (if t361 = 2 then ((paygen_Deck_Lines.f k bt350.1 bt353.2.2.2 3).bind fun bt370 => (payrolllaw43_FilingEncodes.j0 k a1_0 a1_1 l1_2 bt353.1 bt353.2.1 bt370.1)) else (payrolllaw43_FilingEncodes.j0 k a1_0 a1_1 l1_2 bt353.1 bt353.2.1 bt353.2.2.1)))))))) else ((payrolllaw43_awake.f k).bind fun t349 => (some t349))) = some true := H
 have A5 := Qa A50
 clear A50
 by_cases c6 : t348 = true
 · subst c6
   have H1 : ((paygen_New.f l0).bind fun bt350 => ((payrolllaw43_drawn.f k bt350.1 bt350.2).bind fun bt353 => ((paygen_Mod.f a3 4).bind fun t360 => ((paygen_Mod.f a2 4).bind fun t361 => (if t361 = 0 then ((some (([(-1), 0,84005,84006] : List Int) : List Int)).bind fun y362 => (if 0 ≤ t360 then (if t360 < (y362.length : Int) then (payrolllaw43_FilingEncodes.j0 k a1_0 a1_1 l1_2 (rd y362 t360) bt353.2.1 bt353.2.2.1) else (none)) else (none))) else (if t361 = 1 then ((some (([0,1,65536,65537] : List Int) : List Int)).bind fun y366 => (if 0 ≤ t360 then (if t360 < (y366.length : Int) then (payrolllaw43_FilingEncodes.j0 k a1_0 a1_1 l1_2 bt353.1 (rd y366 t360) bt353.2.2.1) else (none)) else (none))) else (if t361 = 2 then ((paygen_Deck_Lines.f k bt350.1 bt353.2.2.2 3).bind fun bt370 => (payrolllaw43_FilingEncodes.j0 k a1_0 a1_1 l1_2 bt353.1 bt353.2.1 bt370.1)) else (payrolllaw43_FilingEncodes.j0 k a1_0 a1_1 l1_2 bt353.1 bt353.2.1 bt353.2.2.1)))))))) = some true := by rw [if_pos rfl] at H; exact H
   clear H
   have H := H1
   clear H1
   replace H := Xx.mp H
   obtain ⟨⟨t350, t351⟩, A70, H⟩ := H
   replace H : ((payrolllaw43_drawn.f k t350 t351).bind fun bt353 => ((paygen_Mod.f a3 4).bind fun t360 => ((paygen_Mod.f a2 4).bind fun t361 => (if t361 = 0 then ((some (([(-1), 0,84005,84006] : List Int) : List Int)).bind fun y362 => (if 0 ≤ t360 then (if t360 < (y362.length : Int) then (payrolllaw43_FilingEncodes.j0 k a1_0 a1_1 l1_2 (rd y362 t360) bt353.2.1 bt353.2.2.1) else (none)) else (none))) else (if t361 = 1 then ((some (([0,1,65536,65537] : List Int) : List Int)).bind fun y366 => (if 0 ≤ t360 then (if t360 < (y366.length : Int) then (payrolllaw43_FilingEncodes.j0 k a1_0 a1_1 l1_2 bt353.1 (rd y366 t360) bt353.2.2.1) else (none)) else (none))) else (if t361 = 2 then ((paygen_Deck_Lines.f k t350 bt353.2.2.2 3).bind fun bt370 => (payrolllaw43_FilingEncodes.j0 k a1_0 a1_1 l1_2 bt353.1 bt353.2.1 bt370.1)) else (payrolllaw43_FilingEncodes.j0 k a1_0 a1_1 l1_2 bt353.1 bt353.2.1 bt353.2.2.1))))))) = some true := H
   have A7 := Qa A70
   clear A70
   replace H := Xx.mp H
   obtain ⟨⟨t353, t354, t355, t358⟩, A80, H⟩ := H
   replace H : ((paygen_Mod.f a3 4).bind fun t360 => ((paygen_Mod.f a2 4).bind fun t361 => (if t361 = 0 then ((some (([(-1), 0,84005,84006] : List Int) : List Int)).bind fun y362 => (if 0 ≤ t360 then (if t360 < (y362.length : Int) then (payrolllaw43_FilingEncodes.j0 k a1_0 a1_1 l1_2 (rd y362 t360) t354 t355) else (none)) else (none))) else (if t361 = 1 then ((some (([0,1,65536,65537] : List Int) : List Int)).bind fun y366 => (if 0 ≤ t360 then (if t360 < (y366.length : Int) then (payrolllaw43_FilingEncodes.j0 k a1_0 a1_1 l1_2 t353 (rd y366 t360) t355) else (none)) else (none))) else (if t361 = 2 then ((paygen_Deck_Lines.f k t350 t358 3).bind fun bt370 => (payrolllaw43_FilingEncodes.j0 k a1_0 a1_1 l1_2 t353 t354 bt370.1)) else (payrolllaw43_FilingEncodes.j0 k a1_0 a1_1 l1_2 t353 t354 t355)))))) = some true := H
   have A8 := Qa A80
   clear A80
   replace H := Xx.mp H
   obtain ⟨t360, A90, H⟩ := H
   replace H : ((paygen_Mod.f a2 4).bind fun t361 => (if t361 = 0 then ((some (([(-1), 0,84005,84006] : List Int) : List Int)).bind fun y362 => (if 0 ≤ t360 then (if t360 < (y362.length : Int) then (payrolllaw43_FilingEncodes.j0 k a1_0 a1_1 l1_2 (rd y362 t360) t354 t355) else (none)) else (none))) else (if t361 = 1 then ((some (([0,1,65536,65537] : List Int) : List Int)).bind fun y366 => (if 0 ≤ t360 then (if t360 < (y366.length : Int) then (payrolllaw43_FilingEncodes.j0 k a1_0 a1_1 l1_2 t353 (rd y366 t360) t355) else (none)) else (none))) else (if t361 = 2 then ((paygen_Deck_Lines.f k t350 t358 3).bind fun bt370 => (payrolllaw43_FilingEncodes.j0 k a1_0 a1_1 l1_2 t353 t354 bt370.1)) else (payrolllaw43_FilingEncodes.j0 k a1_0 a1_1 l1_2 t353 t354 t355))))) = some true := H
   have A9 := Qa A90
   clear A90
   replace H := Xx.mp H
   obtain ⟨t361, A100, H⟩ := H
   replace H : (if t361 = 0 then ((some (([(-1), 0,84005,84006] : List Int) : List Int)).bind fun y362 => (if 0 ≤ t360 then (if t360 < (y362.length : Int) then (payrolllaw43_FilingEncodes.j0 k a1_0 a1_1 l1_2 (rd y362 t360) t354 t355) else (none)) else (none))) else (if t361 = 1 then ((some (([0,1,65536,65537] : List Int) : List Int)).bind fun y366 => (if 0 ≤ t360 then (if t360 < (y366.length : Int) then (payrolllaw43_FilingEncodes.j0 k a1_0 a1_1 l1_2 t353 (rd y366 t360) t355) else (none)) else (none))) else (if t361 = 2 then ((paygen_Deck_Lines.f k t350 t358 3).bind fun bt370 => (payrolllaw43_FilingEncodes.j0 k a1_0 a1_1 l1_2 t353 t354 bt370.1)) else (payrolllaw43_FilingEncodes.j0 k a1_0 a1_1 l1_2 t353 t354 t355)))) = some true := H
   have A10 := Qa A100
   clear A100
   have HC11 := Qa H
   clear H
   go_enter Tryz.func3, Tryz.ntmps3
   go_upto_block 0 with (first | ((with_reducible refine Qx (N := 5) rfl ?_); refine Qv ?hg (N := 5) ?hd (cs := #[.int .i64 a1_0, .int .i64 a1_1, .slice A1_2 l1_2.length c1_2]) (t := 25) ?hr ?_; (case hd => rfl); (case hg => rfl); (case hr => first | (go_simp; done) | (go_simp; rfl)); intro gb347 hg w12 hbox hb; have n0_ := Qa (Qh (by repeat (first | (with_reducible first | exact HB.out | apply Qd | apply Qe | apply Qf) | exact HB.out)) hb); have n1_ := Qa (hbox); have n2_ := Qa ((by rw [hg]; exact (Qi (by repeat (first | (with_reducible first | exact HB.out | apply Qd | apply Qe | apply Qf) | exact HB.out))) : w.heap.size ≤ gb347)); have n3_ := Qa ((by rw [hg]; exact (Qi (by repeat (first | (with_reducible first | exact HB.out | apply Qd | apply Qe | apply Qf) | exact HB.out))) : w.heap.size ≤ gb347)); clear HB; have HB := n0_; have BK347 := n1_; have GW347 := n2_; have GE347 := n3_; clear n0_ n1_ n2_ n3_; clear hb hbox hg; have hcz13_0 : w12.cell? ⟨gb347,0, none⟩ = some (.int .i64 a1_0) := (Qn BK347.out 0).trans rfl; have hcz13_1 : w12.cell? ⟨gb347,1, none⟩ = some (.int .i64 a1_1) := (Qn BK347.out 1).trans rfl; have hcz13_2 : w12.cell? ⟨gb347,2, none⟩ = some (.slice A1_2 l1_2.length c1_2) := (Qn BK347.out 2).trans rfl; have hfz13_0 := Qm BK347.out 0; have hfz13_1 := Qm BK347.out 1; have hfz13_2 := Qm BK347.out 2) | ((with_reducible refine Qw (f := 8) rfl ?_); refine Qy (some 22) rfl rfl Tryz.func8 (by kernel_rfl) rfl #[.slice A1_2 l1_2.length c1_2] rfl (by (try simp only [List.map_toArray, List.map_cons, List.map_nil]); first | done | rfl | (simp only [List.length_drop, List.length_take]; rfl)) ?_; (with_reducible refine (paygen_ShortLines.calls k _ _ l1_2 true _ ?side1 ?side2 A5.out).mono ?_); (case side1 => repeat (first | exact (Kd.C_below HR1_2.out HB.out) | (with_reducible refine Kd.C_alloc ?_ _) | (with_reducible refine Kd.C_drewN ?_ _) | (with_reducible refine Kd.C_drew ?_))); (case side2 => exact HC1_2.out); rintro e w' ⟨rfl, ⟨nd, rfl⟩⟩; refine ⟨_, rfl, ?_⟩; (try simp only [World.drewN_drewN]); (try (rw [drewN_self w12]; generalize hq_ : World.drewN w12 _ = w12; have n0_ : Aside0 (w12.heap[gb347]? = some (.cells #[.int .i64 a1_0, .int .i64 a1_1, .slice A1_2 l1_2.length c1_2] 25 (0,0))) := ⟨by rw [← hq_]; exact (by (with_reducible repeat (first | refine Qj ?_ _ | refine Qk ?_ | refine Ql ?_ _)); exact BK347.out)⟩; have n1_ : Aside0 (Below w.heap.size w w12) := ⟨by rw [← hq_]; exact (by repeat (first | (with_reducible first | exact HB.out | apply Qd | apply Qe | apply Qf | refine Qg ?_ GE347.out) | exact HB.out))⟩; clear BK347 HB hq_; have BK347 := n0_; have HB := n1_; clear n0_ n1_))) | ((with_reducible refine Qw (f := 10) rfl ?_); refine Qy (some 26) rfl rfl Tryz.func10 (by kernel_rfl) rfl #[.slice A0 l0.length c0] rfl (by (try simp only [List.map_toArray, List.map_cons, List.map_nil]); first | done | rfl | (simp only [List.length_drop, List.length_take]; rfl)) ?_; (with_reducible refine (paygen_New.calls _ _ l0 t350 t351 w _ ?side1 ?side2 ?side3 A7.out).mono ?_); (case side1 => repeat (first | (with_reducible first | exact HB.out | apply Qd | apply Qe | apply Qf | refine Qg ?_ GE347.out) | exact HB.out)); (case side2 => exact HR0.out); (case side3 => exact HC0.out); rintro e w14 ⟨g352, rfl, hi, hb, hb2⟩; refine ⟨_, rfl, ?_⟩; have n0_ := Qa (Qb (g := gb347) (o := .cells #[.int .i64 a1_0, .int .i64 a1_1, .slice A1_2 l1_2.length c1_2] 25 (0,0)) (by (with_reducible repeat (first | refine Qj ?_ _ | refine Qk ?_ | refine Ql ?_ _)); exact BK347.out) hb2); have n1_ := Qa (hb); have n2_ := Qa (hi); have n3_ := Qa (IsS64.ne_blk hi (Qb (g := gb347) (o := .cells #[.int .i64 a1_0, .int .i64 a1_1, .slice A1_2 l1_2.length c1_2] 25 (0,0)) (by (with_reducible repeat (first | refine Qj ?_ _ | refine Qk ?_ | refine Ql ?_ _)); exact BK347.out) hb2) (by decide)); have n4_ := Qa (Ne.symm (IsS64.ne_blk hi (Qb (g := gb347) (o := .cells #[.int .i64 a1_0, .int .i64 a1_1, .slice A1_2 l1_2.length c1_2] 25 (0,0)) (by (with_reducible repeat (first | refine Qj ?_ _ | refine Qk ?_ | refine Ql ?_ _)); exact BK347.out) hb2) (by decide))); clear BK347; clear HB; have BK347 := n0_; have HB := n1_; have HI352 := n2_; have NB352_347 := n3_; have NB347_352 := n4_; clear n0_ n1_ n2_ n3_ n4_; (try clear hb); (try clear hb2); (try clear hk); (try clear hi)) | ((with_reducible refine Qw (f := 11) rfl ?_); refine Qy (some 28) rfl rfl Tryz.func11 (by kernel_rfl) rfl #[.pointer (some ⟨g352,0, none⟩)] rfl (by (try simp only [List.map_toArray, List.map_cons, List.map_nil]); first | done | rfl | (simp only [List.length_drop, List.length_take]; rfl)) ?_; (with_reducible refine (payrolllaw43_drawn.calls k g352 t350 t351 t353 t354 t355 t358 w _ ?side1 ?side2 A8.out).mono ?_); (case side1 => repeat (first | (with_reducible first | exact HI352.out | apply IsS64.alloc | apply IsS64.drewN | apply IsS64.drew | apply IsS64.set_1 | refine IsS64.far ?_ NB352_347.out _) | exact HI352.out)); (case side2 => repeat (first | (with_reducible first | exact HB.out | apply Qd | apply Qe | apply Qf | refine Qg ?_ (IsS64.ge HI352.out) | refine Qg ?_ GE347.out) | exact HB.out)); rintro e w15 ⟨v356, rfl, ho0, hi, hb, hk⟩; refine ⟨_, rfl, ?_⟩; have n0_ := Qa (KeepBut.blk hk (g' := gb347) (o := .cells #[.int .i64 a1_0, .int .i64 a1_1, .slice A1_2 l1_2.length c1_2] 25 (0,0)) (by (with_reducible repeat (first | refine Qj ?_ _ | refine Qk ?_ | refine Ql ?_ _)); exact BK347.out) NB347_352.out (by simp)); have n1_ := Qa (Kd.R_lower ho0 (Qi (by repeat (first | (with_reducible first | exact HB.out | apply Qd | apply Qe | apply Qf | refine Qg ?_ (IsS64.ge HI352.out) | refine Qg ?_ GE347.out) | exact HB.out)))); have n2_ := Qa (hb); have n3_ := Qa (hi); clear BK347; clear HB; clear HI352; have BK347 := n0_; have HO357 := n1_; have HB := n2_; have HI352 := n3_; clear n0_ n1_ n2_ n3_; (try clear hb); (try clear hb2); (try clear hk); (try clear hi); (try clear ho0)) | ((with_reducible refine Qx (N := 10) rfl ?_); refine Qv ?hg (N := 10) ?hd (cs := #[.int .i64 0, .int .i64 0, .slice none 0 0]) (t := 25) ?hr ?_; (case hd => rfl); (case hg => rfl); (case hr => first | (go_simp; done) | (go_simp; rfl)); intro gb359 hg w16 hbox hb; have n0_ := Qa (Xh (by (with_reducible repeat (first | apply Xc | apply Xd | apply Xe)); exact HO357.out) hb); have n1_ := Qa (Qb (g := gb347) (o := .cells #[.int .i64 a1_0, .int .i64 a1_1, .slice A1_2 l1_2.length c1_2] 25 (0,0)) (by (with_reducible repeat (first | refine Qj ?_ _ | refine Qk ?_ | refine Ql ?_ _)); exact BK347.out) hb); have n2_ := Qa (IsS64.below (by repeat (first | (with_reducible first | exact HI352.out | apply IsS64.alloc | apply IsS64.drewN | apply IsS64.drew | apply IsS64.set_1 | refine IsS64.far ?_ NB352_347.out _) | exact HI352.out)) hb); have n3_ := Qa (Qh (by repeat (first | (with_reducible first | exact HB.out | apply Qd | apply Qe | apply Qf | refine Qg ?_ (IsS64.ge HI352.out) | refine Qg ?_ GE347.out) | exact HB.out)) hb); have n4_ := Qa (hbox); have n5_ := Qa ((by rw [hg]; exact (Qi (by repeat (first | (with_reducible first | exact HB.out | apply Qd | apply Qe | apply Qf | refine Qg ?_ (IsS64.ge HI352.out) | refine Qg ?_ GE347.out) | exact HB.out))) : w.heap.size ≤ gb359)); have n6_ := Qa ((by rw [hg]; exact (Qi (by repeat (first | (with_reducible first | exact HB.out | apply Qd | apply Qe | apply Qf | refine Qg ?_ (IsS64.ge HI352.out) | refine Qg ?_ GE347.out) | exact HB.out))) : w.heap.size ≤ gb359)); have n7_ := Qa ((by rw [hg]; exact Nat.ne_of_lt (blk_lt (g := gb347) (o := .cells #[.int .i64 a1_0, .int .i64 a1_1, .slice A1_2 l1_2.length c1_2] 25 (0,0)) (by (with_reducible repeat (first | refine Qj ?_ _ | refine Qk ?_ | refine Ql ?_ _)); exact BK347.out)) : gb347 ≠ gb359)); have n8_ := Qa ((by rw [hg]; exact Nat.ne_of_gt (blk_lt (g := gb347) (o := .cells #[.int .i64 a1_0, .int .i64 a1_1, .slice A1_2 l1_2.length c1_2] 25 (0,0)) (by (with_reducible repeat (first | refine Qj ?_ _ | refine Qk ?_ | refine Ql ?_ _)); exact BK347.out)) : gb359 ≠ gb347)); have n9_ := Qa ((by rw [hg]; exact Nat.ne_of_lt (IsS64.lt (show IsS64 w _ g352 t350 t358 from by repeat (first | (with_reducible first | exact HI352.out | apply IsS64.alloc | apply IsS64.drewN | apply IsS64.drew | apply IsS64.set_1 | refine IsS64.far ?_ NB352_347.out _) | exact HI352.out))) : g352 ≠ gb359)); have n10_ := Qa ((by rw [hg]; exact Nat.ne_of_gt (IsS64.lt (show IsS64 w _ g352 t350 t358 from by repeat (first | (with_reducible first | exact HI352.out | apply IsS64.alloc | apply IsS64.drewN | apply IsS64.drew | apply IsS64.set_1 | refine IsS64.far ?_ NB352_347.out _) | exact HI352.out))) : gb359 ≠ g352)); clear HO357; clear BK347; clear HI352; clear HB; have HO357 := n0_; have BK347 := n1_; have HI352 := n2_; have HB := n3_; have BK359 := n4_; have GW359 := n5_; have GE359 := n6_; have NB347_359 := n7_; have NB359_347 := n8_; have NB352_359 := n9_; have NB359_352 := n10_; clear n0_ n1_ n2_ n3_ n4_ n5_ n6_ n7_ n8_ n9_ n10_; clear hb hbox hg; have hnb17 := NB359_347.out; have hnc17 := NB347_359.out; have hnb18 := NB359_352.out; have hnc18 := NB352_359.out; have hcz19_0 : w16.cell? ⟨gb359,0, none⟩ = some (.int .i64 0) := (Qn BK359.out 0).trans rfl; have hcz19_1 : w16.cell? ⟨gb359,1, none⟩ = some (.int .i64 0) := (Qn BK359.out 1).trans rfl; have hcz19_2 : w16.cell? ⟨gb359,2, none⟩ = some (.slice none 0 0) := (Qn BK359.out 2).trans rfl; have hfz19_0 := Qm BK359.out 0; have hfz19_1 := Qm BK359.out 1; have hfz19_2 := Qm BK359.out 2; obtain ⟨Ao20, co20, eo20⟩ := Xk HO357.out; subst eo20) | ((with_reducible refine Qw (f := 12) rfl ?_); refine Qy (some 30) rfl rfl Tryz.func12 (by kernel_rfl) rfl #[.int .i64 a3, .int .i64 4] rfl (by (try simp only [List.map_toArray, List.map_cons, List.map_nil]); first | done | rfl | (simp only [List.length_drop, List.length_take]; rfl)) ?_; (with_reducible refine (paygen_Mod.calls a3 4 t360 _ A9.out).mono ?_); rintro e w' ⟨rfl, ⟨nd, rfl⟩⟩; refine ⟨_, rfl, ?_⟩) | ((with_reducible refine Qw (f := 12) rfl ?_); refine Qy (some 32) rfl rfl Tryz.func12 (by kernel_rfl) rfl #[.int .i64 a2, .int .i64 4] rfl (by (try simp only [List.map_toArray, List.map_cons, List.map_nil]); first | done | rfl | (simp only [List.length_drop, List.length_take]; rfl)) ?_; (with_reducible refine (paygen_Mod.calls a2 4 t361 _ A10.out).mono ?_); rintro e w' ⟨rfl, ⟨nd, rfl⟩⟩; refine ⟨_, rfl, ?_⟩))
   (try simp only [Act.put, Xt, Xu, Xv])
   go_cut [] (fun wc => ∃ (kq : Nat) (x360000_10 : Int) (x360001_10 : Int) (x360002_10 : List (S60)) (u360002 : Value), Aside0 (payrolllaw43_FilingEncodes.j0 kq a1_0 a1_1 l1_2 x360000_10 x360001_10 x360002_10 = some true) ∧ Aside0 (kq ≤ k) ∧ Aside0 (Kd.R k60 60 wc w.heap.size (fun _ => True) u360002 x360002_10) ∧ Aside0 (wc.heap[gb347]? = some (.cells #[.int .i64 a1_0, .int .i64 a1_1, (.slice A1_2 l1_2.length c1_2)] 25 (0,0))) ∧ Aside0 (wc.heap[gb359]? = some (.cells #[.int .i64 x360000_10, .int .i64 x360001_10, u360002] 25 (0,0))) ∧ Aside0 (Below w.heap.size w wc))
   case first =>
    have H := HC11.out
    clear HC11
    by_cases c21 : t361 = 0
    · rw [if_pos c21] at H
      have c21b0 : (t361 == 0) = true := Yb.mpr c21
      have c21b1 : (t361 != 0) = false := bne_eq_false_iff_eq.mpr c21
      clear c21
      (first | rw [c21b0] | (simp only [i64_w, i32_w]; rw [c21b0]) | skip)
      obtain ⟨y362, hy362⟩ : ∃ y_ : List Int, y_ = (([(-1), 0,84005,84006] : List Int)) := ⟨_, rfl⟩
      replace H : (if 0 ≤ t360 then (if t360 < (y362.length : Int) then (payrolllaw43_FilingEncodes.j0 k a1_0 a1_1 l1_2 (rd y362 t360) t354 t355) else (none)) else (none)) = some true := by first | (rw [hy362]; with_reducible exact H) | (have H2_ := (Xy _ _).symm.trans H; rw [hy362]; with_reducible exact H2_) | (have H2_ := (Xy _ _).symm.trans H; with_reducible exact H2_) | with_reducible exact H | (rw [hy362]; exact H) | exact H
      have Ny362 := Qa hy362
      clear hy362
      by_cases c22 : 0 ≤ t360
      · rw [if_pos c22] at H
        have c22b0 : decide (0 ≤ t360) = true := Xq c22
        clear c22
        by_cases c23 : t360 < (y362.length : Int)
        · rw [if_pos c23] at H
          have c23b0 : decide (t360 < (y362.length : Int)) = true := Xq c23
          clear c23
          have H' := Qa H
          clear H
          go_wp2_with (first | ((with_reducible refine Qx (N := 35) rfl ?_); refine Kd.R_lit (Kd.int .i64) _ 3 ?hg (N := 35) ?hd (xs := ([(-1), 0,84005,84006] : List Int)) (inner := [.int .i64 (-1), .int .i64 0, .int .i64 84005, .int .i64 84006]) (ok := fun _ => True) (okp := fun _ => True) ?hr ?hp (fun _ hk => hk) trivial (Below.refl _ _) (Nat.le_refl _) (by simp) ?_; (case hd => rfl); (case hg => rfl); (case hr => first | (go_simp; done) | (go_simp; rfl)); (case hp => exact (Reps.one (show Kd.M (Kd.int .i64) _ _ _ (-1) [.int .i64 (-1)] from rfl) (Reps.one (show Kd.M (Kd.int .i64) _ _ _ 0 [.int .i64 0] from rfl) (Reps.one (show Kd.M (Kd.int .i64) _ _ _ 84005 [.int .i64 84005] from rfl) (Reps.one (show Kd.M (Kd.int .i64) _ _ _ 84006 [.int .i64 84006] from rfl) (Reps.none _ _)))))); intro v363 w24 ho25 hb hg_ hnew_; clear hg_ hnew_; (first | rw [← Ny362.out] at ho25 | (simp only [Int.reduceToNat] at ho25; rw [← Ny362.out] at ho25)); have n0_ := Qa (Xh (by (with_reducible repeat (first | apply Xc | apply Xd | apply Xe)); exact (Xf (Xg (p := ⟨gb359,2, none⟩) (Xg (p := ⟨gb359,1, none⟩) (Xg (p := ⟨gb359,0, none⟩) (Kd.R_types HO357.out BK359.out (by decide)) (fun _ hk => hk.2) (.int .i64 t353)) (fun _ hk => hk.2) (.int .i64 t354)) (fun _ hk => hk.2) (.slice Ao20 t355.length co20)) (fun _ h_ => h_.1))) hb); have n1_ := Qa (Kd.R_lower ho25 (Qi (by repeat (first | (with_reducible first | exact HB.out | apply Qd | apply Qe | apply Qf | refine Qg ?_ (IsS64.ge HI352.out) | refine Qg ?_ GE347.out | refine Qg ?_ GE359.out) | exact HB.out)))); have n2_ := Qa (Qb (g := gb347) (o := .cells #[.int .i64 a1_0, .int .i64 a1_1, .slice A1_2 l1_2.length c1_2] 25 (0,0)) (by (with_reducible repeat (first | refine Qj ?_ _ | refine Qk ?_ | refine Ql ?_ _)); refine Qc ?_ NB347_359.out _; (with_reducible repeat (first | refine Qj ?_ _ | refine Qk ?_ | refine Ql ?_ _)); refine Qc ?_ NB347_359.out _; (with_reducible repeat (first | refine Qj ?_ _ | refine Qk ?_ | refine Ql ?_ _)); refine Qc ?_ NB347_359.out _; (with_reducible repeat (first | refine Qj ?_ _ | refine Qk ?_ | refine Ql ?_ _)); exact BK347.out) hb); have n3_ := Qa (IsS64.below (show IsS64 w _ g352 t350 t358 from by repeat (first | (with_reducible first | exact HI352.out | apply IsS64.alloc | apply IsS64.drewN | apply IsS64.drew | apply IsS64.set_1 | refine IsS64.far ?_ NB352_347.out _ | refine IsS64.far ?_ NB352_359.out _) | exact HI352.out)) hb); have n4_ := Qa (Qb (g := gb359) (o := .cells #[.int .i64 t353, .int .i64 t354, .slice Ao20 t355.length co20] 25 (0,0)) (by (with_reducible repeat (first | refine Qj ?_ _ | refine Qk ?_ | refine Ql ?_ _)); refine Qo (cs := #[.int .i64 t353, .int .i64 t354, .slice none 0 0]) ?_ 2 _ rfl; (with_reducible repeat (first | refine Qj ?_ _ | refine Qk ?_ | refine Ql ?_ _)); refine Qo (cs := #[.int .i64 t353, .int .i64 0, .slice none 0 0]) ?_ 1 _ rfl; (with_reducible repeat (first | refine Qj ?_ _ | refine Qk ?_ | refine Ql ?_ _)); refine Qo (cs := #[.int .i64 0, .int .i64 0, .slice none 0 0]) ?_ 0 _ rfl; (with_reducible repeat (first | refine Qj ?_ _ | refine Qk ?_ | refine Ql ?_ _)); exact BK359.out) hb); have n5_ := Qa (Qh (by repeat (first | (with_reducible first | exact HB.out | apply Qd | apply Qe | apply Qf | refine Qg ?_ (IsS64.ge HI352.out) | refine Qg ?_ GE347.out | refine Qg ?_ GE359.out) | exact HB.out)) hb); clear HO357; clear BK347; clear HI352; clear BK359; clear HB; have HO357 := n0_; have HO364 := n1_; have BK347 := n2_; have HI352 := n3_; have BK359 := n4_; have HB := n5_; clear n0_ n1_ n2_ n3_ n4_ n5_; clear hb ho25; obtain ⟨Ao26, co26, eo26⟩ := Xk HO364.out; subst eo26; have p365 : 0 ≤ (t360 : Int) := Xp (by first | (with_reducible assumption) | assumption); have q365 : t360 < (y362.length : Int) := Xp (by first | (with_reducible assumption) | assumption); obtain ⟨ad365, e365, hx365_0⟩ := Kd.at_int (Xb HO364.out).2.2 t360 p365 q365; cases e365; replace p365 := eq_true p365; replace q365 := eq_true q365; have hnb27 := NB359_347.out; have hnc27 := NB347_359.out; have hnb28 := NB359_352.out; have hnc28 := NB352_359.out; have hcz29_0 : w24.cell? ⟨gb359,0, none⟩ = some (.int .i64 t353) := (Qn BK359.out 0).trans rfl; have hcz29_1 : w24.cell? ⟨gb359,1, none⟩ = some (.int .i64 t354) := (Qn BK359.out 1).trans rfl; have hcz29_2 : w24.cell? ⟨gb359,2, none⟩ = some (.slice Ao20 t355.length co20) := (Qn BK359.out 2).trans rfl; have hfz29_0 := Qm BK359.out 0; have hfz29_1 := Qm BK359.out 1; have hfz29_2 := Qm BK359.out 2))
          go_meet
          case rel => exact ⟨_, (rd y362 t360), (t354), (t355), (.slice Ao20 t355.length co20), H', ⟨by first | omega | exact Nat.le_refl _⟩, ⟨by (with_reducible repeat (first | apply Xc | apply Xd | apply Xe)); exact Xf (Xg (p := ⟨gb359,0, none⟩) (Kd.R_types HO357.out BK359.out (by decide)) (fun _ hk => hk.2) (.int .i64 (rd y362 t360))) (fun _ hk => trivial)⟩, ⟨by (with_reducible repeat (first | refine Qj ?_ _ | refine Qk ?_ | refine Ql ?_ _)); refine Qc ?_ NB347_359.out _; (with_reducible repeat (first | refine Qj ?_ _ | refine Qk ?_ | refine Ql ?_ _)); exact BK347.out⟩, ⟨by (with_reducible repeat (first | refine Qj ?_ _ | refine Qk ?_ | refine Ql ?_ _)); refine Qo (cs := #[.int .i64 t353, .int .i64 t354, .slice Ao20 t355.length co20]) ?_ 0 _ rfl; (with_reducible repeat (first | refine Qj ?_ _ | refine Qk ?_ | refine Ql ?_ _)); exact BK359.out⟩, ⟨by repeat (first | (with_reducible first | exact HB.out | apply Qd | apply Qe | apply Qf | refine Qg ?_ (IsS64.ge HI352.out) | refine Qg ?_ GE347.out | refine Qg ?_ GE359.out) | exact HB.out)⟩⟩
        rw [if_neg c23] at H
        exact absurd H (by simp)
      rw [if_neg c22] at H
      exact absurd H (by simp)
    rw [if_neg c21] at H
    have c21b0 : (t361 == 0) = false := Ya.mpr c21
    have c21b1 : (t361 != 0) = true := Yc.mpr c21
    (first | rw [c21b0] | (simp only [i64_w, i32_w]; rw [c21b0]) | skip)
    by_cases c30 : t361 = 1
    · rw [if_pos c30] at H
      have c30b0 : (t361 == 1) = true := Yb.mpr c30
      have c30b1 : (t361 != 1) = false := bne_eq_false_iff_eq.mpr c30
      clear c30
      obtain ⟨y366, hy366⟩ : ∃ y_ : List Int, y_ = (([0,1,65536,65537] : List Int)) := ⟨_, rfl⟩
      replace H : (if 0 ≤ t360 then (if t360 < (y366.length : Int) then (payrolllaw43_FilingEncodes.j0 k a1_0 a1_1 l1_2 t353 (rd y366 t360) t355) else (none)) else (none)) = some true := by first | (rw [hy366]; with_reducible exact H) | (have H2_ := (Xy _ _).symm.trans H; rw [hy366]; with_reducible exact H2_) | (have H2_ := (Xy _ _).symm.trans H; with_reducible exact H2_) | with_reducible exact H | (rw [hy366]; exact H) | exact H
      have Ny366 := Qa hy366
      clear hy366
      by_cases c31 : 0 ≤ t360
      · rw [if_pos c31] at H
        have c31b0 : decide (0 ≤ t360) = true := Xq c31
        clear c31
        by_cases c32 : t360 < (y366.length : Int)
        · rw [if_pos c32] at H
          have c32b0 : decide (t360 < (y366.length : Int)) = true := Xq c32
          clear c32
          have H' := Qa H
          clear H
          go_wp2_with (first | ((with_reducible refine Qx (N := 42) rfl ?_); refine Kd.R_lit (Kd.int .i64) _ 3 ?hg (N := 42) ?hd (xs := ([0,1,65536,65537] : List Int)) (inner := [.int .i64 0, .int .i64 1, .int .i64 65536, .int .i64 65537]) (ok := fun _ => True) (okp := fun _ => True) ?hr ?hp (fun _ hk => hk) trivial (Below.refl _ _) (Nat.le_refl _) (by simp) ?_; (case hd => rfl); (case hg => rfl); (case hr => first | (go_simp; done) | (go_simp; rfl)); (case hp => exact (Reps.one (show Kd.M (Kd.int .i64) _ _ _ 0 [.int .i64 0] from rfl) (Reps.one (show Kd.M (Kd.int .i64) _ _ _ 1 [.int .i64 1] from rfl) (Reps.one (show Kd.M (Kd.int .i64) _ _ _ 65536 [.int .i64 65536] from rfl) (Reps.one (show Kd.M (Kd.int .i64) _ _ _ 65537 [.int .i64 65537] from rfl) (Reps.none _ _)))))); intro v367 w33 ho34 hb hg_ hnew_; clear hg_ hnew_; (first | rw [← Ny366.out] at ho34 | (simp only [Int.reduceToNat] at ho34; rw [← Ny366.out] at ho34)); have n0_ := Qa (Xh (by (with_reducible repeat (first | apply Xc | apply Xd | apply Xe)); exact (Xf (Xg (p := ⟨gb359,2, none⟩) (Xg (p := ⟨gb359,1, none⟩) (Xg (p := ⟨gb359,0, none⟩) (Kd.R_types HO357.out BK359.out (by decide)) (fun _ hk => hk.2) (.int .i64 t353)) (fun _ hk => hk.2) (.int .i64 t354)) (fun _ hk => hk.2) (.slice Ao20 t355.length co20)) (fun _ h_ => h_.1))) hb); have n1_ := Qa (Kd.R_lower ho34 (Qi (by repeat (first | (with_reducible first | exact HB.out | apply Qd | apply Qe | apply Qf | refine Qg ?_ (IsS64.ge HI352.out) | refine Qg ?_ GE347.out | refine Qg ?_ GE359.out) | exact HB.out)))); have n2_ := Qa (Qb (g := gb347) (o := .cells #[.int .i64 a1_0, .int .i64 a1_1, .slice A1_2 l1_2.length c1_2] 25 (0,0)) (by (with_reducible repeat (first | refine Qj ?_ _ | refine Qk ?_ | refine Ql ?_ _)); refine Qc ?_ NB347_359.out _; (with_reducible repeat (first | refine Qj ?_ _ | refine Qk ?_ | refine Ql ?_ _)); refine Qc ?_ NB347_359.out _; (with_reducible repeat (first | refine Qj ?_ _ | refine Qk ?_ | refine Ql ?_ _)); refine Qc ?_ NB347_359.out _; (with_reducible repeat (first | refine Qj ?_ _ | refine Qk ?_ | refine Ql ?_ _)); exact BK347.out) hb); have n3_ := Qa (IsS64.below (show IsS64 w _ g352 t350 t358 from by repeat (first | (with_reducible first | exact HI352.out | apply IsS64.alloc | apply IsS64.drewN | apply IsS64.drew | apply IsS64.set_1 | refine IsS64.far ?_ NB352_347.out _ | refine IsS64.far ?_ NB352_359.out _) | exact HI352.out)) hb); have n4_ := Qa (Qb (g := gb359) (o := .cells #[.int .i64 t353, .int .i64 t354, .slice Ao20 t355.length co20] 25 (0,0)) (by (with_reducible repeat (first | refine Qj ?_ _ | refine Qk ?_ | refine Ql ?_ _)); refine Qo (cs := #[.int .i64 t353, .int .i64 t354, .slice none 0 0]) ?_ 2 _ rfl; (with_reducible repeat (first | refine Qj ?_ _ | refine Qk ?_ | refine Ql ?_ _)); refine Qo (cs := #[.int .i64 t353, .int .i64 0, .slice none 0 0]) ?_ 1 _ rfl; (with_reducible repeat (first | refine Qj ?_ _ | refine Qk ?_ | refine Ql ?_ _)); refine Qo (cs := #[.int .i64 0, .int .i64 0, .slice none 0 0]) ?_ 0 _ rfl; (with_reducible repeat (first | refine Qj ?_ _ | refine Qk ?_ | refine Ql ?_ _)); exact BK359.out) hb); have n5_ := Qa (Qh (by repeat (first | (with_reducible first | exact HB.out | apply Qd | apply Qe | apply Qf | refine Qg ?_ (IsS64.ge HI352.out) | refine Qg ?_ GE347.out | refine Qg ?_ GE359.out) | exact HB.out)) hb); clear HO357; clear BK347; clear HI352; clear BK359; clear HB; have HO357 := n0_; have HO368 := n1_; have BK347 := n2_; have HI352 := n3_; have BK359 := n4_; have HB := n5_; clear n0_ n1_ n2_ n3_ n4_ n5_; clear hb ho34; obtain ⟨Ao35, co35, eo35⟩ := Xk HO368.out; subst eo35; have p369 : 0 ≤ (t360 : Int) := Xp (by first | (with_reducible assumption) | assumption); have q369 : t360 < (y366.length : Int) := Xp (by first | (with_reducible assumption) | assumption); obtain ⟨ad369, e369, hx369_0⟩ := Kd.at_int (Xb HO368.out).2.2 t360 p369 q369; cases e369; replace p369 := eq_true p369; replace q369 := eq_true q369; have hnb36 := NB359_347.out; have hnc36 := NB347_359.out; have hnb37 := NB359_352.out; have hnc37 := NB352_359.out; have hcz38_0 : w33.cell? ⟨gb359,0, none⟩ = some (.int .i64 t353) := (Qn BK359.out 0).trans rfl; have hcz38_1 : w33.cell? ⟨gb359,1, none⟩ = some (.int .i64 t354) := (Qn BK359.out 1).trans rfl; have hcz38_2 : w33.cell? ⟨gb359,2, none⟩ = some (.slice Ao20 t355.length co20) := (Qn BK359.out 2).trans rfl; have hfz38_0 := Qm BK359.out 0; have hfz38_1 := Qm BK359.out 1; have hfz38_2 := Qm BK359.out 2))
          go_meet
          case rel => exact ⟨_, (t353), (rd y366 t360), (t355), (.slice Ao20 t355.length co20), H', ⟨by first | omega | exact Nat.le_refl _⟩, ⟨by (with_reducible repeat (first | apply Xc | apply Xd | apply Xe)); exact Xf (Xg (p := ⟨gb359,1, none⟩) (Kd.R_types HO357.out BK359.out (by decide)) (fun _ hk => hk.2) (.int .i64 (rd y366 t360))) (fun _ hk => trivial)⟩, ⟨by (with_reducible repeat (first | refine Qj ?_ _ | refine Qk ?_ | refine Ql ?_ _)); refine Qc ?_ NB347_359.out _; (with_reducible repeat (first | refine Qj ?_ _ | refine Qk ?_ | refine Ql ?_ _)); exact BK347.out⟩, ⟨by (with_reducible repeat (first | refine Qj ?_ _ | refine Qk ?_ | refine Ql ?_ _)); refine Qo (cs := #[.int .i64 t353, .int .i64 t354, .slice Ao20 t355.length co20]) ?_ 1 _ rfl; (with_reducible repeat (first | refine Qj ?_ _ | refine Qk ?_ | refine Ql ?_ _)); exact BK359.out⟩, ⟨by repeat (first | (with_reducible first | exact HB.out | apply Qd | apply Qe | apply Qf | refine Qg ?_ (IsS64.ge HI352.out) | refine Qg ?_ GE347.out | refine Qg ?_ GE359.out) | exact HB.out)⟩⟩
        rw [if_neg c32] at H
        exact absurd H (by simp)
      rw [if_neg c31] at H
      exact absurd H (by simp)
    rw [if_neg c30] at H
    have c30b0 : (t361 == 1) = false := Ya.mpr c30
    have c30b1 : (t361 != 1) = true := Yc.mpr c30
    by_cases c39 : t361 = 2
    · rw [if_pos c39] at H
      have c39b0 : (t361 == 2) = true := Yb.mpr c39
      have c39b1 : (t361 != 2) = false := bne_eq_false_iff_eq.mpr c39
      clear c39
      replace H := Xx.mp H
      obtain ⟨⟨t370, t373⟩, A400, H⟩ := H
      replace H : (payrolllaw43_FilingEncodes.j0 k a1_0 a1_1 l1_2 t353 t354 t370) = some true := H
      have A40 := Qa A400
      clear A400
      have H' := Qa H
      clear H
      go_wp2_with (first | ((with_reducible refine Qw (f := 13) rfl ?_); refine Qy (some 50) rfl rfl Tryz.func13 (by kernel_rfl) rfl #[.pointer (some ⟨g352,0, none⟩), .int .i64 3] rfl (by (try simp only [List.map_toArray, List.map_cons, List.map_nil]); first | done | rfl | (simp only [List.length_drop, List.length_take]; rfl)) ?_; (with_reducible refine (paygen_Deck_Lines.calls k g352 t350 t358 3 t370 t373 w _ ?side1 ?side2 A40.out).mono ?_); (case side1 => repeat (first | (with_reducible first | exact HI352.out | apply IsS64.alloc | apply IsS64.drewN | apply IsS64.drew | apply IsS64.set_1 | refine IsS64.far ?_ NB352_347.out _ | refine IsS64.far ?_ NB352_359.out _) | exact HI352.out)); (case side2 => repeat (first | (with_reducible first | exact HB.out | apply Qd | apply Qe | apply Qf | refine Qg ?_ (IsS64.ge HI352.out) | refine Qg ?_ GE347.out | refine Qg ?_ GE359.out) | exact HB.out)); rintro e w41 ⟨v371, rfl, ho0, hi, hb, hk⟩; refine ⟨_, rfl, ?_⟩; have n0_ := Qa (KeepBut.blk hk (g' := gb347) (o := .cells #[.int .i64 a1_0, .int .i64 a1_1, .slice A1_2 l1_2.length c1_2] 25 (0,0)) (by (with_reducible repeat (first | refine Qj ?_ _ | refine Qk ?_ | refine Ql ?_ _)); refine Qc ?_ NB347_359.out _; (with_reducible repeat (first | refine Qj ?_ _ | refine Qk ?_ | refine Ql ?_ _)); refine Qc ?_ NB347_359.out _; (with_reducible repeat (first | refine Qj ?_ _ | refine Qk ?_ | refine Ql ?_ _)); refine Qc ?_ NB347_359.out _; (with_reducible repeat (first | refine Qj ?_ _ | refine Qk ?_ | refine Ql ?_ _)); exact BK347.out) NB347_352.out (by simp)); have n1_ := Qa (Xf (Kd.R_told (Kd.R_oldK (IsS64.apart (show IsS64 w _ g352 t350 t358 from by repeat (first | (with_reducible first | exact HI352.out | apply IsS64.alloc | apply IsS64.drewN | apply IsS64.drew | apply IsS64.set_1 | refine IsS64.far ?_ NB352_347.out _ | refine IsS64.far ?_ NB352_359.out _) | exact HI352.out)) (by (with_reducible repeat (first | apply Xc | apply Xd | apply Xe)); exact (Xf (Xg (p := ⟨gb359,2, none⟩) (Xg (p := ⟨gb359,1, none⟩) (Xg (p := ⟨gb359,0, none⟩) (Kd.R_types HO357.out BK359.out (by decide)) (fun _ hk => hk.2) (.int .i64 t353)) (fun _ hk => hk.2) (.int .i64 t354)) (fun _ hk => hk.2) (.slice Ao20 t355.length co20)) (fun _ h_ => h_.1))) (by decide)) hk) (Kd.R_base ho0)) (fun _ h_ => h_.1)); have n2_ := Qa (KeepBut.blk hk (g' := gb359) (o := .cells #[.int .i64 t353, .int .i64 t354, .slice Ao20 t355.length co20] 25 (0,0)) (by (with_reducible repeat (first | refine Qj ?_ _ | refine Qk ?_ | refine Ql ?_ _)); refine Qo (cs := #[.int .i64 t353, .int .i64 t354, .slice none 0 0]) ?_ 2 _ rfl; (with_reducible repeat (first | refine Qj ?_ _ | refine Qk ?_ | refine Ql ?_ _)); refine Qo (cs := #[.int .i64 t353, .int .i64 0, .slice none 0 0]) ?_ 1 _ rfl; (with_reducible repeat (first | refine Qj ?_ _ | refine Qk ?_ | refine Ql ?_ _)); refine Qo (cs := #[.int .i64 0, .int .i64 0, .slice none 0 0]) ?_ 0 _ rfl; (with_reducible repeat (first | refine Qj ?_ _ | refine Qk ?_ | refine Ql ?_ _)); exact BK359.out) NB359_352.out (by simp)); have n3_ := Qa (Kd.R_lower (Kd.R_new' ho0 (Kd.R_lt (by (with_reducible repeat (first | apply Xc | apply Xd | apply Xe)); exact (Xf (Xg (p := ⟨gb359,2, none⟩) (Xg (p := ⟨gb359,1, none⟩) (Xg (p := ⟨gb359,0, none⟩) (Kd.R_types HO357.out BK359.out (by decide)) (fun _ hk => hk.2) (.int .i64 t353)) (fun _ hk => hk.2) (.int .i64 t354)) (fun _ hk => hk.2) (.slice Ao20 t355.length co20)) (fun _ h_ => h_.1))))) (Qi (by repeat (first | (with_reducible first | exact HB.out | apply Qd | apply Qe | apply Qf | refine Qg ?_ (IsS64.ge HI352.out) | refine Qg ?_ GE347.out | refine Qg ?_ GE359.out) | exact HB.out)))); have n4_ := Qa (hb); have n5_ := Qa (hi); clear BK347; clear HO357; clear BK359; clear HB; clear HI352; have BK347 := n0_; have HO357 := n1_; have BK359 := n2_; have HO372 := n3_; have HB := n4_; have HI352 := n5_; clear n0_ n1_ n2_ n3_ n4_ n5_; (try clear hb); (try clear hb2); (try clear hk); (try clear hi); (try clear ho0); obtain ⟨Ao42, co42, eo42⟩ := Xk HO372.out; subst eo42; have hnb43 := NB359_347.out; have hnc43 := NB347_359.out; have hnb44 := NB359_352.out; have hnc44 := NB352_359.out; have hcz45_0 : w41.cell? ⟨gb359,0, none⟩ = some (.int .i64 t353) := (Qn BK359.out 0).trans rfl; have hcz45_1 : w41.cell? ⟨gb359,1, none⟩ = some (.int .i64 t354) := (Qn BK359.out 1).trans rfl; have hcz45_2 : w41.cell? ⟨gb359,2, none⟩ = some (.slice Ao20 t355.length co20) := (Qn BK359.out 2).trans rfl; have hfz45_0 := Qm BK359.out 0; have hfz45_1 := Qm BK359.out 1; have hfz45_2 := Qm BK359.out 2))
      go_meet
      case rel => exact ⟨_, (t353), (t354), (t370), (.slice Ao42 t370.length co42), H', ⟨by first | omega | exact Nat.le_refl _⟩, ⟨by (with_reducible repeat (first | apply Xc | apply Xd | apply Xe)); exact Xf (Xg (p := ⟨gb359,2, none⟩) (Kd.R_types HO372.out BK359.out (by decide)) (fun _ hk => hk.2) (.slice Ao42 t370.length co42)) (fun _ hk => trivial)⟩, ⟨by (with_reducible repeat (first | refine Qj ?_ _ | refine Qk ?_ | refine Ql ?_ _)); refine Qc ?_ NB347_359.out _; (with_reducible repeat (first | refine Qj ?_ _ | refine Qk ?_ | refine Ql ?_ _)); exact BK347.out⟩, ⟨by (with_reducible repeat (first | refine Qj ?_ _ | refine Qk ?_ | refine Ql ?_ _)); refine Qo (cs := #[.int .i64 t353, .int .i64 t354, .slice Ao20 t355.length co20]) ?_ 2 _ rfl; (with_reducible repeat (first | refine Qj ?_ _ | refine Qk ?_ | refine Ql ?_ _)); exact BK359.out⟩, ⟨by repeat (first | (with_reducible first | exact HB.out | apply Qd | apply Qe | apply Qf | refine Qg ?_ (IsS64.ge HI352.out) | refine Qg ?_ GE347.out | refine Qg ?_ GE359.out) | exact HB.out)⟩⟩
    rw [if_neg c39] at H
    have c39b0 : (t361 == 2) = false := Ya.mpr c39
    have c39b1 : (t361 != 2) = true := Yc.mpr c39
    have H' := Qa H
    clear H
    go_wp2
    go_meet
    case rel => exact ⟨_, (t353), (t354), (t355), (.slice Ao20 t355.length co20), H', ⟨by first | omega | exact Nat.le_refl _⟩, ⟨by (with_reducible repeat (first | apply Xc | apply Xd | apply Xe)); exact Xf (Xg (p := ⟨gb359,2, none⟩) (Xg (p := ⟨gb359,1, none⟩) (Xg (p := ⟨gb359,0, none⟩) (Kd.R_types HO357.out BK359.out (by decide)) (fun _ hk => hk.2) (.int .i64 t353)) (fun _ hk => hk.2) (.int .i64 t354)) (fun _ hk => hk.2) (.slice Ao20 t355.length co20)) (fun _ hk => trivial)⟩, ⟨by (with_reducible repeat (first | refine Qj ?_ _ | refine Qk ?_ | refine Ql ?_ _)); refine Qc ?_ NB347_359.out _; (with_reducible repeat (first | refine Qj ?_ _ | refine Qk ?_ | refine Ql ?_ _)); refine Qc ?_ NB347_359.out _; (with_reducible repeat (first | refine Qj ?_ _ | refine Qk ?_ | refine Ql ?_ _)); refine Qc ?_ NB347_359.out _; (with_reducible repeat (first | refine Qj ?_ _ | refine Qk ?_ | refine Ql ?_ _)); exact BK347.out⟩, ⟨by (with_reducible repeat (first | refine Qj ?_ _ | refine Qk ?_ | refine Ql ?_ _)); refine Qo (cs := #[.int .i64 t353, .int .i64 t354, .slice none 0 0]) ?_ 2 _ rfl; (with_reducible repeat (first | refine Qj ?_ _ | refine Qk ?_ | refine Ql ?_ _)); refine Qo (cs := #[.int .i64 t353, .int .i64 0, .slice none 0 0]) ?_ 1 _ rfl; (with_reducible repeat (first | refine Qj ?_ _ | refine Qk ?_ | refine Ql ?_ _)); refine Qo (cs := #[.int .i64 0, .int .i64 0, .slice none 0 0]) ?_ 0 _ rfl; (with_reducible repeat (first | refine Qj ?_ _ | refine Qk ?_ | refine Ql ?_ _)); exact BK359.out⟩, ⟨by repeat (first | (with_reducible first | exact HB.out | apply Qd | apply Qe | apply Qf | refine Qg ?_ (IsS64.ge HI352.out) | refine Qg ?_ GE347.out | refine Qg ?_ GE359.out) | exact HB.out)⟩⟩
   case rest =>
    clear HC11
    try clear c1
    try clear c2
    try clear p2
    try clear c3
    try clear p3
    try clear q3
    try clear hx3
    try clear c4
    try clear c6
    try clear c8
    try clear c10
    try clear c11
    try clear c12
    try clear c13
    try clear c17
    try clear c18
    try clear c21
    try clear c21b0
    try clear c21b1
    try clear c22
    try clear c22b0
    try clear c23
    try clear c23b0
    try clear c27
    try clear c28
    try clear c30
    try clear c30b0
    try clear c30b1
    try clear c31
    try clear c31b0
    try clear c32
    try clear c32b0
    try clear c36
    try clear p36
    try clear q36
    try clear hx36
    try clear c37
    try clear c39
    try clear c39b0
    try clear c39b1
    try clear c43
    try clear c44
    try clear hcz13_0
    try clear hcz13_1
    try clear hcz13_2
    try clear hcz19_0
    try clear hcz19_1
    try clear hcz19_2
    try clear hcz29_0
    try clear hcz29_1
    try clear hcz29_2
    try clear hcz38_0
    try clear hcz38_1
    try clear hcz38_2
    try clear hcz45_0
    try clear hcz45_1
    try clear hcz45_2
    try clear hfz13_0
    try clear hfz13_1
    try clear hfz13_2
    try clear hfz19_0
    try clear hfz19_1
    try clear hfz19_2
    try clear hfz29_0
    try clear hfz29_1
    try clear hfz29_2
    try clear hfz38_0
    try clear hfz38_1
    try clear hfz38_2
    try clear hfz45_0
    try clear hfz45_1
    try clear hfz45_2
    try clear hx365_0
    try clear hx369_0
    try clear p365
    try clear p369
    try clear q365
    try clear q369
    obtain ⟨kq, x360000_10, x360001_10, x360002_10, u360002, HA, HJ10, HO_360002, BK347, BK359, HB⟩ := hcut
    cases kq with
    | zero => exact absurd HA.out (by simp [payrolllaw43_FilingEncodes.j0])
    | succ kj10 =>
     have H := HA.out
     clear HA
     simp only [payrolllaw43_FilingEncodes.j0] at H
     replace H := Xx.mp H
     obtain ⟨⟨t374, t375⟩, A460, H⟩ := H
     replace H : ((payrollref43_Encode.f kj10 x360000_10 x360001_10 x360002_10).bind fun bt376 => ((filing_Encode.f kj10 a1_0 a1_1 l1_2).bind fun bt378 => ((payrollref43_Encode.f kj10 a1_0 a1_1 l1_2).bind fun bt380 => ((filing_Valid.f kj10 x360000_10 x360001_10 x360002_10).bind fun t382 => ((payrollref43_Valid.f kj10 x360000_10 x360001_10 x360002_10).bind fun t383 => (if (t382 == t383) = true then ((filing_Valid.f kj10 a1_0 a1_1 l1_2).bind fun t384 => ((payrollref43_Valid.f kj10 a1_0 a1_1 l1_2).bind fun t385 => (if (t384 == t385) = true then (if t374.toList = bt376.1.toList then (if t375 = bt376.2 then (if bt378.1.toList = bt380.1.toList then (if bt378.2 = bt380.2 then ((payrolllaw43_awake.f kj10).bind fun t386 => (some t386)) else (some false)) else (some false)) else (some false)) else (some false)) else (some false)))) else (some false))))))) = some true := H
     have A46 := Qa A460
     clear A460
     replace H := Xx.mp H
     obtain ⟨⟨t376, t377⟩, A470, H⟩ := H
     replace H : ((filing_Encode.f kj10 a1_0 a1_1 l1_2).bind fun bt378 => ((payrollref43_Encode.f kj10 a1_0 a1_1 l1_2).bind fun bt380 => ((filing_Valid.f kj10 x360000_10 x360001_10 x360002_10).bind fun t382 => ((payrollref43_Valid.f kj10 x360000_10 x360001_10 x360002_10).bind fun t383 => (if (t382 == t383) = true then ((filing_Valid.f kj10 a1_0 a1_1 l1_2).bind fun t384 => ((payrollref43_Valid.f kj10 a1_0 a1_1 l1_2).bind fun t385 => (if (t384 == t385) = true then (if t374.toList = t376.toList then (if t375 = t377 then (if bt378.1.toList = bt380.1.toList then (if bt378.2 = bt380.2 then ((payrolllaw43_awake.f kj10).bind fun t386 => (some t386)) else (some false)) else (some false)) else (some false)) else (some false)) else (some false)))) else (some false)))))) = some true := H
     have A47 := Qa A470
     clear A470
     replace H := Xx.mp H
     obtain ⟨⟨t378, t379⟩, A480, H⟩ := H
     replace H : ((payrollref43_Encode.f kj10 a1_0 a1_1 l1_2).bind fun bt380 => ((filing_Valid.f kj10 x360000_10 x360001_10 x360002_10).bind fun t382 => ((payrollref43_Valid.f kj10 x360000_10 x360001_10 x360002_10).bind fun t383 => (if (t382 == t383) = true then ((filing_Valid.f kj10 a1_0 a1_1 l1_2).bind fun t384 => ((payrollref43_Valid.f kj10 a1_0 a1_1 l1_2).bind fun t385 => (if (t384 == t385) = true then (if t374.toList = t376.toList then (if t375 = t377 then (if t378.toList = bt380.1.toList then (if t379 = bt380.2 then ((payrolllaw43_awake.f kj10).bind fun t386 => (some t386)) else (some false)) else (some false)) else (some false)) else (some false)) else (some false)))) else (some false))))) = some true := H
     have A48 := Qa A480
     clear A480
     replace H := Xx.mp H
     obtain ⟨⟨t380, t381⟩, A490, H⟩ := H
     replace H : ((filing_Valid.f kj10 x360000_10 x360001_10 x360002_10).bind fun t382 => ((payrollref43_Valid.f kj10 x360000_10 x360001_10 x360002_10).bind fun t383 => (if (t382 == t383) = true then ((filing_Valid.f kj10 a1_0 a1_1 l1_2).bind fun t384 => ((payrollref43_Valid.f kj10 a1_0 a1_1 l1_2).bind fun t385 => (if (t384 == t385) = true then (if t374.toList = t376.toList then (if t375 = t377 then (if t378.toList = t380.toList then (if t379 = t381 then ((payrolllaw43_awake.f kj10).bind fun t386 => (some t386)) else (some false)) else (some false)) else (some false)) else (some false)) else (some false)))) else (some false)))) = some true := H
     have A49 := Qa A490
     clear A490
     replace H := Xx.mp H
     obtain ⟨t382, A500, H⟩ := H
     replace H : ((payrollref43_Valid.f kj10 x360000_10 x360001_10 x360002_10).bind fun t383 => (if (t382 == t383) = true then ((filing_Valid.f kj10 a1_0 a1_1 l1_2).bind fun t384 => ((payrollref43_Valid.f kj10 a1_0 a1_1 l1_2).bind fun t385 => (if (t384 == t385) = true then (if t374.toList = t376.toList then (if t375 = t377 then (if t378.toList = t380.toList then (if t379 = t381 then ((payrolllaw43_awake.f kj10).bind fun t386 => (some t386)) else (some false)) else (some false)) else (some false)) else (some false)) else (some false)))) else (some false))) = some true := H
     have A50 := Qa A500
     clear A500
     replace H := Xx.mp H
     obtain ⟨t383, A510, H⟩ := H
     replace H : (if (t382 == t383) = true then ((filing_Valid.f kj10 a1_0 a1_1 l1_2).bind fun t384 => ((payrollref43_Valid.f kj10 a1_0 a1_1 l1_2).bind fun t385 => (if (t384 == t385) = true then (if t374.toList = t376.toList then (if t375 = t377 then (if t378.toList = t380.toList then (if t379 = t381 then ((payrolllaw43_awake.f kj10).bind fun t386 => (some t386)) else (some false)) else (some false)) else (some false)) else (some false)) else (some false)))) else (some false)) = some true := H
     have A51 := Qa A510
     clear A510
     by_cases c52 : (t382 == t383) = true
     · rw [if_pos c52] at H
       have c52b0 : (t382 == t383) = true := c52
       (try (have c52b1 : decide (t382 = t383) = true := by simpa using c52))
       (try (have c52b2 : (t382 == t383) = true := by simpa using c52))
       clear c52
       replace H := Xx.mp H
       obtain ⟨t384, A530, H⟩ := H
       replace H : ((payrollref43_Valid.f kj10 a1_0 a1_1 l1_2).bind fun t385 => (if (t384 == t385) = true then (if t374.toList = t376.toList then (if t375 = t377 then (if t378.toList = t380.toList then (if t379 = t381 then ((payrolllaw43_awake.f kj10).bind fun t386 => (some t386)) else (some false)) else (some false)) else (some false)) else (some false)) else (some false))) = some true := H
       have A53 := Qa A530
       clear A530
       replace H := Xx.mp H
       obtain ⟨t385, A540, H⟩ := H
       replace H : (if (t384 == t385) = true then (if t374.toList = t376.toList then (if t375 = t377 then (if t378.toList = t380.toList then (if t379 = t381 then ((payrolllaw43_awake.f kj10).bind fun t386 => (some t386)) else (some false)) else (some false)) else (some false)) else (some false)) else (some false)) = some true := H
       have A54 := Qa A540
       clear A540
       by_cases c55 : (t384 == t385) = true
       · rw [if_pos c55] at H
         have c55b0 : (t384 == t385) = true := c55
         (try (have c55b1 : decide (t384 = t385) = true := by simpa using c55))
         (try (have c55b2 : (t384 == t385) = true := by simpa using c55))
         clear c55
         by_cases c56 : t374.toList = t376.toList
         · rw [if_pos c56] at H
           have c56b0 : (t374.toList == t376.toList) = true := Yb.mpr c56
           have c56b1 : (t374.toList != t376.toList) = false := bne_eq_false_iff_eq.mpr c56
           clear c56
           by_cases c57 : t375 = t377
           · rw [if_pos c57] at H
             have c57b0 : (t375 == t377) = true := Yb.mpr c57
             have c57b1 : (t375 != t377) = false := bne_eq_false_iff_eq.mpr c57
             clear c57
             by_cases c58 : t378.toList = t380.toList
             · rw [if_pos c58] at H
               have c58b0 : (t378.toList == t380.toList) = true := Yb.mpr c58
               have c58b1 : (t378.toList != t380.toList) = false := bne_eq_false_iff_eq.mpr c58
               clear c58
               by_cases c59 : t379 = t381
               · rw [if_pos c59] at H
                 have c59b0 : (t379 == t381) = true := Yb.mpr c59
                 have c59b1 : (t379 != t381) = false := bne_eq_false_iff_eq.mpr c59
                 clear c59
                 replace H := Xx.mp H
                 obtain ⟨t386, A600, H⟩ := H
                 replace H : (some t386) = some true := H
                 have A60 := Qa A600
                 clear A600
                 obtain rfl := Xz H
                 have hnb61 := NB359_347.out
                 have hnc61 := NB347_359.out
                 have hcz62_0 : wc.cell? ⟨gb359,0, none⟩ = some (.int .i64 x360000_10) := (Qn BK359.out 0).trans rfl
                 have hcz62_1 : wc.cell? ⟨gb359,1, none⟩ = some (.int .i64 x360001_10) := (Qn BK359.out 1).trans rfl
                 have hcz62_2 : wc.cell? ⟨gb359,2, none⟩ = some (u360002) := (Qn BK359.out 2).trans rfl
                 have hfz62_0 := Qm BK359.out 0
                 have hfz62_1 := Qm BK359.out 1
                 have hfz62_2 := Qm BK359.out 2
                 obtain ⟨Ao63, co63, eo63⟩ := Xk HO_360002.out
                 subst eo63
                 try go_wp2_with (first | ((with_reducible refine Qw (f := 14) rfl ?_); refine Qy (some 54) rfl rfl Tryz.func14 (by kernel_rfl) rfl #[.agg #[.int .i64 x360000_10, .int .i64 x360001_10, .slice Ao63 x360002_10.length co63]] rfl (by (try simp only [List.map_toArray, List.map_cons, List.map_nil]); first | done | rfl | (simp only [List.length_drop, List.length_take]; rfl)) ?_; (with_reducible refine (filing_Encode.calls kj10 x360000_10 x360001_10 _ _ x360002_10 t374 t375 _ ?side1 ?side2 ?side3 A46.out).mono ?_); (case side1 => repeat (first | exact (Xb HO_360002.out).2.2 | (with_reducible refine Kd.C_alloc ?_ _) | (with_reducible refine Kd.C_drewN ?_ _) | (with_reducible refine Kd.C_drew ?_))); (case side2 => exact (Xb HO_360002.out).2.1); (case side3 => exact Tabs.below HT.out (by repeat (first | (with_reducible first | exact HB.out | apply Qd | apply Qe | apply Qf | refine Qg ?_ GE347.out | refine Qg ?_ GE359.out) | exact HB.out))); rintro e w64 ⟨rfl, hb⟩; refine ⟨_, rfl, ?_⟩; have n0_ := Qa (Xh (by (with_reducible repeat (first | apply Xc | apply Xd | apply Xe)); exact HO_360002.out) hb); have n1_ := Qa (Qb (g := gb347) (o := .cells #[.int .i64 a1_0, .int .i64 a1_1, .slice A1_2 l1_2.length c1_2] 25 (0,0)) (by (with_reducible repeat (first | refine Qj ?_ _ | refine Qk ?_ | refine Ql ?_ _)); exact BK347.out) hb); have n2_ := Qa (Qb (g := gb359) (o := .cells #[.int .i64 x360000_10, .int .i64 x360001_10, .slice Ao63 x360002_10.length co63] 25 (0,0)) (by (with_reducible repeat (first | refine Qj ?_ _ | refine Qk ?_ | refine Ql ?_ _)); exact BK359.out) hb); have n3_ := Qa (Qh (by repeat (first | (with_reducible first | exact HB.out | apply Qd | apply Qe | apply Qf | refine Qg ?_ GE347.out | refine Qg ?_ GE359.out) | exact HB.out)) hb); clear HO_360002; clear BK347; clear BK359; clear HB; have HO_360002 := n0_; have BK347 := n1_; have BK359 := n2_; have HB := n3_; clear n0_ n1_ n2_ n3_; (try clear hb); (try clear hb2); (try clear hk); (try clear hi); have hcz65_0 : w64.cell? ⟨gb359,0, none⟩ = some (.int .i64 x360000_10) := (Qn BK359.out 0).trans rfl; have hcz65_1 : w64.cell? ⟨gb359,1, none⟩ = some (.int .i64 x360001_10) := (Qn BK359.out 1).trans rfl; have hcz65_2 : w64.cell? ⟨gb359,2, none⟩ = some (.slice Ao63 x360002_10.length co63) := (Qn BK359.out 2).trans rfl; have hfz65_0 := Qm BK359.out 0; have hfz65_1 := Qm BK359.out 1; have hfz65_2 := Qm BK359.out 2) | ((with_reducible refine Qw (f := 15) rfl ?_); refine Qy (some 59) rfl rfl Tryz.func15 (by kernel_rfl) rfl #[.agg #[.int .i64 x360000_10, .int .i64 x360001_10, .slice Ao63 x360002_10.length co63]] rfl (by (try simp only [List.map_toArray, List.map_cons, List.map_nil]); first | done | rfl | (simp only [List.length_drop, List.length_take]; rfl)) ?_; (with_reducible refine (payrollref43_Encode.calls kj10 x360000_10 x360001_10 _ _ x360002_10 t376 t377 _ ?side1 ?side2 A47.out).mono ?_); (case side1 => repeat (first | exact (Xb HO_360002.out).2.2 | (with_reducible refine Kd.C_alloc ?_ _) | (with_reducible refine Kd.C_drewN ?_ _) | (with_reducible refine Kd.C_drew ?_))); (case side2 => exact (Xb HO_360002.out).2.1); rintro e w66 ⟨rfl, hb⟩; refine ⟨_, rfl, ?_⟩; have n0_ := Qa (Xh (by (with_reducible repeat (first | apply Xc | apply Xd | apply Xe)); exact HO_360002.out) hb); have n1_ := Qa (Qb (g := gb347) (o := .cells #[.int .i64 a1_0, .int .i64 a1_1, .slice A1_2 l1_2.length c1_2] 25 (0,0)) (by (with_reducible repeat (first | refine Qj ?_ _ | refine Qk ?_ | refine Ql ?_ _)); exact BK347.out) hb); have n2_ := Qa (Qb (g := gb359) (o := .cells #[.int .i64 x360000_10, .int .i64 x360001_10, .slice Ao63 x360002_10.length co63] 25 (0,0)) (by (with_reducible repeat (first | refine Qj ?_ _ | refine Qk ?_ | refine Ql ?_ _)); exact BK359.out) hb); have n3_ := Qa (Qh (by repeat (first | (with_reducible first | exact HB.out | apply Qd | apply Qe | apply Qf | refine Qg ?_ GE347.out | refine Qg ?_ GE359.out) | exact HB.out)) hb); clear HO_360002; clear BK347; clear BK359; clear HB; have HO_360002 := n0_; have BK347 := n1_; have BK359 := n2_; have HB := n3_; clear n0_ n1_ n2_ n3_; (try clear hb); (try clear hb2); (try clear hk); (try clear hi); have hcz67_0 : w66.cell? ⟨gb347,0, none⟩ = some (.int .i64 a1_0) := (Qn BK347.out 0).trans rfl; have hcz67_1 : w66.cell? ⟨gb347,1, none⟩ = some (.int .i64 a1_1) := (Qn BK347.out 1).trans rfl; have hcz67_2 : w66.cell? ⟨gb347,2, none⟩ = some (.slice A1_2 l1_2.length c1_2) := (Qn BK347.out 2).trans rfl; have hfz67_0 := Qm BK347.out 0; have hfz67_1 := Qm BK347.out 1; have hfz67_2 := Qm BK347.out 2) | ((with_reducible refine Qw (f := 14) rfl ?_); refine Qy (some 64) rfl rfl Tryz.func14 (by kernel_rfl) rfl #[.agg #[.int .i64 a1_0, .int .i64 a1_1, .slice A1_2 l1_2.length c1_2]] rfl (by (try simp only [List.map_toArray, List.map_cons, List.map_nil]); first | done | rfl | (simp only [List.length_drop, List.length_take]; rfl)) ?_; (with_reducible refine (filing_Encode.calls kj10 a1_0 a1_1 _ _ l1_2 t378 t379 _ ?side1 ?side2 ?side3 A48.out).mono ?_); (case side1 => repeat (first | exact (Kd.C_below HR1_2.out HB.out) | (with_reducible refine Kd.C_alloc ?_ _) | (with_reducible refine Kd.C_drewN ?_ _) | (with_reducible refine Kd.C_drew ?_))); (case side2 => exact HC1_2.out); (case side3 => exact Tabs.below HT.out (by repeat (first | (with_reducible first | exact HB.out | apply Qd | apply Qe | apply Qf | refine Qg ?_ GE347.out | refine Qg ?_ GE359.out) | exact HB.out))); rintro e w68 ⟨rfl, hb⟩; refine ⟨_, rfl, ?_⟩; have n0_ := Qa (Xh (by (with_reducible repeat (first | apply Xc | apply Xd | apply Xe)); exact HO_360002.out) hb); have n1_ := Qa (Qb (g := gb347) (o := .cells #[.int .i64 a1_0, .int .i64 a1_1, .slice A1_2 l1_2.length c1_2] 25 (0,0)) (by (with_reducible repeat (first | refine Qj ?_ _ | refine Qk ?_ | refine Ql ?_ _)); exact BK347.out) hb); have n2_ := Qa (Qb (g := gb359) (o := .cells #[.int .i64 x360000_10, .int .i64 x360001_10, .slice Ao63 x360002_10.length co63] 25 (0,0)) (by (with_reducible repeat (first | refine Qj ?_ _ | refine Qk ?_ | refine Ql ?_ _)); exact BK359.out) hb); have n3_ := Qa (Qh (by repeat (first | (with_reducible first | exact HB.out | apply Qd | apply Qe | apply Qf | refine Qg ?_ GE347.out | refine Qg ?_ GE359.out) | exact HB.out)) hb); clear HO_360002; clear BK347; clear BK359; clear HB; have HO_360002 := n0_; have BK347 := n1_; have BK359 := n2_; have HB := n3_; clear n0_ n1_ n2_ n3_; (try clear hb); (try clear hb2); (try clear hk); (try clear hi); have hcz69_0 : w68.cell? ⟨gb347,0, none⟩ = some (.int .i64 a1_0) := (Qn BK347.out 0).trans rfl; have hcz69_1 : w68.cell? ⟨gb347,1, none⟩ = some (.int .i64 a1_1) := (Qn BK347.out 1).trans rfl; have hcz69_2 : w68.cell? ⟨gb347,2, none⟩ = some (.slice A1_2 l1_2.length c1_2) := (Qn BK347.out 2).trans rfl; have hfz69_0 := Qm BK347.out 0; have hfz69_1 := Qm BK347.out 1; have hfz69_2 := Qm BK347.out 2) | ((with_reducible refine Qw (f := 15) rfl ?_); refine Qy (some 69) rfl rfl Tryz.func15 (by kernel_rfl) rfl #[.agg #[.int .i64 a1_0, .int .i64 a1_1, .slice A1_2 l1_2.length c1_2]] rfl (by (try simp only [List.map_toArray, List.map_cons, List.map_nil]); first | done | rfl | (simp only [List.length_drop, List.length_take]; rfl)) ?_; (with_reducible refine (payrollref43_Encode.calls kj10 a1_0 a1_1 _ _ l1_2 t380 t381 _ ?side1 ?side2 A49.out).mono ?_); (case side1 => repeat (first | exact (Kd.C_below HR1_2.out HB.out) | (with_reducible refine Kd.C_alloc ?_ _) | (with_reducible refine Kd.C_drewN ?_ _) | (with_reducible refine Kd.C_drew ?_))); (case side2 => exact HC1_2.out); rintro e w70 ⟨rfl, hb⟩; refine ⟨_, rfl, ?_⟩; have n0_ := Qa (Xh (by (with_reducible repeat (first | apply Xc | apply Xd | apply Xe)); exact HO_360002.out) hb); have n1_ := Qa (Qb (g := gb347) (o := .cells #[.int .i64 a1_0, .int .i64 a1_1, .slice A1_2 l1_2.length c1_2] 25 (0,0)) (by (with_reducible repeat (first | refine Qj ?_ _ | refine Qk ?_ | refine Ql ?_ _)); exact BK347.out) hb); have n2_ := Qa (Qb (g := gb359) (o := .cells #[.int .i64 x360000_10, .int .i64 x360001_10, .slice Ao63 x360002_10.length co63] 25 (0,0)) (by (with_reducible repeat (first | refine Qj ?_ _ | refine Qk ?_ | refine Ql ?_ _)); exact BK359.out) hb); have n3_ := Qa (Qh (by repeat (first | (with_reducible first | exact HB.out | apply Qd | apply Qe | apply Qf | refine Qg ?_ GE347.out | refine Qg ?_ GE359.out) | exact HB.out)) hb); clear HO_360002; clear BK347; clear BK359; clear HB; have HO_360002 := n0_; have BK347 := n1_; have BK359 := n2_; have HB := n3_; clear n0_ n1_ n2_ n3_; (try clear hb); (try clear hb2); (try clear hk); (try clear hi)))
                 have n0_ := Qa (Xe HO_360002.out)
                 have n1_ := Qa (Qk BK347.out)
                 have n2_ := Qa (Qk BK359.out)
                 have n3_ := Qa (Qf HB.out)
                 clear HO_360002
                 clear BK347
                 clear BK359
                 clear HB
                 have HO_360002 := n0_
                 have BK347 := n1_
                 have BK359 := n2_
                 have HB := n3_
                 clear n0_ n1_ n2_ n3_
                 refine start_ (n := 36) (S := fun w' => w'.cell? ⟨gb359,0, none⟩ = some (.int .i64 x360000_10) ∧ w'.cell? ⟨gb359,1, none⟩ = some (.int .i64 x360001_10) ∧ w'.cell? ⟨gb359,2, none⟩ = some (.slice Ao63 x360002_10.length co63) ∧ w'.cell? ⟨gb347,0, none⟩ = some (.int .i64 a1_0) ∧ w'.cell? ⟨gb347,1, none⟩ = some (.int .i64 a1_1) ∧ w'.cell? ⟨gb347,2, none⟩ = some (.slice A1_2 l1_2.length c1_2)) (ds := []) #[Zf,Zf,Zf,Zf,Zf,Zf,Zf,Zf,Zf,Zf,Zf,Zf,Zf,Zf,Zf,Zf,Zf,Zf,Zf,Zf,Zf,Zf,Zf,Zf,Zf,Zf,Zf,Zf,Zf,Zf,Zf,Zf,Zf,Zf,Zf,Zf] (by kernel_rfl) rfl rfl ⟨(Qn BK359.out 0).trans rfl, (Qn BK359.out 1).trans rfl, (Qn BK359.out 2).trans rfl, (Qn BK347.out 0).trans rfl, (Qn BK347.out 1).trans rfl, (Qn BK347.out 2).trans rfl⟩ (fun hHeld => ?_); refine with_tabW payrolllaw43_FilingEncodes.tab17 payrolllaw43_FilingEncodes.bits17 (fun HT_ HW_ => ?_)
                 generalize w70.drew = w71 at HO_360002 BK347 BK359 HB hHeld ⊢
                 refine take_ (i := 0) (N := some 72) (v := ?_) (a' := ?_) #[Zt,Zf,Zf,Zf,Zf,Zf,Zf,Zf,Zf,Zf,Zf,Zf,Zf,Zf,Zf,Zf,Zf,Zf,Zf,Zf,Zf,Zf,Zf,Zf,Zf,Zf,Zf,Zf,Zf,Zf,Zf,Zf,Zf,Zf,Zf,Zf] rfl rfl (take_ofW HT_.out HW_.out (by kernel_rfl)) (fun _ _ _ h => h) (Or.inl ⟨by rfl, ?_⟩) hHeld ?_ ?_
                 rotate_left
                 · rintro w' ⟨s0, s1, s2, s3, s4, s5⟩
                   go_simp
                   with_reducible rfl
                 rotate_left
                 · simp only [Act.put, Xt, Xu, Xv, i64_w, i32_w]
                   rfl
                 refine take_ (i := 2) (N := some 74) (v := ?_) (a' := ?_) #[Zt,Zf,Zt,Zf,Zf,Zf,Zf,Zf,Zf,Zf,Zf,Zf,Zf,Zf,Zf,Zf,Zf,Zf,Zf,Zf,Zf,Zf,Zf,Zf,Zf,Zf,Zf,Zf,Zf,Zf,Zf,Zf,Zf,Zf,Zf,Zf] rfl rfl (take_ofW HT_.out HW_.out (by kernel_rfl)) (fun _ _ _ h => h) (Or.inl ⟨by rfl, ?_⟩) hHeld ?_ ?_
                 rotate_left
                 · rintro w' ⟨s0, s1, s2, s3, s4, s5⟩
                   go_simp
                   with_reducible rfl
                 rotate_left
                 · simp only [Act.put, Xt, Xu, Xv, i64_w, i32_w]
                   rfl
                 refine one_ (i := 1) (N := some 73) #[Zt,Zt,Zt,Zf,Zf,Zf,Zf,Zf,Zf,Zf,Zf,Zf,Zf,Zf,Zf,Zf,Zf,Zf,Zf,Zf,Zf,Zf,Zf,Zf,Zf,Zf,Zf,Zf,Zf,Zf,Zf,Zf,Zf,Zf,Zf,Zf] rfl rfl (one_of HT_.out (by kernel_rfl)) (by decide) (fun K hK => ?_)
                 refine goes_ Tryz.func16 (by kernel_rfl) rfl #[.agg #[.int .i64 x360000_10, .int .i64 x360001_10, .slice Ao63 x360002_10.length co63]] (by rfl) rfl rfl (by (try simp only [List.map_toArray, List.map_cons, List.map_nil]); first | done | rfl | (simp only [List.length_drop, List.length_take]; rfl)) ?_
                 with_reducible refine (filing_Valid.calls kj10 x360000_10 x360001_10 _ _ x360002_10 t382 _ ?side1 ?side2 A50.out).mono ?_
                 (case side1 => repeat (first | exact (Xb HO_360002.out).2.2 | (with_reducible refine Kd.C_alloc ?_ _) | (with_reducible refine Kd.C_drewN ?_ _) | (with_reducible refine Kd.C_drew ?_)))
                 (case side2 => exact (Xb HO_360002.out).2.1)
                 rintro e w72 ⟨rfl, hb⟩
                 refine ⟨_, rfl, ?_⟩
                 have n0_ := Qa (Xh (by (with_reducible repeat (first | apply Xc | apply Xd | apply Xe)); exact HO_360002.out) hb)
                 have n1_ := Qa (Qb (g := gb347) (o := .cells #[.int .i64 a1_0, .int .i64 a1_1, .slice A1_2 l1_2.length c1_2] 25 (0,0)) (by (with_reducible repeat (first | refine Qj ?_ _ | refine Qk ?_ | refine Ql ?_ _)); exact BK347.out) hb)
                 have n2_ := Qa (Qb (g := gb359) (o := .cells #[.int .i64 x360000_10, .int .i64 x360001_10, .slice Ao63 x360002_10.length co63] 25 (0,0)) (by (with_reducible repeat (first | refine Qj ?_ _ | refine Qk ?_ | refine Ql ?_ _)); exact BK359.out) hb)
                 have n3_ := Qa (Qh (by repeat (first | (with_reducible first | exact HB.out | apply Qd | apply Qe | apply Qf | refine Qg ?_ GE347.out | refine Qg ?_ GE359.out) | exact HB.out)) hb)
                 clear HO_360002
                 clear BK347
                 clear BK359
                 clear HB
                 have HO_360002 := n0_
                 have BK347 := n1_
                 have BK359 := n2_
                 have HB := n3_
                 clear n0_ n1_ n2_ n3_
                 (try clear hb)
                 (try clear hb2)
                 (try clear hk)
                 (try clear hi)
                 refine hK.out _ _ ⟨(Qn BK359.out 0).trans rfl, (Qn BK359.out 1).trans rfl, (Qn BK359.out 2).trans rfl, (Qn BK347.out 0).trans rfl, (Qn BK347.out 1).trans rfl, (Qn BK347.out 2).trans rfl⟩ (fun hHeld => ?_)
                 clear hK K
                 refine norm_ (a' := ?_) ?_ ?_
                 rotate_left
                 · show Act.put _ (some 73) _ = _
                   simp only [Act.put, Xt, Xu, Xv, i64_w, i32_w]
                   rfl
                 refine one_ (i := 3) (N := some 75) #[Zt,Zt,Zt,Zt,Zf,Zf,Zf,Zf,Zf,Zf,Zf,Zf,Zf,Zf,Zf,Zf,Zf,Zf,Zf,Zf,Zf,Zf,Zf,Zf,Zf,Zf,Zf,Zf,Zf,Zf,Zf,Zf,Zf,Zf,Zf,Zf] rfl rfl (one_of HT_.out (by kernel_rfl)) (by decide) (fun K hK => ?_)
                 refine goes_ Tryz.func17 (by kernel_rfl) rfl #[.agg #[.int .i64 x360000_10, .int .i64 x360001_10, .slice Ao63 x360002_10.length co63]] (by rfl) rfl rfl (by (try simp only [List.map_toArray, List.map_cons, List.map_nil]); first | done | rfl | (simp only [List.length_drop, List.length_take]; rfl)) ?_
                 with_reducible refine (payrollref43_Valid.calls kj10 x360000_10 x360001_10 _ _ x360002_10 t383 _ ?side1 ?side2 A51.out).mono ?_
                 (case side1 => repeat (first | exact (Xb HO_360002.out).2.2 | (with_reducible refine Kd.C_alloc ?_ _) | (with_reducible refine Kd.C_drewN ?_ _) | (with_reducible refine Kd.C_drew ?_)))
                 (case side2 => exact (Xb HO_360002.out).2.1)
                 rintro e w73 ⟨rfl, hb⟩
                 refine ⟨_, rfl, ?_⟩
                 have n0_ := Qa (Xh (by (with_reducible repeat (first | apply Xc | apply Xd | apply Xe)); exact HO_360002.out) hb)
                 have n1_ := Qa (Qb (g := gb347) (o := .cells #[.int .i64 a1_0, .int .i64 a1_1, .slice A1_2 l1_2.length c1_2] 25 (0,0)) (by (with_reducible repeat (first | refine Qj ?_ _ | refine Qk ?_ | refine Ql ?_ _)); exact BK347.out) hb)
                 have n2_ := Qa (Qb (g := gb359) (o := .cells #[.int .i64 x360000_10, .int .i64 x360001_10, .slice Ao63 x360002_10.length co63] 25 (0,0)) (by (with_reducible repeat (first | refine Qj ?_ _ | refine Qk ?_ | refine Ql ?_ _)); exact BK359.out) hb)
                 have n3_ := Qa (Qh (by repeat (first | (with_reducible first | exact HB.out | apply Qd | apply Qe | apply Qf | refine Qg ?_ GE347.out | refine Qg ?_ GE359.out) | exact HB.out)) hb)
                 clear HO_360002
                 clear BK347
                 clear BK359
                 clear HB
                 have HO_360002 := n0_
                 have BK347 := n1_
                 have BK359 := n2_
                 have HB := n3_
                 clear n0_ n1_ n2_ n3_
                 (try clear hb)
                 (try clear hb2)
                 (try clear hk)
                 (try clear hi)
                 refine hK.out _ _ ⟨(Qn BK359.out 0).trans rfl, (Qn BK359.out 1).trans rfl, (Qn BK359.out 2).trans rfl, (Qn BK347.out 0).trans rfl, (Qn BK347.out 1).trans rfl, (Qn BK347.out 2).trans rfl⟩ (fun hHeld => ?_)
                 clear hK K
                 refine norm_ (a' := ?_) ?_ ?_
                 rotate_left
                 · show Act.put _ (some 75) _ = _
                   simp only [Act.put, Xt, Xu, Xv, i64_w, i32_w]
                   rfl
                 refine pure_ (i := 4) (N := some 76) (v := ?_) (a' := ?_) #[Zt,Zt,Zt,Zt,Zt,Zf,Zf,Zf,Zf,Zf,Zf,Zf,Zf,Zf,Zf,Zf,Zf,Zf,Zf,Zf,Zf,Zf,Zf,Zf,Zf,Zf,Zf,Zf,Zf,Zf,Zf,Zf,Zf,Zf,Zf,Zf] rfl rfl (any_of HT_.out (by kernel_rfl)) (fun _ _ _ h => h) (Or.inl ⟨by rfl, ?_⟩) ?_ ?_
                 rotate_left
                 · intro w'
                   go_simp
                   with_reducible rfl
                 rotate_left
                 · simp only [Act.put, Xt, Xu, Xv, i64_w, i32_w]
                   rfl
                 refine pure_ (i := 5) (N := some 77) (v := ?_) (a' := ?_) #[Zt,Zt,Zt,Zt,Zt,Zt,Zf,Zf,Zf,Zf,Zf,Zf,Zf,Zf,Zf,Zf,Zf,Zf,Zf,Zf,Zf,Zf,Zf,Zf,Zf,Zf,Zf,Zf,Zf,Zf,Zf,Zf,Zf,Zf,Zf,Zf] rfl rfl (any_of HT_.out (by kernel_rfl)) (fun _ _ _ h => h) (Or.inl ⟨by rfl, ?_⟩) ?_ ?_
                 rotate_left
                 · intro w'
                   go_simp
                   with_reducible rfl
                 rotate_left
                 · simp only [Act.put, Xt, Xu, Xv, i64_w, i32_w]
                   rfl
                 refine take_ (i := 6) (N := some 78) (v := ?_) (a' := ?_) #[Zt,Zt,Zt,Zt,Zt,Zt,Zt,Zf,Zf,Zf,Zf,Zf,Zf,Zf,Zf,Zf,Zf,Zf,Zf,Zf,Zf,Zf,Zf,Zf,Zf,Zf,Zf,Zf,Zf,Zf,Zf,Zf,Zf,Zf,Zf,Zf] rfl rfl (take_ofW HT_.out HW_.out (by kernel_rfl)) (fun _ _ _ h => h) (Or.inl ⟨by rfl, ?_⟩) hHeld ?_ ?_
                 rotate_left
                 · rintro w' ⟨s0, s1, s2, s3, s4, s5⟩
                   go_simp
                   with_reducible rfl
                 rotate_left
                 · simp only [Act.put, Xt, Xu, Xv, i64_w, i32_w]
                   rfl
                 refine take_ (i := 8) (N := some 80) (v := ?_) (a' := ?_) #[Zt,Zt,Zt,Zt,Zt,Zt,Zt,Zf,Zt,Zf,Zf,Zf,Zf,Zf,Zf,Zf,Zf,Zf,Zf,Zf,Zf,Zf,Zf,Zf,Zf,Zf,Zf,Zf,Zf,Zf,Zf,Zf,Zf,Zf,Zf,Zf] rfl rfl (take_ofW HT_.out HW_.out (by kernel_rfl)) (fun _ _ _ h => h) (Or.inl ⟨by rfl, ?_⟩) hHeld ?_ ?_
                 rotate_left
                 · rintro w' ⟨s0, s1, s2, s3, s4, s5⟩
                   go_simp
                   with_reducible rfl
                 rotate_left
                 · simp only [Act.put, Xt, Xu, Xv, i64_w, i32_w]
                   rfl
                 refine one_ (i := 7) (N := some 79) #[Zt,Zt,Zt,Zt,Zt,Zt,Zt,Zt,Zt,Zf,Zf,Zf,Zf,Zf,Zf,Zf,Zf,Zf,Zf,Zf,Zf,Zf,Zf,Zf,Zf,Zf,Zf,Zf,Zf,Zf,Zf,Zf,Zf,Zf,Zf,Zf] rfl rfl (one_of HT_.out (by kernel_rfl)) (by decide) (fun K hK => ?_)
                 refine goes_ Tryz.func16 (by kernel_rfl) rfl #[.agg #[.int .i64 a1_0, .int .i64 a1_1, .slice A1_2 l1_2.length c1_2]] (by rfl) rfl rfl (by (try simp only [List.map_toArray, List.map_cons, List.map_nil]); first | done | rfl | (simp only [List.length_drop, List.length_take]; rfl)) ?_
                 with_reducible refine (filing_Valid.calls kj10 a1_0 a1_1 _ _ l1_2 t384 _ ?side1 ?side2 A53.out).mono ?_
                 (case side1 => repeat (first | exact (Kd.C_below HR1_2.out HB.out) | (with_reducible refine Kd.C_alloc ?_ _) | (with_reducible refine Kd.C_drewN ?_ _) | (with_reducible refine Kd.C_drew ?_)))
                 (case side2 => exact HC1_2.out)
                 rintro e w74 ⟨rfl, hb⟩
                 refine ⟨_, rfl, ?_⟩
                 have n0_ := Qa (Xh (by (with_reducible repeat (first | apply Xc | apply Xd | apply Xe)); exact HO_360002.out) hb)
                 have n1_ := Qa (Qb (g := gb347) (o := .cells #[.int .i64 a1_0, .int .i64 a1_1, .slice A1_2 l1_2.length c1_2] 25 (0,0)) (by (with_reducible repeat (first | refine Qj ?_ _ | refine Qk ?_ | refine Ql ?_ _)); exact BK347.out) hb)
                 have n2_ := Qa (Qb (g := gb359) (o := .cells #[.int .i64 x360000_10, .int .i64 x360001_10, .slice Ao63 x360002_10.length co63] 25 (0,0)) (by (with_reducible repeat (first | refine Qj ?_ _ | refine Qk ?_ | refine Ql ?_ _)); exact BK359.out) hb)
                 have n3_ := Qa (Qh (by repeat (first | (with_reducible first | exact HB.out | apply Qd | apply Qe | apply Qf | refine Qg ?_ GE347.out | refine Qg ?_ GE359.out) | exact HB.out)) hb)
                 clear HO_360002
                 clear BK347
                 clear BK359
                 clear HB
                 have HO_360002 := n0_
                 have BK347 := n1_
                 have BK359 := n2_
                 have HB := n3_
                 clear n0_ n1_ n2_ n3_
                 (try clear hb)
                 (try clear hb2)
                 (try clear hk)
                 (try clear hi)
                 refine hK.out _ _ ⟨(Qn BK359.out 0).trans rfl, (Qn BK359.out 1).trans rfl, (Qn BK359.out 2).trans rfl, (Qn BK347.out 0).trans rfl, (Qn BK347.out 1).trans rfl, (Qn BK347.out 2).trans rfl⟩ (fun hHeld => ?_)
                 clear hK K
                 refine norm_ (a' := ?_) ?_ ?_
                 rotate_left
                 · show Act.put _ (some 79) _ = _
                   simp only [Act.put, Xt, Xu, Xv, i64_w, i32_w]
                   rfl
                 refine one_ (i := 9) (N := some 81) #[Zt,Zt,Zt,Zt,Zt,Zt,Zt,Zt,Zt,Zt,Zf,Zf,Zf,Zf,Zf,Zf,Zf,Zf,Zf,Zf,Zf,Zf,Zf,Zf,Zf,Zf,Zf,Zf,Zf,Zf,Zf,Zf,Zf,Zf,Zf,Zf] rfl rfl (one_of HT_.out (by kernel_rfl)) (by decide) (fun K hK => ?_)
                 refine goes_ Tryz.func17 (by kernel_rfl) rfl #[.agg #[.int .i64 a1_0, .int .i64 a1_1, .slice A1_2 l1_2.length c1_2]] (by rfl) rfl rfl (by (try simp only [List.map_toArray, List.map_cons, List.map_nil]); first | done | rfl | (simp only [List.length_drop, List.length_take]; rfl)) ?_
                 with_reducible refine (payrollref43_Valid.calls kj10 a1_0 a1_1 _ _ l1_2 t385 _ ?side1 ?side2 A54.out).mono ?_
                 (case side1 => repeat (first | exact (Kd.C_below HR1_2.out HB.out) | (with_reducible refine Kd.C_alloc ?_ _) | (with_reducible refine Kd.C_drewN ?_ _) | (with_reducible refine Kd.C_drew ?_)))
                 (case side2 => exact HC1_2.out)
                 rintro e w75 ⟨rfl, hb⟩
                 refine ⟨_, rfl, ?_⟩
                 have n0_ := Qa (Xh (by (with_reducible repeat (first | apply Xc | apply Xd | apply Xe)); exact HO_360002.out) hb)
                 have n1_ := Qa (Qb (g := gb347) (o := .cells #[.int .i64 a1_0, .int .i64 a1_1, .slice A1_2 l1_2.length c1_2] 25 (0,0)) (by (with_reducible repeat (first | refine Qj ?_ _ | refine Qk ?_ | refine Ql ?_ _)); exact BK347.out) hb)
                 have n2_ := Qa (Qb (g := gb359) (o := .cells #[.int .i64 x360000_10, .int .i64 x360001_10, .slice Ao63 x360002_10.length co63] 25 (0,0)) (by (with_reducible repeat (first | refine Qj ?_ _ | refine Qk ?_ | refine Ql ?_ _)); exact BK359.out) hb)
                 have n3_ := Qa (Qh (by repeat (first | (with_reducible first | exact HB.out | apply Qd | apply Qe | apply Qf | refine Qg ?_ GE347.out | refine Qg ?_ GE359.out) | exact HB.out)) hb)
                 clear HO_360002
                 clear BK347
                 clear BK359
                 clear HB
                 have HO_360002 := n0_
                 have BK347 := n1_
                 have BK359 := n2_
                 have HB := n3_
                 clear n0_ n1_ n2_ n3_
                 (try clear hb)
                 (try clear hb2)
                 (try clear hk)
                 (try clear hi)
                 refine hK.out _ _ ⟨(Qn BK359.out 0).trans rfl, (Qn BK359.out 1).trans rfl, (Qn BK359.out 2).trans rfl, (Qn BK347.out 0).trans rfl, (Qn BK347.out 1).trans rfl, (Qn BK347.out 2).trans rfl⟩ (fun hHeld => ?_)
                 clear hK K
                 refine norm_ (a' := ?_) ?_ ?_
                 rotate_left
                 · show Act.put _ (some 81) _ = _
                   simp only [Act.put, Xt, Xu, Xv, i64_w, i32_w]
                   rfl
                 refine pure_ (i := 10) (N := some 82) (v := ?_) (a' := ?_) #[Zt,Zt,Zt,Zt,Zt,Zt,Zt,Zt,Zt,Zt,Zt,Zf,Zf,Zf,Zf,Zf,Zf,Zf,Zf,Zf,Zf,Zf,Zf,Zf,Zf,Zf,Zf,Zf,Zf,Zf,Zf,Zf,Zf,Zf,Zf,Zf] rfl rfl (any_of HT_.out (by kernel_rfl)) (fun _ _ _ h => h) (Or.inl ⟨by rfl, ?_⟩) ?_ ?_
                 rotate_left
                 · intro w'
                   go_simp
                   with_reducible rfl
                 rotate_left
                 · simp only [Act.put, Xt, Xu, Xv, i64_w, i32_w]
                   rfl
                 refine pure_ (i := 11) (N := some 83) (v := ?_) (a' := ?_) #[Zt,Zt,Zt,Zt,Zt,Zt,Zt,Zt,Zt,Zt,Zt,Zt,Zf,Zf,Zf,Zf,Zf,Zf,Zf,Zf,Zf,Zf,Zf,Zf,Zf,Zf,Zf,Zf,Zf,Zf,Zf,Zf,Zf,Zf,Zf,Zf] rfl rfl (any_of HT_.out (by kernel_rfl)) (fun _ _ _ h => h) (Or.inl ⟨by rfl, ?_⟩) ?_ ?_
                 rotate_left
                 · intro w'
                   go_simp
                   with_reducible rfl
                 rotate_left
                 · simp only [Act.put, Xt, Xu, Xv, i64_w, i32_w]
                   rfl
                 refine pure_ (i := 12) (N := some 84) (v := ?_) (a' := ?_) #[Zt,Zt,Zt,Zt,Zt,Zt,Zt,Zt,Zt,Zt,Zt,Zt,Zt,Zf,Zf,Zf,Zf,Zf,Zf,Zf,Zf,Zf,Zf,Zf,Zf,Zf,Zf,Zf,Zf,Zf,Zf,Zf,Zf,Zf,Zf,Zf] rfl rfl (any_of HT_.out (by kernel_rfl)) (fun _ _ _ h => h) (Or.inl ⟨by rfl, ?_⟩) ?_ ?_
                 rotate_left
                 · intro w'
                   go_simp
                   with_reducible rfl
                 rotate_left
                 · simp only [Act.put, Xt, Xu, Xv, i64_w, i32_w]
                   rfl
                 refine pure_ (i := 13) (N := some 85) (v := ?_) (a' := ?_) #[Zt,Zt,Zt,Zt,Zt,Zt,Zt,Zt,Zt,Zt,Zt,Zt,Zt,Zt,Zf,Zf,Zf,Zf,Zf,Zf,Zf,Zf,Zf,Zf,Zf,Zf,Zf,Zf,Zf,Zf,Zf,Zf,Zf,Zf,Zf,Zf] rfl rfl (any_of HT_.out (by kernel_rfl)) (fun _ _ _ h => h) (Or.inl ⟨by rfl, ?_⟩) ?_ ?_
                 rotate_left
                 · intro w'
                   go_simp
                   with_reducible rfl
                 rotate_left
                 · simp only [Act.put, Xt, Xu, Xv, i64_w, i32_w]
                   rfl
                 refine pure_ (i := 14) (N := some 86) (v := ?_) (a' := ?_) #[Zt,Zt,Zt,Zt,Zt,Zt,Zt,Zt,Zt,Zt,Zt,Zt,Zt,Zt,Zt,Zf,Zf,Zf,Zf,Zf,Zf,Zf,Zf,Zf,Zf,Zf,Zf,Zf,Zf,Zf,Zf,Zf,Zf,Zf,Zf,Zf] rfl rfl (any_of HT_.out (by kernel_rfl)) (fun _ _ _ h => h) (Or.inl ⟨by rfl, ?_⟩) ?_ ?_
                 rotate_left
                 · intro w'
                   go_simp
                   with_reducible rfl
                 rotate_left
                 · simp only [Act.put, Xt, Xu, Xv, i64_w, i32_w]
                   rfl
                 refine pure_ (i := 15) (N := some 87) (v := ?_) (a' := ?_) #[Zt,Zt,Zt,Zt,Zt,Zt,Zt,Zt,Zt,Zt,Zt,Zt,Zt,Zt,Zt,Zt,Zf,Zf,Zf,Zf,Zf,Zf,Zf,Zf,Zf,Zf,Zf,Zf,Zf,Zf,Zf,Zf,Zf,Zf,Zf,Zf] rfl rfl (any_of HT_.out (by kernel_rfl)) (fun _ _ _ h => h) (Or.inl ⟨by rfl, ?_⟩) ?_ ?_
                 rotate_left
                 · intro w'
                   go_simp
                   with_reducible rfl
                 rotate_left
                 · simp only [Act.put, Xt, Xu, Xv, i64_w, i32_w]
                   rfl
                 refine pure_ (i := 16) (N := some 88) (v := ?_) (a' := ?_) #[Zt,Zt,Zt,Zt,Zt,Zt,Zt,Zt,Zt,Zt,Zt,Zt,Zt,Zt,Zt,Zt,Zt,Zf,Zf,Zf,Zf,Zf,Zf,Zf,Zf,Zf,Zf,Zf,Zf,Zf,Zf,Zf,Zf,Zf,Zf,Zf] rfl rfl (any_of HT_.out (by kernel_rfl)) (fun _ _ _ h => h) (Or.inl ⟨by rfl, ?_⟩) ?_ ?_
                 rotate_left
                 · intro w'
                   go_simp
                   with_reducible rfl
                 rotate_left
                 · simp only [Act.put, Xt, Xu, Xv, i64_w, i32_w]
                   rfl
                 refine pure_ (i := 17) (N := some 89) (v := ?_) (a' := ?_) #[Zt,Zt,Zt,Zt,Zt,Zt,Zt,Zt,Zt,Zt,Zt,Zt,Zt,Zt,Zt,Zt,Zt,Zt,Zf,Zf,Zf,Zf,Zf,Zf,Zf,Zf,Zf,Zf,Zf,Zf,Zf,Zf,Zf,Zf,Zf,Zf] rfl rfl (any_of HT_.out (by kernel_rfl)) (fun _ _ _ h => h) (Or.inl ⟨by rfl, ?_⟩) ?_ ?_
                 rotate_left
                 · intro w'
                   go_simp
                   with_reducible rfl
                 rotate_left
                 · simp only [Act.put, Xt, Xu, Xv, i64_w, i32_w]
                   rfl
                 refine pure_ (i := 18) (N := some 90) (v := ?_) (a' := ?_) #[Zt,Zt,Zt,Zt,Zt,Zt,Zt,Zt,Zt,Zt,Zt,Zt,Zt,Zt,Zt,Zt,Zt,Zt,Zt,Zf,Zf,Zf,Zf,Zf,Zf,Zf,Zf,Zf,Zf,Zf,Zf,Zf,Zf,Zf,Zf,Zf] rfl rfl (any_of HT_.out (by kernel_rfl)) (fun _ _ _ h => h) (Or.inl ⟨by rfl, ?_⟩) ?_ ?_
                 rotate_left
                 · intro w'
                   go_simp
                   with_reducible rfl
                 rotate_left
                 · simp only [Act.put, Xt, Xu, Xv, i64_w, i32_w]
                   rfl
                 refine pure_ (i := 19) (N := some 91) (v := ?_) (a' := ?_) #[Zt,Zt,Zt,Zt,Zt,Zt,Zt,Zt,Zt,Zt,Zt,Zt,Zt,Zt,Zt,Zt,Zt,Zt,Zt,Zt,Zf,Zf,Zf,Zf,Zf,Zf,Zf,Zf,Zf,Zf,Zf,Zf,Zf,Zf,Zf,Zf] rfl rfl (any_of HT_.out (by kernel_rfl)) (fun _ _ _ h => h) (Or.inl ⟨by rfl, ?_⟩) ?_ ?_
                 rotate_left
                 · intro w'
                   go_simp
                   with_reducible rfl
                 rotate_left
                 · simp only [Act.put, Xt, Xu, Xv, i64_w, i32_w]
                   rfl
                 refine pure_ (i := 20) (N := some 92) (v := ?_) (a' := ?_) #[Zt,Zt,Zt,Zt,Zt,Zt,Zt,Zt,Zt,Zt,Zt,Zt,Zt,Zt,Zt,Zt,Zt,Zt,Zt,Zt,Zt,Zf,Zf,Zf,Zf,Zf,Zf,Zf,Zf,Zf,Zf,Zf,Zf,Zf,Zf,Zf] rfl rfl (any_of HT_.out (by kernel_rfl)) (fun _ _ _ h => h) (Or.inl ⟨by rfl, ?_⟩) ?_ ?_
                 rotate_left
                 · intro w'
                   go_simp
                   with_reducible rfl
                 rotate_left
                 · simp only [Act.put, Xt, Xu, Xv, i64_w, i32_w]
                   rfl
                 refine pure_ (i := 21) (N := some 93) (v := ?_) (a' := ?_) #[Zt,Zt,Zt,Zt,Zt,Zt,Zt,Zt,Zt,Zt,Zt,Zt,Zt,Zt,Zt,Zt,Zt,Zt,Zt,Zt,Zt,Zt,Zf,Zf,Zf,Zf,Zf,Zf,Zf,Zf,Zf,Zf,Zf,Zf,Zf,Zf] rfl rfl (any_of HT_.out (by kernel_rfl)) (fun _ _ _ h => h) (Or.inl ⟨by rfl, ?_⟩) ?_ ?_
                 rotate_left
                 · intro w'
                   go_simp
                   with_reducible rfl
                 rotate_left
                 · simp only [Act.put, Xt, Xu, Xv, i64_w, i32_w]
                   rfl
                 refine pure_ (i := 22) (N := some 94) (v := ?_) (a' := ?_) #[Zt,Zt,Zt,Zt,Zt,Zt,Zt,Zt,Zt,Zt,Zt,Zt,Zt,Zt,Zt,Zt,Zt,Zt,Zt,Zt,Zt,Zt,Zt,Zf,Zf,Zf,Zf,Zf,Zf,Zf,Zf,Zf,Zf,Zf,Zf,Zf] rfl rfl (any_of HT_.out (by kernel_rfl)) (fun _ _ _ h => h) (Or.inl ⟨by rfl, ?_⟩) ?_ ?_
                 rotate_left
                 · intro w'
                   go_simp
                   with_reducible rfl
                 rotate_left
                 · simp only [Act.put, Xt, Xu, Xv, i64_w, i32_w]
                   rfl
                 refine pure_ (i := 23) (N := some 95) (v := ?_) (a' := ?_) #[Zt,Zt,Zt,Zt,Zt,Zt,Zt,Zt,Zt,Zt,Zt,Zt,Zt,Zt,Zt,Zt,Zt,Zt,Zt,Zt,Zt,Zt,Zt,Zt,Zf,Zf,Zf,Zf,Zf,Zf,Zf,Zf,Zf,Zf,Zf,Zf] rfl rfl (any_of HT_.out (by kernel_rfl)) (fun _ _ _ h => h) (Or.inl ⟨by rfl, ?_⟩) ?_ ?_
                 rotate_left
                 · intro w'
                   go_simp
                   with_reducible rfl
                 rotate_left
                 · simp only [Act.put, Xt, Xu, Xv, i64_w, i32_w]
                   rfl
                 refine pure_ (i := 24) (N := some 96) (v := ?_) (a' := ?_) #[Zt,Zt,Zt,Zt,Zt,Zt,Zt,Zt,Zt,Zt,Zt,Zt,Zt,Zt,Zt,Zt,Zt,Zt,Zt,Zt,Zt,Zt,Zt,Zt,Zt,Zf,Zf,Zf,Zf,Zf,Zf,Zf,Zf,Zf,Zf,Zf] rfl rfl (any_of HT_.out (by kernel_rfl)) (fun _ _ _ h => h) (Or.inl ⟨by rfl, ?_⟩) ?_ ?_
                 rotate_left
                 · intro w'
                   go_simp
                   with_reducible rfl
                 rotate_left
                 · simp only [Act.put, Xt, Xu, Xv, i64_w, i32_w]
                   rfl
                 refine pure_ (i := 25) (N := some 97) (v := ?_) (a' := ?_) #[Zt,Zt,Zt,Zt,Zt,Zt,Zt,Zt,Zt,Zt,Zt,Zt,Zt,Zt,Zt,Zt,Zt,Zt,Zt,Zt,Zt,Zt,Zt,Zt,Zt,Zt,Zf,Zf,Zf,Zf,Zf,Zf,Zf,Zf,Zf,Zf] rfl rfl (any_of HT_.out (by kernel_rfl)) (fun _ _ _ h => h) (Or.inl ⟨by rfl, ?_⟩) ?_ ?_
                 rotate_left
                 · intro w'
                   go_simp
                   with_reducible rfl
                 rotate_left
                 · simp only [Act.put, Xt, Xu, Xv, i64_w, i32_w]
                   rfl
                 refine pure_ (i := 26) (N := some 98) (v := ?_) (a' := ?_) #[Zt,Zt,Zt,Zt,Zt,Zt,Zt,Zt,Zt,Zt,Zt,Zt,Zt,Zt,Zt,Zt,Zt,Zt,Zt,Zt,Zt,Zt,Zt,Zt,Zt,Zt,Zt,Zf,Zf,Zf,Zf,Zf,Zf,Zf,Zf,Zf] rfl rfl (any_of HT_.out (by kernel_rfl)) (fun _ _ _ h => h) (Or.inl ⟨by rfl, ?_⟩) ?_ ?_
                 rotate_left
                 · intro w'
                   go_simp
                   with_reducible rfl
                 rotate_left
                 · simp only [Act.put, Xt, Xu, Xv, i64_w, i32_w]
                   rfl
                 refine pure_ (i := 27) (N := some 99) (v := ?_) (a' := ?_) #[Zt,Zt,Zt,Zt,Zt,Zt,Zt,Zt,Zt,Zt,Zt,Zt,Zt,Zt,Zt,Zt,Zt,Zt,Zt,Zt,Zt,Zt,Zt,Zt,Zt,Zt,Zt,Zt,Zf,Zf,Zf,Zf,Zf,Zf,Zf,Zf] rfl rfl (any_of HT_.out (by kernel_rfl)) (fun _ _ _ h => h) (Or.inl ⟨by rfl, ?_⟩) ?_ ?_
                 rotate_left
                 · intro w'
                   go_simp
                   with_reducible rfl
                 rotate_left
                 · simp only [Act.put, Xt, Xu, Xv, i64_w, i32_w]
                   rfl
                 refine pure_ (i := 28) (N := some 100) (v := ?_) (a' := ?_) #[Zt,Zt,Zt,Zt,Zt,Zt,Zt,Zt,Zt,Zt,Zt,Zt,Zt,Zt,Zt,Zt,Zt,Zt,Zt,Zt,Zt,Zt,Zt,Zt,Zt,Zt,Zt,Zt,Zt,Zf,Zf,Zf,Zf,Zf,Zf,Zf] rfl rfl (any_of HT_.out (by kernel_rfl)) (fun _ _ _ h => h) (Or.inl ⟨by rfl, ?_⟩) ?_ ?_
                 rotate_left
                 · intro w'
                   go_simp
                   with_reducible rfl
                 rotate_left
                 · simp only [Act.put, Xt, Xu, Xv, i64_w, i32_w]
                   rfl
                 refine pure_ (i := 29) (N := some 101) (v := ?_) (a' := ?_) #[Zt,Zt,Zt,Zt,Zt,Zt,Zt,Zt,Zt,Zt,Zt,Zt,Zt,Zt,Zt,Zt,Zt,Zt,Zt,Zt,Zt,Zt,Zt,Zt,Zt,Zt,Zt,Zt,Zt,Zt,Zf,Zf,Zf,Zf,Zf,Zf] rfl rfl (any_of HT_.out (by kernel_rfl)) (fun _ _ _ h => h) (Or.inl ⟨by rfl, ?_⟩) ?_ ?_
                 rotate_left
                 · intro w'
                   go_simp
                   with_reducible rfl
                 rotate_left
                 · simp only [Act.put, Xt, Xu, Xv, i64_w, i32_w]
                   rfl
                 refine pure_ (i := 30) (N := some 102) (v := ?_) (a' := ?_) #[Zt,Zt,Zt,Zt,Zt,Zt,Zt,Zt,Zt,Zt,Zt,Zt,Zt,Zt,Zt,Zt,Zt,Zt,Zt,Zt,Zt,Zt,Zt,Zt,Zt,Zt,Zt,Zt,Zt,Zt,Zt,Zf,Zf,Zf,Zf,Zf] rfl rfl (any_of HT_.out (by kernel_rfl)) (fun _ _ _ h => h) (Or.inl ⟨by rfl, ?_⟩) ?_ ?_
                 rotate_left
                 · intro w'
                   go_simp
                   with_reducible rfl
                 rotate_left
                 · simp only [Act.put, Xt, Xu, Xv, i64_w, i32_w]
                   rfl
                 refine pure_ (i := 31) (N := some 103) (v := ?_) (a' := ?_) #[Zt,Zt,Zt,Zt,Zt,Zt,Zt,Zt,Zt,Zt,Zt,Zt,Zt,Zt,Zt,Zt,Zt,Zt,Zt,Zt,Zt,Zt,Zt,Zt,Zt,Zt,Zt,Zt,Zt,Zt,Zt,Zt,Zf,Zf,Zf,Zf] rfl rfl (any_of HT_.out (by kernel_rfl)) (fun _ _ _ h => h) (Or.inl ⟨by rfl, ?_⟩) ?_ ?_
                 rotate_left
                 · intro w'
                   go_simp
                   with_reducible rfl
                 rotate_left
                 · simp only [Act.put, Xt, Xu, Xv, i64_w, i32_w]
                   rfl
                 refine pure_ (i := 32) (N := some 104) (v := ?_) (a' := ?_) #[Zt,Zt,Zt,Zt,Zt,Zt,Zt,Zt,Zt,Zt,Zt,Zt,Zt,Zt,Zt,Zt,Zt,Zt,Zt,Zt,Zt,Zt,Zt,Zt,Zt,Zt,Zt,Zt,Zt,Zt,Zt,Zt,Zt,Zf,Zf,Zf] rfl rfl (any_of HT_.out (by kernel_rfl)) (fun _ _ _ h => h) (Or.inl ⟨by rfl, ?_⟩) ?_ ?_
                 rotate_left
                 · intro w'
                   go_simp
                   with_reducible rfl
                 rotate_left
                 · simp only [Act.put, Xt, Xu, Xv, i64_w, i32_w]
                   rfl
                 refine one_ (i := 33) (N := some 105) #[Zt,Zt,Zt,Zt,Zt,Zt,Zt,Zt,Zt,Zt,Zt,Zt,Zt,Zt,Zt,Zt,Zt,Zt,Zt,Zt,Zt,Zt,Zt,Zt,Zt,Zt,Zt,Zt,Zt,Zt,Zt,Zt,Zt,Zt,Zf,Zf] rfl rfl (one_of HT_.out (by kernel_rfl)) (by decide) (fun K hK => ?_)
                 refine goes_ Tryz.func9 (by kernel_rfl) rfl #[] (by rfl) rfl rfl (by (try simp only [List.map_toArray, List.map_cons, List.map_nil]); first | done | rfl | (simp only [List.length_drop, List.length_take]; rfl)) ?_
                 with_reducible refine (payrolllaw43_awake.calls kj10  true _ ?side1 A60.out).mono ?_
                 (case side1 => exact Tabs.below HT.out (by repeat (first | (with_reducible first | exact HB.out | apply Qd | apply Qe | apply Qf | refine Qg ?_ GE347.out | refine Qg ?_ GE359.out) | exact HB.out)))
                 rintro e w76 ⟨rfl, hb⟩
                 refine ⟨_, rfl, ?_⟩
                 have n0_ := Qa (Xh (by (with_reducible repeat (first | apply Xc | apply Xd | apply Xe)); exact HO_360002.out) hb)
                 have n1_ := Qa (Qb (g := gb347) (o := .cells #[.int .i64 a1_0, .int .i64 a1_1, .slice A1_2 l1_2.length c1_2] 25 (0,0)) (by (with_reducible repeat (first | refine Qj ?_ _ | refine Qk ?_ | refine Ql ?_ _)); exact BK347.out) hb)
                 have n2_ := Qa (Qb (g := gb359) (o := .cells #[.int .i64 x360000_10, .int .i64 x360001_10, .slice Ao63 x360002_10.length co63] 25 (0,0)) (by (with_reducible repeat (first | refine Qj ?_ _ | refine Qk ?_ | refine Ql ?_ _)); exact BK359.out) hb)
                 have n3_ := Qa (Qh (by repeat (first | (with_reducible first | exact HB.out | apply Qd | apply Qe | apply Qf | refine Qg ?_ GE347.out | refine Qg ?_ GE359.out) | exact HB.out)) hb)
                 clear HO_360002
                 clear BK347
                 clear BK359
                 clear HB
                 have HO_360002 := n0_
                 have BK347 := n1_
                 have BK359 := n2_
                 have HB := n3_
                 clear n0_ n1_ n2_ n3_
                 (try clear hb)
                 (try clear hb2)
                 (try clear hk)
                 (try clear hi)
                 refine hK.out _ _ ⟨(Qn BK359.out 0).trans rfl, (Qn BK359.out 1).trans rfl, (Qn BK359.out 2).trans rfl, (Qn BK347.out 0).trans rfl, (Qn BK347.out 1).trans rfl, (Qn BK347.out 2).trans rfl⟩ (fun hHeld => ?_)
                 clear hK K
                 refine norm_ (a' := ?_) ?_ ?_
                 rotate_left
                 · show Act.put _ (some 105) _ = _
                   simp only [Act.put, Xt, Xu, Xv, i64_w, i32_w]
                   rfl
                 refine pure_ (i := 34) (N := some 106) (v := ?_) (a' := ?_) #[Zt,Zt,Zt,Zt,Zt,Zt,Zt,Zt,Zt,Zt,Zt,Zt,Zt,Zt,Zt,Zt,Zt,Zt,Zt,Zt,Zt,Zt,Zt,Zt,Zt,Zt,Zt,Zt,Zt,Zt,Zt,Zt,Zt,Zt,Zt,Zf] rfl rfl (any_of HT_.out (by kernel_rfl)) (fun _ _ _ h => h) (Or.inl ⟨by rfl, ?_⟩) ?_ ?_
                 rotate_left
                 · intro w'
                   go_simp
                   with_reducible rfl
                 rotate_left
                 · simp only [Act.put, Xt, Xu, Xv, i64_w, i32_w]
                   rfl
                 refine pure_ (i := 35) (N := some 8) (v := ?_) (a' := ?_) #[Zt,Zt,Zt,Zt,Zt,Zt,Zt,Zt,Zt,Zt,Zt,Zt,Zt,Zt,Zt,Zt,Zt,Zt,Zt,Zt,Zt,Zt,Zt,Zt,Zt,Zt,Zt,Zt,Zt,Zt,Zt,Zt,Zt,Zt,Zt,Zt] rfl rfl (any_of HT_.out (by kernel_rfl)) (fun _ _ _ h => h) (Or.inl ⟨by rfl, ?_⟩) ?_ ?_
                 rotate_left
                 · intro w'
                   go_simp
                   with_reducible rfl
                 rotate_left
                 · simp only [Act.put, Xt, Xu, Xv, i64_w, i32_w]
                   rfl
                 refine done_ (done_of HT_.out (by kernel_rfl)) ?_
                 try go_wp2
                 go_ret
                 exact ⟨by first | rfl | (rw [HY.out] <;> rfl) | (simp [errW_none, errW_some] <;> rfl) | (simp [*, errW_none, errW_some] <;> rfl), by repeat (first | (with_reducible first | exact HB.out | apply Qd | apply Qe | apply Qf | refine Qg ?_ GE347.out | refine Qg ?_ GE359.out) | exact HB.out)⟩
               rw [if_neg c59] at H
               have c59b0 : (t379 == t381) = false := Ya.mpr c59
               have c59b1 : (t379 != t381) = true := Yc.mpr c59
               exact absurd H (by simp)
             rw [if_neg c58] at H
             have c58b0 : (t378.toList == t380.toList) = false := Ya.mpr c58
             have c58b1 : (t378.toList != t380.toList) = true := Yc.mpr c58
             exact absurd H (by simp)
           rw [if_neg c57] at H
           have c57b0 : (t375 == t377) = false := Ya.mpr c57
           have c57b1 : (t375 != t377) = true := Yc.mpr c57
           exact absurd H (by simp)
         rw [if_neg c56] at H
         have c56b0 : (t374.toList == t376.toList) = false := Ya.mpr c56
         have c56b1 : (t374.toList != t376.toList) = true := Yc.mpr c56
         exact absurd H (by simp)
       rw [if_neg c55] at H
       have c55b0 : (t384 == t385) = false := by simpa using c55
       (try (have c55b1 : decide (t384 = t385) = false := by simpa using c55))
       (try (have c55b2 : (t384 == t385) = false := by simpa using c55))
       (try (have c55b3 : ¬ (t384 = t385) := by simpa using c55))
       clear c55
       exact absurd H (by simp)
     rw [if_neg c52] at H
     have c52b0 : (t382 == t383) = false := by simpa using c52
     (try (have c52b1 : decide (t382 = t383) = false := by simpa using c52))
     (try (have c52b2 : (t382 == t383) = false := by simpa using c52))
     (try (have c52b3 : ¬ (t382 = t383) := by simpa using c52))
     clear c52
     exact absurd H (by simp)
 replace c6 := Bool.eq_false_iff.mpr c6
 subst c6
 have H1 : ((payrolllaw43_awake.f k).bind fun t349 => (some t349)) = some true := by rw [if_neg (show ¬ (false = true) by decide)] at H; exact H
 clear H
 have H := H1
 clear H1
 replace H := Xx.mp H
 obtain ⟨t349, A770, H⟩ := H
 replace H : (some t349) = some true := H
 have A77 := Qa A770
 clear A770
 obtain rfl := Xz H
 go_enter Tryz.func3, Tryz.ntmps3
 go_wp2_with (first | ((with_reducible refine Qx (N := 5) rfl ?_); refine Qv ?hg (N := 5) ?hd (cs := #[.int .i64 a1_0, .int .i64 a1_1, .slice A1_2 l1_2.length c1_2]) (t := 25) ?hr ?_; (case hd => rfl); (case hg => rfl); (case hr => first | (go_simp; done) | (go_simp; rfl)); intro gb347 hg w78 hbox hb; have n0_ := Qa (Qh (by repeat (first | (with_reducible first | exact HB.out | apply Qd | apply Qe | apply Qf) | exact HB.out)) hb); have n1_ := Qa (hbox); have n2_ := Qa ((by rw [hg]; exact (Qi (by repeat (first | (with_reducible first | exact HB.out | apply Qd | apply Qe | apply Qf) | exact HB.out))) : w.heap.size ≤ gb347)); have n3_ := Qa ((by rw [hg]; exact (Qi (by repeat (first | (with_reducible first | exact HB.out | apply Qd | apply Qe | apply Qf) | exact HB.out))) : w.heap.size ≤ gb347)); clear HB; have HB := n0_; have BK347 := n1_; have GW347 := n2_; have GE347 := n3_; clear n0_ n1_ n2_ n3_; clear hb hbox hg; have hcz79_0 : w78.cell? ⟨gb347,0, none⟩ = some (.int .i64 a1_0) := (Qn BK347.out 0).trans rfl; have hcz79_1 : w78.cell? ⟨gb347,1, none⟩ = some (.int .i64 a1_1) := (Qn BK347.out 1).trans rfl; have hcz79_2 : w78.cell? ⟨gb347,2, none⟩ = some (.slice A1_2 l1_2.length c1_2) := (Qn BK347.out 2).trans rfl; have hfz79_0 := Qm BK347.out 0; have hfz79_1 := Qm BK347.out 1; have hfz79_2 := Qm BK347.out 2) | ((with_reducible refine Qw (f := 8) rfl ?_); refine Qy (some 22) rfl rfl Tryz.func8 (by kernel_rfl) rfl #[.slice A1_2 l1_2.length c1_2] rfl (by (try simp only [List.map_toArray, List.map_cons, List.map_nil]); first | done | rfl | (simp only [List.length_drop, List.length_take]; rfl)) ?_; (with_reducible refine (paygen_ShortLines.calls k _ _ l1_2 false _ ?side1 ?side2 A5.out).mono ?_); (case side1 => repeat (first | exact (Kd.C_below HR1_2.out HB.out) | (with_reducible refine Kd.C_alloc ?_ _) | (with_reducible refine Kd.C_drewN ?_ _) | (with_reducible refine Kd.C_drew ?_))); (case side2 => exact HC1_2.out); rintro e w' ⟨rfl, ⟨nd, rfl⟩⟩; refine ⟨_, rfl, ?_⟩) | ((with_reducible refine Qw (f := 9) rfl ?_); refine Qy (some 24) rfl rfl Tryz.func9 (by kernel_rfl) rfl #[] rfl (by (try simp only [List.map_toArray, List.map_cons, List.map_nil]); first | done | rfl | (simp only [List.length_drop, List.length_take]; rfl)) ?_; (with_reducible refine (payrolllaw43_awake.calls k  true _ ?side1 A77.out).mono ?_); (case side1 => exact Tabs.below HT.out (by repeat (first | (with_reducible first | exact HB.out | apply Qd | apply Qe | apply Qf | refine Qg ?_ GE347.out) | exact HB.out))); rintro e w80 ⟨rfl, hb⟩; refine ⟨_, rfl, ?_⟩; have n0_ := Qa (Qb (g := gb347) (o := .cells #[.int .i64 a1_0, .int .i64 a1_1, .slice A1_2 l1_2.length c1_2] 25 (0,0)) (by (with_reducible repeat (first | refine Qj ?_ _ | refine Qk ?_ | refine Ql ?_ _)); exact BK347.out) hb); have n1_ := Qa (Qh (by repeat (first | (with_reducible first | exact HB.out | apply Qd | apply Qe | apply Qf | refine Qg ?_ GE347.out) | exact HB.out)) hb); clear BK347; clear HB; have BK347 := n0_; have HB := n1_; clear n0_ n1_; (try clear hb); (try clear hb2); (try clear hk); (try clear hi)))
 go_ret
 exact ⟨by first | rfl | (rw [HY.out] <;> rfl) | (simp [errW_none, errW_some] <;> rfl) | (simp [*, errW_none, errW_some] <;> rfl), by repeat (first | (with_reducible first | exact HB.out | apply Qd | apply Qe | apply Qf | refine Qg ?_ GE347.out) | exact HB.out)⟩
end Go.Proofs.YtejgfblphgcgkaaGreatDoor.P
