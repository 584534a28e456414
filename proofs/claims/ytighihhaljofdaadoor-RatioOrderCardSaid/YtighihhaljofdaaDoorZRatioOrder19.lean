/- Texts for the law RatioOrder (kept out of a larger one). -/
import Derived.Test.YtighihhaljofdaaDoorZRatioOrder9
import Derived.Test.YtighihhaljofdaaDoorZRatioOrder10
import Derived.Test.YtighihhaljofdaaDoorZRatioOrder16
import Derived.Test.YtighihhaljofdaaDoorZRatioOrder17
import Derived.Test.YtighihhaljofdaaDoorZRatioOrder18
import Derived.Test.YtighihhaljofdaaDoorZRatioOrder12
-- Written by a program of this session (wip/tools/xprint.py) out of the translation; Lean checks it.
namespace Go.Proofs.YtighihhaljofdaaDoor.P
open Go.RowKit Go.Proofs.YtighihhaljofdaaDoorW.PrintWords Go.Proofs.YtighihhaljofdaaDoorW.PrintLast Go.Proofs.YtighihhaljofdaaDoorW.PrintMore
attribute [local go_sem] max2_int min2_int max_two min_two max_three min_three max_four min_four   -- for this text's walks alone
set_option linter.unusedVariables false
set_option linter.unusedSimpArgs false
attribute [local go_sem high] eqA23
mutual
def payrolllaw1_RatioOrder.j0 : Nat → Int → Bool → Int → Int → Int → Int → Int → Int → Option (Bool)
  | 0, _, _, _, _, _, _, _, _ => none
  | k + 1, x7, x53, x325000, x325001, x326000, x326001, x327000, x327001 => if x53 = true then (some false) else ((ratio_Add.f k x325000 x325001 x327000 x327001).bind fun bt331 => ((ratio_Add.f k x326000 x326001 x327000 x327001).bind fun bt335 => (if bt331.2.2 = 0 then (if bt335.2.2 = 0 then ((ratio_Compare.f k bt331.1 bt331.2.1 bt335.1 bt335.2.1).bind fun t339 => (payrolllaw1_RatioOrder.j1 k x7 (t339 != x7) x325000 x325001 x326000 x326001 x327000 x327001)) else (payrolllaw1_RatioOrder.j1 k x7 false x325000 x325001 x326000 x326001 x327000 x327001)) else (payrolllaw1_RatioOrder.j1 k x7 false x325000 x325001 x326000 x326001 x327000 x327001))))
def payrolllaw1_RatioOrder.j1 : Nat → Int → Bool → Int → Int → Int → Int → Int → Int → Option (Bool)
  | 0, _, _, _, _, _, _, _, _ => none
  | k + 1, x7, x78, x325000, x325001, x326000, x326001, x327000, x327001 => if x78 = true then (some false) else ((ratio_Mul.f k x325000 x325001 x327000 x327001).bind fun bt340 => ((ratio_Mul.f k x326000 x326001 x327000 x327001).bind fun bt343 => (if bt340.2.2 = 0 then (if bt343.2.2 = 0 then (if x327000 > 0 then ((ratio_Compare.f k bt340.1 bt340.2.1 bt343.1 bt343.2.1).bind fun t346 => (payrolllaw1_RatioOrder.j2 k (t346 != x7) x325000 x325001)) else (payrolllaw1_RatioOrder.j2 k false x325000 x325001)) else (payrolllaw1_RatioOrder.j2 k false x325000 x325001)) else (payrolllaw1_RatioOrder.j2 k false x325000 x325001))))
def payrolllaw1_RatioOrder.j2 : Nat → Bool → Int → Int → Option (Bool)
  | 0, _, _, _ => none
  | k + 1, x108, x325000, x325001 => if x108 = true then (some false) else ((ratio_Floor.f k x325000 x325001).bind fun t347 => ((ratio_Compare.f k t347 1 x325000 x325001).bind fun t348 => (if t348 ≤ 0 then (if t347 ≥ 1000000000000 then ((payrolllaw1_sane.f k).bind fun t349 => (some t349)) else ((ratio_Compare.f k (wrap64 (t347 + 1)) 1 x325000 x325001).bind fun t350 => (if t350 > 0 then ((payrolllaw1_sane.f k).bind fun t351 => (some t351)) else (some false)))) else (some false))))
end
def payrolllaw1_RatioOrder.f (k : Nat) (l0 : List Int) : Option (Bool) := (payrollgen_New.f l0).bind fun bt312 => ((payrollgen_Tape_Ratio.f k bt312.1 bt312.2).bind fun bt315 => ((payrollgen_Tape_Ratio.f k bt312.1 bt315.2.2).bind fun bt318 => ((payrollgen_Tape_Ratio.f k bt312.1 bt318.2.2).bind fun bt321 => ((ratio_Compare.f k bt315.1 bt315.2.1 bt318.1 bt318.2.1).bind fun t327 => ((ratio_Compare.f k bt318.1 bt318.2.1 bt315.1 bt315.2.1).bind fun t328 => (if t327 = (wrap64 (-t328)) then (if ((t327 == 0) != (bt315.1 == bt318.1 && (bt315.2.1 == bt318.2.1))) = true then (payrolllaw1_RatioOrder.j0 k t327 true bt315.1 bt315.2.1 bt318.1 bt318.2.1 bt321.1 bt321.2.1) else (if t327 ≤ 0 then ((ratio_Compare.f k bt318.1 bt318.2.1 bt321.1 bt321.2.1).bind fun t329 => (if t329 ≤ 0 then ((ratio_Compare.f k bt315.1 bt315.2.1 bt321.1 bt321.2.1).bind fun t330 => (payrolllaw1_RatioOrder.j0 k t327 (decide (t330 > 0)) bt315.1 bt315.2.1 bt318.1 bt318.2.1 bt321.1 bt321.2.1)) else (payrolllaw1_RatioOrder.j0 k t327 false bt315.1 bt315.2.1 bt318.1 bt318.2.1 bt321.1 bt321.2.1))) else (payrolllaw1_RatioOrder.j0 k t327 false bt315.1 bt315.2.1 bt318.1 bt318.2.1 bt321.1 bt321.2.1))) else (payrolllaw1_RatioOrder.j0 k t327 true bt315.1 bt315.2.1 bt318.1 bt318.2.1 bt321.1 bt321.2.1)))))))
set_option maxHeartbeats 8000000 in
set_option maxRecDepth 100000 in
theorem payrolllaw1_RatioOrder.calls (k : Nat) (A0 : Option Addr) (c0 : Nat) (l0 : List Int) (w : World) (hr0 : Kd.C (Kd.int .i64) w A0 l0.length l0) (hc0 : l0.length ≤ c0) (hT : Tabs w) (h : payrolllaw1_RatioOrder.f k l0 = some true) :
    Calls Tryd.prog 6 #[.slice A0 l0.length c0] w fun e w' => e = .returned (.bool true) ∧ Below w.heap.size w w' := by
  have hu23 := Tryd.underlying23
  have HR0 := Aside0.mk hr0
  have HC0 := Aside0.mk hc0
  clear hr0 hc0
  have HB := Aside0.mk (Below.refl w.heap.size w)
  have HT := Aside0.mk hT
  clear hT
  have H : ((payrollgen_New.f l0).bind fun bt312 => ((payrollgen_Tape_Ratio.f k bt312.1 bt312.2).bind fun bt315 => ((payrollgen_Tape_Ratio.f k bt312.1 bt315.2.2).bind fun bt318 => ((payrollgen_Tape_Ratio.f k bt312.1 bt318.2.2).bind fun bt321 => ((ratio_Compare.f k bt315.1 bt315.2.1 bt318.1 bt318.2.1).bind fun t327 => ((ratio_Compare.f k bt318.1 bt318.2.1 bt315.1 bt315.2.1).bind fun t328 => (if t327 = (wrap64 (-t328)) then (if ((t327 == 0) != (bt315.1 == bt318.1 && (bt315.2.1 == bt318.2.1))) = true then (payrolllaw1_RatioOrder.j0 k t327 true bt315.1 bt315.2.1 bt318.1 bt318.2.1 bt321.1 bt321.2.1) else (if t327 ≤ 0 then ((ratio_Compare.f k bt318.1 bt318.2.1 bt321.1 bt321.2.1).bind fun t329 => (if t329 ≤ 0 then ((ratio_Compare.f k bt315.1 bt315.2.1 bt321.1 bt321.2.1).bind fun t330 => (payrolllaw1_RatioOrder.j0 k t327 (decide (t330 > 0)) bt315.1 bt315.2.1 bt318.1 bt318.2.1 bt321.1 bt321.2.1)) else (payrolllaw1_RatioOrder.j0 k t327 false bt315.1 bt315.2.1 bt318.1 bt318.2.1 bt321.1 bt321.2.1))) else (payrolllaw1_RatioOrder.j0 k t327 false bt315.1 bt315.2.1 bt318.1 bt318.2.1 bt321.1 bt321.2.1))) else (payrolllaw1_RatioOrder.j0 k t327 true bt315.1 bt315.2.1 bt318.1 bt318.2.1 bt321.1 bt321.2.1)))))))) = some true := h
  clear h
  replace H := Option.bind_eq_some_iff.mp H
  obtain ⟨⟨t312, t313⟩, A20, H⟩ := H
  replace H : ((payrollgen_Tape_Ratio.f k t312 t313).bind fun bt315 => ((payrollgen_Tape_Ratio.f k t312 bt315.2.2).bind fun bt318 => ((payrollgen_Tape_Ratio.f k t312 bt318.2.2).bind fun bt321 => ((ratio_Compare.f k bt315.1 bt315.2.1 bt318.1 bt318.2.1).bind fun t327 => ((ratio_Compare.f k bt318.1 bt318.2.1 bt315.1 bt315.2.1).bind fun t328 => (if t327 = (wrap64 (-t328)) then (if ((t327 == 0) != (bt315.1 == bt318.1 && (bt315.2.1 == bt318.2.1))) = true then (payrolllaw1_RatioOrder.j0 k t327 true bt315.1 bt315.2.1 bt318.1 bt318.2.1 bt321.1 bt321.2.1) else (if t327 ≤ 0 then ((ratio_Compare.f k bt318.1 bt318.2.1 bt321.1 bt321.2.1).bind fun t329 => (if t329 ≤ 0 then ((ratio_Compare.f k bt315.1 bt315.2.1 bt321.1 bt321.2.1).bind fun t330 => (payrolllaw1_RatioOrder.j0 k t327 (decide (t330 > 0)) bt315.1 bt315.2.1 bt318.1 bt318.2.1 bt321.1 bt321.2.1)) else (payrolllaw1_RatioOrder.j0 k t327 false bt315.1 bt315.2.1 bt318.1 bt318.2.1 bt321.1 bt321.2.1))) else (payrolllaw1_RatioOrder.j0 k t327 false bt315.1 bt315.2.1 bt318.1 bt318.2.1 bt321.1 bt321.2.1))) else (payrolllaw1_RatioOrder.j0 k t327 true bt315.1 bt315.2.1 bt318.1 bt318.2.1 bt321.1 bt321.2.1))))))) = some true := H
  have A2 := Aside0.mk A20
  clear A20
  replace H := Option.bind_eq_some_iff.mp H
  obtain ⟨⟨t315, t316, t317⟩, A30, H⟩ := H
  replace H : ((payrollgen_Tape_Ratio.f k t312 t317).bind fun bt318 => ((payrollgen_Tape_Ratio.f k t312 bt318.2.2).bind fun bt321 => ((ratio_Compare.f k t315 t316 bt318.1 bt318.2.1).bind fun t327 => ((ratio_Compare.f k bt318.1 bt318.2.1 t315 t316).bind fun t328 => (if t327 = (wrap64 (-t328)) then (if ((t327 == 0) != (t315 == bt318.1 && (t316 == bt318.2.1))) = true then (payrolllaw1_RatioOrder.j0 k t327 true t315 t316 bt318.1 bt318.2.1 bt321.1 bt321.2.1) else (if t327 ≤ 0 then ((ratio_Compare.f k bt318.1 bt318.2.1 bt321.1 bt321.2.1).bind fun t329 => (if t329 ≤ 0 then ((ratio_Compare.f k t315 t316 bt321.1 bt321.2.1).bind fun t330 => (payrolllaw1_RatioOrder.j0 k t327 (decide (t330 > 0)) t315 t316 bt318.1 bt318.2.1 bt321.1 bt321.2.1)) else (payrolllaw1_RatioOrder.j0 k t327 false t315 t316 bt318.1 bt318.2.1 bt321.1 bt321.2.1))) else (payrolllaw1_RatioOrder.j0 k t327 false t315 t316 bt318.1 bt318.2.1 bt321.1 bt321.2.1))) else (payrolllaw1_RatioOrder.j0 k t327 true t315 t316 bt318.1 bt318.2.1 bt321.1 bt321.2.1)))))) = some true := H
  have A3 := Aside0.mk A30
  clear A30
  replace H := Option.bind_eq_some_iff.mp H
  obtain ⟨⟨t318, t319, t320⟩, A40, H⟩ := H
  replace H : ((payrollgen_Tape_Ratio.f k t312 t320).bind fun bt321 => ((ratio_Compare.f k t315 t316 t318 t319).bind fun t327 => ((ratio_Compare.f k t318 t319 t315 t316).bind fun t328 => (if t327 = (wrap64 (-t328)) then (if ((t327 == 0) != (t315 == t318 && (t316 == t319))) = true then (payrolllaw1_RatioOrder.j0 k t327 true t315 t316 t318 t319 bt321.1 bt321.2.1) else (if t327 ≤ 0 then ((ratio_Compare.f k t318 t319 bt321.1 bt321.2.1).bind fun t329 => (if t329 ≤ 0 then ((ratio_Compare.f k t315 t316 bt321.1 bt321.2.1).bind fun t330 => (payrolllaw1_RatioOrder.j0 k t327 (decide (t330 > 0)) t315 t316 t318 t319 bt321.1 bt321.2.1)) else (payrolllaw1_RatioOrder.j0 k t327 false t315 t316 t318 t319 bt321.1 bt321.2.1))) else (payrolllaw1_RatioOrder.j0 k t327 false t315 t316 t318 t319 bt321.1 bt321.2.1))) else (payrolllaw1_RatioOrder.j0 k t327 true t315 t316 t318 t319 bt321.1 bt321.2.1))))) = some true := H
  have A4 := Aside0.mk A40
  clear A40
  replace H := Option.bind_eq_some_iff.mp H
  obtain ⟨⟨t321, t322, t323⟩, A50, H⟩ := H
  replace H : ((ratio_Compare.f k t315 t316 t318 t319).bind fun t327 => ((ratio_Compare.f k t318 t319 t315 t316).bind fun t328 => (if t327 = (wrap64 (-t328)) then (if ((t327 == 0) != (t315 == t318 && (t316 == t319))) = true then (payrolllaw1_RatioOrder.j0 k t327 true t315 t316 t318 t319 t321 t322) else (if t327 ≤ 0 then ((ratio_Compare.f k t318 t319 t321 t322).bind fun t329 => (if t329 ≤ 0 then ((ratio_Compare.f k t315 t316 t321 t322).bind fun t330 => (payrolllaw1_RatioOrder.j0 k t327 (decide (t330 > 0)) t315 t316 t318 t319 t321 t322)) else (payrolllaw1_RatioOrder.j0 k t327 false t315 t316 t318 t319 t321 t322))) else (payrolllaw1_RatioOrder.j0 k t327 false t315 t316 t318 t319 t321 t322))) else (payrolllaw1_RatioOrder.j0 k t327 true t315 t316 t318 t319 t321 t322)))) = some true := H
  have A5 := Aside0.mk A50
  clear A50
  replace H := Option.bind_eq_some_iff.mp H
  obtain ⟨t327, A60, H⟩ := H
  replace H : ((ratio_Compare.f k t318 t319 t315 t316).bind fun t328 => (if t327 = (wrap64 (-t328)) then (if ((t327 == 0) != (t315 == t318 && (t316 == t319))) = true then (payrolllaw1_RatioOrder.j0 k t327 true t315 t316 t318 t319 t321 t322) else (if t327 ≤ 0 then ((ratio_Compare.f k t318 t319 t321 t322).bind fun t329 => (if t329 ≤ 0 then ((ratio_Compare.f k t315 t316 t321 t322).bind fun t330 => (payrolllaw1_RatioOrder.j0 k t327 (decide (t330 > 0)) t315 t316 t318 t319 t321 t322)) else (payrolllaw1_RatioOrder.j0 k t327 false t315 t316 t318 t319 t321 t322))) else (payrolllaw1_RatioOrder.j0 k t327 false t315 t316 t318 t319 t321 t322))) else (payrolllaw1_RatioOrder.j0 k t327 true t315 t316 t318 t319 t321 t322))) = some true := H
  have A6 := Aside0.mk A60
  clear A60
  have HC7 := Aside0.mk H
  clear H
  go_enter Tryd.func6, Tryd.ntmps6
  go_upto_region 4 with (first | ((with_reducible refine gate_callee (f := 13) rfl ?_); refine goesL_ (some 14) rfl rfl Tryd.func13 (by kernel_rfl) rfl #[.slice A0 l0.length c0] rfl (by (try simp only [List.map_toArray, List.map_cons, List.map_nil]); first | done | rfl | (simp only [List.length_drop, List.length_take]; rfl)) ?_; (with_reducible refine (payrollgen_New.calls _ _ l0 t312 t313 w _ ?side1 ?side2 ?side3 A2.out).mono ?_); (case side1 => repeat (first | (with_reducible first | exact HB.out | apply below_alloc | apply pw_below_drewN | apply below_drew1) | exact HB.out)); (case side2 => exact HR0.out); (case side3 => exact HC0.out); rintro e w8 ⟨g314, rfl, hi, hb, hb2⟩; refine ⟨_, rfl, ?_⟩; have n0_ := Aside0.mk (hb); have n1_ := Aside0.mk (hi); clear HB; have HB := n0_; have HI314 := n1_; clear n0_ n1_; (try clear hb); (try clear hb2); (try clear hk); (try clear hi)) | ((with_reducible refine gate_callee (f := 14) rfl ?_); refine goesL_ (some 16) rfl rfl Tryd.func14 (by kernel_rfl) rfl #[.pointer (some ⟨g314, 0, none⟩)] rfl (by (try simp only [List.map_toArray, List.map_cons, List.map_nil]); first | done | rfl | (simp only [List.length_drop, List.length_take]; rfl)) ?_; (with_reducible refine (payrollgen_Tape_Ratio.calls k g314 t312 t313 t315 t316 t317 w _ ?side1 ?side2 A3.out).mono ?_); (case side1 => repeat (first | (with_reducible first | exact HI314.out | apply IsS51.alloc | apply IsS51.drewN | apply IsS51.drew | apply IsS51.set_1) | exact HI314.out)); (case side2 => repeat (first | (with_reducible first | exact HB.out | apply below_alloc | apply pw_below_drewN | apply below_drew1 | refine below_set ?_ (IsS51.ge HI314.out)) | exact HB.out)); rintro e w9 ⟨rfl, hi, hb, hk⟩; refine ⟨_, rfl, ?_⟩; have n0_ := Aside0.mk (hb); have n1_ := Aside0.mk (hi); clear HB; clear HI314; have HB := n0_; have HI314 := n1_; clear n0_ n1_; (try clear hb); (try clear hb2); (try clear hk); (try clear hi)) | ((with_reducible refine gate_callee (f := 14) rfl ?_); refine goesL_ (some 18) rfl rfl Tryd.func14 (by kernel_rfl) rfl #[.pointer (some ⟨g314, 0, none⟩)] rfl (by (try simp only [List.map_toArray, List.map_cons, List.map_nil]); first | done | rfl | (simp only [List.length_drop, List.length_take]; rfl)) ?_; (with_reducible refine (payrollgen_Tape_Ratio.calls k g314 t312 t317 t318 t319 t320 w _ ?side1 ?side2 A4.out).mono ?_); (case side1 => repeat (first | (with_reducible first | exact HI314.out | apply IsS51.alloc | apply IsS51.drewN | apply IsS51.drew | apply IsS51.set_1) | exact HI314.out)); (case side2 => repeat (first | (with_reducible first | exact HB.out | apply below_alloc | apply pw_below_drewN | apply below_drew1 | refine below_set ?_ (IsS51.ge HI314.out)) | exact HB.out)); rintro e w10 ⟨rfl, hi, hb, hk⟩; refine ⟨_, rfl, ?_⟩; have n0_ := Aside0.mk (hb); have n1_ := Aside0.mk (hi); clear HB; clear HI314; have HB := n0_; have HI314 := n1_; clear n0_ n1_; (try clear hb); (try clear hb2); (try clear hk); (try clear hi)) | ((with_reducible refine gate_callee (f := 14) rfl ?_); refine goesL_ (some 20) rfl rfl Tryd.func14 (by kernel_rfl) rfl #[.pointer (some ⟨g314, 0, none⟩)] rfl (by (try simp only [List.map_toArray, List.map_cons, List.map_nil]); first | done | rfl | (simp only [List.length_drop, List.length_take]; rfl)) ?_; (with_reducible refine (payrollgen_Tape_Ratio.calls k g314 t312 t320 t321 t322 t323 w _ ?side1 ?side2 A5.out).mono ?_); (case side1 => repeat (first | (with_reducible first | exact HI314.out | apply IsS51.alloc | apply IsS51.drewN | apply IsS51.drew | apply IsS51.set_1) | exact HI314.out)); (case side2 => repeat (first | (with_reducible first | exact HB.out | apply below_alloc | apply pw_below_drewN | apply below_drew1 | refine below_set ?_ (IsS51.ge HI314.out)) | exact HB.out)); rintro e w11 ⟨rfl, hi, hb, hk⟩; refine ⟨_, rfl, ?_⟩; have n0_ := Aside0.mk (hb); have n1_ := Aside0.mk (hi); clear HB; clear HI314; have HB := n0_; have HI314 := n1_; clear n0_ n1_; (try clear hb); (try clear hb2); (try clear hk); (try clear hi)) | ((with_reducible refine gate_dst (N := 4) rfl ?_); refine box_event ?hg (N := 4) ?hd (cs := #[.int .i64 0, .int .i64 0]) (t := 23) ?hr ?_; (case hd => rfl); (case hg => rfl); (case hr => first | (go_simp; done) | (go_simp; rfl)); intro gb324 hg w12 hbox hb; have n0_ := Aside0.mk (IsS51.below (by repeat (first | (with_reducible first | exact HI314.out | apply IsS51.alloc | apply IsS51.drewN | apply IsS51.drew | apply IsS51.set_1) | exact HI314.out)) hb); have n1_ := Aside0.mk (below_step (by repeat (first | (with_reducible first | exact HB.out | apply below_alloc | apply pw_below_drewN | apply below_drew1 | refine below_set ?_ (IsS51.ge HI314.out)) | exact HB.out)) hb); have n2_ := Aside0.mk (hbox); have n3_ := Aside0.mk ((by rw [hg]; exact (below_size (by repeat (first | (with_reducible first | exact HB.out | apply below_alloc | apply pw_below_drewN | apply below_drew1 | refine below_set ?_ (IsS51.ge HI314.out)) | exact HB.out))) : w.heap.size ≤ gb324)); have n4_ := Aside0.mk ((by rw [hg]; exact (below_size (by repeat (first | (with_reducible first | exact HB.out | apply below_alloc | apply pw_below_drewN | apply below_drew1 | refine below_set ?_ (IsS51.ge HI314.out)) | exact HB.out))) : w.heap.size ≤ gb324)); have n5_ := Aside0.mk ((by rw [hg]; exact Nat.ne_of_lt (IsS51.lt (show IsS51 w _ g314 t312 t323 from by repeat (first | (with_reducible first | exact HI314.out | apply IsS51.alloc | apply IsS51.drewN | apply IsS51.drew | apply IsS51.set_1) | exact HI314.out))) : g314 ≠ gb324)); have n6_ := Aside0.mk ((by rw [hg]; exact Nat.ne_of_gt (IsS51.lt (show IsS51 w _ g314 t312 t323 from by repeat (first | (with_reducible first | exact HI314.out | apply IsS51.alloc | apply IsS51.drewN | apply IsS51.drew | apply IsS51.set_1) | exact HI314.out))) : gb324 ≠ g314)); clear HI314; clear HB; have HI314 := n0_; have HB := n1_; have BK324 := n2_; have GW324 := n3_; have GE324 := n4_; have NB314_324 := n5_; have NB324_314 := n6_; clear n0_ n1_ n2_ n3_ n4_ n5_ n6_; clear hb hbox hg) | ((with_reducible refine gate_dst (N := 5) rfl ?_); refine box_event ?hg (N := 5) ?hd (cs := #[.int .i64 0, .int .i64 0]) (t := 23) ?hr ?_; (case hd => rfl); (case hg => rfl); (case hr => first | (go_simp; done) | (go_simp; rfl)); intro gb325 hg w13 hbox hb; have n0_ := Aside0.mk (IsS51.below (by repeat (first | (with_reducible first | exact HI314.out | apply IsS51.alloc | apply IsS51.drewN | apply IsS51.drew | apply IsS51.set_1 | refine IsS51.far ?_ NB314_324.out _) | exact HI314.out)) hb); have n1_ := Aside0.mk (blk_below (g := gb324) (o := .cells #[.int .i64 0, .int .i64 0] 23 (0, 0)) (by (with_reducible repeat (first | refine blk_drewN ?_ _ | refine blk_drew ?_ | refine blk_alloc ?_ _)); exact BK324.out) hb); have n2_ := Aside0.mk (below_step (by repeat (first | (with_reducible first | exact HB.out | apply below_alloc | apply pw_below_drewN | apply below_drew1 | refine below_set ?_ (IsS51.ge HI314.out) | refine below_set ?_ GE324.out) | exact HB.out)) hb); have n3_ := Aside0.mk (hbox); have n4_ := Aside0.mk ((by rw [hg]; exact (below_size (by repeat (first | (with_reducible first | exact HB.out | apply below_alloc | apply pw_below_drewN | apply below_drew1 | refine below_set ?_ (IsS51.ge HI314.out) | refine below_set ?_ GE324.out) | exact HB.out))) : w.heap.size ≤ gb325)); have n5_ := Aside0.mk ((by rw [hg]; exact (below_size (by repeat (first | (with_reducible first | exact HB.out | apply below_alloc | apply pw_below_drewN | apply below_drew1 | refine below_set ?_ (IsS51.ge HI314.out) | refine below_set ?_ GE324.out) | exact HB.out))) : w.heap.size ≤ gb325)); have n6_ := Aside0.mk ((by rw [hg]; exact Nat.ne_of_lt (blk_lt (g := gb324) (o := .cells #[.int .i64 0, .int .i64 0] 23 (0, 0)) (by (with_reducible repeat (first | refine blk_drewN ?_ _ | refine blk_drew ?_ | refine blk_alloc ?_ _)); exact BK324.out)) : gb324 ≠ gb325)); have n7_ := Aside0.mk ((by rw [hg]; exact Nat.ne_of_gt (blk_lt (g := gb324) (o := .cells #[.int .i64 0, .int .i64 0] 23 (0, 0)) (by (with_reducible repeat (first | refine blk_drewN ?_ _ | refine blk_drew ?_ | refine blk_alloc ?_ _)); exact BK324.out)) : gb325 ≠ gb324)); have n8_ := Aside0.mk ((by rw [hg]; exact Nat.ne_of_lt (IsS51.lt (show IsS51 w _ g314 t312 t323 from by repeat (first | (with_reducible first | exact HI314.out | apply IsS51.alloc | apply IsS51.drewN | apply IsS51.drew | apply IsS51.set_1 | refine IsS51.far ?_ NB314_324.out _) | exact HI314.out))) : g314 ≠ gb325)); have n9_ := Aside0.mk ((by rw [hg]; exact Nat.ne_of_gt (IsS51.lt (show IsS51 w _ g314 t312 t323 from by repeat (first | (with_reducible first | exact HI314.out | apply IsS51.alloc | apply IsS51.drewN | apply IsS51.drew | apply IsS51.set_1 | refine IsS51.far ?_ NB314_324.out _) | exact HI314.out))) : gb325 ≠ g314)); clear HI314; clear BK324; clear HB; have HI314 := n0_; have BK324 := n1_; have HB := n2_; have BK325 := n3_; have GW325 := n4_; have GE325 := n5_; have NB324_325 := n6_; have NB325_324 := n7_; have NB314_325 := n8_; have NB325_314 := n9_; clear n0_ n1_ n2_ n3_ n4_ n5_ n6_ n7_ n8_ n9_; clear hb hbox hg) | ((with_reducible refine gate_dst (N := 6) rfl ?_); refine box_event ?hg (N := 6) ?hd (cs := #[.int .i64 0, .int .i64 0]) (t := 23) ?hr ?_; (case hd => rfl); (case hg => rfl); (case hr => first | (go_simp; done) | (go_simp; rfl)); intro gb326 hg w14 hbox hb; have n0_ := Aside0.mk (IsS51.below (by repeat (first | (with_reducible first | exact HI314.out | apply IsS51.alloc | apply IsS51.drewN | apply IsS51.drew | apply IsS51.set_1 | refine IsS51.far ?_ NB314_324.out _ | refine IsS51.far ?_ NB314_325.out _) | exact HI314.out)) hb); have n1_ := Aside0.mk (blk_below (g := gb324) (o := .cells #[.int .i64 0, .int .i64 0] 23 (0, 0)) (by (with_reducible repeat (first | refine blk_drewN ?_ _ | refine blk_drew ?_ | refine blk_alloc ?_ _)); exact BK324.out) hb); have n2_ := Aside0.mk (blk_below (g := gb325) (o := .cells #[.int .i64 0, .int .i64 0] 23 (0, 0)) (by (with_reducible repeat (first | refine blk_drewN ?_ _ | refine blk_drew ?_ | refine blk_alloc ?_ _)); exact BK325.out) hb); have n3_ := Aside0.mk (below_step (by repeat (first | (with_reducible first | exact HB.out | apply below_alloc | apply pw_below_drewN | apply below_drew1 | refine below_set ?_ (IsS51.ge HI314.out) | refine below_set ?_ GE324.out | refine below_set ?_ GE325.out) | exact HB.out)) hb); have n4_ := Aside0.mk (hbox); have n5_ := Aside0.mk ((by rw [hg]; exact (below_size (by repeat (first | (with_reducible first | exact HB.out | apply below_alloc | apply pw_below_drewN | apply below_drew1 | refine below_set ?_ (IsS51.ge HI314.out) | refine below_set ?_ GE324.out | refine below_set ?_ GE325.out) | exact HB.out))) : w.heap.size ≤ gb326)); have n6_ := Aside0.mk ((by rw [hg]; exact (below_size (by repeat (first | (with_reducible first | exact HB.out | apply below_alloc | apply pw_below_drewN | apply below_drew1 | refine below_set ?_ (IsS51.ge HI314.out) | refine below_set ?_ GE324.out | refine below_set ?_ GE325.out) | exact HB.out))) : w.heap.size ≤ gb326)); have n7_ := Aside0.mk ((by rw [hg]; exact Nat.ne_of_lt (blk_lt (g := gb324) (o := .cells #[.int .i64 0, .int .i64 0] 23 (0, 0)) (by (with_reducible repeat (first | refine blk_drewN ?_ _ | refine blk_drew ?_ | refine blk_alloc ?_ _)); exact BK324.out)) : gb324 ≠ gb326)); have n8_ := Aside0.mk ((by rw [hg]; exact Nat.ne_of_gt (blk_lt (g := gb324) (o := .cells #[.int .i64 0, .int .i64 0] 23 (0, 0)) (by (with_reducible repeat (first | refine blk_drewN ?_ _ | refine blk_drew ?_ | refine blk_alloc ?_ _)); exact BK324.out)) : gb326 ≠ gb324)); have n9_ := Aside0.mk ((by rw [hg]; exact Nat.ne_of_lt (blk_lt (g := gb325) (o := .cells #[.int .i64 0, .int .i64 0] 23 (0, 0)) (by (with_reducible repeat (first | refine blk_drewN ?_ _ | refine blk_drew ?_ | refine blk_alloc ?_ _)); exact BK325.out)) : gb325 ≠ gb326)); have n10_ := Aside0.mk ((by rw [hg]; exact Nat.ne_of_gt (blk_lt (g := gb325) (o := .cells #[.int .i64 0, .int .i64 0] 23 (0, 0)) (by (with_reducible repeat (first | refine blk_drewN ?_ _ | refine blk_drew ?_ | refine blk_alloc ?_ _)); exact BK325.out)) : gb326 ≠ gb325)); have n11_ := Aside0.mk ((by rw [hg]; exact Nat.ne_of_lt (IsS51.lt (show IsS51 w _ g314 t312 t323 from by repeat (first | (with_reducible first | exact HI314.out | apply IsS51.alloc | apply IsS51.drewN | apply IsS51.drew | apply IsS51.set_1 | refine IsS51.far ?_ NB314_324.out _ | refine IsS51.far ?_ NB314_325.out _) | exact HI314.out))) : g314 ≠ gb326)); have n12_ := Aside0.mk ((by rw [hg]; exact Nat.ne_of_gt (IsS51.lt (show IsS51 w _ g314 t312 t323 from by repeat (first | (with_reducible first | exact HI314.out | apply IsS51.alloc | apply IsS51.drewN | apply IsS51.drew | apply IsS51.set_1 | refine IsS51.far ?_ NB314_324.out _ | refine IsS51.far ?_ NB314_325.out _) | exact HI314.out))) : gb326 ≠ g314)); clear HI314; clear BK324; clear BK325; clear HB; have HI314 := n0_; have BK324 := n1_; have BK325 := n2_; have HB := n3_; have BK326 := n4_; have GW326 := n5_; have GE326 := n6_; have NB324_326 := n7_; have NB326_324 := n8_; have NB325_326 := n9_; have NB326_325 := n10_; have NB314_326 := n11_; have NB326_314 := n12_; clear n0_ n1_ n2_ n3_ n4_ n5_ n6_ n7_ n8_ n9_ n10_ n11_ n12_; clear hb hbox hg; have hnb15 := NB324_325.out; have hnc15 := NB325_324.out; have hnb16 := NB324_326.out; have hnc16 := NB326_324.out; have hnb17 := NB324_314.out; have hnc17 := NB314_324.out; have hcz18_0 : w14.cell? ⟨gb324, 0, none⟩ = some (.int .i64 0) := (blk_cell BK324.out 0).trans rfl; have hcz18_1 : w14.cell? ⟨gb324, 1, none⟩ = some (.int .i64 0) := (blk_cell BK324.out 1).trans rfl; have hfz18_0 := blk_frozen BK324.out 0; have hfz18_1 := blk_frozen BK324.out 1; have hnb19 := NB325_326.out; have hnc19 := NB326_325.out; have hnb20 := NB325_314.out; have hnc20 := NB314_325.out; have hcz21_0 : w14.cell? ⟨gb325, 0, none⟩ = some (.int .i64 0) := (blk_cell BK325.out 0).trans rfl; have hcz21_1 : w14.cell? ⟨gb325, 1, none⟩ = some (.int .i64 0) := (blk_cell BK325.out 1).trans rfl; have hfz21_0 := blk_frozen BK325.out 0; have hfz21_1 := blk_frozen BK325.out 1; have hnb22 := NB326_314.out; have hnc22 := NB314_326.out; have hcz23_0 : w14.cell? ⟨gb326, 0, none⟩ = some (.int .i64 0) := (blk_cell BK326.out 0).trans rfl; have hcz23_1 : w14.cell? ⟨gb326, 1, none⟩ = some (.int .i64 0) := (blk_cell BK326.out 1).trans rfl; have hfz23_0 := blk_frozen BK326.out 0; have hfz23_1 := blk_frozen BK326.out 1) | ((with_reducible refine gate_callee (f := 23) rfl ?_); refine goesL_ (some 23) rfl rfl Tryd.func23 (by kernel_rfl) rfl #[.agg #[.int .i64 t315, .int .i64 t316], .agg #[.int .i64 t318, .int .i64 t319]] rfl (by (try simp only [List.map_toArray, List.map_cons, List.map_nil]); first | done | rfl | (simp only [List.length_drop, List.length_take]; rfl)) ?_; (with_reducible refine (ratio_Compare.calls k t315 t316 t318 t319 t327 _ A6.out).mono ?_); rintro e w24 ⟨rfl, hb⟩; refine ⟨_, rfl, ?_⟩; have n0_ := Aside0.mk (IsS51.below (show IsS51 w ((((((w14.setCell ⟨gb324, 0, none⟩ (.int .i64 t315)).setCell ⟨gb324, 1, none⟩ (.int .i64 t316)).setCell ⟨gb325, 0, none⟩ (.int .i64 t318)).setCell ⟨gb325, 1, none⟩ (.int .i64 t319)).setCell ⟨gb326, 0, none⟩ (.int .i64 t321)).setCell ⟨gb326, 1, none⟩ (.int .i64 t322)) g314 t312 t323 from by repeat (first | (with_reducible first | exact HI314.out | apply IsS51.alloc | apply IsS51.drewN | apply IsS51.drew | apply IsS51.set_1 | refine IsS51.far ?_ NB314_324.out _ | refine IsS51.far ?_ NB314_325.out _ | refine IsS51.far ?_ NB314_326.out _) | exact HI314.out)) hb); have n1_ := Aside0.mk (blk_below (g := gb324) (o := .cells #[.int .i64 t315, .int .i64 t316] 23 (0, 0)) (by (with_reducible repeat (first | refine blk_drewN ?_ _ | refine blk_drew ?_ | refine blk_alloc ?_ _)); refine blk_far ?_ NB324_326.out _; (with_reducible repeat (first | refine blk_drewN ?_ _ | refine blk_drew ?_ | refine blk_alloc ?_ _)); refine blk_far ?_ NB324_326.out _; (with_reducible repeat (first | refine blk_drewN ?_ _ | refine blk_drew ?_ | refine blk_alloc ?_ _)); refine blk_far ?_ NB324_325.out _; (with_reducible repeat (first | refine blk_drewN ?_ _ | refine blk_drew ?_ | refine blk_alloc ?_ _)); refine blk_far ?_ NB324_325.out _; (with_reducible repeat (first | refine blk_drewN ?_ _ | refine blk_drew ?_ | refine blk_alloc ?_ _)); refine blk_put (cs := #[.int .i64 t315, .int .i64 0]) ?_ 1 _ rfl; (with_reducible repeat (first | refine blk_drewN ?_ _ | refine blk_drew ?_ | refine blk_alloc ?_ _)); refine blk_put (cs := #[.int .i64 0, .int .i64 0]) ?_ 0 _ rfl; (with_reducible repeat (first | refine blk_drewN ?_ _ | refine blk_drew ?_ | refine blk_alloc ?_ _)); exact BK324.out) hb); have n2_ := Aside0.mk (blk_below (g := gb325) (o := .cells #[.int .i64 t318, .int .i64 t319] 23 (0, 0)) (by (with_reducible repeat (first | refine blk_drewN ?_ _ | refine blk_drew ?_ | refine blk_alloc ?_ _)); refine blk_far ?_ NB325_326.out _; (with_reducible repeat (first | refine blk_drewN ?_ _ | refine blk_drew ?_ | refine blk_alloc ?_ _)); refine blk_far ?_ NB325_326.out _; (with_reducible repeat (first | refine blk_drewN ?_ _ | refine blk_drew ?_ | refine blk_alloc ?_ _)); refine blk_put (cs := #[.int .i64 t318, .int .i64 0]) ?_ 1 _ rfl; (with_reducible repeat (first | refine blk_drewN ?_ _ | refine blk_drew ?_ | refine blk_alloc ?_ _)); refine blk_put (cs := #[.int .i64 0, .int .i64 0]) ?_ 0 _ rfl; (with_reducible repeat (first | refine blk_drewN ?_ _ | refine blk_drew ?_ | refine blk_alloc ?_ _)); refine blk_far ?_ NB325_324.out _; (with_reducible repeat (first | refine blk_drewN ?_ _ | refine blk_drew ?_ | refine blk_alloc ?_ _)); refine blk_far ?_ NB325_324.out _; (with_reducible repeat (first | refine blk_drewN ?_ _ | refine blk_drew ?_ | refine blk_alloc ?_ _)); exact BK325.out) hb); have n3_ := Aside0.mk (blk_below (g := gb326) (o := .cells #[.int .i64 t321, .int .i64 t322] 23 (0, 0)) (by (with_reducible repeat (first | refine blk_drewN ?_ _ | refine blk_drew ?_ | refine blk_alloc ?_ _)); refine blk_put (cs := #[.int .i64 t321, .int .i64 0]) ?_ 1 _ rfl; (with_reducible repeat (first | refine blk_drewN ?_ _ | refine blk_drew ?_ | refine blk_alloc ?_ _)); refine blk_put (cs := #[.int .i64 0, .int .i64 0]) ?_ 0 _ rfl; (with_reducible repeat (first | refine blk_drewN ?_ _ | refine blk_drew ?_ | refine blk_alloc ?_ _)); refine blk_far ?_ NB326_325.out _; (with_reducible repeat (first | refine blk_drewN ?_ _ | refine blk_drew ?_ | refine blk_alloc ?_ _)); refine blk_far ?_ NB326_325.out _; (with_reducible repeat (first | refine blk_drewN ?_ _ | refine blk_drew ?_ | refine blk_alloc ?_ _)); refine blk_far ?_ NB326_324.out _; (with_reducible repeat (first | refine blk_drewN ?_ _ | refine blk_drew ?_ | refine blk_alloc ?_ _)); refine blk_far ?_ NB326_324.out _; (with_reducible repeat (first | refine blk_drewN ?_ _ | refine blk_drew ?_ | refine blk_alloc ?_ _)); exact BK326.out) hb); have n4_ := Aside0.mk (below_step (by repeat (first | (with_reducible first | exact HB.out | apply below_alloc | apply pw_below_drewN | apply below_drew1 | refine below_set ?_ (IsS51.ge HI314.out) | refine below_set ?_ GE324.out | refine below_set ?_ GE325.out | refine below_set ?_ GE326.out) | exact HB.out)) hb); clear HI314; clear BK324; clear BK325; clear BK326; clear HB; have HI314 := n0_; have BK324 := n1_; have BK325 := n2_; have BK326 := n3_; have HB := n4_; clear n0_ n1_ n2_ n3_ n4_; (try clear hb); (try clear hb2); (try clear hk); (try clear hi)))
  (try simp only [Act.put, List.setIfInBounds_toArray, List.set_cons_zero, List.set_cons_succ])
  go_cut [53] (fun v53 wc => ∃ (kq : Nat) (x53_6 : Bool), v53 = .bool x53_6 ∧ Aside0 (payrolllaw1_RatioOrder.j0 kq t327 x53_6 t315 t316 t318 t319 t321 t322 = some true) ∧ Aside0 (kq ≤ k) ∧ Aside0 (wc.heap[gb324]? = some (.cells #[.int .i64 t315, .int .i64 t316] 23 (0, 0))) ∧ Aside0 (wc.heap[gb325]? = some (.cells #[.int .i64 t318, .int .i64 t319] 23 (0, 0))) ∧ Aside0 (wc.heap[gb326]? = some (.cells #[.int .i64 t321, .int .i64 t322] 23 (0, 0))) ∧ Aside0 (Below w.heap.size w wc))
  case first =>
    have H := HC7.out
    clear HC7
    replace H := Option.bind_eq_some_iff.mp H
    obtain ⟨t328, A250, H⟩ := H
    replace H : (if t327 = (wrap64 (-t328)) then (if ((t327 == 0) != (t315 == t318 && (t316 == t319))) = true then (payrolllaw1_RatioOrder.j0 k t327 true t315 t316 t318 t319 t321 t322) else (if t327 ≤ 0 then ((ratio_Compare.f k t318 t319 t321 t322).bind fun t329 => (if t329 ≤ 0 then ((ratio_Compare.f k t315 t316 t321 t322).bind fun t330 => (payrolllaw1_RatioOrder.j0 k t327 (decide (t330 > 0)) t315 t316 t318 t319 t321 t322)) else (payrolllaw1_RatioOrder.j0 k t327 false t315 t316 t318 t319 t321 t322))) else (payrolllaw1_RatioOrder.j0 k t327 false t315 t316 t318 t319 t321 t322))) else (payrolllaw1_RatioOrder.j0 k t327 true t315 t316 t318 t319 t321 t322)) = some true := H
    have A25 := Aside0.mk A250
    clear A250
    by_cases c26 : t327 = (wrap64 (-t328))
    · rw [if_pos c26] at H
      have c26b0 : (t327 == (wrap64 (-t328))) = true := beq_iff_eq.mpr c26
      have c26b1 : (t327 != (wrap64 (-t328))) = false := bne_eq_false_iff_eq.mpr c26
      clear c26
      (first | rw [c26b0] | (simp only [i64_w, i32_w]; rw [c26b0]) | skip)
      by_cases c27 : ((t327 == 0) != (t315 == t318 && (t316 == t319))) = true
      · rw [if_pos c27] at H
        have c27b0 : ((t327 == 0) != (t315 == t318 && (t316 == t319))) = true := c27
        (try (have c27b1 : decide ((t327 == 0) = (t315 == t318 && (t316 == t319))) = false := by simpa using c27))
        (try (have c27b2 : ((t327 == 0) == (t315 == t318 && (t316 == t319))) = false := by simpa using c27))
        (try (have c27b3 : ¬ ((t327 == 0) = (t315 == t318 && (t316 == t319))) := by simpa using c27))
        clear c27
        have H' := Aside0.mk H
        clear H
        have hnb28 := NB325_324.out
        have hnc28 := NB324_325.out
        have hnb29 := NB325_326.out
        have hnc29 := NB326_325.out
        have hnb30 := NB325_314.out
        have hnc30 := NB314_325.out
        have hcz31_0 : w24.cell? ⟨gb325, 0, none⟩ = some (.int .i64 t318) := (blk_cell BK325.out 0).trans rfl
        have hcz31_1 : w24.cell? ⟨gb325, 1, none⟩ = some (.int .i64 t319) := (blk_cell BK325.out 1).trans rfl
        have hfz31_0 := blk_frozen BK325.out 0
        have hfz31_1 := blk_frozen BK325.out 1
        have hnb32 := NB324_326.out
        have hnc32 := NB326_324.out
        have hnb33 := NB324_314.out
        have hnc33 := NB314_324.out
        have hcz34_0 : w24.cell? ⟨gb324, 0, none⟩ = some (.int .i64 t315) := (blk_cell BK324.out 0).trans rfl
        have hcz34_1 : w24.cell? ⟨gb324, 1, none⟩ = some (.int .i64 t316) := (blk_cell BK324.out 1).trans rfl
        have hfz34_0 := blk_frozen BK324.out 0
        have hfz34_1 := blk_frozen BK324.out 1
        go_wp2_with (first | ((with_reducible refine gate_callee (f := 23) rfl ?_); refine goesL_ (some 27) rfl rfl Tryd.func23 (by kernel_rfl) rfl #[.agg #[.int .i64 t318, .int .i64 t319], .agg #[.int .i64 t315, .int .i64 t316]] rfl (by (try simp only [List.map_toArray, List.map_cons, List.map_nil]); first | done | rfl | (simp only [List.length_drop, List.length_take]; rfl)) ?_; (with_reducible refine (ratio_Compare.calls k t318 t319 t315 t316 t328 _ A25.out).mono ?_); rintro e w35 ⟨rfl, hb⟩; refine ⟨_, rfl, ?_⟩; have n0_ := Aside0.mk (IsS51.below (by repeat (first | (with_reducible first | exact HI314.out | apply IsS51.alloc | apply IsS51.drewN | apply IsS51.drew | apply IsS51.set_1 | refine IsS51.far ?_ NB314_324.out _ | refine IsS51.far ?_ NB314_325.out _ | refine IsS51.far ?_ NB314_326.out _) | exact HI314.out)) hb); have n1_ := Aside0.mk (blk_below (g := gb324) (o := .cells #[.int .i64 t315, .int .i64 t316] 23 (0, 0)) (by (with_reducible repeat (first | refine blk_drewN ?_ _ | refine blk_drew ?_ | refine blk_alloc ?_ _)); exact BK324.out) hb); have n2_ := Aside0.mk (blk_below (g := gb325) (o := .cells #[.int .i64 t318, .int .i64 t319] 23 (0, 0)) (by (with_reducible repeat (first | refine blk_drewN ?_ _ | refine blk_drew ?_ | refine blk_alloc ?_ _)); exact BK325.out) hb); have n3_ := Aside0.mk (blk_below (g := gb326) (o := .cells #[.int .i64 t321, .int .i64 t322] 23 (0, 0)) (by (with_reducible repeat (first | refine blk_drewN ?_ _ | refine blk_drew ?_ | refine blk_alloc ?_ _)); exact BK326.out) hb); have n4_ := Aside0.mk (below_step (by repeat (first | (with_reducible first | exact HB.out | apply below_alloc | apply pw_below_drewN | apply below_drew1 | refine below_set ?_ (IsS51.ge HI314.out) | refine below_set ?_ GE324.out | refine below_set ?_ GE325.out | refine below_set ?_ GE326.out) | exact HB.out)) hb); clear HI314; clear BK324; clear BK325; clear BK326; clear HB; have HI314 := n0_; have BK324 := n1_; have BK325 := n2_; have BK326 := n3_; have HB := n4_; clear n0_ n1_ n2_ n3_ n4_; (try clear hb); (try clear hb2); (try clear hk); (try clear hi); have hcz36_0 : w35.cell? ⟨gb324, 0, none⟩ = some (.int .i64 t315) := (blk_cell BK324.out 0).trans rfl; have hcz36_1 : w35.cell? ⟨gb324, 1, none⟩ = some (.int .i64 t316) := (blk_cell BK324.out 1).trans rfl; have hfz36_0 := blk_frozen BK324.out 0; have hfz36_1 := blk_frozen BK324.out 1; have hcz37_0 : w35.cell? ⟨gb325, 0, none⟩ = some (.int .i64 t318) := (blk_cell BK325.out 0).trans rfl; have hcz37_1 : w35.cell? ⟨gb325, 1, none⟩ = some (.int .i64 t319) := (blk_cell BK325.out 1).trans rfl; have hfz37_0 := blk_frozen BK325.out 0; have hfz37_1 := blk_frozen BK325.out 1))
        go_meet
        case rel => exact ⟨_, (true), (by first | rfl | (simp; done) | (simp [*]; done)), H', ⟨by first | omega | exact Nat.le_refl _⟩, ⟨by (with_reducible repeat (first | refine blk_drewN ?_ _ | refine blk_drew ?_ | refine blk_alloc ?_ _)); exact BK324.out⟩, ⟨by (with_reducible repeat (first | refine blk_drewN ?_ _ | refine blk_drew ?_ | refine blk_alloc ?_ _)); exact BK325.out⟩, ⟨by (with_reducible repeat (first | refine blk_drewN ?_ _ | refine blk_drew ?_ | refine blk_alloc ?_ _)); exact BK326.out⟩, ⟨by repeat (first | (with_reducible first | exact HB.out | apply below_alloc | apply pw_below_drewN | apply below_drew1 | refine below_set ?_ (IsS51.ge HI314.out) | refine below_set ?_ GE324.out | refine below_set ?_ GE325.out | refine below_set ?_ GE326.out) | exact HB.out)⟩⟩
      · rw [if_neg c27] at H
        have c27b0 : ((t327 == 0) != (t315 == t318 && (t316 == t319))) = false := by simpa using c27
        (try (have c27b1 : decide ((t327 == 0) = (t315 == t318 && (t316 == t319))) = true := by simpa using c27))
        (try (have c27b2 : ((t327 == 0) == (t315 == t318 && (t316 == t319))) = true := by simpa using c27))
        clear c27
        by_cases c38 : t327 ≤ 0
        · rw [if_pos c38] at H
          have c38b0 : decide (t327 ≤ 0) = true := decide_eq_true c38
          clear c38
          replace H := Option.bind_eq_some_iff.mp H
          obtain ⟨t329, A390, H⟩ := H
          replace H : (if t329 ≤ 0 then ((ratio_Compare.f k t315 t316 t321 t322).bind fun t330 => (payrolllaw1_RatioOrder.j0 k t327 (decide (t330 > 0)) t315 t316 t318 t319 t321 t322)) else (payrolllaw1_RatioOrder.j0 k t327 false t315 t316 t318 t319 t321 t322)) = some true := H
          have A39 := Aside0.mk A390
          clear A390
          by_cases c40 : t329 ≤ 0
          · rw [if_pos c40] at H
            have c40b0 : decide (t329 ≤ 0) = true := decide_eq_true c40
            clear c40
            replace H := Option.bind_eq_some_iff.mp H
            obtain ⟨t330, A410, H⟩ := H
            replace H : (payrolllaw1_RatioOrder.j0 k t327 (decide (t330 > 0)) t315 t316 t318 t319 t321 t322) = some true := H
            have A41 := Aside0.mk A410
            clear A410
            have H' := Aside0.mk H
            clear H
            have hnb42 := NB325_324.out
            have hnc42 := NB324_325.out
            have hnb43 := NB325_326.out
            have hnc43 := NB326_325.out
            have hnb44 := NB325_314.out
            have hnc44 := NB314_325.out
            have hcz45_0 : w24.cell? ⟨gb325, 0, none⟩ = some (.int .i64 t318) := (blk_cell BK325.out 0).trans rfl
            have hcz45_1 : w24.cell? ⟨gb325, 1, none⟩ = some (.int .i64 t319) := (blk_cell BK325.out 1).trans rfl
            have hfz45_0 := blk_frozen BK325.out 0
            have hfz45_1 := blk_frozen BK325.out 1
            have hnb46 := NB324_326.out
            have hnc46 := NB326_324.out
            have hnb47 := NB324_314.out
            have hnc47 := NB314_324.out
            have hcz48_0 : w24.cell? ⟨gb324, 0, none⟩ = some (.int .i64 t315) := (blk_cell BK324.out 0).trans rfl
            have hcz48_1 : w24.cell? ⟨gb324, 1, none⟩ = some (.int .i64 t316) := (blk_cell BK324.out 1).trans rfl
            have hfz48_0 := blk_frozen BK324.out 0
            have hfz48_1 := blk_frozen BK324.out 1
            go_wp2_with (first | ((with_reducible refine gate_callee (f := 23) rfl ?_); refine goesL_ (some 27) rfl rfl Tryd.func23 (by kernel_rfl) rfl #[.agg #[.int .i64 t318, .int .i64 t319], .agg #[.int .i64 t315, .int .i64 t316]] rfl (by (try simp only [List.map_toArray, List.map_cons, List.map_nil]); first | done | rfl | (simp only [List.length_drop, List.length_take]; rfl)) ?_; (with_reducible refine (ratio_Compare.calls k t318 t319 t315 t316 t328 _ A25.out).mono ?_); rintro e w49 ⟨rfl, hb⟩; refine ⟨_, rfl, ?_⟩; have n0_ := Aside0.mk (IsS51.below (by repeat (first | (with_reducible first | exact HI314.out | apply IsS51.alloc | apply IsS51.drewN | apply IsS51.drew | apply IsS51.set_1 | refine IsS51.far ?_ NB314_324.out _ | refine IsS51.far ?_ NB314_325.out _ | refine IsS51.far ?_ NB314_326.out _) | exact HI314.out)) hb); have n1_ := Aside0.mk (blk_below (g := gb324) (o := .cells #[.int .i64 t315, .int .i64 t316] 23 (0, 0)) (by (with_reducible repeat (first | refine blk_drewN ?_ _ | refine blk_drew ?_ | refine blk_alloc ?_ _)); exact BK324.out) hb); have n2_ := Aside0.mk (blk_below (g := gb325) (o := .cells #[.int .i64 t318, .int .i64 t319] 23 (0, 0)) (by (with_reducible repeat (first | refine blk_drewN ?_ _ | refine blk_drew ?_ | refine blk_alloc ?_ _)); exact BK325.out) hb); have n3_ := Aside0.mk (blk_below (g := gb326) (o := .cells #[.int .i64 t321, .int .i64 t322] 23 (0, 0)) (by (with_reducible repeat (first | refine blk_drewN ?_ _ | refine blk_drew ?_ | refine blk_alloc ?_ _)); exact BK326.out) hb); have n4_ := Aside0.mk (below_step (by repeat (first | (with_reducible first | exact HB.out | apply below_alloc | apply pw_below_drewN | apply below_drew1 | refine below_set ?_ (IsS51.ge HI314.out) | refine below_set ?_ GE324.out | refine below_set ?_ GE325.out | refine below_set ?_ GE326.out) | exact HB.out)) hb); clear HI314; clear BK324; clear BK325; clear BK326; clear HB; have HI314 := n0_; have BK324 := n1_; have BK325 := n2_; have BK326 := n3_; have HB := n4_; clear n0_ n1_ n2_ n3_ n4_; (try clear hb); (try clear hb2); (try clear hk); (try clear hi); have hcz50_0 : w49.cell? ⟨gb324, 0, none⟩ = some (.int .i64 t315) := (blk_cell BK324.out 0).trans rfl; have hcz50_1 : w49.cell? ⟨gb324, 1, none⟩ = some (.int .i64 t316) := (blk_cell BK324.out 1).trans rfl; have hfz50_0 := blk_frozen BK324.out 0; have hfz50_1 := blk_frozen BK324.out 1; have hcz51_0 : w49.cell? ⟨gb325, 0, none⟩ = some (.int .i64 t318) := (blk_cell BK325.out 0).trans rfl; have hcz51_1 : w49.cell? ⟨gb325, 1, none⟩ = some (.int .i64 t319) := (blk_cell BK325.out 1).trans rfl; have hfz51_0 := blk_frozen BK325.out 0; have hfz51_1 := blk_frozen BK325.out 1; have hnb52 := NB326_314.out; have hnc52 := NB314_326.out; have hcz53_0 : w49.cell? ⟨gb326, 0, none⟩ = some (.int .i64 t321) := (blk_cell BK326.out 0).trans rfl; have hcz53_1 : w49.cell? ⟨gb326, 1, none⟩ = some (.int .i64 t322) := (blk_cell BK326.out 1).trans rfl; have hfz53_0 := blk_frozen BK326.out 0; have hfz53_1 := blk_frozen BK326.out 1) | (go_at_call 23; (with_reducible refine (ratio_Compare.calls k t318 t319 t321 t322 t329 _ A39.out).mono ?_); rintro e w54 ⟨rfl, hb⟩; have n0_ := Aside0.mk (IsS51.below (by repeat (first | (with_reducible first | exact HI314.out | apply IsS51.alloc | apply IsS51.drewN | apply IsS51.drew | apply IsS51.set_1 | refine IsS51.far ?_ NB314_324.out _ | refine IsS51.far ?_ NB314_325.out _ | refine IsS51.far ?_ NB314_326.out _) | exact HI314.out)) hb); have n1_ := Aside0.mk (blk_below (g := gb324) (o := .cells #[.int .i64 t315, .int .i64 t316] 23 (0, 0)) (by (with_reducible repeat (first | refine blk_drewN ?_ _ | refine blk_drew ?_ | refine blk_alloc ?_ _)); exact BK324.out) hb); have n2_ := Aside0.mk (blk_below (g := gb325) (o := .cells #[.int .i64 t318, .int .i64 t319] 23 (0, 0)) (by (with_reducible repeat (first | refine blk_drewN ?_ _ | refine blk_drew ?_ | refine blk_alloc ?_ _)); exact BK325.out) hb); have n3_ := Aside0.mk (blk_below (g := gb326) (o := .cells #[.int .i64 t321, .int .i64 t322] 23 (0, 0)) (by (with_reducible repeat (first | refine blk_drewN ?_ _ | refine blk_drew ?_ | refine blk_alloc ?_ _)); exact BK326.out) hb); have n4_ := Aside0.mk (below_step (by repeat (first | (with_reducible first | exact HB.out | apply below_alloc | apply pw_below_drewN | apply below_drew1 | refine below_set ?_ (IsS51.ge HI314.out) | refine below_set ?_ GE324.out | refine below_set ?_ GE325.out | refine below_set ?_ GE326.out) | exact HB.out)) hb); clear HI314; clear BK324; clear BK325; clear BK326; clear HB; have HI314 := n0_; have BK324 := n1_; have BK325 := n2_; have BK326 := n3_; have HB := n4_; clear n0_ n1_ n2_ n3_ n4_; (try clear hb); (try clear hb2); (try clear hk); (try clear hi); have hcz55_0 : w54.cell? ⟨gb324, 0, none⟩ = some (.int .i64 t315) := (blk_cell BK324.out 0).trans rfl; have hcz55_1 : w54.cell? ⟨gb324, 1, none⟩ = some (.int .i64 t316) := (blk_cell BK324.out 1).trans rfl; have hfz55_0 := blk_frozen BK324.out 0; have hfz55_1 := blk_frozen BK324.out 1; have hcz56_0 : w54.cell? ⟨gb326, 0, none⟩ = some (.int .i64 t321) := (blk_cell BK326.out 0).trans rfl; have hcz56_1 : w54.cell? ⟨gb326, 1, none⟩ = some (.int .i64 t322) := (blk_cell BK326.out 1).trans rfl; have hfz56_0 := blk_frozen BK326.out 0; have hfz56_1 := blk_frozen BK326.out 1) | (go_at_call 23; (with_reducible refine (ratio_Compare.calls k t315 t316 t321 t322 t330 _ A41.out).mono ?_); rintro e w57 ⟨rfl, hb⟩; have n0_ := Aside0.mk (IsS51.below (by repeat (first | (with_reducible first | exact HI314.out | apply IsS51.alloc | apply IsS51.drewN | apply IsS51.drew | apply IsS51.set_1 | refine IsS51.far ?_ NB314_324.out _ | refine IsS51.far ?_ NB314_325.out _ | refine IsS51.far ?_ NB314_326.out _) | exact HI314.out)) hb); have n1_ := Aside0.mk (blk_below (g := gb324) (o := .cells #[.int .i64 t315, .int .i64 t316] 23 (0, 0)) (by (with_reducible repeat (first | refine blk_drewN ?_ _ | refine blk_drew ?_ | refine blk_alloc ?_ _)); exact BK324.out) hb); have n2_ := Aside0.mk (blk_below (g := gb325) (o := .cells #[.int .i64 t318, .int .i64 t319] 23 (0, 0)) (by (with_reducible repeat (first | refine blk_drewN ?_ _ | refine blk_drew ?_ | refine blk_alloc ?_ _)); exact BK325.out) hb); have n3_ := Aside0.mk (blk_below (g := gb326) (o := .cells #[.int .i64 t321, .int .i64 t322] 23 (0, 0)) (by (with_reducible repeat (first | refine blk_drewN ?_ _ | refine blk_drew ?_ | refine blk_alloc ?_ _)); exact BK326.out) hb); have n4_ := Aside0.mk (below_step (by repeat (first | (with_reducible first | exact HB.out | apply below_alloc | apply pw_below_drewN | apply below_drew1 | refine below_set ?_ (IsS51.ge HI314.out) | refine below_set ?_ GE324.out | refine below_set ?_ GE325.out | refine below_set ?_ GE326.out) | exact HB.out)) hb); clear HI314; clear BK324; clear BK325; clear BK326; clear HB; have HI314 := n0_; have BK324 := n1_; have BK325 := n2_; have BK326 := n3_; have HB := n4_; clear n0_ n1_ n2_ n3_ n4_; (try clear hb); (try clear hb2); (try clear hk); (try clear hi)))
            go_meet
            case rel => exact ⟨_, (decide (t330 > 0)), (by first | rfl | (simp; done) | (simp [*]; done)), H', ⟨by first | omega | exact Nat.le_refl _⟩, ⟨by (with_reducible repeat (first | refine blk_drewN ?_ _ | refine blk_drew ?_ | refine blk_alloc ?_ _)); exact BK324.out⟩, ⟨by (with_reducible repeat (first | refine blk_drewN ?_ _ | refine blk_drew ?_ | refine blk_alloc ?_ _)); exact BK325.out⟩, ⟨by (with_reducible repeat (first | refine blk_drewN ?_ _ | refine blk_drew ?_ | refine blk_alloc ?_ _)); exact BK326.out⟩, ⟨by repeat (first | (with_reducible first | exact HB.out | apply below_alloc | apply pw_below_drewN | apply below_drew1 | refine below_set ?_ (IsS51.ge HI314.out) | refine below_set ?_ GE324.out | refine below_set ?_ GE325.out | refine below_set ?_ GE326.out) | exact HB.out)⟩⟩
          · rw [if_neg c40] at H
            have c40b0 : decide (t329 ≤ 0) = false := decide_eq_false c40
            clear c40
            have H' := Aside0.mk H
            clear H
            have hnb58 := NB325_324.out
            have hnc58 := NB324_325.out
            have hnb59 := NB325_326.out
            have hnc59 := NB326_325.out
            have hnb60 := NB325_314.out
            have hnc60 := NB314_325.out
            have hcz61_0 : w24.cell? ⟨gb325, 0, none⟩ = some (.int .i64 t318) := (blk_cell BK325.out 0).trans rfl
            have hcz61_1 : w24.cell? ⟨gb325, 1, none⟩ = some (.int .i64 t319) := (blk_cell BK325.out 1).trans rfl
            have hfz61_0 := blk_frozen BK325.out 0
            have hfz61_1 := blk_frozen BK325.out 1
            have hnb62 := NB324_326.out
            have hnc62 := NB326_324.out
            have hnb63 := NB324_314.out
            have hnc63 := NB314_324.out
            have hcz64_0 : w24.cell? ⟨gb324, 0, none⟩ = some (.int .i64 t315) := (blk_cell BK324.out 0).trans rfl
            have hcz64_1 : w24.cell? ⟨gb324, 1, none⟩ = some (.int .i64 t316) := (blk_cell BK324.out 1).trans rfl
            have hfz64_0 := blk_frozen BK324.out 0
            have hfz64_1 := blk_frozen BK324.out 1
            go_wp2_with (first | ((with_reducible refine gate_callee (f := 23) rfl ?_); refine goesL_ (some 27) rfl rfl Tryd.func23 (by kernel_rfl) rfl #[.agg #[.int .i64 t318, .int .i64 t319], .agg #[.int .i64 t315, .int .i64 t316]] rfl (by (try simp only [List.map_toArray, List.map_cons, List.map_nil]); first | done | rfl | (simp only [List.length_drop, List.length_take]; rfl)) ?_; (with_reducible refine (ratio_Compare.calls k t318 t319 t315 t316 t328 _ A25.out).mono ?_); rintro e w65 ⟨rfl, hb⟩; refine ⟨_, rfl, ?_⟩; have n0_ := Aside0.mk (IsS51.below (by repeat (first | (with_reducible first | exact HI314.out | apply IsS51.alloc | apply IsS51.drewN | apply IsS51.drew | apply IsS51.set_1 | refine IsS51.far ?_ NB314_324.out _ | refine IsS51.far ?_ NB314_325.out _ | refine IsS51.far ?_ NB314_326.out _) | exact HI314.out)) hb); have n1_ := Aside0.mk (blk_below (g := gb324) (o := .cells #[.int .i64 t315, .int .i64 t316] 23 (0, 0)) (by (with_reducible repeat (first | refine blk_drewN ?_ _ | refine blk_drew ?_ | refine blk_alloc ?_ _)); exact BK324.out) hb); have n2_ := Aside0.mk (blk_below (g := gb325) (o := .cells #[.int .i64 t318, .int .i64 t319] 23 (0, 0)) (by (with_reducible repeat (first | refine blk_drewN ?_ _ | refine blk_drew ?_ | refine blk_alloc ?_ _)); exact BK325.out) hb); have n3_ := Aside0.mk (blk_below (g := gb326) (o := .cells #[.int .i64 t321, .int .i64 t322] 23 (0, 0)) (by (with_reducible repeat (first | refine blk_drewN ?_ _ | refine blk_drew ?_ | refine blk_alloc ?_ _)); exact BK326.out) hb); have n4_ := Aside0.mk (below_step (by repeat (first | (with_reducible first | exact HB.out | apply below_alloc | apply pw_below_drewN | apply below_drew1 | refine below_set ?_ (IsS51.ge HI314.out) | refine below_set ?_ GE324.out | refine below_set ?_ GE325.out | refine below_set ?_ GE326.out) | exact HB.out)) hb); clear HI314; clear BK324; clear BK325; clear BK326; clear HB; have HI314 := n0_; have BK324 := n1_; have BK325 := n2_; have BK326 := n3_; have HB := n4_; clear n0_ n1_ n2_ n3_ n4_; (try clear hb); (try clear hb2); (try clear hk); (try clear hi); have hcz66_0 : w65.cell? ⟨gb324, 0, none⟩ = some (.int .i64 t315) := (blk_cell BK324.out 0).trans rfl; have hcz66_1 : w65.cell? ⟨gb324, 1, none⟩ = some (.int .i64 t316) := (blk_cell BK324.out 1).trans rfl; have hfz66_0 := blk_frozen BK324.out 0; have hfz66_1 := blk_frozen BK324.out 1; have hcz67_0 : w65.cell? ⟨gb325, 0, none⟩ = some (.int .i64 t318) := (blk_cell BK325.out 0).trans rfl; have hcz67_1 : w65.cell? ⟨gb325, 1, none⟩ = some (.int .i64 t319) := (blk_cell BK325.out 1).trans rfl; have hfz67_0 := blk_frozen BK325.out 0; have hfz67_1 := blk_frozen BK325.out 1; have hnb68 := NB326_314.out; have hnc68 := NB314_326.out; have hcz69_0 : w65.cell? ⟨gb326, 0, none⟩ = some (.int .i64 t321) := (blk_cell BK326.out 0).trans rfl; have hcz69_1 : w65.cell? ⟨gb326, 1, none⟩ = some (.int .i64 t322) := (blk_cell BK326.out 1).trans rfl; have hfz69_0 := blk_frozen BK326.out 0; have hfz69_1 := blk_frozen BK326.out 1) | (go_at_call 23; (with_reducible refine (ratio_Compare.calls k t318 t319 t321 t322 t329 _ A39.out).mono ?_); rintro e w70 ⟨rfl, hb⟩; have n0_ := Aside0.mk (IsS51.below (by repeat (first | (with_reducible first | exact HI314.out | apply IsS51.alloc | apply IsS51.drewN | apply IsS51.drew | apply IsS51.set_1 | refine IsS51.far ?_ NB314_324.out _ | refine IsS51.far ?_ NB314_325.out _ | refine IsS51.far ?_ NB314_326.out _) | exact HI314.out)) hb); have n1_ := Aside0.mk (blk_below (g := gb324) (o := .cells #[.int .i64 t315, .int .i64 t316] 23 (0, 0)) (by (with_reducible repeat (first | refine blk_drewN ?_ _ | refine blk_drew ?_ | refine blk_alloc ?_ _)); exact BK324.out) hb); have n2_ := Aside0.mk (blk_below (g := gb325) (o := .cells #[.int .i64 t318, .int .i64 t319] 23 (0, 0)) (by (with_reducible repeat (first | refine blk_drewN ?_ _ | refine blk_drew ?_ | refine blk_alloc ?_ _)); exact BK325.out) hb); have n3_ := Aside0.mk (blk_below (g := gb326) (o := .cells #[.int .i64 t321, .int .i64 t322] 23 (0, 0)) (by (with_reducible repeat (first | refine blk_drewN ?_ _ | refine blk_drew ?_ | refine blk_alloc ?_ _)); exact BK326.out) hb); have n4_ := Aside0.mk (below_step (by repeat (first | (with_reducible first | exact HB.out | apply below_alloc | apply pw_below_drewN | apply below_drew1 | refine below_set ?_ (IsS51.ge HI314.out) | refine below_set ?_ GE324.out | refine below_set ?_ GE325.out | refine below_set ?_ GE326.out) | exact HB.out)) hb); clear HI314; clear BK324; clear BK325; clear BK326; clear HB; have HI314 := n0_; have BK324 := n1_; have BK325 := n2_; have BK326 := n3_; have HB := n4_; clear n0_ n1_ n2_ n3_ n4_; (try clear hb); (try clear hb2); (try clear hk); (try clear hi)))
            go_meet
            case rel => exact ⟨_, (false), (by first | rfl | (simp; done) | (simp [*]; done)), H', ⟨by first | omega | exact Nat.le_refl _⟩, ⟨by (with_reducible repeat (first | refine blk_drewN ?_ _ | refine blk_drew ?_ | refine blk_alloc ?_ _)); exact BK324.out⟩, ⟨by (with_reducible repeat (first | refine blk_drewN ?_ _ | refine blk_drew ?_ | refine blk_alloc ?_ _)); exact BK325.out⟩, ⟨by (with_reducible repeat (first | refine blk_drewN ?_ _ | refine blk_drew ?_ | refine blk_alloc ?_ _)); exact BK326.out⟩, ⟨by repeat (first | (with_reducible first | exact HB.out | apply below_alloc | apply pw_below_drewN | apply below_drew1 | refine below_set ?_ (IsS51.ge HI314.out) | refine below_set ?_ GE324.out | refine below_set ?_ GE325.out | refine below_set ?_ GE326.out) | exact HB.out)⟩⟩
        · rw [if_neg c38] at H
          have c38b0 : decide (t327 ≤ 0) = false := decide_eq_false c38
          clear c38
          have H' := Aside0.mk H
          clear H
          have hnb71 := NB325_324.out
          have hnc71 := NB324_325.out
          have hnb72 := NB325_326.out
          have hnc72 := NB326_325.out
          have hnb73 := NB325_314.out
          have hnc73 := NB314_325.out
          have hcz74_0 : w24.cell? ⟨gb325, 0, none⟩ = some (.int .i64 t318) := (blk_cell BK325.out 0).trans rfl
          have hcz74_1 : w24.cell? ⟨gb325, 1, none⟩ = some (.int .i64 t319) := (blk_cell BK325.out 1).trans rfl
          have hfz74_0 := blk_frozen BK325.out 0
          have hfz74_1 := blk_frozen BK325.out 1
          have hnb75 := NB324_326.out
          have hnc75 := NB326_324.out
          have hnb76 := NB324_314.out
          have hnc76 := NB314_324.out
          have hcz77_0 : w24.cell? ⟨gb324, 0, none⟩ = some (.int .i64 t315) := (blk_cell BK324.out 0).trans rfl
          have hcz77_1 : w24.cell? ⟨gb324, 1, none⟩ = some (.int .i64 t316) := (blk_cell BK324.out 1).trans rfl
          have hfz77_0 := blk_frozen BK324.out 0
          have hfz77_1 := blk_frozen BK324.out 1
          go_wp2_with (first | ((with_reducible refine gate_callee (f := 23) rfl ?_); refine goesL_ (some 27) rfl rfl Tryd.func23 (by kernel_rfl) rfl #[.agg #[.int .i64 t318, .int .i64 t319], .agg #[.int .i64 t315, .int .i64 t316]] rfl (by (try simp only [List.map_toArray, List.map_cons, List.map_nil]); first | done | rfl | (simp only [List.length_drop, List.length_take]; rfl)) ?_; (with_reducible refine (ratio_Compare.calls k t318 t319 t315 t316 t328 _ A25.out).mono ?_); rintro e w78 ⟨rfl, hb⟩; refine ⟨_, rfl, ?_⟩; have n0_ := Aside0.mk (IsS51.below (by repeat (first | (with_reducible first | exact HI314.out | apply IsS51.alloc | apply IsS51.drewN | apply IsS51.drew | apply IsS51.set_1 | refine IsS51.far ?_ NB314_324.out _ | refine IsS51.far ?_ NB314_325.out _ | refine IsS51.far ?_ NB314_326.out _) | exact HI314.out)) hb); have n1_ := Aside0.mk (blk_below (g := gb324) (o := .cells #[.int .i64 t315, .int .i64 t316] 23 (0, 0)) (by (with_reducible repeat (first | refine blk_drewN ?_ _ | refine blk_drew ?_ | refine blk_alloc ?_ _)); exact BK324.out) hb); have n2_ := Aside0.mk (blk_below (g := gb325) (o := .cells #[.int .i64 t318, .int .i64 t319] 23 (0, 0)) (by (with_reducible repeat (first | refine blk_drewN ?_ _ | refine blk_drew ?_ | refine blk_alloc ?_ _)); exact BK325.out) hb); have n3_ := Aside0.mk (blk_below (g := gb326) (o := .cells #[.int .i64 t321, .int .i64 t322] 23 (0, 0)) (by (with_reducible repeat (first | refine blk_drewN ?_ _ | refine blk_drew ?_ | refine blk_alloc ?_ _)); exact BK326.out) hb); have n4_ := Aside0.mk (below_step (by repeat (first | (with_reducible first | exact HB.out | apply below_alloc | apply pw_below_drewN | apply below_drew1 | refine below_set ?_ (IsS51.ge HI314.out) | refine below_set ?_ GE324.out | refine below_set ?_ GE325.out | refine below_set ?_ GE326.out) | exact HB.out)) hb); clear HI314; clear BK324; clear BK325; clear BK326; clear HB; have HI314 := n0_; have BK324 := n1_; have BK325 := n2_; have BK326 := n3_; have HB := n4_; clear n0_ n1_ n2_ n3_ n4_; (try clear hb); (try clear hb2); (try clear hk); (try clear hi); have hcz79_0 : w78.cell? ⟨gb324, 0, none⟩ = some (.int .i64 t315) := (blk_cell BK324.out 0).trans rfl; have hcz79_1 : w78.cell? ⟨gb324, 1, none⟩ = some (.int .i64 t316) := (blk_cell BK324.out 1).trans rfl; have hfz79_0 := blk_frozen BK324.out 0; have hfz79_1 := blk_frozen BK324.out 1; have hcz80_0 : w78.cell? ⟨gb325, 0, none⟩ = some (.int .i64 t318) := (blk_cell BK325.out 0).trans rfl; have hcz80_1 : w78.cell? ⟨gb325, 1, none⟩ = some (.int .i64 t319) := (blk_cell BK325.out 1).trans rfl; have hfz80_0 := blk_frozen BK325.out 0; have hfz80_1 := blk_frozen BK325.out 1))
          go_meet
          case rel => exact ⟨_, (false), (by first | rfl | (simp; done) | (simp [*]; done)), H', ⟨by first | omega | exact Nat.le_refl _⟩, ⟨by (with_reducible repeat (first | refine blk_drewN ?_ _ | refine blk_drew ?_ | refine blk_alloc ?_ _)); exact BK324.out⟩, ⟨by (with_reducible repeat (first | refine blk_drewN ?_ _ | refine blk_drew ?_ | refine blk_alloc ?_ _)); exact BK325.out⟩, ⟨by (with_reducible repeat (first | refine blk_drewN ?_ _ | refine blk_drew ?_ | refine blk_alloc ?_ _)); exact BK326.out⟩, ⟨by repeat (first | (with_reducible first | exact HB.out | apply below_alloc | apply pw_below_drewN | apply below_drew1 | refine below_set ?_ (IsS51.ge HI314.out) | refine below_set ?_ GE324.out | refine below_set ?_ GE325.out | refine below_set ?_ GE326.out) | exact HB.out)⟩⟩
    · rw [if_neg c26] at H
      have c26b0 : (t327 == (wrap64 (-t328))) = false := beq_eq_false_iff_ne.mpr c26
      have c26b1 : (t327 != (wrap64 (-t328))) = true := bne_iff_ne.mpr c26
      (first | rw [c26b0] | (simp only [i64_w, i32_w]; rw [c26b0]) | skip)
      have H' := Aside0.mk H
      clear H
      have hnb81 := NB325_324.out
      have hnc81 := NB324_325.out
      have hnb82 := NB325_326.out
      have hnc82 := NB326_325.out
      have hnb83 := NB325_314.out
      have hnc83 := NB314_325.out
      have hcz84_0 : w24.cell? ⟨gb325, 0, none⟩ = some (.int .i64 t318) := (blk_cell BK325.out 0).trans rfl
      have hcz84_1 : w24.cell? ⟨gb325, 1, none⟩ = some (.int .i64 t319) := (blk_cell BK325.out 1).trans rfl
      have hfz84_0 := blk_frozen BK325.out 0
      have hfz84_1 := blk_frozen BK325.out 1
      have hnb85 := NB324_326.out
      have hnc85 := NB326_324.out
      have hnb86 := NB324_314.out
      have hnc86 := NB314_324.out
      have hcz87_0 : w24.cell? ⟨gb324, 0, none⟩ = some (.int .i64 t315) := (blk_cell BK324.out 0).trans rfl
      have hcz87_1 : w24.cell? ⟨gb324, 1, none⟩ = some (.int .i64 t316) := (blk_cell BK324.out 1).trans rfl
      have hfz87_0 := blk_frozen BK324.out 0
      have hfz87_1 := blk_frozen BK324.out 1
      go_wp2_with (first | ((with_reducible refine gate_callee (f := 23) rfl ?_); refine goesL_ (some 27) rfl rfl Tryd.func23 (by kernel_rfl) rfl #[.agg #[.int .i64 t318, .int .i64 t319], .agg #[.int .i64 t315, .int .i64 t316]] rfl (by (try simp only [List.map_toArray, List.map_cons, List.map_nil]); first | done | rfl | (simp only [List.length_drop, List.length_take]; rfl)) ?_; (with_reducible refine (ratio_Compare.calls k t318 t319 t315 t316 t328 _ A25.out).mono ?_); rintro e w88 ⟨rfl, hb⟩; refine ⟨_, rfl, ?_⟩; have n0_ := Aside0.mk (IsS51.below (by repeat (first | (with_reducible first | exact HI314.out | apply IsS51.alloc | apply IsS51.drewN | apply IsS51.drew | apply IsS51.set_1 | refine IsS51.far ?_ NB314_324.out _ | refine IsS51.far ?_ NB314_325.out _ | refine IsS51.far ?_ NB314_326.out _) | exact HI314.out)) hb); have n1_ := Aside0.mk (blk_below (g := gb324) (o := .cells #[.int .i64 t315, .int .i64 t316] 23 (0, 0)) (by (with_reducible repeat (first | refine blk_drewN ?_ _ | refine blk_drew ?_ | refine blk_alloc ?_ _)); exact BK324.out) hb); have n2_ := Aside0.mk (blk_below (g := gb325) (o := .cells #[.int .i64 t318, .int .i64 t319] 23 (0, 0)) (by (with_reducible repeat (first | refine blk_drewN ?_ _ | refine blk_drew ?_ | refine blk_alloc ?_ _)); exact BK325.out) hb); have n3_ := Aside0.mk (blk_below (g := gb326) (o := .cells #[.int .i64 t321, .int .i64 t322] 23 (0, 0)) (by (with_reducible repeat (first | refine blk_drewN ?_ _ | refine blk_drew ?_ | refine blk_alloc ?_ _)); exact BK326.out) hb); have n4_ := Aside0.mk (below_step (by repeat (first | (with_reducible first | exact HB.out | apply below_alloc | apply pw_below_drewN | apply below_drew1 | refine below_set ?_ (IsS51.ge HI314.out) | refine below_set ?_ GE324.out | refine below_set ?_ GE325.out | refine below_set ?_ GE326.out) | exact HB.out)) hb); clear HI314; clear BK324; clear BK325; clear BK326; clear HB; have HI314 := n0_; have BK324 := n1_; have BK325 := n2_; have BK326 := n3_; have HB := n4_; clear n0_ n1_ n2_ n3_ n4_; (try clear hb); (try clear hb2); (try clear hk); (try clear hi)))
      go_meet
      case rel => exact ⟨_, (true), (by first | rfl | (simp; done) | (simp [*]; done)), H', ⟨by first | omega | exact Nat.le_refl _⟩, ⟨by (with_reducible repeat (first | refine blk_drewN ?_ _ | refine blk_drew ?_ | refine blk_alloc ?_ _)); exact BK324.out⟩, ⟨by (with_reducible repeat (first | refine blk_drewN ?_ _ | refine blk_drew ?_ | refine blk_alloc ?_ _)); exact BK325.out⟩, ⟨by (with_reducible repeat (first | refine blk_drewN ?_ _ | refine blk_drew ?_ | refine blk_alloc ?_ _)); exact BK326.out⟩, ⟨by repeat (first | (with_reducible first | exact HB.out | apply below_alloc | apply pw_below_drewN | apply below_drew1 | refine below_set ?_ (IsS51.ge HI314.out) | refine below_set ?_ GE324.out | refine below_set ?_ GE325.out | refine below_set ?_ GE326.out) | exact HB.out)⟩⟩
  case rest =>
    clear HC7
    try clear c1
    try clear c2
    try clear p2
    try clear c3
    try clear c4
    try clear c5
    try clear c6
    try clear p6
    try clear c7
    try clear c8
    try clear c13
    try clear c14
    try clear c15
    try clear c16
    try clear c17
    try clear c19
    try clear c20
    try clear c22
    try clear c23
    try clear c26
    try clear c26b0
    try clear c26b1
    try clear c27
    try clear c27b0
    try clear c27b1
    try clear c27b2
    try clear c28
    try clear c29
    try clear c30
    try clear c32
    try clear c33
    try clear c38
    try clear c38b0
    try clear c40
    try clear c40b0
    try clear c42
    try clear c43
    try clear c44
    try clear c46
    try clear c47
    try clear c52
    try clear c58
    try clear c59
    try clear c60
    try clear c62
    try clear c63
    try clear p64
    try clear c68
    try clear c71
    try clear c72
    try clear c73
    try clear c75
    try clear c76
    try clear c81
    try clear c82
    try clear c83
    try clear c85
    try clear c86
    try clear hcz18_0
    try clear hcz18_1
    try clear hcz21_0
    try clear hcz21_1
    try clear hcz23_0
    try clear hcz23_1
    try clear hcz31_0
    try clear hcz31_1
    try clear hcz34_0
    try clear hcz34_1
    try clear hcz36_0
    try clear hcz36_1
    try clear hcz37_0
    try clear hcz37_1
    try clear hcz45_0
    try clear hcz45_1
    try clear hcz48_0
    try clear hcz48_1
    try clear hcz50_0
    try clear hcz50_1
    try clear hcz51_0
    try clear hcz51_1
    try clear hcz53_0
    try clear hcz53_1
    try clear hcz55_0
    try clear hcz55_1
    try clear hcz56_0
    try clear hcz56_1
    try clear hcz61_0
    try clear hcz61_1
    try clear hcz64_0
    try clear hcz64_1
    try clear hcz66_0
    try clear hcz66_1
    try clear hcz67_0
    try clear hcz67_1
    try clear hcz69_0
    try clear hcz69_1
    try clear hcz74_0
    try clear hcz74_1
    try clear hcz77_0
    try clear hcz77_1
    try clear hcz79_0
    try clear hcz79_1
    try clear hcz80_0
    try clear hcz80_1
    try clear hcz84_0
    try clear hcz84_1
    try clear hcz87_0
    try clear hcz87_1
    try clear hfz18_0
    try clear hfz18_1
    try clear hfz21_0
    try clear hfz21_1
    try clear hfz23_0
    try clear hfz23_1
    try clear hfz31_0
    try clear hfz31_1
    try clear hfz34_0
    try clear hfz34_1
    try clear hfz36_0
    try clear hfz36_1
    try clear hfz37_0
    try clear hfz37_1
    try clear hfz45_0
    try clear hfz45_1
    try clear hfz48_0
    try clear hfz48_1
    try clear hfz50_0
    try clear hfz50_1
    try clear hfz51_0
    try clear hfz51_1
    try clear hfz53_0
    try clear hfz53_1
    try clear hfz55_0
    try clear hfz55_1
    try clear hfz56_0
    try clear hfz56_1
    try clear hfz61_0
    try clear hfz61_1
    try clear hfz64_0
    try clear hfz64_1
    try clear hfz66_0
    try clear hfz66_1
    try clear hfz67_0
    try clear hfz67_1
    try clear hfz69_0
    try clear hfz69_1
    try clear hfz74_0
    try clear hfz74_1
    try clear hfz77_0
    try clear hfz77_1
    try clear hfz79_0
    try clear hfz79_1
    try clear hfz80_0
    try clear hfz80_1
    try clear hfz84_0
    try clear hfz84_1
    try clear hfz87_0
    try clear hfz87_1
    obtain ⟨kq, x53_6, rfl, HA, HJ6, BK324, BK325, BK326, HB⟩ := hcut
    cases kq with
    | zero => exact absurd HA.out (by simp [payrolllaw1_RatioOrder.j0])
    | succ kj6 =>
      have H := HA.out
      clear HA
      simp only [payrolllaw1_RatioOrder.j0] at H
      by_cases c89 : x53_6 = true
      · subst c89
        have H1 : (some false) = some true := by rw [if_pos rfl] at H; exact H
        clear H
        have H := H1
        clear H1
        exact absurd H (by simp)
      · replace c89 := Bool.eq_false_iff.mpr c89
        subst c89
        have H1 : ((ratio_Add.f kj6 t315 t316 t321 t322).bind fun bt331 => ((ratio_Add.f kj6 t318 t319 t321 t322).bind fun bt335 => (if bt331.2.2 = 0 then (if bt335.2.2 = 0 then ((ratio_Compare.f kj6 bt331.1 bt331.2.1 bt335.1 bt335.2.1).bind fun t339 => (payrolllaw1_RatioOrder.j1 kj6 t327 (t339 != t327) t315 t316 t318 t319 t321 t322)) else (payrolllaw1_RatioOrder.j1 kj6 t327 false t315 t316 t318 t319 t321 t322)) else (payrolllaw1_RatioOrder.j1 kj6 t327 false t315 t316 t318 t319 t321 t322)))) = some true := by rw [if_neg (show ¬ (false = true) by decide)] at H; exact H
        clear H
        have H := H1
        clear H1
        replace H := Option.bind_eq_some_iff.mp H
        obtain ⟨⟨t331, t332, t333⟩, A900, H⟩ := H
        replace H : ((ratio_Add.f kj6 t318 t319 t321 t322).bind fun bt335 => (if t333 = 0 then (if bt335.2.2 = 0 then ((ratio_Compare.f kj6 t331 t332 bt335.1 bt335.2.1).bind fun t339 => (payrolllaw1_RatioOrder.j1 kj6 t327 (t339 != t327) t315 t316 t318 t319 t321 t322)) else (payrolllaw1_RatioOrder.j1 kj6 t327 false t315 t316 t318 t319 t321 t322)) else (payrolllaw1_RatioOrder.j1 kj6 t327 false t315 t316 t318 t319 t321 t322))) = some true := H
        have A90 := Aside0.mk A900
        clear A900
        replace H := Option.bind_eq_some_iff.mp H
        obtain ⟨⟨t335, t336, t337⟩, A910, H⟩ := H
        replace H : (if t333 = 0 then (if t337 = 0 then ((ratio_Compare.f kj6 t331 t332 t335 t336).bind fun t339 => (payrolllaw1_RatioOrder.j1 kj6 t327 (t339 != t327) t315 t316 t318 t319 t321 t322)) else (payrolllaw1_RatioOrder.j1 kj6 t327 false t315 t316 t318 t319 t321 t322)) else (payrolllaw1_RatioOrder.j1 kj6 t327 false t315 t316 t318 t319 t321 t322)) = some true := H
        have A91 := Aside0.mk A910
        clear A910
        have HC92 := Aside0.mk H
        clear H
        have hnb93 := NB324_325.out
        have hnc93 := NB325_324.out
        have hnb94 := NB324_326.out
        have hnc94 := NB326_324.out
        have hcz95_0 : wc.cell? ⟨gb324, 0, none⟩ = some (.int .i64 t315) := (blk_cell BK324.out 0).trans rfl
        have hcz95_1 : wc.cell? ⟨gb324, 1, none⟩ = some (.int .i64 t316) := (blk_cell BK324.out 1).trans rfl
        have hfz95_0 := blk_frozen BK324.out 0
        have hfz95_1 := blk_frozen BK324.out 1
        have hnb96 := NB326_325.out
        have hnc96 := NB325_326.out
        have hcz97_0 : wc.cell? ⟨gb326, 0, none⟩ = some (.int .i64 t321) := (blk_cell BK326.out 0).trans rfl
        have hcz97_1 : wc.cell? ⟨gb326, 1, none⟩ = some (.int .i64 t322) := (blk_cell BK326.out 1).trans rfl
        have hfz97_0 := blk_frozen BK326.out 0
        have hfz97_1 := blk_frozen BK326.out 1
        go_upto_region 8 with (first | ((with_reducible refine gate_callee (f := 24) rfl ?_); refine goesL_ (some 57) rfl rfl Tryd.func24 (by kernel_rfl) rfl #[.agg #[.int .i64 t315, .int .i64 t316], .agg #[.int .i64 t321, .int .i64 t322]] rfl (by (try simp only [List.map_toArray, List.map_cons, List.map_nil]); first | done | rfl | (simp only [List.length_drop, List.length_take]; rfl)) ?_; (with_reducible refine (ratio_Add.calls kj6 t315 t316 t321 t322 t331 t332 t333 _ A90.out).mono ?_); rintro e w98 ⟨rfl, hb⟩; refine ⟨_, rfl, ?_⟩; have n0_ := Aside0.mk (blk_below (g := gb324) (o := .cells #[.int .i64 t315, .int .i64 t316] 23 (0, 0)) (by (with_reducible repeat (first | refine blk_drewN ?_ _ | refine blk_drew ?_ | refine blk_alloc ?_ _)); exact BK324.out) hb); have n1_ := Aside0.mk (blk_below (g := gb325) (o := .cells #[.int .i64 t318, .int .i64 t319] 23 (0, 0)) (by (with_reducible repeat (first | refine blk_drewN ?_ _ | refine blk_drew ?_ | refine blk_alloc ?_ _)); exact BK325.out) hb); have n2_ := Aside0.mk (blk_below (g := gb326) (o := .cells #[.int .i64 t321, .int .i64 t322] 23 (0, 0)) (by (with_reducible repeat (first | refine blk_drewN ?_ _ | refine blk_drew ?_ | refine blk_alloc ?_ _)); exact BK326.out) hb); have n3_ := Aside0.mk (below_step (by repeat (first | (with_reducible first | exact HB.out | apply below_alloc | apply pw_below_drewN | apply below_drew1 | refine below_set ?_ GE324.out | refine below_set ?_ GE325.out | refine below_set ?_ GE326.out) | exact HB.out)) hb); clear BK324; clear BK325; clear BK326; clear HB; have BK324 := n0_; have BK325 := n1_; have BK326 := n2_; have HB := n3_; clear n0_ n1_ n2_ n3_; (try clear hb); (try clear hb2); (try clear hk); (try clear hi)) | ((with_reducible refine gate_dst (N := 8) rfl ?_); refine box_event ?hg (N := 8) ?hd (cs := #[.int .i64 0, .int .i64 0]) (t := 23) ?hr ?_; (case hd => rfl); (case hg => rfl); (case hr => first | (go_simp; done) | (go_simp; rfl)); intro gb334 hg w99 hbox hb; have n0_ := Aside0.mk (blk_below (g := gb324) (o := .cells #[.int .i64 t315, .int .i64 t316] 23 (0, 0)) (by (with_reducible repeat (first | refine blk_drewN ?_ _ | refine blk_drew ?_ | refine blk_alloc ?_ _)); exact BK324.out) hb); have n1_ := Aside0.mk (blk_below (g := gb325) (o := .cells #[.int .i64 t318, .int .i64 t319] 23 (0, 0)) (by (with_reducible repeat (first | refine blk_drewN ?_ _ | refine blk_drew ?_ | refine blk_alloc ?_ _)); exact BK325.out) hb); have n2_ := Aside0.mk (blk_below (g := gb326) (o := .cells #[.int .i64 t321, .int .i64 t322] 23 (0, 0)) (by (with_reducible repeat (first | refine blk_drewN ?_ _ | refine blk_drew ?_ | refine blk_alloc ?_ _)); exact BK326.out) hb); have n3_ := Aside0.mk (below_step (by repeat (first | (with_reducible first | exact HB.out | apply below_alloc | apply pw_below_drewN | apply below_drew1 | refine below_set ?_ GE324.out | refine below_set ?_ GE325.out | refine below_set ?_ GE326.out) | exact HB.out)) hb); have n4_ := Aside0.mk (hbox); have n5_ := Aside0.mk ((by rw [hg]; exact (below_size (by repeat (first | (with_reducible first | exact HB.out | apply below_alloc | apply pw_below_drewN | apply below_drew1 | refine below_set ?_ GE324.out | refine below_set ?_ GE325.out | refine below_set ?_ GE326.out) | exact HB.out))) : w.heap.size ≤ gb334)); have n6_ := Aside0.mk ((by rw [hg]; exact (below_size (by repeat (first | (with_reducible first | exact HB.out | apply below_alloc | apply pw_below_drewN | apply below_drew1 | refine below_set ?_ GE324.out | refine below_set ?_ GE325.out | refine below_set ?_ GE326.out) | exact HB.out))) : w.heap.size ≤ gb334)); have n7_ := Aside0.mk ((by rw [hg]; exact Nat.ne_of_lt (blk_lt (g := gb324) (o := .cells #[.int .i64 t315, .int .i64 t316] 23 (0, 0)) (by (with_reducible repeat (first | refine blk_drewN ?_ _ | refine blk_drew ?_ | refine blk_alloc ?_ _)); exact BK324.out)) : gb324 ≠ gb334)); have n8_ := Aside0.mk ((by rw [hg]; exact Nat.ne_of_gt (blk_lt (g := gb324) (o := .cells #[.int .i64 t315, .int .i64 t316] 23 (0, 0)) (by (with_reducible repeat (first | refine blk_drewN ?_ _ | refine blk_drew ?_ | refine blk_alloc ?_ _)); exact BK324.out)) : gb334 ≠ gb324)); have n9_ := Aside0.mk ((by rw [hg]; exact Nat.ne_of_lt (blk_lt (g := gb325) (o := .cells #[.int .i64 t318, .int .i64 t319] 23 (0, 0)) (by (with_reducible repeat (first | refine blk_drewN ?_ _ | refine blk_drew ?_ | refine blk_alloc ?_ _)); exact BK325.out)) : gb325 ≠ gb334)); have n10_ := Aside0.mk ((by rw [hg]; exact Nat.ne_of_gt (blk_lt (g := gb325) (o := .cells #[.int .i64 t318, .int .i64 t319] 23 (0, 0)) (by (with_reducible repeat (first | refine blk_drewN ?_ _ | refine blk_drew ?_ | refine blk_alloc ?_ _)); exact BK325.out)) : gb334 ≠ gb325)); have n11_ := Aside0.mk ((by rw [hg]; exact Nat.ne_of_lt (blk_lt (g := gb326) (o := .cells #[.int .i64 t321, .int .i64 t322] 23 (0, 0)) (by (with_reducible repeat (first | refine blk_drewN ?_ _ | refine blk_drew ?_ | refine blk_alloc ?_ _)); exact BK326.out)) : gb326 ≠ gb334)); have n12_ := Aside0.mk ((by rw [hg]; exact Nat.ne_of_gt (blk_lt (g := gb326) (o := .cells #[.int .i64 t321, .int .i64 t322] 23 (0, 0)) (by (with_reducible repeat (first | refine blk_drewN ?_ _ | refine blk_drew ?_ | refine blk_alloc ?_ _)); exact BK326.out)) : gb334 ≠ gb326)); clear BK324; clear BK325; clear BK326; clear HB; have BK324 := n0_; have BK325 := n1_; have BK326 := n2_; have HB := n3_; have BK334 := n4_; have GW334 := n5_; have GE334 := n6_; have NB324_334 := n7_; have NB334_324 := n8_; have NB325_334 := n9_; have NB334_325 := n10_; have NB326_334 := n11_; have NB334_326 := n12_; clear n0_ n1_ n2_ n3_ n4_ n5_ n6_ n7_ n8_ n9_ n10_ n11_ n12_; clear hb hbox hg; have hnb100 := NB334_324.out; have hnc100 := NB324_334.out; have hnb101 := NB334_325.out; have hnc101 := NB325_334.out; have hnb102 := NB334_326.out; have hnc102 := NB326_334.out; have hcz103_0 : w99.cell? ⟨gb334, 0, none⟩ = some (.int .i64 0) := (blk_cell BK334.out 0).trans rfl; have hcz103_1 : w99.cell? ⟨gb334, 1, none⟩ = some (.int .i64 0) := (blk_cell BK334.out 1).trans rfl; have hfz103_0 := blk_frozen BK334.out 0; have hfz103_1 := blk_frozen BK334.out 1; have hcz104_0 : w99.cell? ⟨gb325, 0, none⟩ = some (.int .i64 t318) := (blk_cell BK325.out 0).trans rfl; have hcz104_1 : w99.cell? ⟨gb325, 1, none⟩ = some (.int .i64 t319) := (blk_cell BK325.out 1).trans rfl; have hfz104_0 := blk_frozen BK325.out 0; have hfz104_1 := blk_frozen BK325.out 1; have hcz105_0 : w99.cell? ⟨gb326, 0, none⟩ = some (.int .i64 t321) := (blk_cell BK326.out 0).trans rfl; have hcz105_1 : w99.cell? ⟨gb326, 1, none⟩ = some (.int .i64 t322) := (blk_cell BK326.out 1).trans rfl; have hfz105_0 := blk_frozen BK326.out 0; have hfz105_1 := blk_frozen BK326.out 1) | ((with_reducible refine gate_callee (f := 24) rfl ?_); refine goesL_ (some 63) rfl rfl Tryd.func24 (by kernel_rfl) rfl #[.agg #[.int .i64 t318, .int .i64 t319], .agg #[.int .i64 t321, .int .i64 t322]] rfl (by (try simp only [List.map_toArray, List.map_cons, List.map_nil]); first | done | rfl | (simp only [List.length_drop, List.length_take]; rfl)) ?_; (with_reducible refine (ratio_Add.calls kj6 t318 t319 t321 t322 t335 t336 t337 _ A91.out).mono ?_); rintro e w106 ⟨rfl, hb⟩; refine ⟨_, rfl, ?_⟩; have n0_ := Aside0.mk (blk_below (g := gb324) (o := .cells #[.int .i64 t315, .int .i64 t316] 23 (0, 0)) (by (with_reducible repeat (first | refine blk_drewN ?_ _ | refine blk_drew ?_ | refine blk_alloc ?_ _)); refine blk_far ?_ NB324_334.out _; (with_reducible repeat (first | refine blk_drewN ?_ _ | refine blk_drew ?_ | refine blk_alloc ?_ _)); refine blk_far ?_ NB324_334.out _; (with_reducible repeat (first | refine blk_drewN ?_ _ | refine blk_drew ?_ | refine blk_alloc ?_ _)); exact BK324.out) hb); have n1_ := Aside0.mk (blk_below (g := gb325) (o := .cells #[.int .i64 t318, .int .i64 t319] 23 (0, 0)) (by (with_reducible repeat (first | refine blk_drewN ?_ _ | refine blk_drew ?_ | refine blk_alloc ?_ _)); refine blk_far ?_ NB325_334.out _; (with_reducible repeat (first | refine blk_drewN ?_ _ | refine blk_drew ?_ | refine blk_alloc ?_ _)); refine blk_far ?_ NB325_334.out _; (with_reducible repeat (first | refine blk_drewN ?_ _ | refine blk_drew ?_ | refine blk_alloc ?_ _)); exact BK325.out) hb); have n2_ := Aside0.mk (blk_below (g := gb326) (o := .cells #[.int .i64 t321, .int .i64 t322] 23 (0, 0)) (by (with_reducible repeat (first | refine blk_drewN ?_ _ | refine blk_drew ?_ | refine blk_alloc ?_ _)); refine blk_far ?_ NB326_334.out _; (with_reducible repeat (first | refine blk_drewN ?_ _ | refine blk_drew ?_ | refine blk_alloc ?_ _)); refine blk_far ?_ NB326_334.out _; (with_reducible repeat (first | refine blk_drewN ?_ _ | refine blk_drew ?_ | refine blk_alloc ?_ _)); exact BK326.out) hb); have n3_ := Aside0.mk (blk_below (g := gb334) (o := .cells #[.int .i64 t331, .int .i64 t332] 23 (0, 0)) (by (with_reducible repeat (first | refine blk_drewN ?_ _ | refine blk_drew ?_ | refine blk_alloc ?_ _)); refine blk_put (cs := #[.int .i64 t331, .int .i64 0]) ?_ 1 _ rfl; (with_reducible repeat (first | refine blk_drewN ?_ _ | refine blk_drew ?_ | refine blk_alloc ?_ _)); refine blk_put (cs := #[.int .i64 0, .int .i64 0]) ?_ 0 _ rfl; (with_reducible repeat (first | refine blk_drewN ?_ _ | refine blk_drew ?_ | refine blk_alloc ?_ _)); exact BK334.out) hb); have n4_ := Aside0.mk (below_step (by repeat (first | (with_reducible first | exact HB.out | apply below_alloc | apply pw_below_drewN | apply below_drew1 | refine below_set ?_ GE324.out | refine below_set ?_ GE325.out | refine below_set ?_ GE326.out | refine below_set ?_ GE334.out) | exact HB.out)) hb); clear BK324; clear BK325; clear BK326; clear BK334; clear HB; have BK324 := n0_; have BK325 := n1_; have BK326 := n2_; have BK334 := n3_; have HB := n4_; clear n0_ n1_ n2_ n3_ n4_; (try clear hb); (try clear hb2); (try clear hk); (try clear hi)) | ((with_reducible refine gate_dst (N := 10) rfl ?_); refine box_event ?hg (N := 10) ?hd (cs := #[.int .i64 0, .int .i64 0]) (t := 23) ?hr ?_; (case hd => rfl); (case hg => rfl); (case hr => first | (go_simp; done) | (go_simp; rfl)); intro gb338 hg w107 hbox hb; have n0_ := Aside0.mk (blk_below (g := gb324) (o := .cells #[.int .i64 t315, .int .i64 t316] 23 (0, 0)) (by (with_reducible repeat (first | refine blk_drewN ?_ _ | refine blk_drew ?_ | refine blk_alloc ?_ _)); exact BK324.out) hb); have n1_ := Aside0.mk (blk_below (g := gb325) (o := .cells #[.int .i64 t318, .int .i64 t319] 23 (0, 0)) (by (with_reducible repeat (first | refine blk_drewN ?_ _ | refine blk_drew ?_ | refine blk_alloc ?_ _)); exact BK325.out) hb); have n2_ := Aside0.mk (blk_below (g := gb326) (o := .cells #[.int .i64 t321, .int .i64 t322] 23 (0, 0)) (by (with_reducible repeat (first | refine blk_drewN ?_ _ | refine blk_drew ?_ | refine blk_alloc ?_ _)); exact BK326.out) hb); have n3_ := Aside0.mk (blk_below (g := gb334) (o := .cells #[.int .i64 t331, .int .i64 t332] 23 (0, 0)) (by (with_reducible repeat (first | refine blk_drewN ?_ _ | refine blk_drew ?_ | refine blk_alloc ?_ _)); exact BK334.out) hb); have n4_ := Aside0.mk (below_step (by repeat (first | (with_reducible first | exact HB.out | apply below_alloc | apply pw_below_drewN | apply below_drew1 | refine below_set ?_ GE324.out | refine below_set ?_ GE325.out | refine below_set ?_ GE326.out | refine below_set ?_ GE334.out) | exact HB.out)) hb); have n5_ := Aside0.mk (hbox); have n6_ := Aside0.mk ((by rw [hg]; exact (below_size (by repeat (first | (with_reducible first | exact HB.out | apply below_alloc | apply pw_below_drewN | apply below_drew1 | refine below_set ?_ GE324.out | refine below_set ?_ GE325.out | refine below_set ?_ GE326.out | refine below_set ?_ GE334.out) | exact HB.out))) : w.heap.size ≤ gb338)); have n7_ := Aside0.mk ((by rw [hg]; exact (below_size (by repeat (first | (with_reducible first | exact HB.out | apply below_alloc | apply pw_below_drewN | apply below_drew1 | refine below_set ?_ GE324.out | refine below_set ?_ GE325.out | refine below_set ?_ GE326.out | refine below_set ?_ GE334.out) | exact HB.out))) : w.heap.size ≤ gb338)); have n8_ := Aside0.mk ((by rw [hg]; exact Nat.ne_of_lt (blk_lt (g := gb324) (o := .cells #[.int .i64 t315, .int .i64 t316] 23 (0, 0)) (by (with_reducible repeat (first | refine blk_drewN ?_ _ | refine blk_drew ?_ | refine blk_alloc ?_ _)); exact BK324.out)) : gb324 ≠ gb338)); have n9_ := Aside0.mk ((by rw [hg]; exact Nat.ne_of_gt (blk_lt (g := gb324) (o := .cells #[.int .i64 t315, .int .i64 t316] 23 (0, 0)) (by (with_reducible repeat (first | refine blk_drewN ?_ _ | refine blk_drew ?_ | refine blk_alloc ?_ _)); exact BK324.out)) : gb338 ≠ gb324)); have n10_ := Aside0.mk ((by rw [hg]; exact Nat.ne_of_lt (blk_lt (g := gb325) (o := .cells #[.int .i64 t318, .int .i64 t319] 23 (0, 0)) (by (with_reducible repeat (first | refine blk_drewN ?_ _ | refine blk_drew ?_ | refine blk_alloc ?_ _)); exact BK325.out)) : gb325 ≠ gb338)); have n11_ := Aside0.mk ((by rw [hg]; exact Nat.ne_of_gt (blk_lt (g := gb325) (o := .cells #[.int .i64 t318, .int .i64 t319] 23 (0, 0)) (by (with_reducible repeat (first | refine blk_drewN ?_ _ | refine blk_drew ?_ | refine blk_alloc ?_ _)); exact BK325.out)) : gb338 ≠ gb325)); have n12_ := Aside0.mk ((by rw [hg]; exact Nat.ne_of_lt (blk_lt (g := gb326) (o := .cells #[.int .i64 t321, .int .i64 t322] 23 (0, 0)) (by (with_reducible repeat (first | refine blk_drewN ?_ _ | refine blk_drew ?_ | refine blk_alloc ?_ _)); exact BK326.out)) : gb326 ≠ gb338)); have n13_ := Aside0.mk ((by rw [hg]; exact Nat.ne_of_gt (blk_lt (g := gb326) (o := .cells #[.int .i64 t321, .int .i64 t322] 23 (0, 0)) (by (with_reducible repeat (first | refine blk_drewN ?_ _ | refine blk_drew ?_ | refine blk_alloc ?_ _)); exact BK326.out)) : gb338 ≠ gb326)); have n14_ := Aside0.mk ((by rw [hg]; exact Nat.ne_of_lt (blk_lt (g := gb334) (o := .cells #[.int .i64 t331, .int .i64 t332] 23 (0, 0)) (by (with_reducible repeat (first | refine blk_drewN ?_ _ | refine blk_drew ?_ | refine blk_alloc ?_ _)); exact BK334.out)) : gb334 ≠ gb338)); have n15_ := Aside0.mk ((by rw [hg]; exact Nat.ne_of_gt (blk_lt (g := gb334) (o := .cells #[.int .i64 t331, .int .i64 t332] 23 (0, 0)) (by (with_reducible repeat (first | refine blk_drewN ?_ _ | refine blk_drew ?_ | refine blk_alloc ?_ _)); exact BK334.out)) : gb338 ≠ gb334)); clear BK324; clear BK325; clear BK326; clear BK334; clear HB; have BK324 := n0_; have BK325 := n1_; have BK326 := n2_; have BK334 := n3_; have HB := n4_; have BK338 := n5_; have GW338 := n6_; have GE338 := n7_; have NB324_338 := n8_; have NB338_324 := n9_; have NB325_338 := n10_; have NB338_325 := n11_; have NB326_338 := n12_; have NB338_326 := n13_; have NB334_338 := n14_; have NB338_334 := n15_; clear n0_ n1_ n2_ n3_ n4_ n5_ n6_ n7_ n8_ n9_ n10_ n11_ n12_ n13_ n14_ n15_; clear hb hbox hg; have hnb108 := NB338_324.out; have hnc108 := NB324_338.out; have hnb109 := NB338_325.out; have hnc109 := NB325_338.out; have hnb110 := NB338_326.out; have hnc110 := NB326_338.out; have hnb111 := NB338_334.out; have hnc111 := NB334_338.out; have hcz112_0 : w107.cell? ⟨gb338, 0, none⟩ = some (.int .i64 0) := (blk_cell BK338.out 0).trans rfl; have hcz112_1 : w107.cell? ⟨gb338, 1, none⟩ = some (.int .i64 0) := (blk_cell BK338.out 1).trans rfl; have hfz112_0 := blk_frozen BK338.out 0; have hfz112_1 := blk_frozen BK338.out 1))
        (try simp only [Act.put, List.setIfInBounds_toArray, List.set_cons_zero, List.set_cons_succ])
        go_cut [78] (fun v78 wc => ∃ (kq : Nat) (x78_91 : Bool), v78 = .bool x78_91 ∧ Aside0 (payrolllaw1_RatioOrder.j1 kq t327 x78_91 t315 t316 t318 t319 t321 t322 = some true) ∧ Aside0 (kq ≤ kj6) ∧ Aside0 (wc.heap[gb324]? = some (.cells #[.int .i64 t315, .int .i64 t316] 23 (0, 0))) ∧ Aside0 (wc.heap[gb325]? = some (.cells #[.int .i64 t318, .int .i64 t319] 23 (0, 0))) ∧ Aside0 (wc.heap[gb326]? = some (.cells #[.int .i64 t321, .int .i64 t322] 23 (0, 0))) ∧ Aside0 (wc.heap[gb334]? = some (.cells #[.int .i64 t331, .int .i64 t332] 23 (0, 0))) ∧ Aside0 (wc.heap[gb338]? = some (.cells #[.int .i64 t335, .int .i64 t336] 23 (0, 0))) ∧ Aside0 (Below w.heap.size w wc))
        case first =>
          have H := HC92.out
          clear HC92
          by_cases c113 : t333 = 0
          · rw [if_pos c113] at H
            have c113b0 : (t333 == 0) = true := beq_iff_eq.mpr c113
            have c113b1 : (t333 != 0) = false := bne_eq_false_iff_eq.mpr c113
            clear c113
            (first | rw [c113b0] | (simp only [i64_w, i32_w]; rw [c113b0]) | skip)
            by_cases c114 : t337 = 0
            · rw [if_pos c114] at H
              have c114b0 : (t337 == 0) = true := beq_iff_eq.mpr c114
              have c114b1 : (t337 != 0) = false := bne_eq_false_iff_eq.mpr c114
              clear c114
              replace H := Option.bind_eq_some_iff.mp H
              obtain ⟨t339, A1150, H⟩ := H
              replace H : (payrolllaw1_RatioOrder.j1 kj6 t327 (t339 != t327) t315 t316 t318 t319 t321 t322) = some true := H
              have A115 := Aside0.mk A1150
              clear A1150
              have H' := Aside0.mk H
              clear H
              have hnb116 := NB334_324.out
              have hnc116 := NB324_334.out
              have hnb117 := NB334_325.out
              have hnc117 := NB325_334.out
              have hnb118 := NB334_326.out
              have hnc118 := NB326_334.out
              have hnb119 := NB334_338.out
              have hnc119 := NB338_334.out
              have hcz120_0 : w107.cell? ⟨gb334, 0, none⟩ = some (.int .i64 t331) := (blk_cell BK334.out 0).trans rfl
              have hcz120_1 : w107.cell? ⟨gb334, 1, none⟩ = some (.int .i64 t332) := (blk_cell BK334.out 1).trans rfl
              have hfz120_0 := blk_frozen BK334.out 0
              have hfz120_1 := blk_frozen BK334.out 1
              have hnb121 := NB338_324.out
              have hnc121 := NB324_338.out
              have hnb122 := NB338_325.out
              have hnc122 := NB325_338.out
              have hnb123 := NB338_326.out
              have hnc123 := NB326_338.out
              have hcz124_0 : w107.cell? ⟨gb338, 0, none⟩ = some (.int .i64 0) := (blk_cell BK338.out 0).trans rfl
              have hcz124_1 : w107.cell? ⟨gb338, 1, none⟩ = some (.int .i64 0) := (blk_cell BK338.out 1).trans rfl
              have hfz124_0 := blk_frozen BK338.out 0
              have hfz124_1 := blk_frozen BK338.out 1
              go_wp2_with (first | (go_at_call 23; (with_reducible refine (ratio_Compare.calls kj6 t331 t332 t335 t336 t339 _ A115.out).mono ?_); rintro e w125 ⟨rfl, hb⟩; have n0_ := Aside0.mk (blk_below (g := gb324) (o := .cells #[.int .i64 t315, .int .i64 t316] 23 (0, 0)) (by (with_reducible repeat (first | refine blk_drewN ?_ _ | refine blk_drew ?_ | refine blk_alloc ?_ _)); refine blk_far ?_ NB324_338.out _; (with_reducible repeat (first | refine blk_drewN ?_ _ | refine blk_drew ?_ | refine blk_alloc ?_ _)); refine blk_far ?_ NB324_338.out _; (with_reducible repeat (first | refine blk_drewN ?_ _ | refine blk_drew ?_ | refine blk_alloc ?_ _)); exact BK324.out) hb); have n1_ := Aside0.mk (blk_below (g := gb325) (o := .cells #[.int .i64 t318, .int .i64 t319] 23 (0, 0)) (by (with_reducible repeat (first | refine blk_drewN ?_ _ | refine blk_drew ?_ | refine blk_alloc ?_ _)); refine blk_far ?_ NB325_338.out _; (with_reducible repeat (first | refine blk_drewN ?_ _ | refine blk_drew ?_ | refine blk_alloc ?_ _)); refine blk_far ?_ NB325_338.out _; (with_reducible repeat (first | refine blk_drewN ?_ _ | refine blk_drew ?_ | refine blk_alloc ?_ _)); exact BK325.out) hb); have n2_ := Aside0.mk (blk_below (g := gb326) (o := .cells #[.int .i64 t321, .int .i64 t322] 23 (0, 0)) (by (with_reducible repeat (first | refine blk_drewN ?_ _ | refine blk_drew ?_ | refine blk_alloc ?_ _)); refine blk_far ?_ NB326_338.out _; (with_reducible repeat (first | refine blk_drewN ?_ _ | refine blk_drew ?_ | refine blk_alloc ?_ _)); refine blk_far ?_ NB326_338.out _; (with_reducible repeat (first | refine blk_drewN ?_ _ | refine blk_drew ?_ | refine blk_alloc ?_ _)); exact BK326.out) hb); have n3_ := Aside0.mk (blk_below (g := gb334) (o := .cells #[.int .i64 t331, .int .i64 t332] 23 (0, 0)) (by (with_reducible repeat (first | refine blk_drewN ?_ _ | refine blk_drew ?_ | refine blk_alloc ?_ _)); refine blk_far ?_ NB334_338.out _; (with_reducible repeat (first | refine blk_drewN ?_ _ | refine blk_drew ?_ | refine blk_alloc ?_ _)); refine blk_far ?_ NB334_338.out _; (with_reducible repeat (first | refine blk_drewN ?_ _ | refine blk_drew ?_ | refine blk_alloc ?_ _)); exact BK334.out) hb); have n4_ := Aside0.mk (blk_below (g := gb338) (o := .cells #[.int .i64 t335, .int .i64 t336] 23 (0, 0)) (by (with_reducible repeat (first | refine blk_drewN ?_ _ | refine blk_drew ?_ | refine blk_alloc ?_ _)); refine blk_put (cs := #[.int .i64 t335, .int .i64 0]) ?_ 1 _ rfl; (with_reducible repeat (first | refine blk_drewN ?_ _ | refine blk_drew ?_ | refine blk_alloc ?_ _)); refine blk_put (cs := #[.int .i64 0, .int .i64 0]) ?_ 0 _ rfl; (with_reducible repeat (first | refine blk_drewN ?_ _ | refine blk_drew ?_ | refine blk_alloc ?_ _)); exact BK338.out) hb); have n5_ := Aside0.mk (below_step (by repeat (first | (with_reducible first | exact HB.out | apply below_alloc | apply pw_below_drewN | apply below_drew1 | refine below_set ?_ GE324.out | refine below_set ?_ GE325.out | refine below_set ?_ GE326.out | refine below_set ?_ GE334.out | refine below_set ?_ GE338.out) | exact HB.out)) hb); clear BK324; clear BK325; clear BK326; clear BK334; clear BK338; clear HB; have BK324 := n0_; have BK325 := n1_; have BK326 := n2_; have BK334 := n3_; have BK338 := n4_; have HB := n5_; clear n0_ n1_ n2_ n3_ n4_ n5_; (try clear hb); (try clear hb2); (try clear hk); (try clear hi)))
              go_meet
              case rel => exact ⟨_, ((t339 != t327)), (by first | rfl | (simp; done) | (simp [*]; done)), H', ⟨by have := HJ6.out; first | omega | exact Nat.le_refl _⟩, ⟨by (with_reducible repeat (first | refine blk_drewN ?_ _ | refine blk_drew ?_ | refine blk_alloc ?_ _)); exact BK324.out⟩, ⟨by (with_reducible repeat (first | refine blk_drewN ?_ _ | refine blk_drew ?_ | refine blk_alloc ?_ _)); exact BK325.out⟩, ⟨by (with_reducible repeat (first | refine blk_drewN ?_ _ | refine blk_drew ?_ | refine blk_alloc ?_ _)); exact BK326.out⟩, ⟨by (with_reducible repeat (first | refine blk_drewN ?_ _ | refine blk_drew ?_ | refine blk_alloc ?_ _)); exact BK334.out⟩, ⟨by (with_reducible repeat (first | refine blk_drewN ?_ _ | refine blk_drew ?_ | refine blk_alloc ?_ _)); exact BK338.out⟩, ⟨by repeat (first | (with_reducible first | exact HB.out | apply below_alloc | apply pw_below_drewN | apply below_drew1 | refine below_set ?_ GE324.out | refine below_set ?_ GE325.out | refine below_set ?_ GE326.out | refine below_set ?_ GE334.out | refine below_set ?_ GE338.out) | exact HB.out)⟩⟩
            · rw [if_neg c114] at H
              have c114b0 : (t337 == 0) = false := beq_eq_false_iff_ne.mpr c114
              have c114b1 : (t337 != 0) = true := bne_iff_ne.mpr c114
              have H' := Aside0.mk H
              clear H
              go_wp2
              go_meet
              case rel => exact ⟨_, (false), (by first | rfl | (simp; done) | (simp [*]; done)), H', ⟨by have := HJ6.out; first | omega | exact Nat.le_refl _⟩, ⟨by (with_reducible repeat (first | refine blk_drewN ?_ _ | refine blk_drew ?_ | refine blk_alloc ?_ _)); refine blk_far ?_ NB324_338.out _; (with_reducible repeat (first | refine blk_drewN ?_ _ | refine blk_drew ?_ | refine blk_alloc ?_ _)); refine blk_far ?_ NB324_338.out _; (with_reducible repeat (first | refine blk_drewN ?_ _ | refine blk_drew ?_ | refine blk_alloc ?_ _)); exact BK324.out⟩, ⟨by (with_reducible repeat (first | refine blk_drewN ?_ _ | refine blk_drew ?_ | refine blk_alloc ?_ _)); refine blk_far ?_ NB325_338.out _; (with_reducible repeat (first | refine blk_drewN ?_ _ | refine blk_drew ?_ | refine blk_alloc ?_ _)); refine blk_far ?_ NB325_338.out _; (with_reducible repeat (first | refine blk_drewN ?_ _ | refine blk_drew ?_ | refine blk_alloc ?_ _)); exact BK325.out⟩, ⟨by (with_reducible repeat (first | refine blk_drewN ?_ _ | refine blk_drew ?_ | refine blk_alloc ?_ _)); refine blk_far ?_ NB326_338.out _; (with_reducible repeat (first | refine blk_drewN ?_ _ | refine blk_drew ?_ | refine blk_alloc ?_ _)); refine blk_far ?_ NB326_338.out _; (with_reducible repeat (first | refine blk_drewN ?_ _ | refine blk_drew ?_ | refine blk_alloc ?_ _)); exact BK326.out⟩, ⟨by (with_reducible repeat (first | refine blk_drewN ?_ _ | refine blk_drew ?_ | refine blk_alloc ?_ _)); refine blk_far ?_ NB334_338.out _; (with_reducible repeat (first | refine blk_drewN ?_ _ | refine blk_drew ?_ | refine blk_alloc ?_ _)); refine blk_far ?_ NB334_338.out _; (with_reducible repeat (first | refine blk_drewN ?_ _ | refine blk_drew ?_ | refine blk_alloc ?_ _)); exact BK334.out⟩, ⟨by (with_reducible repeat (first | refine blk_drewN ?_ _ | refine blk_drew ?_ | refine blk_alloc ?_ _)); refine blk_put (cs := #[.int .i64 t335, .int .i64 0]) ?_ 1 _ rfl; (with_reducible repeat (first | refine blk_drewN ?_ _ | refine blk_drew ?_ | refine blk_alloc ?_ _)); refine blk_put (cs := #[.int .i64 0, .int .i64 0]) ?_ 0 _ rfl; (with_reducible repeat (first | refine blk_drewN ?_ _ | refine blk_drew ?_ | refine blk_alloc ?_ _)); exact BK338.out⟩, ⟨by repeat (first | (with_reducible first | exact HB.out | apply below_alloc | apply pw_below_drewN | apply below_drew1 | refine below_set ?_ GE324.out | refine below_set ?_ GE325.out | refine below_set ?_ GE326.out | refine below_set ?_ GE334.out | refine below_set ?_ GE338.out) | exact HB.out)⟩⟩
          · rw [if_neg c113] at H
            have c113b0 : (t333 == 0) = false := beq_eq_false_iff_ne.mpr c113
            have c113b1 : (t333 != 0) = true := bne_iff_ne.mpr c113
            (first | rw [c113b0] | (simp only [i64_w, i32_w]; rw [c113b0]) | skip)
            have H' := Aside0.mk H
            clear H
            go_wp2
            go_meet
            case rel => exact ⟨_, (false), (by first | rfl | (simp; done) | (simp [*]; done)), H', ⟨by have := HJ6.out; first | omega | exact Nat.le_refl _⟩, ⟨by (with_reducible repeat (first | refine blk_drewN ?_ _ | refine blk_drew ?_ | refine blk_alloc ?_ _)); refine blk_far ?_ NB324_338.out _; (with_reducible repeat (first | refine blk_drewN ?_ _ | refine blk_drew ?_ | refine blk_alloc ?_ _)); refine blk_far ?_ NB324_338.out _; (with_reducible repeat (first | refine blk_drewN ?_ _ | refine blk_drew ?_ | refine blk_alloc ?_ _)); exact BK324.out⟩, ⟨by (with_reducible repeat (first | refine blk_drewN ?_ _ | refine blk_drew ?_ | refine blk_alloc ?_ _)); refine blk_far ?_ NB325_338.out _; (with_reducible repeat (first | refine blk_drewN ?_ _ | refine blk_drew ?_ | refine blk_alloc ?_ _)); refine blk_far ?_ NB325_338.out _; (with_reducible repeat (first | refine blk_drewN ?_ _ | refine blk_drew ?_ | refine blk_alloc ?_ _)); exact BK325.out⟩, ⟨by (with_reducible repeat (first | refine blk_drewN ?_ _ | refine blk_drew ?_ | refine blk_alloc ?_ _)); refine blk_far ?_ NB326_338.out _; (with_reducible repeat (first | refine blk_drewN ?_ _ | refine blk_drew ?_ | refine blk_alloc ?_ _)); refine blk_far ?_ NB326_338.out _; (with_reducible repeat (first | refine blk_drewN ?_ _ | refine blk_drew ?_ | refine blk_alloc ?_ _)); exact BK326.out⟩, ⟨by (with_reducible repeat (first | refine blk_drewN ?_ _ | refine blk_drew ?_ | refine blk_alloc ?_ _)); refine blk_far ?_ NB334_338.out _; (with_reducible repeat (first | refine blk_drewN ?_ _ | refine blk_drew ?_ | refine blk_alloc ?_ _)); refine blk_far ?_ NB334_338.out _; (with_reducible repeat (first | refine blk_drewN ?_ _ | refine blk_drew ?_ | refine blk_alloc ?_ _)); exact BK334.out⟩, ⟨by (with_reducible repeat (first | refine blk_drewN ?_ _ | refine blk_drew ?_ | refine blk_alloc ?_ _)); refine blk_put (cs := #[.int .i64 t335, .int .i64 0]) ?_ 1 _ rfl; (with_reducible repeat (first | refine blk_drewN ?_ _ | refine blk_drew ?_ | refine blk_alloc ?_ _)); refine blk_put (cs := #[.int .i64 0, .int .i64 0]) ?_ 0 _ rfl; (with_reducible repeat (first | refine blk_drewN ?_ _ | refine blk_drew ?_ | refine blk_alloc ?_ _)); exact BK338.out⟩, ⟨by repeat (first | (with_reducible first | exact HB.out | apply below_alloc | apply pw_below_drewN | apply below_drew1 | refine below_set ?_ GE324.out | refine below_set ?_ GE325.out | refine below_set ?_ GE326.out | refine below_set ?_ GE334.out | refine below_set ?_ GE338.out) | exact HB.out)⟩⟩
        case rest =>
          clear HC92
          try clear c1
          try clear c2
          try clear p2
          try clear c3
          try clear c4
          try clear c5
          try clear c6
          try clear p6
          try clear c7
          try clear c8
          try clear c9
          try clear c10
          try clear c11
          try clear c12
          try clear c13
          try clear c14
          try clear c15
          try clear c16
          try clear c17
          try clear c19
          try clear c20
          try clear c22
          try clear c23
          try clear c24
          try clear c26
          try clear c26b0
          try clear c26b1
          try clear c27
          try clear c27b0
          try clear c27b1
          try clear c27b2
          try clear c28
          try clear c29
          try clear c30
          try clear c32
          try clear c33
          try clear c38
          try clear c38b0
          try clear c40
          try clear c40b0
          try clear c42
          try clear c43
          try clear c44
          try clear c46
          try clear c47
          try clear c52
          try clear c58
          try clear c59
          try clear c60
          try clear c62
          try clear c63
          try clear p64
          try clear c68
          try clear c71
          try clear c72
          try clear c73
          try clear c75
          try clear c76
          try clear c81
          try clear c82
          try clear c83
          try clear c85
          try clear c86
          try clear c89
          try clear c93
          try clear c94
          try clear c96
          try clear c100
          try clear c101
          try clear c102
          try clear c108
          try clear c109
          try clear c110
          try clear c111
          try clear c113
          try clear c113b0
          try clear c113b1
          try clear c114
          try clear c114b0
          try clear c114b1
          try clear c116
          try clear c117
          try clear c118
          try clear c119
          try clear c121
          try clear c122
          try clear c123
          try clear hcz103_0
          try clear hcz103_1
          try clear hcz104_0
          try clear hcz104_1
          try clear hcz105_0
          try clear hcz105_1
          try clear hcz112_0
          try clear hcz112_1
          try clear hcz120_0
          try clear hcz120_1
          try clear hcz124_0
          try clear hcz124_1
          try clear hcz18_0
          try clear hcz18_1
          try clear hcz21_0
          try clear hcz21_1
          try clear hcz23_0
          try clear hcz23_1
          try clear hcz31_0
          try clear hcz31_1
          try clear hcz34_0
          try clear hcz34_1
          try clear hcz36_0
          try clear hcz36_1
          try clear hcz37_0
          try clear hcz37_1
          try clear hcz45_0
          try clear hcz45_1
          try clear hcz48_0
          try clear hcz48_1
          try clear hcz50_0
          try clear hcz50_1
          try clear hcz51_0
          try clear hcz51_1
          try clear hcz53_0
          try clear hcz53_1
          try clear hcz55_0
          try clear hcz55_1
          try clear hcz56_0
          try clear hcz56_1
          try clear hcz61_0
          try clear hcz61_1
          try clear hcz64_0
          try clear hcz64_1
          try clear hcz66_0
          try clear hcz66_1
          try clear hcz67_0
          try clear hcz67_1
          try clear hcz69_0
          try clear hcz69_1
          try clear hcz74_0
          try clear hcz74_1
          try clear hcz77_0
          try clear hcz77_1
          try clear hcz79_0
          try clear hcz79_1
          try clear hcz80_0
          try clear hcz80_1
          try clear hcz84_0
          try clear hcz84_1
          try clear hcz87_0
          try clear hcz87_1
          try clear hcz95_0
          try clear hcz95_1
          try clear hcz97_0
          try clear hcz97_1
          try clear hfz103_0
          try clear hfz103_1
          try clear hfz104_0
          try clear hfz104_1
          try clear hfz105_0
          try clear hfz105_1
          try clear hfz112_0
          try clear hfz112_1
          try clear hfz120_0
          try clear hfz120_1
          try clear hfz124_0
          try clear hfz124_1
          try clear hfz18_0
          try clear hfz18_1
          try clear hfz21_0
          try clear hfz21_1
          try clear hfz23_0
          try clear hfz23_1
          try clear hfz31_0
          try clear hfz31_1
          try clear hfz34_0
          try clear hfz34_1
          try clear hfz36_0
          try clear hfz36_1
          try clear hfz37_0
          try clear hfz37_1
          try clear hfz45_0
          try clear hfz45_1
          try clear hfz48_0
          try clear hfz48_1
          try clear hfz50_0
          try clear hfz50_1
          try clear hfz51_0
          try clear hfz51_1
          try clear hfz53_0
          try clear hfz53_1
          try clear hfz55_0
          try clear hfz55_1
          try clear hfz56_0
          try clear hfz56_1
          try clear hfz61_0
          try clear hfz61_1
          try clear hfz64_0
          try clear hfz64_1
          try clear hfz66_0
          try clear hfz66_1
          try clear hfz67_0
          try clear hfz67_1
          try clear hfz69_0
          try clear hfz69_1
          try clear hfz74_0
          try clear hfz74_1
          try clear hfz77_0
          try clear hfz77_1
          try clear hfz79_0
          try clear hfz79_1
          try clear hfz80_0
          try clear hfz80_1
          try clear hfz84_0
          try clear hfz84_1
          try clear hfz87_0
          try clear hfz87_1
          try clear hfz95_0
          try clear hfz95_1
          try clear hfz97_0
          try clear hfz97_1
          try clear p2
          try clear p6
          try clear p64
          obtain ⟨kq, x78_91, rfl, HA, HJ91, BK324, BK325, BK326, BK334, BK338, HB⟩ := hcut
          cases kq with
          | zero => exact absurd HA.out (by simp [payrolllaw1_RatioOrder.j1])
          | succ kj91 =>
            have H := HA.out
            clear HA
            simp only [payrolllaw1_RatioOrder.j1] at H
            by_cases c126 : x78_91 = true
            · subst c126
              have H1 : (some false) = some true := by rw [if_pos rfl] at H; exact H
              clear H
              have H := H1
              clear H1
              exact absurd H (by simp)
            · replace c126 := Bool.eq_false_iff.mpr c126
              subst c126
              have H1 : ((ratio_Mul.f kj91 t315 t316 t321 t322).bind fun bt340 => ((ratio_Mul.f kj91 t318 t319 t321 t322).bind fun bt343 => (if bt340.2.2 = 0 then (if bt343.2.2 = 0 then (if t321 > 0 then ((ratio_Compare.f kj91 bt340.1 bt340.2.1 bt343.1 bt343.2.1).bind fun t346 => (payrolllaw1_RatioOrder.j2 kj91 (t346 != t327) t315 t316)) else (payrolllaw1_RatioOrder.j2 kj91 false t315 t316)) else (payrolllaw1_RatioOrder.j2 kj91 false t315 t316)) else (payrolllaw1_RatioOrder.j2 kj91 false t315 t316)))) = some true := by rw [if_neg (show ¬ (false = true) by decide)] at H; exact H
              clear H
              have H := H1
              clear H1
              replace H := Option.bind_eq_some_iff.mp H
              obtain ⟨⟨t340, t341, t342⟩, A1270, H⟩ := H
              replace H : ((ratio_Mul.f kj91 t318 t319 t321 t322).bind fun bt343 => (if t342 = 0 then (if bt343.2.2 = 0 then (if t321 > 0 then ((ratio_Compare.f kj91 t340 t341 bt343.1 bt343.2.1).bind fun t346 => (payrolllaw1_RatioOrder.j2 kj91 (t346 != t327) t315 t316)) else (payrolllaw1_RatioOrder.j2 kj91 false t315 t316)) else (payrolllaw1_RatioOrder.j2 kj91 false t315 t316)) else (payrolllaw1_RatioOrder.j2 kj91 false t315 t316))) = some true := H
              have A127 := Aside0.mk A1270
              clear A1270
              replace H := Option.bind_eq_some_iff.mp H
              obtain ⟨⟨t343, t344, t345⟩, A1280, H⟩ := H
              replace H : (if t342 = 0 then (if t345 = 0 then (if t321 > 0 then ((ratio_Compare.f kj91 t340 t341 t343 t344).bind fun t346 => (payrolllaw1_RatioOrder.j2 kj91 (t346 != t327) t315 t316)) else (payrolllaw1_RatioOrder.j2 kj91 false t315 t316)) else (payrolllaw1_RatioOrder.j2 kj91 false t315 t316)) else (payrolllaw1_RatioOrder.j2 kj91 false t315 t316)) = some true := H
              have A128 := Aside0.mk A1280
              clear A1280
              have HC129 := Aside0.mk H
              clear H
              have hnb130 := NB324_325.out
              have hnc130 := NB325_324.out
              have hnb131 := NB324_326.out
              have hnc131 := NB326_324.out
              have hnb132 := NB324_334.out
              have hnc132 := NB334_324.out
              have hnb133 := NB324_338.out
              have hnc133 := NB338_324.out
              have hcz134_0 : wc.cell? ⟨gb324, 0, none⟩ = some (.int .i64 t315) := (blk_cell BK324.out 0).trans rfl
              have hcz134_1 : wc.cell? ⟨gb324, 1, none⟩ = some (.int .i64 t316) := (blk_cell BK324.out 1).trans rfl
              have hfz134_0 := blk_frozen BK324.out 0
              have hfz134_1 := blk_frozen BK324.out 1
              have hnb135 := NB326_325.out
              have hnc135 := NB325_326.out
              have hnb136 := NB326_334.out
              have hnc136 := NB334_326.out
              have hnb137 := NB326_338.out
              have hnc137 := NB338_326.out
              have hcz138_0 : wc.cell? ⟨gb326, 0, none⟩ = some (.int .i64 t321) := (blk_cell BK326.out 0).trans rfl
              have hcz138_1 : wc.cell? ⟨gb326, 1, none⟩ = some (.int .i64 t322) := (blk_cell BK326.out 1).trans rfl
              have hfz138_0 := blk_frozen BK326.out 0
              have hfz138_1 := blk_frozen BK326.out 1
              go_upto_region 12 with (first | ((with_reducible refine gate_callee (f := 25) rfl ?_); refine goesL_ (some 82) rfl rfl Tryd.func25 (by kernel_rfl) rfl #[.agg #[.int .i64 t315, .int .i64 t316], .agg #[.int .i64 t321, .int .i64 t322]] rfl (by (try simp only [List.map_toArray, List.map_cons, List.map_nil]); first | done | rfl | (simp only [List.length_drop, List.length_take]; rfl)) ?_; (with_reducible refine (ratio_Mul.calls kj91 t315 t316 t321 t322 t340 t341 t342 _ A127.out).mono ?_); rintro e w139 ⟨rfl, hb⟩; refine ⟨_, rfl, ?_⟩; have n0_ := Aside0.mk (blk_below (g := gb324) (o := .cells #[.int .i64 t315, .int .i64 t316] 23 (0, 0)) (by (with_reducible repeat (first | refine blk_drewN ?_ _ | refine blk_drew ?_ | refine blk_alloc ?_ _)); exact BK324.out) hb); have n1_ := Aside0.mk (blk_below (g := gb325) (o := .cells #[.int .i64 t318, .int .i64 t319] 23 (0, 0)) (by (with_reducible repeat (first | refine blk_drewN ?_ _ | refine blk_drew ?_ | refine blk_alloc ?_ _)); exact BK325.out) hb); have n2_ := Aside0.mk (blk_below (g := gb326) (o := .cells #[.int .i64 t321, .int .i64 t322] 23 (0, 0)) (by (with_reducible repeat (first | refine blk_drewN ?_ _ | refine blk_drew ?_ | refine blk_alloc ?_ _)); exact BK326.out) hb); have n3_ := Aside0.mk (blk_below (g := gb334) (o := .cells #[.int .i64 t331, .int .i64 t332] 23 (0, 0)) (by (with_reducible repeat (first | refine blk_drewN ?_ _ | refine blk_drew ?_ | refine blk_alloc ?_ _)); exact BK334.out) hb); have n4_ := Aside0.mk (blk_below (g := gb338) (o := .cells #[.int .i64 t335, .int .i64 t336] 23 (0, 0)) (by (with_reducible repeat (first | refine blk_drewN ?_ _ | refine blk_drew ?_ | refine blk_alloc ?_ _)); exact BK338.out) hb); have n5_ := Aside0.mk (below_step (by repeat (first | (with_reducible first | exact HB.out | apply below_alloc | apply pw_below_drewN | apply below_drew1 | refine below_set ?_ GE324.out | refine below_set ?_ GE325.out | refine below_set ?_ GE326.out | refine below_set ?_ GE334.out | refine below_set ?_ GE338.out) | exact HB.out)) hb); clear BK324; clear BK325; clear BK326; clear BK334; clear BK338; clear HB; have BK324 := n0_; have BK325 := n1_; have BK326 := n2_; have BK334 := n3_; have BK338 := n4_; have HB := n5_; clear n0_ n1_ n2_ n3_ n4_ n5_; (try clear hb); (try clear hb2); (try clear hk); (try clear hi); have hnb140 := NB334_325.out; have hnc140 := NB325_334.out; have hnb141 := NB334_338.out; have hnc141 := NB338_334.out; have hcz142_0 : w139.cell? ⟨gb334, 0, none⟩ = some (.int .i64 t331) := (blk_cell BK334.out 0).trans rfl; have hcz142_1 : w139.cell? ⟨gb334, 1, none⟩ = some (.int .i64 t332) := (blk_cell BK334.out 1).trans rfl; have hfz142_0 := blk_frozen BK334.out 0; have hfz142_1 := blk_frozen BK334.out 1; have hnb143 := NB325_338.out; have hnc143 := NB338_325.out; have hcz144_0 : w139.cell? ⟨gb325, 0, none⟩ = some (.int .i64 t318) := (blk_cell BK325.out 0).trans rfl; have hcz144_1 : w139.cell? ⟨gb325, 1, none⟩ = some (.int .i64 t319) := (blk_cell BK325.out 1).trans rfl; have hfz144_0 := blk_frozen BK325.out 0; have hfz144_1 := blk_frozen BK325.out 1; have hcz145_0 : w139.cell? ⟨gb326, 0, none⟩ = some (.int .i64 t321) := (blk_cell BK326.out 0).trans rfl; have hcz145_1 : w139.cell? ⟨gb326, 1, none⟩ = some (.int .i64 t322) := (blk_cell BK326.out 1).trans rfl; have hfz145_0 := blk_frozen BK326.out 0; have hfz145_1 := blk_frozen BK326.out 1) | ((with_reducible refine gate_callee (f := 25) rfl ?_); refine goesL_ (some 88) rfl rfl Tryd.func25 (by kernel_rfl) rfl #[.agg #[.int .i64 t318, .int .i64 t319], .agg #[.int .i64 t321, .int .i64 t322]] rfl (by (try simp only [List.map_toArray, List.map_cons, List.map_nil]); first | done | rfl | (simp only [List.length_drop, List.length_take]; rfl)) ?_; (with_reducible refine (ratio_Mul.calls kj91 t318 t319 t321 t322 t343 t344 t345 _ A128.out).mono ?_); rintro e w146 ⟨rfl, hb⟩; refine ⟨_, rfl, ?_⟩; have n0_ := Aside0.mk (blk_below (g := gb324) (o := .cells #[.int .i64 t315, .int .i64 t316] 23 (0, 0)) (by (with_reducible repeat (first | refine blk_drewN ?_ _ | refine blk_drew ?_ | refine blk_alloc ?_ _)); refine blk_far ?_ NB324_334.out _; (with_reducible repeat (first | refine blk_drewN ?_ _ | refine blk_drew ?_ | refine blk_alloc ?_ _)); refine blk_far ?_ NB324_334.out _; (with_reducible repeat (first | refine blk_drewN ?_ _ | refine blk_drew ?_ | refine blk_alloc ?_ _)); exact BK324.out) hb); have n1_ := Aside0.mk (blk_below (g := gb325) (o := .cells #[.int .i64 t318, .int .i64 t319] 23 (0, 0)) (by (with_reducible repeat (first | refine blk_drewN ?_ _ | refine blk_drew ?_ | refine blk_alloc ?_ _)); refine blk_far ?_ NB325_334.out _; (with_reducible repeat (first | refine blk_drewN ?_ _ | refine blk_drew ?_ | refine blk_alloc ?_ _)); refine blk_far ?_ NB325_334.out _; (with_reducible repeat (first | refine blk_drewN ?_ _ | refine blk_drew ?_ | refine blk_alloc ?_ _)); exact BK325.out) hb); have n2_ := Aside0.mk (blk_below (g := gb326) (o := .cells #[.int .i64 t321, .int .i64 t322] 23 (0, 0)) (by (with_reducible repeat (first | refine blk_drewN ?_ _ | refine blk_drew ?_ | refine blk_alloc ?_ _)); refine blk_far ?_ NB326_334.out _; (with_reducible repeat (first | refine blk_drewN ?_ _ | refine blk_drew ?_ | refine blk_alloc ?_ _)); refine blk_far ?_ NB326_334.out _; (with_reducible repeat (first | refine blk_drewN ?_ _ | refine blk_drew ?_ | refine blk_alloc ?_ _)); exact BK326.out) hb); have n3_ := Aside0.mk (blk_below (g := gb334) (o := .cells #[.int .i64 t340, .int .i64 t341] 23 (0, 0)) (by (with_reducible repeat (first | refine blk_drewN ?_ _ | refine blk_drew ?_ | refine blk_alloc ?_ _)); refine blk_put (cs := #[.int .i64 t340, .int .i64 t332]) ?_ 1 _ rfl; (with_reducible repeat (first | refine blk_drewN ?_ _ | refine blk_drew ?_ | refine blk_alloc ?_ _)); refine blk_put (cs := #[.int .i64 t331, .int .i64 t332]) ?_ 0 _ rfl; (with_reducible repeat (first | refine blk_drewN ?_ _ | refine blk_drew ?_ | refine blk_alloc ?_ _)); exact BK334.out) hb); have n4_ := Aside0.mk (blk_below (g := gb338) (o := .cells #[.int .i64 t335, .int .i64 t336] 23 (0, 0)) (by (with_reducible repeat (first | refine blk_drewN ?_ _ | refine blk_drew ?_ | refine blk_alloc ?_ _)); refine blk_far ?_ NB338_334.out _; (with_reducible repeat (first | refine blk_drewN ?_ _ | refine blk_drew ?_ | refine blk_alloc ?_ _)); refine blk_far ?_ NB338_334.out _; (with_reducible repeat (first | refine blk_drewN ?_ _ | refine blk_drew ?_ | refine blk_alloc ?_ _)); exact BK338.out) hb); have n5_ := Aside0.mk (below_step (by repeat (first | (with_reducible first | exact HB.out | apply below_alloc | apply pw_below_drewN | apply below_drew1 | refine below_set ?_ GE324.out | refine below_set ?_ GE325.out | refine below_set ?_ GE326.out | refine below_set ?_ GE334.out | refine below_set ?_ GE338.out) | exact HB.out)) hb); clear BK324; clear BK325; clear BK326; clear BK334; clear BK338; clear HB; have BK324 := n0_; have BK325 := n1_; have BK326 := n2_; have BK334 := n3_; have BK338 := n4_; have HB := n5_; clear n0_ n1_ n2_ n3_ n4_ n5_; (try clear hb); (try clear hb2); (try clear hk); (try clear hi); have hcz147_0 : w146.cell? ⟨gb338, 0, none⟩ = some (.int .i64 t335) := (blk_cell BK338.out 0).trans rfl; have hcz147_1 : w146.cell? ⟨gb338, 1, none⟩ = some (.int .i64 t336) := (blk_cell BK338.out 1).trans rfl; have hfz147_0 := blk_frozen BK338.out 0; have hfz147_1 := blk_frozen BK338.out 1))
              (try simp only [Act.put, List.setIfInBounds_toArray, List.set_cons_zero, List.set_cons_succ])
              go_cut [108] (fun v108 wc => ∃ (kq : Nat) (x108_128 : Bool), v108 = .bool x108_128 ∧ Aside0 (payrolllaw1_RatioOrder.j2 kq x108_128 t315 t316 = some true) ∧ Aside0 (kq ≤ kj91) ∧ Aside0 (wc.heap[gb324]? = some (.cells #[.int .i64 t315, .int .i64 t316] 23 (0, 0))) ∧ Aside0 (wc.heap[gb325]? = some (.cells #[.int .i64 t318, .int .i64 t319] 23 (0, 0))) ∧ Aside0 (wc.heap[gb326]? = some (.cells #[.int .i64 t321, .int .i64 t322] 23 (0, 0))) ∧ Aside0 (wc.heap[gb334]? = some (.cells #[.int .i64 t340, .int .i64 t341] 23 (0, 0))) ∧ Aside0 (wc.heap[gb338]? = some (.cells #[.int .i64 t343, .int .i64 t344] 23 (0, 0))) ∧ Aside0 (Below w.heap.size w wc))
              case first =>
                have H := HC129.out
                clear HC129
                by_cases c148 : t342 = 0
                · rw [if_pos c148] at H
                  have c148b0 : (t342 == 0) = true := beq_iff_eq.mpr c148
                  have c148b1 : (t342 != 0) = false := bne_eq_false_iff_eq.mpr c148
                  clear c148
                  (first | rw [c148b0] | (simp only [i64_w, i32_w]; rw [c148b0]) | skip)
                  by_cases c149 : t345 = 0
                  · rw [if_pos c149] at H
                    have c149b0 : (t345 == 0) = true := beq_iff_eq.mpr c149
                    have c149b1 : (t345 != 0) = false := bne_eq_false_iff_eq.mpr c149
                    clear c149
                    by_cases c150 : t321 > 0
                    · rw [if_pos c150] at H
                      have c150b0 : decide (0 < t321) = true := decide_eq_true c150
                      clear c150
                      replace H := Option.bind_eq_some_iff.mp H
                      obtain ⟨t346, A1510, H⟩ := H
                      replace H : (payrolllaw1_RatioOrder.j2 kj91 (t346 != t327) t315 t316) = some true := H
                      have A151 := Aside0.mk A1510
                      clear A1510
                      have H' := Aside0.mk H
                      clear H
                      have hnb152 := NB326_324.out
                      have hnc152 := NB324_326.out
                      have hnb153 := NB326_325.out
                      have hnc153 := NB325_326.out
                      have hnb154 := NB326_334.out
                      have hnc154 := NB334_326.out
                      have hnb155 := NB326_338.out
                      have hnc155 := NB338_326.out
                      have hcz156_0 : w146.cell? ⟨gb326, 0, none⟩ = some (.int .i64 t321) := (blk_cell BK326.out 0).trans rfl
                      have hcz156_1 : w146.cell? ⟨gb326, 1, none⟩ = some (.int .i64 t322) := (blk_cell BK326.out 1).trans rfl
                      have hfz156_0 := blk_frozen BK326.out 0
                      have hfz156_1 := blk_frozen BK326.out 1
                      have hnb157 := NB334_324.out
                      have hnc157 := NB324_334.out
                      have hnb158 := NB334_325.out
                      have hnc158 := NB325_334.out
                      have hnb159 := NB334_338.out
                      have hnc159 := NB338_334.out
                      have hcz160_0 : w146.cell? ⟨gb334, 0, none⟩ = some (.int .i64 t340) := (blk_cell BK334.out 0).trans rfl
                      have hcz160_1 : w146.cell? ⟨gb334, 1, none⟩ = some (.int .i64 t341) := (blk_cell BK334.out 1).trans rfl
                      have hfz160_0 := blk_frozen BK334.out 0
                      have hfz160_1 := blk_frozen BK334.out 1
                      have hnb161 := NB338_324.out
                      have hnc161 := NB324_338.out
                      have hnb162 := NB338_325.out
                      have hnc162 := NB325_338.out
                      have hcz163_0 : w146.cell? ⟨gb338, 0, none⟩ = some (.int .i64 t335) := (blk_cell BK338.out 0).trans rfl
                      have hcz163_1 : w146.cell? ⟨gb338, 1, none⟩ = some (.int .i64 t336) := (blk_cell BK338.out 1).trans rfl
                      have hfz163_0 := blk_frozen BK338.out 0
                      have hfz163_1 := blk_frozen BK338.out 1
                      go_wp2_with (first | (go_at_call 23; (with_reducible refine (ratio_Compare.calls kj91 t340 t341 t343 t344 t346 _ A151.out).mono ?_); rintro e w164 ⟨rfl, hb⟩; have n0_ := Aside0.mk (blk_below (g := gb324) (o := .cells #[.int .i64 t315, .int .i64 t316] 23 (0, 0)) (by (with_reducible repeat (first | refine blk_drewN ?_ _ | refine blk_drew ?_ | refine blk_alloc ?_ _)); refine blk_far ?_ NB324_338.out _; (with_reducible repeat (first | refine blk_drewN ?_ _ | refine blk_drew ?_ | refine blk_alloc ?_ _)); refine blk_far ?_ NB324_338.out _; (with_reducible repeat (first | refine blk_drewN ?_ _ | refine blk_drew ?_ | refine blk_alloc ?_ _)); exact BK324.out) hb); have n1_ := Aside0.mk (blk_below (g := gb325) (o := .cells #[.int .i64 t318, .int .i64 t319] 23 (0, 0)) (by (with_reducible repeat (first | refine blk_drewN ?_ _ | refine blk_drew ?_ | refine blk_alloc ?_ _)); refine blk_far ?_ NB325_338.out _; (with_reducible repeat (first | refine blk_drewN ?_ _ | refine blk_drew ?_ | refine blk_alloc ?_ _)); refine blk_far ?_ NB325_338.out _; (with_reducible repeat (first | refine blk_drewN ?_ _ | refine blk_drew ?_ | refine blk_alloc ?_ _)); exact BK325.out) hb); have n2_ := Aside0.mk (blk_below (g := gb326) (o := .cells #[.int .i64 t321, .int .i64 t322] 23 (0, 0)) (by (with_reducible repeat (first | refine blk_drewN ?_ _ | refine blk_drew ?_ | refine blk_alloc ?_ _)); refine blk_far ?_ NB326_338.out _; (with_reducible repeat (first | refine blk_drewN ?_ _ | refine blk_drew ?_ | refine blk_alloc ?_ _)); refine blk_far ?_ NB326_338.out _; (with_reducible repeat (first | refine blk_drewN ?_ _ | refine blk_drew ?_ | refine blk_alloc ?_ _)); exact BK326.out) hb); have n3_ := Aside0.mk (blk_below (g := gb334) (o := .cells #[.int .i64 t340, .int .i64 t341] 23 (0, 0)) (by (with_reducible repeat (first | refine blk_drewN ?_ _ | refine blk_drew ?_ | refine blk_alloc ?_ _)); refine blk_far ?_ NB334_338.out _; (with_reducible repeat (first | refine blk_drewN ?_ _ | refine blk_drew ?_ | refine blk_alloc ?_ _)); refine blk_far ?_ NB334_338.out _; (with_reducible repeat (first | refine blk_drewN ?_ _ | refine blk_drew ?_ | refine blk_alloc ?_ _)); exact BK334.out) hb); have n4_ := Aside0.mk (blk_below (g := gb338) (o := .cells #[.int .i64 t343, .int .i64 t344] 23 (0, 0)) (by (with_reducible repeat (first | refine blk_drewN ?_ _ | refine blk_drew ?_ | refine blk_alloc ?_ _)); refine blk_put (cs := #[.int .i64 t343, .int .i64 t336]) ?_ 1 _ rfl; (with_reducible repeat (first | refine blk_drewN ?_ _ | refine blk_drew ?_ | refine blk_alloc ?_ _)); refine blk_put (cs := #[.int .i64 t335, .int .i64 t336]) ?_ 0 _ rfl; (with_reducible repeat (first | refine blk_drewN ?_ _ | refine blk_drew ?_ | refine blk_alloc ?_ _)); exact BK338.out) hb); have n5_ := Aside0.mk (below_step (by repeat (first | (with_reducible first | exact HB.out | apply below_alloc | apply pw_below_drewN | apply below_drew1 | refine below_set ?_ GE324.out | refine below_set ?_ GE325.out | refine below_set ?_ GE326.out | refine below_set ?_ GE334.out | refine below_set ?_ GE338.out) | exact HB.out)) hb); clear BK324; clear BK325; clear BK326; clear BK334; clear BK338; clear HB; have BK324 := n0_; have BK325 := n1_; have BK326 := n2_; have BK334 := n3_; have BK338 := n4_; have HB := n5_; clear n0_ n1_ n2_ n3_ n4_ n5_; (try clear hb); (try clear hb2); (try clear hk); (try clear hi)))
                      go_meet
                      case rel => exact ⟨_, ((t346 != t327)), (by first | rfl | (simp; done) | (simp [*]; done)), H', ⟨by have := HJ6.out; have := HJ91.out; first | omega | exact Nat.le_refl _⟩, ⟨by (with_reducible repeat (first | refine blk_drewN ?_ _ | refine blk_drew ?_ | refine blk_alloc ?_ _)); exact BK324.out⟩, ⟨by (with_reducible repeat (first | refine blk_drewN ?_ _ | refine blk_drew ?_ | refine blk_alloc ?_ _)); exact BK325.out⟩, ⟨by (with_reducible repeat (first | refine blk_drewN ?_ _ | refine blk_drew ?_ | refine blk_alloc ?_ _)); exact BK326.out⟩, ⟨by (with_reducible repeat (first | refine blk_drewN ?_ _ | refine blk_drew ?_ | refine blk_alloc ?_ _)); exact BK334.out⟩, ⟨by (with_reducible repeat (first | refine blk_drewN ?_ _ | refine blk_drew ?_ | refine blk_alloc ?_ _)); exact BK338.out⟩, ⟨by repeat (first | (with_reducible first | exact HB.out | apply below_alloc | apply pw_below_drewN | apply below_drew1 | refine below_set ?_ GE324.out | refine below_set ?_ GE325.out | refine below_set ?_ GE326.out | refine below_set ?_ GE334.out | refine below_set ?_ GE338.out) | exact HB.out)⟩⟩
                    · rw [if_neg c150] at H
                      have c150b0 : decide (0 < t321) = false := decide_eq_false c150
                      clear c150
                      have H' := Aside0.mk H
                      clear H
                      have hnb165 := NB326_324.out
                      have hnc165 := NB324_326.out
                      have hnb166 := NB326_325.out
                      have hnc166 := NB325_326.out
                      have hnb167 := NB326_334.out
                      have hnc167 := NB334_326.out
                      have hnb168 := NB326_338.out
                      have hnc168 := NB338_326.out
                      have hcz169_0 : w146.cell? ⟨gb326, 0, none⟩ = some (.int .i64 t321) := (blk_cell BK326.out 0).trans rfl
                      have hcz169_1 : w146.cell? ⟨gb326, 1, none⟩ = some (.int .i64 t322) := (blk_cell BK326.out 1).trans rfl
                      have hfz169_0 := blk_frozen BK326.out 0
                      have hfz169_1 := blk_frozen BK326.out 1
                      go_wp2
                      go_meet
                      case rel => exact ⟨_, (false), (by first | rfl | (simp; done) | (simp [*]; done)), H', ⟨by have := HJ6.out; have := HJ91.out; first | omega | exact Nat.le_refl _⟩, ⟨by (with_reducible repeat (first | refine blk_drewN ?_ _ | refine blk_drew ?_ | refine blk_alloc ?_ _)); refine blk_far ?_ NB324_338.out _; (with_reducible repeat (first | refine blk_drewN ?_ _ | refine blk_drew ?_ | refine blk_alloc ?_ _)); refine blk_far ?_ NB324_338.out _; (with_reducible repeat (first | refine blk_drewN ?_ _ | refine blk_drew ?_ | refine blk_alloc ?_ _)); exact BK324.out⟩, ⟨by (with_reducible repeat (first | refine blk_drewN ?_ _ | refine blk_drew ?_ | refine blk_alloc ?_ _)); refine blk_far ?_ NB325_338.out _; (with_reducible repeat (first | refine blk_drewN ?_ _ | refine blk_drew ?_ | refine blk_alloc ?_ _)); refine blk_far ?_ NB325_338.out _; (with_reducible repeat (first | refine blk_drewN ?_ _ | refine blk_drew ?_ | refine blk_alloc ?_ _)); exact BK325.out⟩, ⟨by (with_reducible repeat (first | refine blk_drewN ?_ _ | refine blk_drew ?_ | refine blk_alloc ?_ _)); refine blk_far ?_ NB326_338.out _; (with_reducible repeat (first | refine blk_drewN ?_ _ | refine blk_drew ?_ | refine blk_alloc ?_ _)); refine blk_far ?_ NB326_338.out _; (with_reducible repeat (first | refine blk_drewN ?_ _ | refine blk_drew ?_ | refine blk_alloc ?_ _)); exact BK326.out⟩, ⟨by (with_reducible repeat (first | refine blk_drewN ?_ _ | refine blk_drew ?_ | refine blk_alloc ?_ _)); refine blk_far ?_ NB334_338.out _; (with_reducible repeat (first | refine blk_drewN ?_ _ | refine blk_drew ?_ | refine blk_alloc ?_ _)); refine blk_far ?_ NB334_338.out _; (with_reducible repeat (first | refine blk_drewN ?_ _ | refine blk_drew ?_ | refine blk_alloc ?_ _)); exact BK334.out⟩, ⟨by (with_reducible repeat (first | refine blk_drewN ?_ _ | refine blk_drew ?_ | refine blk_alloc ?_ _)); refine blk_put (cs := #[.int .i64 t343, .int .i64 t336]) ?_ 1 _ rfl; (with_reducible repeat (first | refine blk_drewN ?_ _ | refine blk_drew ?_ | refine blk_alloc ?_ _)); refine blk_put (cs := #[.int .i64 t335, .int .i64 t336]) ?_ 0 _ rfl; (with_reducible repeat (first | refine blk_drewN ?_ _ | refine blk_drew ?_ | refine blk_alloc ?_ _)); exact BK338.out⟩, ⟨by repeat (first | (with_reducible first | exact HB.out | apply below_alloc | apply pw_below_drewN | apply below_drew1 | refine below_set ?_ GE324.out | refine below_set ?_ GE325.out | refine below_set ?_ GE326.out | refine below_set ?_ GE334.out | refine below_set ?_ GE338.out) | exact HB.out)⟩⟩
                  · rw [if_neg c149] at H
                    have c149b0 : (t345 == 0) = false := beq_eq_false_iff_ne.mpr c149
                    have c149b1 : (t345 != 0) = true := bne_iff_ne.mpr c149
                    have H' := Aside0.mk H
                    clear H
                    go_wp2
                    go_meet
                    case rel => exact ⟨_, (false), (by first | rfl | (simp; done) | (simp [*]; done)), H', ⟨by have := HJ6.out; have := HJ91.out; first | omega | exact Nat.le_refl _⟩, ⟨by (with_reducible repeat (first | refine blk_drewN ?_ _ | refine blk_drew ?_ | refine blk_alloc ?_ _)); refine blk_far ?_ NB324_338.out _; (with_reducible repeat (first | refine blk_drewN ?_ _ | refine blk_drew ?_ | refine blk_alloc ?_ _)); refine blk_far ?_ NB324_338.out _; (with_reducible repeat (first | refine blk_drewN ?_ _ | refine blk_drew ?_ | refine blk_alloc ?_ _)); exact BK324.out⟩, ⟨by (with_reducible repeat (first | refine blk_drewN ?_ _ | refine blk_drew ?_ | refine blk_alloc ?_ _)); refine blk_far ?_ NB325_338.out _; (with_reducible repeat (first | refine blk_drewN ?_ _ | refine blk_drew ?_ | refine blk_alloc ?_ _)); refine blk_far ?_ NB325_338.out _; (with_reducible repeat (first | refine blk_drewN ?_ _ | refine blk_drew ?_ | refine blk_alloc ?_ _)); exact BK325.out⟩, ⟨by (with_reducible repeat (first | refine blk_drewN ?_ _ | refine blk_drew ?_ | refine blk_alloc ?_ _)); refine blk_far ?_ NB326_338.out _; (with_reducible repeat (first | refine blk_drewN ?_ _ | refine blk_drew ?_ | refine blk_alloc ?_ _)); refine blk_far ?_ NB326_338.out _; (with_reducible repeat (first | refine blk_drewN ?_ _ | refine blk_drew ?_ | refine blk_alloc ?_ _)); exact BK326.out⟩, ⟨by (with_reducible repeat (first | refine blk_drewN ?_ _ | refine blk_drew ?_ | refine blk_alloc ?_ _)); refine blk_far ?_ NB334_338.out _; (with_reducible repeat (first | refine blk_drewN ?_ _ | refine blk_drew ?_ | refine blk_alloc ?_ _)); refine blk_far ?_ NB334_338.out _; (with_reducible repeat (first | refine blk_drewN ?_ _ | refine blk_drew ?_ | refine blk_alloc ?_ _)); exact BK334.out⟩, ⟨by (with_reducible repeat (first | refine blk_drewN ?_ _ | refine blk_drew ?_ | refine blk_alloc ?_ _)); refine blk_put (cs := #[.int .i64 t343, .int .i64 t336]) ?_ 1 _ rfl; (with_reducible repeat (first | refine blk_drewN ?_ _ | refine blk_drew ?_ | refine blk_alloc ?_ _)); refine blk_put (cs := #[.int .i64 t335, .int .i64 t336]) ?_ 0 _ rfl; (with_reducible repeat (first | refine blk_drewN ?_ _ | refine blk_drew ?_ | refine blk_alloc ?_ _)); exact BK338.out⟩, ⟨by repeat (first | (with_reducible first | exact HB.out | apply below_alloc | apply pw_below_drewN | apply below_drew1 | refine below_set ?_ GE324.out | refine below_set ?_ GE325.out | refine below_set ?_ GE326.out | refine below_set ?_ GE334.out | refine below_set ?_ GE338.out) | exact HB.out)⟩⟩
                · rw [if_neg c148] at H
                  have c148b0 : (t342 == 0) = false := beq_eq_false_iff_ne.mpr c148
                  have c148b1 : (t342 != 0) = true := bne_iff_ne.mpr c148
                  (first | rw [c148b0] | (simp only [i64_w, i32_w]; rw [c148b0]) | skip)
                  have H' := Aside0.mk H
                  clear H
                  go_wp2
                  go_meet
                  case rel => exact ⟨_, (false), (by first | rfl | (simp; done) | (simp [*]; done)), H', ⟨by have := HJ6.out; have := HJ91.out; first | omega | exact Nat.le_refl _⟩, ⟨by (with_reducible repeat (first | refine blk_drewN ?_ _ | refine blk_drew ?_ | refine blk_alloc ?_ _)); refine blk_far ?_ NB324_338.out _; (with_reducible repeat (first | refine blk_drewN ?_ _ | refine blk_drew ?_ | refine blk_alloc ?_ _)); refine blk_far ?_ NB324_338.out _; (with_reducible repeat (first | refine blk_drewN ?_ _ | refine blk_drew ?_ | refine blk_alloc ?_ _)); exact BK324.out⟩, ⟨by (with_reducible repeat (first | refine blk_drewN ?_ _ | refine blk_drew ?_ | refine blk_alloc ?_ _)); refine blk_far ?_ NB325_338.out _; (with_reducible repeat (first | refine blk_drewN ?_ _ | refine blk_drew ?_ | refine blk_alloc ?_ _)); refine blk_far ?_ NB325_338.out _; (with_reducible repeat (first | refine blk_drewN ?_ _ | refine blk_drew ?_ | refine blk_alloc ?_ _)); exact BK325.out⟩, ⟨by (with_reducible repeat (first | refine blk_drewN ?_ _ | refine blk_drew ?_ | refine blk_alloc ?_ _)); refine blk_far ?_ NB326_338.out _; (with_reducible repeat (first | refine blk_drewN ?_ _ | refine blk_drew ?_ | refine blk_alloc ?_ _)); refine blk_far ?_ NB326_338.out _; (with_reducible repeat (first | refine blk_drewN ?_ _ | refine blk_drew ?_ | refine blk_alloc ?_ _)); exact BK326.out⟩, ⟨by (with_reducible repeat (first | refine blk_drewN ?_ _ | refine blk_drew ?_ | refine blk_alloc ?_ _)); refine blk_far ?_ NB334_338.out _; (with_reducible repeat (first | refine blk_drewN ?_ _ | refine blk_drew ?_ | refine blk_alloc ?_ _)); refine blk_far ?_ NB334_338.out _; (with_reducible repeat (first | refine blk_drewN ?_ _ | refine blk_drew ?_ | refine blk_alloc ?_ _)); exact BK334.out⟩, ⟨by (with_reducible repeat (first | refine blk_drewN ?_ _ | refine blk_drew ?_ | refine blk_alloc ?_ _)); refine blk_put (cs := #[.int .i64 t343, .int .i64 t336]) ?_ 1 _ rfl; (with_reducible repeat (first | refine blk_drewN ?_ _ | refine blk_drew ?_ | refine blk_alloc ?_ _)); refine blk_put (cs := #[.int .i64 t335, .int .i64 t336]) ?_ 0 _ rfl; (with_reducible repeat (first | refine blk_drewN ?_ _ | refine blk_drew ?_ | refine blk_alloc ?_ _)); exact BK338.out⟩, ⟨by repeat (first | (with_reducible first | exact HB.out | apply below_alloc | apply pw_below_drewN | apply below_drew1 | refine below_set ?_ GE324.out | refine below_set ?_ GE325.out | refine below_set ?_ GE326.out | refine below_set ?_ GE334.out | refine below_set ?_ GE338.out) | exact HB.out)⟩⟩
              case rest =>
                clear HC129
                try clear c1
                try clear c2
                try clear p2
                try clear c3
                try clear c4
                try clear c5
                try clear c6
                try clear p6
                try clear c7
                try clear c8
                try clear c9
                try clear c10
                try clear c11
                try clear c12
                try clear c13
                try clear c14
                try clear c15
                try clear c16
                try clear c17
                try clear c19
                try clear c20
                try clear c22
                try clear c23
                try clear c24
                try clear c25
                try clear c26
                try clear c26b0
                try clear c26b1
                try clear c27
                try clear c27b0
                try clear c27b1
                try clear c27b2
                try clear c28
                try clear c29
                try clear c30
                try clear c32
                try clear c33
                try clear c38
                try clear c38b0
                try clear c40
                try clear c40b0
                try clear c42
                try clear c43
                try clear c44
                try clear c46
                try clear c47
                try clear c52
                try clear c58
                try clear c59
                try clear c60
                try clear c62
                try clear c63
                try clear p64
                try clear c68
                try clear c71
                try clear c72
                try clear c73
                try clear c75
                try clear c76
                try clear c81
                try clear c82
                try clear c83
                try clear c85
                try clear c86
                try clear c89
                try clear c93
                try clear c94
                try clear c96
                try clear c100
                try clear c101
                try clear c102
                try clear c108
                try clear c109
                try clear c110
                try clear c111
                try clear c113
                try clear c113b0
                try clear c113b1
                try clear c114
                try clear c114b0
                try clear c114b1
                try clear c116
                try clear c117
                try clear c118
                try clear c119
                try clear c121
                try clear c122
                try clear c123
                try clear c126
                try clear c130
                try clear c131
                try clear c132
                try clear c133
                try clear c135
                try clear c136
                try clear c137
                try clear c140
                try clear c141
                try clear c143
                try clear c148
                try clear c148b0
                try clear c148b1
                try clear c149
                try clear c149b0
                try clear c149b1
                try clear c150
                try clear c150b0
                try clear c152
                try clear c153
                try clear c154
                try clear c155
                try clear c157
                try clear c158
                try clear c159
                try clear c161
                try clear c162
                try clear c165
                try clear c166
                try clear c167
                try clear c168
                try clear hcz103_0
                try clear hcz103_1
                try clear hcz104_0
                try clear hcz104_1
                try clear hcz105_0
                try clear hcz105_1
                try clear hcz112_0
                try clear hcz112_1
                try clear hcz120_0
                try clear hcz120_1
                try clear hcz124_0
                try clear hcz124_1
                try clear hcz134_0
                try clear hcz134_1
                try clear hcz138_0
                try clear hcz138_1
                try clear hcz142_0
                try clear hcz142_1
                try clear hcz144_0
                try clear hcz144_1
                try clear hcz145_0
                try clear hcz145_1
                try clear hcz147_0
                try clear hcz147_1
                try clear hcz156_0
                try clear hcz156_1
                try clear hcz160_0
                try clear hcz160_1
                try clear hcz163_0
                try clear hcz163_1
                try clear hcz169_0
                try clear hcz169_1
                try clear hcz18_0
                try clear hcz18_1
                try clear hcz21_0
                try clear hcz21_1
                try clear hcz23_0
                try clear hcz23_1
                try clear hcz31_0
                try clear hcz31_1
                try clear hcz34_0
                try clear hcz34_1
                try clear hcz36_0
                try clear hcz36_1
                try clear hcz37_0
                try clear hcz37_1
                try clear hcz45_0
                try clear hcz45_1
                try clear hcz48_0
                try clear hcz48_1
                try clear hcz50_0
                try clear hcz50_1
                try clear hcz51_0
                try clear hcz51_1
                try clear hcz53_0
                try clear hcz53_1
                try clear hcz55_0
                try clear hcz55_1
                try clear hcz56_0
                try clear hcz56_1
                try clear hcz61_0
                try clear hcz61_1
                try clear hcz64_0
                try clear hcz64_1
                try clear hcz66_0
                try clear hcz66_1
                try clear hcz67_0
                try clear hcz67_1
                try clear hcz69_0
                try clear hcz69_1
                try clear hcz74_0
                try clear hcz74_1
                try clear hcz77_0
                try clear hcz77_1
                try clear hcz79_0
                try clear hcz79_1
                try clear hcz80_0
                try clear hcz80_1
                try clear hcz84_0
                try clear hcz84_1
                try clear hcz87_0
                try clear hcz87_1
                try clear hcz95_0
                try clear hcz95_1
                try clear hcz97_0
                try clear hcz97_1
                try clear hfz103_0
                try clear hfz103_1
                try clear hfz104_0
                try clear hfz104_1
                try clear hfz105_0
                try clear hfz105_1
                try clear hfz112_0
                try clear hfz112_1
                try clear hfz120_0
                try clear hfz120_1
                try clear hfz124_0
                try clear hfz124_1
                try clear hfz134_0
                try clear hfz134_1
                try clear hfz138_0
                try clear hfz138_1
                try clear hfz142_0
                try clear hfz142_1
                try clear hfz144_0
                try clear hfz144_1
                try clear hfz145_0
                try clear hfz145_1
                try clear hfz147_0
                try clear hfz147_1
                try clear hfz156_0
                try clear hfz156_1
                try clear hfz160_0
                try clear hfz160_1
                try clear hfz163_0
                try clear hfz163_1
                try clear hfz169_0
                try clear hfz169_1
                try clear hfz18_0
                try clear hfz18_1
                try clear hfz21_0
                try clear hfz21_1
                try clear hfz23_0
                try clear hfz23_1
                try clear hfz31_0
                try clear hfz31_1
                try clear hfz34_0
                try clear hfz34_1
                try clear hfz36_0
                try clear hfz36_1
                try clear hfz37_0
                try clear hfz37_1
                try clear hfz45_0
                try clear hfz45_1
                try clear hfz48_0
                try clear hfz48_1
                try clear hfz50_0
                try clear hfz50_1
                try clear hfz51_0
                try clear hfz51_1
                try clear hfz53_0
                try clear hfz53_1
                try clear hfz55_0
                try clear hfz55_1
                try clear hfz56_0
                try clear hfz56_1
                try clear hfz61_0
                try clear hfz61_1
                try clear hfz64_0
                try clear hfz64_1
                try clear hfz66_0
                try clear hfz66_1
                try clear hfz67_0
                try clear hfz67_1
                try clear hfz69_0
                try clear hfz69_1
                try clear hfz74_0
                try clear hfz74_1
                try clear hfz77_0
                try clear hfz77_1
                try clear hfz79_0
                try clear hfz79_1
                try clear hfz80_0
                try clear hfz80_1
                try clear hfz84_0
                try clear hfz84_1
                try clear hfz87_0
                try clear hfz87_1
                try clear hfz95_0
                try clear hfz95_1
                try clear hfz97_0
                try clear hfz97_1
                try clear p2
                try clear p6
                try clear p64
                obtain ⟨kq, x108_128, rfl, HA, HJ128, BK324, BK325, BK326, BK334, BK338, HB⟩ := hcut
                cases kq with
                | zero => exact absurd HA.out (by simp [payrolllaw1_RatioOrder.j2])
                | succ kj128 =>
                  have H := HA.out
                  clear HA
                  simp only [payrolllaw1_RatioOrder.j2] at H
                  by_cases c170 : x108_128 = true
                  · subst c170
                    have H1 : (some false) = some true := by rw [if_pos rfl] at H; exact H
                    clear H
                    have H := H1
                    clear H1
                    exact absurd H (by simp)
                  · replace c170 := Bool.eq_false_iff.mpr c170
                    subst c170
                    have H1 : ((ratio_Floor.f kj128 t315 t316).bind fun t347 => ((ratio_Compare.f kj128 t347 1 t315 t316).bind fun t348 => (if t348 ≤ 0 then (if t347 ≥ 1000000000000 then ((payrolllaw1_sane.f kj128).bind fun t349 => (some t349)) else ((ratio_Compare.f kj128 (wrap64 (t347 + 1)) 1 t315 t316).bind fun t350 => (if t350 > 0 then ((payrolllaw1_sane.f kj128).bind fun t351 => (some t351)) else (some false)))) else (some false)))) = some true := by rw [if_neg (show ¬ (false = true) by decide)] at H; exact H
                    clear H
                    have H := H1
                    clear H1
                    replace H := Option.bind_eq_some_iff.mp H
                    obtain ⟨t347, A1710, H⟩ := H
                    replace H : ((ratio_Compare.f kj128 t347 1 t315 t316).bind fun t348 => (if t348 ≤ 0 then (if t347 ≥ 1000000000000 then ((payrolllaw1_sane.f kj128).bind fun t349 => (some t349)) else ((ratio_Compare.f kj128 (wrap64 (t347 + 1)) 1 t315 t316).bind fun t350 => (if t350 > 0 then ((payrolllaw1_sane.f kj128).bind fun t351 => (some t351)) else (some false)))) else (some false))) = some true := H
                    have A171 := Aside0.mk A1710
                    clear A1710
                    replace H := Option.bind_eq_some_iff.mp H
                    obtain ⟨t348, A1720, H⟩ := H
                    replace H : (if t348 ≤ 0 then (if t347 ≥ 1000000000000 then ((payrolllaw1_sane.f kj128).bind fun t349 => (some t349)) else ((ratio_Compare.f kj128 (wrap64 (t347 + 1)) 1 t315 t316).bind fun t350 => (if t350 > 0 then ((payrolllaw1_sane.f kj128).bind fun t351 => (some t351)) else (some false)))) else (some false)) = some true := H
                    have A172 := Aside0.mk A1720
                    clear A1720
                    by_cases c173 : t348 ≤ 0
                    · rw [if_pos c173] at H
                      have c173b0 : decide (t348 ≤ 0) = true := decide_eq_true c173
                      clear c173
                      by_cases c174 : t347 ≥ 1000000000000
                      · rw [if_pos c174] at H
                        have c174b0 : decide (1000000000000 ≤ t347) = true := decide_eq_true c174
                        clear c174
                        replace H := Option.bind_eq_some_iff.mp H
                        obtain ⟨t349, A1750, H⟩ := H
                        replace H : (some t349) = some true := H
                        have A175 := Aside0.mk A1750
                        clear A1750
                        obtain rfl := Option.some.inj H
                        have hnb176 := NB324_325.out
                        have hnc176 := NB325_324.out
                        have hnb177 := NB324_326.out
                        have hnc177 := NB326_324.out
                        have hnb178 := NB324_334.out
                        have hnc178 := NB334_324.out
                        have hnb179 := NB324_338.out
                        have hnc179 := NB338_324.out
                        have hcz180_0 : wc.cell? ⟨gb324, 0, none⟩ = some (.int .i64 t315) := (blk_cell BK324.out 0).trans rfl
                        have hcz180_1 : wc.cell? ⟨gb324, 1, none⟩ = some (.int .i64 t316) := (blk_cell BK324.out 1).trans rfl
                        have hfz180_0 := blk_frozen BK324.out 0
                        have hfz180_1 := blk_frozen BK324.out 1
                        go_wp2_with (first | ((with_reducible refine gate_callee (f := 26) rfl ?_); refine goesL_ (some 110) rfl rfl Tryd.func26 (by kernel_rfl) rfl #[.agg #[.int .i64 t315, .int .i64 t316]] rfl (by (try simp only [List.map_toArray, List.map_cons, List.map_nil]); first | done | rfl | (simp only [List.length_drop, List.length_take]; rfl)) ?_; (with_reducible refine (ratio_Floor.calls kj128 t315 t316 t347 _ A171.out).mono ?_); rintro e w181 ⟨rfl, hb⟩; refine ⟨_, rfl, ?_⟩; have n0_ := Aside0.mk (blk_below (g := gb324) (o := .cells #[.int .i64 t315, .int .i64 t316] 23 (0, 0)) (by (with_reducible repeat (first | refine blk_drewN ?_ _ | refine blk_drew ?_ | refine blk_alloc ?_ _)); exact BK324.out) hb); have n1_ := Aside0.mk (blk_below (g := gb325) (o := .cells #[.int .i64 t318, .int .i64 t319] 23 (0, 0)) (by (with_reducible repeat (first | refine blk_drewN ?_ _ | refine blk_drew ?_ | refine blk_alloc ?_ _)); exact BK325.out) hb); have n2_ := Aside0.mk (blk_below (g := gb326) (o := .cells #[.int .i64 t321, .int .i64 t322] 23 (0, 0)) (by (with_reducible repeat (first | refine blk_drewN ?_ _ | refine blk_drew ?_ | refine blk_alloc ?_ _)); exact BK326.out) hb); have n3_ := Aside0.mk (blk_below (g := gb334) (o := .cells #[.int .i64 t340, .int .i64 t341] 23 (0, 0)) (by (with_reducible repeat (first | refine blk_drewN ?_ _ | refine blk_drew ?_ | refine blk_alloc ?_ _)); exact BK334.out) hb); have n4_ := Aside0.mk (blk_below (g := gb338) (o := .cells #[.int .i64 t343, .int .i64 t344] 23 (0, 0)) (by (with_reducible repeat (first | refine blk_drewN ?_ _ | refine blk_drew ?_ | refine blk_alloc ?_ _)); exact BK338.out) hb); have n5_ := Aside0.mk (below_step (by repeat (first | (with_reducible first | exact HB.out | apply below_alloc | apply pw_below_drewN | apply below_drew1 | refine below_set ?_ GE324.out | refine below_set ?_ GE325.out | refine below_set ?_ GE326.out | refine below_set ?_ GE334.out | refine below_set ?_ GE338.out) | exact HB.out)) hb); clear BK324; clear BK325; clear BK326; clear BK334; clear BK338; clear HB; have BK324 := n0_; have BK325 := n1_; have BK326 := n2_; have BK334 := n3_; have BK338 := n4_; have HB := n5_; clear n0_ n1_ n2_ n3_ n4_ n5_; (try clear hb); (try clear hb2); (try clear hk); (try clear hi); have hcz182_0 : w181.cell? ⟨gb324, 0, none⟩ = some (.int .i64 t315) := (blk_cell BK324.out 0).trans rfl; have hcz182_1 : w181.cell? ⟨gb324, 1, none⟩ = some (.int .i64 t316) := (blk_cell BK324.out 1).trans rfl; have hfz182_0 := blk_frozen BK324.out 0; have hfz182_1 := blk_frozen BK324.out 1) | ((with_reducible refine gate_callee (f := 23) rfl ?_); refine goesL_ (some 114) rfl rfl Tryd.func23 (by kernel_rfl) rfl #[.agg #[.int .i64 t347, .int .i64 1], .agg #[.int .i64 t315, .int .i64 t316]] rfl (by (try simp only [List.map_toArray, List.map_cons, List.map_nil]); first | done | rfl | (simp only [List.length_drop, List.length_take]; rfl)) ?_; (with_reducible refine (ratio_Compare.calls kj128 t347 1 t315 t316 t348 _ A172.out).mono ?_); rintro e w183 ⟨rfl, hb⟩; refine ⟨_, rfl, ?_⟩; have n0_ := Aside0.mk (blk_below (g := gb324) (o := .cells #[.int .i64 t315, .int .i64 t316] 23 (0, 0)) (by (with_reducible repeat (first | refine blk_drewN ?_ _ | refine blk_drew ?_ | refine blk_alloc ?_ _)); exact BK324.out) hb); have n1_ := Aside0.mk (blk_below (g := gb325) (o := .cells #[.int .i64 t318, .int .i64 t319] 23 (0, 0)) (by (with_reducible repeat (first | refine blk_drewN ?_ _ | refine blk_drew ?_ | refine blk_alloc ?_ _)); exact BK325.out) hb); have n2_ := Aside0.mk (blk_below (g := gb326) (o := .cells #[.int .i64 t321, .int .i64 t322] 23 (0, 0)) (by (with_reducible repeat (first | refine blk_drewN ?_ _ | refine blk_drew ?_ | refine blk_alloc ?_ _)); exact BK326.out) hb); have n3_ := Aside0.mk (blk_below (g := gb334) (o := .cells #[.int .i64 t340, .int .i64 t341] 23 (0, 0)) (by (with_reducible repeat (first | refine blk_drewN ?_ _ | refine blk_drew ?_ | refine blk_alloc ?_ _)); exact BK334.out) hb); have n4_ := Aside0.mk (blk_below (g := gb338) (o := .cells #[.int .i64 t343, .int .i64 t344] 23 (0, 0)) (by (with_reducible repeat (first | refine blk_drewN ?_ _ | refine blk_drew ?_ | refine blk_alloc ?_ _)); exact BK338.out) hb); have n5_ := Aside0.mk (below_step (by repeat (first | (with_reducible first | exact HB.out | apply below_alloc | apply pw_below_drewN | apply below_drew1 | refine below_set ?_ GE324.out | refine below_set ?_ GE325.out | refine below_set ?_ GE326.out | refine below_set ?_ GE334.out | refine below_set ?_ GE338.out) | exact HB.out)) hb); clear BK324; clear BK325; clear BK326; clear BK334; clear BK338; clear HB; have BK324 := n0_; have BK325 := n1_; have BK326 := n2_; have BK334 := n3_; have BK338 := n4_; have HB := n5_; clear n0_ n1_ n2_ n3_ n4_ n5_; (try clear hb); (try clear hb2); (try clear hk); (try clear hi)) | (go_at_call 12; (with_reducible refine (payrolllaw1_sane.calls kj128   _ ?side1 A175.out).mono ?_); (case side1 => exact Tabs.below HT.out (by repeat (first | (with_reducible first | exact HB.out | apply below_alloc | apply pw_below_drewN | apply below_drew1 | refine below_set ?_ GE324.out | refine below_set ?_ GE325.out | refine below_set ?_ GE326.out | refine below_set ?_ GE334.out | refine below_set ?_ GE338.out) | exact HB.out))); rintro e w184 ⟨rfl, hb⟩; have n0_ := Aside0.mk (blk_below (g := gb324) (o := .cells #[.int .i64 t315, .int .i64 t316] 23 (0, 0)) (by (with_reducible repeat (first | refine blk_drewN ?_ _ | refine blk_drew ?_ | refine blk_alloc ?_ _)); exact BK324.out) hb); have n1_ := Aside0.mk (blk_below (g := gb325) (o := .cells #[.int .i64 t318, .int .i64 t319] 23 (0, 0)) (by (with_reducible repeat (first | refine blk_drewN ?_ _ | refine blk_drew ?_ | refine blk_alloc ?_ _)); exact BK325.out) hb); have n2_ := Aside0.mk (blk_below (g := gb326) (o := .cells #[.int .i64 t321, .int .i64 t322] 23 (0, 0)) (by (with_reducible repeat (first | refine blk_drewN ?_ _ | refine blk_drew ?_ | refine blk_alloc ?_ _)); exact BK326.out) hb); have n3_ := Aside0.mk (blk_below (g := gb334) (o := .cells #[.int .i64 t340, .int .i64 t341] 23 (0, 0)) (by (with_reducible repeat (first | refine blk_drewN ?_ _ | refine blk_drew ?_ | refine blk_alloc ?_ _)); exact BK334.out) hb); have n4_ := Aside0.mk (blk_below (g := gb338) (o := .cells #[.int .i64 t343, .int .i64 t344] 23 (0, 0)) (by (with_reducible repeat (first | refine blk_drewN ?_ _ | refine blk_drew ?_ | refine blk_alloc ?_ _)); exact BK338.out) hb); have n5_ := Aside0.mk (below_step (by repeat (first | (with_reducible first | exact HB.out | apply below_alloc | apply pw_below_drewN | apply below_drew1 | refine below_set ?_ GE324.out | refine below_set ?_ GE325.out | refine below_set ?_ GE326.out | refine below_set ?_ GE334.out | refine below_set ?_ GE338.out) | exact HB.out)) hb); clear BK324; clear BK325; clear BK326; clear BK334; clear BK338; clear HB; have BK324 := n0_; have BK325 := n1_; have BK326 := n2_; have BK334 := n3_; have BK338 := n4_; have HB := n5_; clear n0_ n1_ n2_ n3_ n4_ n5_; (try clear hb); (try clear hb2); (try clear hk); (try clear hi)))
                        go_ret
                        exact ⟨by first | rfl | (rw [HY.out] <;> rfl) | (simp [errW_none, errW_some] <;> rfl) | (simp [*, errW_none, errW_some] <;> rfl), by repeat (first | (with_reducible first | exact HB.out | apply below_alloc | apply pw_below_drewN | apply below_drew1 | refine below_set ?_ GE324.out | refine below_set ?_ GE325.out | refine below_set ?_ GE326.out | refine below_set ?_ GE334.out | refine below_set ?_ GE338.out) | exact HB.out)⟩
                      · rw [if_neg c174] at H
                        have c174b0 : decide (1000000000000 ≤ t347) = false := decide_eq_false c174
                        clear c174
                        replace H := Option.bind_eq_some_iff.mp H
                        obtain ⟨t350, A1850, H⟩ := H
                        replace H : (if t350 > 0 then ((payrolllaw1_sane.f kj128).bind fun t351 => (some t351)) else (some false)) = some true := H
                        have A185 := Aside0.mk A1850
                        clear A1850
                        by_cases c186 : t350 > 0
                        · rw [if_pos c186] at H
                          have c186b0 : decide (0 < t350) = true := decide_eq_true c186
                          clear c186
                          replace H := Option.bind_eq_some_iff.mp H
                          obtain ⟨t351, A1870, H⟩ := H
                          replace H : (some t351) = some true := H
                          have A187 := Aside0.mk A1870
                          clear A1870
                          obtain rfl := Option.some.inj H
                          have hnb188 := NB324_325.out
                          have hnc188 := NB325_324.out
                          have hnb189 := NB324_326.out
                          have hnc189 := NB326_324.out
                          have hnb190 := NB324_334.out
                          have hnc190 := NB334_324.out
                          have hnb191 := NB324_338.out
                          have hnc191 := NB338_324.out
                          have hcz192_0 : wc.cell? ⟨gb324, 0, none⟩ = some (.int .i64 t315) := (blk_cell BK324.out 0).trans rfl
                          have hcz192_1 : wc.cell? ⟨gb324, 1, none⟩ = some (.int .i64 t316) := (blk_cell BK324.out 1).trans rfl
                          have hfz192_0 := blk_frozen BK324.out 0
                          have hfz192_1 := blk_frozen BK324.out 1
                          go_wp2_with (first | ((with_reducible refine gate_callee (f := 26) rfl ?_); refine goesL_ (some 110) rfl rfl Tryd.func26 (by kernel_rfl) rfl #[.agg #[.int .i64 t315, .int .i64 t316]] rfl (by (try simp only [List.map_toArray, List.map_cons, List.map_nil]); first | done | rfl | (simp only [List.length_drop, List.length_take]; rfl)) ?_; (with_reducible refine (ratio_Floor.calls kj128 t315 t316 t347 _ A171.out).mono ?_); rintro e w193 ⟨rfl, hb⟩; refine ⟨_, rfl, ?_⟩; have n0_ := Aside0.mk (blk_below (g := gb324) (o := .cells #[.int .i64 t315, .int .i64 t316] 23 (0, 0)) (by (with_reducible repeat (first | refine blk_drewN ?_ _ | refine blk_drew ?_ | refine blk_alloc ?_ _)); exact BK324.out) hb); have n1_ := Aside0.mk (blk_below (g := gb325) (o := .cells #[.int .i64 t318, .int .i64 t319] 23 (0, 0)) (by (with_reducible repeat (first | refine blk_drewN ?_ _ | refine blk_drew ?_ | refine blk_alloc ?_ _)); exact BK325.out) hb); have n2_ := Aside0.mk (blk_below (g := gb326) (o := .cells #[.int .i64 t321, .int .i64 t322] 23 (0, 0)) (by (with_reducible repeat (first | refine blk_drewN ?_ _ | refine blk_drew ?_ | refine blk_alloc ?_ _)); exact BK326.out) hb); have n3_ := Aside0.mk (blk_below (g := gb334) (o := .cells #[.int .i64 t340, .int .i64 t341] 23 (0, 0)) (by (with_reducible repeat (first | refine blk_drewN ?_ _ | refine blk_drew ?_ | refine blk_alloc ?_ _)); exact BK334.out) hb); have n4_ := Aside0.mk (blk_below (g := gb338) (o := .cells #[.int .i64 t343, .int .i64 t344] 23 (0, 0)) (by (with_reducible repeat (first | refine blk_drewN ?_ _ | refine blk_drew ?_ | refine blk_alloc ?_ _)); exact BK338.out) hb); have n5_ := Aside0.mk (below_step (by repeat (first | (with_reducible first | exact HB.out | apply below_alloc | apply pw_below_drewN | apply below_drew1 | refine below_set ?_ GE324.out | refine below_set ?_ GE325.out | refine below_set ?_ GE326.out | refine below_set ?_ GE334.out | refine below_set ?_ GE338.out) | exact HB.out)) hb); clear BK324; clear BK325; clear BK326; clear BK334; clear BK338; clear HB; have BK324 := n0_; have BK325 := n1_; have BK326 := n2_; have BK334 := n3_; have BK338 := n4_; have HB := n5_; clear n0_ n1_ n2_ n3_ n4_ n5_; (try clear hb); (try clear hb2); (try clear hk); (try clear hi); have hcz194_0 : w193.cell? ⟨gb324, 0, none⟩ = some (.int .i64 t315) := (blk_cell BK324.out 0).trans rfl; have hcz194_1 : w193.cell? ⟨gb324, 1, none⟩ = some (.int .i64 t316) := (blk_cell BK324.out 1).trans rfl; have hfz194_0 := blk_frozen BK324.out 0; have hfz194_1 := blk_frozen BK324.out 1) | ((with_reducible refine gate_callee (f := 23) rfl ?_); refine goesL_ (some 114) rfl rfl Tryd.func23 (by kernel_rfl) rfl #[.agg #[.int .i64 t347, .int .i64 1], .agg #[.int .i64 t315, .int .i64 t316]] rfl (by (try simp only [List.map_toArray, List.map_cons, List.map_nil]); first | done | rfl | (simp only [List.length_drop, List.length_take]; rfl)) ?_; (with_reducible refine (ratio_Compare.calls kj128 t347 1 t315 t316 t348 _ A172.out).mono ?_); rintro e w195 ⟨rfl, hb⟩; refine ⟨_, rfl, ?_⟩; have n0_ := Aside0.mk (blk_below (g := gb324) (o := .cells #[.int .i64 t315, .int .i64 t316] 23 (0, 0)) (by (with_reducible repeat (first | refine blk_drewN ?_ _ | refine blk_drew ?_ | refine blk_alloc ?_ _)); exact BK324.out) hb); have n1_ := Aside0.mk (blk_below (g := gb325) (o := .cells #[.int .i64 t318, .int .i64 t319] 23 (0, 0)) (by (with_reducible repeat (first | refine blk_drewN ?_ _ | refine blk_drew ?_ | refine blk_alloc ?_ _)); exact BK325.out) hb); have n2_ := Aside0.mk (blk_below (g := gb326) (o := .cells #[.int .i64 t321, .int .i64 t322] 23 (0, 0)) (by (with_reducible repeat (first | refine blk_drewN ?_ _ | refine blk_drew ?_ | refine blk_alloc ?_ _)); exact BK326.out) hb); have n3_ := Aside0.mk (blk_below (g := gb334) (o := .cells #[.int .i64 t340, .int .i64 t341] 23 (0, 0)) (by (with_reducible repeat (first | refine blk_drewN ?_ _ | refine blk_drew ?_ | refine blk_alloc ?_ _)); exact BK334.out) hb); have n4_ := Aside0.mk (blk_below (g := gb338) (o := .cells #[.int .i64 t343, .int .i64 t344] 23 (0, 0)) (by (with_reducible repeat (first | refine blk_drewN ?_ _ | refine blk_drew ?_ | refine blk_alloc ?_ _)); exact BK338.out) hb); have n5_ := Aside0.mk (below_step (by repeat (first | (with_reducible first | exact HB.out | apply below_alloc | apply pw_below_drewN | apply below_drew1 | refine below_set ?_ GE324.out | refine below_set ?_ GE325.out | refine below_set ?_ GE326.out | refine below_set ?_ GE334.out | refine below_set ?_ GE338.out) | exact HB.out)) hb); clear BK324; clear BK325; clear BK326; clear BK334; clear BK338; clear HB; have BK324 := n0_; have BK325 := n1_; have BK326 := n2_; have BK334 := n3_; have BK338 := n4_; have HB := n5_; clear n0_ n1_ n2_ n3_ n4_ n5_; (try clear hb); (try clear hb2); (try clear hk); (try clear hi); have hcz196_0 : w195.cell? ⟨gb324, 0, none⟩ = some (.int .i64 t315) := (blk_cell BK324.out 0).trans rfl; have hcz196_1 : w195.cell? ⟨gb324, 1, none⟩ = some (.int .i64 t316) := (blk_cell BK324.out 1).trans rfl; have hfz196_0 := blk_frozen BK324.out 0; have hfz196_1 := blk_frozen BK324.out 1) | (go_at_call 23; (with_reducible refine (ratio_Compare.calls kj128 (wrap64 (t347 + 1)) 1 t315 t316 t350 _ A185.out).mono ?_); rintro e w197 ⟨rfl, hb⟩; have n0_ := Aside0.mk (blk_below (g := gb324) (o := .cells #[.int .i64 t315, .int .i64 t316] 23 (0, 0)) (by (with_reducible repeat (first | refine blk_drewN ?_ _ | refine blk_drew ?_ | refine blk_alloc ?_ _)); exact BK324.out) hb); have n1_ := Aside0.mk (blk_below (g := gb325) (o := .cells #[.int .i64 t318, .int .i64 t319] 23 (0, 0)) (by (with_reducible repeat (first | refine blk_drewN ?_ _ | refine blk_drew ?_ | refine blk_alloc ?_ _)); exact BK325.out) hb); have n2_ := Aside0.mk (blk_below (g := gb326) (o := .cells #[.int .i64 t321, .int .i64 t322] 23 (0, 0)) (by (with_reducible repeat (first | refine blk_drewN ?_ _ | refine blk_drew ?_ | refine blk_alloc ?_ _)); exact BK326.out) hb); have n3_ := Aside0.mk (blk_below (g := gb334) (o := .cells #[.int .i64 t340, .int .i64 t341] 23 (0, 0)) (by (with_reducible repeat (first | refine blk_drewN ?_ _ | refine blk_drew ?_ | refine blk_alloc ?_ _)); exact BK334.out) hb); have n4_ := Aside0.mk (blk_below (g := gb338) (o := .cells #[.int .i64 t343, .int .i64 t344] 23 (0, 0)) (by (with_reducible repeat (first | refine blk_drewN ?_ _ | refine blk_drew ?_ | refine blk_alloc ?_ _)); exact BK338.out) hb); have n5_ := Aside0.mk (below_step (by repeat (first | (with_reducible first | exact HB.out | apply below_alloc | apply pw_below_drewN | apply below_drew1 | refine below_set ?_ GE324.out | refine below_set ?_ GE325.out | refine below_set ?_ GE326.out | refine below_set ?_ GE334.out | refine below_set ?_ GE338.out) | exact HB.out)) hb); clear BK324; clear BK325; clear BK326; clear BK334; clear BK338; clear HB; have BK324 := n0_; have BK325 := n1_; have BK326 := n2_; have BK334 := n3_; have BK338 := n4_; have HB := n5_; clear n0_ n1_ n2_ n3_ n4_ n5_; (try clear hb); (try clear hb2); (try clear hk); (try clear hi)) | (go_at_call 12; (with_reducible refine (payrolllaw1_sane.calls kj128   _ ?side1 A187.out).mono ?_); (case side1 => exact Tabs.below HT.out (by repeat (first | (with_reducible first | exact HB.out | apply below_alloc | apply pw_below_drewN | apply below_drew1 | refine below_set ?_ GE324.out | refine below_set ?_ GE325.out | refine below_set ?_ GE326.out | refine below_set ?_ GE334.out | refine below_set ?_ GE338.out) | exact HB.out))); rintro e w198 ⟨rfl, hb⟩; have n0_ := Aside0.mk (blk_below (g := gb324) (o := .cells #[.int .i64 t315, .int .i64 t316] 23 (0, 0)) (by (with_reducible repeat (first | refine blk_drewN ?_ _ | refine blk_drew ?_ | refine blk_alloc ?_ _)); exact BK324.out) hb); have n1_ := Aside0.mk (blk_below (g := gb325) (o := .cells #[.int .i64 t318, .int .i64 t319] 23 (0, 0)) (by (with_reducible repeat (first | refine blk_drewN ?_ _ | refine blk_drew ?_ | refine blk_alloc ?_ _)); exact BK325.out) hb); have n2_ := Aside0.mk (blk_below (g := gb326) (o := .cells #[.int .i64 t321, .int .i64 t322] 23 (0, 0)) (by (with_reducible repeat (first | refine blk_drewN ?_ _ | refine blk_drew ?_ | refine blk_alloc ?_ _)); exact BK326.out) hb); have n3_ := Aside0.mk (blk_below (g := gb334) (o := .cells #[.int .i64 t340, .int .i64 t341] 23 (0, 0)) (by (with_reducible repeat (first | refine blk_drewN ?_ _ | refine blk_drew ?_ | refine blk_alloc ?_ _)); exact BK334.out) hb); have n4_ := Aside0.mk (blk_below (g := gb338) (o := .cells #[.int .i64 t343, .int .i64 t344] 23 (0, 0)) (by (with_reducible repeat (first | refine blk_drewN ?_ _ | refine blk_drew ?_ | refine blk_alloc ?_ _)); exact BK338.out) hb); have n5_ := Aside0.mk (below_step (by repeat (first | (with_reducible first | exact HB.out | apply below_alloc | apply pw_below_drewN | apply below_drew1 | refine below_set ?_ GE324.out | refine below_set ?_ GE325.out | refine below_set ?_ GE326.out | refine below_set ?_ GE334.out | refine below_set ?_ GE338.out) | exact HB.out)) hb); clear BK324; clear BK325; clear BK326; clear BK334; clear BK338; clear HB; have BK324 := n0_; have BK325 := n1_; have BK326 := n2_; have BK334 := n3_; have BK338 := n4_; have HB := n5_; clear n0_ n1_ n2_ n3_ n4_ n5_; (try clear hb); (try clear hb2); (try clear hk); (try clear hi)))
                          go_ret
                          exact ⟨by first | rfl | (rw [HY.out] <;> rfl) | (simp [errW_none, errW_some] <;> rfl) | (simp [*, errW_none, errW_some] <;> rfl), by repeat (first | (with_reducible first | exact HB.out | apply below_alloc | apply pw_below_drewN | apply below_drew1 | refine below_set ?_ GE324.out | refine below_set ?_ GE325.out | refine below_set ?_ GE326.out | refine below_set ?_ GE334.out | refine below_set ?_ GE338.out) | exact HB.out)⟩
                        · rw [if_neg c186] at H
                          have c186b0 : decide (0 < t350) = false := decide_eq_false c186
                          clear c186
                          exact absurd H (by simp)
                    · rw [if_neg c173] at H
                      have c173b0 : decide (t348 ≤ 0) = false := decide_eq_false c173
                      clear c173
                      exact absurd H (by simp)
def payrolllaw1_RatioOrder.Pure : Prop := ∀ (l0 : List Int), l0.length ≤ maxLen → l0.length * 8 ≤ 140737488351232 → (∀ x ∈ l0, (Lit.int .i64 x).wf = true) → ∃ k, payrolllaw1_RatioOrder.f k l0 = some true
end Go.Proofs.YtighihhaljofdaaDoor.P
