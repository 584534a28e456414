/- Texts for the law FilingDecodes (kept out of a larger one). -/
import Derived.Test.YtejgfblphgcgkaaGreatDoorZFilingDecodes13
namespace Go.Proofs.YtejgfblphgcgkaaGreatDoor.P
open Go.RowKit Go.Proofs.YtejgfblphgcgkaaGreatDoorW.PrintWords Go.Proofs.YtejgfblphgcgkaaGreatDoorW.PrintLast Go.Proofs.YtejgfblphgcgkaaGreatDoorW.PrintMore
attribute [local go_sem] max2_int min2_int max_two min_two max_three min_three max_four min_four   -- for this text's walks alone
set_option linter.unusedVariables false
set_option maxHeartbeats 8000000
set_option maxRecDepth 100000
set_option linter.unusedSimpArgs false
mutual
def payrollref34_Ordered.l0 : Nat → List (S60) → Int → Option (Bool)
 | 0, _, _ => none
 | k + 1, x0, x3 => if x3 < (x0.length : Int) then (if 0 ≤ x3 then ((payrollref34_Form.f k ((rd_T60 x0 x3).f0) ((rd_T60 x0 x3).f1) ((rd_T60 x0 x3).f2)).bind fun t315 => (if t315 = true then (if x3 > 0 then (if 0 ≤ (wrap64 (x3 - 1)) then (if (wrap64 (x3 - 1)) < (x0.length : Int) then ((payrollref32_Less.f ((rd_T60 x0 (wrap64 (x3 - 1))).f0) ((rd_T60 x0 (wrap64 (x3 - 1))).f1) ((rd_T60 x0 (wrap64 (x3 - 1))).f2) ((rd_T60 x0 x3).f0) ((rd_T60 x0 x3).f1) ((rd_T60 x0 x3).f2)).bind fun t318 => (payrollref34_Ordered.j1 k x0 x3 (!t318))) else (none)) else (none)) else (payrollref34_Ordered.j1 k x0 x3 false)) else (payrollref34_Ordered.j1 k x0 x3 true))) else (none)) else (some true)
def payrollref34_Ordered.j1 : Nat → List (S60) → Int → Bool → Option (Bool)
 | 0, _, _, _ => none
 | k + 1, x0, x3, x32 => if x32 = true then (some false) else (payrollref34_Ordered.l0 k x0 (wrap64 (x3 + 1)))
end
def payrollref34_Ordered.f (k : Nat) (l0 : List (S60)) : Option (Bool) := payrollref34_Ordered.l0 k l0 0
def payrollref34_Ordered.T4 : Bool × List (List Nat × List Nat) := (true, [([], []), ([], []), ([0,1], [0,1]), ([2], [2]), ([3], [3]), ([4], [4]), ([5,4], [5]), ([6], [6]), ([7,6], [6,7]), ([8,6,6], [6,8]), ([9], [9]), ([9], [9]), ([11,9], [9,11]), ([10,12,9], [9,10,12]), ([13,9], [9,13]), ([9], [9]), ([9], [9]), ([15,16,9], [9,15,16]), ([17,9], [9,17]), ([14,18,9,9], [9,14,18]), ([19,9], [9,19]), ([9,20,6], [6,9,20]), ([6,21], [6,21])])
def payrollref34_Ordered.B4 : List Nat := [0,0,3,7,15,31,63,127,255,511,1023,1023,3071,8191,16383,1023,1023,99327,230399,524287,1048575,2097151,4194303]
theorem payrollref34_Ordered.tab4 : rtab .any (opsOf Tryz.f68 4) = payrollref34_Ordered.T4 := by kernel_rfl
theorem payrollref34_Ordered.bits4 : waitsOk payrollref34_Ordered.T4.2 payrollref34_Ordered.B4 = true := by kernel_rfl
theorem payrollref34_Ordered.calls (k : Nat) (A0 : Option Addr) (c0 : Nat) (l0 : List (S60)) (r : Bool) (w : World) (hr0 : Kd.C k60 w A0 l0.length l0) (hc0 : l0.length ≤ c0) (h : payrollref34_Ordered.f k l0 = some r) :
 Calls Tryz.prog 68 #[.slice A0 l0.length c0] w fun e w' => e = .returned (.bool r) ∧ Below w.heap.size w w' := by
 have hu60 := Tryz.underlying60
 have HR0 := Qa hr0
 have HC0 := Qa hc0
 clear hr0 hc0
 have HB := Qa (Below.refl w.heap.size w)
 have H : (payrollref34_Ordered.l0 k l0 0) = some r := h
 clear h
 have H' := Qa H
 clear H
 go_enter Tryz.func68, Tryz.ntmps68
 go_wp2
 go_loopg [3] k (fun kq v3 w' => ∃ (x3_1 : Int), v3 = .int .i64 x3_1 ∧ Aside0 (payrollref34_Ordered.l0 kq l0 x3_1 = some r) ∧ Aside0 (kq ≤ k) ∧ Aside0 (Below w.heap.size w w'))
 case atStart => exact ⟨(0), (by first | rfl | (simp; done) | (simp [*]; done)), H', ⟨Nat.le_refl _⟩, ⟨bl HB.out⟩⟩
 case round =>
  clear H'
  obtain ⟨x3_1, rfl, HA, HK1, HB⟩ := hrel
  cases gk with
  | zero => exact absurd HA.out (by simp [payrollref34_Ordered.l0])
  | succ k1 =>
   have H := HA.out
   clear HA
   simp only [payrollref34_Ordered.l0] at H
   by_cases c2 : x3_1 < (l0.length : Int)
   · rw [if_pos c2] at H
     have c2b0 : decide (x3_1 < (l0.length : Int)) = true := Xq c2
     clear c2
     have HC3 := Qa H
     clear H
     go_upto_region 4 with (fail)
     go_cut [32] (fun v32 wc => ∃ (kq : Nat) (x32_2 : Bool), v32 = .bool x32_2 ∧ Aside0 (payrollref34_Ordered.j1 kq l0 x3_1 x32_2 = some r) ∧ Aside0 (kq ≤ k1) ∧ Aside0 (Below w.heap.size w wc))
     case first =>
      have H := HC3.out
      clear HC3
      by_cases c4 : 0 ≤ x3_1
      · rw [if_pos c4] at H
        have c4b0 : decide (0 ≤ x3_1) = true := Xq c4
        clear c4
        (first | rw [c4b0] | (simp only [i64_w, i32_w]; rw [c4b0]) | skip)
        replace H := Xx.mp H
        obtain ⟨t315, A50, H⟩ := H
        replace H : (if t315 = true then (if x3_1 > 0 then (if 0 ≤ (wrap64 (x3_1 - 1)) then (if (wrap64 (x3_1 - 1)) < (l0.length : Int) then ((payrollref32_Less.f ((rd_T60 l0 (wrap64 (x3_1 - 1))).f0) ((rd_T60 l0 (wrap64 (x3_1 - 1))).f1) ((rd_T60 l0 (wrap64 (x3_1 - 1))).f2) ((rd_T60 l0 x3_1).f0) ((rd_T60 l0 x3_1).f1) ((rd_T60 l0 x3_1).f2)).bind fun t318 => (payrollref34_Ordered.j1 k1 l0 x3_1 (!t318))) else (none)) else (none)) else (payrollref34_Ordered.j1 k1 l0 x3_1 false)) else (payrollref34_Ordered.j1 k1 l0 x3_1 true)) = some r := H
        have A5 := Qa A50
        clear A50
        by_cases c6 : t315 = true
        · subst c6
          have H1 : (if x3_1 > 0 then (if 0 ≤ (wrap64 (x3_1 - 1)) then (if (wrap64 (x3_1 - 1)) < (l0.length : Int) then ((payrollref32_Less.f ((rd_T60 l0 (wrap64 (x3_1 - 1))).f0) ((rd_T60 l0 (wrap64 (x3_1 - 1))).f1) ((rd_T60 l0 (wrap64 (x3_1 - 1))).f2) ((rd_T60 l0 x3_1).f0) ((rd_T60 l0 x3_1).f1) ((rd_T60 l0 x3_1).f2)).bind fun t318 => (payrollref34_Ordered.j1 k1 l0 x3_1 (!t318))) else (none)) else (none)) else (payrollref34_Ordered.j1 k1 l0 x3_1 false)) = some r := by rw [if_pos rfl] at H; exact H
          clear H
          have H := H1
          clear H1
          by_cases c7 : x3_1 > 0
          · rw [if_pos c7] at H
            have c7b0 : decide (0 < x3_1) = true := Xq c7
            clear c7
            obtain ⟨ji8, hji8⟩ : ∃ j_ : Int, (wrap64 (x3_1 - 1)) = j_ := ⟨_, rfl⟩
            replace H : (if 0 ≤ (ji8) then (if (ji8) < (l0.length : Int) then ((payrollref32_Less.f ((rd_T60 l0 (ji8)).f0) ((rd_T60 l0 (ji8)).f1) ((rd_T60 l0 (ji8)).f2) ((rd_T60 l0 x3_1).f0) ((rd_T60 l0 x3_1).f1) ((rd_T60 l0 x3_1).f2)).bind fun t318 => (payrollref34_Ordered.j1 k1 l0 x3_1 (!t318))) else (none)) else (none)) = some r := by first | (rw [hji8] at H; exact H) | (simp only [hji8] at H ⊢; exact H)
            (try rw [hji8] at A5)
            have hji8w : (IntKind.i64.wrap (x3_1 - 1)) = ji8 := (i64_w _).trans hji8
            by_cases c9 : 0 ≤ (ji8)
            · rw [if_pos c9] at H
              have c9b0 : decide (0 ≤ (ji8)) = true := Xq c9
              clear c9
              by_cases c10 : (ji8) < (l0.length : Int)
              · rw [if_pos c10] at H
                have c10b0 : decide ((ji8) < (l0.length : Int)) = true := Xq c10
                clear c10
                replace H := Xx.mp H
                obtain ⟨t318, A110, H⟩ := H
                replace H : (payrollref34_Ordered.j1 k1 l0 x3_1 (!t318)) = some r := H
                have A11 := Qa A110
                clear A110
                have H' := Qa H
                clear H
                try go_wp2
                have n0_ := Qa (Qf HB.out)
                clear HB
                have HB := n0_
                clear n0_
                have p314 : 0 ≤ (x3_1 : Int) := Xp (by assumption)
                have q314 : x3_1 < (l0.length : Int) := Xp (by assumption)
                obtain ⟨ad314, e314, hx314_0, hx314_1, hx314_2⟩ := at_T60 HR0.out x3_1 p314 q314
                have hw314_2 := hx314_2
                have hw314_1 := hx314_1
                have hw314_0 := hx314_0
                cases e314
                replace hx314_0 := (HB.out.cell (Xs w _ hx314_0)).trans hx314_0
                replace hx314_1 := (HB.out.cell (Xs w _ hx314_1)).trans hx314_1
                replace hx314_2 := (HB.out.cell (Xs w _ hx314_2)).trans hx314_2
                replace p314 := eq_true p314
                replace q314 := eq_true q314
                have p316 : 0 ≤ ((ji8) : Int) := Xp (by assumption)
                have q316 : (ji8) < (l0.length : Int) := Xp (by assumption)
                obtain ⟨ad316, e316, hx316_0, hx316_1, hx316_2⟩ := at_T60 HR0.out (ji8) p316 q316
                have hw316_2 := hx316_2
                have hw316_1 := hx316_1
                have hw316_0 := hx316_0
                obtain rfl : ad314 = ad316 := (by injection e316)
                replace hx316_0 := (HB.out.cell (Xs w _ hx316_0)).trans hx316_0
                replace hx316_1 := (HB.out.cell (Xs w _ hx316_1)).trans hx316_1
                replace hx316_2 := (HB.out.cell (Xs w _ hx316_2)).trans hx316_2
                replace p316 := eq_true p316
                replace q316 := eq_true q316
                have p317 : 0 ≤ (x3_1 : Int) := Xp (by assumption)
                have q317 : x3_1 < (l0.length : Int) := Xp (by assumption)
                obtain ⟨ad317, e317, hx317_0, hx317_1, hx317_2⟩ := at_T60 HR0.out x3_1 p317 q317
                have hw317_2 := hx317_2
                have hw317_1 := hx317_1
                have hw317_0 := hx317_0
                obtain rfl : ad314 = ad317 := (by injection e317)
                replace hx317_0 := (HB.out.cell (Xs w _ hx317_0)).trans hx317_0
                replace hx317_1 := (HB.out.cell (Xs w _ hx317_1)).trans hx317_1
                replace hx317_2 := (HB.out.cell (Xs w _ hx317_2)).trans hx317_2
                replace p317 := eq_true p317
                replace q317 := eq_true q317
                refine start_ (n := 23) (S := fun w' => w'.cell? (ad314.add ((x3_1).toNat * 3)) = some (.int .i64 ((rd_T60 l0 x3_1).f0)) ∧ w'.cell? ⟨(ad314.add ((x3_1).toNat * 3)).block, (ad314.add ((x3_1).toNat * 3)).off + 1, none⟩ = some (.string ((rd_T60 l0 x3_1).f1)) ∧ w'.cell? ⟨(ad314.add ((x3_1).toNat * 3)).block, (ad314.add ((x3_1).toNat * 3)).off + 2, none⟩ = some (.int .i64 ((rd_T60 l0 x3_1).f2)) ∧ w'.cell? (ad314.add (((ji8)).toNat * 3)) = some (.int .i64 ((rd_T60 l0 (ji8)).f0)) ∧ w'.cell? ⟨(ad314.add (((ji8)).toNat * 3)).block, (ad314.add (((ji8)).toNat * 3)).off + 1, none⟩ = some (.string ((rd_T60 l0 (ji8)).f1)) ∧ w'.cell? ⟨(ad314.add (((ji8)).toNat * 3)).block, (ad314.add (((ji8)).toNat * 3)).off + 2, none⟩ = some (.int .i64 ((rd_T60 l0 (ji8)).f2)) ∧ w'.cell? (ad314.add ((x3_1).toNat * 3)) = some (.int .i64 ((rd_T60 l0 x3_1).f0)) ∧ w'.cell? ⟨(ad314.add ((x3_1).toNat * 3)).block, (ad314.add ((x3_1).toNat * 3)).off + 1, none⟩ = some (.string ((rd_T60 l0 x3_1).f1)) ∧ w'.cell? ⟨(ad314.add ((x3_1).toNat * 3)).block, (ad314.add ((x3_1).toNat * 3)).off + 2, none⟩ = some (.int .i64 ((rd_T60 l0 x3_1).f2))) (ds := []) #[Zf,Zf,Zf,Zf,Zf,Zf,Zf,Zf,Zf,Zf,Zf,Zf,Zf,Zf,Zf,Zf,Zf,Zf,Zf,Zf,Zf,Zf,Zf] (by kernel_rfl) rfl rfl ⟨((HB.out.cell (Xs w _ hw314_0)).trans hw314_0), ((HB.out.cell (Xs w _ hw314_1)).trans hw314_1), ((HB.out.cell (Xs w _ hw314_2)).trans hw314_2), ((HB.out.cell (Xs w _ hw316_0)).trans hw316_0), ((HB.out.cell (Xs w _ hw316_1)).trans hw316_1), ((HB.out.cell (Xs w _ hw316_2)).trans hw316_2), ((HB.out.cell (Xs w _ hw317_0)).trans hw317_0), ((HB.out.cell (Xs w _ hw317_1)).trans hw317_1), ((HB.out.cell (Xs w _ hw317_2)).trans hw317_2)⟩ (fun hHeld => ?_); refine with_tabW payrollref34_Ordered.tab4 payrollref34_Ordered.bits4 (fun HT_ HW_ => ?_)
                generalize wr.drew = w12 at HB hx314_0 hx314_1 hx314_2 hx316_0 hx316_1 hx316_2 hx317_0 hx317_1 hx317_2 hHeld ⊢
                refine pu (i := 0) (N := some 10) (v := ?_) (a' := ?_) #[Zt,Zf,Zf,Zf,Zf,Zf,Zf,Zf,Zf,Zf,Zf,Zf,Zf,Zf,Zf,Zf,Zf,Zf,Zf,Zf,Zf,Zf,Zf] HT_ ?_ ?_ ?_
                rotate_left
                · intro w'
                  go_simp
                  with_reducible rfl
                rotate_left
                · simp only [Act.put, Xt, Xu, Xv, i64_w, i32_w]
                  rfl
                refine pu (i := 1) (N := some 11) (v := ?_) (a' := ?_) #[Zt,Zt,Zf,Zf,Zf,Zf,Zf,Zf,Zf,Zf,Zf,Zf,Zf,Zf,Zf,Zf,Zf,Zf,Zf,Zf,Zf,Zf,Zf] HT_ ?_ ?_ ?_
                rotate_left
                · intro w'
                  go_simp
                  with_reducible rfl
                rotate_left
                · simp only [Act.put, Xt, Xu, Xv, i64_w, i32_w]
                  rfl
                refine pu (i := 2) (N := some 12) (v := ?_) (a' := ?_) #[Zt,Zt,Zt,Zf,Zf,Zf,Zf,Zf,Zf,Zf,Zf,Zf,Zf,Zf,Zf,Zf,Zf,Zf,Zf,Zf,Zf,Zf,Zf] HT_ ?_ ?_ ?_
                rotate_left
                · intro w'
                  go_simp
                  with_reducible rfl
                rotate_left
                · simp only [Act.put, Xt, Xu, Xv, i64_w, i32_w]
                  rfl
                refine take_ (i := 3) (N := some 13) (v := ?_) (a' := ?_) #[Zt,Zt,Zt,Zt,Zf,Zf,Zf,Zf,Zf,Zf,Zf,Zf,Zf,Zf,Zf,Zf,Zf,Zf,Zf,Zf,Zf,Zf,Zf] rfl rfl (take_ofW HT_.out HW_.out (by kernel_rfl)) (fun _ _ _ h => h) (Or.inl ⟨by rfl, ?_⟩) hHeld ?_ ?_
                rotate_left
                · rintro w' ⟨s0, s1, s2, s3, s4, s5, s6, s7, s8⟩
                  go_simp
                  with_reducible rfl
                rotate_left
                · simp only [Act.put, Xt, Xu, Xv, i64_w, i32_w]
                  rfl
                refine one_ (i := 4) (N := some 14) #[Zt,Zt,Zt,Zt,Zt,Zf,Zf,Zf,Zf,Zf,Zf,Zf,Zf,Zf,Zf,Zf,Zf,Zf,Zf,Zf,Zf,Zf,Zf] rfl rfl (one_of HT_.out (by kernel_rfl)) (by decide) (fun K hK => ?_)
                refine goes_ Tryz.func74 (by kernel_rfl) rfl #[.agg #[.int .i64 ((rd_T60 l0 x3_1).f0), .string ((rd_T60 l0 x3_1).f1), .int .i64 ((rd_T60 l0 x3_1).f2)]] (by rfl) rfl rfl (by (try simp only [List.map_toArray, List.map_cons, List.map_nil]); first | done | rfl | (simp only [List.length_drop, List.length_take]; rfl)) ?_
                with_reducible refine (payrollref34_Form.calls k1 ((rd_T60 l0 x3_1).f0) ((rd_T60 l0 x3_1).f1) ((rd_T60 l0 x3_1).f2) true _ A5.out).mono ?_
                rintro e w13 ⟨rfl, hb⟩
                refine ⟨_, rfl, ?_⟩
                have n0_ := Qa (Qh (bl HB.out) hb)
                clear HB
                have HB := n0_
                clear n0_
                (try clear hb)
                (try clear hb2)
                (try clear hk)
                (try clear hi)
                refine hK.out _ _ ⟨((HB.out.cell (Xs w _ hw314_0)).trans hw314_0), ((HB.out.cell (Xs w _ hw314_1)).trans hw314_1), ((HB.out.cell (Xs w _ hw314_2)).trans hw314_2), ((HB.out.cell (Xs w _ hw316_0)).trans hw316_0), ((HB.out.cell (Xs w _ hw316_1)).trans hw316_1), ((HB.out.cell (Xs w _ hw316_2)).trans hw316_2), ((HB.out.cell (Xs w _ hw317_0)).trans hw317_0), ((HB.out.cell (Xs w _ hw317_1)).trans hw317_1), ((HB.out.cell (Xs w _ hw317_2)).trans hw317_2)⟩ (fun hHeld => ?_)
                clear hK K
                refine norm_ (a' := ?_) ?_ ?_
                rotate_left
                · show Act.put _ (some 14) _ = _
                  simp only [Act.put, Xt, Xu, Xv, i64_w, i32_w]
                  rfl
                refine pu (i := 5) (N := some 15) (v := ?_) (a' := ?_) #[Zt,Zt,Zt,Zt,Zt,Zt,Zf,Zf,Zf,Zf,Zf,Zf,Zf,Zf,Zf,Zf,Zf,Zf,Zf,Zf,Zf,Zf,Zf] HT_ ?_ ?_ ?_
                rotate_left
                · intro w'
                  go_simp
                  with_reducible rfl
                rotate_left
                · simp only [Act.put, Xt, Xu, Xv, i64_w, i32_w]
                  rfl
                refine pu (i := 6) (N := some 16) (v := ?_) (a' := ?_) #[Zt,Zt,Zt,Zt,Zt,Zt,Zt,Zf,Zf,Zf,Zf,Zf,Zf,Zf,Zf,Zf,Zf,Zf,Zf,Zf,Zf,Zf,Zf] HT_ ?_ ?_ ?_
                rotate_left
                · intro w'
                  go_simp
                  with_reducible rfl
                rotate_left
                · simp only [Act.put, Xt, Xu, Xv, i64_w, i32_w]
                  rfl
                refine pu (i := 7) (N := some 17) (v := ?_) (a' := ?_) #[Zt,Zt,Zt,Zt,Zt,Zt,Zt,Zt,Zf,Zf,Zf,Zf,Zf,Zf,Zf,Zf,Zf,Zf,Zf,Zf,Zf,Zf,Zf] HT_ ?_ ?_ ?_
                rotate_left
                · intro w'
                  go_simp
                  with_reducible rfl
                rotate_left
                · simp only [Act.put, Xt, Xu, Xv, i64_w, i32_w]
                  rfl
                refine pu (i := 8) (N := some 18) (v := ?_) (a' := ?_) #[Zt,Zt,Zt,Zt,Zt,Zt,Zt,Zt,Zt,Zf,Zf,Zf,Zf,Zf,Zf,Zf,Zf,Zf,Zf,Zf,Zf,Zf,Zf] HT_ ?_ ?_ ?_
                rotate_left
                · intro w'
                  go_simp
                  with_reducible rfl
                rotate_left
                · simp only [Act.put, Xt, Xu, Xv, i64_w, i32_w]
                  rfl
                refine pu (i := 9) (N := some 19) (v := ?_) (a' := ?_) #[Zt,Zt,Zt,Zt,Zt,Zt,Zt,Zt,Zt,Zt,Zf,Zf,Zf,Zf,Zf,Zf,Zf,Zf,Zf,Zf,Zf,Zf,Zf] HT_ ?_ ?_ ?_
                rotate_left
                · intro w'
                  go_simp
                  with_reducible rfl
                rotate_left
                · simp only [Act.put, Xt, Xu, Xv, i64_w, i32_w]
                  rfl
                refine pu (i := 10) (N := some 20) (v := ?_) (a' := ?_) #[Zt,Zt,Zt,Zt,Zt,Zt,Zt,Zt,Zt,Zt,Zt,Zf,Zf,Zf,Zf,Zf,Zf,Zf,Zf,Zf,Zf,Zf,Zf] HT_ ?_ ?_ ?_
                rotate_left
                · intro w'
                  go_simp
                  with_reducible rfl
                rotate_left
                · simp only [Act.put, Xt, Xu, Xv, i64_w, i32_w]
                  rfl
                refine pu (i := 11) (N := some 21) (v := ?_) (a' := ?_) #[Zt,Zt,Zt,Zt,Zt,Zt,Zt,Zt,Zt,Zt,Zt,Zt,Zf,Zf,Zf,Zf,Zf,Zf,Zf,Zf,Zf,Zf,Zf] HT_ ?_ ?_ ?_
                rotate_left
                · intro w'
                  go_simp
                  with_reducible rfl
                rotate_left
                · simp only [Act.put, Xt, Xu, Xv, i64_w, i32_w]
                  rfl
                refine pu (i := 12) (N := some 22) (v := ?_) (a' := ?_) #[Zt,Zt,Zt,Zt,Zt,Zt,Zt,Zt,Zt,Zt,Zt,Zt,Zt,Zf,Zf,Zf,Zf,Zf,Zf,Zf,Zf,Zf,Zf] HT_ ?_ ?_ ?_
                rotate_left
                · intro w'
                  go_simp
                  with_reducible rfl
                rotate_left
                · simp only [Act.put, Xt, Xu, Xv, i64_w, i32_w]
                  rfl
                refine pu (i := 13) (N := some 23) (v := ?_) (a' := ?_) #[Zt,Zt,Zt,Zt,Zt,Zt,Zt,Zt,Zt,Zt,Zt,Zt,Zt,Zt,Zf,Zf,Zf,Zf,Zf,Zf,Zf,Zf,Zf] HT_ ?_ ?_ ?_
                rotate_left
                · intro w'
                  go_simp
                  with_reducible rfl
                rotate_left
                · simp only [Act.put, Xt, Xu, Xv, i64_w, i32_w]
                  rfl
                refine pu (i := 15) (N := some 25) (v := ?_) (a' := ?_) #[Zt,Zt,Zt,Zt,Zt,Zt,Zt,Zt,Zt,Zt,Zt,Zt,Zt,Zt,Zf,Zt,Zf,Zf,Zf,Zf,Zf,Zf,Zf] HT_ ?_ ?_ ?_
                rotate_left
                · intro w'
                  go_simp
                  with_reducible rfl
                rotate_left
                · simp only [Act.put, Xt, Xu, Xv, i64_w, i32_w]
                  rfl
                refine pu (i := 16) (N := some 26) (v := ?_) (a' := ?_) #[Zt,Zt,Zt,Zt,Zt,Zt,Zt,Zt,Zt,Zt,Zt,Zt,Zt,Zt,Zf,Zt,Zt,Zf,Zf,Zf,Zf,Zf,Zf] HT_ ?_ ?_ ?_
                rotate_left
                · intro w'
                  go_simp
                  with_reducible rfl
                rotate_left
                · simp only [Act.put, Xt, Xu, Xv, i64_w, i32_w]
                  rfl
                refine pu (i := 17) (N := some 27) (v := ?_) (a' := ?_) #[Zt,Zt,Zt,Zt,Zt,Zt,Zt,Zt,Zt,Zt,Zt,Zt,Zt,Zt,Zf,Zt,Zt,Zt,Zf,Zf,Zf,Zf,Zf] HT_ ?_ ?_ ?_
                rotate_left
                · intro w'
                  go_simp
                  with_reducible rfl
                rotate_left
                · simp only [Act.put, Xt, Xu, Xv, i64_w, i32_w]
                  rfl
                refine take_ (i := 14) (N := some 24) (v := ?_) (a' := ?_) #[Zt,Zt,Zt,Zt,Zt,Zt,Zt,Zt,Zt,Zt,Zt,Zt,Zt,Zt,Zt,Zt,Zt,Zt,Zf,Zf,Zf,Zf,Zf] rfl rfl (take_ofW HT_.out HW_.out (by kernel_rfl)) (fun _ _ _ h => h) (Or.inl ⟨by rfl, ?_⟩) hHeld ?_ ?_
                rotate_left
                · rintro w' ⟨s0, s1, s2, s3, s4, s5, s6, s7, s8⟩
                  go_simp
                  with_reducible rfl
                rotate_left
                · simp only [Act.put, Xt, Xu, Xv, i64_w, i32_w]
                  rfl
                refine take_ (i := 18) (N := some 28) (v := ?_) (a' := ?_) #[Zt,Zt,Zt,Zt,Zt,Zt,Zt,Zt,Zt,Zt,Zt,Zt,Zt,Zt,Zt,Zt,Zt,Zt,Zt,Zf,Zf,Zf,Zf] rfl rfl (take_ofW HT_.out HW_.out (by kernel_rfl)) (fun _ _ _ h => h) (Or.inl ⟨by rfl, ?_⟩) hHeld ?_ ?_
                rotate_left
                · rintro w' ⟨s0, s1, s2, s3, s4, s5, s6, s7, s8⟩
                  go_simp
                  with_reducible rfl
                rotate_left
                · simp only [Act.put, Xt, Xu, Xv, i64_w, i32_w]
                  rfl
                refine one_ (i := 19) (N := some 29) #[Zt,Zt,Zt,Zt,Zt,Zt,Zt,Zt,Zt,Zt,Zt,Zt,Zt,Zt,Zt,Zt,Zt,Zt,Zt,Zt,Zf,Zf,Zf] rfl rfl (one_of HT_.out (by kernel_rfl)) (by decide) (fun K hK => ?_)
                refine goes_ Tryz.func83 (by kernel_rfl) rfl #[.agg #[.int .i64 ((rd_T60 l0 (ji8)).f0), .string ((rd_T60 l0 (ji8)).f1), .int .i64 ((rd_T60 l0 (ji8)).f2)], .agg #[.int .i64 ((rd_T60 l0 x3_1).f0), .string ((rd_T60 l0 x3_1).f1), .int .i64 ((rd_T60 l0 x3_1).f2)]] (by rfl) rfl rfl (by (try simp only [List.map_toArray, List.map_cons, List.map_nil]); first | done | (simp only [hji8]; rfl) | rfl | (simp only [List.length_drop, List.length_take]; rfl)) ?_
                with_reducible refine (payrollref32_Less.calls ((rd_T60 l0 (ji8)).f0) ((rd_T60 l0 (ji8)).f1) ((rd_T60 l0 (ji8)).f2) ((rd_T60 l0 x3_1).f0) ((rd_T60 l0 x3_1).f1) ((rd_T60 l0 x3_1).f2) t318 _ A11.out).mono ?_
                rintro e w14 ⟨rfl, hb⟩
                refine ⟨_, rfl, ?_⟩
                have n0_ := Qa (Qh (bl HB.out) hb)
                clear HB
                have HB := n0_
                clear n0_
                (try clear hb)
                (try clear hb2)
                (try clear hk)
                (try clear hi)
                refine hK.out _ _ ⟨((HB.out.cell (Xs w _ hw314_0)).trans hw314_0), ((HB.out.cell (Xs w _ hw314_1)).trans hw314_1), ((HB.out.cell (Xs w _ hw314_2)).trans hw314_2), ((HB.out.cell (Xs w _ hw316_0)).trans hw316_0), ((HB.out.cell (Xs w _ hw316_1)).trans hw316_1), ((HB.out.cell (Xs w _ hw316_2)).trans hw316_2), ((HB.out.cell (Xs w _ hw317_0)).trans hw317_0), ((HB.out.cell (Xs w _ hw317_1)).trans hw317_1), ((HB.out.cell (Xs w _ hw317_2)).trans hw317_2)⟩ (fun hHeld => ?_)
                clear hK K
                refine norm_ (a' := ?_) ?_ ?_
                rotate_left
                · show Act.put _ (some 29) _ = _
                  simp only [Act.put, Xt, Xu, Xv, i64_w, i32_w]
                  rfl
                refine pu (i := 20) (N := some 30) (v := ?_) (a' := ?_) #[Zt,Zt,Zt,Zt,Zt,Zt,Zt,Zt,Zt,Zt,Zt,Zt,Zt,Zt,Zt,Zt,Zt,Zt,Zt,Zt,Zt,Zf,Zf] HT_ ?_ ?_ ?_
                rotate_left
                · intro w'
                  go_simp
                  with_reducible rfl
                rotate_left
                · simp only [Act.put, Xt, Xu, Xv, i64_w, i32_w]
                  rfl
                refine pu (i := 21) (N := some 31) (v := ?_) (a' := ?_) #[Zt,Zt,Zt,Zt,Zt,Zt,Zt,Zt,Zt,Zt,Zt,Zt,Zt,Zt,Zt,Zt,Zt,Zt,Zt,Zt,Zt,Zt,Zf] HT_ ?_ ?_ ?_
                rotate_left
                · intro w'
                  go_simp
                  with_reducible rfl
                rotate_left
                · simp only [Act.put, Xt, Xu, Xv, i64_w, i32_w]
                  rfl
                refine pu (i := 22) (N := some 32) (v := ?_) (a' := ?_) #[Zt,Zt,Zt,Zt,Zt,Zt,Zt,Zt,Zt,Zt,Zt,Zt,Zt,Zt,Zt,Zt,Zt,Zt,Zt,Zt,Zt,Zt,Zt] HT_ ?_ ?_ ?_
                rotate_left
                · intro w'
                  go_simp
                  with_reducible rfl
                rotate_left
                · simp only [Act.put, Xt, Xu, Xv, i64_w, i32_w]
                  rfl
                refine done_ (done_of HT_.out (by kernel_rfl)) ?_
                try go_wp2
                go_meet
                case rel => exact ⟨_, (!t318), (by first | rfl | (simp; done) | (simp [*]; done)), H', ⟨by have := HK1.out; first | omega | exact Nat.le_refl _⟩, ⟨bl HB.out⟩⟩
              rw [if_neg c10] at H
              exact absurd H (by simp)
            rw [if_neg c9] at H
            exact absurd H (by simp)
          rw [if_neg c7] at H
          have c7b0 : decide (0 < x3_1) = false := Xr c7
          clear c7
          have H' := Qa H
          clear H
          try go_wp2
          have n0_ := Qa (Qf HB.out)
          clear HB
          have HB := n0_
          clear n0_
          have p314 : 0 ≤ (x3_1 : Int) := Xp (by assumption)
          have q314 : x3_1 < (l0.length : Int) := Xp (by assumption)
          obtain ⟨ad314, e314, hx314_0, hx314_1, hx314_2⟩ := at_T60 HR0.out x3_1 p314 q314
          have hw314_2 := hx314_2
          have hw314_1 := hx314_1
          have hw314_0 := hx314_0
          cases e314
          replace hx314_0 := (HB.out.cell (Xs w _ hx314_0)).trans hx314_0
          replace hx314_1 := (HB.out.cell (Xs w _ hx314_1)).trans hx314_1
          replace hx314_2 := (HB.out.cell (Xs w _ hx314_2)).trans hx314_2
          replace p314 := eq_true p314
          replace q314 := eq_true q314
          refine start_ (n := 23) (S := fun w' => w'.cell? (ad314.add ((x3_1).toNat * 3)) = some (.int .i64 ((rd_T60 l0 x3_1).f0)) ∧ w'.cell? ⟨(ad314.add ((x3_1).toNat * 3)).block, (ad314.add ((x3_1).toNat * 3)).off + 1, none⟩ = some (.string ((rd_T60 l0 x3_1).f1)) ∧ w'.cell? ⟨(ad314.add ((x3_1).toNat * 3)).block, (ad314.add ((x3_1).toNat * 3)).off + 2, none⟩ = some (.int .i64 ((rd_T60 l0 x3_1).f2))) (ds := []) #[Zf,Zf,Zf,Zf,Zf,Zf,Zf,Zf,Zf,Zf,Zf,Zf,Zf,Zf,Zf,Zf,Zf,Zf,Zf,Zf,Zf,Zf,Zf] (by kernel_rfl) rfl rfl ⟨((HB.out.cell (Xs w _ hw314_0)).trans hw314_0), ((HB.out.cell (Xs w _ hw314_1)).trans hw314_1), ((HB.out.cell (Xs w _ hw314_2)).trans hw314_2)⟩ (fun hHeld => ?_); refine with_tabW payrollref34_Ordered.tab4 payrollref34_Ordered.bits4 (fun HT_ HW_ => ?_)
          generalize wr.drew = w15 at HB hx314_0 hx314_1 hx314_2 hHeld ⊢
          refine pu (i := 0) (N := some 10) (v := ?_) (a' := ?_) #[Zt,Zf,Zf,Zf,Zf,Zf,Zf,Zf,Zf,Zf,Zf,Zf,Zf,Zf,Zf,Zf,Zf,Zf,Zf,Zf,Zf,Zf,Zf] HT_ ?_ ?_ ?_
          rotate_left
          · intro w'
            go_simp
            with_reducible rfl
          rotate_left
          · simp only [Act.put, Xt, Xu, Xv, i64_w, i32_w]
            rfl
          refine pu (i := 1) (N := some 11) (v := ?_) (a' := ?_) #[Zt,Zt,Zf,Zf,Zf,Zf,Zf,Zf,Zf,Zf,Zf,Zf,Zf,Zf,Zf,Zf,Zf,Zf,Zf,Zf,Zf,Zf,Zf] HT_ ?_ ?_ ?_
          rotate_left
          · intro w'
            go_simp
            with_reducible rfl
          rotate_left
          · simp only [Act.put, Xt, Xu, Xv, i64_w, i32_w]
            rfl
          refine pu (i := 2) (N := some 12) (v := ?_) (a' := ?_) #[Zt,Zt,Zt,Zf,Zf,Zf,Zf,Zf,Zf,Zf,Zf,Zf,Zf,Zf,Zf,Zf,Zf,Zf,Zf,Zf,Zf,Zf,Zf] HT_ ?_ ?_ ?_
          rotate_left
          · intro w'
            go_simp
            with_reducible rfl
          rotate_left
          · simp only [Act.put, Xt, Xu, Xv, i64_w, i32_w]
            rfl
          refine take_ (i := 3) (N := some 13) (v := ?_) (a' := ?_) #[Zt,Zt,Zt,Zt,Zf,Zf,Zf,Zf,Zf,Zf,Zf,Zf,Zf,Zf,Zf,Zf,Zf,Zf,Zf,Zf,Zf,Zf,Zf] rfl rfl (take_ofW HT_.out HW_.out (by kernel_rfl)) (fun _ _ _ h => h) (Or.inl ⟨by rfl, ?_⟩) hHeld ?_ ?_
          rotate_left
          · rintro w' ⟨s0, s1, s2⟩
            go_simp
            with_reducible rfl
          rotate_left
          · simp only [Act.put, Xt, Xu, Xv, i64_w, i32_w]
            rfl
          refine one_ (i := 4) (N := some 14) #[Zt,Zt,Zt,Zt,Zt,Zf,Zf,Zf,Zf,Zf,Zf,Zf,Zf,Zf,Zf,Zf,Zf,Zf,Zf,Zf,Zf,Zf,Zf] rfl rfl (one_of HT_.out (by kernel_rfl)) (by decide) (fun K hK => ?_)
          refine goes_ Tryz.func74 (by kernel_rfl) rfl #[.agg #[.int .i64 ((rd_T60 l0 x3_1).f0), .string ((rd_T60 l0 x3_1).f1), .int .i64 ((rd_T60 l0 x3_1).f2)]] (by rfl) rfl rfl (by (try simp only [List.map_toArray, List.map_cons, List.map_nil]); first | done | rfl | (simp only [List.length_drop, List.length_take]; rfl)) ?_
          with_reducible refine (payrollref34_Form.calls k1 ((rd_T60 l0 x3_1).f0) ((rd_T60 l0 x3_1).f1) ((rd_T60 l0 x3_1).f2) true _ A5.out).mono ?_
          rintro e w16 ⟨rfl, hb⟩
          refine ⟨_, rfl, ?_⟩
          have n0_ := Qa (Qh (bl HB.out) hb)
          clear HB
          have HB := n0_
          clear n0_
          (try clear hb)
          (try clear hb2)
          (try clear hk)
          (try clear hi)
          refine hK.out _ _ ⟨((HB.out.cell (Xs w _ hw314_0)).trans hw314_0), ((HB.out.cell (Xs w _ hw314_1)).trans hw314_1), ((HB.out.cell (Xs w _ hw314_2)).trans hw314_2)⟩ (fun hHeld => ?_)
          clear hK K
          refine norm_ (a' := ?_) ?_ ?_
          rotate_left
          · show Act.put _ (some 14) _ = _
            simp only [Act.put, Xt, Xu, Xv, i64_w, i32_w]
            rfl
          refine pu (i := 5) (N := some 15) (v := ?_) (a' := ?_) #[Zt,Zt,Zt,Zt,Zt,Zt,Zf,Zf,Zf,Zf,Zf,Zf,Zf,Zf,Zf,Zf,Zf,Zf,Zf,Zf,Zf,Zf,Zf] HT_ ?_ ?_ ?_
          rotate_left
          · intro w'
            go_simp
            with_reducible rfl
          rotate_left
          · simp only [Act.put, Xt, Xu, Xv, i64_w, i32_w]
            rfl
          refine pu (i := 6) (N := some 16) (v := ?_) (a' := ?_) #[Zt,Zt,Zt,Zt,Zt,Zt,Zt,Zf,Zf,Zf,Zf,Zf,Zf,Zf,Zf,Zf,Zf,Zf,Zf,Zf,Zf,Zf,Zf] HT_ ?_ ?_ ?_
          rotate_left
          · intro w'
            go_simp
            with_reducible rfl
          rotate_left
          · simp only [Act.put, Xt, Xu, Xv, i64_w, i32_w]
            rfl
          refine pu (i := 7) (N := some 17) (v := ?_) (a' := ?_) #[Zt,Zt,Zt,Zt,Zt,Zt,Zt,Zt,Zf,Zf,Zf,Zf,Zf,Zf,Zf,Zf,Zf,Zf,Zf,Zf,Zf,Zf,Zf] HT_ ?_ ?_ ?_
          rotate_left
          · intro w'
            go_simp
            with_reducible rfl
          rotate_left
          · simp only [Act.put, Xt, Xu, Xv, i64_w, i32_w]
            rfl
          refine pu (i := 8) (N := some 18) (v := ?_) (a' := ?_) #[Zt,Zt,Zt,Zt,Zt,Zt,Zt,Zt,Zt,Zf,Zf,Zf,Zf,Zf,Zf,Zf,Zf,Zf,Zf,Zf,Zf,Zf,Zf] HT_ ?_ ?_ ?_
          rotate_left
          · intro w'
            go_simp
            with_reducible rfl
          rotate_left
          · simp only [Act.put, Xt, Xu, Xv, i64_w, i32_w]
            rfl
          refine pu (i := 9) (N := some 19) (v := ?_) (a' := ?_) #[Zt,Zt,Zt,Zt,Zt,Zt,Zt,Zt,Zt,Zt,Zf,Zf,Zf,Zf,Zf,Zf,Zf,Zf,Zf,Zf,Zf,Zf,Zf] HT_ ?_ ?_ ?_
          rotate_left
          · intro w'
            go_simp
            with_reducible rfl
          rotate_left
          · simp only [Act.put, Xt, Xu, Xv, i64_w, i32_w]
            rfl
          refine pv (i := 10) (N := some 20) (a' := ?_) #[Zt,Zt,Zt,Zt,Zt,Zt,Zt,Zt,Zt,Zt,Zt,Zf,Zf,Zf,Zf,Zf,Zf,Zf,Zf,Zf,Zf,Zf,Zf] HT_ ?_ ?_
          rotate_left
          · simp only [Act.put, Xt, Xu, Xv, i64_w, i32_w]
            rfl
          refine pv (i := 11) (N := some 21) (a' := ?_) #[Zt,Zt,Zt,Zt,Zt,Zt,Zt,Zt,Zt,Zt,Zt,Zt,Zf,Zf,Zf,Zf,Zf,Zf,Zf,Zf,Zf,Zf,Zf] HT_ ?_ ?_
          rotate_left
          · simp only [Act.put, Xt, Xu, Xv, i64_w, i32_w]
            rfl
          refine pv (i := 12) (N := some 22) (a' := ?_) #[Zt,Zt,Zt,Zt,Zt,Zt,Zt,Zt,Zt,Zt,Zt,Zt,Zt,Zf,Zf,Zf,Zf,Zf,Zf,Zf,Zf,Zf,Zf] HT_ ?_ ?_
          rotate_left
          · simp only [Act.put, Xt, Xu, Xv, i64_w, i32_w]
            rfl
          refine pv (i := 13) (N := some 23) (a' := ?_) #[Zt,Zt,Zt,Zt,Zt,Zt,Zt,Zt,Zt,Zt,Zt,Zt,Zt,Zt,Zf,Zf,Zf,Zf,Zf,Zf,Zf,Zf,Zf] HT_ ?_ ?_
          rotate_left
          · simp only [Act.put, Xt, Xu, Xv, i64_w, i32_w]
            rfl
          refine pv (i := 14) (N := some 24) (a' := ?_) #[Zt,Zt,Zt,Zt,Zt,Zt,Zt,Zt,Zt,Zt,Zt,Zt,Zt,Zt,Zt,Zf,Zf,Zf,Zf,Zf,Zf,Zf,Zf] HT_ ?_ ?_
          rotate_left
          · simp only [Act.put, Xt, Xu, Xv, i64_w, i32_w]
            rfl
          refine pv (i := 15) (N := some 25) (a' := ?_) #[Zt,Zt,Zt,Zt,Zt,Zt,Zt,Zt,Zt,Zt,Zt,Zt,Zt,Zt,Zt,Zt,Zf,Zf,Zf,Zf,Zf,Zf,Zf] HT_ ?_ ?_
          rotate_left
          · simp only [Act.put, Xt, Xu, Xv, i64_w, i32_w]
            rfl
          refine pv (i := 16) (N := some 26) (a' := ?_) #[Zt,Zt,Zt,Zt,Zt,Zt,Zt,Zt,Zt,Zt,Zt,Zt,Zt,Zt,Zt,Zt,Zt,Zf,Zf,Zf,Zf,Zf,Zf] HT_ ?_ ?_
          rotate_left
          · simp only [Act.put, Xt, Xu, Xv, i64_w, i32_w]
            rfl
          refine pv (i := 17) (N := some 27) (a' := ?_) #[Zt,Zt,Zt,Zt,Zt,Zt,Zt,Zt,Zt,Zt,Zt,Zt,Zt,Zt,Zt,Zt,Zt,Zt,Zf,Zf,Zf,Zf,Zf] HT_ ?_ ?_
          rotate_left
          · simp only [Act.put, Xt, Xu, Xv, i64_w, i32_w]
            rfl
          refine pv (i := 18) (N := some 28) (a' := ?_) #[Zt,Zt,Zt,Zt,Zt,Zt,Zt,Zt,Zt,Zt,Zt,Zt,Zt,Zt,Zt,Zt,Zt,Zt,Zt,Zf,Zf,Zf,Zf] HT_ ?_ ?_
          rotate_left
          · simp only [Act.put, Xt, Xu, Xv, i64_w, i32_w]
            rfl
          refine pv (i := 19) (N := some 29) (a' := ?_) #[Zt,Zt,Zt,Zt,Zt,Zt,Zt,Zt,Zt,Zt,Zt,Zt,Zt,Zt,Zt,Zt,Zt,Zt,Zt,Zt,Zf,Zf,Zf] HT_ ?_ ?_
          rotate_left
          · simp only [Act.put, Xt, Xu, Xv, i64_w, i32_w]
            rfl
          refine pv (i := 20) (N := some 30) (a' := ?_) #[Zt,Zt,Zt,Zt,Zt,Zt,Zt,Zt,Zt,Zt,Zt,Zt,Zt,Zt,Zt,Zt,Zt,Zt,Zt,Zt,Zt,Zf,Zf] HT_ ?_ ?_
          rotate_left
          · simp only [Act.put, Xt, Xu, Xv, i64_w, i32_w]
            rfl
          refine pu (i := 21) (N := some 31) (v := ?_) (a' := ?_) #[Zt,Zt,Zt,Zt,Zt,Zt,Zt,Zt,Zt,Zt,Zt,Zt,Zt,Zt,Zt,Zt,Zt,Zt,Zt,Zt,Zt,Zt,Zf] HT_ ?_ ?_ ?_
          rotate_left
          · intro w'
            go_simp
            with_reducible rfl
          rotate_left
          · simp only [Act.put, Xt, Xu, Xv, i64_w, i32_w]
            rfl
          refine pu (i := 22) (N := some 32) (v := ?_) (a' := ?_) #[Zt,Zt,Zt,Zt,Zt,Zt,Zt,Zt,Zt,Zt,Zt,Zt,Zt,Zt,Zt,Zt,Zt,Zt,Zt,Zt,Zt,Zt,Zt] HT_ ?_ ?_ ?_
          rotate_left
          · intro w'
            go_simp
            with_reducible rfl
          rotate_left
          · simp only [Act.put, Xt, Xu, Xv, i64_w, i32_w]
            rfl
          refine done_ (done_of HT_.out (by kernel_rfl)) ?_
          try go_wp2
          go_meet
          case rel => exact ⟨_, (false), (by first | rfl | (simp; done) | (simp [*]; done)), H', ⟨by have := HK1.out; first | omega | exact Nat.le_refl _⟩, ⟨bl HB.out⟩⟩
        replace c6 := Bool.eq_false_iff.mpr c6
        subst c6
        have H1 : (payrollref34_Ordered.j1 k1 l0 x3_1 true) = some r := by rw [if_neg (show ¬ (false = true) by decide)] at H; exact H
        clear H
        have H := H1
        clear H1
        have H' := Qa H
        clear H
        try go_wp2
        have n0_ := Qa (Qf HB.out)
        clear HB
        have HB := n0_
        clear n0_
        have p314 : 0 ≤ (x3_1 : Int) := Xp (by assumption)
        have q314 : x3_1 < (l0.length : Int) := Xp (by assumption)
        obtain ⟨ad314, e314, hx314_0, hx314_1, hx314_2⟩ := at_T60 HR0.out x3_1 p314 q314
        have hw314_2 := hx314_2
        have hw314_1 := hx314_1
        have hw314_0 := hx314_0
        cases e314
        replace hx314_0 := (HB.out.cell (Xs w _ hx314_0)).trans hx314_0
        replace hx314_1 := (HB.out.cell (Xs w _ hx314_1)).trans hx314_1
        replace hx314_2 := (HB.out.cell (Xs w _ hx314_2)).trans hx314_2
        replace p314 := eq_true p314
        replace q314 := eq_true q314
        refine start_ (n := 23) (S := fun w' => w'.cell? (ad314.add ((x3_1).toNat * 3)) = some (.int .i64 ((rd_T60 l0 x3_1).f0)) ∧ w'.cell? ⟨(ad314.add ((x3_1).toNat * 3)).block, (ad314.add ((x3_1).toNat * 3)).off + 1, none⟩ = some (.string ((rd_T60 l0 x3_1).f1)) ∧ w'.cell? ⟨(ad314.add ((x3_1).toNat * 3)).block, (ad314.add ((x3_1).toNat * 3)).off + 2, none⟩ = some (.int .i64 ((rd_T60 l0 x3_1).f2))) (ds := []) #[Zf,Zf,Zf,Zf,Zf,Zf,Zf,Zf,Zf,Zf,Zf,Zf,Zf,Zf,Zf,Zf,Zf,Zf,Zf,Zf,Zf,Zf,Zf] (by kernel_rfl) rfl rfl ⟨((HB.out.cell (Xs w _ hw314_0)).trans hw314_0), ((HB.out.cell (Xs w _ hw314_1)).trans hw314_1), ((HB.out.cell (Xs w _ hw314_2)).trans hw314_2)⟩ (fun hHeld => ?_); refine with_tabW payrollref34_Ordered.tab4 payrollref34_Ordered.bits4 (fun HT_ HW_ => ?_)
        generalize wr.drew = w17 at HB hx314_0 hx314_1 hx314_2 hHeld ⊢
        refine pu (i := 0) (N := some 10) (v := ?_) (a' := ?_) #[Zt,Zf,Zf,Zf,Zf,Zf,Zf,Zf,Zf,Zf,Zf,Zf,Zf,Zf,Zf,Zf,Zf,Zf,Zf,Zf,Zf,Zf,Zf] HT_ ?_ ?_ ?_
        rotate_left
        · intro w'
          go_simp
          with_reducible rfl
        rotate_left
        · simp only [Act.put, Xt, Xu, Xv, i64_w, i32_w]
          rfl
        refine pu (i := 1) (N := some 11) (v := ?_) (a' := ?_) #[Zt,Zt,Zf,Zf,Zf,Zf,Zf,Zf,Zf,Zf,Zf,Zf,Zf,Zf,Zf,Zf,Zf,Zf,Zf,Zf,Zf,Zf,Zf] HT_ ?_ ?_ ?_
        rotate_left
        · intro w'
          go_simp
          with_reducible rfl
        rotate_left
        · simp only [Act.put, Xt, Xu, Xv, i64_w, i32_w]
          rfl
        refine pu (i := 2) (N := some 12) (v := ?_) (a' := ?_) #[Zt,Zt,Zt,Zf,Zf,Zf,Zf,Zf,Zf,Zf,Zf,Zf,Zf,Zf,Zf,Zf,Zf,Zf,Zf,Zf,Zf,Zf,Zf] HT_ ?_ ?_ ?_
        rotate_left
        · intro w'
          go_simp
          with_reducible rfl
        rotate_left
        · simp only [Act.put, Xt, Xu, Xv, i64_w, i32_w]
          rfl
        refine take_ (i := 3) (N := some 13) (v := ?_) (a' := ?_) #[Zt,Zt,Zt,Zt,Zf,Zf,Zf,Zf,Zf,Zf,Zf,Zf,Zf,Zf,Zf,Zf,Zf,Zf,Zf,Zf,Zf,Zf,Zf] rfl rfl (take_ofW HT_.out HW_.out (by kernel_rfl)) (fun _ _ _ h => h) (Or.inl ⟨by rfl, ?_⟩) hHeld ?_ ?_
        rotate_left
        · rintro w' ⟨s0, s1, s2⟩
          go_simp
          with_reducible rfl
        rotate_left
        · simp only [Act.put, Xt, Xu, Xv, i64_w, i32_w]
          rfl
        refine one_ (i := 4) (N := some 14) #[Zt,Zt,Zt,Zt,Zt,Zf,Zf,Zf,Zf,Zf,Zf,Zf,Zf,Zf,Zf,Zf,Zf,Zf,Zf,Zf,Zf,Zf,Zf] rfl rfl (one_of HT_.out (by kernel_rfl)) (by decide) (fun K hK => ?_)
        refine goes_ Tryz.func74 (by kernel_rfl) rfl #[.agg #[.int .i64 ((rd_T60 l0 x3_1).f0), .string ((rd_T60 l0 x3_1).f1), .int .i64 ((rd_T60 l0 x3_1).f2)]] (by rfl) rfl rfl (by (try simp only [List.map_toArray, List.map_cons, List.map_nil]); first | done | rfl | (simp only [List.length_drop, List.length_take]; rfl)) ?_
        with_reducible refine (payrollref34_Form.calls k1 ((rd_T60 l0 x3_1).f0) ((rd_T60 l0 x3_1).f1) ((rd_T60 l0 x3_1).f2) false _ A5.out).mono ?_
        rintro e w18 ⟨rfl, hb⟩
        refine ⟨_, rfl, ?_⟩
        have n0_ := Qa (Qh (bl HB.out) hb)
        clear HB
        have HB := n0_
        clear n0_
        (try clear hb)
        (try clear hb2)
        (try clear hk)
        (try clear hi)
        refine hK.out _ _ ⟨((HB.out.cell (Xs w _ hw314_0)).trans hw314_0), ((HB.out.cell (Xs w _ hw314_1)).trans hw314_1), ((HB.out.cell (Xs w _ hw314_2)).trans hw314_2)⟩ (fun hHeld => ?_)
        clear hK K
        refine norm_ (a' := ?_) ?_ ?_
        rotate_left
        · show Act.put _ (some 14) _ = _
          simp only [Act.put, Xt, Xu, Xv, i64_w, i32_w]
          rfl
        refine pu (i := 5) (N := some 15) (v := ?_) (a' := ?_) #[Zt,Zt,Zt,Zt,Zt,Zt,Zf,Zf,Zf,Zf,Zf,Zf,Zf,Zf,Zf,Zf,Zf,Zf,Zf,Zf,Zf,Zf,Zf] HT_ ?_ ?_ ?_
        rotate_left
        · intro w'
          go_simp
          with_reducible rfl
        rotate_left
        · simp only [Act.put, Xt, Xu, Xv, i64_w, i32_w]
          rfl
        refine pu (i := 6) (N := some 16) (v := ?_) (a' := ?_) #[Zt,Zt,Zt,Zt,Zt,Zt,Zt,Zf,Zf,Zf,Zf,Zf,Zf,Zf,Zf,Zf,Zf,Zf,Zf,Zf,Zf,Zf,Zf] HT_ ?_ ?_ ?_
        rotate_left
        · intro w'
          go_simp
          with_reducible rfl
        rotate_left
        · simp only [Act.put, Xt, Xu, Xv, i64_w, i32_w]
          rfl
        refine pv (i := 7) (N := some 17) (a' := ?_) #[Zt,Zt,Zt,Zt,Zt,Zt,Zt,Zt,Zf,Zf,Zf,Zf,Zf,Zf,Zf,Zf,Zf,Zf,Zf,Zf,Zf,Zf,Zf] HT_ ?_ ?_
        rotate_left
        · simp only [Act.put, Xt, Xu, Xv, i64_w, i32_w]
          rfl
        refine pv (i := 8) (N := some 18) (a' := ?_) #[Zt,Zt,Zt,Zt,Zt,Zt,Zt,Zt,Zt,Zf,Zf,Zf,Zf,Zf,Zf,Zf,Zf,Zf,Zf,Zf,Zf,Zf,Zf] HT_ ?_ ?_
        rotate_left
        · simp only [Act.put, Xt, Xu, Xv, i64_w, i32_w]
          rfl
        refine pv (i := 9) (N := some 19) (a' := ?_) #[Zt,Zt,Zt,Zt,Zt,Zt,Zt,Zt,Zt,Zt,Zf,Zf,Zf,Zf,Zf,Zf,Zf,Zf,Zf,Zf,Zf,Zf,Zf] HT_ ?_ ?_
        rotate_left
        · simp only [Act.put, Xt, Xu, Xv, i64_w, i32_w]
          rfl
        refine pv (i := 10) (N := some 20) (a' := ?_) #[Zt,Zt,Zt,Zt,Zt,Zt,Zt,Zt,Zt,Zt,Zt,Zf,Zf,Zf,Zf,Zf,Zf,Zf,Zf,Zf,Zf,Zf,Zf] HT_ ?_ ?_
        rotate_left
        · simp only [Act.put, Xt, Xu, Xv, i64_w, i32_w]
          rfl
        refine pv (i := 11) (N := some 21) (a' := ?_) #[Zt,Zt,Zt,Zt,Zt,Zt,Zt,Zt,Zt,Zt,Zt,Zt,Zf,Zf,Zf,Zf,Zf,Zf,Zf,Zf,Zf,Zf,Zf] HT_ ?_ ?_
        rotate_left
        · simp only [Act.put, Xt, Xu, Xv, i64_w, i32_w]
          rfl
        refine pv (i := 12) (N := some 22) (a' := ?_) #[Zt,Zt,Zt,Zt,Zt,Zt,Zt,Zt,Zt,Zt,Zt,Zt,Zt,Zf,Zf,Zf,Zf,Zf,Zf,Zf,Zf,Zf,Zf] HT_ ?_ ?_
        rotate_left
        · simp only [Act.put, Xt, Xu, Xv, i64_w, i32_w]
          rfl
        refine pv (i := 13) (N := some 23) (a' := ?_) #[Zt,Zt,Zt,Zt,Zt,Zt,Zt,Zt,Zt,Zt,Zt,Zt,Zt,Zt,Zf,Zf,Zf,Zf,Zf,Zf,Zf,Zf,Zf] HT_ ?_ ?_
        rotate_left
        · simp only [Act.put, Xt, Xu, Xv, i64_w, i32_w]
          rfl
        refine pv (i := 14) (N := some 24) (a' := ?_) #[Zt,Zt,Zt,Zt,Zt,Zt,Zt,Zt,Zt,Zt,Zt,Zt,Zt,Zt,Zt,Zf,Zf,Zf,Zf,Zf,Zf,Zf,Zf] HT_ ?_ ?_
        rotate_left
        · simp only [Act.put, Xt, Xu, Xv, i64_w, i32_w]
          rfl
        refine pv (i := 15) (N := some 25) (a' := ?_) #[Zt,Zt,Zt,Zt,Zt,Zt,Zt,Zt,Zt,Zt,Zt,Zt,Zt,Zt,Zt,Zt,Zf,Zf,Zf,Zf,Zf,Zf,Zf] HT_ ?_ ?_
        rotate_left
        · simp only [Act.put, Xt, Xu, Xv, i64_w, i32_w]
          rfl
        refine pv (i := 16) (N := some 26) (a' := ?_) #[Zt,Zt,Zt,Zt,Zt,Zt,Zt,Zt,Zt,Zt,Zt,Zt,Zt,Zt,Zt,Zt,Zt,Zf,Zf,Zf,Zf,Zf,Zf] HT_ ?_ ?_
        rotate_left
        · simp only [Act.put, Xt, Xu, Xv, i64_w, i32_w]
          rfl
        refine pv (i := 17) (N := some 27) (a' := ?_) #[Zt,Zt,Zt,Zt,Zt,Zt,Zt,Zt,Zt,Zt,Zt,Zt,Zt,Zt,Zt,Zt,Zt,Zt,Zf,Zf,Zf,Zf,Zf] HT_ ?_ ?_
        rotate_left
        · simp only [Act.put, Xt, Xu, Xv, i64_w, i32_w]
          rfl
        refine pv (i := 18) (N := some 28) (a' := ?_) #[Zt,Zt,Zt,Zt,Zt,Zt,Zt,Zt,Zt,Zt,Zt,Zt,Zt,Zt,Zt,Zt,Zt,Zt,Zt,Zf,Zf,Zf,Zf] HT_ ?_ ?_
        rotate_left
        · simp only [Act.put, Xt, Xu, Xv, i64_w, i32_w]
          rfl
        refine pv (i := 19) (N := some 29) (a' := ?_) #[Zt,Zt,Zt,Zt,Zt,Zt,Zt,Zt,Zt,Zt,Zt,Zt,Zt,Zt,Zt,Zt,Zt,Zt,Zt,Zt,Zf,Zf,Zf] HT_ ?_ ?_
        rotate_left
        · simp only [Act.put, Xt, Xu, Xv, i64_w, i32_w]
          rfl
        refine pv (i := 20) (N := some 30) (a' := ?_) #[Zt,Zt,Zt,Zt,Zt,Zt,Zt,Zt,Zt,Zt,Zt,Zt,Zt,Zt,Zt,Zt,Zt,Zt,Zt,Zt,Zt,Zf,Zf] HT_ ?_ ?_
        rotate_left
        · simp only [Act.put, Xt, Xu, Xv, i64_w, i32_w]
          rfl
        refine pv (i := 21) (N := some 31) (a' := ?_) #[Zt,Zt,Zt,Zt,Zt,Zt,Zt,Zt,Zt,Zt,Zt,Zt,Zt,Zt,Zt,Zt,Zt,Zt,Zt,Zt,Zt,Zt,Zf] HT_ ?_ ?_
        rotate_left
        · simp only [Act.put, Xt, Xu, Xv, i64_w, i32_w]
          rfl
        refine pu (i := 22) (N := some 32) (v := ?_) (a' := ?_) #[Zt,Zt,Zt,Zt,Zt,Zt,Zt,Zt,Zt,Zt,Zt,Zt,Zt,Zt,Zt,Zt,Zt,Zt,Zt,Zt,Zt,Zt,Zt] HT_ ?_ ?_ ?_
        rotate_left
        · intro w'
          go_simp
          with_reducible rfl
        rotate_left
        · simp only [Act.put, Xt, Xu, Xv, i64_w, i32_w]
          rfl
        refine done_ (done_of HT_.out (by kernel_rfl)) ?_
        try go_wp2
        go_meet
        case rel => exact ⟨_, (true), (by first | rfl | (simp; done) | (simp [*]; done)), H', ⟨by have := HK1.out; first | omega | exact Nat.le_refl _⟩, ⟨bl HB.out⟩⟩
      rw [if_neg c4] at H
      exact absurd H (by simp)
     case rest =>
      clear HC3
      try clear c1
      try clear p2
      try clear p3
      try clear q3
      try clear hx3
      try clear c4
      try clear c6
      try clear c7
      try clear c7b0
      try clear c8
      try clear c9
      try clear c10
      try clear hx314_0
      try clear hx314_1
      try clear hx314_2
      try clear hx316_0
      try clear hx316_1
      try clear hx316_2
      try clear hx317_0
      try clear hx317_1
      try clear hx317_2
      try clear p314
      try clear p316
      try clear p317
      try clear q314
      try clear q316
      try clear q317
      obtain ⟨kq, x32_2, rfl, HA, HJ2, HB⟩ := hcut
      cases kq with
      | zero => exact absurd HA.out (by simp [payrollref34_Ordered.j1])
      | succ kj2 =>
       have H := HA.out
       clear HA
       simp only [payrollref34_Ordered.j1] at H
       by_cases c19 : x32_2 = true
       · subst c19
         have H1 : (some false) = some r := by rw [if_pos rfl] at H; exact H
         clear H
         have H := H1
         clear H1
         obtain rfl := Xz H
         go_wp2
         go_ret
         exact ⟨by first | rfl | (simp [errW_none, errW_some] <;> rfl) | (simp [*, errW_none, errW_some] <;> rfl), bl HB.out⟩
       replace c19 := Bool.eq_false_iff.mpr c19
       subst c19
       have H1 : (payrollref34_Ordered.l0 kj2 l0 (wrap64 (x3_1 + 1))) = some r := by rw [if_neg (show ¬ (false = true) by decide)] at H; exact H
       clear H
       have H := H1
       clear H1
       have H' := Qa H
       clear H
       go_wp2
       go_roundg kj2
       case measure => have := HK1.out; have := HJ2.out; omega
       case rel => exact ⟨(wrap64 (x3_1 + 1)), (by first | rfl | (simp; done) | (simp [*]; done)), H', ⟨by have := HK1.out; have := HJ2.out; omega⟩, ⟨bl HB.out⟩⟩
   rw [if_neg c2] at H
   have c2b0 : decide (x3_1 < (l0.length : Int)) = false := Xr c2
   clear c2
   obtain rfl := Xz H
   go_wp2
   go_ret
   exact ⟨by first | rfl | (simp [errW_none, errW_some] <;> rfl) | (simp [*, errW_none, errW_some] <;> rfl), bl HB.out⟩
def payrollref38_Filed.f (a0 : Int) : Option (Bool) := if a0 = 4 then (some true) else (if a0 = 5 then (some true) else (some (a0 == 6)))
theorem payrollref38_Filed.calls (a0 : Int) (r : Bool) (w : World) (h : payrollref38_Filed.f a0 = some r) :
 Calls Tryz.prog 69 #[.int .i64 a0] w fun e w' => e = .returned (.bool r) ∧ Drawn0 w w' := by
 have H : (if a0 = 4 then (some true) else (if a0 = 5 then (some true) else (some (a0 == 6)))) = some r := h
 clear h
 by_cases c2 : a0 = 4
 · rw [if_pos c2] at H
   have c2b0 : (a0 == 4) = true := Yb.mpr c2
   have c2b1 : (a0 != 4) = false := bne_eq_false_iff_eq.mpr c2
   clear c2
   obtain rfl := Xz H
   go_enter Tryz.func69, Tryz.ntmps69
   go_wp2
   go_ret
   exact ⟨by first | rfl | (simp; done) | (simp [*]; done), by repeat (first | exact Drawn0.refl _ | apply Drawn0.step)⟩
 rw [if_neg c2] at H
 have c2b0 : (a0 == 4) = false := Ya.mpr c2
 have c2b1 : (a0 != 4) = true := Yc.mpr c2
 by_cases c3 : a0 = 5
 · rw [if_pos c3] at H
   have c3b0 : (a0 == 5) = true := Yb.mpr c3
   have c3b1 : (a0 != 5) = false := bne_eq_false_iff_eq.mpr c3
   clear c3
   obtain rfl := Xz H
   go_enter Tryz.func69, Tryz.ntmps69
   go_wp2
   go_ret
   exact ⟨by first | rfl | (simp; done) | (simp [*]; done), by repeat (first | exact Drawn0.refl _ | apply Drawn0.step)⟩
 rw [if_neg c3] at H
 have c3b0 : (a0 == 5) = false := Ya.mpr c3
 have c3b1 : (a0 != 5) = true := Yc.mpr c3
 obtain rfl := Xz H
 go_enter Tryz.func69, Tryz.ntmps69
 go_wp2
 go_ret
 exact ⟨by first | rfl | (simp; done) | (simp [*]; done), by repeat (first | exact Drawn0.refl _ | apply Drawn0.step)⟩
end Go.Proofs.YtejgfblphgcgkaaGreatDoor.P
