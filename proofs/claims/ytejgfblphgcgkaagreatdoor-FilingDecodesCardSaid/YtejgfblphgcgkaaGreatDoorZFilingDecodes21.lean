/- Texts for the law FilingDecodes (kept out of a larger one). -/
import Derived.Test.YtejgfblphgcgkaaGreatDoorZFilingDecodes18
import Derived.Test.YtejgfblphgcgkaaGreatDoorZFilingDecodes20
namespace Go.Proofs.YtejgfblphgcgkaaGreatDoor.P
open Go.RowKit Go.Proofs.YtejgfblphgcgkaaGreatDoorW.PrintWords Go.Proofs.YtejgfblphgcgkaaGreatDoorW.PrintLast Go.Proofs.YtejgfblphgcgkaaGreatDoorW.PrintMore
attribute [local go_sem] max2_int min2_int max_two min_two max_three min_three max_four min_four   -- for this text's walks alone
set_option linter.unusedVariables false
set_option linter.unusedSimpArgs false
mutual
def payrollref43_Decode.j0 : Nat → List Zb → Bool → Option (Int × Int × (List (S60)) × Int)
 | 0, _, _ => none
 | k + 1, x4, x39 => if x39 = true then (some (0,0, ([] : List (S60)), 6)) else (if 0 < (x4.length : Int) then ((payrollref34_Words.f k (rdOf ByteArray.empty x4 0)).bind fun t428 => (if (t428.length : Int) = 4 then (if 0 < (t428.length : Int) then (if (rdOf ByteArray.empty t428 0).toList = ([114,101,116,117,114,110] : List UInt8) then (if 2 < (t428.length : Int) then (payrollref43_Decode.j1 k x4 t428 ((rdOf ByteArray.empty t428 2).toList != ([118,101,114,115,105,111,110] : List UInt8))) else (none)) else (payrollref43_Decode.j1 k x4 t428 true)) else (none)) else (payrollref43_Decode.j1 k x4 t428 true))) else (none))
def payrollref43_Decode.j1 : Nat → List Zb → List Zb → Bool → Option (Int × Int × (List (S60)) × Int)
 | 0, _, _, _ => none
 | k + 1, x4, x6, x59 => if x59 = true then (some (0,0, ([] : List (S60)), 6)) else (if 1 < (x6.length : Int) then ((payrollref34_Number.f k (rdOf ByteArray.empty x6 1)).bind fun bt434 => (if 3 < (x6.length : Int) then ((payrollref34_Number.f k (rdOf ByteArray.empty x6 3)).bind fun bt437 => (payrollref43_Decode.l0 k x4 bt434.2 bt437.2 1 bt434.1 bt437.1 ([] : List (S60)))) else (none))) else (none))
def payrollref43_Decode.l0 : Nat → List Zb → Bool → Bool → Int → Int → Int → List (S60) → Option (Int × Int × (List (S60)) × Int)
 | 0, _, _, _, _, _, _, _ => none
 | k + 1, x4, x8, x10, x12, x440000, x440001, x440002 => if x12 < (wrap64 ((x4.length : Int) - 1)) then (if 0 ≤ x12 then (if x12 < (x4.length : Int) then ((payrollref34_Words.f k (rdOf ByteArray.empty x4 x12)).bind fun t441 => ((payrollref34_Line.f k t441).bind fun bt444 => (if bt444.2.2.2 = true then (if x440002.length < 4398046511104 then (payrollref43_Decode.l0 k x4 x8 x10 (wrap64 (x12 + 1)) x440000 x440001 (x440002 ++ [(⟨bt444.1, bt444.2.1, bt444.2.2.1⟩ : S60)])) else (none)) else (some (0,0, ([] : List (S60)), 6))))) else (none)) else (none)) else (if x8 = true then (if x10 = true then ((payrollref43_Valid.f k x440000 x440001 x440002).bind fun t452 => (payrollref43_Decode.j3 k (!t452) x440000 x440001 x440002)) else (payrollref43_Decode.j3 k true x440000 x440001 x440002)) else (payrollref43_Decode.j3 k true x440000 x440001 x440002))
def payrollref43_Decode.j3 : Nat → Bool → Int → Int → List (S60) → Option (Int × Int × (List (S60)) × Int)
 | 0, _, _, _, _ => none
 | k + 1, x113, x440000, x440001, x440002 => if x113 = true then (some (0,0, ([] : List (S60)), 6)) else (some (x440000, x440001, x440002,0))
end
def payrollref43_Decode.f (k : Nat) (a0 : Zb) : Option (Int × Int × (List (S60)) × Int) := if (a0.size : Int) > 65536 then (some (0,0, ([] : List (S60)), 3)) else ((payrollref34_Lines.f k a0).bind fun bt422 => (if bt422.2 = true then (if (bt422.1.length : Int) < 2 then (payrollref43_Decode.j0 k bt422.1 true) else (if 0 ≤ (wrap64 ((bt422.1.length : Int) - 1)) then (if (wrap64 ((bt422.1.length : Int) - 1)) < (bt422.1.length : Int) then (payrollref43_Decode.j0 k bt422.1 ((rdOf ByteArray.empty bt422.1 (wrap64 ((bt422.1.length : Int) - 1))).toList != ([101,110,100] : List UInt8))) else (none)) else (none))) else (payrollref43_Decode.j0 k bt422.1 true)))
set_option maxHeartbeats 8000000 in
set_option maxRecDepth 100000 in
theorem payrollref43_Decode.calls (k : Nat) (a0 : Zb) (r1 : Int) (r2 : Int) (r3 : List (S60)) (r4 : Int) (w : World) (h : payrollref43_Decode.f k a0 = some (r1, r2, r3, r4)) :
 Calls Tryz.prog 20 #[.string a0] w fun e w' => ∃ v2_ : Value, e = .returned (.tuple #[.agg #[.int .i64 r1, .int .i64 r2, v2_], .int .i64 r4]) ∧ Kd.R k60 60 w' w.heap.size (fun _ => True) v2_ r3 ∧ Below w.heap.size w w' := by
 have hu25 := Tryz.underlying25
 have hu60 := Tryz.underlying60
 have HB := Qa (Below.refl w.heap.size w)
 have H : (if (a0.size : Int) > 65536 then (some (0,0, ([] : List (S60)), 3)) else ((payrollref34_Lines.f k a0).bind fun bt422 => (if bt422.2 = true then (if (bt422.1.length : Int) < 2 then (payrollref43_Decode.j0 k bt422.1 true) else (if 0 ≤ (wrap64 ((bt422.1.length : Int) - 1)) then (if (wrap64 ((bt422.1.length : Int) - 1)) < (bt422.1.length : Int) then (payrollref43_Decode.j0 k bt422.1 ((rdOf ByteArray.empty bt422.1 (wrap64 ((bt422.1.length : Int) - 1))).toList != ([101,110,100] : List UInt8))) else (none)) else (none))) else (payrollref43_Decode.j0 k bt422.1 true)))) = some (r1, r2, r3, r4) := h
 clear h
 by_cases c2 : (a0.size : Int) > 65536
 · rw [if_pos c2] at H
   have c2b0 : decide (65536 < (a0.size : Int)) = true := Xq c2
   have c2b1 : decide (65536 < a0.size) = true := Xq (by omega)
   clear c2
   simp only [Option.some.injEq, Prod.mk.injEq] at H
   obtain ⟨rfl, rfl, rfl, rfl⟩ := H
   go_enter Tryz.func20, Tryz.ntmps20
   go_wp2_with (first | ((with_reducible refine Qx (N := 2) rfl ?_); (try (refine gate_guard (by rfl) ?_; dsimp only)); refine Qv ?hg (N := 2) ?hd (cs := #[.int .i64 0, .int .i64 0, .slice none 0 0]) (t := 25) ?hr ?_; (case hd => rfl); (case hg => rfl); (case hr => first | (go_simp; done) | (go_simp; rfl)); intro gb421 hg w3 hbox hb; have n0_ := Qa (Qh (bl HB.out) hb); have n1_ := Qa (hbox); have n2_ := Qa ((by rw [hg]; exact (Qi (bl HB.out)) : w.heap.size ≤ gb421)); have n3_ := Qa ((by rw [hg]; exact (Qi (bl HB.out)) : w.heap.size ≤ gb421)); clear HB; have HB := n0_; have BK421 := n1_; have GW421 := n2_; have GE421 := n3_; clear n0_ n1_ n2_ n3_; clear hb hbox hg; have hcz4_0 := hz BK421.out 0; have hcz4_1 := hz BK421.out 1; have hcz4_2 := hz BK421.out 2; have hfz4_0 := Qm BK421.out 0; have hfz4_1 := Qm BK421.out 1; have hfz4_2 := Qm BK421.out 2))
   refine Qz (Xa rfl _ _ gb421 25 #[.int .i64 0, .int .i64 0, .slice none 0 0] (0,0) _ rfl (by (with_reducible repeat (first | refine Qj ?_ _ | refine Qk ?_ | refine Ql ?_ _)); refine Qo (cs := #[.int .i64 0, .int .i64 0, .slice none 0 0]) ?_ 2 _ rfl; (with_reducible repeat (first | refine Qj ?_ _ | refine Qk ?_ | refine Ql ?_ _)); refine Qo (cs := #[.int .i64 0, .int .i64 0, .slice none 0 0]) ?_ 1 _ rfl; (with_reducible repeat (first | refine Qj ?_ _ | refine Qk ?_ | refine Ql ?_ _)); refine Qo (cs := #[.int .i64 0, .int .i64 0, .slice none 0 0]) ?_ 0 _ rfl; (with_reducible repeat (first | refine Qj ?_ _ | refine Qk ?_ | refine Ql ?_ _)); exact BK421.out) Tryz.underlying25 rfl (by kernel_rfl)) rfl ?_
   exact ⟨_, by first | rfl | (simp [errW_none, errW_some] <;> rfl) | (simp [*, errW_none, errW_some] <;> rfl), by first | exact Kd.R_nil _ _ _ _ _ | exact Kd.N_nil _ _ _ _ _ | exact Kd.V_nil _ _ _ _ _ | exact Kd.Q_nil _ _ _ _ _ | exact Kd.S_nil _ _ _ _ _, bl HB.out⟩
 rw [if_neg c2] at H
 have c2b0 : decide (65536 < (a0.size : Int)) = false := Xr c2
 have c2b1 : decide (65536 < a0.size) = false := Xr (by omega)
 clear c2
 replace H := Xx.mp H
 obtain ⟨⟨t422, t423⟩, A50, H⟩ := H
 replace H : (if t423 = true then (if (t422.length : Int) < 2 then (payrollref43_Decode.j0 k t422 true) else (if 0 ≤ (wrap64 ((t422.length : Int) - 1)) then (if (wrap64 ((t422.length : Int) - 1)) < (t422.length : Int) then (payrollref43_Decode.j0 k t422 ((rdOf ByteArray.empty t422 (wrap64 ((t422.length : Int) - 1))).toList != ([101,110,100] : List UInt8))) else (none)) else (none))) else (payrollref43_Decode.j0 k t422 true)) = some (r1, r2, r3, r4) := H
 have A5 := Qa A50
 clear A50
 have HC6 := Qa H
 clear H
 go_enter Tryz.func20, Tryz.ntmps20
 go_upto_region 4 with (first | ((with_reducible refine Qx (N := 2) rfl ?_); (try (refine gate_guard (by rfl) ?_; dsimp only)); refine Qv ?hg (N := 2) ?hd (cs := #[.int .i64 0, .int .i64 0, .slice none 0 0]) (t := 25) ?hr ?_; (case hd => rfl); (case hg => rfl); (case hr => first | (go_simp; done) | (go_simp; rfl)); intro gb421 hg w7 hbox hb; have n0_ := Qa (Qh (bl HB.out) hb); have n1_ := Qa (hbox); have n2_ := Qa ((by rw [hg]; exact (Qi (bl HB.out)) : w.heap.size ≤ gb421)); have n3_ := Qa ((by rw [hg]; exact (Qi (bl HB.out)) : w.heap.size ≤ gb421)); clear HB; have HB := n0_; have BK421 := n1_; have GW421 := n2_; have GE421 := n3_; clear n0_ n1_ n2_ n3_; clear hb hbox hg) | ((with_reducible refine Qw (f := 47) rfl ?_); refine gc (some 21) Tryz.func47 #[.string a0] ?_; (with_reducible refine (payrollref34_Lines.calls k a0 t422 t423 _ A5.out).mono ?_); rintro e w8 ⟨v424, rfl, ho0, hb⟩; refine ⟨_, rfl, ?_⟩; have n0_ := Qa (Kd.R_lower ho0 (Qi (bl HB.out))); have n1_ := Qa (Qb (nc BK421.out) hb); have n2_ := Qa (Qh (bl HB.out) hb); clear BK421 HB; have HO425 := n0_; have BK421 := n1_; have HB := n2_; clear n0_ n1_ n2_; (try clear hb); (try clear ho0)))
 (try simp only [Act.put, Xt, Xu, Xv])
 go_cut [39] (fun v39 wc => ∃ (kq : Nat) (x39_5 : Bool), v39 = .bool x39_5 ∧ Aside0 (payrollref43_Decode.j0 kq t422 x39_5 = some (r1, r2, r3, r4)) ∧ Aside0 (kq ≤ k) ∧ Aside0 (Kd.R Kd.string 9 wc w.heap.size (fun _ => True) v424 t422) ∧ Aside0 (wc.heap[gb421]? = some (.cells #[.int .i64 0, .int .i64 0, (.slice none 0 0)] 25 (0,0))) ∧ Aside0 (Below w.heap.size w wc))
 case first =>
  have H := HC6.out
  clear HC6
  by_cases c9 : t423 = true
  · subst c9
    have H1 : (if (t422.length : Int) < 2 then (payrollref43_Decode.j0 k t422 true) else (if 0 ≤ (wrap64 ((t422.length : Int) - 1)) then (if (wrap64 ((t422.length : Int) - 1)) < (t422.length : Int) then (payrollref43_Decode.j0 k t422 ((rdOf ByteArray.empty t422 (wrap64 ((t422.length : Int) - 1))).toList != ([101,110,100] : List UInt8))) else (none)) else (none))) = some (r1, r2, r3, r4) := by rw [if_pos rfl] at H; exact H
    clear H
    have H := H1
    clear H1
    by_cases c10 : (t422.length : Int) < 2
    · rw [if_pos c10] at H
      have c10b0 : decide ((t422.length : Int) < 2) = true := Xq c10
      have c10b1 : decide (t422.length < 2) = true := Xq (by omega)
      clear c10
      (first | rw [c10b0] | (simp only [i64_w, i32_w]; rw [c10b0]) | skip)
      have H' := Qa H
      clear H
      obtain ⟨Ao11, co11, eo11⟩ := Xk HO425.out
      subst eo11
      go_wp2
      go_meet
      case rel => exact ⟨_, (true), (by first | rfl | (simp; done) | (simp [*]; done)), H', ⟨by first | omega | exact Nat.le_refl _⟩, ⟨kr HO425.out⟩, ⟨nc BK421.out⟩, ⟨bl HB.out⟩⟩
    rw [if_neg c10] at H
    have c10b0 : decide ((t422.length : Int) < 2) = false := Xr c10
    have c10b1 : decide (t422.length < 2) = false := Xr (by omega)
    clear c10
    (first | rw [c10b0] | (simp only [i64_w, i32_w]; rw [c10b0]) | skip)
    obtain ⟨ji12, hji12⟩ : ∃ j_ : Int, (wrap64 ((t422.length : Int) - 1)) = j_ := ⟨_, rfl⟩
    replace H : (if 0 ≤ (ji12) then (if (ji12) < (t422.length : Int) then (payrollref43_Decode.j0 k t422 ((rdOf ByteArray.empty t422 (ji12)).toList != ([101,110,100] : List UInt8))) else (none)) else (none)) = some (r1, r2, r3, r4) := by first | (rw [hji12] at H; exact H) | (simp only [hji12] at H ⊢; exact H)
    have hji12w : (IntKind.i64.wrap ((t422.length : Int) - 1)) = ji12 := (i64_w _).trans hji12
    by_cases c13 : 0 ≤ (ji12)
    · rw [if_pos c13] at H
      have c13b0 : decide (0 ≤ (ji12)) = true := Xq c13
      clear c13
      by_cases c14 : (ji12) < (t422.length : Int)
      · rw [if_pos c14] at H
        have c14b0 : decide ((ji12) < (t422.length : Int)) = true := Xq c14
        clear c14
        have H' := Qa H
        clear H
        obtain ⟨Ao15, co15, eo15⟩ := Xk HO425.out
        subst eo15
        have p426 : 0 ≤ ((ji12) : Int) := Xp (by assumption)
        have q426 : (ji12) < (t422.length : Int) := Xp (by assumption)
        obtain ⟨ad426, e426, hx426_0⟩ := Kd.at_string (Xb HO425.out).2.2 (ji12) p426 q426
        cases e426
        replace p426 := eq_true p426
        replace q426 := eq_true q426
        go_wp2
        go_meet
        case rel => exact ⟨_, (((rdOf ByteArray.empty t422 (ji12)).toList != ([101,110,100] : List UInt8))), (by first | rfl | (simp; done) | (simp only [← hji12] <;> (first | rfl | simp)) | (simp [*]; done)), H', ⟨by first | omega | exact Nat.le_refl _⟩, ⟨kr HO425.out⟩, ⟨nc BK421.out⟩, ⟨bl HB.out⟩⟩
      rw [if_neg c14] at H
      exact absurd H (by simp)
    rw [if_neg c13] at H
    exact absurd H (by simp)
  replace c9 := Bool.eq_false_iff.mpr c9
  subst c9
  have H1 : (payrollref43_Decode.j0 k t422 true) = some (r1, r2, r3, r4) := by rw [if_neg (show ¬ (false = true) by decide)] at H; exact H
  clear H
  have H := H1
  clear H1
  have H' := Qa H
  clear H
  go_wp2
  go_meet
  case rel => exact ⟨_, (true), (by first | rfl | (simp; done) | (simp [*]; done)), H', ⟨by first | omega | exact Nat.le_refl _⟩, ⟨kr HO425.out⟩, ⟨nc BK421.out⟩, ⟨bl HB.out⟩⟩
 case rest =>
  clear HC6
  try clear c1
  try clear c2
  try clear c2b0
  try clear c2b1
  try clear p2
  try clear c4
  try clear p4
  try clear q4
  try clear hx4
  try clear p6
  try clear c9
  try clear c10
  try clear c10b0
  try clear c10b1
  try clear c13
  try clear c13b0
  try clear c14
  try clear c14b0
  try clear hcz4_0
  try clear hcz4_1
  try clear hcz4_2
  try clear hfz4_0
  try clear hfz4_1
  try clear hfz4_2
  try clear hx426_0
  try clear p426
  try clear q426
  obtain ⟨kq, x39_5, rfl, HA, HJ5, HO_4, BK421, HB⟩ := hcut
  cases kq with
  | zero => exact absurd HA.out (by simp [payrollref43_Decode.j0])
  | succ kj5 =>
   have H := HA.out
   clear HA
   simp only [payrollref43_Decode.j0] at H
   by_cases c16 : x39_5 = true
   · subst c16
     have H1 : (some (0,0, ([] : List (S60)), 6)) = some (r1, r2, r3, r4) := by rw [if_pos rfl] at H; exact H
     clear H
     have H := H1
     clear H1
     simp only [Option.some.injEq, Prod.mk.injEq] at H
     obtain ⟨rfl, rfl, rfl, rfl⟩ := H
     have hcz17_0 := hz BK421.out 0
     have hcz17_1 := hz BK421.out 1
     have hcz17_2 := hz BK421.out 2
     have hfz17_0 := Qm BK421.out 0
     have hfz17_1 := Qm BK421.out 1
     have hfz17_2 := Qm BK421.out 2
     go_wp2
     refine Qz (Xa rfl _ _ gb421 25 #[.int .i64 0, .int .i64 0, .slice none 0 0] (0,0) _ rfl (by (with_reducible repeat (first | refine Qj ?_ _ | refine Qk ?_ | refine Ql ?_ _)); refine Qo (cs := #[.int .i64 0, .int .i64 0, .slice none 0 0]) ?_ 2 _ rfl; (with_reducible repeat (first | refine Qj ?_ _ | refine Qk ?_ | refine Ql ?_ _)); refine Qo (cs := #[.int .i64 0, .int .i64 0, .slice none 0 0]) ?_ 1 _ rfl; (with_reducible repeat (first | refine Qj ?_ _ | refine Qk ?_ | refine Ql ?_ _)); refine Qo (cs := #[.int .i64 0, .int .i64 0, .slice none 0 0]) ?_ 0 _ rfl; (with_reducible repeat (first | refine Qj ?_ _ | refine Qk ?_ | refine Ql ?_ _)); exact BK421.out) Tryz.underlying25 rfl (by kernel_rfl)) rfl ?_
     exact ⟨_, by first | rfl | (simp [errW_none, errW_some] <;> rfl) | (simp [*, errW_none, errW_some] <;> rfl), by first | exact Kd.R_nil _ _ _ _ _ | exact Kd.N_nil _ _ _ _ _ | exact Kd.V_nil _ _ _ _ _ | exact Kd.Q_nil _ _ _ _ _ | exact Kd.S_nil _ _ _ _ _, bl HB.out⟩
   replace c16 := Bool.eq_false_iff.mpr c16
   subst c16
   have H1 : (if 0 < (t422.length : Int) then ((payrollref34_Words.f kj5 (rdOf ByteArray.empty t422 0)).bind fun t428 => (if (t428.length : Int) = 4 then (if 0 < (t428.length : Int) then (if (rdOf ByteArray.empty t428 0).toList = ([114,101,116,117,114,110] : List UInt8) then (if 2 < (t428.length : Int) then (payrollref43_Decode.j1 kj5 t422 t428 ((rdOf ByteArray.empty t428 2).toList != ([118,101,114,115,105,111,110] : List UInt8))) else (none)) else (payrollref43_Decode.j1 kj5 t422 t428 true)) else (none)) else (payrollref43_Decode.j1 kj5 t422 t428 true))) else (none)) = some (r1, r2, r3, r4) := by rw [if_neg (show ¬ (false = true) by decide)] at H; exact H
   clear H
   have H := H1
   clear H1
   by_cases c18 : 0 < (t422.length : Int)
   · rw [if_pos c18] at H
     have c18b0 : decide (0 < (t422.length : Int)) = true := Xq c18
     have c18b1 : decide (0 < t422.length) = true := Xq (by omega)
     clear c18
     replace H := Xx.mp H
     obtain ⟨t428, A190, H⟩ := H
     replace H : (if (t428.length : Int) = 4 then (if 0 < (t428.length : Int) then (if (rdOf ByteArray.empty t428 0).toList = ([114,101,116,117,114,110] : List UInt8) then (if 2 < (t428.length : Int) then (payrollref43_Decode.j1 kj5 t422 t428 ((rdOf ByteArray.empty t428 2).toList != ([118,101,114,115,105,111,110] : List UInt8))) else (none)) else (payrollref43_Decode.j1 kj5 t422 t428 true)) else (none)) else (payrollref43_Decode.j1 kj5 t422 t428 true)) = some (r1, r2, r3, r4) := H
     have A19 := Qa A190
     clear A190
     have HC20 := Qa H
     clear H
     obtain ⟨Ao21, co21, eo21⟩ := Xk HO_4.out
     subst eo21
     have p427 : 0 ≤ (0 : Int) := (by omega)
     have q427 : 0 < (t422.length : Int) := Xp (by assumption)
     obtain ⟨ad427, e427, hx427_0⟩ := Kd.at_string (Xb HO_4.out).2.2 0 p427 q427
     cases e427
     have qi427 : (0 < t422.length) = True := eq_true (by omega)
     (try rw [show ((0 : Int)).toNat = 0 from rfl] at hx427_0)
     (try rw [Addr.add_zero'] at hx427_0)
     replace p427 := eq_true p427
     replace q427 := eq_true q427
     go_upto_region 7 with (first | ((with_reducible refine Qw (f := 48) rfl ?_); refine gc (some 44) Tryz.func48 #[.string (rdOf ByteArray.empty t422 0)] ?_; (with_reducible refine (payrollref34_Words.calls kj5 (rdOf ByteArray.empty t422 0) t428 _ A19.out).mono ?_); rintro e w22 ⟨v429, rfl, ho0, hb⟩; refine ⟨_, rfl, ?_⟩; have n0_ := Qa (Kd.R_elder' (kr HO_4.out) (Kd.R_base ho0) hb); have n1_ := Qa (Kd.R_lower (Kd.R_new' ho0 (Kd.R_lt (kr HO_4.out))) (Qi (bl HB.out))); have n2_ := Qa (Qb (nc BK421.out) hb); have n3_ := Qa (Qh (bl HB.out) hb); clear HO_4 BK421 HB; have HO_4 := n0_; have HO430 := n1_; have BK421 := n2_; have HB := n3_; clear n0_ n1_ n2_ n3_; (try clear hb); (try clear ho0)))
     (try simp only [Act.put, Xt, Xu, Xv])
     go_cut [59] (fun v59 wc => ∃ (kq : Nat) (x59_19 : Bool), v59 = .bool x59_19 ∧ Aside0 (payrollref43_Decode.j1 kq t422 t428 x59_19 = some (r1, r2, r3, r4)) ∧ Aside0 (kq ≤ kj5) ∧ Aside0 (Kd.R Kd.string 9 wc w.heap.size (fun k_ => some k_ ≠ (v429 : Value).ownBlock) (.slice (some ad427) t422.length co21) t422) ∧ Aside0 (Kd.R Kd.string 9 wc w.heap.size (fun k_ => some k_ ≠ ((.slice (some ad427) t422.length co21) : Value).ownBlock) v429 t428) ∧ Aside0 (wc.heap[gb421]? = some (.cells #[.int .i64 0, .int .i64 0, (.slice none 0 0)] 25 (0,0))) ∧ Aside0 (Below w.heap.size w wc))
     case first =>
      have H := HC20.out
      clear HC20
      by_cases c23 : (t428.length : Int) = 4
      · rw [if_pos c23] at H
        have c23b0 : ((t428.length : Int) == 4) = true := Yb.mpr c23
        have c23b1 : ((t428.length : Int) != 4) = false := bne_eq_false_iff_eq.mpr c23
        clear c23
        (first | rw [c23b0] | (simp only [i64_w, i32_w]; rw [c23b0]) | skip)
        by_cases c24 : 0 < (t428.length : Int)
        · rw [if_pos c24] at H
          have c24b0 : decide (0 < (t428.length : Int)) = true := Xq c24
          have c24b1 : decide (0 < t428.length) = true := Xq (by omega)
          clear c24
          by_cases c25 : (rdOf ByteArray.empty t428 0).toList = ([114,101,116,117,114,110] : List UInt8)
          · rw [if_pos c25] at H
            have c25b0 : ((rdOf ByteArray.empty t428 0).toList == ([114,101,116,117,114,110] : List UInt8)) = true := Yb.mpr c25
            have c25b1 : ((rdOf ByteArray.empty t428 0).toList != ([114,101,116,117,114,110] : List UInt8)) = false := bne_eq_false_iff_eq.mpr c25
            clear c25
            by_cases c26 : 2 < (t428.length : Int)
            · rw [if_pos c26] at H
              have c26b0 : decide (2 < (t428.length : Int)) = true := Xq c26
              have c26b1 : decide (2 < t428.length) = true := Xq (by omega)
              clear c26
              have H' := Qa H
              clear H
              obtain ⟨Ao27, co27, eo27⟩ := Xk HO430.out
              subst eo27
              have p431 : 0 ≤ (0 : Int) := (by omega)
              have q431 : 0 < (t428.length : Int) := Xp (by assumption)
              obtain ⟨ad431, e431, hx431_0⟩ := Kd.at_string (Xb HO430.out).2.2 0 p431 q431
              cases e431
              have qi431 : (0 < t428.length) = True := eq_true (by omega)
              (try rw [show ((0 : Int)).toNat = 0 from rfl] at hx431_0)
              (try rw [Addr.add_zero'] at hx431_0)
              replace p431 := eq_true p431
              replace q431 := eq_true q431
              have p432 : 0 ≤ (2 : Int) := (by omega)
              have q432 : 2 < (t428.length : Int) := Xp (by assumption)
              obtain ⟨ad432, e432, hx432_0⟩ := Kd.at_string (Xb HO430.out).2.2 2 p432 q432
              obtain rfl : ad431 = ad432 := (by injection e432)
              (try simp only [show (2 : Int).toNat = 2 from rfl, Nat.reduceMul, Nat.reduceEqDiff, Go.Addr.add, ↓reduceIte] at hx432_0)
              have qi432 : (2 < t428.length) = True := eq_true (by omega)
              (try rw [show ((2 : Int)).toNat = 2 from rfl] at hx432_0)
              replace p432 := eq_true p432
              replace q432 := eq_true q432
              go_wp2
              go_meet
              case rel => exact ⟨_, (((rdOf ByteArray.empty t428 2).toList != ([118,101,114,115,105,111,110] : List UInt8))), (by first | rfl | (simp; done) | (simp [*]; done)), H', ⟨by have := HJ5.out; first | omega | exact Nat.le_refl _⟩, ⟨by (with_reducible repeat (first | apply Xc | apply Xd | apply Xe)); exact Xf HO_4.out (fun _ hk => hk.2)⟩, ⟨by (with_reducible repeat (first | apply Xc | apply Xd | apply Xe)); exact Xf HO430.out (fun _ hk => hk.2)⟩, ⟨nc BK421.out⟩, ⟨bl HB.out⟩⟩
            rw [if_neg c26] at H
            exact absurd H (by simp)
          rw [if_neg c25] at H
          have c25b0 : ((rdOf ByteArray.empty t428 0).toList == ([114,101,116,117,114,110] : List UInt8)) = false := Ya.mpr c25
          have c25b1 : ((rdOf ByteArray.empty t428 0).toList != ([114,101,116,117,114,110] : List UInt8)) = true := Yc.mpr c25
          have H' := Qa H
          clear H
          obtain ⟨Ao28, co28, eo28⟩ := Xk HO430.out
          subst eo28
          have p431 : 0 ≤ (0 : Int) := (by omega)
          have q431 : 0 < (t428.length : Int) := Xp (by assumption)
          obtain ⟨ad431, e431, hx431_0⟩ := Kd.at_string (Xb HO430.out).2.2 0 p431 q431
          cases e431
          have qi431 : (0 < t428.length) = True := eq_true (by omega)
          (try rw [show ((0 : Int)).toNat = 0 from rfl] at hx431_0)
          (try rw [Addr.add_zero'] at hx431_0)
          replace p431 := eq_true p431
          replace q431 := eq_true q431
          go_wp2
          go_meet
          case rel => exact ⟨_, (true), (by first | rfl | (simp; done) | (simp [*]; done)), H', ⟨by have := HJ5.out; first | omega | exact Nat.le_refl _⟩, ⟨by (with_reducible repeat (first | apply Xc | apply Xd | apply Xe)); exact Xf HO_4.out (fun _ hk => hk.2)⟩, ⟨by (with_reducible repeat (first | apply Xc | apply Xd | apply Xe)); exact Xf HO430.out (fun _ hk => hk.2)⟩, ⟨nc BK421.out⟩, ⟨bl HB.out⟩⟩
        rw [if_neg c24] at H
        exact absurd H (by simp)
      rw [if_neg c23] at H
      have c23b0 : ((t428.length : Int) == 4) = false := Ya.mpr c23
      have c23b1 : ((t428.length : Int) != 4) = true := Yc.mpr c23
      (first | rw [c23b0] | (simp only [i64_w, i32_w]; rw [c23b0]) | skip)
      have H' := Qa H
      clear H
      obtain ⟨Ao29, co29, eo29⟩ := Xk HO430.out
      subst eo29
      go_wp2
      go_meet
      case rel => exact ⟨_, (true), (by first | rfl | (simp; done) | (simp [*]; done)), H', ⟨by have := HJ5.out; first | omega | exact Nat.le_refl _⟩, ⟨by (with_reducible repeat (first | apply Xc | apply Xd | apply Xe)); exact Xf HO_4.out (fun _ hk => hk.2)⟩, ⟨by (with_reducible repeat (first | apply Xc | apply Xd | apply Xe)); exact Xf HO430.out (fun _ hk => hk.2)⟩, ⟨nc BK421.out⟩, ⟨bl HB.out⟩⟩
     case rest =>
      clear HC20
      try clear c1
      try clear c2
      try clear c2b0
      try clear c2b1
      try clear p2
      try clear c4
      try clear p4
      try clear q4
      try clear hx4
      try clear qi4
      try clear p6
      try clear c9
      try clear c10
      try clear c10b0
      try clear c10b1
      try clear c13
      try clear c13b0
      try clear c14
      try clear c14b0
      try clear c16
      try clear c18
      try clear c18b0
      try clear c18b1
      try clear c20
      try clear c23
      try clear c23b0
      try clear c23b1
      try clear c24
      try clear c24b0
      try clear c24b1
      try clear c25
      try clear c25b0
      try clear c25b1
      try clear c26
      try clear c26b0
      try clear c26b1
      try clear hcz17_0
      try clear hcz17_1
      try clear hcz17_2
      try clear hcz4_0
      try clear hcz4_1
      try clear hcz4_2
      try clear hfz17_0
      try clear hfz17_1
      try clear hfz17_2
      try clear hfz4_0
      try clear hfz4_1
      try clear hfz4_2
      try clear hx426_0
      try clear hx427_0
      try clear hx431_0
      try clear hx432_0
      try clear p2
      try clear p4
      try clear p426
      try clear p427
      try clear p431
      try clear p432
      try clear p6
      try clear q4
      try clear q426
      try clear q427
      try clear q431
      try clear q432
      obtain ⟨kq, x59_19, rfl, HA, HJ19, HO_4, HO_6, BK421, HB⟩ := hcut
      cases kq with
      | zero => exact absurd HA.out (by simp [payrollref43_Decode.j1])
      | succ kj19 =>
       have H := HA.out
       clear HA
       simp only [payrollref43_Decode.j1] at H
       by_cases c30 : x59_19 = true
       · subst c30
         have H1 : (some (0,0, ([] : List (S60)), 6)) = some (r1, r2, r3, r4) := by rw [if_pos rfl] at H; exact H
         clear H
         have H := H1
         clear H1
         simp only [Option.some.injEq, Prod.mk.injEq] at H
         obtain ⟨rfl, rfl, rfl, rfl⟩ := H
         have hcz31_0 := hz BK421.out 0
         have hcz31_1 := hz BK421.out 1
         have hcz31_2 := hz BK421.out 2
         have hfz31_0 := Qm BK421.out 0
         have hfz31_1 := Qm BK421.out 1
         have hfz31_2 := Qm BK421.out 2
         go_wp2
         refine Qz (Xa rfl _ _ gb421 25 #[.int .i64 0, .int .i64 0, .slice none 0 0] (0,0) _ rfl (by (with_reducible repeat (first | refine Qj ?_ _ | refine Qk ?_ | refine Ql ?_ _)); refine Qo (cs := #[.int .i64 0, .int .i64 0, .slice none 0 0]) ?_ 2 _ rfl; (with_reducible repeat (first | refine Qj ?_ _ | refine Qk ?_ | refine Ql ?_ _)); refine Qo (cs := #[.int .i64 0, .int .i64 0, .slice none 0 0]) ?_ 1 _ rfl; (with_reducible repeat (first | refine Qj ?_ _ | refine Qk ?_ | refine Ql ?_ _)); refine Qo (cs := #[.int .i64 0, .int .i64 0, .slice none 0 0]) ?_ 0 _ rfl; (with_reducible repeat (first | refine Qj ?_ _ | refine Qk ?_ | refine Ql ?_ _)); exact BK421.out) Tryz.underlying25 rfl (by kernel_rfl)) rfl ?_
         exact ⟨_, by first | rfl | (simp [errW_none, errW_some] <;> rfl) | (simp [*, errW_none, errW_some] <;> rfl), by first | exact Kd.R_nil _ _ _ _ _ | exact Kd.N_nil _ _ _ _ _ | exact Kd.V_nil _ _ _ _ _ | exact Kd.Q_nil _ _ _ _ _ | exact Kd.S_nil _ _ _ _ _, bl HB.out⟩
       replace c30 := Bool.eq_false_iff.mpr c30
       subst c30
       have H1 : (if 1 < (t428.length : Int) then ((payrollref34_Number.f kj19 (rdOf ByteArray.empty t428 1)).bind fun bt434 => (if 3 < (t428.length : Int) then ((payrollref34_Number.f kj19 (rdOf ByteArray.empty t428 3)).bind fun bt437 => (payrollref43_Decode.l0 kj19 t422 bt434.2 bt437.2 1 bt434.1 bt437.1 ([] : List (S60)))) else (none))) else (none)) = some (r1, r2, r3, r4) := by rw [if_neg (show ¬ (false = true) by decide)] at H; exact H
       clear H
       have H := H1
       clear H1
       by_cases c32 : 1 < (t428.length : Int)
       · rw [if_pos c32] at H
         have c32b0 : decide (1 < (t428.length : Int)) = true := Xq c32
         have c32b1 : decide (1 < t428.length) = true := Xq (by omega)
         clear c32
         replace H := Xx.mp H
         obtain ⟨⟨t434, t435⟩, A330, H⟩ := H
         replace H : (if 3 < (t428.length : Int) then ((payrollref34_Number.f kj19 (rdOf ByteArray.empty t428 3)).bind fun bt437 => (payrollref43_Decode.l0 kj19 t422 t435 bt437.2 1 t434 bt437.1 ([] : List (S60)))) else (none)) = some (r1, r2, r3, r4) := H
         have A33 := Qa A330
         clear A330
         by_cases c34 : 3 < (t428.length : Int)
         · rw [if_pos c34] at H
           have c34b0 : decide (3 < (t428.length : Int)) = true := Xq c34
           have c34b1 : decide (3 < t428.length) = true := Xq (by omega)
           clear c34
           replace H := Xx.mp H
           obtain ⟨⟨t437, t438⟩, A350, H⟩ := H
           replace H : (payrollref43_Decode.l0 kj19 t422 t435 t438 1 t434 t437 ([] : List (S60))) = some (r1, r2, r3, r4) := H
           have A35 := Qa A350
           clear A350
           have H' := Qa H
           clear H
           obtain ⟨Ao36, co36, eo36⟩ := Xk HO_6.out
           subst eo36
           have p433 : 0 ≤ (1 : Int) := (by omega)
           have q433 : 1 < (t428.length : Int) := Xp (by assumption)
           obtain ⟨ad433, e433, hx433_0⟩ := Kd.at_string (Xb HO_6.out).2.2 1 p433 q433
           cases e433
           (try simp only [show (1 : Int).toNat = 1 from rfl, Nat.reduceMul, Nat.reduceEqDiff, Go.Addr.add, ↓reduceIte] at hx433_0)
           have qi433 : (1 < t428.length) = True := eq_true (by omega)
           (try rw [show ((1 : Int)).toNat = 1 from rfl] at hx433_0)
           replace p433 := eq_true p433
           replace q433 := eq_true q433
           go_wp2_with (first | ((with_reducible refine Qw (f := 49) rfl ?_); refine gc (some 65) Tryz.func49 #[.string (rdOf ByteArray.empty t428 1)] ?_; (with_reducible refine (payrollref34_Number.calls kj19 (rdOf ByteArray.empty t428 1) t434 t435 _ A33.out).mono ?_); rintro e w' ⟨rfl, ⟨nd, rfl⟩⟩; refine ⟨_, rfl, ?_⟩; (try simp only [World.drewN_drewN]); (try (rw [drewN_self wc]; generalize hq_ : World.drewN wc _ = wc; have n0_ : Aside0 (Kd.R Kd.string 9 wc w.heap.size (fun k_ => some k_ ≠ (.slice (some ad433) t428.length co36 : Value).ownBlock) (.slice (some ad427) t422.length co21) t422) := ⟨by rw [← hq_]; exact (kr HO_4.out)⟩; have n1_ : Aside0 (Kd.R Kd.string 9 wc w.heap.size (fun k_ => some k_ ≠ (.slice (some ad427) t422.length co21 : Value).ownBlock) (.slice (some ad433) t428.length co36) t428) := ⟨by rw [← hq_]; exact (kr HO_6.out)⟩; have n2_ : Aside0 (wc.heap[gb421]? = some (.cells #[.int .i64 0, .int .i64 0, .slice none 0 0] 25 (0,0))) := ⟨by rw [← hq_]; exact (nc BK421.out)⟩; have n3_ : Aside0 (Below w.heap.size w wc) := ⟨by rw [← hq_]; exact (bl HB.out)⟩; clear HO_4 HO_6 BK421 HB hq_; have HO_4 := n0_; have HO_6 := n1_; have BK421 := n2_; have HB := n3_; clear n0_ n1_ n2_ n3_)); have p436 : 0 ≤ (3 : Int) := (by omega); have q436 : 3 < (t428.length : Int) := Xp (by assumption); obtain ⟨ad436, e436, hx436_0⟩ := Kd.at_string (Xb HO_6.out).2.2 3 p436 q436; obtain rfl : ad433 = ad436 := (by injection e436); (try simp only [show (3 : Int).toNat = 3 from rfl, Nat.reduceMul, Nat.reduceEqDiff, Go.Addr.add, ↓reduceIte] at hx436_0); have qi436 : (3 < t428.length) = True := eq_true (by omega); (try rw [show ((3 : Int)).toNat = 3 from rfl] at hx436_0); replace p436 := eq_true p436; replace q436 := eq_true q436) | ((with_reducible refine Qw (f := 49) rfl ?_); refine gc (some 72) Tryz.func49 #[.string (rdOf ByteArray.empty t428 3)] ?_; (with_reducible refine (payrollref34_Number.calls kj19 (rdOf ByteArray.empty t428 3) t437 t438 _ A35.out).mono ?_); rintro e w' ⟨rfl, ⟨nd, rfl⟩⟩; refine ⟨_, rfl, ?_⟩; (try simp only [World.drewN_drewN]); (try (rw [drewN_self wc]; generalize hq_ : World.drewN wc _ = wc; have n0_ : Aside0 (Kd.R Kd.string 9 wc w.heap.size (fun k_ => some k_ ≠ (.slice (some ad433) t428.length co36 : Value).ownBlock) (.slice (some ad427) t422.length co21) t422) := ⟨by rw [← hq_]; exact (kr HO_4.out)⟩; have n1_ : Aside0 (Kd.R Kd.string 9 wc w.heap.size (fun k_ => some k_ ≠ (.slice (some ad427) t422.length co21 : Value).ownBlock) (.slice (some ad433) t428.length co36) t428) := ⟨by rw [← hq_]; exact (kr HO_6.out)⟩; have n2_ : Aside0 (wc.heap[gb421]? = some (.cells #[.int .i64 0, .int .i64 0, .slice none 0 0] 25 (0,0))) := ⟨by rw [← hq_]; exact (nc BK421.out)⟩; have n3_ : Aside0 (Below w.heap.size w wc) := ⟨by rw [← hq_]; exact (bl HB.out)⟩; clear HO_4 HO_6 BK421 HB hq_; have HO_4 := n0_; have HO_6 := n1_; have BK421 := n2_; have HB := n3_; clear n0_ n1_ n2_ n3_))) | ((with_reducible refine Qx (N := 11) rfl ?_); (try (refine gate_guard (by rfl) ?_; dsimp only)); refine Qv ?hg (N := 11) ?hd (cs := #[.int .i64 0, .int .i64 0, .slice none 0 0]) (t := 25) ?hr ?_; (case hd => rfl); (case hg => rfl); (case hr => first | (go_simp; done) | (go_simp; rfl)); intro gb439 hg w37 hbox hb; have n0_ := Qa (Xh (kr HO_4.out) hb); have n1_ := Qa (Xh (kr HO_6.out) hb); have n2_ := Qa (Qb (nc BK421.out) hb); have n3_ := Qa (Qh (bl HB.out) hb); have n4_ := Qa (hbox); have n5_ := Qa ((by rw [hg]; exact (Qi (bl HB.out)) : w.heap.size ≤ gb439)); have n6_ := Qa ((by rw [hg]; exact (Qi (bl HB.out)) : w.heap.size ≤ gb439)); have n7_ := Qa ((by rw [hg]; exact Nat.ne_of_lt (blk_lt (nc BK421.out)) : gb421 ≠ gb439)); have n8_ := Qa ((by rw [hg]; exact Nat.ne_of_gt (blk_lt (nc BK421.out)) : gb439 ≠ gb421)); clear HO_4 HO_6; clear BK421 HB; have HO_4 := n0_; have HO_6 := n1_; have BK421 := n2_; have HB := n3_; have BK439 := n4_; have GW439 := n5_; have GE439 := n6_; have NB421_439 := n7_; have NB439_421 := n8_; clear n0_ n1_ n2_ n3_ n4_ n5_ n6_ n7_ n8_; clear hb hbox hg; have hnb38 := NB439_421.out; have hnc38 := NB421_439.out; have hcz39_0 := hz BK439.out 0; have hcz39_1 := hz BK439.out 1; have hcz39_2 := hz BK439.out 2; have hfz39_0 := Qm BK439.out 0; have hfz39_1 := Qm BK439.out 1; have hfz39_2 := Qm BK439.out 2))
           go_loopg [12] kj19 (fun kq v12 w' => ∃ (x12_3 : Int) (x422000_3 : Int) (x422001_3 : Int) (x440002_3 : List (S60)) (u440002 : Value), v12 = .int .i64 x12_3 ∧ Aside0 (payrollref43_Decode.l0 kq t422 t435 t438 x12_3 t434 t437 x440002_3 = some (r1, r2, r3, r4)) ∧ Aside0 (kq ≤ kj19) ∧ Aside0 (Kd.R Kd.string 9 w' w.heap.size (fun _ => True) (.slice (some ad427) t422.length co21) t422) ∧ Aside0 (Kd.R k60 60 w' w.heap.size (fun _ => True) u440002 x440002_3) ∧ Aside0 (w'.heap[gb421]? = some (.cells #[.int .i64 x422000_3, .int .i64 x422001_3, (.slice none 0 0)] 25 (0,0))) ∧ Aside0 (w'.heap[gb439]? = some (.cells #[.int .i64 t434, .int .i64 t437, u440002] 25 (0,0))) ∧ Aside0 (Below w.heap.size w w'))
           case atStart => exact ⟨(1), (0), (0), (([] : List (S60))), (.slice none 0 0), (by first | rfl | (simp; done) | (simp [*]; done)), H', ⟨Nat.le_refl _⟩, ⟨by (with_reducible repeat (first | apply Xc | apply Xd | apply Xe)); exact Xf (Xg (p := ⟨gb439,2, none⟩) (Xg (p := ⟨gb439,1, none⟩) (Xg (p := ⟨gb439,0, none⟩) (Kd.R_types HO_4.out BK439.out (by decide)) (fun _ hk => hk.2) (.int .i64 t434)) (fun _ hk => hk.2) (.int .i64 t437)) (fun _ hk => hk.2) (.slice none 0 0)) (fun _ hk => trivial)⟩, ⟨by first | exact Kd.R_nil _ _ _ _ _ | exact Kd.N_nil _ _ _ _ _ | exact Kd.V_nil _ _ _ _ _ | exact Kd.Q_nil _ _ _ _ _ | exact Kd.S_nil _ _ _ _ _⟩, ⟨by (with_reducible repeat (first | refine Qj ?_ _ | refine Qk ?_ | refine Ql ?_ _)); refine Qc ?_ NB421_439.out _; (with_reducible repeat (first | refine Qj ?_ _ | refine Qk ?_ | refine Ql ?_ _)); refine Qc ?_ NB421_439.out _; (with_reducible repeat (first | refine Qj ?_ _ | refine Qk ?_ | refine Ql ?_ _)); refine Qc ?_ NB421_439.out _; (with_reducible repeat (first | refine Qj ?_ _ | refine Qk ?_ | refine Ql ?_ _)); exact BK421.out⟩, ⟨by (with_reducible repeat (first | refine Qj ?_ _ | refine Qk ?_ | refine Ql ?_ _)); refine Qo (cs := #[.int .i64 t434, .int .i64 t437, .slice none 0 0]) ?_ 2 _ rfl; (with_reducible repeat (first | refine Qj ?_ _ | refine Qk ?_ | refine Ql ?_ _)); refine Qo (cs := #[.int .i64 t434, .int .i64 0, .slice none 0 0]) ?_ 1 _ rfl; (with_reducible repeat (first | refine Qj ?_ _ | refine Qk ?_ | refine Ql ?_ _)); refine Qo (cs := #[.int .i64 0, .int .i64 0, .slice none 0 0]) ?_ 0 _ rfl; (with_reducible repeat (first | refine Qj ?_ _ | refine Qk ?_ | refine Ql ?_ _)); exact BK439.out⟩, ⟨bl HB.out⟩⟩
           case round =>
            clear H'
            try clear c1
            try clear c2
            try clear c2b0
            try clear c2b1
            try clear p2
            try clear c3
            try clear c4
            try clear p4
            try clear q4
            try clear hx4
            try clear qi4
            try clear p6
            try clear c9
            try clear c10
            try clear c10b0
            try clear c10b1
            try clear c13
            try clear c13b0
            try clear c14
            try clear c14b0
            try clear c16
            try clear c18
            try clear c18b0
            try clear c18b1
            try clear c20
            try clear c23
            try clear c23b0
            try clear c23b1
            try clear c24
            try clear c24b0
            try clear c24b1
            try clear c25
            try clear c25b0
            try clear c25b1
            try clear c26
            try clear c26b0
            try clear c26b1
            try clear c30
            try clear c32
            try clear c32b0
            try clear c32b1
            try clear c34
            try clear c34b0
            try clear c34b1
            try clear c38
            try clear hcz17_0
            try clear hcz17_1
            try clear hcz17_2
            try clear hcz31_0
            try clear hcz31_1
            try clear hcz31_2
            try clear hcz39_0
            try clear hcz39_1
            try clear hcz39_2
            try clear hcz4_0
            try clear hcz4_1
            try clear hcz4_2
            try clear hfz17_0
            try clear hfz17_1
            try clear hfz17_2
            try clear hfz31_0
            try clear hfz31_1
            try clear hfz31_2
            try clear hfz39_0
            try clear hfz39_1
            try clear hfz39_2
            try clear hfz4_0
            try clear hfz4_1
            try clear hfz4_2
            try clear hx426_0
            try clear hx427_0
            try clear hx431_0
            try clear hx432_0
            try clear hx433_0
            try clear hx436_0
            try clear p2
            try clear p4
            try clear p426
            try clear p427
            try clear p431
            try clear p432
            try clear p433
            try clear p436
            try clear p6
            try clear q4
            try clear q426
            try clear q427
            try clear q431
            try clear q432
            try clear q433
            try clear q436
            obtain ⟨x12_3, x422000_3, x422001_3, x440002_3, u440002, rfl, HA, HK3, HO_4, HO_440002, BK421, BK439, HB⟩ := hrel
            cases gk with
            | zero => exact absurd HA.out (by simp [payrollref43_Decode.l0])
            | succ k3 =>
             have H := HA.out
             clear HA
             simp only [payrollref43_Decode.l0] at H
             by_cases c40 : x12_3 < (wrap64 ((t422.length : Int) - 1))
             · rw [if_pos c40] at H
               have c40b0 : decide (x12_3 < (wrap64 ((t422.length : Int) - 1))) = true := Xq c40
               clear c40
               by_cases c41 : 0 ≤ x12_3
               · rw [if_pos c41] at H
                 have c41b0 : decide (0 ≤ x12_3) = true := Xq c41
                 clear c41
                 by_cases c42 : x12_3 < (t422.length : Int)
                 · rw [if_pos c42] at H
                   have c42b0 : decide (x12_3 < (t422.length : Int)) = true := Xq c42
                   clear c42
                   replace H := Xx.mp H
                   obtain ⟨t441, A430, H⟩ := H
                   replace H : ((payrollref34_Line.f k3 t441).bind fun bt444 => (if bt444.2.2.2 = true then (if x440002_3.length < 4398046511104 then (payrollref43_Decode.l0 k3 t422 t435 t438 (wrap64 (x12_3 + 1)) t434 t437 (x440002_3 ++ [(⟨bt444.1, bt444.2.1, bt444.2.2.1⟩ : S60)])) else (none)) else (some (0,0, ([] : List (S60)), 6)))) = some (r1, r2, r3, r4) := H
                   have A43 := Qa A430
                   clear A430
                   replace H := Xx.mp H
                   obtain ⟨⟨t444, t445, t446, t447⟩, A440, H⟩ := H
                   replace H : (if t447 = true then (if x440002_3.length < 4398046511104 then (payrollref43_Decode.l0 k3 t422 t435 t438 (wrap64 (x12_3 + 1)) t434 t437 (x440002_3 ++ [(⟨t444, t445, t446⟩ : S60)])) else (none)) else (some (0,0, ([] : List (S60)), 6))) = some (r1, r2, r3, r4) := H
                   have A44 := Qa A440
                   clear A440
                   by_cases c45 : t447 = true
                   · subst c45
                     have H1 : (if x440002_3.length < 4398046511104 then (payrollref43_Decode.l0 k3 t422 t435 t438 (wrap64 (x12_3 + 1)) t434 t437 (x440002_3 ++ [(⟨t444, t445, t446⟩ : S60)])) else (none)) = some (r1, r2, r3, r4) := by rw [if_pos rfl] at H; exact H
                     clear H
                     have H := H1
                     clear H1
                     by_cases c46 : x440002_3.length < 4398046511104
                     · rw [if_pos c46] at H
                       have LMc46 := Qa c46
                       clear c46
                       obtain ⟨y449, hy449⟩ : ∃ y_ : List (S60), y_ = (x440002_3 ++ [(⟨t444, t445, t446⟩ : S60)]) := ⟨_, rfl⟩
                       replace H : (payrollref43_Decode.l0 k3 t422 t435 t438 (wrap64 (x12_3 + 1)) t434 t437 y449) = some (r1, r2, r3, r4) := by first | (rw [hy449]; with_reducible exact H) | (have H2_ := (Xy _ _).symm.trans H; rw [hy449]; with_reducible exact H2_) | (have H2_ := (Xy _ _).symm.trans H; with_reducible exact H2_) | with_reducible exact H | (rw [hy449]; exact H) | exact H
                       have Ny449 := Qa hy449
                       clear hy449
                       have H' := Qa H
                       clear H
                       have p440 : 0 ≤ (x12_3 : Int) := Xp (by assumption)
                       have q440 : x12_3 < (t422.length : Int) := Xp (by assumption)
                       obtain ⟨ad440, e440, hx440_0⟩ := Kd.at_string (Xb HO_4.out).2.2 x12_3 p440 q440
                       obtain rfl : ad427 = ad440 := (by injection e440)
                       replace p440 := eq_true p440
                       replace q440 := eq_true q440
                       go_wp2_with (first | ((with_reducible refine Qw (f := 48) rfl ?_); refine gc (some 90) Tryz.func48 #[.string (rdOf ByteArray.empty t422 x12_3)] ?_; (with_reducible refine (payrollref34_Words.calls k3 (rdOf ByteArray.empty t422 x12_3) t441 _ A43.out).mono ?_); rintro e w47 ⟨v442, rfl, ho0, hb⟩; refine ⟨_, rfl, ?_⟩; have n0_ := Qa (Kd.R_elder' (kr HO_4.out) (Kd.R_base ho0) hb); have n1_ := Qa (Xh (kr HO_440002.out) hb); have n2_ := Qa (Kd.R_lower (Kd.R_new' ho0 (Kd.R_lt (kr HO_4.out))) (Qi (bl HB.out))); have n3_ := Qa (Qb (nc BK421.out) hb); have n4_ := Qa (Qb (nc BK439.out) hb); have n5_ := Qa (Qh (bl HB.out) hb); clear HO_4 HO_440002; clear BK421 BK439 HB; have HO_4 := n0_; have HO_440002 := n1_; have HO443 := n2_; have BK421 := n3_; have BK439 := n4_; have HB := n5_; clear n0_ n1_ n2_ n3_ n4_ n5_; (try clear hb); (try clear ho0); obtain ⟨Ao48, co48, eo48⟩ := Xk HO443.out; subst eo48) | ((with_reducible refine Qw (f := 50) rfl ?_); refine gc (some 91) Tryz.func50 #[.slice Ao48 t441.length co48] ?_; (with_reducible refine (payrollref34_Line.calls k3 _ _ t441 t444 t445 t446 true _ ?side1 ?side2 A44.out).mono ?_); (case side1 => repeat (first | exact (Xb HO443.out).2.2 | (with_reducible refine Kd.C_alloc ?_ _) | (with_reducible refine Kd.C_drewN ?_ _) | (with_reducible refine Kd.C_drew ?_))); (case side2 => exact (Xb HO443.out).2.1); rintro e w49 ⟨rfl, hb⟩; refine ⟨_, rfl, ?_⟩; have n0_ := Qa (Xh (kr HO_4.out) hb); have n1_ := Qa (Xh (kr HO_440002.out) hb); have n2_ := Qa (Xh (kr HO443.out) hb); have n3_ := Qa (Qb (nc BK421.out) hb); have n4_ := Qa (Qb (nc BK439.out) hb); have n5_ := Qa (Qh (bl HB.out) hb); clear HO_4 HO_440002; clear HO443 BK421; clear BK439 HB; have HO_4 := n0_; have HO_440002 := n1_; have HO443 := n2_; have BK421 := n3_; have BK439 := n4_; have HB := n5_; clear n0_ n1_ n2_ n3_ n4_ n5_; (try clear hb)) | ((with_reducible refine Qx (N := 13) rfl ?_); (try (refine gate_guard (by rfl) ?_; dsimp only)); refine Qv ?hg (N := 13) ?hd (cs := #[.int .i64 0, .string (⟨#[]⟩ : Zb), .int .i64 0]) (t := 60) ?hr ?_; (case hd => rfl); (case hg => rfl); (case hr => first | (go_simp; done) | (go_simp; rfl)); intro gb448 hg w50 hbox hb; have n0_ := Qa (Xh (kr HO_4.out) hb); have n1_ := Qa (Xh (Xi (kr HO_440002.out) gb448 (Nat.le_of_eq hg.symm)) hb); have n2_ := Qa (Xh (kr HO443.out) hb); have n3_ := Qa (Qb (nc BK421.out) hb); have n4_ := Qa (Qb (nc BK439.out) hb); have n5_ := Qa (Qh (bl HB.out) hb); have n6_ := Qa (hbox); have n7_ := Qa ((by rw [hg]; exact (Qi (bl HB.out)) : w.heap.size ≤ gb448)); have n8_ := Qa ((by rw [hg]; exact (Qi (bl HB.out)) : w.heap.size ≤ gb448)); have n9_ := Qa ((by rw [hg]; exact Nat.ne_of_lt (blk_lt (nc BK421.out)) : gb421 ≠ gb448)); have n10_ := Qa ((by rw [hg]; exact Nat.ne_of_gt (blk_lt (nc BK421.out)) : gb448 ≠ gb421)); have n11_ := Qa ((by rw [hg]; exact Nat.ne_of_lt (blk_lt (nc BK439.out)) : gb439 ≠ gb448)); have n12_ := Qa ((by rw [hg]; exact Nat.ne_of_gt (blk_lt (nc BK439.out)) : gb448 ≠ gb439)); clear HO_4 HO_440002; clear HO443 BK421; clear BK439 HB; have HO_4 := n0_; have HO_440002 := n1_; have HO443 := n2_; have BK421 := n3_; have BK439 := n4_; have HB := n5_; have BK448 := n6_; have GW448 := n7_; have GE448 := n8_; have NB421_448 := n9_; have NB448_421 := n10_; have NB439_448 := n11_; have NB448_439 := n12_; clear n0_ n1_ n2_ n3_ n4_ n5_ n6_ n7_ n8_ n9_ n10_ n11_ n12_; clear hb hbox hg; have hnb51 := NB448_421.out; have hnc51 := NB421_448.out; have hnb52 := NB448_439.out; have hnc52 := NB439_448.out; have hcz53_0 := hz BK448.out 0; have hcz53_1 := hz BK448.out 1; have hcz53_2 := hz BK448.out 2; have hfz53_0 := Qm BK448.out 0; have hfz53_1 := Qm BK448.out 1; have hfz53_2 := Qm BK448.out 2; have hnb54 := NB439_421.out; have hnc54 := NB421_439.out; have hcz55_0 := hz BK439.out 0; have hcz55_1 := hz BK439.out 1; have hcz55_2 := hz BK439.out 2; have hfz55_0 := Qm BK439.out 0; have hfz55_1 := Qm BK439.out 1; have hfz55_2 := Qm BK439.out 2) | ((with_reducible refine gate_builtin (b := .append) (xs := #[.tmp 98, .tmp 100]) rfl ?_); (try (refine gate_guard (by rfl) ?_; dsimp only)); at_builtin; refine Kd.R_append k60 (w0 := w) w.heap.size rfl (.tmp 98) (.tmp 100) 23 60 (.agg #[(.int .i64 0), (.string ⟨#[]⟩), (.int .i64 0)]) 32 rfl Tryz.underlying23 info60 rfl (by decide) (by omega) u440002 x440002_3 (⟨t444, t445, t446⟩ : S60) [.int .i64 t444, .string t445, .int .i64 t446] (fun k_ => k_ ≠ gb448) (fun _ => False) rfl (by first | (go_simp; done) | (go_simp; rfl)) ?aP (fun _ hk => hk.elim) ?aF ?aO ?aB ?aS ?aL ?_; (case aP => exact k60_mkM _ _ _ (⟨t444, t445, t446⟩ : S60)); (case aB => exact (bl HB.out)); (case aF => exact (fun k_ hk => Kd.freshB (g := gb448) (o := .cells #[.int .i64 t444, .string t445, .int .i64 t446] 60 (0,0)) (by (with_reducible repeat (first | refine Qj ?_ _ | refine Qk ?_ | refine Ql ?_ _)); refine Qo (cs := #[.int .i64 t444, .string t445, .int .i64 0]) ?_ 2 _ rfl; (with_reducible repeat (first | refine Qj ?_ _ | refine Qk ?_ | refine Ql ?_ _)); refine Qo (cs := #[.int .i64 t444, .string (⟨#[]⟩ : Zb), .int .i64 0]) ?_ 1 _ rfl; (with_reducible repeat (first | refine Qj ?_ _ | refine Qk ?_ | refine Ql ?_ _)); refine Qo (cs := #[.int .i64 0, .string (⟨#[]⟩ : Zb), .int .i64 0]) ?_ 0 _ rfl; (with_reducible repeat (first | refine Qj ?_ _ | refine Qk ?_ | refine Ql ?_ _)); exact BK448.out) k_ hk)); (case aO => exact (by (with_reducible repeat (first | apply Xc | apply Xd | apply Xe)); exact Xf (Xg (p := ⟨gb448,2, none⟩) (Xg (p := ⟨gb448,1, none⟩) (Xg (p := ⟨gb448,0, none⟩) (Xf HO_440002.out (fun k_ hk => (⟨hk, hk.2⟩ : _ ∧ k_ ≠ gb448))) (fun _ hk => hk.2) (.int .i64 t444)) (fun _ hk => hk.2) (.string t445)) (fun _ hk => hk.2) (.int .i64 t446)) (fun _ hk => hk.1.2))); (case aS => exact (Qi (bl HB.out))); (case aL => have := LMc46.out; omega); intro v450 w56 ho hb hg hat; rw [← Ny449.out] at ho; have n0_ := Qa (Kd.R_over' (by (with_reducible repeat (first | apply Xc | apply Xd | apply Xe)); exact (Xf (Xg (p := ⟨gb448,2, none⟩) (Xg (p := ⟨gb448,1, none⟩) (Xg (p := ⟨gb448,0, none⟩) (Kd.R_types HO_4.out BK448.out (by decide)) (fun _ hk => hk.2) (.int .i64 t444)) (fun _ hk => hk.2) (.string t445)) (fun _ hk => hk.2) (.int .i64 t446)) (fun _ h_ => h_.1))) (Kd.R_typed (by (with_reducible repeat (first | apply Xc | apply Xd | apply Xe)); exact (Xf (Xg (p := ⟨gb448,2, none⟩) (Xg (p := ⟨gb448,1, none⟩) (Xg (p := ⟨gb448,0, none⟩) (Xf HO_440002.out (fun k_ hk => (⟨hk, hk.2⟩ : _ ∧ k_ ≠ gb448))) (fun _ hk => hk.2) (.int .i64 t444)) (fun _ hk => hk.2) (.string t445)) (fun _ hk => hk.2) (.int .i64 t446)) (fun _ h_ => h_.1)))) (by decide) hg); have n1_ := Qa (blk_grown (g := gb421) (o := .cells #[.int .i64 x422000_3, .int .i64 x422001_3, .slice none 0 0] 25 (0,0)) (by (with_reducible repeat (first | refine Qj ?_ _ | refine Qk ?_ | refine Ql ?_ _)); refine Qc ?_ NB421_448.out _; (with_reducible repeat (first | refine Qj ?_ _ | refine Qk ?_ | refine Ql ?_ _)); refine Qc ?_ NB421_448.out _; (with_reducible repeat (first | refine Qj ?_ _ | refine Qk ?_ | refine Ql ?_ _)); refine Qc ?_ NB421_448.out _; (with_reducible repeat (first | refine Qj ?_ _ | refine Qk ?_ | refine Ql ?_ _)); exact BK421.out) hg (Kd.R_ne HO_440002.out BK421.out (by decide))); have n2_ := Qa (blk_grown (g := gb439) (o := .cells #[.int .i64 t434, .int .i64 t437, u440002] 25 (0,0)) (by (with_reducible repeat (first | refine Qj ?_ _ | refine Qk ?_ | refine Ql ?_ _)); refine Qc ?_ NB439_448.out _; (with_reducible repeat (first | refine Qj ?_ _ | refine Qk ?_ | refine Ql ?_ _)); refine Qc ?_ NB439_448.out _; (with_reducible repeat (first | refine Qj ?_ _ | refine Qk ?_ | refine Ql ?_ _)); refine Qc ?_ NB439_448.out _; (with_reducible repeat (first | refine Qj ?_ _ | refine Qk ?_ | refine Ql ?_ _)); exact BK439.out) hg (Kd.R_ne HO_440002.out BK439.out (by decide))); have n3_ := Qa (Kd.R_over' (by (with_reducible repeat (first | apply Xc | apply Xd | apply Xe)); exact (Xf (Xg (p := ⟨gb448,2, none⟩) (Xg (p := ⟨gb448,1, none⟩) (Xg (p := ⟨gb448,0, none⟩) (Kd.R_types HO443.out BK448.out (by decide)) (fun _ hk => hk.2) (.int .i64 t444)) (fun _ hk => hk.2) (.string t445)) (fun _ hk => hk.2) (.int .i64 t446)) (fun _ h_ => h_.1))) (Kd.R_typed (by (with_reducible repeat (first | apply Xc | apply Xd | apply Xe)); exact (Xf (Xg (p := ⟨gb448,2, none⟩) (Xg (p := ⟨gb448,1, none⟩) (Xg (p := ⟨gb448,0, none⟩) (Xf HO_440002.out (fun k_ hk => (⟨hk, hk.2⟩ : _ ∧ k_ ≠ gb448))) (fun _ hk => hk.2) (.int .i64 t444)) (fun _ hk => hk.2) (.string t445)) (fun _ hk => hk.2) (.int .i64 t446)) (fun _ h_ => h_.1)))) (by decide) hg); have n4_ := Qa (blk_grown (g := gb448) (o := .cells #[.int .i64 t444, .string t445, .int .i64 t446] 60 (0,0)) (by (with_reducible repeat (first | refine Qj ?_ _ | refine Qk ?_ | refine Ql ?_ _)); refine Qo (cs := #[.int .i64 t444, .string t445, .int .i64 0]) ?_ 2 _ rfl; (with_reducible repeat (first | refine Qj ?_ _ | refine Qk ?_ | refine Ql ?_ _)); refine Qo (cs := #[.int .i64 t444, .string (⟨#[]⟩ : Zb), .int .i64 0]) ?_ 1 _ rfl; (with_reducible repeat (first | refine Qj ?_ _ | refine Qk ?_ | refine Ql ?_ _)); refine Qo (cs := #[.int .i64 0, .string (⟨#[]⟩ : Zb), .int .i64 0]) ?_ 0 _ rfl; (with_reducible repeat (first | refine Qj ?_ _ | refine Qk ?_ | refine Ql ?_ _)); exact BK448.out) hg (Kd.R_away HO_440002.out (fun _ hk => hk.2))); have n5_ := Qa (hb); have n6_ := Qa (ho); clear HO_4 BK421; clear BK439 HO443; clear BK448 HB HO_440002; have HO_4 := n0_; have BK421 := n1_; have BK439 := n2_; have HO443 := n3_; have BK448 := n4_; have HB := n5_; have HO451 := n6_; clear n0_ n1_ n2_ n3_ n4_ n5_ n6_; clear ho hb hg hat; obtain ⟨Ao57, co57, eo57⟩ := Xk HO451.out; subst eo57; have hcz58_0 := hz BK439.out 0; have hcz58_1 := hz BK439.out 1; have hcz58_2 := hz BK439.out 2; have hfz58_0 := Qm BK439.out 0; have hfz58_1 := Qm BK439.out 1; have hfz58_2 := Qm BK439.out 2))
                       go_roundg k3
                       case measure => have := HJ5.out; have := HJ19.out; have := HK3.out; omega
                       case rel => exact ⟨(wrap64 (x12_3 + 1)), (x422000_3), (x422001_3), (y449), (.slice Ao57 y449.length co57), (by first | rfl | (simp; done) | (simp [*]; done)), H', ⟨by have := HJ5.out; have := HJ19.out; have := HK3.out; omega⟩, ⟨by (with_reducible repeat (first | apply Xc | apply Xd | apply Xe)); exact Xf (Xg (p := ⟨gb439,2, none⟩) (Kd.R_types HO_4.out BK439.out (by decide)) (fun _ hk => hk.2) (.slice Ao57 y449.length co57)) (fun _ hk => trivial)⟩, ⟨by (with_reducible repeat (first | apply Xc | apply Xd | apply Xe)); exact Xf (Xg (p := ⟨gb439,2, none⟩) (Kd.R_types HO451.out BK439.out (by decide)) (fun _ hk => hk.2) (.slice Ao57 y449.length co57)) (fun _ hk => trivial)⟩, ⟨by (with_reducible repeat (first | refine Qj ?_ _ | refine Qk ?_ | refine Ql ?_ _)); refine Qc ?_ NB421_439.out _; (with_reducible repeat (first | refine Qj ?_ _ | refine Qk ?_ | refine Ql ?_ _)); exact BK421.out⟩, ⟨by (with_reducible repeat (first | refine Qj ?_ _ | refine Qk ?_ | refine Ql ?_ _)); refine Qo (cs := #[.int .i64 t434, .int .i64 t437, u440002]) ?_ 2 _ rfl; (with_reducible repeat (first | refine Qj ?_ _ | refine Qk ?_ | refine Ql ?_ _)); exact BK439.out⟩, ⟨bl HB.out⟩⟩
                     rw [if_neg c46] at H
                     exact absurd H (by simp)
                   replace c45 := Bool.eq_false_iff.mpr c45
                   subst c45
                   have H1 : (some (0,0, ([] : List (S60)), 6)) = some (r1, r2, r3, r4) := by rw [if_neg (show ¬ (false = true) by decide)] at H; exact H
                   clear H
                   have H := H1
                   clear H1
                   simp only [Option.some.injEq, Prod.mk.injEq] at H
                   obtain ⟨rfl, rfl, rfl, rfl⟩ := H
                   have p440 : 0 ≤ (x12_3 : Int) := Xp (by assumption)
                   have q440 : x12_3 < (t422.length : Int) := Xp (by assumption)
                   obtain ⟨ad440, e440, hx440_0⟩ := Kd.at_string (Xb HO_4.out).2.2 x12_3 p440 q440
                   obtain rfl : ad427 = ad440 := (by injection e440)
                   replace p440 := eq_true p440
                   replace q440 := eq_true q440
                   go_wp2_with (first | ((with_reducible refine Qw (f := 48) rfl ?_); refine gc (some 90) Tryz.func48 #[.string (rdOf ByteArray.empty t422 x12_3)] ?_; (with_reducible refine (payrollref34_Words.calls k3 (rdOf ByteArray.empty t422 x12_3) t441 _ A43.out).mono ?_); rintro e w59 ⟨v442, rfl, ho0, hb⟩; refine ⟨_, rfl, ?_⟩; have n0_ := Qa (Kd.R_elder' (kr HO_4.out) (Kd.R_base ho0) hb); have n1_ := Qa (Xh (kr HO_440002.out) hb); have n2_ := Qa (Kd.R_lower (Kd.R_new' ho0 (Kd.R_lt (kr HO_4.out))) (Qi (bl HB.out))); have n3_ := Qa (Qb (nc BK421.out) hb); have n4_ := Qa (Qb (nc BK439.out) hb); have n5_ := Qa (Qh (bl HB.out) hb); clear HO_4 HO_440002; clear BK421 BK439 HB; have HO_4 := n0_; have HO_440002 := n1_; have HO443 := n2_; have BK421 := n3_; have BK439 := n4_; have HB := n5_; clear n0_ n1_ n2_ n3_ n4_ n5_; (try clear hb); (try clear ho0); obtain ⟨Ao60, co60, eo60⟩ := Xk HO443.out; subst eo60) | ((with_reducible refine Qw (f := 50) rfl ?_); refine gc (some 91) Tryz.func50 #[.slice Ao60 t441.length co60] ?_; (with_reducible refine (payrollref34_Line.calls k3 _ _ t441 t444 t445 t446 false _ ?side1 ?side2 A44.out).mono ?_); (case side1 => repeat (first | exact (Xb HO443.out).2.2 | (with_reducible refine Kd.C_alloc ?_ _) | (with_reducible refine Kd.C_drewN ?_ _) | (with_reducible refine Kd.C_drew ?_))); (case side2 => exact (Xb HO443.out).2.1); rintro e w61 ⟨rfl, hb⟩; refine ⟨_, rfl, ?_⟩; have n0_ := Qa (Xh (kr HO_4.out) hb); have n1_ := Qa (Xh (kr HO_440002.out) hb); have n2_ := Qa (Xh (kr HO443.out) hb); have n3_ := Qa (Qb (nc BK421.out) hb); have n4_ := Qa (Qb (nc BK439.out) hb); have n5_ := Qa (Qh (bl HB.out) hb); clear HO_4 HO_440002; clear HO443 BK421; clear BK439 HB; have HO_4 := n0_; have HO_440002 := n1_; have HO443 := n2_; have BK421 := n3_; have BK439 := n4_; have HB := n5_; clear n0_ n1_ n2_ n3_ n4_ n5_; (try clear hb)) | ((with_reducible refine Qx (N := 13) rfl ?_); (try (refine gate_guard (by rfl) ?_; dsimp only)); refine Qv ?hg (N := 13) ?hd (cs := #[.int .i64 0, .string (⟨#[]⟩ : Zb), .int .i64 0]) (t := 60) ?hr ?_; (case hd => rfl); (case hg => rfl); (case hr => first | (go_simp; done) | (go_simp; rfl)); intro gb448 hg w62 hbox hb; have n0_ := Qa (Xh (kr HO_4.out) hb); have n1_ := Qa (Xh (Xi (kr HO_440002.out) gb448 (Nat.le_of_eq hg.symm)) hb); have n2_ := Qa (Xh (kr HO443.out) hb); have n3_ := Qa (Qb (nc BK421.out) hb); have n4_ := Qa (Qb (nc BK439.out) hb); have n5_ := Qa (Qh (bl HB.out) hb); have n6_ := Qa (hbox); have n7_ := Qa ((by rw [hg]; exact (Qi (bl HB.out)) : w.heap.size ≤ gb448)); have n8_ := Qa ((by rw [hg]; exact (Qi (bl HB.out)) : w.heap.size ≤ gb448)); have n9_ := Qa ((by rw [hg]; exact Nat.ne_of_lt (blk_lt (nc BK421.out)) : gb421 ≠ gb448)); have n10_ := Qa ((by rw [hg]; exact Nat.ne_of_gt (blk_lt (nc BK421.out)) : gb448 ≠ gb421)); have n11_ := Qa ((by rw [hg]; exact Nat.ne_of_lt (blk_lt (nc BK439.out)) : gb439 ≠ gb448)); have n12_ := Qa ((by rw [hg]; exact Nat.ne_of_gt (blk_lt (nc BK439.out)) : gb448 ≠ gb439)); clear HO_4 HO_440002; clear HO443 BK421; clear BK439 HB; have HO_4 := n0_; have HO_440002 := n1_; have HO443 := n2_; have BK421 := n3_; have BK439 := n4_; have HB := n5_; have BK448 := n6_; have GW448 := n7_; have GE448 := n8_; have NB421_448 := n9_; have NB448_421 := n10_; have NB439_448 := n11_; have NB448_439 := n12_; clear n0_ n1_ n2_ n3_ n4_ n5_ n6_ n7_ n8_ n9_ n10_ n11_ n12_; clear hb hbox hg; have hnb63 := NB448_421.out; have hnc63 := NB421_448.out; have hnb64 := NB448_439.out; have hnc64 := NB439_448.out; have hcz65_0 := hz BK448.out 0; have hcz65_1 := hz BK448.out 1; have hcz65_2 := hz BK448.out 2; have hfz65_0 := Qm BK448.out 0; have hfz65_1 := Qm BK448.out 1; have hfz65_2 := Qm BK448.out 2; have hnb66 := NB421_439.out; have hnc66 := NB439_421.out; have hcz67_0 := hz BK421.out 0; have hcz67_1 := hz BK421.out 1; have hcz67_2 := hz BK421.out 2; have hfz67_0 := Qm BK421.out 0; have hfz67_1 := Qm BK421.out 1; have hfz67_2 := Qm BK421.out 2))
                   refine Qz (Xa rfl _ _ gb421 25 #[.int .i64 0, .int .i64 0, .slice none 0 0] (0,0) _ rfl (by (with_reducible repeat (first | refine Qj ?_ _ | refine Qk ?_ | refine Ql ?_ _)); refine Qo (cs := #[.int .i64 0, .int .i64 0, .slice none 0 0]) ?_ 2 _ rfl; (with_reducible repeat (first | refine Qj ?_ _ | refine Qk ?_ | refine Ql ?_ _)); refine Qo (cs := #[.int .i64 0, .int .i64 x422001_3, .slice none 0 0]) ?_ 1 _ rfl; (with_reducible repeat (first | refine Qj ?_ _ | refine Qk ?_ | refine Ql ?_ _)); refine Qo (cs := #[.int .i64 x422000_3, .int .i64 x422001_3, .slice none 0 0]) ?_ 0 _ rfl; (with_reducible repeat (first | refine Qj ?_ _ | refine Qk ?_ | refine Ql ?_ _)); refine Qc ?_ NB421_448.out _; (with_reducible repeat (first | refine Qj ?_ _ | refine Qk ?_ | refine Ql ?_ _)); refine Qc ?_ NB421_448.out _; (with_reducible repeat (first | refine Qj ?_ _ | refine Qk ?_ | refine Ql ?_ _)); refine Qc ?_ NB421_448.out _; (with_reducible repeat (first | refine Qj ?_ _ | refine Qk ?_ | refine Ql ?_ _)); exact BK421.out) Tryz.underlying25 rfl (by kernel_rfl)) rfl ?_
                   exact ⟨_, by first | rfl | (simp [errW_none, errW_some] <;> rfl) | (simp [*, errW_none, errW_some] <;> rfl), by first | exact Kd.R_nil _ _ _ _ _ | exact Kd.N_nil _ _ _ _ _ | exact Kd.V_nil _ _ _ _ _ | exact Kd.Q_nil _ _ _ _ _ | exact Kd.S_nil _ _ _ _ _, bl HB.out⟩
                 rw [if_neg c42] at H
                 exact absurd H (by simp)
               rw [if_neg c41] at H
               exact absurd H (by simp)
             rw [if_neg c40] at H
             have c40b0 : decide (x12_3 < (wrap64 ((t422.length : Int) - 1))) = false := Xr c40
             clear c40
             have HC68 := Qa H
             clear H
             go_upto_region 19 with (fail)
             go_cut [113] (fun v113 wc => ∃ (kq : Nat) (x113_67 : Bool), v113 = .bool x113_67 ∧ Aside0 (payrollref43_Decode.j3 kq x113_67 t434 t437 x440002_3 = some (r1, r2, r3, r4)) ∧ Aside0 (kq ≤ k3) ∧ Aside0 (Kd.R k60 60 wc w.heap.size (fun _ => True) u440002 x440002_3) ∧ Aside0 (wc.heap[gb421]? = some (.cells #[.int .i64 x422000_3, .int .i64 x422001_3, (.slice none 0 0)] 25 (0,0))) ∧ Aside0 (wc.heap[gb439]? = some (.cells #[.int .i64 t434, .int .i64 t437, u440002] 25 (0,0))) ∧ Aside0 (Below w.heap.size w wc))
             case first =>
              have H := HC68.out
              clear HC68
              by_cases c69 : t435 = true
              · subst c69
                have H1 : (if t438 = true then ((payrollref43_Valid.f k3 t434 t437 x440002_3).bind fun t452 => (payrollref43_Decode.j3 k3 (!t452) t434 t437 x440002_3)) else (payrollref43_Decode.j3 k3 true t434 t437 x440002_3)) = some (r1, r2, r3, r4) := by rw [if_pos rfl] at H; exact H
                clear H
                have H := H1
                clear H1
                by_cases c70 : t438 = true
                · subst c70
                  have H1 : ((payrollref43_Valid.f k3 t434 t437 x440002_3).bind fun t452 => (payrollref43_Decode.j3 k3 (!t452) t434 t437 x440002_3)) = some (r1, r2, r3, r4) := by rw [if_pos rfl] at H; exact H
                  clear H
                  have H := H1
                  clear H1
                  replace H := Xx.mp H
                  obtain ⟨t452, A710, H⟩ := H
                  replace H : (payrollref43_Decode.j3 k3 (!t452) t434 t437 x440002_3) = some (r1, r2, r3, r4) := H
                  have A71 := Qa A710
                  clear A710
                  have H' := Qa H
                  clear H
                  have hnb72 := NB439_421.out
                  have hnc72 := NB421_439.out
                  have hcz73_0 := hz BK439.out 0
                  have hcz73_1 := hz BK439.out 1
                  have hcz73_2 := hz BK439.out 2
                  have hfz73_0 := Qm BK439.out 0
                  have hfz73_1 := Qm BK439.out 1
                  have hfz73_2 := Qm BK439.out 2
                  obtain ⟨Ao74, co74, eo74⟩ := Xk HO_440002.out
                  subst eo74
                  go_wp2_with (first | (go_at_call 17; (with_reducible refine (payrollref43_Valid.calls k3 t434 t437 _ _ x440002_3 t452 _ ?side1 ?side2 A71.out).mono ?_); (case side1 => repeat (first | exact (Xb HO_440002.out).2.2 | (with_reducible refine Kd.C_alloc ?_ _) | (with_reducible refine Kd.C_drewN ?_ _) | (with_reducible refine Kd.C_drew ?_))); (case side2 => exact (Xb HO_440002.out).2.1); rintro e w75 ⟨rfl, hb⟩; have n0_ := Qa (Xh (kr HO_4.out) hb); have n1_ := Qa (Xh (kr HO_440002.out) hb); have n2_ := Qa (Qb (nc BK421.out) hb); have n3_ := Qa (Qb (nc BK439.out) hb); have n4_ := Qa (Qh (bl HB.out) hb); clear HO_4 HO_440002; clear BK421 BK439 HB; have HO_4 := n0_; have HO_440002 := n1_; have BK421 := n2_; have BK439 := n3_; have HB := n4_; clear n0_ n1_ n2_ n3_ n4_; (try clear hb)))
                  go_meet
                  case rel => exact ⟨_, (!t452), (by first | rfl | (simp; done) | (simp [*]; done)), H', ⟨by have := HJ5.out; have := HJ19.out; have := HK3.out; first | omega | exact Nat.le_refl _⟩, ⟨kr HO_440002.out⟩, ⟨nc BK421.out⟩, ⟨nc BK439.out⟩, ⟨bl HB.out⟩⟩
                replace c70 := Bool.eq_false_iff.mpr c70
                subst c70
                have H1 : (payrollref43_Decode.j3 k3 true t434 t437 x440002_3) = some (r1, r2, r3, r4) := by rw [if_neg (show ¬ (false = true) by decide)] at H; exact H
                clear H
                have H := H1
                clear H1
                have H' := Qa H
                clear H
                go_wp2
                go_meet
                case rel => exact ⟨_, (true), (by first | rfl | (simp; done) | (simp [*]; done)), H', ⟨by have := HJ5.out; have := HJ19.out; have := HK3.out; first | omega | exact Nat.le_refl _⟩, ⟨kr HO_440002.out⟩, ⟨nc BK421.out⟩, ⟨nc BK439.out⟩, ⟨bl HB.out⟩⟩
              replace c69 := Bool.eq_false_iff.mpr c69
              subst c69
              have H1 : (payrollref43_Decode.j3 k3 true t434 t437 x440002_3) = some (r1, r2, r3, r4) := by rw [if_neg (show ¬ (false = true) by decide)] at H; exact H
              clear H
              have H := H1
              clear H1
              have H' := Qa H
              clear H
              go_wp2
              go_meet
              case rel => exact ⟨_, (true), (by first | rfl | (simp; done) | (simp [*]; done)), H', ⟨by have := HJ5.out; have := HJ19.out; have := HK3.out; first | omega | exact Nat.le_refl _⟩, ⟨kr HO_440002.out⟩, ⟨nc BK421.out⟩, ⟨nc BK439.out⟩, ⟨bl HB.out⟩⟩
             case rest =>
              clear HC68
              try clear c1
              try clear c2
              try clear c2b0
              try clear c2b1
              try clear p2
              try clear c3
              try clear c4
              try clear p4
              try clear q4
              try clear hx4
              try clear qi4
              try clear c5
              try clear c6
              try clear p6
              try clear c7
              try clear c9
              try clear c10
              try clear c10b0
              try clear c10b1
              try clear c13
              try clear c13b0
              try clear c14
              try clear c14b0
              try clear c16
              try clear c18
              try clear c18b0
              try clear c18b1
              try clear c20
              try clear c23
              try clear c23b0
              try clear c23b1
              try clear c24
              try clear c24b0
              try clear c24b1
              try clear c25
              try clear c25b0
              try clear c25b1
              try clear c26
              try clear c26b0
              try clear c26b1
              try clear c30
              try clear c32
              try clear c32b0
              try clear c32b1
              try clear c34
              try clear c34b0
              try clear c34b1
              try clear c38
              try clear c40
              try clear c40b0
              try clear c41
              try clear c41b0
              try clear c42
              try clear c42b0
              try clear p42
              try clear q42
              try clear hx42
              try clear qi42
              try clear p43
              try clear q43
              try clear hx43
              try clear qi43
              try clear p44
              try clear q44
              try clear hx44
              try clear c45
              try clear c46
              try clear c48
              try clear c49
              try clear c50
              try clear c51
              try clear c52
              try clear c54
              try clear c63
              try clear c64
              try clear p64
              try clear c66
              try clear c69
              try clear c70
              try clear c72
              try clear hcz17_0
              try clear hcz17_1
              try clear hcz17_2
              try clear hcz31_0
              try clear hcz31_1
              try clear hcz31_2
              try clear hcz39_0
              try clear hcz39_1
              try clear hcz39_2
              try clear hcz4_0
              try clear hcz4_1
              try clear hcz4_2
              try clear hcz53_0
              try clear hcz53_1
              try clear hcz53_2
              try clear hcz55_0
              try clear hcz55_1
              try clear hcz55_2
              try clear hcz58_0
              try clear hcz58_1
              try clear hcz58_2
              try clear hcz65_0
              try clear hcz65_1
              try clear hcz65_2
              try clear hcz67_0
              try clear hcz67_1
              try clear hcz67_2
              try clear hcz73_0
              try clear hcz73_1
              try clear hcz73_2
              try clear hfz17_0
              try clear hfz17_1
              try clear hfz17_2
              try clear hfz31_0
              try clear hfz31_1
              try clear hfz31_2
              try clear hfz39_0
              try clear hfz39_1
              try clear hfz39_2
              try clear hfz4_0
              try clear hfz4_1
              try clear hfz4_2
              try clear hfz53_0
              try clear hfz53_1
              try clear hfz53_2
              try clear hfz55_0
              try clear hfz55_1
              try clear hfz55_2
              try clear hfz58_0
              try clear hfz58_1
              try clear hfz58_2
              try clear hfz65_0
              try clear hfz65_1
              try clear hfz65_2
              try clear hfz67_0
              try clear hfz67_1
              try clear hfz67_2
              try clear hfz73_0
              try clear hfz73_1
              try clear hfz73_2
              try clear hx426_0
              try clear hx427_0
              try clear hx431_0
              try clear hx432_0
              try clear hx433_0
              try clear hx436_0
              try clear hx440_0
              try clear p2
              try clear p4
              try clear p426
              try clear p427
              try clear p431
              try clear p432
              try clear p433
              try clear p436
              try clear p440
              try clear p6
              try clear q4
              try clear q426
              try clear q427
              try clear q431
              try clear q432
              try clear q433
              try clear q436
              try clear q440
              obtain ⟨kq, x113_67, rfl, HA, HJ67, HO_440002, BK421, BK439, HB⟩ := hcut
              cases kq with
              | zero => exact absurd HA.out (by simp [payrollref43_Decode.j3])
              | succ kj67 =>
               have H := HA.out
               clear HA
               simp only [payrollref43_Decode.j3] at H
               by_cases c76 : x113_67 = true
               · subst c76
                 have H1 : (some (0,0, ([] : List (S60)), 6)) = some (r1, r2, r3, r4) := by rw [if_pos rfl] at H; exact H
                 clear H
                 have H := H1
                 clear H1
                 simp only [Option.some.injEq, Prod.mk.injEq] at H
                 obtain ⟨rfl, rfl, rfl, rfl⟩ := H
                 have hnb77 := NB421_439.out
                 have hnc77 := NB439_421.out
                 have hcz78_0 := hz BK421.out 0
                 have hcz78_1 := hz BK421.out 1
                 have hcz78_2 := hz BK421.out 2
                 have hfz78_0 := Qm BK421.out 0
                 have hfz78_1 := Qm BK421.out 1
                 have hfz78_2 := Qm BK421.out 2
                 go_wp2
                 refine Qz (Xa rfl _ _ gb421 25 #[.int .i64 0, .int .i64 0, .slice none 0 0] (0,0) _ rfl (by (with_reducible repeat (first | refine Qj ?_ _ | refine Qk ?_ | refine Ql ?_ _)); refine Qo (cs := #[.int .i64 0, .int .i64 0, .slice none 0 0]) ?_ 2 _ rfl; (with_reducible repeat (first | refine Qj ?_ _ | refine Qk ?_ | refine Ql ?_ _)); refine Qo (cs := #[.int .i64 0, .int .i64 x422001_3, .slice none 0 0]) ?_ 1 _ rfl; (with_reducible repeat (first | refine Qj ?_ _ | refine Qk ?_ | refine Ql ?_ _)); refine Qo (cs := #[.int .i64 x422000_3, .int .i64 x422001_3, .slice none 0 0]) ?_ 0 _ rfl; (with_reducible repeat (first | refine Qj ?_ _ | refine Qk ?_ | refine Ql ?_ _)); exact BK421.out) Tryz.underlying25 rfl (by kernel_rfl)) rfl ?_
                 exact ⟨_, by first | rfl | (simp [errW_none, errW_some] <;> rfl) | (simp [*, errW_none, errW_some] <;> rfl), by first | exact Kd.R_nil _ _ _ _ _ | exact Kd.N_nil _ _ _ _ _ | exact Kd.V_nil _ _ _ _ _ | exact Kd.Q_nil _ _ _ _ _ | exact Kd.S_nil _ _ _ _ _, bl HB.out⟩
               replace c76 := Bool.eq_false_iff.mpr c76
               subst c76
               have H1 : (some (t434, t437, x440002_3,0)) = some (r1, r2, r3, r4) := by rw [if_neg (show ¬ (false = true) by decide)] at H; exact H
               clear H
               have H := H1
               clear H1
               simp only [Option.some.injEq, Prod.mk.injEq] at H
               obtain ⟨rfl, rfl, rfl, rfl⟩ := H
               have hnb79 := NB439_421.out
               have hnc79 := NB421_439.out
               have hcz80_0 := hz BK439.out 0
               have hcz80_1 := hz BK439.out 1
               have hcz80_2 := hz BK439.out 2
               have hfz80_0 := Qm BK439.out 0
               have hfz80_1 := Qm BK439.out 1
               have hfz80_2 := Qm BK439.out 2
               have hcz81_0 := hz BK421.out 0
               have hcz81_1 := hz BK421.out 1
               have hcz81_2 := hz BK421.out 2
               have hfz81_0 := Qm BK421.out 0
               have hfz81_1 := Qm BK421.out 1
               have hfz81_2 := Qm BK421.out 2
               obtain ⟨Ao82, co82, eo82⟩ := Xk HO_440002.out
               subst eo82
               go_wp2
               refine Qz (Xa rfl _ _ gb421 25 #[.int .i64 t434, .int .i64 t437, .slice Ao82 x440002_3.length co82] (0,0) _ rfl (by (with_reducible repeat (first | refine Qj ?_ _ | refine Qk ?_ | refine Ql ?_ _)); refine Qo (cs := #[.int .i64 t434, .int .i64 t437, .slice none 0 0]) ?_ 2 _ rfl; (with_reducible repeat (first | refine Qj ?_ _ | refine Qk ?_ | refine Ql ?_ _)); refine Qo (cs := #[.int .i64 t434, .int .i64 x422001_3, .slice none 0 0]) ?_ 1 _ rfl; (with_reducible repeat (first | refine Qj ?_ _ | refine Qk ?_ | refine Ql ?_ _)); refine Qo (cs := #[.int .i64 x422000_3, .int .i64 x422001_3, .slice none 0 0]) ?_ 0 _ rfl; (with_reducible repeat (first | refine Qj ?_ _ | refine Qk ?_ | refine Ql ?_ _)); exact BK421.out) Tryz.underlying25 rfl (by kernel_rfl)) rfl ?_
               exact ⟨_, by first | rfl | (simp [errW_none, errW_some] <;> rfl) | (simp [*, errW_none, errW_some] <;> rfl), by (with_reducible repeat (first | apply Xc | apply Xd | apply Xe)); exact Xf (Xg (p := ⟨gb421,2, none⟩) (Xg (p := ⟨gb421,1, none⟩) (Xg (p := ⟨gb421,0, none⟩) (Kd.R_types HO_440002.out BK421.out (by decide)) (fun _ hk => hk.2) (.int .i64 t434)) (fun _ hk => hk.2) (.int .i64 t437)) (fun _ hk => hk.2) (.slice Ao82 x440002_3.length co82)) (fun _ hk => trivial), bl HB.out⟩
         rw [if_neg c34] at H
         exact absurd H (by simp)
       rw [if_neg c32] at H
       exact absurd H (by simp)
   rw [if_neg c18] at H
   exact absurd H (by simp)
end Go.Proofs.YtejgfblphgcgkaaGreatDoor.P
