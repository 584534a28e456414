/- Texts for the law FilingDecodes (kept out of a larger one). -/
import Derived.Test.YtejgfblphgcgkaaGreatDoorZFilingDecodes7
namespace Go.Proofs.YtejgfblphgcgkaaGreatDoor.P
open Go.RowKit Go.Proofs.YtejgfblphgcgkaaGreatDoorW.PrintWords Go.Proofs.YtejgfblphgcgkaaGreatDoorW.PrintLast Go.Proofs.YtejgfblphgcgkaaGreatDoorW.PrintMore
attribute [local go_sem] max2_int min2_int max_two min_two max_three min_three max_four min_four   -- for this text's walks alone
set_option linter.unusedVariables false
set_option maxHeartbeats 8000000
set_option maxRecDepth 100000
set_option linter.unusedSimpArgs false

-- given by hand: function 14 (filing_Encode), in needs
def stringslite_HasSuffix.f (a0 : Zb) (a1 : Zb) : Option (Bool) := if (a0.size : Int) ≥ (a1.size : Int) then (if 0 ≤ (wrap64 ((a0.size : Int) - (a1.size : Int))) then (if (wrap64 ((a0.size : Int) - (a1.size : Int))) ≤ (a0.size : Int) then (some ((a0.extract ((wrap64 ((a0.size : Int) - (a1.size : Int))) : Int).toNat a0.size).toList == a1.toList)) else (none)) else (none)) else (some false)
theorem stringslite_HasSuffix.calls (a0 : Zb) (a1 : Zb) (r : Bool) (w : World) (h : stringslite_HasSuffix.f a0 a1 = some r) :
 Calls Tryz.prog 97 #[.string a0, .string a1] w fun e w' => e = .returned (.bool r) ∧ Drawn0 w w' := by
 have H : (if (a0.size : Int) ≥ (a1.size : Int) then (if 0 ≤ (wrap64 ((a0.size : Int) - (a1.size : Int))) then (if (wrap64 ((a0.size : Int) - (a1.size : Int))) ≤ (a0.size : Int) then (some ((a0.extract ((wrap64 ((a0.size : Int) - (a1.size : Int))) : Int).toNat a0.size).toList == a1.toList)) else (none)) else (none)) else (some false)) = some r := h
 clear h
 by_cases c3 : (a0.size : Int) ≥ (a1.size : Int)
 · rw [if_pos c3] at H
   have c3b0 : decide ((a1.size : Int) ≤ (a0.size : Int)) = true := Xq c3
   have c3b1 : decide (a1.size ≤ a0.size) = true := Xq (Int.ofNat_le.mp c3)
   clear c3
   obtain ⟨ji4, hji4⟩ : ∃ j_ : Int, (wrap64 ((a0.size : Int) - (a1.size : Int))) = j_ := ⟨_, rfl⟩
   replace H : (if 0 ≤ (ji4) then (if (ji4) ≤ (a0.size : Int) then (some ((a0.extract ((ji4) : Int).toNat a0.size).toList == a1.toList)) else (none)) else (none)) = some r := by first | (rw [hji4] at H; exact H) | (simp only [hji4] at H ⊢; exact H)
   have hji4w : (IntKind.i64.wrap ((a0.size : Int) - (a1.size : Int))) = ji4 := (i64_w _).trans hji4
   by_cases c5 : 0 ≤ (ji4)
   · rw [if_pos c5] at H
     have c5b0 := eq_true c5
     have c5b1 : decide (0 ≤ (ji4)) = true := Xq c5
     clear c5
     by_cases c6 : (ji4) ≤ (a0.size : Int)
     · rw [if_pos c6] at H
       have c6b0 := eq_true c6
       have c6b1 : decide ((ji4) ≤ (a0.size : Int)) = true := Xq c6
       clear c6
       obtain rfl := Xz H
       go_enter Tryz.func97, Tryz.ntmps97
       go_wp2
       go_ret
       exact ⟨by first | rfl | (simp; done) | (simp only [← hji4] <;> (first | rfl | simp)) | (simp [*]; done), by repeat (first | exact Drawn0.refl _ | apply Drawn0.step)⟩
     rw [if_neg c6] at H
     exact absurd H (by simp)
   rw [if_neg c5] at H
   exact absurd H (by simp)
 rw [if_neg c3] at H
 have c3b0 : decide ((a1.size : Int) ≤ (a0.size : Int)) = false := Xr c3
 have c3b1 : decide (a1.size ≤ a0.size) = false := Xr (fun h => c3 (Int.ofNat_le.mpr h))
 clear c3
 obtain rfl := Xz H
 go_enter Tryz.func97, Tryz.ntmps97
 go_wp2
 go_ret
 exact ⟨by first | rfl | (simp; done) | (simp [*]; done), by repeat (first | exact Drawn0.refl _ | apply Drawn0.step)⟩
def stringslite_CutSuffix.f (a0 : Zb) (a1 : Zb) : Option (Zb × Bool) := (stringslite_HasSuffix.f a0 a1).bind fun t130 => (if t130 = true then (if 0 ≤ (wrap64 ((a0.size : Int) - (a1.size : Int))) then (if (wrap64 ((a0.size : Int) - (a1.size : Int))) ≤ (a0.size : Int) then (some (a0.extract 0 ((wrap64 ((a0.size : Int) - (a1.size : Int))) : Int).toNat, true)) else (none)) else (none)) else (some (a0, false)))
theorem stringslite_CutSuffix.calls (a0 : Zb) (a1 : Zb) (r1 : Zb) (r2 : Bool) (w : World) (h : stringslite_CutSuffix.f a0 a1 = some (r1, r2)) :
 Calls Tryz.prog 84 #[.string a0, .string a1] w fun e w' => e = .returned (.tuple #[.string r1, .bool r2]) ∧ Drawn0 w w' := by
 have H : ((stringslite_HasSuffix.f a0 a1).bind fun t130 => (if t130 = true then (if 0 ≤ (wrap64 ((a0.size : Int) - (a1.size : Int))) then (if (wrap64 ((a0.size : Int) - (a1.size : Int))) ≤ (a0.size : Int) then (some (a0.extract 0 ((wrap64 ((a0.size : Int) - (a1.size : Int))) : Int).toNat, true)) else (none)) else (none)) else (some (a0, false)))) = some (r1, r2) := h
 clear h
 replace H := Xx.mp H
 obtain ⟨t130, A30, H⟩ := H
 replace H : (if t130 = true then (if 0 ≤ (wrap64 ((a0.size : Int) - (a1.size : Int))) then (if (wrap64 ((a0.size : Int) - (a1.size : Int))) ≤ (a0.size : Int) then (some (a0.extract 0 ((wrap64 ((a0.size : Int) - (a1.size : Int))) : Int).toNat, true)) else (none)) else (none)) else (some (a0, false))) = some (r1, r2) := H
 have A3 := Qa A30
 clear A30
 by_cases c4 : t130 = true
 · subst c4
   have H1 : (if 0 ≤ (wrap64 ((a0.size : Int) - (a1.size : Int))) then (if (wrap64 ((a0.size : Int) - (a1.size : Int))) ≤ (a0.size : Int) then (some (a0.extract 0 ((wrap64 ((a0.size : Int) - (a1.size : Int))) : Int).toNat, true)) else (none)) else (none)) = some (r1, r2) := by rw [if_pos rfl] at H; exact H
   clear H
   have H := H1
   clear H1
   obtain ⟨ji5, hji5⟩ : ∃ j_ : Int, (wrap64 ((a0.size : Int) - (a1.size : Int))) = j_ := ⟨_, rfl⟩
   replace H : (if 0 ≤ (ji5) then (if (ji5) ≤ (a0.size : Int) then (some (a0.extract 0 ((ji5) : Int).toNat, true)) else (none)) else (none)) = some (r1, r2) := by first | (rw [hji5] at H; exact H) | (simp only [hji5] at H ⊢; exact H)
   (try rw [hji5] at A3)
   have hji5w : (IntKind.i64.wrap ((a0.size : Int) - (a1.size : Int))) = ji5 := (i64_w _).trans hji5
   by_cases c6 : 0 ≤ (ji5)
   · rw [if_pos c6] at H
     have c6b0 := eq_true c6
     have c6b1 : decide (0 ≤ (ji5)) = true := Xq c6
     clear c6
     by_cases c7 : (ji5) ≤ (a0.size : Int)
     · rw [if_pos c7] at H
       have c7b0 := eq_true c7
       have c7b1 : decide ((ji5) ≤ (a0.size : Int)) = true := Xq c7
       clear c7
       simp only [Option.some.injEq, Prod.mk.injEq] at H
       obtain ⟨rfl, rfl⟩ := H
       go_enter Tryz.func84, Tryz.ntmps84
       go_wp2_with (first | ((with_reducible refine Qw (f := 97) rfl ?_); refine gc (some 8) Tryz.func97 #[.string a0, .string a1] ?_; (with_reducible refine (stringslite_HasSuffix.calls a0 a1 true _ A3.out).mono ?_); rintro e w' ⟨rfl, ⟨nd, rfl⟩⟩; refine ⟨_, rfl, ?_⟩))
       go_ret2
       exact ⟨by first | rfl | (simp; done) | (simp only [← hji5] <;> (first | rfl | simp)) | (simp [*]; done), by repeat (first | exact Drawn0.refl _ | apply Drawn0.step)⟩
     rw [if_neg c7] at H
     exact absurd H (by simp)
   rw [if_neg c6] at H
   exact absurd H (by simp)
 replace c4 := Bool.eq_false_iff.mpr c4
 subst c4
 have H1 : (some (a0, false)) = some (r1, r2) := by rw [if_neg (show ¬ (false = true) by decide)] at H; exact H
 clear H
 have H := H1
 clear H1
 simp only [Option.some.injEq, Prod.mk.injEq] at H
 obtain ⟨rfl, rfl⟩ := H
 go_enter Tryz.func84, Tryz.ntmps84
 go_wp2_with (first | ((with_reducible refine Qw (f := 97) rfl ?_); refine gc (some 8) Tryz.func97 #[.string a0, .string a1] ?_; (with_reducible refine (stringslite_HasSuffix.calls a0 a1 false _ A3.out).mono ?_); rintro e w' ⟨rfl, ⟨nd, rfl⟩⟩; refine ⟨_, rfl, ?_⟩))
 go_ret2
 exact ⟨by first | rfl | (simp; done) | (simp [*]; done), by repeat (first | exact Drawn0.refl _ | apply Drawn0.step)⟩
def strings_CutSuffix.f (a0 : Zb) (a1 : Zb) : Option (Zb × Bool) := (stringslite_CutSuffix.f a0 a1).bind fun bt131 => (some (bt131.1, bt131.2))
theorem strings_CutSuffix.calls (a0 : Zb) (a1 : Zb) (r1 : Zb) (r2 : Bool) (w : World) (h : strings_CutSuffix.f a0 a1 = some (r1, r2)) :
 Calls Tryz.prog 70 #[.string a0, .string a1] w fun e w' => e = .returned (.tuple #[.string r1, .bool r2]) ∧ Drawn0 w w' := by
 have H : ((stringslite_CutSuffix.f a0 a1).bind fun bt131 => (some (bt131.1, bt131.2))) = some (r1, r2) := h
 clear h
 replace H := Xx.mp H
 obtain ⟨⟨t131, t132⟩, A30, H⟩ := H
 replace H : (some (t131, t132)) = some (r1, r2) := H
 have A3 := Qa A30
 clear A30
 simp only [Option.some.injEq, Prod.mk.injEq] at H
 obtain ⟨rfl, rfl⟩ := H
 go_enter Tryz.func70, Tryz.ntmps70
 go_wp2_with (first | ((with_reducible refine Qw (f := 84) rfl ?_); refine gc (some 8) Tryz.func84 #[.string a0, .string a1] ?_; (with_reducible refine (stringslite_CutSuffix.calls a0 a1 t131 t132 _ A3.out).mono ?_); rintro e w' ⟨rfl, ⟨nd, rfl⟩⟩; refine ⟨_, rfl, ?_⟩))
 go_ret2
 exact ⟨by first | rfl | (simp; done) | (simp [*]; done), by repeat (first | exact Drawn0.refl _ | apply Drawn0.step)⟩

-- given by hand: function 71 (strings_Split), in alone

-- given by hand: function 72 (filing_number), in alone
mutual
def filing_line.j0 : Nat → List Zb → Bool → Int → Zb → Int → Option (Int × Zb × Int × Bool)
 | 0, _, _, _, _, _ => none
 | k + 1, x4, x12, x138000, x138001, x138002 => if x12 = true then (if 1 < (x4.length : Int) then (if 0 ≤ (wrap64 ((x4.length : Int) - 1)) then (if (wrap64 ((x4.length : Int) - 1)) < (x4.length : Int) then ((filing_number.f (rdOf ByteArray.empty x4 (wrap64 ((x4.length : Int) - 1)))).bind fun bt141 => (some (4, rdOf ByteArray.empty x4 1, bt141.1, bt141.2))) else (none)) else (none)) else (none)) else (if (x4.length : Int) = 3 then (if 0 < (x4.length : Int) then (filing_line.j1 k x4 ((rdOf ByteArray.empty x4 0).toList == ([101,109,112,108,111,121,101,114] : List UInt8)) x138000 x138001 x138002) else (none)) else (filing_line.j1 k x4 false x138000 x138001 x138002))
def filing_line.j1 : Nat → List Zb → Bool → Int → Zb → Int → Option (Int × Zb × Int × Bool)
 | 0, _, _, _, _, _ => none
 | k + 1, x4, x27, x138000, x138001, x138002 => if x27 = true then (if 1 < (x4.length : Int) then (if 0 ≤ (wrap64 ((x4.length : Int) - 1)) then (if (wrap64 ((x4.length : Int) - 1)) < (x4.length : Int) then ((filing_number.f (rdOf ByteArray.empty x4 (wrap64 ((x4.length : Int) - 1)))).bind fun bt146 => (some (5, rdOf ByteArray.empty x4 1, bt146.1, bt146.2))) else (none)) else (none)) else (none)) else (if (x4.length : Int) = 2 then (if 0 < (x4.length : Int) then (if (rdOf ByteArray.empty x4 0).toList = ([116,97,120] : List UInt8) then (if 0 ≤ (wrap64 ((x4.length : Int) - 1)) then (if (wrap64 ((x4.length : Int) - 1)) < (x4.length : Int) then ((filing_number.f (rdOf ByteArray.empty x4 (wrap64 ((x4.length : Int) - 1)))).bind fun bt150 => (some (6, x138001, bt150.1, bt150.2))) else (none)) else (none)) else (some (x138000, x138001, x138002, false))) else (none)) else (some (x138000, x138001, x138002, false)))
end
def filing_line.f (k : Nat) (a0 : Zb) : Option (Int × Zb × Int × Bool) := (strings_Split.f a0 (⟨#[32]⟩ : Zb)).bind fun t134 => (if (t134.length : Int) = 3 then (if 0 < (t134.length : Int) then (filing_line.j0 k t134 ((rdOf ByteArray.empty t134 0).toList == ([108,101,118,121] : List UInt8)) 0 (⟨#[]⟩ : Zb) 0) else (none)) else (filing_line.j0 k t134 false 0 (⟨#[]⟩ : Zb) 0))
theorem filing_line.calls (k : Nat) (a0 : Zb) (r1 : Int) (r2 : Zb) (r3 : Int) (r4 : Bool) (w : World) (hT : Tabs w) (h : filing_line.f k a0 = some (r1, r2, r3, r4)) :
 Calls Tryz.prog 73 #[.string a0] w fun e w' => e = .returned (.tuple #[.agg #[.int .i64 r1, .string r2, .int .i64 r3], .bool r4]) ∧ Below w.heap.size w w' := by
 have hu60 := Tryz.underlying60
 have HB := Qa (Below.refl w.heap.size w)
 have HT := Qa hT
 clear hT
 have H : ((strings_Split.f a0 (⟨#[32]⟩ : Zb)).bind fun t134 => (if (t134.length : Int) = 3 then (if 0 < (t134.length : Int) then (filing_line.j0 k t134 ((rdOf ByteArray.empty t134 0).toList == ([108,101,118,121] : List UInt8)) 0 (⟨#[]⟩ : Zb) 0) else (none)) else (filing_line.j0 k t134 false 0 (⟨#[]⟩ : Zb) 0))) = some (r1, r2, r3, r4) := h
 clear h
 replace H := Xx.mp H
 obtain ⟨t134, A20, H⟩ := H
 replace H : (if (t134.length : Int) = 3 then (if 0 < (t134.length : Int) then (filing_line.j0 k t134 ((rdOf ByteArray.empty t134 0).toList == ([108,101,118,121] : List UInt8)) 0 (⟨#[]⟩ : Zb) 0) else (none)) else (filing_line.j0 k t134 false 0 (⟨#[]⟩ : Zb) 0)) = some (r1, r2, r3, r4) := H
 have A2 := Qa A20
 clear A20
 have HC3 := Qa H
 clear H
 go_enter Tryz.func73, Tryz.ntmps73
 go_upto_region 4 with (first | ((with_reducible refine Qx (N := 2) rfl ?_); refine Qv ?hg (N := 2) ?hd (cs := #[.int .i64 0, .string (⟨#[]⟩ : Zb), .int .i64 0]) (t := 60) ?hr ?_; (case hd => rfl); (case hg => rfl); (case hr => first | (go_simp; done) | (go_simp; rfl)); intro gb133 hg w4 hbox hb; have n0_ := Qa (Qh (bl HB.out) hb); have n1_ := Qa (hbox); have n2_ := Qa ((by rw [hg]; exact (Qi (bl HB.out)) : w.heap.size ≤ gb133)); have n3_ := Qa ((by rw [hg]; exact (Qi (bl HB.out)) : w.heap.size ≤ gb133)); clear HB; have HB := n0_; have BK133 := n1_; have GW133 := n2_; have GE133 := n3_; clear n0_ n1_ n2_ n3_; clear hb hbox hg) | ((with_reducible refine Qw (f := 71) rfl ?_); refine gc (some 9) Tryz.func71 #[.string a0, .string (⟨#[32]⟩ : Zb)] ?_; (with_reducible refine (strings_Split.calls a0 (⟨#[32]⟩ : Zb) t134 _ ?side1 A2.out).mono ?_); (case side1 => exact Tabs.below HT.out (bl HB.out)); rintro e w5 ⟨v135, rfl, ho0, hb⟩; refine ⟨_, rfl, ?_⟩; have n0_ := Qa (Kd.R_lower ho0 (Qi (bl HB.out))); have n1_ := Qa (Qb (nc BK133.out) hb); have n2_ := Qa (Qh (bl HB.out) hb); clear BK133 HB; have HO136 := n0_; have BK133 := n1_; have HB := n2_; clear n0_ n1_ n2_; (try clear hb); (try clear ho0)) | ((with_reducible refine Qx (N := 5) rfl ?_); refine Qv ?hg (N := 5) ?hd (cs := #[.int .i64 0, .string (⟨#[]⟩ : Zb), .int .i64 0]) (t := 60) ?hr ?_; (case hd => rfl); (case hg => rfl); (case hr => first | (go_simp; done) | (go_simp; rfl)); intro gb137 hg w6 hbox hb; have n0_ := Qa (Xh (kr HO136.out) hb); have n1_ := Qa (Qb (nc BK133.out) hb); have n2_ := Qa (Qh (bl HB.out) hb); have n3_ := Qa (hbox); have n4_ := Qa ((by rw [hg]; exact (Qi (bl HB.out)) : w.heap.size ≤ gb137)); have n5_ := Qa ((by rw [hg]; exact (Qi (bl HB.out)) : w.heap.size ≤ gb137)); have n6_ := Qa ((by rw [hg]; exact Nat.ne_of_lt (blk_lt (nc BK133.out)) : gb133 ≠ gb137)); have n7_ := Qa ((by rw [hg]; exact Nat.ne_of_gt (blk_lt (nc BK133.out)) : gb137 ≠ gb133)); clear HO136 BK133 HB; have HO136 := n0_; have BK133 := n1_; have HB := n2_; have BK137 := n3_; have GW137 := n4_; have GE137 := n5_; have NB133_137 := n6_; have NB137_133 := n7_; clear n0_ n1_ n2_ n3_ n4_ n5_ n6_ n7_; clear hb hbox hg; have hnb7 := NB137_133.out; have hnc7 := NB133_137.out; have hcz8_0 := hz BK137.out 0; have hcz8_1 := hz BK137.out 1; have hcz8_2 := hz BK137.out 2; have hfz8_0 := Qm BK137.out 0; have hfz8_1 := Qm BK137.out 1; have hfz8_2 := Qm BK137.out 2))
 (try simp only [Act.put, Xt, Xu, Xv])
 go_cut [12] (fun v12 wc => ∃ (kq : Nat) (x12_2 : Bool), v12 = .bool x12_2 ∧ Aside0 (filing_line.j0 kq t134 x12_2 0 (⟨#[]⟩ : Zb) 0 = some (r1, r2, r3, r4)) ∧ Aside0 (kq ≤ k) ∧ Aside0 (Kd.R Kd.string 9 wc w.heap.size (fun _ => True) v135 t134) ∧ Aside0 (wc.heap[gb133]? = some (.cells #[.int .i64 0, .string (⟨#[]⟩ : Zb), .int .i64 0] 60 (0,0))) ∧ Aside0 (wc.heap[gb137]? = some (.cells #[.int .i64 0, .string (⟨#[]⟩ : Zb), .int .i64 0] 60 (0,0))) ∧ Aside0 (Below w.heap.size w wc))
 case first =>
  have H := HC3.out
  clear HC3
  by_cases c9 : (t134.length : Int) = 3
  · rw [if_pos c9] at H
    have c9b0 : ((t134.length : Int) == 3) = true := Yb.mpr c9
    have c9b1 : ((t134.length : Int) != 3) = false := bne_eq_false_iff_eq.mpr c9
    clear c9
    (first | rw [c9b0] | (simp only [i64_w, i32_w]; rw [c9b0]) | skip)
    by_cases c10 : 0 < (t134.length : Int)
    · rw [if_pos c10] at H
      have c10b0 : decide (0 < (t134.length : Int)) = true := Xq c10
      have c10b1 : decide (0 < t134.length) = true := Xq (by omega)
      clear c10
      have H' := Qa H
      clear H
      obtain ⟨Ao11, co11, eo11⟩ := Xk HO136.out
      subst eo11
      have p138 : 0 ≤ (0 : Int) := (by omega)
      have q138 : 0 < (t134.length : Int) := Xp (by assumption)
      obtain ⟨ad138, e138, hx138_0⟩ := Kd.at_string (Xb HO136.out).2.2 0 p138 q138
      cases e138
      have qi138 : (0 < t134.length) = True := eq_true (by omega)
      (try rw [show ((0 : Int)).toNat = 0 from rfl] at hx138_0)
      (try rw [Addr.add_zero'] at hx138_0)
      have hn138_0 : ad138.block ≠ gb137 := Kd.own_blk (Kd.R_ne HO136.out BK137.out (by decide))
      have hn138_1 : ad138.block ≠ gb137 := Kd.own_blk (Kd.R_ne HO136.out BK137.out (by decide))
      have hn138_2 : ad138.block ≠ gb137 := Kd.own_blk (Kd.R_ne HO136.out BK137.out (by decide))
      replace hx138_0 := (cell_far (p := ⟨gb137,0, none⟩) (by first | (rw [add_block]; exact hn138_0) | (show (Addr.add _ _).block ≠ _; rw [add_block]; exact hn138_0) | exact hn138_0) (.int .i64 0)).trans hx138_0
      replace hx138_0 := (cell_far (p := ⟨gb137,1, none⟩) (by first | (rw [add_block]; exact hn138_1) | (show (Addr.add _ _).block ≠ _; rw [add_block]; exact hn138_1) | exact hn138_1) (.string (⟨#[]⟩ : Zb))).trans hx138_0
      replace hx138_0 := (cell_far (p := ⟨gb137,2, none⟩) (by first | (rw [add_block]; exact hn138_2) | (show (Addr.add _ _).block ≠ _; rw [add_block]; exact hn138_2) | exact hn138_2) (.int .i64 0)).trans hx138_0
      clear hn138_0
      clear hn138_1
      clear hn138_2
      replace p138 := eq_true p138
      replace q138 := eq_true q138
      go_wp2
      go_meet
      case rel => exact ⟨_, (((rdOf ByteArray.empty t134 0).toList == ([108,101,118,121] : List UInt8))), (by first | rfl | (simp; done) | (simp [*]; done)), H', ⟨by first | omega | exact Nat.le_refl _⟩, ⟨by (with_reducible repeat (first | apply Xc | apply Xd | apply Xe)); exact Xf (Xg (p := ⟨gb137,2, none⟩) (Xg (p := ⟨gb137,1, none⟩) (Xg (p := ⟨gb137,0, none⟩) (Kd.R_types HO136.out BK137.out (by decide)) (fun _ hk => hk.2) (.int .i64 0)) (fun _ hk => hk.2) (.string (⟨#[]⟩ : Zb))) (fun _ hk => hk.2) (.int .i64 0)) (fun _ hk => trivial)⟩, ⟨by (with_reducible repeat (first | refine Qj ?_ _ | refine Qk ?_ | refine Ql ?_ _)); refine Qc ?_ NB133_137.out _; (with_reducible repeat (first | refine Qj ?_ _ | refine Qk ?_ | refine Ql ?_ _)); refine Qc ?_ NB133_137.out _; (with_reducible repeat (first | refine Qj ?_ _ | refine Qk ?_ | refine Ql ?_ _)); refine Qc ?_ NB133_137.out _; (with_reducible repeat (first | refine Qj ?_ _ | refine Qk ?_ | refine Ql ?_ _)); exact BK133.out⟩, ⟨by (with_reducible repeat (first | refine Qj ?_ _ | refine Qk ?_ | refine Ql ?_ _)); refine Qo (cs := #[.int .i64 0, .string (⟨#[]⟩ : Zb), .int .i64 0]) ?_ 2 _ rfl; (with_reducible repeat (first | refine Qj ?_ _ | refine Qk ?_ | refine Ql ?_ _)); refine Qo (cs := #[.int .i64 0, .string (⟨#[]⟩ : Zb), .int .i64 0]) ?_ 1 _ rfl; (with_reducible repeat (first | refine Qj ?_ _ | refine Qk ?_ | refine Ql ?_ _)); refine Qo (cs := #[.int .i64 0, .string (⟨#[]⟩ : Zb), .int .i64 0]) ?_ 0 _ rfl; (with_reducible repeat (first | refine Qj ?_ _ | refine Qk ?_ | refine Ql ?_ _)); exact BK137.out⟩, ⟨bl HB.out⟩⟩
    rw [if_neg c10] at H
    exact absurd H (by simp)
  rw [if_neg c9] at H
  have c9b0 : ((t134.length : Int) == 3) = false := Ya.mpr c9
  have c9b1 : ((t134.length : Int) != 3) = true := Yc.mpr c9
  (first | rw [c9b0] | (simp only [i64_w, i32_w]; rw [c9b0]) | skip)
  have H' := Qa H
  clear H
  obtain ⟨Ao12, co12, eo12⟩ := Xk HO136.out
  subst eo12
  go_wp2
  go_meet
  case rel => exact ⟨_, (false), (by first | rfl | (simp; done) | (simp [*]; done)), H', ⟨by first | omega | exact Nat.le_refl _⟩, ⟨by (with_reducible repeat (first | apply Xc | apply Xd | apply Xe)); exact Xf (Xg (p := ⟨gb137,2, none⟩) (Xg (p := ⟨gb137,1, none⟩) (Xg (p := ⟨gb137,0, none⟩) (Kd.R_types HO136.out BK137.out (by decide)) (fun _ hk => hk.2) (.int .i64 0)) (fun _ hk => hk.2) (.string (⟨#[]⟩ : Zb))) (fun _ hk => hk.2) (.int .i64 0)) (fun _ hk => trivial)⟩, ⟨by (with_reducible repeat (first | refine Qj ?_ _ | refine Qk ?_ | refine Ql ?_ _)); refine Qc ?_ NB133_137.out _; (with_reducible repeat (first | refine Qj ?_ _ | refine Qk ?_ | refine Ql ?_ _)); refine Qc ?_ NB133_137.out _; (with_reducible repeat (first | refine Qj ?_ _ | refine Qk ?_ | refine Ql ?_ _)); refine Qc ?_ NB133_137.out _; (with_reducible repeat (first | refine Qj ?_ _ | refine Qk ?_ | refine Ql ?_ _)); exact BK133.out⟩, ⟨by (with_reducible repeat (first | refine Qj ?_ _ | refine Qk ?_ | refine Ql ?_ _)); refine Qo (cs := #[.int .i64 0, .string (⟨#[]⟩ : Zb), .int .i64 0]) ?_ 2 _ rfl; (with_reducible repeat (first | refine Qj ?_ _ | refine Qk ?_ | refine Ql ?_ _)); refine Qo (cs := #[.int .i64 0, .string (⟨#[]⟩ : Zb), .int .i64 0]) ?_ 1 _ rfl; (with_reducible repeat (first | refine Qj ?_ _ | refine Qk ?_ | refine Ql ?_ _)); refine Qo (cs := #[.int .i64 0, .string (⟨#[]⟩ : Zb), .int .i64 0]) ?_ 0 _ rfl; (with_reducible repeat (first | refine Qj ?_ _ | refine Qk ?_ | refine Ql ?_ _)); exact BK137.out⟩, ⟨bl HB.out⟩⟩
 case rest =>
  clear HC3
  try clear c1
  try clear p1
  try clear q1
  try clear hx1
  try clear qi1
  try clear p2
  try clear c7
  try clear c9
  try clear c9b0
  try clear c9b1
  try clear c10
  try clear c10b0
  try clear c10b1
  try clear hcz8_0
  try clear hcz8_1
  try clear hcz8_2
  try clear hfz8_0
  try clear hfz8_1
  try clear hfz8_2
  try clear hx138_0
  try clear p138
  try clear q138
  obtain ⟨kq, x12_2, rfl, HA, HJ2, HO_4, BK133, BK137, HB⟩ := hcut
  cases kq with
  | zero => exact absurd HA.out (by simp [filing_line.j0])
  | succ kj2 =>
   have H := HA.out
   clear HA
   simp only [filing_line.j0] at H
   by_cases c13 : x12_2 = true
   · subst c13
     have H1 : (if 1 < (t134.length : Int) then (if 0 ≤ (wrap64 ((t134.length : Int) - 1)) then (if (wrap64 ((t134.length : Int) - 1)) < (t134.length : Int) then ((filing_number.f (rdOf ByteArray.empty t134 (wrap64 ((t134.length : Int) - 1)))).bind fun bt141 => (some (4, rdOf ByteArray.empty t134 1, bt141.1, bt141.2))) else (none)) else (none)) else (none)) = some (r1, r2, r3, r4) := by rw [if_pos rfl] at H; exact H
     clear H
     have H := H1
     clear H1
     by_cases c14 : 1 < (t134.length : Int)
     · rw [if_pos c14] at H
       have c14b0 : decide (1 < (t134.length : Int)) = true := Xq c14
       have c14b1 : decide (1 < t134.length) = true := Xq (by omega)
       clear c14
       obtain ⟨ji15, hji15⟩ : ∃ j_ : Int, (wrap64 ((t134.length : Int) - 1)) = j_ := ⟨_, rfl⟩
       replace H : (if 0 ≤ (ji15) then (if (ji15) < (t134.length : Int) then ((filing_number.f (rdOf ByteArray.empty t134 (ji15))).bind fun bt141 => (some (4, rdOf ByteArray.empty t134 1, bt141.1, bt141.2))) else (none)) else (none)) = some (r1, r2, r3, r4) := by first | (rw [hji15] at H; exact H) | (simp only [hji15] at H ⊢; exact H)
       have hji15w : (IntKind.i64.wrap ((t134.length : Int) - 1)) = ji15 := (i64_w _).trans hji15
       by_cases c16 : 0 ≤ (ji15)
       · rw [if_pos c16] at H
         have c16b0 : decide (0 ≤ (ji15)) = true := Xq c16
         clear c16
         by_cases c17 : (ji15) < (t134.length : Int)
         · rw [if_pos c17] at H
           have c17b0 : decide ((ji15) < (t134.length : Int)) = true := Xq c17
           clear c17
           replace H := Xx.mp H
           obtain ⟨⟨t141, t142⟩, A180, H⟩ := H
           replace H : (some (4, rdOf ByteArray.empty t134 1, t141, t142)) = some (r1, r2, r3, r4) := H
           have A18 := Qa A180
           clear A180
           simp only [Option.some.injEq, Prod.mk.injEq] at H
           obtain ⟨rfl, rfl, rfl, rfl⟩ := H
           try go_wp2
           have n0_ := Qa (Xe HO_4.out)
           have n1_ := Qa (Qk BK133.out)
           have n2_ := Qa (Qk BK137.out)
           have n3_ := Qa (Qf HB.out)
           clear HO_4
           clear BK133
           clear BK137
           clear HB
           have HO_4 := n0_
           have BK133 := n1_
           have BK137 := n2_
           have HB := n3_
           clear n0_ n1_ n2_ n3_
           obtain ⟨Ao20, co20, eo20⟩ := Xk HO_4.out
           (first | subst eo20 | (injection eo20 with f1_ f2_ f3_; have f4_ := f1_.symm; have f5_ := f3_.symm; clear f1_ f2_ f3_; subst f4_; subst f5_))
           have p139 : 0 ≤ (1 : Int) := (by omega)
           have q139 : 1 < (t134.length : Int) := Xp (by assumption)
           obtain ⟨ad139, e139, hx139_0⟩ := Kd.at_string (Xb HO_4.out).2.2 1 p139 q139
           cases e139
           (try simp only [show (1 : Int).toNat = 1 from rfl, Nat.reduceMul, Nat.reduceEqDiff, Go.Addr.add, ↓reduceIte] at hx139_0)
           have qi139 : (1 < t134.length) = True := eq_true (by omega)
           (try rw [show ((1 : Int)).toNat = 1 from rfl] at hx139_0)
           replace p139 := eq_true p139
           replace q139 := eq_true q139
           refine start_ (n := 7) (S := fun w' => w'.cell? ⟨ad139.block, ad139.off + 1, none⟩ = some (.string (rdOf ByteArray.empty t134 1))) (ds := []) #[Zf,Zf,Zf,Zf,Zf,Zf,Zf] (by kernel_rfl) rfl rfl (hx139_0) (fun hHeld => ?_)
           generalize wc.drew = w19 at HO_4 BK133 BK137 HB hx139_0 hHeld ⊢
           refine pure_ (i := 0) (N := some 22) (v := ?_) (a' := ?_) #[Zt,Zf,Zf,Zf,Zf,Zf,Zf] rfl rfl (by kernel_rfl) (fun _ _ _ h => h) (Or.inl ⟨by rfl, ?_⟩) ?_ ?_
           rotate_left
           · intro w'
             go_simp
             with_reducible rfl
           rotate_left
           · simp only [Act.put, Xt, Xu, Xv, i64_w, i32_w]
             rfl
           refine pure_ (i := 1) (N := some 23) (v := ?_) (a' := ?_) #[Zt,Zt,Zf,Zf,Zf,Zf,Zf] rfl rfl (by kernel_rfl) (fun _ _ _ h => h) (Or.inl ⟨by rfl, ?_⟩) ?_ ?_
           rotate_left
           · intro w'
             go_simp
             with_reducible rfl
           rotate_left
           · simp only [Act.put, Xt, Xu, Xv, i64_w, i32_w]
             rfl
           refine pure_ (i := 3) (N := some 25) (v := ?_) (a' := ?_) #[Zt,Zt,Zf,Zt,Zf,Zf,Zf] rfl rfl (by kernel_rfl) (fun _ _ _ h => h) (Or.inl ⟨by rfl, ?_⟩) ?_ ?_
           rotate_left
           · intro w'
             go_simp
             with_reducible rfl
           rotate_left
           · simp only [Act.put, Xt, Xu, Xv, i64_w, i32_w]
             rfl
           refine take_ (i := 2) (N := some 24) (v := ?_) (a' := ?_) #[Zt,Zt,Zt,Zt,Zf,Zf,Zf] rfl rfl (by kernel_rfl) (fun _ _ _ h => h) (Or.inl ⟨by rfl, ?_⟩) hHeld ?_ ?_
           rotate_left
           · intro w' s0
             go_simp
             with_reducible rfl
           rotate_left
           · simp only [Act.put, Xt, Xu, Xv, i64_w, i32_w]
             rfl
           refine one_ (i := 4) (N := none) #[Zt,Zt,Zt,Zt,Zt,Zf,Zf] rfl rfl (by kernel_rfl) (by decide) (fun K hK => ?_)
           have hs21 : w19.cell? ⟨gb137,0, none⟩ = some (.int .i64 0) := (Qn BK137.out 0).trans rfl
           have hfs21 := Qm BK137.out 0
           have hns21_0 := NB133_137.out
           have hms21_0 := NB137_133.out
           refine skip_ (w1 := ?_) (by rfl) rfl ?_ ?_
           rotate_left
           · go_simp
             rfl
           refine hK.out _ _ (((cell_far (p := ⟨gb137, _, none⟩) (by first | exact Kd.own_blk (Kd.R_ne HO_4.out BK137.out (by decide)) | (rw [add_block]; exact Kd.own_blk (Kd.R_ne HO_4.out BK137.out (by decide))) | (show (Addr.add _ _).block ≠ _; rw [add_block]; exact Kd.own_blk (Kd.R_ne HO_4.out BK137.out (by decide))) | (dsimp only; exact Kd.own_blk (Kd.R_ne HO_4.out BK137.out (by decide)))) _).trans (hHeld))) (fun hHeld => ?_)
           clear hK K
           refine pure_ (i := 5) (N := some 26) (v := ?_) (a' := ?_) #[Zt,Zt,Zt,Zt,Zt,Zt,Zf] rfl rfl (by kernel_rfl) (fun _ _ _ h => h) (Or.inl ⟨by rfl, ?_⟩) ?_ ?_
           rotate_left
           · intro w'
             go_simp
             with_reducible rfl
           rotate_left
           · simp only [Act.put, Xt, Xu, Xv, i64_w, i32_w]
             rfl
           refine one_ (i := 6) (N := none) #[Zt,Zt,Zt,Zt,Zt,Zt,Zt] rfl rfl (by kernel_rfl) (by decide) (fun K hK => ?_)
           have hs22 : w19.cell? ⟨gb137,1, none⟩ = some (.string (⟨#[]⟩ : Zb)) := (Qn BK137.out 1).trans rfl
           have hfs22 := Qm BK137.out 1
           have hns22_0 := NB133_137.out
           have hms22_0 := NB137_133.out
           refine skip_ (w1 := ?_) (by rfl) rfl ?_ ?_
           rotate_left
           · go_simp
             rfl
           refine hK.out _ _ (((cell_far (p := ⟨gb137, _, none⟩) (by first | exact Kd.own_blk (Kd.R_ne HO_4.out BK137.out (by decide)) | (rw [add_block]; exact Kd.own_blk (Kd.R_ne HO_4.out BK137.out (by decide))) | (show (Addr.add _ _).block ≠ _; rw [add_block]; exact Kd.own_blk (Kd.R_ne HO_4.out BK137.out (by decide))) | (dsimp only; exact Kd.own_blk (Kd.R_ne HO_4.out BK137.out (by decide)))) _).trans (hHeld))) (fun hHeld => ?_)
           clear hK K
           refine done_ (by kernel_rfl) ?_
           have p140 : 0 ≤ ((ji15) : Int) := Xp (by assumption)
           have q140 : (ji15) < (t134.length : Int) := Xp (by assumption)
           obtain ⟨ad140, e140, hx140_0⟩ := Kd.at_string (Xb HO_4.out).2.2 (ji15) p140 q140
           obtain rfl : ad139 = ad140 := (by injection e140)
           have hn140_0 : ad139.block ≠ gb137 := Kd.own_blk (Kd.R_ne HO_4.out BK137.out (by decide))
           have hn140_1 : ad139.block ≠ gb137 := Kd.own_blk (Kd.R_ne HO_4.out BK137.out (by decide))
           replace hx140_0 := (cell_far (p := ⟨gb137,0, none⟩) (by first | (rw [add_block]; exact hn140_0) | (show (Addr.add _ _).block ≠ _; rw [add_block]; exact hn140_0) | exact hn140_0) (.int .i64 4)).trans hx140_0
           replace hx140_0 := (cell_far (p := ⟨gb137,1, none⟩) (by first | (rw [add_block]; exact hn140_1) | (show (Addr.add _ _).block ≠ _; rw [add_block]; exact hn140_1) | exact hn140_1) (.string (rdOf ByteArray.empty t134 1))).trans hx140_0
           clear hn140_0
           clear hn140_1
           replace p140 := eq_true p140
           replace q140 := eq_true q140
           try go_wp2_with (first | ((with_reducible refine Qw (f := 72) rfl ?_); refine Qy (some 60) rfl rfl Tryz.func72 (by kernel_rfl) rfl #[.string (rdOf ByteArray.empty t134 (ji15))] rfl (by (try simp only [List.map_toArray, List.map_cons, List.map_nil]); first | done | (simp only [hji15]; rfl) | rfl | (simp only [List.length_drop, List.length_take]; rfl)) ?_; (with_reducible refine (filing_number.calls (rdOf ByteArray.empty t134 (ji15)) t141 t142 _ ?side1 A18.out).mono ?_); (case side1 => exact Tabs.below HT.out (bl HB.out)); rintro e w23 ⟨rfl, hb⟩; refine ⟨_, rfl, ?_⟩; have n0_ := Qa (Xh (by (with_reducible repeat (first | apply Xc | apply Xd | apply Xe)); exact (Xf (Xg (p := ⟨gb137,1, none⟩) (Xg (p := ⟨gb137,0, none⟩) (Kd.R_types HO_4.out BK137.out (by decide)) (fun _ hk => hk.2) (.int .i64 4)) (fun _ hk => hk.2) (.string (rdOf ByteArray.empty t134 1))) (fun _ h_ => h_.1))) hb); have n1_ := Qa (Qb (g := gb133) (o := .cells #[.int .i64 0, .string (⟨#[]⟩ : Zb), .int .i64 0] 60 (0,0)) (by (with_reducible repeat (first | refine Qj ?_ _ | refine Qk ?_ | refine Ql ?_ _)); refine Qc ?_ NB133_137.out _; (with_reducible repeat (first | refine Qj ?_ _ | refine Qk ?_ | refine Ql ?_ _)); refine Qc ?_ NB133_137.out _; (with_reducible repeat (first | refine Qj ?_ _ | refine Qk ?_ | refine Ql ?_ _)); exact BK133.out) hb); have n2_ := Qa (Qb (g := gb137) (o := .cells #[.int .i64 4, .string (rdOf ByteArray.empty t134 1), .int .i64 0] 60 (0,0)) (by (with_reducible repeat (first | refine Qj ?_ _ | refine Qk ?_ | refine Ql ?_ _)); refine Qo (cs := #[.int .i64 4, .string (⟨#[]⟩ : Zb), .int .i64 0]) ?_ 1 _ rfl; (with_reducible repeat (first | refine Qj ?_ _ | refine Qk ?_ | refine Ql ?_ _)); refine Qo (cs := #[.int .i64 0, .string (⟨#[]⟩ : Zb), .int .i64 0]) ?_ 0 _ rfl; (with_reducible repeat (first | refine Qj ?_ _ | refine Qk ?_ | refine Ql ?_ _)); exact BK137.out) hb); have n3_ := Qa (Qh (bl HB.out) hb); clear HO_4 BK133; clear BK137 HB; have HO_4 := n0_; have BK133 := n1_; have BK137 := n2_; have HB := n3_; clear n0_ n1_ n2_ n3_; (try clear hb); have hnb24 := NB137_133.out; have hnc24 := NB133_137.out; have hcz25_0 := hz BK137.out 0; have hcz25_1 := hz BK137.out 1; have hcz25_2 := hz BK137.out 2; have hfz25_0 := Qm BK137.out 0; have hfz25_1 := Qm BK137.out 1; have hfz25_2 := Qm BK137.out 2; have hcz26_0 := hz BK133.out 0; have hcz26_1 := hz BK133.out 1; have hcz26_2 := hz BK133.out 2; have hfz26_0 := Qm BK133.out 0; have hfz26_1 := Qm BK133.out 1; have hfz26_2 := Qm BK133.out 2))
           refine Qz (Xa rfl _ _ gb133 60 #[.int .i64 4, .string (rdOf ByteArray.empty t134 1), .int .i64 t141] (0,0) _ rfl (by (with_reducible repeat (first | refine Qj ?_ _ | refine Qk ?_ | refine Ql ?_ _)); refine Qo (cs := #[.int .i64 4, .string (rdOf ByteArray.empty t134 1), .int .i64 0]) ?_ 2 _ rfl; (with_reducible repeat (first | refine Qj ?_ _ | refine Qk ?_ | refine Ql ?_ _)); refine Qo (cs := #[.int .i64 4, .string (⟨#[]⟩ : Zb), .int .i64 0]) ?_ 1 _ rfl; (with_reducible repeat (first | refine Qj ?_ _ | refine Qk ?_ | refine Ql ?_ _)); refine Qo (cs := #[.int .i64 0, .string (⟨#[]⟩ : Zb), .int .i64 0]) ?_ 0 _ rfl; (with_reducible repeat (first | refine Qj ?_ _ | refine Qk ?_ | refine Ql ?_ _)); refine Qc ?_ NB133_137.out _; (with_reducible repeat (first | refine Qj ?_ _ | refine Qk ?_ | refine Ql ?_ _)); exact BK133.out) Tryz.underlying60 rfl (by kernel_rfl)) rfl ?_
           exact ⟨by first | rfl | (simp [errW_none, errW_some] <;> rfl) | (simp only [← hji15]; first | rfl | (simp [errW_none, errW_some] <;> rfl)) | (simp [*, errW_none, errW_some] <;> rfl), bl HB.out⟩
         rw [if_neg c17] at H
         exact absurd H (by simp)
       rw [if_neg c16] at H
       exact absurd H (by simp)
     rw [if_neg c14] at H
     exact absurd H (by simp)
   replace c13 := Bool.eq_false_iff.mpr c13
   subst c13
   have H1 : (if (t134.length : Int) = 3 then (if 0 < (t134.length : Int) then (filing_line.j1 kj2 t134 ((rdOf ByteArray.empty t134 0).toList == ([101,109,112,108,111,121,101,114] : List UInt8)) 0 (⟨#[]⟩ : Zb) 0) else (none)) else (filing_line.j1 kj2 t134 false 0 (⟨#[]⟩ : Zb) 0)) = some (r1, r2, r3, r4) := by rw [if_neg (show ¬ (false = true) by decide)] at H; exact H
   clear H
   have H := H1
   clear H1
   have HC27 := Qa H
   clear H
   go_upto_region 6 with (fail)
   go_cut [27] (fun v27 wc => ∃ (kq : Nat) (x27_26 : Bool), v27 = .bool x27_26 ∧ Aside0 (filing_line.j1 kq t134 x27_26 0 (⟨#[]⟩ : Zb) 0 = some (r1, r2, r3, r4)) ∧ Aside0 (kq ≤ kj2) ∧ Aside0 (Kd.R Kd.string 9 wc w.heap.size (fun _ => True) v135 t134) ∧ Aside0 (wc.heap[gb133]? = some (.cells #[.int .i64 0, .string (⟨#[]⟩ : Zb), .int .i64 0] 60 (0,0))) ∧ Aside0 (wc.heap[gb137]? = some (.cells #[.int .i64 0, .string (⟨#[]⟩ : Zb), .int .i64 0] 60 (0,0))) ∧ Aside0 (Below w.heap.size w wc))
   case first =>
    have H := HC27.out
    clear HC27
    by_cases c28 : (t134.length : Int) = 3
    · rw [if_pos c28] at H
      have c28b0 : ((t134.length : Int) == 3) = true := Yb.mpr c28
      have c28b1 : ((t134.length : Int) != 3) = false := bne_eq_false_iff_eq.mpr c28
      clear c28
      (first | rw [c28b0] | (simp only [i64_w, i32_w]; rw [c28b0]) | skip)
      by_cases c29 : 0 < (t134.length : Int)
      · rw [if_pos c29] at H
        have c29b0 : decide (0 < (t134.length : Int)) = true := Xq c29
        have c29b1 : decide (0 < t134.length) = true := Xq (by omega)
        clear c29
        have H' := Qa H
        clear H
        obtain ⟨Ao30, co30, eo30⟩ := Xk HO_4.out
        subst eo30
        have p143 : 0 ≤ (0 : Int) := (by omega)
        have q143 : 0 < (t134.length : Int) := Xp (by assumption)
        obtain ⟨ad143, e143, hx143_0⟩ := Kd.at_string (Xb HO_4.out).2.2 0 p143 q143
        cases e143
        have qi143 : (0 < t134.length) = True := eq_true (by omega)
        (try rw [show ((0 : Int)).toNat = 0 from rfl] at hx143_0)
        (try rw [Addr.add_zero'] at hx143_0)
        replace p143 := eq_true p143
        replace q143 := eq_true q143
        go_wp2
        go_meet
        case rel => exact ⟨_, (((rdOf ByteArray.empty t134 0).toList == ([101,109,112,108,111,121,101,114] : List UInt8))), (by first | rfl | (simp; done) | (simp [*]; done)), H', ⟨by have := HJ2.out; first | omega | exact Nat.le_refl _⟩, ⟨kr HO_4.out⟩, ⟨nc BK133.out⟩, ⟨nc BK137.out⟩, ⟨bl HB.out⟩⟩
      rw [if_neg c29] at H
      exact absurd H (by simp)
    rw [if_neg c28] at H
    have c28b0 : ((t134.length : Int) == 3) = false := Ya.mpr c28
    have c28b1 : ((t134.length : Int) != 3) = true := Yc.mpr c28
    (first | rw [c28b0] | (simp only [i64_w, i32_w]; rw [c28b0]) | skip)
    have H' := Qa H
    clear H
    obtain ⟨Ao31, co31, eo31⟩ := Xk HO_4.out
    subst eo31
    go_wp2
    go_meet
    case rel => exact ⟨_, (false), (by first | rfl | (simp; done) | (simp [*]; done)), H', ⟨by have := HJ2.out; first | omega | exact Nat.le_refl _⟩, ⟨kr HO_4.out⟩, ⟨nc BK133.out⟩, ⟨nc BK137.out⟩, ⟨bl HB.out⟩⟩
   case rest =>
    clear HC27
    try clear c1
    try clear p1
    try clear q1
    try clear hx1
    try clear qi1
    try clear c2
    try clear p2
    try clear p6
    try clear c7
    try clear c9
    try clear c9b0
    try clear c9b1
    try clear c10
    try clear c10b0
    try clear c10b1
    try clear c13
    try clear p13
    try clear q13
    try clear hx13
    try clear qi13
    try clear c14
    try clear c14b0
    try clear c14b1
    try clear p14
    try clear q14
    try clear hx14
    try clear qi14
    try clear c16
    try clear c16b0
    try clear c17
    try clear c17b0
    try clear c24
    try clear c28
    try clear c28b0
    try clear c28b1
    try clear c29
    try clear c29b0
    try clear c29b1
    try clear hcz25_0
    try clear hcz25_1
    try clear hcz25_2
    try clear hcz26_0
    try clear hcz26_1
    try clear hcz26_2
    try clear hcz8_0
    try clear hcz8_1
    try clear hcz8_2
    try clear hfz25_0
    try clear hfz25_1
    try clear hfz25_2
    try clear hfz26_0
    try clear hfz26_1
    try clear hfz26_2
    try clear hfz8_0
    try clear hfz8_1
    try clear hfz8_2
    try clear hx138_0
    try clear hx139_0
    try clear hx140_0
    try clear hx143_0
    try clear p1
    try clear p138
    try clear p139
    try clear p140
    try clear p143
    try clear p2
    try clear q1
    try clear q138
    try clear q139
    try clear q140
    try clear q143
    obtain ⟨kq, x27_26, rfl, HA, HJ26, HO_4, BK133, BK137, HB⟩ := hcut
    cases kq with
    | zero => exact absurd HA.out (by simp [filing_line.j1])
    | succ kj26 =>
     have H := HA.out
     clear HA
     simp only [filing_line.j1] at H
     by_cases c32 : x27_26 = true
     · subst c32
       have H1 : (if 1 < (t134.length : Int) then (if 0 ≤ (wrap64 ((t134.length : Int) - 1)) then (if (wrap64 ((t134.length : Int) - 1)) < (t134.length : Int) then ((filing_number.f (rdOf ByteArray.empty t134 (wrap64 ((t134.length : Int) - 1)))).bind fun bt146 => (some (5, rdOf ByteArray.empty t134 1, bt146.1, bt146.2))) else (none)) else (none)) else (none)) = some (r1, r2, r3, r4) := by rw [if_pos rfl] at H; exact H
       clear H
       have H := H1
       clear H1
       by_cases c33 : 1 < (t134.length : Int)
       · rw [if_pos c33] at H
         have c33b0 : decide (1 < (t134.length : Int)) = true := Xq c33
         have c33b1 : decide (1 < t134.length) = true := Xq (by omega)
         clear c33
         obtain ⟨ji34, hji34⟩ : ∃ j_ : Int, (wrap64 ((t134.length : Int) - 1)) = j_ := ⟨_, rfl⟩
         replace H : (if 0 ≤ (ji34) then (if (ji34) < (t134.length : Int) then ((filing_number.f (rdOf ByteArray.empty t134 (ji34))).bind fun bt146 => (some (5, rdOf ByteArray.empty t134 1, bt146.1, bt146.2))) else (none)) else (none)) = some (r1, r2, r3, r4) := by first | (rw [hji34] at H; exact H) | (simp only [hji34] at H ⊢; exact H)
         have hji34w : (IntKind.i64.wrap ((t134.length : Int) - 1)) = ji34 := (i64_w _).trans hji34
         by_cases c35 : 0 ≤ (ji34)
         · rw [if_pos c35] at H
           have c35b0 : decide (0 ≤ (ji34)) = true := Xq c35
           clear c35
           by_cases c36 : (ji34) < (t134.length : Int)
           · rw [if_pos c36] at H
             have c36b0 : decide ((ji34) < (t134.length : Int)) = true := Xq c36
             clear c36
             replace H := Xx.mp H
             obtain ⟨⟨t146, t147⟩, A370, H⟩ := H
             replace H : (some (5, rdOf ByteArray.empty t134 1, t146, t147)) = some (r1, r2, r3, r4) := H
             have A37 := Qa A370
             clear A370
             simp only [Option.some.injEq, Prod.mk.injEq] at H
             obtain ⟨rfl, rfl, rfl, rfl⟩ := H
             try go_wp2
             have n0_ := Qa (Xe HO_4.out)
             have n1_ := Qa (Qk BK133.out)
             have n2_ := Qa (Qk BK137.out)
             have n3_ := Qa (Qf HB.out)
             clear HO_4
             clear BK133
             clear BK137
             clear HB
             have HO_4 := n0_
             have BK133 := n1_
             have BK137 := n2_
             have HB := n3_
             clear n0_ n1_ n2_ n3_
             obtain ⟨Ao39, co39, eo39⟩ := Xk HO_4.out
             (first | subst eo39 | (injection eo39 with f1_ f2_ f3_; have f4_ := f1_.symm; have f5_ := f3_.symm; clear f1_ f2_ f3_; subst f4_; subst f5_))
             have p144 : 0 ≤ (1 : Int) := (by omega)
             have q144 : 1 < (t134.length : Int) := Xp (by assumption)
             obtain ⟨ad144, e144, hx144_0⟩ := Kd.at_string (Xb HO_4.out).2.2 1 p144 q144
             cases e144
             (try simp only [show (1 : Int).toNat = 1 from rfl, Nat.reduceMul, Nat.reduceEqDiff, Go.Addr.add, ↓reduceIte] at hx144_0)
             have qi144 : (1 < t134.length) = True := eq_true (by omega)
             (try rw [show ((1 : Int)).toNat = 1 from rfl] at hx144_0)
             replace p144 := eq_true p144
             replace q144 := eq_true q144
             refine start_ (n := 7) (S := fun w' => w'.cell? ⟨ad144.block, ad144.off + 1, none⟩ = some (.string (rdOf ByteArray.empty t134 1))) (ds := []) #[Zf,Zf,Zf,Zf,Zf,Zf,Zf] (by kernel_rfl) rfl rfl (hx144_0) (fun hHeld => ?_)
             generalize wc.drew = w38 at HO_4 BK133 BK137 HB hx144_0 hHeld ⊢
             refine pure_ (i := 0) (N := some 37) (v := ?_) (a' := ?_) #[Zt,Zf,Zf,Zf,Zf,Zf,Zf] rfl rfl (by kernel_rfl) (fun _ _ _ h => h) (Or.inl ⟨by rfl, ?_⟩) ?_ ?_
             rotate_left
             · intro w'
               go_simp
               with_reducible rfl
             rotate_left
             · simp only [Act.put, Xt, Xu, Xv, i64_w, i32_w]
               rfl
             refine pure_ (i := 1) (N := some 38) (v := ?_) (a' := ?_) #[Zt,Zt,Zf,Zf,Zf,Zf,Zf] rfl rfl (by kernel_rfl) (fun _ _ _ h => h) (Or.inl ⟨by rfl, ?_⟩) ?_ ?_
             rotate_left
             · intro w'
               go_simp
               with_reducible rfl
             rotate_left
             · simp only [Act.put, Xt, Xu, Xv, i64_w, i32_w]
               rfl
             refine pure_ (i := 3) (N := some 40) (v := ?_) (a' := ?_) #[Zt,Zt,Zf,Zt,Zf,Zf,Zf] rfl rfl (by kernel_rfl) (fun _ _ _ h => h) (Or.inl ⟨by rfl, ?_⟩) ?_ ?_
             rotate_left
             · intro w'
               go_simp
               with_reducible rfl
             rotate_left
             · simp only [Act.put, Xt, Xu, Xv, i64_w, i32_w]
               rfl
             refine take_ (i := 2) (N := some 39) (v := ?_) (a' := ?_) #[Zt,Zt,Zt,Zt,Zf,Zf,Zf] rfl rfl (by kernel_rfl) (fun _ _ _ h => h) (Or.inl ⟨by rfl, ?_⟩) hHeld ?_ ?_
             rotate_left
             · intro w' s0
               go_simp
               with_reducible rfl
             rotate_left
             · simp only [Act.put, Xt, Xu, Xv, i64_w, i32_w]
               rfl
             refine one_ (i := 4) (N := none) #[Zt,Zt,Zt,Zt,Zt,Zf,Zf] rfl rfl (by kernel_rfl) (by decide) (fun K hK => ?_)
             have hs40 : w38.cell? ⟨gb137,0, none⟩ = some (.int .i64 0) := (Qn BK137.out 0).trans rfl
             have hfs40 := Qm BK137.out 0
             have hns40_0 := NB133_137.out
             have hms40_0 := NB137_133.out
             refine skip_ (w1 := ?_) (by rfl) rfl ?_ ?_
             rotate_left
             · go_simp
               rfl
             refine hK.out _ _ (((cell_far (p := ⟨gb137, _, none⟩) (by first | exact Kd.own_blk (Kd.R_ne HO_4.out BK137.out (by decide)) | (rw [add_block]; exact Kd.own_blk (Kd.R_ne HO_4.out BK137.out (by decide))) | (show (Addr.add _ _).block ≠ _; rw [add_block]; exact Kd.own_blk (Kd.R_ne HO_4.out BK137.out (by decide))) | (dsimp only; exact Kd.own_blk (Kd.R_ne HO_4.out BK137.out (by decide)))) _).trans (hHeld))) (fun hHeld => ?_)
             clear hK K
             refine pure_ (i := 5) (N := some 41) (v := ?_) (a' := ?_) #[Zt,Zt,Zt,Zt,Zt,Zt,Zf] rfl rfl (by kernel_rfl) (fun _ _ _ h => h) (Or.inl ⟨by rfl, ?_⟩) ?_ ?_
             rotate_left
             · intro w'
               go_simp
               with_reducible rfl
             rotate_left
             · simp only [Act.put, Xt, Xu, Xv, i64_w, i32_w]
               rfl
             refine one_ (i := 6) (N := none) #[Zt,Zt,Zt,Zt,Zt,Zt,Zt] rfl rfl (by kernel_rfl) (by decide) (fun K hK => ?_)
             have hs41 : w38.cell? ⟨gb137,1, none⟩ = some (.string (⟨#[]⟩ : Zb)) := (Qn BK137.out 1).trans rfl
             have hfs41 := Qm BK137.out 1
             have hns41_0 := NB133_137.out
             have hms41_0 := NB137_133.out
             refine skip_ (w1 := ?_) (by rfl) rfl ?_ ?_
             rotate_left
             · go_simp
               rfl
             refine hK.out _ _ (((cell_far (p := ⟨gb137, _, none⟩) (by first | exact Kd.own_blk (Kd.R_ne HO_4.out BK137.out (by decide)) | (rw [add_block]; exact Kd.own_blk (Kd.R_ne HO_4.out BK137.out (by decide))) | (show (Addr.add _ _).block ≠ _; rw [add_block]; exact Kd.own_blk (Kd.R_ne HO_4.out BK137.out (by decide))) | (dsimp only; exact Kd.own_blk (Kd.R_ne HO_4.out BK137.out (by decide)))) _).trans (hHeld))) (fun hHeld => ?_)
             clear hK K
             refine done_ (by kernel_rfl) ?_
             have p145 : 0 ≤ ((ji34) : Int) := Xp (by assumption)
             have q145 : (ji34) < (t134.length : Int) := Xp (by assumption)
             obtain ⟨ad145, e145, hx145_0⟩ := Kd.at_string (Xb HO_4.out).2.2 (ji34) p145 q145
             obtain rfl : ad144 = ad145 := (by injection e145)
             have hn145_0 : ad144.block ≠ gb137 := Kd.own_blk (Kd.R_ne HO_4.out BK137.out (by decide))
             have hn145_1 : ad144.block ≠ gb137 := Kd.own_blk (Kd.R_ne HO_4.out BK137.out (by decide))
             replace hx145_0 := (cell_far (p := ⟨gb137,0, none⟩) (by first | (rw [add_block]; exact hn145_0) | (show (Addr.add _ _).block ≠ _; rw [add_block]; exact hn145_0) | exact hn145_0) (.int .i64 5)).trans hx145_0
             replace hx145_0 := (cell_far (p := ⟨gb137,1, none⟩) (by first | (rw [add_block]; exact hn145_1) | (show (Addr.add _ _).block ≠ _; rw [add_block]; exact hn145_1) | exact hn145_1) (.string (rdOf ByteArray.empty t134 1))).trans hx145_0
             clear hn145_0
             clear hn145_1
             replace p145 := eq_true p145
             replace q145 := eq_true q145
             try go_wp2_with (first | ((with_reducible refine Qw (f := 72) rfl ?_); refine Qy (some 60) rfl rfl Tryz.func72 (by kernel_rfl) rfl #[.string (rdOf ByteArray.empty t134 (ji34))] rfl (by (try simp only [List.map_toArray, List.map_cons, List.map_nil]); first | done | (simp only [hji34]; rfl) | rfl | (simp only [List.length_drop, List.length_take]; rfl)) ?_; (with_reducible refine (filing_number.calls (rdOf ByteArray.empty t134 (ji34)) t146 t147 _ ?side1 A37.out).mono ?_); (case side1 => exact Tabs.below HT.out (bl HB.out)); rintro e w42 ⟨rfl, hb⟩; refine ⟨_, rfl, ?_⟩; have n0_ := Qa (Xh (by (with_reducible repeat (first | apply Xc | apply Xd | apply Xe)); exact (Xf (Xg (p := ⟨gb137,1, none⟩) (Xg (p := ⟨gb137,0, none⟩) (Kd.R_types HO_4.out BK137.out (by decide)) (fun _ hk => hk.2) (.int .i64 5)) (fun _ hk => hk.2) (.string (rdOf ByteArray.empty t134 1))) (fun _ h_ => h_.1))) hb); have n1_ := Qa (Qb (g := gb133) (o := .cells #[.int .i64 0, .string (⟨#[]⟩ : Zb), .int .i64 0] 60 (0,0)) (by (with_reducible repeat (first | refine Qj ?_ _ | refine Qk ?_ | refine Ql ?_ _)); refine Qc ?_ NB133_137.out _; (with_reducible repeat (first | refine Qj ?_ _ | refine Qk ?_ | refine Ql ?_ _)); refine Qc ?_ NB133_137.out _; (with_reducible repeat (first | refine Qj ?_ _ | refine Qk ?_ | refine Ql ?_ _)); exact BK133.out) hb); have n2_ := Qa (Qb (g := gb137) (o := .cells #[.int .i64 5, .string (rdOf ByteArray.empty t134 1), .int .i64 0] 60 (0,0)) (by (with_reducible repeat (first | refine Qj ?_ _ | refine Qk ?_ | refine Ql ?_ _)); refine Qo (cs := #[.int .i64 5, .string (⟨#[]⟩ : Zb), .int .i64 0]) ?_ 1 _ rfl; (with_reducible repeat (first | refine Qj ?_ _ | refine Qk ?_ | refine Ql ?_ _)); refine Qo (cs := #[.int .i64 0, .string (⟨#[]⟩ : Zb), .int .i64 0]) ?_ 0 _ rfl; (with_reducible repeat (first | refine Qj ?_ _ | refine Qk ?_ | refine Ql ?_ _)); exact BK137.out) hb); have n3_ := Qa (Qh (bl HB.out) hb); clear HO_4 BK133; clear BK137 HB; have HO_4 := n0_; have BK133 := n1_; have BK137 := n2_; have HB := n3_; clear n0_ n1_ n2_ n3_; (try clear hb); have hnb43 := NB137_133.out; have hnc43 := NB133_137.out; have hcz44_0 := hz BK137.out 0; have hcz44_1 := hz BK137.out 1; have hcz44_2 := hz BK137.out 2; have hfz44_0 := Qm BK137.out 0; have hfz44_1 := Qm BK137.out 1; have hfz44_2 := Qm BK137.out 2; have hcz45_0 := hz BK133.out 0; have hcz45_1 := hz BK133.out 1; have hcz45_2 := hz BK133.out 2; have hfz45_0 := Qm BK133.out 0; have hfz45_1 := Qm BK133.out 1; have hfz45_2 := Qm BK133.out 2))
             refine Qz (Xa rfl _ _ gb133 60 #[.int .i64 5, .string (rdOf ByteArray.empty t134 1), .int .i64 t146] (0,0) _ rfl (by (with_reducible repeat (first | refine Qj ?_ _ | refine Qk ?_ | refine Ql ?_ _)); refine Qo (cs := #[.int .i64 5, .string (rdOf ByteArray.empty t134 1), .int .i64 0]) ?_ 2 _ rfl; (with_reducible repeat (first | refine Qj ?_ _ | refine Qk ?_ | refine Ql ?_ _)); refine Qo (cs := #[.int .i64 5, .string (⟨#[]⟩ : Zb), .int .i64 0]) ?_ 1 _ rfl; (with_reducible repeat (first | refine Qj ?_ _ | refine Qk ?_ | refine Ql ?_ _)); refine Qo (cs := #[.int .i64 0, .string (⟨#[]⟩ : Zb), .int .i64 0]) ?_ 0 _ rfl; (with_reducible repeat (first | refine Qj ?_ _ | refine Qk ?_ | refine Ql ?_ _)); refine Qc ?_ NB133_137.out _; (with_reducible repeat (first | refine Qj ?_ _ | refine Qk ?_ | refine Ql ?_ _)); exact BK133.out) Tryz.underlying60 rfl (by kernel_rfl)) rfl ?_
             exact ⟨by first | rfl | (simp [errW_none, errW_some] <;> rfl) | (simp only [← hji34]; first | rfl | (simp [errW_none, errW_some] <;> rfl)) | (simp [*, errW_none, errW_some] <;> rfl), bl HB.out⟩
           rw [if_neg c36] at H
           exact absurd H (by simp)
         rw [if_neg c35] at H
         exact absurd H (by simp)
       rw [if_neg c33] at H
       exact absurd H (by simp)
     replace c32 := Bool.eq_false_iff.mpr c32
     subst c32
     have H1 : (if (t134.length : Int) = 2 then (if 0 < (t134.length : Int) then (if (rdOf ByteArray.empty t134 0).toList = ([116,97,120] : List UInt8) then (if 0 ≤ (wrap64 ((t134.length : Int) - 1)) then (if (wrap64 ((t134.length : Int) - 1)) < (t134.length : Int) then ((filing_number.f (rdOf ByteArray.empty t134 (wrap64 ((t134.length : Int) - 1)))).bind fun bt150 => (some (6, (⟨#[]⟩ : Zb), bt150.1, bt150.2))) else (none)) else (none)) else (some (0, (⟨#[]⟩ : Zb), 0, false))) else (none)) else (some (0, (⟨#[]⟩ : Zb), 0, false))) = some (r1, r2, r3, r4) := by rw [if_neg (show ¬ (false = true) by decide)] at H; exact H
     clear H
     have H := H1
     clear H1
     by_cases c46 : (t134.length : Int) = 2
     · rw [if_pos c46] at H
       have c46b0 : ((t134.length : Int) == 2) = true := Yb.mpr c46
       have c46b1 : ((t134.length : Int) != 2) = false := bne_eq_false_iff_eq.mpr c46
       clear c46
       by_cases c47 : 0 < (t134.length : Int)
       · rw [if_pos c47] at H
         have c47b0 : decide (0 < (t134.length : Int)) = true := Xq c47
         have c47b1 : decide (0 < t134.length) = true := Xq (by omega)
         clear c47
         by_cases c48 : (rdOf ByteArray.empty t134 0).toList = ([116,97,120] : List UInt8)
         · rw [if_pos c48] at H
           have c48b0 : ((rdOf ByteArray.empty t134 0).toList == ([116,97,120] : List UInt8)) = true := Yb.mpr c48
           have c48b1 : ((rdOf ByteArray.empty t134 0).toList != ([116,97,120] : List UInt8)) = false := bne_eq_false_iff_eq.mpr c48
           clear c48
           obtain ⟨ji49, hji49⟩ : ∃ j_ : Int, (wrap64 ((t134.length : Int) - 1)) = j_ := ⟨_, rfl⟩
           replace H : (if 0 ≤ (ji49) then (if (ji49) < (t134.length : Int) then ((filing_number.f (rdOf ByteArray.empty t134 (ji49))).bind fun bt150 => (some (6, (⟨#[]⟩ : Zb), bt150.1, bt150.2))) else (none)) else (none)) = some (r1, r2, r3, r4) := by first | (rw [hji49] at H; exact H) | (simp only [hji49] at H ⊢; exact H)
           have hji49w : (IntKind.i64.wrap ((t134.length : Int) - 1)) = ji49 := (i64_w _).trans hji49
           by_cases c50 : 0 ≤ (ji49)
           · rw [if_pos c50] at H
             have c50b0 : decide (0 ≤ (ji49)) = true := Xq c50
             clear c50
             by_cases c51 : (ji49) < (t134.length : Int)
             · rw [if_pos c51] at H
               have c51b0 : decide ((ji49) < (t134.length : Int)) = true := Xq c51
               clear c51
               replace H := Xx.mp H
               obtain ⟨⟨t150, t151⟩, A520, H⟩ := H
               replace H : (some (6, (⟨#[]⟩ : Zb), t150, t151)) = some (r1, r2, r3, r4) := H
               have A52 := Qa A520
               clear A520
               simp only [Option.some.injEq, Prod.mk.injEq] at H
               obtain ⟨rfl, rfl, rfl, rfl⟩ := H
               obtain ⟨Ao53, co53, eo53⟩ := Xk HO_4.out
               subst eo53
               have p148 : 0 ≤ (0 : Int) := (by omega)
               have q148 : 0 < (t134.length : Int) := Xp (by assumption)
               obtain ⟨ad148, e148, hx148_0⟩ := Kd.at_string (Xb HO_4.out).2.2 0 p148 q148
               cases e148
               have qi148 : (0 < t134.length) = True := eq_true (by omega)
               (try rw [show ((0 : Int)).toNat = 0 from rfl] at hx148_0)
               (try rw [Addr.add_zero'] at hx148_0)
               replace p148 := eq_true p148
               replace q148 := eq_true q148
               have hnb54 := NB137_133.out
               have hnc54 := NB133_137.out
               have hcz55_0 := hz BK137.out 0
               have hcz55_1 := hz BK137.out 1
               have hcz55_2 := hz BK137.out 2
               have hfz55_0 := Qm BK137.out 0
               have hfz55_1 := Qm BK137.out 1
               have hfz55_2 := Qm BK137.out 2
               have p149 : 0 ≤ ((ji49) : Int) := Xp (by assumption)
               have q149 : (ji49) < (t134.length : Int) := Xp (by assumption)
               obtain ⟨ad149, e149, hx149_0⟩ := Kd.at_string (Xb HO_4.out).2.2 (ji49) p149 q149
               obtain rfl : ad148 = ad149 := (by injection e149)
               have hn149_0 : ad148.block ≠ gb137 := Kd.own_blk (Kd.R_ne HO_4.out BK137.out (by decide))
               replace hx149_0 := (cell_far (p := ⟨gb137,0, none⟩) (by first | (rw [add_block]; exact hn149_0) | (show (Addr.add _ _).block ≠ _; rw [add_block]; exact hn149_0) | exact hn149_0) (.int .i64 6)).trans hx149_0
               clear hn149_0
               replace p149 := eq_true p149
               replace q149 := eq_true q149
               go_wp2_with (first | ((with_reducible refine Qw (f := 72) rfl ?_); refine Qy (some 60) rfl rfl Tryz.func72 (by kernel_rfl) rfl #[.string (rdOf ByteArray.empty t134 (ji49))] rfl (by (try simp only [List.map_toArray, List.map_cons, List.map_nil]); first | done | (simp only [hji49]; rfl) | rfl | (simp only [List.length_drop, List.length_take]; rfl)) ?_; (with_reducible refine (filing_number.calls (rdOf ByteArray.empty t134 (ji49)) t150 t151 _ ?side1 A52.out).mono ?_); (case side1 => exact Tabs.below HT.out (bl HB.out)); rintro e w56 ⟨rfl, hb⟩; refine ⟨_, rfl, ?_⟩; have n0_ := Qa (Xh (by (with_reducible repeat (first | apply Xc | apply Xd | apply Xe)); exact (Xf (Xg (p := ⟨gb137,0, none⟩) (Kd.R_types HO_4.out BK137.out (by decide)) (fun _ hk => hk.2) (.int .i64 6)) (fun _ h_ => h_.1))) hb); have n1_ := Qa (Qb (g := gb133) (o := .cells #[.int .i64 0, .string (⟨#[]⟩ : Zb), .int .i64 0] 60 (0,0)) (by (with_reducible repeat (first | refine Qj ?_ _ | refine Qk ?_ | refine Ql ?_ _)); refine Qc ?_ NB133_137.out _; (with_reducible repeat (first | refine Qj ?_ _ | refine Qk ?_ | refine Ql ?_ _)); exact BK133.out) hb); have n2_ := Qa (Qb (g := gb137) (o := .cells #[.int .i64 6, .string (⟨#[]⟩ : Zb), .int .i64 0] 60 (0,0)) (by (with_reducible repeat (first | refine Qj ?_ _ | refine Qk ?_ | refine Ql ?_ _)); refine Qo (cs := #[.int .i64 0, .string (⟨#[]⟩ : Zb), .int .i64 0]) ?_ 0 _ rfl; (with_reducible repeat (first | refine Qj ?_ _ | refine Qk ?_ | refine Ql ?_ _)); exact BK137.out) hb); have n3_ := Qa (Qh (bl HB.out) hb); clear HO_4 BK133; clear BK137 HB; have HO_4 := n0_; have BK133 := n1_; have BK137 := n2_; have HB := n3_; clear n0_ n1_ n2_ n3_; (try clear hb); have hcz57_0 := hz BK137.out 0; have hcz57_1 := hz BK137.out 1; have hcz57_2 := hz BK137.out 2; have hfz57_0 := Qm BK137.out 0; have hfz57_1 := Qm BK137.out 1; have hfz57_2 := Qm BK137.out 2; have hcz58_0 := hz BK133.out 0; have hcz58_1 := hz BK133.out 1; have hcz58_2 := hz BK133.out 2; have hfz58_0 := Qm BK133.out 0; have hfz58_1 := Qm BK133.out 1; have hfz58_2 := Qm BK133.out 2))
               refine Qz (Xa rfl _ _ gb133 60 #[.int .i64 6, .string (⟨#[]⟩ : Zb), .int .i64 t150] (0,0) _ rfl (by (with_reducible repeat (first | refine Qj ?_ _ | refine Qk ?_ | refine Ql ?_ _)); refine Qo (cs := #[.int .i64 6, .string (⟨#[]⟩ : Zb), .int .i64 0]) ?_ 2 _ rfl; (with_reducible repeat (first | refine Qj ?_ _ | refine Qk ?_ | refine Ql ?_ _)); refine Qo (cs := #[.int .i64 6, .string (⟨#[]⟩ : Zb), .int .i64 0]) ?_ 1 _ rfl; (with_reducible repeat (first | refine Qj ?_ _ | refine Qk ?_ | refine Ql ?_ _)); refine Qo (cs := #[.int .i64 0, .string (⟨#[]⟩ : Zb), .int .i64 0]) ?_ 0 _ rfl; (with_reducible repeat (first | refine Qj ?_ _ | refine Qk ?_ | refine Ql ?_ _)); refine Qc ?_ NB133_137.out _; (with_reducible repeat (first | refine Qj ?_ _ | refine Qk ?_ | refine Ql ?_ _)); exact BK133.out) Tryz.underlying60 rfl (by kernel_rfl)) rfl ?_
               exact ⟨by first | rfl | (simp [errW_none, errW_some] <;> rfl) | (simp only [← hji49]; first | rfl | (simp [errW_none, errW_some] <;> rfl)) | (simp [*, errW_none, errW_some] <;> rfl), bl HB.out⟩
             rw [if_neg c51] at H
             exact absurd H (by simp)
           rw [if_neg c50] at H
           exact absurd H (by simp)
         rw [if_neg c48] at H
         have c48b0 : ((rdOf ByteArray.empty t134 0).toList == ([116,97,120] : List UInt8)) = false := Ya.mpr c48
         have c48b1 : ((rdOf ByteArray.empty t134 0).toList != ([116,97,120] : List UInt8)) = true := Yc.mpr c48
         simp only [Option.some.injEq, Prod.mk.injEq] at H
         obtain ⟨rfl, rfl, rfl, rfl⟩ := H
         obtain ⟨Ao59, co59, eo59⟩ := Xk HO_4.out
         subst eo59
         have p148 : 0 ≤ (0 : Int) := (by omega)
         have q148 : 0 < (t134.length : Int) := Xp (by assumption)
         obtain ⟨ad148, e148, hx148_0⟩ := Kd.at_string (Xb HO_4.out).2.2 0 p148 q148
         cases e148
         have qi148 : (0 < t134.length) = True := eq_true (by omega)
         (try rw [show ((0 : Int)).toNat = 0 from rfl] at hx148_0)
         (try rw [Addr.add_zero'] at hx148_0)
         replace p148 := eq_true p148
         replace q148 := eq_true q148
         have hnb60 := NB137_133.out
         have hnc60 := NB133_137.out
         have hcz61_0 := hz BK137.out 0
         have hcz61_1 := hz BK137.out 1
         have hcz61_2 := hz BK137.out 2
         have hfz61_0 := Qm BK137.out 0
         have hfz61_1 := Qm BK137.out 1
         have hfz61_2 := Qm BK137.out 2
         have hcz62_0 := hz BK133.out 0
         have hcz62_1 := hz BK133.out 1
         have hcz62_2 := hz BK133.out 2
         have hfz62_0 := Qm BK133.out 0
         have hfz62_1 := Qm BK133.out 1
         have hfz62_2 := Qm BK133.out 2
         go_wp2
         refine Qz (Xa rfl _ _ gb133 60 #[.int .i64 0, .string (⟨#[]⟩ : Zb), .int .i64 0] (0,0) _ rfl (by (with_reducible repeat (first | refine Qj ?_ _ | refine Qk ?_ | refine Ql ?_ _)); refine Qo (cs := #[.int .i64 0, .string (⟨#[]⟩ : Zb), .int .i64 0]) ?_ 2 _ rfl; (with_reducible repeat (first | refine Qj ?_ _ | refine Qk ?_ | refine Ql ?_ _)); refine Qo (cs := #[.int .i64 0, .string (⟨#[]⟩ : Zb), .int .i64 0]) ?_ 1 _ rfl; (with_reducible repeat (first | refine Qj ?_ _ | refine Qk ?_ | refine Ql ?_ _)); refine Qo (cs := #[.int .i64 0, .string (⟨#[]⟩ : Zb), .int .i64 0]) ?_ 0 _ rfl; (with_reducible repeat (first | refine Qj ?_ _ | refine Qk ?_ | refine Ql ?_ _)); exact BK133.out) Tryz.underlying60 rfl (by kernel_rfl)) rfl ?_
         exact ⟨by first | rfl | (simp [errW_none, errW_some] <;> rfl) | (simp [*, errW_none, errW_some] <;> rfl), bl HB.out⟩
       rw [if_neg c47] at H
       exact absurd H (by simp)
     rw [if_neg c46] at H
     have c46b0 : ((t134.length : Int) == 2) = false := Ya.mpr c46
     have c46b1 : ((t134.length : Int) != 2) = true := Yc.mpr c46
     simp only [Option.some.injEq, Prod.mk.injEq] at H
     obtain ⟨rfl, rfl, rfl, rfl⟩ := H
     obtain ⟨Ao63, co63, eo63⟩ := Xk HO_4.out
     subst eo63
     have hnb64 := NB137_133.out
     have hnc64 := NB133_137.out
     have hcz65_0 := hz BK137.out 0
     have hcz65_1 := hz BK137.out 1
     have hcz65_2 := hz BK137.out 2
     have hfz65_0 := Qm BK137.out 0
     have hfz65_1 := Qm BK137.out 1
     have hfz65_2 := Qm BK137.out 2
     have hcz66_0 := hz BK133.out 0
     have hcz66_1 := hz BK133.out 1
     have hcz66_2 := hz BK133.out 2
     have hfz66_0 := Qm BK133.out 0
     have hfz66_1 := Qm BK133.out 1
     have hfz66_2 := Qm BK133.out 2
     go_wp2
     refine Qz (Xa rfl _ _ gb133 60 #[.int .i64 0, .string (⟨#[]⟩ : Zb), .int .i64 0] (0,0) _ rfl (by (with_reducible repeat (first | refine Qj ?_ _ | refine Qk ?_ | refine Ql ?_ _)); refine Qo (cs := #[.int .i64 0, .string (⟨#[]⟩ : Zb), .int .i64 0]) ?_ 2 _ rfl; (with_reducible repeat (first | refine Qj ?_ _ | refine Qk ?_ | refine Ql ?_ _)); refine Qo (cs := #[.int .i64 0, .string (⟨#[]⟩ : Zb), .int .i64 0]) ?_ 1 _ rfl; (with_reducible repeat (first | refine Qj ?_ _ | refine Qk ?_ | refine Ql ?_ _)); refine Qo (cs := #[.int .i64 0, .string (⟨#[]⟩ : Zb), .int .i64 0]) ?_ 0 _ rfl; (with_reducible repeat (first | refine Qj ?_ _ | refine Qk ?_ | refine Ql ?_ _)); exact BK133.out) Tryz.underlying60 rfl (by kernel_rfl)) rfl ?_
     exact ⟨by first | rfl | (simp [errW_none, errW_some] <;> rfl) | (simp [*, errW_none, errW_some] <;> rfl), bl HB.out⟩
end Go.Proofs.YtejgfblphgcgkaaGreatDoor.P
