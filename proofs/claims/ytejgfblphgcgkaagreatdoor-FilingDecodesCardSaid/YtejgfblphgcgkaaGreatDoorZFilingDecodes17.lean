/- Texts for the law FilingDecodes (kept out of a larger one). -/
import Derived.Test.YtejgfblphgcgkaaGreatDoorZFilingDecodes11
namespace Go.Proofs.YtejgfblphgcgkaaGreatDoor.P
open Go.RowKit Go.Proofs.YtejgfblphgcgkaaGreatDoorW.PrintWords Go.Proofs.YtejgfblphgcgkaaGreatDoorW.PrintLast Go.Proofs.YtejgfblphgcgkaaGreatDoorW.PrintMore
attribute [local go_sem] max2_int min2_int max_two min_two max_three min_three max_four min_four   -- for this text's walks alone
set_option linter.unusedVariables false
set_option linter.unusedSimpArgs false
def paygen_Deck_Damage.f (k : Nat) (s0_0 : List Int) (s0_1 : Int) (a1 : Zb) : Option (Zb × Int) := if a1.toList = ([] : List UInt8) then (some (a1, s0_1)) else ((paygen_Deck_Next.f k s0_0 s0_1 (a1.size : Int)).bind fun bt387 => ((paygen_Deck_Next.f k s0_0 bt387.2 5).bind fun bt389 => (if bt389.1 = 0 then (if 0 ≤ bt387.1 then (if bt387.1 ≤ (a1.size : Int) then (some (a1.extract 0 (bt387.1 : Int).toNat, bt389.2)) else (none)) else (none)) else (if bt389.1 = 1 then (if 0 ≤ bt387.1 then (if bt387.1 ≤ (a1.size : Int) then (if 0 ≤ (wrap64 (bt387.1 + 1)) then (if (wrap64 (bt387.1 + 1)) ≤ (a1.size : Int) then (if (a1.extract 0 (bt387.1 : Int).toNat).size + (a1.extract ((wrap64 (bt387.1 + 1)) : Int).toNat a1.size).size ≤ 9223372036854775807 then (some ((a1.extract 0 (bt387.1 : Int).toNat) ++ (a1.extract ((wrap64 (bt387.1 + 1)) : Int).toNat a1.size), bt389.2)) else (none)) else (none)) else (none)) else (none)) else (none)) else (if bt389.1 = 2 then (if 0 ≤ bt387.1 then (if bt387.1 ≤ (a1.size : Int) then ((some (([(⟨#[32]⟩ : Zb), (⟨#[10]⟩ : Zb), (⟨#[48]⟩ : Zb), (⟨#[49]⟩ : Zb), (⟨#[45]⟩ : Zb), (⟨#[101,110,100,10]⟩ : Zb)] : List Zb) : List Zb)).bind fun y391 => ((paygen_Deck_Next.f k s0_0 bt389.2 6).bind fun bt394 => (if 0 ≤ bt394.1 then (if bt394.1 < (y391.length : Int) then (if (a1.extract 0 (bt387.1 : Int).toNat).size + (rdOf ByteArray.empty y391 bt394.1).size ≤ 9223372036854775807 then (if ((a1.extract 0 (bt387.1 : Int).toNat) ++ (rdOf ByteArray.empty y391 bt394.1)).size + (a1.extract (bt387.1 : Int).toNat a1.size).size ≤ 9223372036854775807 then (some (((a1.extract 0 (bt387.1 : Int).toNat) ++ (rdOf ByteArray.empty y391 bt394.1)) ++ (a1.extract (bt387.1 : Int).toNat a1.size), bt394.2)) else (none)) else (none)) else (none)) else (none)))) else (none)) else (none)) else (if bt389.1 = 3 then (if 0 ≤ bt387.1 then (if bt387.1 ≤ (a1.size : Int) then ((paygen_Deck_Next.f k s0_0 bt389.2 256).bind fun bt397 => ((some (([(bt397.1) % 256] : List Int) : List Int)).bind fun y399 => (if (a1.extract 0 (bt387.1 : Int).toNat).size + (strOfNums y399).size ≤ 9223372036854775807 then (if 0 ≤ (wrap64 (bt387.1 + 1)) then (if (wrap64 (bt387.1 + 1)) ≤ (a1.size : Int) then (if ((a1.extract 0 (bt387.1 : Int).toNat) ++ (strOfNums y399)).size + (a1.extract ((wrap64 (bt387.1 + 1)) : Int).toNat a1.size).size ≤ 9223372036854775807 then (some (((a1.extract 0 (bt387.1 : Int).toNat) ++ (strOfNums y399)) ++ (a1.extract ((wrap64 (bt387.1 + 1)) : Int).toNat a1.size), bt397.2)) else (none)) else (none)) else (none)) else (none)))) else (none)) else (none)) else (some (a1, bt389.2))))))))
def paygen_Deck_Damage.T8 : Bool × List (List Nat × List Nat) := (true, [([], []), ([], []), ([0,1], [0,1]), ([], []), ([], []), ([4], [4]), ([3,5], [3,5]), ([2,6], [2,6]), ([7,0,1,2,3,4,5,6,7], [7])])
def paygen_Deck_Damage.B8 : List Nat := [0,0,3,0,0,16,56,127,255]
theorem paygen_Deck_Damage.tab8 : rtab .any (opsOf Tryz.f18 8) = paygen_Deck_Damage.T8 := by kernel_rfl
theorem paygen_Deck_Damage.bits8 : waitsOk paygen_Deck_Damage.T8.2 paygen_Deck_Damage.B8 = true := by kernel_rfl
def paygen_Deck_Damage.T10 : Bool × List (List Nat × List Nat) := (true, [([], []), ([], []), ([0,1], [0,1]), ([], []), ([], []), ([4], [4]), ([3,5], [3,5]), ([6], [6]), ([2,7], [2,7]), ([], []), ([], []), ([9,10], [9,10]), ([8,11], [8,11]), ([12,5,0,1,2,3,4,5,6,7,8,9,10,11,12], [12])])
def paygen_Deck_Damage.B10 : List Nat := [0,0,3,0,0,16,56,120,255,0,0,1536,4095,8191]
theorem paygen_Deck_Damage.tab10 : rtab .any (opsOf Tryz.f18 10) = paygen_Deck_Damage.T10 := by kernel_rfl
theorem paygen_Deck_Damage.bits10 : waitsOk paygen_Deck_Damage.T10.2 paygen_Deck_Damage.B10 = true := by kernel_rfl
def paygen_Deck_Damage.T12 : Bool × List (List Nat × List Nat) := (true, [([], []), ([], []), ([0,1], [0,1]), ([], []), ([3], [3]), ([4], [4]), ([5], [5]), ([6], [6]), ([2,7], [2,7]), ([], []), ([], []), ([10], [10]), ([9,11], [9,11]), ([8,12], [8,12]), ([13,4,0,1,2,3,4,5,6,7,8,9,10,11,12,13], [13])])
def paygen_Deck_Damage.B12 : List Nat := [0,0,3,0,8,24,56,120,255,0,0,1024,3584,8191,16383]
theorem paygen_Deck_Damage.tab12 : rtab .any (opsOf Tryz.f18 12) = paygen_Deck_Damage.T12 := by kernel_rfl
theorem paygen_Deck_Damage.bits12 : waitsOk paygen_Deck_Damage.T12.2 paygen_Deck_Damage.B12 = true := by kernel_rfl
set_option maxHeartbeats 8000000 in
set_option maxRecDepth 100000 in
theorem paygen_Deck_Damage.calls (k : Nat) (g : Nat) (s0_0 : List Int) (s0_1 : Int) (a1 : Zb) (r1 : Zb) (r2 : Int) (w0 w : World) (hI : IsS64 w0 w g s0_0 s0_1) (hB : Below w0.heap.size w0 w) (h : paygen_Deck_Damage.f k s0_0 s0_1 a1 = some (r1, r2)) :
 Calls Tryz.prog 18 #[.pointer (some ⟨g, 0, none⟩), .string a1] w fun e w' => e = .returned (.string r1) ∧ IsS64 w0 w' g s0_0 r2 ∧ Below w0.heap.size w0 w' ∧ KeepBut w w' g none := by
 have HI0 := Qa hI
 have HK := Qa (KeepBut.refl w g none)
 have HL := Qa hB.size
 clear hI
 have HW0 := Qa hB.size
 have HB := Qa hB
 clear hB
 have H : (if a1.toList = ([] : List UInt8) then (some (a1, s0_1)) else ((paygen_Deck_Next.f k s0_0 s0_1 (a1.size : Int)).bind fun bt387 => ((paygen_Deck_Next.f k s0_0 bt387.2 5).bind fun bt389 => (if bt389.1 = 0 then (if 0 ≤ bt387.1 then (if bt387.1 ≤ (a1.size : Int) then (some (a1.extract 0 (bt387.1 : Int).toNat, bt389.2)) else (none)) else (none)) else (if bt389.1 = 1 then (if 0 ≤ bt387.1 then (if bt387.1 ≤ (a1.size : Int) then (if 0 ≤ (wrap64 (bt387.1 + 1)) then (if (wrap64 (bt387.1 + 1)) ≤ (a1.size : Int) then (if (a1.extract 0 (bt387.1 : Int).toNat).size + (a1.extract ((wrap64 (bt387.1 + 1)) : Int).toNat a1.size).size ≤ 9223372036854775807 then (some ((a1.extract 0 (bt387.1 : Int).toNat) ++ (a1.extract ((wrap64 (bt387.1 + 1)) : Int).toNat a1.size), bt389.2)) else (none)) else (none)) else (none)) else (none)) else (none)) else (if bt389.1 = 2 then (if 0 ≤ bt387.1 then (if bt387.1 ≤ (a1.size : Int) then ((some (([(⟨#[32]⟩ : Zb), (⟨#[10]⟩ : Zb), (⟨#[48]⟩ : Zb), (⟨#[49]⟩ : Zb), (⟨#[45]⟩ : Zb), (⟨#[101,110,100,10]⟩ : Zb)] : List Zb) : List Zb)).bind fun y391 => ((paygen_Deck_Next.f k s0_0 bt389.2 6).bind fun bt394 => (if 0 ≤ bt394.1 then (if bt394.1 < (y391.length : Int) then (if (a1.extract 0 (bt387.1 : Int).toNat).size + (rdOf ByteArray.empty y391 bt394.1).size ≤ 9223372036854775807 then (if ((a1.extract 0 (bt387.1 : Int).toNat) ++ (rdOf ByteArray.empty y391 bt394.1)).size + (a1.extract (bt387.1 : Int).toNat a1.size).size ≤ 9223372036854775807 then (some (((a1.extract 0 (bt387.1 : Int).toNat) ++ (rdOf ByteArray.empty y391 bt394.1)) ++ (a1.extract (bt387.1 : Int).toNat a1.size), bt394.2)) else (none)) else (none)) else (none)) else (none)))) else (none)) else (none)) else (if bt389.1 = 3 then (if 0 ≤ bt387.1 then (if bt387.1 ≤ (a1.size : Int) then ((paygen_Deck_Next.f k s0_0 bt389.2 256).bind fun bt397 => ((some (([(bt397.1) % 256] : List Int) : List Int)).bind fun y399 => (if (a1.extract 0 (bt387.1 : Int).toNat).size + (strOfNums y399).size ≤ 9223372036854775807 then (if 0 ≤ (wrap64 (bt387.1 + 1)) then (if (wrap64 (bt387.1 + 1)) ≤ (a1.size : Int) then (if ((a1.extract 0 (bt387.1 : Int).toNat) ++ (strOfNums y399)).size + (a1.extract ((wrap64 (bt387.1 + 1)) : Int).toNat a1.size).size ≤ 9223372036854775807 then (some (((a1.extract 0 (bt387.1 : Int).toNat) ++ (strOfNums y399)) ++ (a1.extract ((wrap64 (bt387.1 + 1)) : Int).toNat a1.size), bt397.2)) else (none)) else (none)) else (none)) else (none)))) else (none)) else (none)) else (some (a1, bt389.2))))))))) = some (r1, r2) := h
 clear h
 by_cases c3 : a1.toList = ([] : List UInt8)
 · rw [if_pos c3] at H
   have c3b0 : (a1.toList == ([] : List UInt8)) = true := Yb.mpr c3
   have c3b1 : (a1.toList != ([] : List UInt8)) = false := bne_eq_false_iff_eq.mpr c3
   clear c3
   simp only [Option.some.injEq, Prod.mk.injEq] at H
   obtain ⟨rfl, rfl⟩ := H
   go_enter Tryz.func18, Tryz.ntmps18
   go_wp2
   go_ret
   exact ⟨by first | rfl | (simp [errW_none, errW_some] <;> rfl) | (simp [*, errW_none, errW_some] <;> rfl), by repeat (first | (with_reducible first | exact HI0.out | apply IsS64.alloc | apply IsS64.drewN | apply IsS64.drew | apply IsS64.set_1) | exact HI0.out), by repeat (first | (with_reducible first | exact HB.out | apply Qd | apply Qe | apply Qf | refine Qg ?_ (IsS64.ge HI0.out)) | exact HB.out), kk HK.out⟩
 rw [if_neg c3] at H
 have c3b0 : (a1.toList == ([] : List UInt8)) = false := Ya.mpr c3
 have c3b1 : (a1.toList != ([] : List UInt8)) = true := Yc.mpr c3
 replace H := Xx.mp H
 obtain ⟨⟨t387, t388⟩, A40, H⟩ := H
 replace H : ((paygen_Deck_Next.f k s0_0 t388 5).bind fun bt389 => (if bt389.1 = 0 then (if 0 ≤ t387 then (if t387 ≤ (a1.size : Int) then (some (a1.extract 0 (t387 : Int).toNat, bt389.2)) else (none)) else (none)) else (if bt389.1 = 1 then (if 0 ≤ t387 then (if t387 ≤ (a1.size : Int) then (if 0 ≤ (wrap64 (t387 + 1)) then (if (wrap64 (t387 + 1)) ≤ (a1.size : Int) then (if (a1.extract 0 (t387 : Int).toNat).size + (a1.extract ((wrap64 (t387 + 1)) : Int).toNat a1.size).size ≤ 9223372036854775807 then (some ((a1.extract 0 (t387 : Int).toNat) ++ (a1.extract ((wrap64 (t387 + 1)) : Int).toNat a1.size), bt389.2)) else (none)) else (none)) else (none)) else (none)) else (none)) else (if bt389.1 = 2 then (if 0 ≤ t387 then (if t387 ≤ (a1.size : Int) then ((some (([(⟨#[32]⟩ : Zb), (⟨#[10]⟩ : Zb), (⟨#[48]⟩ : Zb), (⟨#[49]⟩ : Zb), (⟨#[45]⟩ : Zb), (⟨#[101,110,100,10]⟩ : Zb)] : List Zb) : List Zb)).bind fun y391 => ((paygen_Deck_Next.f k s0_0 bt389.2 6).bind fun bt394 => (if 0 ≤ bt394.1 then (if bt394.1 < (y391.length : Int) then (if (a1.extract 0 (t387 : Int).toNat).size + (rdOf ByteArray.empty y391 bt394.1).size ≤ 9223372036854775807 then (if ((a1.extract 0 (t387 : Int).toNat) ++ (rdOf ByteArray.empty y391 bt394.1)).size + (a1.extract (t387 : Int).toNat a1.size).size ≤ 9223372036854775807 then (some (((a1.extract 0 (t387 : Int).toNat) ++ (rdOf ByteArray.empty y391 bt394.1)) ++ (a1.extract (t387 : Int).toNat a1.size), bt394.2)) else (none)) else (none)) else (none)) else (none)))) else (none)) else (none)) else (if bt389.1 = 3 then (if 0 ≤ t387 then (if t387 ≤ (a1.size : Int) then ((paygen_Deck_Next.f k s0_0 bt389.2 256).bind fun bt397 => ((some (([(bt397.1) % 256] : List Int) : List Int)).bind fun y399 => (if (a1.extract 0 (t387 : Int).toNat).size + (strOfNums y399).size ≤ 9223372036854775807 then (if 0 ≤ (wrap64 (t387 + 1)) then (if (wrap64 (t387 + 1)) ≤ (a1.size : Int) then (if ((a1.extract 0 (t387 : Int).toNat) ++ (strOfNums y399)).size + (a1.extract ((wrap64 (t387 + 1)) : Int).toNat a1.size).size ≤ 9223372036854775807 then (some (((a1.extract 0 (t387 : Int).toNat) ++ (strOfNums y399)) ++ (a1.extract ((wrap64 (t387 + 1)) : Int).toNat a1.size), bt397.2)) else (none)) else (none)) else (none)) else (none)))) else (none)) else (none)) else (some (a1, bt389.2))))))) = some (r1, r2) := H
 have A4 := Qa A40
 clear A40
 replace H := Xx.mp H
 obtain ⟨⟨t389, t390⟩, A50, H⟩ := H
 replace H : (if t389 = 0 then (if 0 ≤ t387 then (if t387 ≤ (a1.size : Int) then (some (a1.extract 0 (t387 : Int).toNat, t390)) else (none)) else (none)) else (if t389 = 1 then (if 0 ≤ t387 then (if t387 ≤ (a1.size : Int) then (if 0 ≤ (wrap64 (t387 + 1)) then (if (wrap64 (t387 + 1)) ≤ (a1.size : Int) then (if (a1.extract 0 (t387 : Int).toNat).size + (a1.extract ((wrap64 (t387 + 1)) : Int).toNat a1.size).size ≤ 9223372036854775807 then (some ((a1.extract 0 (t387 : Int).toNat) ++ (a1.extract ((wrap64 (t387 + 1)) : Int).toNat a1.size), t390)) else (none)) else (none)) else (none)) else (none)) else (none)) else (if t389 = 2 then (if 0 ≤ t387 then (if t387 ≤ (a1.size : Int) then ((some (([(⟨#[32]⟩ : Zb), (⟨#[10]⟩ : Zb), (⟨#[48]⟩ : Zb), (⟨#[49]⟩ : Zb), (⟨#[45]⟩ : Zb), (⟨#[101,110,100,10]⟩ : Zb)] : List Zb) : List Zb)).bind fun y391 => ((paygen_Deck_Next.f k s0_0 t390 6).bind fun bt394 => (if 0 ≤ bt394.1 then (if bt394.1 < (y391.length : Int) then (if (a1.extract 0 (t387 : Int).toNat).size + (rdOf ByteArray.empty y391 bt394.1).size ≤ 9223372036854775807 then (if ((a1.extract 0 (t387 : Int).toNat) ++ (rdOf ByteArray.empty y391 bt394.1)).size + (a1.extract (t387 : Int).toNat a1.size).size ≤ 9223372036854775807 then (some (((a1.extract 0 (t387 : Int).toNat) ++ (rdOf ByteArray.empty y391 bt394.1)) ++ (a1.extract (t387 : Int).toNat a1.size), bt394.2)) else (none)) else (none)) else (none)) else (none)))) else (none)) else (none)) else (if t389 = 3 then (if 0 ≤ t387 then (if t387 ≤ (a1.size : Int) then ((paygen_Deck_Next.f k s0_0 t390 256).bind fun bt397 => ((some (([(bt397.1) % 256] : List Int) : List Int)).bind fun y399 => (if (a1.extract 0 (t387 : Int).toNat).size + (strOfNums y399).size ≤ 9223372036854775807 then (if 0 ≤ (wrap64 (t387 + 1)) then (if (wrap64 (t387 + 1)) ≤ (a1.size : Int) then (if ((a1.extract 0 (t387 : Int).toNat) ++ (strOfNums y399)).size + (a1.extract ((wrap64 (t387 + 1)) : Int).toNat a1.size).size ≤ 9223372036854775807 then (some (((a1.extract 0 (t387 : Int).toNat) ++ (strOfNums y399)) ++ (a1.extract ((wrap64 (t387 + 1)) : Int).toNat a1.size), bt397.2)) else (none)) else (none)) else (none)) else (none)))) else (none)) else (none)) else (some (a1, t390)))))) = some (r1, r2) := H
 have A5 := Qa A50
 clear A50
 by_cases c6 : t389 = 0
 · rw [if_pos c6] at H
   have c6b0 : (t389 == 0) = true := Yb.mpr c6
   have c6b1 : (t389 != 0) = false := bne_eq_false_iff_eq.mpr c6
   clear c6
   by_cases c7 : 0 ≤ t387
   · rw [if_pos c7] at H
     have c7b0 := eq_true c7
     have c7b1 : decide (0 ≤ t387) = true := Xq c7
     clear c7
     by_cases c8 : t387 ≤ (a1.size : Int)
     · rw [if_pos c8] at H
       have c8b0 := eq_true c8
       have c8b1 : decide (t387 ≤ (a1.size : Int)) = true := Xq c8
       clear c8
       simp only [Option.some.injEq, Prod.mk.injEq] at H
       obtain ⟨rfl, rfl⟩ := H
       go_enter Tryz.func18, Tryz.ntmps18
       go_wp2_with (first | ((with_reducible refine Qw (f := 28) rfl ?_); refine gc (some 12) Tryz.func28 #[.pointer (some ⟨g, 0, none⟩), .int .i64 (a1.size : Int)] ?_; (with_reducible refine (paygen_Deck_Next.calls k g s0_0 s0_1 (a1.size : Int) t387 t388 w0 _ ?side1 ?side2 A4.out).mono ?_); (case side1 => repeat (first | (with_reducible first | exact HI0.out | apply IsS64.alloc | apply IsS64.drewN | apply IsS64.drew | apply IsS64.set_1) | exact HI0.out)); (case side2 => repeat (first | (with_reducible first | exact HB.out | apply Qd | apply Qe | apply Qf | refine Qg ?_ (IsS64.ge HI0.out)) | exact HB.out)); rintro e w9 ⟨rfl, hi, hb, hk⟩; refine ⟨_, rfl, ?_⟩; have n0_ := Qa (KeepBut.trans (kk HK.out) hk (.inl rfl)); have n1_ := Qa (hb); have n2_ := Qa (hi); clear HK HB HI0; have HK := n0_; have HB := n1_; have HI0 := n2_; clear n0_ n1_ n2_; (try clear hb); (try clear hk); (try clear hi)) | ((with_reducible refine Qw (f := 28) rfl ?_); refine gc (some 14) Tryz.func28 #[.pointer (some ⟨g, 0, none⟩), .int .i64 5] ?_; (with_reducible refine (paygen_Deck_Next.calls k g s0_0 t388 5 t389 t390 w0 _ ?side1 ?side2 A5.out).mono ?_); (case side1 => repeat (first | (with_reducible first | exact HI0.out | apply IsS64.alloc | apply IsS64.drewN | apply IsS64.drew | apply IsS64.set_1) | exact HI0.out)); (case side2 => repeat (first | (with_reducible first | exact HB.out | apply Qd | apply Qe | apply Qf | refine Qg ?_ (IsS64.ge HI0.out)) | exact HB.out)); rintro e w10 ⟨rfl, hi, hb, hk⟩; refine ⟨_, rfl, ?_⟩; have n0_ := Qa (KeepBut.trans (kk HK.out) hk (.inl rfl)); have n1_ := Qa (hb); have n2_ := Qa (hi); clear HK HB HI0; have HK := n0_; have HB := n1_; have HI0 := n2_; clear n0_ n1_ n2_; (try clear hb); (try clear hk); (try clear hi)))
       go_ret
       exact ⟨by first | rfl | (simp [errW_none, errW_some] <;> rfl) | (simp [*, errW_none, errW_some] <;> rfl), by repeat (first | (with_reducible first | exact HI0.out | apply IsS64.alloc | apply IsS64.drewN | apply IsS64.drew | apply IsS64.set_1) | exact HI0.out), by repeat (first | (with_reducible first | exact HB.out | apply Qd | apply Qe | apply Qf | refine Qg ?_ (IsS64.ge HI0.out)) | exact HB.out), kk HK.out⟩
     rw [if_neg c8] at H
     exact absurd H (by simp)
   rw [if_neg c7] at H
   exact absurd H (by simp)
 rw [if_neg c6] at H
 have c6b0 : (t389 == 0) = false := Ya.mpr c6
 have c6b1 : (t389 != 0) = true := Yc.mpr c6
 by_cases c11 : t389 = 1
 · rw [if_pos c11] at H
   have c11b0 : (t389 == 1) = true := Yb.mpr c11
   have c11b1 : (t389 != 1) = false := bne_eq_false_iff_eq.mpr c11
   clear c11
   by_cases c12 : 0 ≤ t387
   · rw [if_pos c12] at H
     have c12b0 := eq_true c12
     have c12b1 : decide (0 ≤ t387) = true := Xq c12
     clear c12
     by_cases c13 : t387 ≤ (a1.size : Int)
     · rw [if_pos c13] at H
       have c13b0 := eq_true c13
       have c13b1 : decide (t387 ≤ (a1.size : Int)) = true := Xq c13
       clear c13
       obtain ⟨ji14, hji14⟩ : ∃ j_ : Int, (wrap64 (t387 + 1)) = j_ := ⟨_, rfl⟩
       replace H : (if 0 ≤ (ji14) then (if (ji14) ≤ (a1.size : Int) then (if (a1.extract 0 (t387 : Int).toNat).size + (a1.extract ((ji14) : Int).toNat a1.size).size ≤ 9223372036854775807 then (some ((a1.extract 0 (t387 : Int).toNat) ++ (a1.extract ((ji14) : Int).toNat a1.size), t390)) else (none)) else (none)) else (none)) = some (r1, r2) := by first | (rw [hji14] at H; exact H) | (simp only [hji14] at H ⊢; exact H)
       (try rw [hji14] at A4)
       (try rw [hji14] at A5)
       have hji14w : (IntKind.i64.wrap (t387 + 1)) = ji14 := (i64_w _).trans hji14
       by_cases c15 : 0 ≤ (ji14)
       · rw [if_pos c15] at H
         have c15b0 := eq_true c15
         have c15b1 : decide (0 ≤ (ji14)) = true := Xq c15
         clear c15
         by_cases c16 : (ji14) ≤ (a1.size : Int)
         · rw [if_pos c16] at H
           have c16b0 := eq_true c16
           have c16b1 : decide ((ji14) ≤ (a1.size : Int)) = true := Xq c16
           clear c16
           by_cases c17 : (a1.extract 0 (t387 : Int).toNat).size + (a1.extract ((ji14) : Int).toNat a1.size).size ≤ 9223372036854775807
           · rw [if_pos c17] at H
             have c17b0 := eq_true c17
             have c17b1 : decide ((a1.extract 0 (t387 : Int).toNat).size + (a1.extract ((ji14) : Int).toNat a1.size).size ≤ 9223372036854775807) = true := Xq c17
             try have c17b2 : (9223372036854775807 < (a1.extract 0 (t387 : Int).toNat).size + (a1.extract ((ji14) : Int).toNat a1.size).size) = False := eq_false (Nat.not_lt.2 c17)
             (try (have c17n0 : (t387.toNat + (a1.size - ji14.toNat) ≤ 9223372036854775807) = True := eq_true (by have h_ := c17; (try have g0_ : t387 ≤ (a1.size : Int) := Xp (by assumption)); (try have g1_ : 0 ≤ t387 := Xp (by assumption)); (try have g2_ : ji14 ≤ (a1.size : Int) := Xp (by assumption)); (try have g3_ : 0 ≤ ji14 := Xp (by assumption)); simp only [Xw, ByteArray.size_extract] at h_; omega)))
             (try (have c17n1 : (9223372036854775807 < t387.toNat + (a1.size - ji14.toNat)) = False := eq_false (by have h_ := c17; (try have g0_ : t387 ≤ (a1.size : Int) := Xp (by assumption)); (try have g1_ : 0 ≤ t387 := Xp (by assumption)); (try have g2_ : ji14 ≤ (a1.size : Int) := Xp (by assumption)); (try have g3_ : 0 ≤ ji14 := Xp (by assumption)); simp only [Xw, ByteArray.size_extract] at h_; omega)))
             simp only [Option.some.injEq, Prod.mk.injEq] at H
             obtain ⟨rfl, rfl⟩ := H
             go_enter Tryz.func18, Tryz.ntmps18
             try go_wp2_with (first | ((with_reducible refine Qw (f := 28) rfl ?_); refine gc (some 12) Tryz.func28 #[.pointer (some ⟨g, 0, none⟩), .int .i64 (a1.size : Int)] ?_; (with_reducible refine (paygen_Deck_Next.calls k g s0_0 s0_1 (a1.size : Int) t387 t388 w0 _ ?side1 ?side2 A4.out).mono ?_); (case side1 => repeat (first | (with_reducible first | exact HI0.out | apply IsS64.alloc | apply IsS64.drewN | apply IsS64.drew | apply IsS64.set_1) | exact HI0.out)); (case side2 => repeat (first | (with_reducible first | exact HB.out | apply Qd | apply Qe | apply Qf | refine Qg ?_ (IsS64.ge HI0.out)) | exact HB.out)); rintro e w18 ⟨rfl, hi, hb, hk⟩; refine ⟨_, rfl, ?_⟩; have n0_ := Qa (KeepBut.trans (kk HK.out) hk (.inl rfl)); have n1_ := Qa (hb); have n2_ := Qa (hi); clear HK HB HI0; have HK := n0_; have HB := n1_; have HI0 := n2_; clear n0_ n1_ n2_; (try clear hb); (try clear hk); (try clear hi)) | ((with_reducible refine Qw (f := 28) rfl ?_); refine gc (some 14) Tryz.func28 #[.pointer (some ⟨g, 0, none⟩), .int .i64 5] ?_; (with_reducible refine (paygen_Deck_Next.calls k g s0_0 t388 5 t389 t390 w0 _ ?side1 ?side2 A5.out).mono ?_); (case side1 => repeat (first | (with_reducible first | exact HI0.out | apply IsS64.alloc | apply IsS64.drewN | apply IsS64.drew | apply IsS64.set_1) | exact HI0.out)); (case side2 => repeat (first | (with_reducible first | exact HB.out | apply Qd | apply Qe | apply Qf | refine Qg ?_ (IsS64.ge HI0.out)) | exact HB.out)); rintro e w19 ⟨rfl, hi, hb, hk⟩; refine ⟨_, rfl, ?_⟩; have n0_ := Qa (KeepBut.trans (kk HK.out) hk (.inl rfl)); have n1_ := Qa (hb); have n2_ := Qa (hi); clear HK HB HI0; have HK := n0_; have HB := n1_; have HI0 := n2_; clear n0_ n1_ n2_; (try clear hb); (try clear hk); (try clear hi)))
             have n0_ := Qa (IsS64.drew HI0.out)
             have n1_ := Qa (Qr HK.out)
             have n2_ := Qa (Qf HB.out)
             clear HI0
             clear HK
             clear HB
             have HI0 := n0_
             have HK := n1_
             have HB := n2_
             clear n0_ n1_ n2_
             refine start_ (n := 9) (S := fun w' => True) (ds := []) #[Zf,Zf,Zf,Zf,Zf,Zf,Zf,Zf,Zf] (by kernel_rfl) rfl rfl trivial (fun hHeld => ?_); refine with_tabW paygen_Deck_Damage.tab8 paygen_Deck_Damage.bits8 (fun HT_ HW_ => ?_)
             generalize w19.drew = w20 at HI0 HK HB hHeld ⊢
             refine pu (i := 0) (N := some 22) (v := ?_) (a' := ?_) #[Zt,Zf,Zf,Zf,Zf,Zf,Zf,Zf,Zf] HT_ ?_ ?_ ?_
             rotate_left
             · intro w'
               go_simp
               with_reducible rfl
             rotate_left
             · simp only [Act.put, Xt, Xu, Xv, i64_w, i32_w]
               rfl
             refine pu (i := 1) (N := some 23) (v := ?_) (a' := ?_) #[Zt,Zt,Zf,Zf,Zf,Zf,Zf,Zf,Zf] HT_ ?_ ?_ ?_
             rotate_left
             · intro w'
               go_simp
               with_reducible rfl
             rotate_left
             · simp only [Act.put, Xt, Xu, Xv, i64_w, i32_w]
               rfl
             refine pu (i := 2) (N := some 24) (v := ?_) (a' := ?_) #[Zt,Zt,Zt,Zf,Zf,Zf,Zf,Zf,Zf] HT_ ?_ ?_ ?_
             rotate_left
             · intro w'
               go_simp
               with_reducible rfl
             rotate_left
             · simp only [Act.put, Xt, Xu, Xv, i64_w, i32_w]
               rfl
             refine pu (i := 3) (N := some 25) (v := ?_) (a' := ?_) #[Zt,Zt,Zt,Zt,Zf,Zf,Zf,Zf,Zf] HT_ ?_ ?_ ?_
             rotate_left
             · intro w'
               go_simp
               with_reducible rfl
             rotate_left
             · simp only [Act.put, Xt, Xu, Xv, i64_w, i32_w]
               rfl
             refine pu (i := 4) (N := some 26) (v := ?_) (a' := ?_) #[Zt,Zt,Zt,Zt,Zt,Zf,Zf,Zf,Zf] HT_ ?_ ?_ ?_
             rotate_left
             · intro w'
               go_simp
               with_reducible rfl
             rotate_left
             · simp only [Act.put, Xt, Xu, Xv, i64_w, i32_w]
               rfl
             refine pu (i := 5) (N := some 27) (v := ?_) (a' := ?_) #[Zt,Zt,Zt,Zt,Zt,Zt,Zf,Zf,Zf] HT_ ?_ ?_ ?_
             rotate_left
             · intro w'
               go_simp
               with_reducible rfl
             rotate_left
             · simp only [Act.put, Xt, Xu, Xv, i64_w, i32_w]
               rfl
             refine pu (i := 6) (N := some 28) (v := ?_) (a' := ?_) #[Zt,Zt,Zt,Zt,Zt,Zt,Zt,Zf,Zf] HT_ ?_ ?_ ?_
             rotate_left
             · intro w'
               go_simp
               with_reducible rfl
             rotate_left
             · simp only [Act.put, Xt, Xu, Xv, i64_w, i32_w]
               rfl
             refine pu (i := 7) (N := some 29) (v := ?_) (a' := ?_) #[Zt,Zt,Zt,Zt,Zt,Zt,Zt,Zt,Zf] HT_ ?_ ?_ ?_
             rotate_left
             · intro w'
               go_simp
               with_reducible rfl
             rotate_left
             · simp only [Act.put, Xt, Xu, Xv, i64_w, i32_w]
               rfl
             refine pu (i := 8) (N := some 4) (v := ?_) (a' := ?_) #[Zt,Zt,Zt,Zt,Zt,Zt,Zt,Zt,Zt] HT_ ?_ ?_ ?_
             rotate_left
             · intro w'
               go_simp
               with_reducible rfl
             rotate_left
             · simp only [Act.put, Xt, Xu, Xv, i64_w, i32_w]
               rfl
             refine done_ (done_of HT_.out (by kernel_rfl)) ?_
             try go_wp2
             go_ret
             exact ⟨by first | rfl | (simp [errW_none, errW_some] <;> rfl) | (simp only [← hji14]; first | rfl | (simp [errW_none, errW_some] <;> rfl)) | (simp [*, errW_none, errW_some] <;> rfl), by repeat (first | (with_reducible first | exact HI0.out | apply IsS64.alloc | apply IsS64.drewN | apply IsS64.drew | apply IsS64.set_1) | exact HI0.out), by repeat (first | (with_reducible first | exact HB.out | apply Qd | apply Qe | apply Qf | refine Qg ?_ (IsS64.ge HI0.out)) | exact HB.out), kk HK.out⟩
           rw [if_neg c17] at H
           exact absurd H (by simp)
         rw [if_neg c16] at H
         exact absurd H (by simp)
       rw [if_neg c15] at H
       exact absurd H (by simp)
     rw [if_neg c13] at H
     exact absurd H (by simp)
   rw [if_neg c12] at H
   exact absurd H (by simp)
 rw [if_neg c11] at H
 have c11b0 : (t389 == 1) = false := Ya.mpr c11
 have c11b1 : (t389 != 1) = true := Yc.mpr c11
 by_cases c21 : t389 = 2
 · rw [if_pos c21] at H
   have c21b0 : (t389 == 2) = true := Yb.mpr c21
   have c21b1 : (t389 != 2) = false := bne_eq_false_iff_eq.mpr c21
   clear c21
   by_cases c22 : 0 ≤ t387
   · rw [if_pos c22] at H
     have c22b0 := eq_true c22
     have c22b1 : decide (0 ≤ t387) = true := Xq c22
     clear c22
     by_cases c23 : t387 ≤ (a1.size : Int)
     · rw [if_pos c23] at H
       have c23b0 := eq_true c23
       have c23b1 : decide (t387 ≤ (a1.size : Int)) = true := Xq c23
       clear c23
       obtain ⟨y391, hy391⟩ : ∃ y_ : List Zb, y_ = (([(⟨#[32]⟩ : Zb), (⟨#[10]⟩ : Zb), (⟨#[48]⟩ : Zb), (⟨#[49]⟩ : Zb), (⟨#[45]⟩ : Zb), (⟨#[101,110,100,10]⟩ : Zb)] : List Zb)) := ⟨_, rfl⟩
       replace H : ((paygen_Deck_Next.f k s0_0 t390 6).bind fun bt394 => (if 0 ≤ bt394.1 then (if bt394.1 < (y391.length : Int) then (if (a1.extract 0 (t387 : Int).toNat).size + (rdOf ByteArray.empty y391 bt394.1).size ≤ 9223372036854775807 then (if ((a1.extract 0 (t387 : Int).toNat) ++ (rdOf ByteArray.empty y391 bt394.1)).size + (a1.extract (t387 : Int).toNat a1.size).size ≤ 9223372036854775807 then (some (((a1.extract 0 (t387 : Int).toNat) ++ (rdOf ByteArray.empty y391 bt394.1)) ++ (a1.extract (t387 : Int).toNat a1.size), bt394.2)) else (none)) else (none)) else (none)) else (none))) = some (r1, r2) := by first | (rw [hy391]; with_reducible exact H) | (have H2_ := (Xy _ _).symm.trans H; rw [hy391]; with_reducible exact H2_) | (have H2_ := (Xy _ _).symm.trans H; with_reducible exact H2_) | with_reducible exact H | (rw [hy391]; exact H) | exact H
       have Ny391 := Qa hy391
       clear hy391
       replace H := Xx.mp H
       obtain ⟨⟨t394, t395⟩, A240, H⟩ := H
       replace H : (if 0 ≤ t394 then (if t394 < (y391.length : Int) then (if (a1.extract 0 (t387 : Int).toNat).size + (rdOf ByteArray.empty y391 t394).size ≤ 9223372036854775807 then (if ((a1.extract 0 (t387 : Int).toNat) ++ (rdOf ByteArray.empty y391 t394)).size + (a1.extract (t387 : Int).toNat a1.size).size ≤ 9223372036854775807 then (some (((a1.extract 0 (t387 : Int).toNat) ++ (rdOf ByteArray.empty y391 t394)) ++ (a1.extract (t387 : Int).toNat a1.size), t395)) else (none)) else (none)) else (none)) else (none)) = some (r1, r2) := H
       have A24 := Qa A240
       clear A240
       by_cases c25 : 0 ≤ t394
       · rw [if_pos c25] at H
         have c25b0 : decide (0 ≤ t394) = true := Xq c25
         clear c25
         by_cases c26 : t394 < (y391.length : Int)
         · rw [if_pos c26] at H
           have c26b0 : decide (t394 < (y391.length : Int)) = true := Xq c26
           clear c26
           by_cases c27 : (a1.extract 0 (t387 : Int).toNat).size + (rdOf ByteArray.empty y391 t394).size ≤ 9223372036854775807
           · rw [if_pos c27] at H
             have c27b0 := eq_true c27
             have c27b1 : decide ((a1.extract 0 (t387 : Int).toNat).size + (rdOf ByteArray.empty y391 t394).size ≤ 9223372036854775807) = true := Xq c27
             try have c27b2 : (9223372036854775807 < (a1.extract 0 (t387 : Int).toNat).size + (rdOf ByteArray.empty y391 t394).size) = False := eq_false (Nat.not_lt.2 c27)
             (try (have c27n0 : (t387.toNat + (rdOf ByteArray.empty y391 t394).size ≤ 9223372036854775807) = True := eq_true (by have h_ := c27; (try have g0_ : t387 ≤ (a1.size : Int) := Xp (by assumption)); (try have g1_ : 0 ≤ t387 := Xp (by assumption)); simp only [Xw, ByteArray.size_extract] at h_; omega)))
             (try (have c27n1 : (9223372036854775807 < t387.toNat + (rdOf ByteArray.empty y391 t394).size) = False := eq_false (by have h_ := c27; (try have g0_ : t387 ≤ (a1.size : Int) := Xp (by assumption)); (try have g1_ : 0 ≤ t387 := Xp (by assumption)); simp only [Xw, ByteArray.size_extract] at h_; omega)))
             have c28b0 := eq_true (Xp (by assumption) : 0 ≤ t387)
             have c29b0 := eq_true (Xp (by assumption) : t387 ≤ (a1.size : Int))
             by_cases c30 : ((a1.extract 0 (t387 : Int).toNat) ++ (rdOf ByteArray.empty y391 t394)).size + (a1.extract (t387 : Int).toNat a1.size).size ≤ 9223372036854775807
             · rw [if_pos c30] at H
               have c30b0 := eq_true c30
               have c30b1 : decide (((a1.extract 0 (t387 : Int).toNat) ++ (rdOf ByteArray.empty y391 t394)).size + (a1.extract (t387 : Int).toNat a1.size).size ≤ 9223372036854775807) = true := Xq c30
               try have c30b2 : (9223372036854775807 < ((a1.extract 0 (t387 : Int).toNat) ++ (rdOf ByteArray.empty y391 t394)).size + (a1.extract (t387 : Int).toNat a1.size).size) = False := eq_false (Nat.not_lt.2 c30)
               (try (have c30n0 : (t387.toNat + (rdOf ByteArray.empty y391 t394).size + (a1.size - t387.toNat) ≤ 9223372036854775807) = True := eq_true (by have h_ := c30; (try have g0_ : t387 ≤ (a1.size : Int) := Xp (by assumption)); (try have g1_ : 0 ≤ t387 := Xp (by assumption)); simp only [Xw, ByteArray.size_extract] at h_; omega)))
               (try (have c30n1 : (9223372036854775807 < t387.toNat + (rdOf ByteArray.empty y391 t394).size + (a1.size - t387.toNat)) = False := eq_false (by have h_ := c30; (try have g0_ : t387 ≤ (a1.size : Int) := Xp (by assumption)); (try have g1_ : 0 ≤ t387 := Xp (by assumption)); simp only [Xw, ByteArray.size_extract] at h_; omega)))
               simp only [Option.some.injEq, Prod.mk.injEq] at H
               obtain ⟨rfl, rfl⟩ := H
               go_enter Tryz.func18, Tryz.ntmps18
               try go_wp2_with (first | ((with_reducible refine Qw (f := 28) rfl ?_); refine gc (some 12) Tryz.func28 #[.pointer (some ⟨g, 0, none⟩), .int .i64 (a1.size : Int)] ?_; (with_reducible refine (paygen_Deck_Next.calls k g s0_0 s0_1 (a1.size : Int) t387 t388 w0 _ ?side1 ?side2 A4.out).mono ?_); (case side1 => repeat (first | (with_reducible first | exact HI0.out | apply IsS64.alloc | apply IsS64.drewN | apply IsS64.drew | apply IsS64.set_1) | exact HI0.out)); (case side2 => repeat (first | (with_reducible first | exact HB.out | apply Qd | apply Qe | apply Qf | refine Qg ?_ (IsS64.ge HI0.out)) | exact HB.out)); rintro e w31 ⟨rfl, hi, hb, hk⟩; refine ⟨_, rfl, ?_⟩; have n0_ := Qa (KeepBut.trans (kk HK.out) hk (.inl rfl)); have n1_ := Qa (hb); have n2_ := Qa (hi); clear HK HB HI0; have HK := n0_; have HB := n1_; have HI0 := n2_; clear n0_ n1_ n2_; (try clear hb); (try clear hk); (try clear hi)) | ((with_reducible refine Qw (f := 28) rfl ?_); refine gc (some 14) Tryz.func28 #[.pointer (some ⟨g, 0, none⟩), .int .i64 5] ?_; (with_reducible refine (paygen_Deck_Next.calls k g s0_0 t388 5 t389 t390 w0 _ ?side1 ?side2 A5.out).mono ?_); (case side1 => repeat (first | (with_reducible first | exact HI0.out | apply IsS64.alloc | apply IsS64.drewN | apply IsS64.drew | apply IsS64.set_1) | exact HI0.out)); (case side2 => repeat (first | (with_reducible first | exact HB.out | apply Qd | apply Qe | apply Qf | refine Qg ?_ (IsS64.ge HI0.out)) | exact HB.out)); rintro e w32 ⟨rfl, hi, hb, hk⟩; refine ⟨_, rfl, ?_⟩; have n0_ := Qa (KeepBut.trans (kk HK.out) hk (.inl rfl)); have n1_ := Qa (hb); have n2_ := Qa (hi); clear HK HB HI0; have HK := n0_; have HB := n1_; have HI0 := n2_; clear n0_ n1_ n2_; (try clear hb); (try clear hk); (try clear hi)))
               have pi396 : (0 ≤ (t394 : Int)) = True := eq_true (Xp (by assumption))
               have qi396 : (t394 < (y391.length : Int)) = True := eq_true (Xp (by assumption))
               have n0_ := Qa (IsS64.drew HI0.out)
               have n1_ := Qa (Qr HK.out)
               have n2_ := Qa (Qf HB.out)
               clear HI0
               clear HK
               clear HB
               have HI0 := n0_
               have HK := n1_
               have HB := n2_
               clear n0_ n1_ n2_
               refine start_ (n := 14) (S := fun w' => True) (ds := []) #[Zf,Zf,Zf,Zf,Zf,Zf,Zf,Zf,Zf,Zf,Zf,Zf,Zf,Zf] (by kernel_rfl) rfl rfl trivial (fun hHeld => ?_); refine with_tabW paygen_Deck_Damage.tab10 paygen_Deck_Damage.bits10 (fun HT_ HW_ => ?_)
               generalize w32.drew = w33 at HI0 HK HB hHeld ⊢
               refine pu (i := 0) (N := some 32) (v := ?_) (a' := ?_) #[Zt,Zf,Zf,Zf,Zf,Zf,Zf,Zf,Zf,Zf,Zf,Zf,Zf,Zf] HT_ ?_ ?_ ?_
               rotate_left
               · intro w'
                 go_simp
                 with_reducible rfl
               rotate_left
               · simp only [Act.put, Xt, Xu, Xv, i64_w, i32_w]
                 rfl
               refine pu (i := 1) (N := some 33) (v := ?_) (a' := ?_) #[Zt,Zt,Zf,Zf,Zf,Zf,Zf,Zf,Zf,Zf,Zf,Zf,Zf,Zf] HT_ ?_ ?_ ?_
               rotate_left
               · intro w'
                 go_simp
                 with_reducible rfl
               rotate_left
               · simp only [Act.put, Xt, Xu, Xv, i64_w, i32_w]
                 rfl
               refine pu (i := 4) (N := some 36) (v := ?_) (a' := ?_) #[Zt,Zt,Zf,Zf,Zt,Zf,Zf,Zf,Zf,Zf,Zf,Zf,Zf,Zf] HT_ ?_ ?_ ?_
               rotate_left
               · intro w'
                 go_simp
                 with_reducible rfl
               rotate_left
               · simp only [Act.put, Xt, Xu, Xv, i64_w, i32_w]
                 rfl
               refine pu (i := 9) (N := some 41) (v := ?_) (a' := ?_) #[Zt,Zt,Zf,Zf,Zt,Zf,Zf,Zf,Zf,Zt,Zf,Zf,Zf,Zf] HT_ ?_ ?_ ?_
               rotate_left
               · intro w'
                 go_simp
                 with_reducible rfl
               rotate_left
               · simp only [Act.put, Xt, Xu, Xv, i64_w, i32_w]
                 rfl
               refine pu (i := 10) (N := some 42) (v := ?_) (a' := ?_) #[Zt,Zt,Zf,Zf,Zt,Zf,Zf,Zf,Zf,Zt,Zt,Zf,Zf,Zf] HT_ ?_ ?_ ?_
               rotate_left
               · intro w'
                 go_simp
                 with_reducible rfl
               rotate_left
               · simp only [Act.put, Xt, Xu, Xv, i64_w, i32_w]
                 rfl
               refine inv_at [2,3,5,6,7,8,11,12,13] (fun a0_ b a w' => ∃ (v392 : Value) (adz_v392 : Addr) (m6_ : Value), a = putSel a0_ b [(2,34, .string (a1.extract 0 (t387 : Int).toNat)), (3,35, v392), (5,37, .int .i64 t394), (6,38, m6_), (7,39, .string (rdOf ByteArray.empty y391 t394)), (8,40, .string ((a1.extract 0 (t387 : Int).toNat) ++ (rdOf ByteArray.empty y391 t394))), (11,43, .string (a1.extract (t387 : Int).toNat a1.size)), (12,44, .string (((a1.extract 0 (t387 : Int).toNat) ++ (rdOf ByteArray.empty y391 t394)) ++ (a1.extract (t387 : Int).toNat a1.size))), (13,4, .string (((a1.extract 0 (t387 : Int).toNat) ++ (rdOf ByteArray.empty y391 t394)) ++ (a1.extract (t387 : Int).toNat a1.size)))] ∧ (b 5 = false → IsS64 w0 w' g s0_0 t390) ∧ (KeepBut w w' g none) ∧ (Below w0.heap.size w0 w') ∧ (b 3 = true → Kd.R Kd.string 9 w' w.heap.size (fun _ => True) v392 y391) ∧ (b 3 = true → ∃ c_, (v392 : Value) = .slice (some adz_v392) y391.length c_) ∧ (b 5 = true → IsS64 w0 w' g s0_0 t395) ∧ (b 6 = true → (m6_ : Value) = .pointer (some (adz_v392.add (t394).toNat)))) HT_.out HW_.out (by kernel_rfl) (by kernel_rfl) ?_ ?_ ?_
               · exact ⟨.bool false, ⟨0,0, none⟩, .bool false, by simp only [putSel, Bool.false_eq_true, if_false], fun _ => HI0.out, HK.out, HB.out, fun h_ => absurd h_ (by decide), fun h_ => absurd h_ (by decide), fun h_ => absurd h_ (by decide), fun h_ => absurd h_ (by decide)⟩
               · skip
                 clear HB HI0 HK
                 refine steps_cons ?_ ?_
                 · rintro b a w' ⟨v392, adz_v392, m6_, ha, Q_HI0, Q_HK, Q_HB, Q_HO393, Q_HA_HO393, Q_HI0_e5, Q_X6_⟩ hb_ hon hoff
                   refine ⟨_, rfl, fun K hK => ?_⟩
                   have e32 : a.tmps[32]? = some (.string a1) := by rw [ha]; exact (putSel_off rfl).trans rfl
                   have e33 : a.tmps[33]? = some (.int .i64 t387) := by rw [ha]; exact (putSel_off rfl).trans rfl
                   replace ha := Qa ha
                   have HK := Qa Q_HK
                   have HB := Qa Q_HB
                   refine value_ (w1 := w') (v := .string (a1.extract 0 (t387 : Int).toNat)) (by rfl) rfl ?_ ?_
                   · go_simp
                     (try simp only [i64_w])
                     try rfl
                   refine hK.out _ _ ⟨v392, adz_v392, m6_, (by rw [ha.out]; exact putSel_upk 0 hb_ rfl rfl rfl), Q_HI0, Q_HK, Q_HB, Q_HO393, Q_HA_HO393, Q_HI0_e5, Q_X6_⟩
                 refine steps_cons ?_ ?_
                 · rintro b a w' ⟨v392, adz_v392, m6_, ha, Q_HI0, Q_HK, Q_HB, Q_HO393, Q_HA_HO393, Q_HI0_e5, Q_X6_⟩ hb_ hon hoff
                   refine ⟨_, rfl, fun K hK => ?_⟩
                   replace ha := Qa ha
                   have HK := Qa Q_HK
                   have HB := Qa Q_HB
                   refine Kd.R_lit_step Kd.string _ 9 ?hg (N := 35) ?hd (xs := ([(⟨#[32]⟩ : Zb), (⟨#[10]⟩ : Zb), (⟨#[48]⟩ : Zb), (⟨#[49]⟩ : Zb), (⟨#[45]⟩ : Zb), (⟨#[101,110,100,10]⟩ : Zb)] : List Zb)) (inner := [.string (⟨#[32]⟩ : Zb), .string (⟨#[10]⟩ : Zb), .string (⟨#[48]⟩ : Zb), .string (⟨#[49]⟩ : Zb), .string (⟨#[45]⟩ : Zb), .string (⟨#[101,110,100,10]⟩ : Zb)]) (ok := fun _ => True) (okp := fun _ => True) ?hr ?hp (fun _ hk => hk) trivial (Below.refl _ _) (Nat.le_refl _) (by simp) ?_; (case hd => rfl); (case hg => rfl); (case hr => first | (go_simp; done) | (go_simp; rfl)); (case hp => exact (Reps.one (show Kd.M Kd.string _ _ _ (⟨#[32]⟩ : Zb) [.string (⟨#[32]⟩ : Zb)] from rfl) (Reps.one (show Kd.M Kd.string _ _ _ (⟨#[10]⟩ : Zb) [.string (⟨#[10]⟩ : Zb)] from rfl) (Reps.one (show Kd.M Kd.string _ _ _ (⟨#[48]⟩ : Zb) [.string (⟨#[48]⟩ : Zb)] from rfl) (Reps.one (show Kd.M Kd.string _ _ _ (⟨#[49]⟩ : Zb) [.string (⟨#[49]⟩ : Zb)] from rfl) (Reps.one (show Kd.M Kd.string _ _ _ (⟨#[45]⟩ : Zb) [.string (⟨#[45]⟩ : Zb)] from rfl) (Reps.one (show Kd.M Kd.string _ _ _ (⟨#[101,110,100,10]⟩ : Zb) [.string (⟨#[101,110,100,10]⟩ : Zb)] from rfl) (Reps.none _ _))))))))
                   intro v392 w34 ho35 hb hg_ hnew_
                   clear hg_ hnew_
                   (first | rw [← Ny391.out] at ho35 | (simp only [Int.reduceToNat] at ho35; rw [← Ny391.out] at ho35))
                   have n0_ := Qa (Kd.R_lower ho35 (Qt (w := w) (g := g) (row := none) (kk HK.out)))
                   have n2_ := Qa (KeepBut.trans (kk HK.out) (Qu hb g none) (.inl rfl))
                   have n3_ := Qa (Qh (bl HB.out) hb)
                   have z_HI0 := fun (h0_ : b 5 = false) => (show IsS64 w0 w34 g s0_0 t390 from by first | exact (IsS64.below (by repeat (first | (with_reducible first | exact (Q_HI0 h0_) | apply IsS64.alloc | apply IsS64.drewN | apply IsS64.drew | apply IsS64.set_1) | exact (Q_HI0 h0_))) hb))
                   have z_HI0_e5 := fun (h0_ : b 5 = true) => (show IsS64 w0 w34 g s0_0 t395 from by first | exact (IsS64.below (by repeat (first | (with_reducible first | exact (Q_HI0_e5 h0_) | apply IsS64.alloc | apply IsS64.drewN | apply IsS64.drew | apply IsS64.set_1) | exact (Q_HI0_e5 h0_))) hb))
                   clear HK
                   clear HB
                   have HO393 := n0_
                   have HK := n2_
                   have HB := n3_
                   clear n0_ n2_ n3_
                   clear hb ho35
                   obtain ⟨Ao36, co36, eo36⟩ := Xk HO393.out
                   subst eo36
                   obtain ⟨ado36, fo36, _⟩ := Kd.at_string (Xb HO393.out).2.2 0 (by decide) (by rw [Ny391.out]; simp)
                   cases fo36
                   refine hK.out _ _ ⟨.slice (some ado36) y391.length co36, ado36, m6_, (by rw [ha.out]; exact putSel_upk 1 hb_ rfl rfl rfl), z_HI0, (kk HK.out), (bl HB.out), fun _ => (kr HO393.out), fun _ => ⟨_, rfl⟩, z_HI0_e5, fun h0_ => absurd ((hoff 6 (by kernel_rfl)).symm.trans h0_) (by decide)⟩
                 refine steps_cons ?_ ?_
                 · rintro b a w' ⟨v392, adz_v392, m6_, ha, Q_HI0, Q_HK, Q_HB, Q_HO393, Q_HA_HO393, Q_HI0_e5, Q_X6_⟩ hb_ hon hoff
                   refine ⟨_, rfl, fun K hK => ?_⟩
                   have e36 : a.tmps[36]? = some (.pointer (some ⟨g, 0, none⟩)) := by rw [ha]; exact (putSel_off rfl).trans rfl
                   replace ha := Qa ha
                   have HI0 := Qa (Q_HI0 hb_)
                   have HK := Qa Q_HK
                   have HB := Qa Q_HB
                   refine goes_ Tryz.func28 (by kernel_rfl) rfl #[.pointer (some ⟨g, 0, none⟩), .int .i64 6] (by rfl) rfl rfl (by first | (simp only [List.map_toArray, List.map_cons, List.map_nil, Act.eval, Array.getD_eq_getD_getElem?, Option.getD_some, e36]; done) | (simp only [List.map_toArray, List.map_cons, List.map_nil, Act.eval, Array.getD_eq_getD_getElem?, Option.getD_some, e36]; rfl)) ?_
                   with_reducible refine (paygen_Deck_Next.calls k g s0_0 t390 6 t394 t395 w0 _ ?side1 ?side2 A24.out).mono ?_
                   (case side1 => repeat (first | (with_reducible first | exact HI0.out | apply IsS64.alloc | apply IsS64.drewN | apply IsS64.drew | apply IsS64.set_1) | exact HI0.out))
                   (case side2 => repeat (first | (with_reducible first | exact HB.out | apply Qd | apply Qe | apply Qf | refine Qg ?_ (IsS64.ge HI0.out)) | exact HB.out))
                   rintro e w34 ⟨rfl, hi, hb, hk⟩
                   refine ⟨_, rfl, ?_⟩
                   have n0_ := Qa (KeepBut.trans (kk HK.out) hk (.inl rfl))
                   have n1_ := Qa (hb)
                   have n2_ := Qa (hi)
                   have z_HO393 := fun (h0_ : b 3 = true) => (show Kd.R Kd.string 9 w34 w.heap.size (fun _ => True) v392 y391 from by first | exact (Xf (Xj (IsS64.apart (show IsS64 w0 _ g s0_0 t390 from by repeat (first | (with_reducible first | exact HI0.out | apply IsS64.alloc | apply IsS64.drewN | apply IsS64.drew | apply IsS64.set_1) | exact HI0.out)) (by (with_reducible repeat (first | apply Xc | apply Xd | apply Xe)); exact (Q_HO393 h0_)) (by decide)) hk (fun _ h => h.2)) (fun _ h => h.1)) | exact Xf (Xf (Xj (IsS64.apart (show IsS64 w0 _ g s0_0 t390 from by repeat (first | (with_reducible first | exact HI0.out | apply IsS64.alloc | apply IsS64.drewN | apply IsS64.drew | apply IsS64.set_1) | exact HI0.out)) (by (with_reducible repeat (first | apply Xc | apply Xd | apply Xe)); exact (Q_HO393 h0_)) (by decide)) hk (fun _ h => h.2)) (fun _ h => h.1)) (fun _ h_ => by first | trivial | exact h_ | exact h_.1))
                   clear HK
                   clear HB
                   clear HI0
                   have HK := n0_
                   have HB := n1_
                   have HI0 := n2_
                   clear n0_ n1_ n2_
                   (try clear hb)
                   (try clear hb2)
                   (try clear hk)
                   (try clear hi)
                   refine hK.out _ _ ⟨v392, adz_v392, m6_, (by rw [ha.out]; exact putSel_upk 2 hb_ rfl rfl rfl), fun h0_ => absurd ((up_self b 5).symm.trans h0_) (by decide), (kk HK.out), (by repeat (first | (with_reducible first | exact HB.out | apply Qd | apply Qe | apply Qf | refine Qg ?_ (IsS64.ge HI0.out)) | exact HB.out)), z_HO393, Q_HA_HO393, fun _ => (by repeat (first | (with_reducible first | exact HI0.out | apply IsS64.alloc | apply IsS64.drewN | apply IsS64.drew | apply IsS64.set_1) | exact HI0.out)), fun h0_ => absurd ((hoff 6 (by kernel_rfl)).symm.trans h0_) (by decide)⟩
                 refine steps_cons ?_ ?_
                 · rintro b a w' ⟨v392, adz_v392, m6_, ha, Q_HI0, Q_HK, Q_HB, Q_HO393, Q_HA_HO393, Q_HI0_e5, Q_X6_⟩ hb_ hon hoff
                   refine ⟨_, rfl, fun K hK => ?_⟩
                   have e35 : a.tmps[35]? = some (v392) := by rw [ha]; exact putSel_on (e := (3,35, v392)) 1 rfl rfl (hon 3 (by kernel_rfl)) rfl
                   have e37 : a.tmps[37]? = some (.int .i64 t394) := by rw [ha]; exact putSel_on (e := (5,37, .int .i64 t394)) 2 rfl rfl (hon 5 (by kernel_rfl)) rfl
                   replace ha := Qa ha
                   have HK := Qa Q_HK
                   have HB := Qa Q_HB
                   have HO393 := Qa (Q_HO393 (hon 3 (by kernel_rfl)))
                   have HA_HO393 := Qa (Q_HA_HO393 (hon 3 (by kernel_rfl)))
                   have HI0 := Qa (Q_HI0_e5 (hon 5 (by kernel_rfl)))
                   obtain ⟨c_, hv_⟩ := HA_HO393.out
                   rw [hv_] at e35
                   refine value_ (w1 := w') (v := .pointer (some (adz_v392.add (t394).toNat))) (by rfl) rfl ?_ ?_
                   · go_simp
                     (try simp only [i64_w])
                     try rfl
                   refine hK.out _ _ ⟨v392, adz_v392, (.pointer (some (adz_v392.add (t394).toNat))), (by rw [ha.out]; exact putSel_upk 3 hb_ rfl rfl rfl), fun h0_ => absurd ((hon 5 (by kernel_rfl)).symm.trans h0_) (by decide), Q_HK, Q_HB, Q_HO393, Q_HA_HO393, Q_HI0_e5, fun _ => rfl⟩
                 refine steps_cons ?_ ?_
                 · rintro b a w' ⟨v392, adz_v392, m6_, ha, Q_HI0, Q_HK, Q_HB, Q_HO393, Q_HA_HO393, Q_HI0_e5, Q_X6_⟩ hb_ hon hoff
                   refine ⟨_, rfl, fun K hK => ?_⟩
                   have e38 : a.tmps[38]? = some (m6_) := by rw [ha]; exact putSel_on (e := (6,38, m6_)) 3 rfl rfl (hon 6 (by kernel_rfl)) rfl
                   rw [Q_X6_ (hon 6 (by kernel_rfl))] at e38
                   replace ha := Qa ha
                   have HK := Qa Q_HK
                   have HB := Qa Q_HB
                   have HO393 := Qa (Q_HO393 (hon 3 (by kernel_rfl)))
                   have HA_HO393 := Qa (Q_HA_HO393 (hon 3 (by kernel_rfl)))
                   have HI0 := Qa (Q_HI0_e5 (hon 5 (by kernel_rfl)))
                   obtain ⟨c_, hv_⟩ := HA_HO393.out
                   have hF_ := HO393.out
                   rw [hv_] at hF_
                   obtain ⟨ad_, ea_, hx_⟩ := Kd.at_string (Xb hF_).2.2 t394 (of_eq_true pi396) (of_eq_true qi396)
                   cases ea_
                   refine value_ (w1 := w') (v := .string (rdOf ByteArray.empty y391 t394)) (by rfl) rfl ?_ ?_
                   · go_simp
                     (try simp only [i64_w])
                     try rfl
                   refine hK.out _ _ ⟨v392, adz_v392, m6_, (by rw [ha.out]; exact putSel_upk 4 hb_ rfl rfl rfl), fun h0_ => absurd ((hon 5 (by kernel_rfl)).symm.trans h0_) (by decide), Q_HK, Q_HB, Q_HO393, Q_HA_HO393, Q_HI0_e5, Q_X6_⟩
                 refine steps_cons ?_ ?_
                 · rintro b a w' ⟨v392, adz_v392, m6_, ha, Q_HI0, Q_HK, Q_HB, Q_HO393, Q_HA_HO393, Q_HI0_e5, Q_X6_⟩ hb_ hon hoff
                   refine ⟨_, rfl, fun K hK => ?_⟩
                   have e34 : a.tmps[34]? = some (.string (a1.extract 0 (t387 : Int).toNat)) := by rw [ha]; exact putSel_on (e := (2,34, .string (a1.extract 0 (t387 : Int).toNat))) 0 rfl rfl (hon 2 (by kernel_rfl)) rfl
                   have e39 : a.tmps[39]? = some (.string (rdOf ByteArray.empty y391 t394)) := by rw [ha]; exact putSel_on (e := (7,39, .string (rdOf ByteArray.empty y391 t394))) 4 rfl rfl (hon 7 (by kernel_rfl)) rfl
                   replace ha := Qa ha
                   have HK := Qa Q_HK
                   have HB := Qa Q_HB
                   have HO393 := Qa (Q_HO393 (hon 3 (by kernel_rfl)))
                   have HA_HO393 := Qa (Q_HA_HO393 (hon 3 (by kernel_rfl)))
                   have HI0 := Qa (Q_HI0_e5 (hon 5 (by kernel_rfl)))
                   refine value_ (w1 := w') (v := .string ((a1.extract 0 (t387 : Int).toNat) ++ (rdOf ByteArray.empty y391 t394))) (by rfl) rfl ?_ ?_
                   · go_simp
                     (try simp only [i64_w])
                     try rfl
                   refine hK.out _ _ ⟨v392, adz_v392, m6_, (by rw [ha.out]; exact putSel_upk 5 hb_ rfl rfl rfl), fun h0_ => absurd ((hon 5 (by kernel_rfl)).symm.trans h0_) (by decide), Q_HK, Q_HB, Q_HO393, Q_HA_HO393, Q_HI0_e5, Q_X6_⟩
                 refine steps_cons ?_ ?_
                 · rintro b a w' ⟨v392, adz_v392, m6_, ha, Q_HI0, Q_HK, Q_HB, Q_HO393, Q_HA_HO393, Q_HI0_e5, Q_X6_⟩ hb_ hon hoff
                   refine ⟨_, rfl, fun K hK => ?_⟩
                   have e41 : a.tmps[41]? = some (.string a1) := by rw [ha]; exact (putSel_off rfl).trans rfl
                   have e42 : a.tmps[42]? = some (.int .i64 t387) := by rw [ha]; exact (putSel_off rfl).trans rfl
                   replace ha := Qa ha
                   have HK := Qa Q_HK
                   have HB := Qa Q_HB
                   refine value_ (w1 := w') (v := .string (a1.extract (t387 : Int).toNat a1.size)) (by rfl) rfl ?_ ?_
                   · go_simp
                     (try simp only [i64_w])
                     try rfl
                   refine hK.out _ _ ⟨v392, adz_v392, m6_, (by rw [ha.out]; exact putSel_upk 6 hb_ rfl rfl rfl), Q_HI0, Q_HK, Q_HB, Q_HO393, Q_HA_HO393, Q_HI0_e5, Q_X6_⟩
                 refine steps_cons ?_ ?_
                 · rintro b a w' ⟨v392, adz_v392, m6_, ha, Q_HI0, Q_HK, Q_HB, Q_HO393, Q_HA_HO393, Q_HI0_e5, Q_X6_⟩ hb_ hon hoff
                   refine ⟨_, rfl, fun K hK => ?_⟩
                   have e40 : a.tmps[40]? = some (.string ((a1.extract 0 (t387 : Int).toNat) ++ (rdOf ByteArray.empty y391 t394))) := by rw [ha]; exact putSel_on (e := (8,40, .string ((a1.extract 0 (t387 : Int).toNat) ++ (rdOf ByteArray.empty y391 t394)))) 5 rfl rfl (hon 8 (by kernel_rfl)) rfl
                   have e43 : a.tmps[43]? = some (.string (a1.extract (t387 : Int).toNat a1.size)) := by rw [ha]; exact putSel_on (e := (11,43, .string (a1.extract (t387 : Int).toNat a1.size))) 6 rfl rfl (hon 11 (by kernel_rfl)) rfl
                   replace ha := Qa ha
                   have HK := Qa Q_HK
                   have HB := Qa Q_HB
                   have HO393 := Qa (Q_HO393 (hon 3 (by kernel_rfl)))
                   have HA_HO393 := Qa (Q_HA_HO393 (hon 3 (by kernel_rfl)))
                   have HI0 := Qa (Q_HI0_e5 (hon 5 (by kernel_rfl)))
                   refine value_ (w1 := w') (v := .string (((a1.extract 0 (t387 : Int).toNat) ++ (rdOf ByteArray.empty y391 t394)) ++ (a1.extract (t387 : Int).toNat a1.size))) (by rfl) rfl ?_ ?_
                   · go_simp
                     (try simp only [i64_w])
                     try rfl
                   refine hK.out _ _ ⟨v392, adz_v392, m6_, (by rw [ha.out]; exact putSel_upk 7 hb_ rfl rfl rfl), fun h0_ => absurd ((hon 5 (by kernel_rfl)).symm.trans h0_) (by decide), Q_HK, Q_HB, Q_HO393, Q_HA_HO393, Q_HI0_e5, Q_X6_⟩
                 refine steps_cons ?_ ?_
                 · rintro b a w' ⟨v392, adz_v392, m6_, ha, Q_HI0, Q_HK, Q_HB, Q_HO393, Q_HA_HO393, Q_HI0_e5, Q_X6_⟩ hb_ hon hoff
                   refine ⟨_, rfl, fun K hK => ?_⟩
                   have e44 : a.tmps[44]? = some (.string (((a1.extract 0 (t387 : Int).toNat) ++ (rdOf ByteArray.empty y391 t394)) ++ (a1.extract (t387 : Int).toNat a1.size))) := by rw [ha]; exact putSel_on (e := (12,44, .string (((a1.extract 0 (t387 : Int).toNat) ++ (rdOf ByteArray.empty y391 t394)) ++ (a1.extract (t387 : Int).toNat a1.size)))) 7 rfl rfl (hon 12 (by kernel_rfl)) rfl
                   replace ha := Qa ha
                   have HK := Qa Q_HK
                   have HB := Qa Q_HB
                   have HO393 := Qa (Q_HO393 (hon 3 (by kernel_rfl)))
                   have HA_HO393 := Qa (Q_HA_HO393 (hon 3 (by kernel_rfl)))
                   have HI0 := Qa (Q_HI0_e5 (hon 5 (by kernel_rfl)))
                   refine value_ (w1 := w') (v := .string (((a1.extract 0 (t387 : Int).toNat) ++ (rdOf ByteArray.empty y391 t394)) ++ (a1.extract (t387 : Int).toNat a1.size))) (by rfl) rfl ?_ ?_
                   · go_simp
                     (try simp only [i64_w])
                     try rfl
                   refine hK.out _ _ ⟨v392, adz_v392, m6_, (by rw [ha.out]; exact putSel_upk 8 hb_ rfl rfl rfl), fun h0_ => absurd ((hon 5 (by kernel_rfl)).symm.trans h0_) (by decide), Q_HK, Q_HB, Q_HO393, Q_HA_HO393, Q_HI0_e5, Q_X6_⟩
                 exact steps_nil
               rintro b a w38 hall ⟨v392, adz_v392, m6_, ha, Q_HI0, Q_HK, Q_HB, Q_HO393, Q_HA_HO393, Q_HI0_e5, Q_X6_⟩
               clear HB HI0 HK
               have hb2_ := hall 2 (by kernel_rfl)
               have hb3_ := hall 3 (by kernel_rfl)
               have hb5_ := hall 5 (by kernel_rfl)
               have hb6_ := hall 6 (by kernel_rfl)
               have hb7_ := hall 7 (by kernel_rfl)
               have hb8_ := hall 8 (by kernel_rfl)
               have hb11_ := hall 11 (by kernel_rfl)
               have hb12_ := hall 12 (by kernel_rfl)
               have hb13_ := hall 13 (by kernel_rfl)
               subst ha
               obtain rfl := Q_X6_ hb6_
               simp only [putSel, hb2_, hb3_, hb5_, hb6_, hb7_, hb8_, hb11_, hb12_, hb13_, if_true, Act.put, Xt, Xu, Xv]
               clear Q_HI0
               have HK := Qa Q_HK
               clear Q_HK
               have HB := Qa Q_HB
               clear Q_HB
               have HO393 := Qa (Q_HO393 hb3_)
               clear Q_HO393
               have HA_HO393 := Qa (Q_HA_HO393 hb3_)
               clear Q_HA_HO393
               have HI0 := Qa (Q_HI0_e5 hb5_)
               clear Q_HI0_e5
               clear hall hb2_ hb3_ hb5_ hb6_ hb7_ hb8_ hb11_ hb12_ hb13_
               obtain ⟨co39, eo39⟩ := HA_HO393.out
               clear HA_HO393
               subst eo39
               try go_wp2
               go_ret
               exact ⟨by first | rfl | (simp [errW_none, errW_some] <;> rfl) | (simp [*, errW_none, errW_some] <;> rfl), by repeat (first | (with_reducible first | exact HI0.out | apply IsS64.alloc | apply IsS64.drewN | apply IsS64.drew | apply IsS64.set_1) | exact HI0.out), by repeat (first | (with_reducible first | exact HB.out | apply Qd | apply Qe | apply Qf | refine Qg ?_ (IsS64.ge HI0.out)) | exact HB.out), kk HK.out⟩
             rw [if_neg c30] at H
             exact absurd H (by simp)
           rw [if_neg c27] at H
           exact absurd H (by simp)
         rw [if_neg c26] at H
         exact absurd H (by simp)
       rw [if_neg c25] at H
       exact absurd H (by simp)
     rw [if_neg c23] at H
     exact absurd H (by simp)
   rw [if_neg c22] at H
   exact absurd H (by simp)
 rw [if_neg c21] at H
 have c21b0 : (t389 == 2) = false := Ya.mpr c21
 have c21b1 : (t389 != 2) = true := Yc.mpr c21
 by_cases c40 : t389 = 3
 · rw [if_pos c40] at H
   have c40b0 : (t389 == 3) = true := Yb.mpr c40
   have c40b1 : (t389 != 3) = false := bne_eq_false_iff_eq.mpr c40
   clear c40
   by_cases c41 : 0 ≤ t387
   · rw [if_pos c41] at H
     have c41b0 := eq_true c41
     have c41b1 : decide (0 ≤ t387) = true := Xq c41
     clear c41
     by_cases c42 : t387 ≤ (a1.size : Int)
     · rw [if_pos c42] at H
       have c42b0 := eq_true c42
       have c42b1 : decide (t387 ≤ (a1.size : Int)) = true := Xq c42
       clear c42
       replace H := Xx.mp H
       obtain ⟨⟨t397, t398⟩, A430, H⟩ := H
       replace H : ((some (([(t397) % 256] : List Int) : List Int)).bind fun y399 => (if (a1.extract 0 (t387 : Int).toNat).size + (strOfNums y399).size ≤ 9223372036854775807 then (if 0 ≤ (wrap64 (t387 + 1)) then (if (wrap64 (t387 + 1)) ≤ (a1.size : Int) then (if ((a1.extract 0 (t387 : Int).toNat) ++ (strOfNums y399)).size + (a1.extract ((wrap64 (t387 + 1)) : Int).toNat a1.size).size ≤ 9223372036854775807 then (some (((a1.extract 0 (t387 : Int).toNat) ++ (strOfNums y399)) ++ (a1.extract ((wrap64 (t387 + 1)) : Int).toNat a1.size), t398)) else (none)) else (none)) else (none)) else (none))) = some (r1, r2) := H
       have A43 := Qa A430
       clear A430
       obtain ⟨y399, hy399⟩ : ∃ y_ : List Int, y_ = (([(t397) % 256] : List Int)) := ⟨_, rfl⟩
       replace H : (if (a1.extract 0 (t387 : Int).toNat).size + (strOfNums y399).size ≤ 9223372036854775807 then (if 0 ≤ (wrap64 (t387 + 1)) then (if (wrap64 (t387 + 1)) ≤ (a1.size : Int) then (if ((a1.extract 0 (t387 : Int).toNat) ++ (strOfNums y399)).size + (a1.extract ((wrap64 (t387 + 1)) : Int).toNat a1.size).size ≤ 9223372036854775807 then (some (((a1.extract 0 (t387 : Int).toNat) ++ (strOfNums y399)) ++ (a1.extract ((wrap64 (t387 + 1)) : Int).toNat a1.size), t398)) else (none)) else (none)) else (none)) else (none)) = some (r1, r2) := by first | (rw [hy399]; with_reducible exact H) | (have H2_ := (Xy _ _).symm.trans H; rw [hy399]; with_reducible exact H2_) | (have H2_ := (Xy _ _).symm.trans H; with_reducible exact H2_) | with_reducible exact H | (rw [hy399]; exact H) | exact H
       have Ny399 := Qa hy399
       clear hy399
       by_cases c44 : (a1.extract 0 (t387 : Int).toNat).size + (strOfNums y399).size ≤ 9223372036854775807
       · rw [if_pos c44] at H
         have c44b0 := eq_true c44
         have c44b1 : decide ((a1.extract 0 (t387 : Int).toNat).size + (strOfNums y399).size ≤ 9223372036854775807) = true := Xq c44
         try have c44b2 : (9223372036854775807 < (a1.extract 0 (t387 : Int).toNat).size + (strOfNums y399).size) = False := eq_false (Nat.not_lt.2 c44)
         (try (have c44n0 : (t387.toNat + (strOfNums y399).size ≤ 9223372036854775807) = True := eq_true (by have h_ := c44; (try have g0_ : t387 ≤ (a1.size : Int) := Xp (by assumption)); (try have g1_ : 0 ≤ t387 := Xp (by assumption)); simp only [Xw, ByteArray.size_extract] at h_; omega)))
         (try (have c44n1 : (9223372036854775807 < t387.toNat + (strOfNums y399).size) = False := eq_false (by have h_ := c44; (try have g0_ : t387 ≤ (a1.size : Int) := Xp (by assumption)); (try have g1_ : 0 ≤ t387 := Xp (by assumption)); simp only [Xw, ByteArray.size_extract] at h_; omega)))
         obtain ⟨ji45, hji45⟩ : ∃ j_ : Int, (wrap64 (t387 + 1)) = j_ := ⟨_, rfl⟩
         replace H : (if 0 ≤ (ji45) then (if (ji45) ≤ (a1.size : Int) then (if ((a1.extract 0 (t387 : Int).toNat) ++ (strOfNums y399)).size + (a1.extract ((ji45) : Int).toNat a1.size).size ≤ 9223372036854775807 then (some (((a1.extract 0 (t387 : Int).toNat) ++ (strOfNums y399)) ++ (a1.extract ((ji45) : Int).toNat a1.size), t398)) else (none)) else (none)) else (none)) = some (r1, r2) := by first | (rw [hji45] at H; exact H) | (simp only [hji45] at H ⊢; exact H)
         (try rw [hji45] at A4)
         (try rw [hji45] at A5)
         (try rw [hji45] at A43)
         have hji45w : (IntKind.i64.wrap (t387 + 1)) = ji45 := (i64_w _).trans hji45
         by_cases c46 : 0 ≤ (ji45)
         · rw [if_pos c46] at H
           have c46b0 := eq_true c46
           have c46b1 : decide (0 ≤ (ji45)) = true := Xq c46
           clear c46
           by_cases c47 : (ji45) ≤ (a1.size : Int)
           · rw [if_pos c47] at H
             have c47b0 := eq_true c47
             have c47b1 : decide ((ji45) ≤ (a1.size : Int)) = true := Xq c47
             clear c47
             by_cases c48 : ((a1.extract 0 (t387 : Int).toNat) ++ (strOfNums y399)).size + (a1.extract ((ji45) : Int).toNat a1.size).size ≤ 9223372036854775807
             · rw [if_pos c48] at H
               have c48b0 := eq_true c48
               have c48b1 : decide (((a1.extract 0 (t387 : Int).toNat) ++ (strOfNums y399)).size + (a1.extract ((ji45) : Int).toNat a1.size).size ≤ 9223372036854775807) = true := Xq c48
               try have c48b2 : (9223372036854775807 < ((a1.extract 0 (t387 : Int).toNat) ++ (strOfNums y399)).size + (a1.extract ((ji45) : Int).toNat a1.size).size) = False := eq_false (Nat.not_lt.2 c48)
               (try (have c48n0 : (t387.toNat + (strOfNums y399).size + (a1.size - ji45.toNat) ≤ 9223372036854775807) = True := eq_true (by have h_ := c48; (try have g0_ : t387 ≤ (a1.size : Int) := Xp (by assumption)); (try have g1_ : 0 ≤ t387 := Xp (by assumption)); (try have g2_ : ji45 ≤ (a1.size : Int) := Xp (by assumption)); (try have g3_ : 0 ≤ ji45 := Xp (by assumption)); simp only [Xw, ByteArray.size_extract] at h_; omega)))
               (try (have c48n1 : (9223372036854775807 < t387.toNat + (strOfNums y399).size + (a1.size - ji45.toNat)) = False := eq_false (by have h_ := c48; (try have g0_ : t387 ≤ (a1.size : Int) := Xp (by assumption)); (try have g1_ : 0 ≤ t387 := Xp (by assumption)); (try have g2_ : ji45 ≤ (a1.size : Int) := Xp (by assumption)); (try have g3_ : 0 ≤ ji45 := Xp (by assumption)); simp only [Xw, ByteArray.size_extract] at h_; omega)))
               simp only [Option.some.injEq, Prod.mk.injEq] at H
               obtain ⟨rfl, rfl⟩ := H
               go_enter Tryz.func18, Tryz.ntmps18
               try go_wp2_with (first | ((with_reducible refine Qw (f := 28) rfl ?_); refine gc (some 12) Tryz.func28 #[.pointer (some ⟨g, 0, none⟩), .int .i64 (a1.size : Int)] ?_; (with_reducible refine (paygen_Deck_Next.calls k g s0_0 s0_1 (a1.size : Int) t387 t388 w0 _ ?side1 ?side2 A4.out).mono ?_); (case side1 => repeat (first | (with_reducible first | exact HI0.out | apply IsS64.alloc | apply IsS64.drewN | apply IsS64.drew | apply IsS64.set_1) | exact HI0.out)); (case side2 => repeat (first | (with_reducible first | exact HB.out | apply Qd | apply Qe | apply Qf | refine Qg ?_ (IsS64.ge HI0.out)) | exact HB.out)); rintro e w49 ⟨rfl, hi, hb, hk⟩; refine ⟨_, rfl, ?_⟩; have n0_ := Qa (KeepBut.trans (kk HK.out) hk (.inl rfl)); have n1_ := Qa (hb); have n2_ := Qa (hi); clear HK HB HI0; have HK := n0_; have HB := n1_; have HI0 := n2_; clear n0_ n1_ n2_; (try clear hb); (try clear hk); (try clear hi)) | ((with_reducible refine Qw (f := 28) rfl ?_); refine gc (some 14) Tryz.func28 #[.pointer (some ⟨g, 0, none⟩), .int .i64 5] ?_; (with_reducible refine (paygen_Deck_Next.calls k g s0_0 t388 5 t389 t390 w0 _ ?side1 ?side2 A5.out).mono ?_); (case side1 => repeat (first | (with_reducible first | exact HI0.out | apply IsS64.alloc | apply IsS64.drewN | apply IsS64.drew | apply IsS64.set_1) | exact HI0.out)); (case side2 => repeat (first | (with_reducible first | exact HB.out | apply Qd | apply Qe | apply Qf | refine Qg ?_ (IsS64.ge HI0.out)) | exact HB.out)); rintro e w50 ⟨rfl, hi, hb, hk⟩; refine ⟨_, rfl, ?_⟩; have n0_ := Qa (KeepBut.trans (kk HK.out) hk (.inl rfl)); have n1_ := Qa (hb); have n2_ := Qa (hi); clear HK HB HI0; have HK := n0_; have HB := n1_; have HI0 := n2_; clear n0_ n1_ n2_; (try clear hb); (try clear hk); (try clear hi)))
               have n0_ := Qa (IsS64.drew HI0.out)
               have n1_ := Qa (Qr HK.out)
               have n2_ := Qa (Qf HB.out)
               clear HI0
               clear HK
               clear HB
               have HI0 := n0_
               have HK := n1_
               have HB := n2_
               clear n0_ n1_ n2_
               refine start_ (n := 15) (S := fun w' => True) (ds := []) #[Zf,Zf,Zf,Zf,Zf,Zf,Zf,Zf,Zf,Zf,Zf,Zf,Zf,Zf,Zf] (by kernel_rfl) rfl rfl trivial (fun hHeld => ?_); refine with_tabW paygen_Deck_Damage.tab12 paygen_Deck_Damage.bits12 (fun HT_ HW_ => ?_)
               generalize w50.drew = w51 at HI0 HK HB hHeld ⊢
               refine pu (i := 0) (N := some 47) (v := ?_) (a' := ?_) #[Zt,Zf,Zf,Zf,Zf,Zf,Zf,Zf,Zf,Zf,Zf,Zf,Zf,Zf,Zf] HT_ ?_ ?_ ?_
               rotate_left
               · intro w'
                 go_simp
                 with_reducible rfl
               rotate_left
               · simp only [Act.put, Xt, Xu, Xv, i64_w, i32_w]
                 rfl
               refine pu (i := 1) (N := some 48) (v := ?_) (a' := ?_) #[Zt,Zt,Zf,Zf,Zf,Zf,Zf,Zf,Zf,Zf,Zf,Zf,Zf,Zf,Zf] HT_ ?_ ?_ ?_
               rotate_left
               · intro w'
                 go_simp
                 with_reducible rfl
               rotate_left
               · simp only [Act.put, Xt, Xu, Xv, i64_w, i32_w]
                 rfl
               refine pu (i := 2) (N := some 49) (v := ?_) (a' := ?_) #[Zt,Zt,Zt,Zf,Zf,Zf,Zf,Zf,Zf,Zf,Zf,Zf,Zf,Zf,Zf] HT_ ?_ ?_ ?_
               rotate_left
               · intro w'
                 go_simp
                 with_reducible rfl
               rotate_left
               · simp only [Act.put, Xt, Xu, Xv, i64_w, i32_w]
                 rfl
               refine pu (i := 3) (N := some 50) (v := ?_) (a' := ?_) #[Zt,Zt,Zt,Zt,Zf,Zf,Zf,Zf,Zf,Zf,Zf,Zf,Zf,Zf,Zf] HT_ ?_ ?_ ?_
               rotate_left
               · intro w'
                 go_simp
                 with_reducible rfl
               rotate_left
               · simp only [Act.put, Xt, Xu, Xv, i64_w, i32_w]
                 rfl
               refine pu (i := 9) (N := some 56) (v := ?_) (a' := ?_) #[Zt,Zt,Zt,Zt,Zf,Zf,Zf,Zf,Zf,Zt,Zf,Zf,Zf,Zf,Zf] HT_ ?_ ?_ ?_
               rotate_left
               · intro w'
                 go_simp
                 with_reducible rfl
               rotate_left
               · simp only [Act.put, Xt, Xu, Xv, i64_w, i32_w]
                 rfl
               refine pu (i := 10) (N := some 57) (v := ?_) (a' := ?_) #[Zt,Zt,Zt,Zt,Zf,Zf,Zf,Zf,Zf,Zt,Zt,Zf,Zf,Zf,Zf] HT_ ?_ ?_ ?_
               rotate_left
               · intro w'
                 go_simp
                 with_reducible rfl
               rotate_left
               · simp only [Act.put, Xt, Xu, Xv, i64_w, i32_w]
                 rfl
               refine pu (i := 11) (N := some 58) (v := ?_) (a' := ?_) #[Zt,Zt,Zt,Zt,Zf,Zf,Zf,Zf,Zf,Zt,Zt,Zt,Zf,Zf,Zf] HT_ ?_ ?_ ?_
               rotate_left
               · intro w'
                 go_simp
                 with_reducible rfl
               rotate_left
               · simp only [Act.put, Xt, Xu, Xv, i64_w, i32_w]
                 rfl
               refine pu (i := 12) (N := some 59) (v := ?_) (a' := ?_) #[Zt,Zt,Zt,Zt,Zf,Zf,Zf,Zf,Zf,Zt,Zt,Zt,Zt,Zf,Zf] HT_ ?_ ?_ ?_
               rotate_left
               · intro w'
                 go_simp
                 with_reducible rfl
               rotate_left
               · simp only [Act.put, Xt, Xu, Xv, i64_w, i32_w]
                 rfl
               refine one_ (i := 4) (N := some 51) #[Zt,Zt,Zt,Zt,Zt,Zf,Zf,Zf,Zf,Zt,Zt,Zt,Zt,Zf,Zf] rfl rfl (one_of HT_.out (by kernel_rfl)) (by decide) (fun K hK => ?_)
               refine goes_ Tryz.func28 (by kernel_rfl) rfl #[.pointer (some ⟨g, 0, none⟩), .int .i64 256] (by rfl) rfl rfl (by (try simp only [List.map_toArray, List.map_cons, List.map_nil]); first | done | rfl | (simp only [List.length_drop, List.length_take]; rfl)) ?_
               with_reducible refine (paygen_Deck_Next.calls k g s0_0 t390 256 t397 t398 w0 _ ?side1 ?side2 A43.out).mono ?_
               (case side1 => repeat (first | (with_reducible first | exact HI0.out | apply IsS64.alloc | apply IsS64.drewN | apply IsS64.drew | apply IsS64.set_1) | exact HI0.out))
               (case side2 => repeat (first | (with_reducible first | exact HB.out | apply Qd | apply Qe | apply Qf | refine Qg ?_ (IsS64.ge HI0.out)) | exact HB.out))
               rintro e w52 ⟨rfl, hi, hb, hk⟩
               refine ⟨_, rfl, ?_⟩
               have n0_ := Qa (KeepBut.trans (kk HK.out) hk (.inl rfl))
               have n1_ := Qa (hb)
               have n2_ := Qa (hi)
               clear HK
               clear HB
               clear HI0
               have HK := n0_
               have HB := n1_
               have HI0 := n2_
               clear n0_ n1_ n2_
               (try clear hb)
               (try clear hb2)
               (try clear hk)
               (try clear hi)
               refine hK.out _ _ trivial (fun hHeld => ?_)
               clear hK K
               refine norm_ (a' := ?_) ?_ ?_
               rotate_left
               · show Act.put _ (some 51) _ = _
                 simp only [Act.put, Xt, Xu, Xv, i64_w, i32_w]
                 rfl
               refine pu (i := 5) (N := some 52) (v := ?_) (a' := ?_) #[Zt,Zt,Zt,Zt,Zt,Zt,Zf,Zf,Zf,Zt,Zt,Zt,Zt,Zf,Zf] HT_ ?_ ?_ ?_
               rotate_left
               · intro w'
                 go_simp
                 with_reducible rfl
               rotate_left
               · simp only [Act.put, Xt, Xu, Xv, i64_w, i32_w]
                 rfl
               refine one_ (i := 6) (N := some 53) #[Zt,Zt,Zt,Zt,Zt,Zt,Zt,Zf,Zf,Zt,Zt,Zt,Zt,Zf,Zf] rfl rfl (one_of HT_.out (by kernel_rfl)) (by decide) (fun K hK => ?_)
               refine Kd.R_lit_step (Kd.int .u8) _ 5 ?hg (N := 53) ?hd (xs := ([(t397) % 256] : List Int)) (inner := [.int .u8 ((t397) % 256)]) (ok := fun _ => True) (okp := fun _ => True) ?hr ?hp (fun _ hk => hk) trivial (Below.refl _ _) (Nat.le_refl _) (by simp) ?_; (case hd => rfl); (case hg => rfl); (case hr => first | (go_simp; done) | (go_simp; rfl)); (case hp => exact (Reps.one (show Kd.M (Kd.int .u8) _ _ _ ((t397) % 256) [.int .u8 ((t397) % 256)] from rfl) (Reps.none _ _)))
               intro v400 w53 ho54 hb hg_ hnew_
               clear hg_ hnew_
               (first | rw [← Ny399.out] at ho54 | (simp only [Int.reduceToNat] at ho54; rw [← Ny399.out] at ho54))
               have n0_ := Qa (Kd.R_lower ho54 (Qt (w := w) (g := g) (row := none) (kk HK.out)))
               have n1_ := Qa (IsS64.below (by repeat (first | (with_reducible first | exact HI0.out | apply IsS64.alloc | apply IsS64.drewN | apply IsS64.drew | apply IsS64.set_1) | exact HI0.out)) hb)
               have n2_ := Qa (KeepBut.trans (kk HK.out) (Qu hb g none) (.inl rfl))
               have n3_ := Qa (Qh (by repeat (first | (with_reducible first | exact HB.out | apply Qd | apply Qe | apply Qf | refine Qg ?_ (IsS64.ge HI0.out)) | exact HB.out)) hb)
               clear HI0
               clear HK
               clear HB
               have HO401 := n0_
               have HI0 := n1_
               have HK := n2_
               have HB := n3_
               clear n0_ n1_ n2_ n3_
               clear hb ho54
               refine hK.out _ _ trivial (fun hHeld => ?_)
               clear hK K
               refine norm_ (a' := ?_) ?_ ?_
               rotate_left
               · show Act.put _ (some 53) _ = _
                 simp only [Act.put, Xt, Xu, Xv, i64_w, i32_w]
                 rfl
               refine one_ (i := 7) (N := some 54) #[Zt,Zt,Zt,Zt,Zt,Zt,Zt,Zt,Zf,Zt,Zt,Zt,Zt,Zf,Zf] rfl rfl (one_of HT_.out (by kernel_rfl)) (by decide) (fun K hK => ?_)
               have hcv55 := own_string (P := Tryz.prog) Tryz.underlying67 Tryz.underlying5 Tryz.underlying9 (Kd.own_of_R HO401.out)
               refine value_ (w1 := ?_) (v := ?_) (by rfl) rfl ?_ ?_
               rotate_left 2
               · go_simp
                 constructor
                 · rfl
                 · rfl
               clear hcv55
               refine hK.out _ _ trivial (fun hHeld => ?_)
               clear hK K
               refine norm_ (a' := ?_) ?_ ?_
               rotate_left
               · show Act.put _ (some 54) _ = _
                 simp only [Act.put, Xt, Xu, Xv, i64_w, i32_w]
                 rfl
               refine pu (i := 8) (N := some 55) (v := ?_) (a' := ?_) #[Zt,Zt,Zt,Zt,Zt,Zt,Zt,Zt,Zt,Zt,Zt,Zt,Zt,Zf,Zf] HT_ ?_ ?_ ?_
               rotate_left
               · intro w'
                 go_simp
                 with_reducible rfl
               rotate_left
               · simp only [Act.put, Xt, Xu, Xv, i64_w, i32_w]
                 rfl
               refine pu (i := 13) (N := some 60) (v := ?_) (a' := ?_) #[Zt,Zt,Zt,Zt,Zt,Zt,Zt,Zt,Zt,Zt,Zt,Zt,Zt,Zt,Zf] HT_ ?_ ?_ ?_
               rotate_left
               · intro w'
                 go_simp
                 with_reducible rfl
               rotate_left
               · simp only [Act.put, Xt, Xu, Xv, i64_w, i32_w]
                 rfl
               refine pu (i := 14) (N := some 4) (v := ?_) (a' := ?_) #[Zt,Zt,Zt,Zt,Zt,Zt,Zt,Zt,Zt,Zt,Zt,Zt,Zt,Zt,Zt] HT_ ?_ ?_ ?_
               rotate_left
               · intro w'
                 go_simp
                 with_reducible rfl
               rotate_left
               · simp only [Act.put, Xt, Xu, Xv, i64_w, i32_w]
                 rfl
               refine done_ (done_of HT_.out (by kernel_rfl)) ?_
               try go_wp2
               go_ret
               exact ⟨by first | rfl | (simp [errW_none, errW_some] <;> rfl) | (simp only [← hji45]; first | rfl | (simp [errW_none, errW_some] <;> rfl)) | (simp [*, errW_none, errW_some] <;> rfl), by repeat (first | (with_reducible first | exact HI0.out | apply IsS64.alloc | apply IsS64.drewN | apply IsS64.drew | apply IsS64.set_1) | exact HI0.out), by repeat (first | (with_reducible first | exact HB.out | apply Qd | apply Qe | apply Qf | refine Qg ?_ (IsS64.ge HI0.out)) | exact HB.out), kk HK.out⟩
             rw [if_neg c48] at H
             exact absurd H (by simp)
           rw [if_neg c47] at H
           exact absurd H (by simp)
         rw [if_neg c46] at H
         exact absurd H (by simp)
       rw [if_neg c44] at H
       exact absurd H (by simp)
     rw [if_neg c42] at H
     exact absurd H (by simp)
   rw [if_neg c41] at H
   exact absurd H (by simp)
 rw [if_neg c40] at H
 have c40b0 : (t389 == 3) = false := Ya.mpr c40
 have c40b1 : (t389 != 3) = true := Yc.mpr c40
 simp only [Option.some.injEq, Prod.mk.injEq] at H
 obtain ⟨rfl, rfl⟩ := H
 go_enter Tryz.func18, Tryz.ntmps18
 go_wp2_with (first | ((with_reducible refine Qw (f := 28) rfl ?_); refine gc (some 12) Tryz.func28 #[.pointer (some ⟨g, 0, none⟩), .int .i64 (a1.size : Int)] ?_; (with_reducible refine (paygen_Deck_Next.calls k g s0_0 s0_1 (a1.size : Int) t387 t388 w0 _ ?side1 ?side2 A4.out).mono ?_); (case side1 => repeat (first | (with_reducible first | exact HI0.out | apply IsS64.alloc | apply IsS64.drewN | apply IsS64.drew | apply IsS64.set_1) | exact HI0.out)); (case side2 => repeat (first | (with_reducible first | exact HB.out | apply Qd | apply Qe | apply Qf | refine Qg ?_ (IsS64.ge HI0.out)) | exact HB.out)); rintro e w56 ⟨rfl, hi, hb, hk⟩; refine ⟨_, rfl, ?_⟩; have n0_ := Qa (KeepBut.trans (kk HK.out) hk (.inl rfl)); have n1_ := Qa (hb); have n2_ := Qa (hi); clear HK HB HI0; have HK := n0_; have HB := n1_; have HI0 := n2_; clear n0_ n1_ n2_; (try clear hb); (try clear hk); (try clear hi)) | ((with_reducible refine Qw (f := 28) rfl ?_); refine gc (some 14) Tryz.func28 #[.pointer (some ⟨g, 0, none⟩), .int .i64 5] ?_; (with_reducible refine (paygen_Deck_Next.calls k g s0_0 t388 5 t389 t390 w0 _ ?side1 ?side2 A5.out).mono ?_); (case side1 => repeat (first | (with_reducible first | exact HI0.out | apply IsS64.alloc | apply IsS64.drewN | apply IsS64.drew | apply IsS64.set_1) | exact HI0.out)); (case side2 => repeat (first | (with_reducible first | exact HB.out | apply Qd | apply Qe | apply Qf | refine Qg ?_ (IsS64.ge HI0.out)) | exact HB.out)); rintro e w57 ⟨rfl, hi, hb, hk⟩; refine ⟨_, rfl, ?_⟩; have n0_ := Qa (KeepBut.trans (kk HK.out) hk (.inl rfl)); have n1_ := Qa (hb); have n2_ := Qa (hi); clear HK HB HI0; have HK := n0_; have HB := n1_; have HI0 := n2_; clear n0_ n1_ n2_; (try clear hb); (try clear hk); (try clear hi)))
 go_ret
 exact ⟨by first | rfl | (simp [errW_none, errW_some] <;> rfl) | (simp [*, errW_none, errW_some] <;> rfl), by repeat (first | (with_reducible first | exact HI0.out | apply IsS64.alloc | apply IsS64.drewN | apply IsS64.drew | apply IsS64.set_1) | exact HI0.out), by repeat (first | (with_reducible first | exact HB.out | apply Qd | apply Qe | apply Qf | refine Qg ?_ (IsS64.ge HI0.out)) | exact HB.out), kk HK.out⟩
end Go.Proofs.YtejgfblphgcgkaaGreatDoor.P
