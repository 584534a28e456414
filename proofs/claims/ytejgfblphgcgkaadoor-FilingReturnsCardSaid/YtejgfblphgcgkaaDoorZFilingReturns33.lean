/- Texts for the law FilingReturns (kept out of a larger one). -/
import Derived.Test.YtejgfblphgcgkaaDoorZFilingReturns12
import Derived.Test.YtejgfblphgcgkaaDoorZFilingReturns29
-- Written by a program of this session (wip/tools/xprint.py) out of the translation; Lean checks it.
namespace Go.Proofs.YtejgfblphgcgkaaDoor.P
open Go.RowKit Go.Proofs.YtejgfblphgcgkaaDoorW.PrintWords Go.Proofs.YtejgfblphgcgkaaDoorW.PrintLast Go.Proofs.YtejgfblphgcgkaaDoorW.PrintMore
attribute [local go_sem] max2_int min2_int max_two min_two max_three min_three max_four min_four   -- for this text's walks alone
set_option linter.unusedVariables false
set_option linter.unusedSimpArgs false
def paygen_Deck_Damage.f (k : Nat) (s0_0 : List Int) (s0_1 : Int) (a1 : ByteArray) : Option (ByteArray × Int) := if a1.toList = ([] : List UInt8) then (some (a1, s0_1)) else ((paygen_Deck_Next.f k s0_0 s0_1 (a1.size : Int)).bind fun bt299 => ((paygen_Deck_Next.f k s0_0 bt299.2 5).bind fun bt301 => (if bt301.1 = 0 then (if 0 ≤ bt299.1 then (if bt299.1 ≤ (a1.size : Int) then (some (a1.extract 0 (bt299.1 : Int).toNat, bt301.2)) else (none)) else (none)) else (if bt301.1 = 1 then (if 0 ≤ bt299.1 then (if bt299.1 ≤ (a1.size : Int) then (if 0 ≤ (wrap64 (bt299.1 + 1)) then (if (wrap64 (bt299.1 + 1)) ≤ (a1.size : Int) then (if (a1.extract 0 (bt299.1 : Int).toNat).size + (a1.extract ((wrap64 (bt299.1 + 1)) : Int).toNat a1.size).size ≤ 9223372036854775807 then (some ((a1.extract 0 (bt299.1 : Int).toNat) ++ (a1.extract ((wrap64 (bt299.1 + 1)) : Int).toNat a1.size), bt301.2)) else (none)) else (none)) else (none)) else (none)) else (none)) else (if bt301.1 = 2 then (if 0 ≤ bt299.1 then (if bt299.1 ≤ (a1.size : Int) then ((some (([(⟨#[32]⟩ : ByteArray), (⟨#[10]⟩ : ByteArray), (⟨#[48]⟩ : ByteArray), (⟨#[49]⟩ : ByteArray), (⟨#[45]⟩ : ByteArray), (⟨#[101, 110, 100, 10]⟩ : ByteArray)] : List ByteArray) : List ByteArray)).bind fun y303 => ((paygen_Deck_Next.f k s0_0 bt301.2 6).bind fun bt306 => (if 0 ≤ bt306.1 then (if bt306.1 < (y303.length : Int) then (if (a1.extract 0 (bt299.1 : Int).toNat).size + (rdOf ByteArray.empty y303 bt306.1).size ≤ 9223372036854775807 then (if ((a1.extract 0 (bt299.1 : Int).toNat) ++ (rdOf ByteArray.empty y303 bt306.1)).size + (a1.extract (bt299.1 : Int).toNat a1.size).size ≤ 9223372036854775807 then (some (((a1.extract 0 (bt299.1 : Int).toNat) ++ (rdOf ByteArray.empty y303 bt306.1)) ++ (a1.extract (bt299.1 : Int).toNat a1.size), bt306.2)) else (none)) else (none)) else (none)) else (none)))) else (none)) else (none)) else (if bt301.1 = 3 then (if 0 ≤ bt299.1 then (if bt299.1 ≤ (a1.size : Int) then ((paygen_Deck_Next.f k s0_0 bt301.2 256).bind fun bt309 => ((some (([(bt309.1) % 256] : List Int) : List Int)).bind fun y311 => (if (a1.extract 0 (bt299.1 : Int).toNat).size + (strOfNums y311).size ≤ 9223372036854775807 then (if 0 ≤ (wrap64 (bt299.1 + 1)) then (if (wrap64 (bt299.1 + 1)) ≤ (a1.size : Int) then (if ((a1.extract 0 (bt299.1 : Int).toNat) ++ (strOfNums y311)).size + (a1.extract ((wrap64 (bt299.1 + 1)) : Int).toNat a1.size).size ≤ 9223372036854775807 then (some (((a1.extract 0 (bt299.1 : Int).toNat) ++ (strOfNums y311)) ++ (a1.extract ((wrap64 (bt299.1 + 1)) : Int).toNat a1.size), bt309.2)) else (none)) else (none)) else (none)) else (none)))) else (none)) else (none)) else (some (a1, bt301.2))))))))
def paygen_Deck_Damage.T8 : Bool × List (List Nat × List Nat) := (true, [([], []), ([], []), ([0, 1], [0, 1]), ([], []), ([], []), ([4], [4]), ([3, 5], [3, 5]), ([2, 6], [2, 6]), ([7, 0, 1, 2, 3, 4, 5, 6, 7], [7])])
def paygen_Deck_Damage.B8 : List Nat := [0, 0, 3, 0, 0, 16, 56, 127, 255]
theorem paygen_Deck_Damage.tab8 : rtab .any (opsOf Tryd.f13 8) = paygen_Deck_Damage.T8 := by kernel_rfl
theorem paygen_Deck_Damage.bits8 : waitsOk paygen_Deck_Damage.T8.2 paygen_Deck_Damage.B8 = true := by kernel_rfl
def paygen_Deck_Damage.T10 : Bool × List (List Nat × List Nat) := (true, [([], []), ([], []), ([0, 1], [0, 1]), ([], []), ([], []), ([4], [4]), ([3, 5], [3, 5]), ([6], [6]), ([2, 7], [2, 7]), ([], []), ([], []), ([9, 10], [9, 10]), ([8, 11], [8, 11]), ([12, 5, 0, 1, 2, 3, 4, 5, 6, 7, 8, 9, 10, 11, 12], [12])])
def paygen_Deck_Damage.B10 : List Nat := [0, 0, 3, 0, 0, 16, 56, 120, 255, 0, 0, 1536, 4095, 8191]
theorem paygen_Deck_Damage.tab10 : rtab .any (opsOf Tryd.f13 10) = paygen_Deck_Damage.T10 := by kernel_rfl
theorem paygen_Deck_Damage.bits10 : waitsOk paygen_Deck_Damage.T10.2 paygen_Deck_Damage.B10 = true := by kernel_rfl
def paygen_Deck_Damage.T12 : Bool × List (List Nat × List Nat) := (true, [([], []), ([], []), ([0, 1], [0, 1]), ([], []), ([3], [3]), ([4], [4]), ([5], [5]), ([6], [6]), ([2, 7], [2, 7]), ([], []), ([], []), ([10], [10]), ([9, 11], [9, 11]), ([8, 12], [8, 12]), ([13, 4, 0, 1, 2, 3, 4, 5, 6, 7, 8, 9, 10, 11, 12, 13], [13])])
def paygen_Deck_Damage.B12 : List Nat := [0, 0, 3, 0, 8, 24, 56, 120, 255, 0, 0, 1024, 3584, 8191, 16383]
theorem paygen_Deck_Damage.tab12 : rtab .any (opsOf Tryd.f13 12) = paygen_Deck_Damage.T12 := by kernel_rfl
theorem paygen_Deck_Damage.bits12 : waitsOk paygen_Deck_Damage.T12.2 paygen_Deck_Damage.B12 = true := by kernel_rfl
set_option maxHeartbeats 8000000 in
set_option maxRecDepth 100000 in
theorem paygen_Deck_Damage.calls (k : Nat) (g : Nat) (s0_0 : List Int) (s0_1 : Int) (a1 : ByteArray) (r1 : ByteArray) (r2 : Int) (w0 w : World) (hI : IsS62 w0 w g s0_0 s0_1) (hB : Below w0.heap.size w0 w) (h : paygen_Deck_Damage.f k s0_0 s0_1 a1 = some (r1, r2)) :
    Calls Tryd.prog 13 #[.pointer (some ⟨g, 0, none⟩), .string a1] w fun e w' => e = .returned (.string r1) ∧ IsS62 w0 w' g s0_0 r2 ∧ Below w0.heap.size w0 w' ∧ KeepBut w w' g none := by
  have HI0 := Aside0.mk hI
  have HK := Aside0.mk (KeepBut.refl w g none)
  have HL := Aside0.mk hB.size
  clear hI
  have HW0 := Aside0.mk hB.size
  have HB := Aside0.mk hB
  clear hB
  have H : (if a1.toList = ([] : List UInt8) then (some (a1, s0_1)) else ((paygen_Deck_Next.f k s0_0 s0_1 (a1.size : Int)).bind fun bt299 => ((paygen_Deck_Next.f k s0_0 bt299.2 5).bind fun bt301 => (if bt301.1 = 0 then (if 0 ≤ bt299.1 then (if bt299.1 ≤ (a1.size : Int) then (some (a1.extract 0 (bt299.1 : Int).toNat, bt301.2)) else (none)) else (none)) else (if bt301.1 = 1 then (if 0 ≤ bt299.1 then (if bt299.1 ≤ (a1.size : Int) then (if 0 ≤ (wrap64 (bt299.1 + 1)) then (if (wrap64 (bt299.1 + 1)) ≤ (a1.size : Int) then (if (a1.extract 0 (bt299.1 : Int).toNat).size + (a1.extract ((wrap64 (bt299.1 + 1)) : Int).toNat a1.size).size ≤ 9223372036854775807 then (some ((a1.extract 0 (bt299.1 : Int).toNat) ++ (a1.extract ((wrap64 (bt299.1 + 1)) : Int).toNat a1.size), bt301.2)) else (none)) else (none)) else (none)) else (none)) else (none)) else (if bt301.1 = 2 then (if 0 ≤ bt299.1 then (if bt299.1 ≤ (a1.size : Int) then ((some (([(⟨#[32]⟩ : ByteArray), (⟨#[10]⟩ : ByteArray), (⟨#[48]⟩ : ByteArray), (⟨#[49]⟩ : ByteArray), (⟨#[45]⟩ : ByteArray), (⟨#[101, 110, 100, 10]⟩ : ByteArray)] : List ByteArray) : List ByteArray)).bind fun y303 => ((paygen_Deck_Next.f k s0_0 bt301.2 6).bind fun bt306 => (if 0 ≤ bt306.1 then (if bt306.1 < (y303.length : Int) then (if (a1.extract 0 (bt299.1 : Int).toNat).size + (rdOf ByteArray.empty y303 bt306.1).size ≤ 9223372036854775807 then (if ((a1.extract 0 (bt299.1 : Int).toNat) ++ (rdOf ByteArray.empty y303 bt306.1)).size + (a1.extract (bt299.1 : Int).toNat a1.size).size ≤ 9223372036854775807 then (some (((a1.extract 0 (bt299.1 : Int).toNat) ++ (rdOf ByteArray.empty y303 bt306.1)) ++ (a1.extract (bt299.1 : Int).toNat a1.size), bt306.2)) else (none)) else (none)) else (none)) else (none)))) else (none)) else (none)) else (if bt301.1 = 3 then (if 0 ≤ bt299.1 then (if bt299.1 ≤ (a1.size : Int) then ((paygen_Deck_Next.f k s0_0 bt301.2 256).bind fun bt309 => ((some (([(bt309.1) % 256] : List Int) : List Int)).bind fun y311 => (if (a1.extract 0 (bt299.1 : Int).toNat).size + (strOfNums y311).size ≤ 9223372036854775807 then (if 0 ≤ (wrap64 (bt299.1 + 1)) then (if (wrap64 (bt299.1 + 1)) ≤ (a1.size : Int) then (if ((a1.extract 0 (bt299.1 : Int).toNat) ++ (strOfNums y311)).size + (a1.extract ((wrap64 (bt299.1 + 1)) : Int).toNat a1.size).size ≤ 9223372036854775807 then (some (((a1.extract 0 (bt299.1 : Int).toNat) ++ (strOfNums y311)) ++ (a1.extract ((wrap64 (bt299.1 + 1)) : Int).toNat a1.size), bt309.2)) else (none)) else (none)) else (none)) else (none)))) else (none)) else (none)) else (some (a1, bt301.2))))))))) = some (r1, r2) := h
  clear h
  by_cases c3 : a1.toList = ([] : List UInt8)
  · rw [if_pos c3] at H
    have c3b0 : (a1.toList == ([] : List UInt8)) = true := beq_iff_eq.mpr c3
    have c3b1 : (a1.toList != ([] : List UInt8)) = false := bne_eq_false_iff_eq.mpr c3
    clear c3
    simp only [Option.some.injEq, Prod.mk.injEq] at H
    obtain ⟨rfl, rfl⟩ := H
    go_enter Tryd.func13, Tryd.ntmps13
    go_wp2
    go_ret
    exact ⟨by first | rfl | (simp [errW_none, errW_some] <;> rfl) | (simp [*, errW_none, errW_some] <;> rfl), by repeat (first | (with_reducible first | exact HI0.out | apply IsS62.alloc | apply IsS62.drewN | apply IsS62.drew | apply IsS62.set_1) | exact HI0.out), by repeat (first | (with_reducible first | exact HB.out | apply below_alloc | apply pw_below_drewN | apply below_drew1 | refine below_set ?_ (IsS62.ge HI0.out)) | exact HB.out), by repeat (first | (with_reducible first | exact HK.out | apply KeepBut.set_ | apply keep_drewN | apply keep_drew | apply keep_alloc) | exact HK.out)⟩
  · rw [if_neg c3] at H
    have c3b0 : (a1.toList == ([] : List UInt8)) = false := beq_eq_false_iff_ne.mpr c3
    have c3b1 : (a1.toList != ([] : List UInt8)) = true := bne_iff_ne.mpr c3
    replace H := Option.bind_eq_some_iff.mp H
    obtain ⟨⟨t299, t300⟩, A40, H⟩ := H
    replace H : ((paygen_Deck_Next.f k s0_0 t300 5).bind fun bt301 => (if bt301.1 = 0 then (if 0 ≤ t299 then (if t299 ≤ (a1.size : Int) then (some (a1.extract 0 (t299 : Int).toNat, bt301.2)) else (none)) else (none)) else (if bt301.1 = 1 then (if 0 ≤ t299 then (if t299 ≤ (a1.size : Int) then (if 0 ≤ (wrap64 (t299 + 1)) then (if (wrap64 (t299 + 1)) ≤ (a1.size : Int) then (if (a1.extract 0 (t299 : Int).toNat).size + (a1.extract ((wrap64 (t299 + 1)) : Int).toNat a1.size).size ≤ 9223372036854775807 then (some ((a1.extract 0 (t299 : Int).toNat) ++ (a1.extract ((wrap64 (t299 + 1)) : Int).toNat a1.size), bt301.2)) else (none)) else (none)) else (none)) else (none)) else (none)) else (if bt301.1 = 2 then (if 0 ≤ t299 then (if t299 ≤ (a1.size : Int) then ((some (([(⟨#[32]⟩ : ByteArray), (⟨#[10]⟩ : ByteArray), (⟨#[48]⟩ : ByteArray), (⟨#[49]⟩ : ByteArray), (⟨#[45]⟩ : ByteArray), (⟨#[101, 110, 100, 10]⟩ : ByteArray)] : List ByteArray) : List ByteArray)).bind fun y303 => ((paygen_Deck_Next.f k s0_0 bt301.2 6).bind fun bt306 => (if 0 ≤ bt306.1 then (if bt306.1 < (y303.length : Int) then (if (a1.extract 0 (t299 : Int).toNat).size + (rdOf ByteArray.empty y303 bt306.1).size ≤ 9223372036854775807 then (if ((a1.extract 0 (t299 : Int).toNat) ++ (rdOf ByteArray.empty y303 bt306.1)).size + (a1.extract (t299 : Int).toNat a1.size).size ≤ 9223372036854775807 then (some (((a1.extract 0 (t299 : Int).toNat) ++ (rdOf ByteArray.empty y303 bt306.1)) ++ (a1.extract (t299 : Int).toNat a1.size), bt306.2)) else (none)) else (none)) else (none)) else (none)))) else (none)) else (none)) else (if bt301.1 = 3 then (if 0 ≤ t299 then (if t299 ≤ (a1.size : Int) then ((paygen_Deck_Next.f k s0_0 bt301.2 256).bind fun bt309 => ((some (([(bt309.1) % 256] : List Int) : List Int)).bind fun y311 => (if (a1.extract 0 (t299 : Int).toNat).size + (strOfNums y311).size ≤ 9223372036854775807 then (if 0 ≤ (wrap64 (t299 + 1)) then (if (wrap64 (t299 + 1)) ≤ (a1.size : Int) then (if ((a1.extract 0 (t299 : Int).toNat) ++ (strOfNums y311)).size + (a1.extract ((wrap64 (t299 + 1)) : Int).toNat a1.size).size ≤ 9223372036854775807 then (some (((a1.extract 0 (t299 : Int).toNat) ++ (strOfNums y311)) ++ (a1.extract ((wrap64 (t299 + 1)) : Int).toNat a1.size), bt309.2)) else (none)) else (none)) else (none)) else (none)))) else (none)) else (none)) else (some (a1, bt301.2))))))) = some (r1, r2) := H
    have A4 := Aside0.mk A40
    clear A40
    replace H := Option.bind_eq_some_iff.mp H
    obtain ⟨⟨t301, t302⟩, A50, H⟩ := H
    replace H : (if t301 = 0 then (if 0 ≤ t299 then (if t299 ≤ (a1.size : Int) then (some (a1.extract 0 (t299 : Int).toNat, t302)) else (none)) else (none)) else (if t301 = 1 then (if 0 ≤ t299 then (if t299 ≤ (a1.size : Int) then (if 0 ≤ (wrap64 (t299 + 1)) then (if (wrap64 (t299 + 1)) ≤ (a1.size : Int) then (if (a1.extract 0 (t299 : Int).toNat).size + (a1.extract ((wrap64 (t299 + 1)) : Int).toNat a1.size).size ≤ 9223372036854775807 then (some ((a1.extract 0 (t299 : Int).toNat) ++ (a1.extract ((wrap64 (t299 + 1)) : Int).toNat a1.size), t302)) else (none)) else (none)) else (none)) else (none)) else (none)) else (if t301 = 2 then (if 0 ≤ t299 then (if t299 ≤ (a1.size : Int) then ((some (([(⟨#[32]⟩ : ByteArray), (⟨#[10]⟩ : ByteArray), (⟨#[48]⟩ : ByteArray), (⟨#[49]⟩ : ByteArray), (⟨#[45]⟩ : ByteArray), (⟨#[101, 110, 100, 10]⟩ : ByteArray)] : List ByteArray) : List ByteArray)).bind fun y303 => ((paygen_Deck_Next.f k s0_0 t302 6).bind fun bt306 => (if 0 ≤ bt306.1 then (if bt306.1 < (y303.length : Int) then (if (a1.extract 0 (t299 : Int).toNat).size + (rdOf ByteArray.empty y303 bt306.1).size ≤ 9223372036854775807 then (if ((a1.extract 0 (t299 : Int).toNat) ++ (rdOf ByteArray.empty y303 bt306.1)).size + (a1.extract (t299 : Int).toNat a1.size).size ≤ 9223372036854775807 then (some (((a1.extract 0 (t299 : Int).toNat) ++ (rdOf ByteArray.empty y303 bt306.1)) ++ (a1.extract (t299 : Int).toNat a1.size), bt306.2)) else (none)) else (none)) else (none)) else (none)))) else (none)) else (none)) else (if t301 = 3 then (if 0 ≤ t299 then (if t299 ≤ (a1.size : Int) then ((paygen_Deck_Next.f k s0_0 t302 256).bind fun bt309 => ((some (([(bt309.1) % 256] : List Int) : List Int)).bind fun y311 => (if (a1.extract 0 (t299 : Int).toNat).size + (strOfNums y311).size ≤ 9223372036854775807 then (if 0 ≤ (wrap64 (t299 + 1)) then (if (wrap64 (t299 + 1)) ≤ (a1.size : Int) then (if ((a1.extract 0 (t299 : Int).toNat) ++ (strOfNums y311)).size + (a1.extract ((wrap64 (t299 + 1)) : Int).toNat a1.size).size ≤ 9223372036854775807 then (some (((a1.extract 0 (t299 : Int).toNat) ++ (strOfNums y311)) ++ (a1.extract ((wrap64 (t299 + 1)) : Int).toNat a1.size), bt309.2)) else (none)) else (none)) else (none)) else (none)))) else (none)) else (none)) else (some (a1, t302)))))) = some (r1, r2) := H
    have A5 := Aside0.mk A50
    clear A50
    by_cases c6 : t301 = 0
    · rw [if_pos c6] at H
      have c6b0 : (t301 == 0) = true := beq_iff_eq.mpr c6
      have c6b1 : (t301 != 0) = false := bne_eq_false_iff_eq.mpr c6
      clear c6
      by_cases c7 : 0 ≤ t299
      · rw [if_pos c7] at H
        have c7b0 := eq_true c7
        have c7b1 : decide (0 ≤ t299) = true := decide_eq_true c7
        clear c7
        by_cases c8 : t299 ≤ (a1.size : Int)
        · rw [if_pos c8] at H
          have c8b0 := eq_true c8
          have c8b1 : decide (t299 ≤ (a1.size : Int)) = true := decide_eq_true c8
          clear c8
          simp only [Option.some.injEq, Prod.mk.injEq] at H
          obtain ⟨rfl, rfl⟩ := H
          go_enter Tryd.func13, Tryd.ntmps13
          go_wp2_with (first | ((with_reducible refine gate_callee (f := 25) rfl ?_); refine goesL_ (some 12) rfl rfl Tryd.func25 (by kernel_rfl) rfl #[.pointer (some ⟨g, 0, none⟩), .int .i64 (a1.size : Int)] rfl (by (try simp only [List.map_toArray, List.map_cons, List.map_nil]); first | done | rfl | (simp only [List.length_drop, List.length_take]; rfl)) ?_; (with_reducible refine (paygen_Deck_Next.calls k g s0_0 s0_1 (a1.size : Int) t299 t300 w0 _ ?side1 ?side2 A4.out).mono ?_); (case side1 => repeat (first | (with_reducible first | exact HI0.out | apply IsS62.alloc | apply IsS62.drewN | apply IsS62.drew | apply IsS62.set_1) | exact HI0.out)); (case side2 => repeat (first | (with_reducible first | exact HB.out | apply below_alloc | apply pw_below_drewN | apply below_drew1 | refine below_set ?_ (IsS62.ge HI0.out)) | exact HB.out)); rintro e w9 ⟨rfl, hi, hb, hk⟩; refine ⟨_, rfl, ?_⟩; have n0_ := Aside0.mk (KeepBut.trans (by repeat (first | (with_reducible first | exact HK.out | apply KeepBut.set_ | apply keep_drewN | apply keep_drew | apply keep_alloc) | exact HK.out)) hk (.inl rfl)); have n1_ := Aside0.mk (hb); have n2_ := Aside0.mk (hi); clear HK; clear HB; clear HI0; have HK := n0_; have HB := n1_; have HI0 := n2_; clear n0_ n1_ n2_; (try clear hb); (try clear hb2); (try clear hk); (try clear hi)) | ((with_reducible refine gate_callee (f := 25) rfl ?_); refine goesL_ (some 14) rfl rfl Tryd.func25 (by kernel_rfl) rfl #[.pointer (some ⟨g, 0, none⟩), .int .i64 5] rfl (by (try simp only [List.map_toArray, List.map_cons, List.map_nil]); first | done | rfl | (simp only [List.length_drop, List.length_take]; rfl)) ?_; (with_reducible refine (paygen_Deck_Next.calls k g s0_0 t300 5 t301 t302 w0 _ ?side1 ?side2 A5.out).mono ?_); (case side1 => repeat (first | (with_reducible first | exact HI0.out | apply IsS62.alloc | apply IsS62.drewN | apply IsS62.drew | apply IsS62.set_1) | exact HI0.out)); (case side2 => repeat (first | (with_reducible first | exact HB.out | apply below_alloc | apply pw_below_drewN | apply below_drew1 | refine below_set ?_ (IsS62.ge HI0.out)) | exact HB.out)); rintro e w10 ⟨rfl, hi, hb, hk⟩; refine ⟨_, rfl, ?_⟩; have n0_ := Aside0.mk (KeepBut.trans (by repeat (first | (with_reducible first | exact HK.out | apply KeepBut.set_ | apply keep_drewN | apply keep_drew | apply keep_alloc) | exact HK.out)) hk (.inl rfl)); have n1_ := Aside0.mk (hb); have n2_ := Aside0.mk (hi); clear HK; clear HB; clear HI0; have HK := n0_; have HB := n1_; have HI0 := n2_; clear n0_ n1_ n2_; (try clear hb); (try clear hb2); (try clear hk); (try clear hi)))
          go_ret
          exact ⟨by first | rfl | (simp [errW_none, errW_some] <;> rfl) | (simp [*, errW_none, errW_some] <;> rfl), by repeat (first | (with_reducible first | exact HI0.out | apply IsS62.alloc | apply IsS62.drewN | apply IsS62.drew | apply IsS62.set_1) | exact HI0.out), by repeat (first | (with_reducible first | exact HB.out | apply below_alloc | apply pw_below_drewN | apply below_drew1 | refine below_set ?_ (IsS62.ge HI0.out)) | exact HB.out), by repeat (first | (with_reducible first | exact HK.out | apply KeepBut.set_ | apply keep_drewN | apply keep_drew | apply keep_alloc) | exact HK.out)⟩
        · rw [if_neg c8] at H
          exact absurd H (by simp)
      · rw [if_neg c7] at H
        exact absurd H (by simp)
    · rw [if_neg c6] at H
      have c6b0 : (t301 == 0) = false := beq_eq_false_iff_ne.mpr c6
      have c6b1 : (t301 != 0) = true := bne_iff_ne.mpr c6
      by_cases c11 : t301 = 1
      · rw [if_pos c11] at H
        have c11b0 : (t301 == 1) = true := beq_iff_eq.mpr c11
        have c11b1 : (t301 != 1) = false := bne_eq_false_iff_eq.mpr c11
        clear c11
        by_cases c12 : 0 ≤ t299
        · rw [if_pos c12] at H
          have c12b0 := eq_true c12
          have c12b1 : decide (0 ≤ t299) = true := decide_eq_true c12
          clear c12
          by_cases c13 : t299 ≤ (a1.size : Int)
          · rw [if_pos c13] at H
            have c13b0 := eq_true c13
            have c13b1 : decide (t299 ≤ (a1.size : Int)) = true := decide_eq_true c13
            clear c13
            obtain ⟨ji14, hji14⟩ : ∃ j_ : Int, (wrap64 (t299 + 1)) = j_ := ⟨_, rfl⟩
            replace H : (if 0 ≤ (ji14) then (if (ji14) ≤ (a1.size : Int) then (if (a1.extract 0 (t299 : Int).toNat).size + (a1.extract ((ji14) : Int).toNat a1.size).size ≤ 9223372036854775807 then (some ((a1.extract 0 (t299 : Int).toNat) ++ (a1.extract ((ji14) : Int).toNat a1.size), t302)) else (none)) else (none)) else (none)) = some (r1, r2) := by first | (rw [hji14] at H; exact H) | (simp only [hji14] at H ⊢; exact H)
            (try rw [hji14] at A4)
            (try rw [hji14] at A5)
            have hji14w : (IntKind.i64.wrap (t299 + 1)) = ji14 := (i64_w _).trans hji14
            by_cases c15 : 0 ≤ (ji14)
            · rw [if_pos c15] at H
              have c15b0 := eq_true c15
              have c15b1 : decide (0 ≤ (ji14)) = true := decide_eq_true c15
              clear c15
              by_cases c16 : (ji14) ≤ (a1.size : Int)
              · rw [if_pos c16] at H
                have c16b0 := eq_true c16
                have c16b1 : decide ((ji14) ≤ (a1.size : Int)) = true := decide_eq_true c16
                clear c16
                by_cases c17 : (a1.extract 0 (t299 : Int).toNat).size + (a1.extract ((ji14) : Int).toNat a1.size).size ≤ 9223372036854775807
                · rw [if_pos c17] at H
                  have c17b0 := eq_true c17
                  have c17b1 : decide ((a1.extract 0 (t299 : Int).toNat).size + (a1.extract ((ji14) : Int).toNat a1.size).size ≤ 9223372036854775807) = true := decide_eq_true c17
                  try have c17b2 : (9223372036854775807 < (a1.extract 0 (t299 : Int).toNat).size + (a1.extract ((ji14) : Int).toNat a1.size).size) = False := eq_false (Nat.not_lt.2 c17)
                  (try (have c17n0 : (t299.toNat + (a1.size - ji14.toNat) ≤ 9223372036854775807) = True := eq_true (by have h_ := c17; (try have g0_ : t299 ≤ (a1.size : Int) := of_decide_eq_true (by first | (with_reducible assumption) | assumption)); (try have g1_ : 0 ≤ t299 := of_decide_eq_true (by first | (with_reducible assumption) | assumption)); (try have g2_ : ji14 ≤ (a1.size : Int) := of_decide_eq_true (by first | (with_reducible assumption) | assumption)); (try have g3_ : 0 ≤ ji14 := of_decide_eq_true (by first | (with_reducible assumption) | assumption)); simp only [ByteArray.size_append, ByteArray.size_extract] at h_; omega)))
                  (try (have c17n1 : (9223372036854775807 < t299.toNat + (a1.size - ji14.toNat)) = False := eq_false (by have h_ := c17; (try have g0_ : t299 ≤ (a1.size : Int) := of_decide_eq_true (by first | (with_reducible assumption) | assumption)); (try have g1_ : 0 ≤ t299 := of_decide_eq_true (by first | (with_reducible assumption) | assumption)); (try have g2_ : ji14 ≤ (a1.size : Int) := of_decide_eq_true (by first | (with_reducible assumption) | assumption)); (try have g3_ : 0 ≤ ji14 := of_decide_eq_true (by first | (with_reducible assumption) | assumption)); simp only [ByteArray.size_append, ByteArray.size_extract] at h_; omega)))
                  simp only [Option.some.injEq, Prod.mk.injEq] at H
                  obtain ⟨rfl, rfl⟩ := H
                  go_enter Tryd.func13, Tryd.ntmps13
                  try go_wp2_with (first | ((with_reducible refine gate_callee (f := 25) rfl ?_); refine goesL_ (some 12) rfl rfl Tryd.func25 (by kernel_rfl) rfl #[.pointer (some ⟨g, 0, none⟩), .int .i64 (a1.size : Int)] rfl (by (try simp only [List.map_toArray, List.map_cons, List.map_nil]); first | done | rfl | (simp only [List.length_drop, List.length_take]; rfl)) ?_; (with_reducible refine (paygen_Deck_Next.calls k g s0_0 s0_1 (a1.size : Int) t299 t300 w0 _ ?side1 ?side2 A4.out).mono ?_); (case side1 => repeat (first | (with_reducible first | exact HI0.out | apply IsS62.alloc | apply IsS62.drewN | apply IsS62.drew | apply IsS62.set_1) | exact HI0.out)); (case side2 => repeat (first | (with_reducible first | exact HB.out | apply below_alloc | apply pw_below_drewN | apply below_drew1 | refine below_set ?_ (IsS62.ge HI0.out)) | exact HB.out)); rintro e w18 ⟨rfl, hi, hb, hk⟩; refine ⟨_, rfl, ?_⟩; have n0_ := Aside0.mk (KeepBut.trans (by repeat (first | (with_reducible first | exact HK.out | apply KeepBut.set_ | apply keep_drewN | apply keep_drew | apply keep_alloc) | exact HK.out)) hk (.inl rfl)); have n1_ := Aside0.mk (hb); have n2_ := Aside0.mk (hi); clear HK; clear HB; clear HI0; have HK := n0_; have HB := n1_; have HI0 := n2_; clear n0_ n1_ n2_; (try clear hb); (try clear hb2); (try clear hk); (try clear hi)) | ((with_reducible refine gate_callee (f := 25) rfl ?_); refine goesL_ (some 14) rfl rfl Tryd.func25 (by kernel_rfl) rfl #[.pointer (some ⟨g, 0, none⟩), .int .i64 5] rfl (by (try simp only [List.map_toArray, List.map_cons, List.map_nil]); first | done | rfl | (simp only [List.length_drop, List.length_take]; rfl)) ?_; (with_reducible refine (paygen_Deck_Next.calls k g s0_0 t300 5 t301 t302 w0 _ ?side1 ?side2 A5.out).mono ?_); (case side1 => repeat (first | (with_reducible first | exact HI0.out | apply IsS62.alloc | apply IsS62.drewN | apply IsS62.drew | apply IsS62.set_1) | exact HI0.out)); (case side2 => repeat (first | (with_reducible first | exact HB.out | apply below_alloc | apply pw_below_drewN | apply below_drew1 | refine below_set ?_ (IsS62.ge HI0.out)) | exact HB.out)); rintro e w19 ⟨rfl, hi, hb, hk⟩; refine ⟨_, rfl, ?_⟩; have n0_ := Aside0.mk (KeepBut.trans (by repeat (first | (with_reducible first | exact HK.out | apply KeepBut.set_ | apply keep_drewN | apply keep_drew | apply keep_alloc) | exact HK.out)) hk (.inl rfl)); have n1_ := Aside0.mk (hb); have n2_ := Aside0.mk (hi); clear HK; clear HB; clear HI0; have HK := n0_; have HB := n1_; have HI0 := n2_; clear n0_ n1_ n2_; (try clear hb); (try clear hb2); (try clear hk); (try clear hi)))
                  have n0_ := Aside0.mk (IsS62.drew HI0.out)
                  have n1_ := Aside0.mk (keep_drew HK.out)
                  have n2_ := Aside0.mk (below_drew1 HB.out)
                  clear HI0
                  clear HK
                  clear HB
                  have HI0 := n0_
                  have HK := n1_
                  have HB := n2_
                  clear n0_ n1_ n2_
                  refine start_ (n := 9) (S := fun w' => True) (ds := []) #[false, false, false, false, false, false, false, false, false] (by kernel_rfl) rfl rfl trivial (fun hHeld => ?_); refine with_tabW paygen_Deck_Damage.tab8 paygen_Deck_Damage.bits8 (fun HT_ HW_ => ?_)
                  generalize w19.drew = w20 at HI0 HK HB hHeld ⊢
                  refine pure_ (i := 0) (N := some 22) (v := ?_) (a' := ?_) #[true, false, false, false, false, false, false, false, false] rfl rfl (any_of HT_.out (by kernel_rfl)) (fun _ _ _ h => h) (Or.inl ⟨by rfl, ?_⟩) ?_ ?_
                  rotate_left
                  · intro w'
                    go_simp
                    with_reducible rfl
                  rotate_left
                  · simp only [Act.put, List.setIfInBounds_toArray, List.set_cons_zero, List.set_cons_succ, i64_w, i32_w]
                    rfl
                  refine pure_ (i := 1) (N := some 23) (v := ?_) (a' := ?_) #[true, true, false, false, false, false, false, false, false] rfl rfl (any_of HT_.out (by kernel_rfl)) (fun _ _ _ h => h) (Or.inl ⟨by rfl, ?_⟩) ?_ ?_
                  rotate_left
                  · intro w'
                    go_simp
                    with_reducible rfl
                  rotate_left
                  · simp only [Act.put, List.setIfInBounds_toArray, List.set_cons_zero, List.set_cons_succ, i64_w, i32_w]
                    rfl
                  refine pure_ (i := 2) (N := some 24) (v := ?_) (a' := ?_) #[true, true, true, false, false, false, false, false, false] rfl rfl (any_of HT_.out (by kernel_rfl)) (fun _ _ _ h => h) (Or.inl ⟨by rfl, ?_⟩) ?_ ?_
                  rotate_left
                  · intro w'
                    go_simp
                    with_reducible rfl
                  rotate_left
                  · simp only [Act.put, List.setIfInBounds_toArray, List.set_cons_zero, List.set_cons_succ, i64_w, i32_w]
                    rfl
                  refine pure_ (i := 3) (N := some 25) (v := ?_) (a' := ?_) #[true, true, true, true, false, false, false, false, false] rfl rfl (any_of HT_.out (by kernel_rfl)) (fun _ _ _ h => h) (Or.inl ⟨by rfl, ?_⟩) ?_ ?_
                  rotate_left
                  · intro w'
                    go_simp
                    with_reducible rfl
                  rotate_left
                  · simp only [Act.put, List.setIfInBounds_toArray, List.set_cons_zero, List.set_cons_succ, i64_w, i32_w]
                    rfl
                  refine pure_ (i := 4) (N := some 26) (v := ?_) (a' := ?_) #[true, true, true, true, true, false, false, false, false] rfl rfl (any_of HT_.out (by kernel_rfl)) (fun _ _ _ h => h) (Or.inl ⟨by rfl, ?_⟩) ?_ ?_
                  rotate_left
                  · intro w'
                    go_simp
                    with_reducible rfl
                  rotate_left
                  · simp only [Act.put, List.setIfInBounds_toArray, List.set_cons_zero, List.set_cons_succ, i64_w, i32_w]
                    rfl
                  refine pure_ (i := 5) (N := some 27) (v := ?_) (a' := ?_) #[true, true, true, true, true, true, false, false, false] rfl rfl (any_of HT_.out (by kernel_rfl)) (fun _ _ _ h => h) (Or.inl ⟨by rfl, ?_⟩) ?_ ?_
                  rotate_left
                  · intro w'
                    go_simp
                    with_reducible rfl
                  rotate_left
                  · simp only [Act.put, List.setIfInBounds_toArray, List.set_cons_zero, List.set_cons_succ, i64_w, i32_w]
                    rfl
                  refine pure_ (i := 6) (N := some 28) (v := ?_) (a' := ?_) #[true, true, true, true, true, true, true, false, false] rfl rfl (any_of HT_.out (by kernel_rfl)) (fun _ _ _ h => h) (Or.inl ⟨by rfl, ?_⟩) ?_ ?_
                  rotate_left
                  · intro w'
                    go_simp
                    with_reducible rfl
                  rotate_left
                  · simp only [Act.put, List.setIfInBounds_toArray, List.set_cons_zero, List.set_cons_succ, i64_w, i32_w]
                    rfl
                  refine pure_ (i := 7) (N := some 29) (v := ?_) (a' := ?_) #[true, true, true, true, true, true, true, true, false] rfl rfl (any_of HT_.out (by kernel_rfl)) (fun _ _ _ h => h) (Or.inl ⟨by rfl, ?_⟩) ?_ ?_
                  rotate_left
                  · intro w'
                    go_simp
                    with_reducible rfl
                  rotate_left
                  · simp only [Act.put, List.setIfInBounds_toArray, List.set_cons_zero, List.set_cons_succ, i64_w, i32_w]
                    rfl
                  refine pure_ (i := 8) (N := some 4) (v := ?_) (a' := ?_) #[true, true, true, true, true, true, true, true, true] rfl rfl (any_of HT_.out (by kernel_rfl)) (fun _ _ _ h => h) (Or.inl ⟨by rfl, ?_⟩) ?_ ?_
                  rotate_left
                  · intro w'
                    go_simp
                    with_reducible rfl
                  rotate_left
                  · simp only [Act.put, List.setIfInBounds_toArray, List.set_cons_zero, List.set_cons_succ, i64_w, i32_w]
                    rfl
                  refine done_ (done_of HT_.out (by kernel_rfl)) ?_
                  try go_wp2
                  go_ret
                  exact ⟨by first | rfl | (simp [errW_none, errW_some] <;> rfl) | (simp only [← hji14]; first | rfl | (simp [errW_none, errW_some] <;> rfl)) | (simp [*, errW_none, errW_some] <;> rfl), by repeat (first | (with_reducible first | exact HI0.out | apply IsS62.alloc | apply IsS62.drewN | apply IsS62.drew | apply IsS62.set_1) | exact HI0.out), by repeat (first | (with_reducible first | exact HB.out | apply below_alloc | apply pw_below_drewN | apply below_drew1 | refine below_set ?_ (IsS62.ge HI0.out)) | exact HB.out), by repeat (first | (with_reducible first | exact HK.out | apply KeepBut.set_ | apply keep_drewN | apply keep_drew | apply keep_alloc) | exact HK.out)⟩
                · rw [if_neg c17] at H
                  exact absurd H (by simp)
              · rw [if_neg c16] at H
                exact absurd H (by simp)
            · rw [if_neg c15] at H
              exact absurd H (by simp)
          · rw [if_neg c13] at H
            exact absurd H (by simp)
        · rw [if_neg c12] at H
          exact absurd H (by simp)
      · rw [if_neg c11] at H
        have c11b0 : (t301 == 1) = false := beq_eq_false_iff_ne.mpr c11
        have c11b1 : (t301 != 1) = true := bne_iff_ne.mpr c11
        by_cases c21 : t301 = 2
        · rw [if_pos c21] at H
          have c21b0 : (t301 == 2) = true := beq_iff_eq.mpr c21
          have c21b1 : (t301 != 2) = false := bne_eq_false_iff_eq.mpr c21
          clear c21
          by_cases c22 : 0 ≤ t299
          · rw [if_pos c22] at H
            have c22b0 := eq_true c22
            have c22b1 : decide (0 ≤ t299) = true := decide_eq_true c22
            clear c22
            by_cases c23 : t299 ≤ (a1.size : Int)
            · rw [if_pos c23] at H
              have c23b0 := eq_true c23
              have c23b1 : decide (t299 ≤ (a1.size : Int)) = true := decide_eq_true c23
              clear c23
              obtain ⟨y303, hy303⟩ : ∃ y_ : List ByteArray, y_ = (([(⟨#[32]⟩ : ByteArray), (⟨#[10]⟩ : ByteArray), (⟨#[48]⟩ : ByteArray), (⟨#[49]⟩ : ByteArray), (⟨#[45]⟩ : ByteArray), (⟨#[101, 110, 100, 10]⟩ : ByteArray)] : List ByteArray)) := ⟨_, rfl⟩
              replace H : ((paygen_Deck_Next.f k s0_0 t302 6).bind fun bt306 => (if 0 ≤ bt306.1 then (if bt306.1 < (y303.length : Int) then (if (a1.extract 0 (t299 : Int).toNat).size + (rdOf ByteArray.empty y303 bt306.1).size ≤ 9223372036854775807 then (if ((a1.extract 0 (t299 : Int).toNat) ++ (rdOf ByteArray.empty y303 bt306.1)).size + (a1.extract (t299 : Int).toNat a1.size).size ≤ 9223372036854775807 then (some (((a1.extract 0 (t299 : Int).toNat) ++ (rdOf ByteArray.empty y303 bt306.1)) ++ (a1.extract (t299 : Int).toNat a1.size), bt306.2)) else (none)) else (none)) else (none)) else (none))) = some (r1, r2) := by first | (rw [hy303]; with_reducible exact H) | (have H2_ := (Option.bind_some _ _).symm.trans H; rw [hy303]; with_reducible exact H2_) | (have H2_ := (Option.bind_some _ _).symm.trans H; with_reducible exact H2_) | with_reducible exact H | (rw [hy303]; exact H) | exact H
              have Ny303 := Aside0.mk hy303
              clear hy303
              replace H := Option.bind_eq_some_iff.mp H
              obtain ⟨⟨t306, t307⟩, A240, H⟩ := H
              replace H : (if 0 ≤ t306 then (if t306 < (y303.length : Int) then (if (a1.extract 0 (t299 : Int).toNat).size + (rdOf ByteArray.empty y303 t306).size ≤ 9223372036854775807 then (if ((a1.extract 0 (t299 : Int).toNat) ++ (rdOf ByteArray.empty y303 t306)).size + (a1.extract (t299 : Int).toNat a1.size).size ≤ 9223372036854775807 then (some (((a1.extract 0 (t299 : Int).toNat) ++ (rdOf ByteArray.empty y303 t306)) ++ (a1.extract (t299 : Int).toNat a1.size), t307)) else (none)) else (none)) else (none)) else (none)) = some (r1, r2) := H
              have A24 := Aside0.mk A240
              clear A240
              by_cases c25 : 0 ≤ t306
              · rw [if_pos c25] at H
                have c25b0 : decide (0 ≤ t306) = true := decide_eq_true c25
                clear c25
                by_cases c26 : t306 < (y303.length : Int)
                · rw [if_pos c26] at H
                  have c26b0 : decide (t306 < (y303.length : Int)) = true := decide_eq_true c26
                  clear c26
                  by_cases c27 : (a1.extract 0 (t299 : Int).toNat).size + (rdOf ByteArray.empty y303 t306).size ≤ 9223372036854775807
                  · rw [if_pos c27] at H
                    have c27b0 := eq_true c27
                    have c27b1 : decide ((a1.extract 0 (t299 : Int).toNat).size + (rdOf ByteArray.empty y303 t306).size ≤ 9223372036854775807) = true := decide_eq_true c27
                    try have c27b2 : (9223372036854775807 < (a1.extract 0 (t299 : Int).toNat).size + (rdOf ByteArray.empty y303 t306).size) = False := eq_false (Nat.not_lt.2 c27)
                    (try (have c27n0 : (t299.toNat + (rdOf ByteArray.empty y303 t306).size ≤ 9223372036854775807) = True := eq_true (by have h_ := c27; (try have g0_ : t299 ≤ (a1.size : Int) := of_decide_eq_true (by first | (with_reducible assumption) | assumption)); (try have g1_ : 0 ≤ t299 := of_decide_eq_true (by first | (with_reducible assumption) | assumption)); simp only [ByteArray.size_append, ByteArray.size_extract] at h_; omega)))
                    (try (have c27n1 : (9223372036854775807 < t299.toNat + (rdOf ByteArray.empty y303 t306).size) = False := eq_false (by have h_ := c27; (try have g0_ : t299 ≤ (a1.size : Int) := of_decide_eq_true (by first | (with_reducible assumption) | assumption)); (try have g1_ : 0 ≤ t299 := of_decide_eq_true (by first | (with_reducible assumption) | assumption)); simp only [ByteArray.size_append, ByteArray.size_extract] at h_; omega)))
                    have c28b0 := eq_true (of_decide_eq_true (by first | (with_reducible assumption) | assumption) : 0 ≤ t299)
                    have c29b0 := eq_true (of_decide_eq_true (by first | (with_reducible assumption) | assumption) : t299 ≤ (a1.size : Int))
                    by_cases c30 : ((a1.extract 0 (t299 : Int).toNat) ++ (rdOf ByteArray.empty y303 t306)).size + (a1.extract (t299 : Int).toNat a1.size).size ≤ 9223372036854775807
                    · rw [if_pos c30] at H
                      have c30b0 := eq_true c30
                      have c30b1 : decide (((a1.extract 0 (t299 : Int).toNat) ++ (rdOf ByteArray.empty y303 t306)).size + (a1.extract (t299 : Int).toNat a1.size).size ≤ 9223372036854775807) = true := decide_eq_true c30
                      try have c30b2 : (9223372036854775807 < ((a1.extract 0 (t299 : Int).toNat) ++ (rdOf ByteArray.empty y303 t306)).size + (a1.extract (t299 : Int).toNat a1.size).size) = False := eq_false (Nat.not_lt.2 c30)
                      (try (have c30n0 : (t299.toNat + (rdOf ByteArray.empty y303 t306).size + (a1.size - t299.toNat) ≤ 9223372036854775807) = True := eq_true (by have h_ := c30; (try have g0_ : t299 ≤ (a1.size : Int) := of_decide_eq_true (by first | (with_reducible assumption) | assumption)); (try have g1_ : 0 ≤ t299 := of_decide_eq_true (by first | (with_reducible assumption) | assumption)); simp only [ByteArray.size_append, ByteArray.size_extract] at h_; omega)))
                      (try (have c30n1 : (9223372036854775807 < t299.toNat + (rdOf ByteArray.empty y303 t306).size + (a1.size - t299.toNat)) = False := eq_false (by have h_ := c30; (try have g0_ : t299 ≤ (a1.size : Int) := of_decide_eq_true (by first | (with_reducible assumption) | assumption)); (try have g1_ : 0 ≤ t299 := of_decide_eq_true (by first | (with_reducible assumption) | assumption)); simp only [ByteArray.size_append, ByteArray.size_extract] at h_; omega)))
                      simp only [Option.some.injEq, Prod.mk.injEq] at H
                      obtain ⟨rfl, rfl⟩ := H
                      go_enter Tryd.func13, Tryd.ntmps13
                      try go_wp2_with (first | ((with_reducible refine gate_callee (f := 25) rfl ?_); refine goesL_ (some 12) rfl rfl Tryd.func25 (by kernel_rfl) rfl #[.pointer (some ⟨g, 0, none⟩), .int .i64 (a1.size : Int)] rfl (by (try simp only [List.map_toArray, List.map_cons, List.map_nil]); first | done | rfl | (simp only [List.length_drop, List.length_take]; rfl)) ?_; (with_reducible refine (paygen_Deck_Next.calls k g s0_0 s0_1 (a1.size : Int) t299 t300 w0 _ ?side1 ?side2 A4.out).mono ?_); (case side1 => repeat (first | (with_reducible first | exact HI0.out | apply IsS62.alloc | apply IsS62.drewN | apply IsS62.drew | apply IsS62.set_1) | exact HI0.out)); (case side2 => repeat (first | (with_reducible first | exact HB.out | apply below_alloc | apply pw_below_drewN | apply below_drew1 | refine below_set ?_ (IsS62.ge HI0.out)) | exact HB.out)); rintro e w31 ⟨rfl, hi, hb, hk⟩; refine ⟨_, rfl, ?_⟩; have n0_ := Aside0.mk (KeepBut.trans (by repeat (first | (with_reducible first | exact HK.out | apply KeepBut.set_ | apply keep_drewN | apply keep_drew | apply keep_alloc) | exact HK.out)) hk (.inl rfl)); have n1_ := Aside0.mk (hb); have n2_ := Aside0.mk (hi); clear HK; clear HB; clear HI0; have HK := n0_; have HB := n1_; have HI0 := n2_; clear n0_ n1_ n2_; (try clear hb); (try clear hb2); (try clear hk); (try clear hi)) | ((with_reducible refine gate_callee (f := 25) rfl ?_); refine goesL_ (some 14) rfl rfl Tryd.func25 (by kernel_rfl) rfl #[.pointer (some ⟨g, 0, none⟩), .int .i64 5] rfl (by (try simp only [List.map_toArray, List.map_cons, List.map_nil]); first | done | rfl | (simp only [List.length_drop, List.length_take]; rfl)) ?_; (with_reducible refine (paygen_Deck_Next.calls k g s0_0 t300 5 t301 t302 w0 _ ?side1 ?side2 A5.out).mono ?_); (case side1 => repeat (first | (with_reducible first | exact HI0.out | apply IsS62.alloc | apply IsS62.drewN | apply IsS62.drew | apply IsS62.set_1) | exact HI0.out)); (case side2 => repeat (first | (with_reducible first | exact HB.out | apply below_alloc | apply pw_below_drewN | apply below_drew1 | refine below_set ?_ (IsS62.ge HI0.out)) | exact HB.out)); rintro e w32 ⟨rfl, hi, hb, hk⟩; refine ⟨_, rfl, ?_⟩; have n0_ := Aside0.mk (KeepBut.trans (by repeat (first | (with_reducible first | exact HK.out | apply KeepBut.set_ | apply keep_drewN | apply keep_drew | apply keep_alloc) | exact HK.out)) hk (.inl rfl)); have n1_ := Aside0.mk (hb); have n2_ := Aside0.mk (hi); clear HK; clear HB; clear HI0; have HK := n0_; have HB := n1_; have HI0 := n2_; clear n0_ n1_ n2_; (try clear hb); (try clear hb2); (try clear hk); (try clear hi)))
                      have pi308 : (0 ≤ (t306 : Int)) = True := eq_true (of_decide_eq_true (by first | (with_reducible assumption) | assumption))
                      have qi308 : (t306 < (y303.length : Int)) = True := eq_true (of_decide_eq_true (by first | (with_reducible assumption) | assumption))
                      have n0_ := Aside0.mk (IsS62.drew HI0.out)
                      have n1_ := Aside0.mk (keep_drew HK.out)
                      have n2_ := Aside0.mk (below_drew1 HB.out)
                      clear HI0
                      clear HK
                      clear HB
                      have HI0 := n0_
                      have HK := n1_
                      have HB := n2_
                      clear n0_ n1_ n2_
                      refine start_ (n := 14) (S := fun w' => True) (ds := []) #[false, false, false, false, false, false, false, false, false, false, false, false, false, false] (by kernel_rfl) rfl rfl trivial (fun hHeld => ?_); refine with_tabW paygen_Deck_Damage.tab10 paygen_Deck_Damage.bits10 (fun HT_ HW_ => ?_)
                      generalize w32.drew = w33 at HI0 HK HB hHeld ⊢
                      refine pure_ (i := 0) (N := some 32) (v := ?_) (a' := ?_) #[true, false, false, false, false, false, false, false, false, false, false, false, false, false] rfl rfl (any_of HT_.out (by kernel_rfl)) (fun _ _ _ h => h) (Or.inl ⟨by rfl, ?_⟩) ?_ ?_
                      rotate_left
                      · intro w'
                        go_simp
                        with_reducible rfl
                      rotate_left
                      · simp only [Act.put, List.setIfInBounds_toArray, List.set_cons_zero, List.set_cons_succ, i64_w, i32_w]
                        rfl
                      refine pure_ (i := 1) (N := some 33) (v := ?_) (a' := ?_) #[true, true, false, false, false, false, false, false, false, false, false, false, false, false] rfl rfl (any_of HT_.out (by kernel_rfl)) (fun _ _ _ h => h) (Or.inl ⟨by rfl, ?_⟩) ?_ ?_
                      rotate_left
                      · intro w'
                        go_simp
                        with_reducible rfl
                      rotate_left
                      · simp only [Act.put, List.setIfInBounds_toArray, List.set_cons_zero, List.set_cons_succ, i64_w, i32_w]
                        rfl
                      refine pure_ (i := 4) (N := some 36) (v := ?_) (a' := ?_) #[true, true, false, false, true, false, false, false, false, false, false, false, false, false] rfl rfl (any_of HT_.out (by kernel_rfl)) (fun _ _ _ h => h) (Or.inl ⟨by rfl, ?_⟩) ?_ ?_
                      rotate_left
                      · intro w'
                        go_simp
                        with_reducible rfl
                      rotate_left
                      · simp only [Act.put, List.setIfInBounds_toArray, List.set_cons_zero, List.set_cons_succ, i64_w, i32_w]
                        rfl
                      refine pure_ (i := 9) (N := some 41) (v := ?_) (a' := ?_) #[true, true, false, false, true, false, false, false, false, true, false, false, false, false] rfl rfl (any_of HT_.out (by kernel_rfl)) (fun _ _ _ h => h) (Or.inl ⟨by rfl, ?_⟩) ?_ ?_
                      rotate_left
                      · intro w'
                        go_simp
                        with_reducible rfl
                      rotate_left
                      · simp only [Act.put, List.setIfInBounds_toArray, List.set_cons_zero, List.set_cons_succ, i64_w, i32_w]
                        rfl
                      refine pure_ (i := 10) (N := some 42) (v := ?_) (a' := ?_) #[true, true, false, false, true, false, false, false, false, true, true, false, false, false] rfl rfl (any_of HT_.out (by kernel_rfl)) (fun _ _ _ h => h) (Or.inl ⟨by rfl, ?_⟩) ?_ ?_
                      rotate_left
                      · intro w'
                        go_simp
                        with_reducible rfl
                      rotate_left
                      · simp only [Act.put, List.setIfInBounds_toArray, List.set_cons_zero, List.set_cons_succ, i64_w, i32_w]
                        rfl
                      refine inv_at [2, 3, 5, 6, 7, 8, 11, 12, 13] (fun a0_ b a w' => ∃ (v304 : Value) (adz_v304 : Addr) (m6_ : Value), a = putSel a0_ b [(2, 34, .string (a1.extract 0 (t299 : Int).toNat)), (3, 35, v304), (5, 37, .int .i64 t306), (6, 38, m6_), (7, 39, .string (rdOf ByteArray.empty y303 t306)), (8, 40, .string ((a1.extract 0 (t299 : Int).toNat) ++ (rdOf ByteArray.empty y303 t306))), (11, 43, .string (a1.extract (t299 : Int).toNat a1.size)), (12, 44, .string (((a1.extract 0 (t299 : Int).toNat) ++ (rdOf ByteArray.empty y303 t306)) ++ (a1.extract (t299 : Int).toNat a1.size))), (13, 4, .string (((a1.extract 0 (t299 : Int).toNat) ++ (rdOf ByteArray.empty y303 t306)) ++ (a1.extract (t299 : Int).toNat a1.size)))] ∧ (b 5 = false → IsS62 w0 w' g s0_0 t302) ∧ (KeepBut w w' g none) ∧ (Below w0.heap.size w0 w') ∧ (b 3 = true → Kd.R Kd.string 9 w' w.heap.size (fun _ => True) v304 y303) ∧ (b 3 = true → ∃ c_, (v304 : Value) = .slice (some adz_v304) y303.length c_) ∧ (b 5 = true → IsS62 w0 w' g s0_0 t307) ∧ (b 6 = true → (m6_ : Value) = .pointer (some (adz_v304.add (t306).toNat)))) HT_.out HW_.out (by kernel_rfl) (by kernel_rfl) ?_ ?_ ?_
                      · exact ⟨.bool false, ⟨0, 0, none⟩, .bool false, by simp only [putSel, Bool.false_eq_true, if_false], fun _ => HI0.out, HK.out, HB.out, fun h_ => absurd h_ (by decide), fun h_ => absurd h_ (by decide), fun h_ => absurd h_ (by decide), fun h_ => absurd h_ (by decide)⟩
                      · skip
                        clear HB HI0 HK
                        refine steps_cons ?_ ?_
                        · rintro b a w' ⟨v304, adz_v304, m6_, ha, Q_HI0, Q_HK, Q_HB, Q_HO305, Q_HA_HO305, Q_HI0_e5, Q_X6_⟩ hb_ hon hoff
                          refine ⟨_, rfl, fun K hK => ?_⟩
                          have e32 : a.tmps[32]? = some (.string a1) := by rw [ha]; exact (putSel_off rfl).trans rfl
                          have e33 : a.tmps[33]? = some (.int .i64 t299) := by rw [ha]; exact (putSel_off rfl).trans rfl
                          replace ha := Aside0.mk ha
                          have HK := Aside0.mk Q_HK
                          have HB := Aside0.mk Q_HB
                          refine value_ (w1 := w') (v := .string (a1.extract 0 (t299 : Int).toNat)) (by rfl) rfl ?_ ?_
                          · go_simp
                            (try simp only [i64_w])
                            try rfl
                          refine hK.out _ _ ⟨v304, adz_v304, m6_, (by rw [ha.out]; exact putSel_upk 0 hb_ rfl rfl rfl), Q_HI0, Q_HK, Q_HB, Q_HO305, Q_HA_HO305, Q_HI0_e5, Q_X6_⟩
                        refine steps_cons ?_ ?_
                        · rintro b a w' ⟨v304, adz_v304, m6_, ha, Q_HI0, Q_HK, Q_HB, Q_HO305, Q_HA_HO305, Q_HI0_e5, Q_X6_⟩ hb_ hon hoff
                          refine ⟨_, rfl, fun K hK => ?_⟩
                          replace ha := Aside0.mk ha
                          have HK := Aside0.mk Q_HK
                          have HB := Aside0.mk Q_HB
                          refine Kd.R_lit_step Kd.string _ 9 ?hg (N := 35) ?hd (xs := ([(⟨#[32]⟩ : ByteArray), (⟨#[10]⟩ : ByteArray), (⟨#[48]⟩ : ByteArray), (⟨#[49]⟩ : ByteArray), (⟨#[45]⟩ : ByteArray), (⟨#[101, 110, 100, 10]⟩ : ByteArray)] : List ByteArray)) (inner := [.string (⟨#[32]⟩ : ByteArray), .string (⟨#[10]⟩ : ByteArray), .string (⟨#[48]⟩ : ByteArray), .string (⟨#[49]⟩ : ByteArray), .string (⟨#[45]⟩ : ByteArray), .string (⟨#[101, 110, 100, 10]⟩ : ByteArray)]) (ok := fun _ => True) (okp := fun _ => True) ?hr ?hp (fun _ hk => hk) trivial (Below.refl _ _) (Nat.le_refl _) (by simp) ?_; (case hd => rfl); (case hg => rfl); (case hr => first | (go_simp; done) | (go_simp; rfl)); (case hp => exact (Reps.one (show Kd.M Kd.string _ _ _ (⟨#[32]⟩ : ByteArray) [.string (⟨#[32]⟩ : ByteArray)] from rfl) (Reps.one (show Kd.M Kd.string _ _ _ (⟨#[10]⟩ : ByteArray) [.string (⟨#[10]⟩ : ByteArray)] from rfl) (Reps.one (show Kd.M Kd.string _ _ _ (⟨#[48]⟩ : ByteArray) [.string (⟨#[48]⟩ : ByteArray)] from rfl) (Reps.one (show Kd.M Kd.string _ _ _ (⟨#[49]⟩ : ByteArray) [.string (⟨#[49]⟩ : ByteArray)] from rfl) (Reps.one (show Kd.M Kd.string _ _ _ (⟨#[45]⟩ : ByteArray) [.string (⟨#[45]⟩ : ByteArray)] from rfl) (Reps.one (show Kd.M Kd.string _ _ _ (⟨#[101, 110, 100, 10]⟩ : ByteArray) [.string (⟨#[101, 110, 100, 10]⟩ : ByteArray)] from rfl) (Reps.none _ _))))))))
                          intro v304 w34 ho35 hb hg_ hnew_
                          clear hg_ hnew_
                          (first | rw [← Ny303.out] at ho35 | (simp only [Int.reduceToNat] at ho35; rw [← Ny303.out] at ho35))
                          have n0_ := Aside0.mk (Kd.R_lower ho35 (keep_size (w := w) (g := g) (row := none) (by repeat (first | (with_reducible first | exact HK.out | apply KeepBut.set_ | apply keep_drewN | apply keep_drew | apply keep_alloc) | exact HK.out))))
                          have n2_ := Aside0.mk (KeepBut.trans (by repeat (first | (with_reducible first | exact HK.out | apply KeepBut.set_ | apply keep_drewN | apply keep_drew | apply keep_alloc) | exact HK.out)) (KeepBut.of_below hb g none) (.inl rfl))
                          have n3_ := Aside0.mk (below_step (by repeat (first | (with_reducible first | exact HB.out | apply below_alloc | apply pw_below_drewN | apply below_drew1) | exact HB.out)) hb)
                          have z_HI0 := fun (h0_ : b 5 = false) => (show IsS62 w0 w34 g s0_0 t302 from by first | exact (IsS62.below (by repeat (first | (with_reducible first | exact (Q_HI0 h0_) | apply IsS62.alloc | apply IsS62.drewN | apply IsS62.drew | apply IsS62.set_1) | exact (Q_HI0 h0_))) hb))
                          have z_HI0_e5 := fun (h0_ : b 5 = true) => (show IsS62 w0 w34 g s0_0 t307 from by first | exact (IsS62.below (by repeat (first | (with_reducible first | exact (Q_HI0_e5 h0_) | apply IsS62.alloc | apply IsS62.drewN | apply IsS62.drew | apply IsS62.set_1) | exact (Q_HI0_e5 h0_))) hb))
                          clear HK
                          clear HB
                          have HO305 := n0_
                          have HK := n2_
                          have HB := n3_
                          clear n0_ n2_ n3_
                          clear hb ho35
                          obtain ⟨Ao36, co36, eo36⟩ := Kd.R_slice HO305.out
                          subst eo36
                          obtain ⟨ado36, fo36, _⟩ := Kd.at_string (Kd.R_reads' HO305.out).2.2 0 (by decide) (by rw [Ny303.out]; simp)
                          cases fo36
                          refine hK.out _ _ ⟨.slice (some ado36) y303.length co36, ado36, m6_, (by rw [ha.out]; exact putSel_upk 1 hb_ rfl rfl rfl), z_HI0, (by repeat (first | (with_reducible first | exact HK.out | apply KeepBut.set_ | apply keep_drewN | apply keep_drew | apply keep_alloc) | exact HK.out)), (by repeat (first | (with_reducible first | exact HB.out | apply below_alloc | apply pw_below_drewN | apply below_drew1) | exact HB.out)), fun _ => (by (with_reducible repeat (first | apply Kd.R_alloc | apply Kd.R_drewN | apply Kd.R_drew)); exact HO305.out), fun _ => ⟨_, rfl⟩, z_HI0_e5, fun h0_ => absurd ((hoff 6 (by kernel_rfl)).symm.trans h0_) (by decide)⟩
                        refine steps_cons ?_ ?_
                        · rintro b a w' ⟨v304, adz_v304, m6_, ha, Q_HI0, Q_HK, Q_HB, Q_HO305, Q_HA_HO305, Q_HI0_e5, Q_X6_⟩ hb_ hon hoff
                          refine ⟨_, rfl, fun K hK => ?_⟩
                          have e36 : a.tmps[36]? = some (.pointer (some ⟨g, 0, none⟩)) := by rw [ha]; exact (putSel_off rfl).trans rfl
                          replace ha := Aside0.mk ha
                          have HI0 := Aside0.mk (Q_HI0 hb_)
                          have HK := Aside0.mk Q_HK
                          have HB := Aside0.mk Q_HB
                          refine goes_ Tryd.func25 (by kernel_rfl) rfl #[.pointer (some ⟨g, 0, none⟩), .int .i64 6] (by rfl) rfl rfl (by first | (simp only [List.map_toArray, List.map_cons, List.map_nil, Act.eval, Array.getD_eq_getD_getElem?, Option.getD_some, e36]; done) | (simp only [List.map_toArray, List.map_cons, List.map_nil, Act.eval, Array.getD_eq_getD_getElem?, Option.getD_some, e36]; rfl)) ?_
                          with_reducible refine (paygen_Deck_Next.calls k g s0_0 t302 6 t306 t307 w0 _ ?side1 ?side2 A24.out).mono ?_
                          (case side1 => repeat (first | (with_reducible first | exact HI0.out | apply IsS62.alloc | apply IsS62.drewN | apply IsS62.drew | apply IsS62.set_1) | exact HI0.out))
                          (case side2 => repeat (first | (with_reducible first | exact HB.out | apply below_alloc | apply pw_below_drewN | apply below_drew1 | refine below_set ?_ (IsS62.ge HI0.out)) | exact HB.out))
                          rintro e w34 ⟨rfl, hi, hb, hk⟩
                          refine ⟨_, rfl, ?_⟩
                          have n0_ := Aside0.mk (KeepBut.trans (by repeat (first | (with_reducible first | exact HK.out | apply KeepBut.set_ | apply keep_drewN | apply keep_drew | apply keep_alloc) | exact HK.out)) hk (.inl rfl))
                          have n1_ := Aside0.mk (hb)
                          have n2_ := Aside0.mk (hi)
                          have z_HO305 := fun (h0_ : b 3 = true) => (show Kd.R Kd.string 9 w34 w.heap.size (fun _ => True) v304 y303 from by first | exact (Kd.R_mono (Kd.R_keep (IsS62.apart (show IsS62 w0 _ g s0_0 t302 from by repeat (first | (with_reducible first | exact HI0.out | apply IsS62.alloc | apply IsS62.drewN | apply IsS62.drew | apply IsS62.set_1) | exact HI0.out)) (by (with_reducible repeat (first | apply Kd.R_alloc | apply Kd.R_drewN | apply Kd.R_drew)); exact (Q_HO305 h0_)) (by decide)) hk (fun _ h => h.2)) (fun _ h => h.1)) | exact Kd.R_mono (Kd.R_mono (Kd.R_keep (IsS62.apart (show IsS62 w0 _ g s0_0 t302 from by repeat (first | (with_reducible first | exact HI0.out | apply IsS62.alloc | apply IsS62.drewN | apply IsS62.drew | apply IsS62.set_1) | exact HI0.out)) (by (with_reducible repeat (first | apply Kd.R_alloc | apply Kd.R_drewN | apply Kd.R_drew)); exact (Q_HO305 h0_)) (by decide)) hk (fun _ h => h.2)) (fun _ h => h.1)) (fun _ h_ => by first | trivial | exact h_ | exact h_.1))
                          clear HK
                          clear HB
                          clear HI0
                          have HK := n0_
                          have HB := n1_
                          have HI0 := n2_
                          clear n0_ n1_ n2_
                          (try clear hb)
                          (try clear hb2)
                          (try clear hk)
                          (try clear hi)
                          refine hK.out _ _ ⟨v304, adz_v304, m6_, (by rw [ha.out]; exact putSel_upk 2 hb_ rfl rfl rfl), fun h0_ => absurd ((up_self b 5).symm.trans h0_) (by decide), (by repeat (first | (with_reducible first | exact HK.out | apply KeepBut.set_ | apply keep_drewN | apply keep_drew | apply keep_alloc) | exact HK.out)), (by repeat (first | (with_reducible first | exact HB.out | apply below_alloc | apply pw_below_drewN | apply below_drew1 | refine below_set ?_ (IsS62.ge HI0.out)) | exact HB.out)), z_HO305, Q_HA_HO305, fun _ => (by repeat (first | (with_reducible first | exact HI0.out | apply IsS62.alloc | apply IsS62.drewN | apply IsS62.drew | apply IsS62.set_1) | exact HI0.out)), fun h0_ => absurd ((hoff 6 (by kernel_rfl)).symm.trans h0_) (by decide)⟩
                        refine steps_cons ?_ ?_
                        · rintro b a w' ⟨v304, adz_v304, m6_, ha, Q_HI0, Q_HK, Q_HB, Q_HO305, Q_HA_HO305, Q_HI0_e5, Q_X6_⟩ hb_ hon hoff
                          refine ⟨_, rfl, fun K hK => ?_⟩
                          have e35 : a.tmps[35]? = some (v304) := by rw [ha]; exact putSel_on (e := (3, 35, v304)) 1 rfl rfl (hon 3 (by kernel_rfl)) rfl
                          have e37 : a.tmps[37]? = some (.int .i64 t306) := by rw [ha]; exact putSel_on (e := (5, 37, .int .i64 t306)) 2 rfl rfl (hon 5 (by kernel_rfl)) rfl
                          replace ha := Aside0.mk ha
                          have HK := Aside0.mk Q_HK
                          have HB := Aside0.mk Q_HB
                          have HO305 := Aside0.mk (Q_HO305 (hon 3 (by kernel_rfl)))
                          have HA_HO305 := Aside0.mk (Q_HA_HO305 (hon 3 (by kernel_rfl)))
                          have HI0 := Aside0.mk (Q_HI0_e5 (hon 5 (by kernel_rfl)))
                          obtain ⟨c_, hv_⟩ := HA_HO305.out
                          rw [hv_] at e35
                          refine value_ (w1 := w') (v := .pointer (some (adz_v304.add (t306).toNat))) (by rfl) rfl ?_ ?_
                          · go_simp
                            (try simp only [i64_w])
                            try rfl
                          refine hK.out _ _ ⟨v304, adz_v304, (.pointer (some (adz_v304.add (t306).toNat))), (by rw [ha.out]; exact putSel_upk 3 hb_ rfl rfl rfl), fun h0_ => absurd ((hon 5 (by kernel_rfl)).symm.trans h0_) (by decide), Q_HK, Q_HB, Q_HO305, Q_HA_HO305, Q_HI0_e5, fun _ => rfl⟩
                        refine steps_cons ?_ ?_
                        · rintro b a w' ⟨v304, adz_v304, m6_, ha, Q_HI0, Q_HK, Q_HB, Q_HO305, Q_HA_HO305, Q_HI0_e5, Q_X6_⟩ hb_ hon hoff
                          refine ⟨_, rfl, fun K hK => ?_⟩
                          have e38 : a.tmps[38]? = some (m6_) := by rw [ha]; exact putSel_on (e := (6, 38, m6_)) 3 rfl rfl (hon 6 (by kernel_rfl)) rfl
                          rw [Q_X6_ (hon 6 (by kernel_rfl))] at e38
                          replace ha := Aside0.mk ha
                          have HK := Aside0.mk Q_HK
                          have HB := Aside0.mk Q_HB
                          have HO305 := Aside0.mk (Q_HO305 (hon 3 (by kernel_rfl)))
                          have HA_HO305 := Aside0.mk (Q_HA_HO305 (hon 3 (by kernel_rfl)))
                          have HI0 := Aside0.mk (Q_HI0_e5 (hon 5 (by kernel_rfl)))
                          obtain ⟨c_, hv_⟩ := HA_HO305.out
                          have hF_ := HO305.out
                          rw [hv_] at hF_
                          obtain ⟨ad_, ea_, hx_⟩ := Kd.at_string (Kd.R_reads' hF_).2.2 t306 (of_eq_true pi308) (of_eq_true qi308)
                          cases ea_
                          refine value_ (w1 := w') (v := .string (rdOf ByteArray.empty y303 t306)) (by rfl) rfl ?_ ?_
                          · go_simp
                            (try simp only [i64_w])
                            try rfl
                          refine hK.out _ _ ⟨v304, adz_v304, m6_, (by rw [ha.out]; exact putSel_upk 4 hb_ rfl rfl rfl), fun h0_ => absurd ((hon 5 (by kernel_rfl)).symm.trans h0_) (by decide), Q_HK, Q_HB, Q_HO305, Q_HA_HO305, Q_HI0_e5, Q_X6_⟩
                        refine steps_cons ?_ ?_
                        · rintro b a w' ⟨v304, adz_v304, m6_, ha, Q_HI0, Q_HK, Q_HB, Q_HO305, Q_HA_HO305, Q_HI0_e5, Q_X6_⟩ hb_ hon hoff
                          refine ⟨_, rfl, fun K hK => ?_⟩
                          have e34 : a.tmps[34]? = some (.string (a1.extract 0 (t299 : Int).toNat)) := by rw [ha]; exact putSel_on (e := (2, 34, .string (a1.extract 0 (t299 : Int).toNat))) 0 rfl rfl (hon 2 (by kernel_rfl)) rfl
                          have e39 : a.tmps[39]? = some (.string (rdOf ByteArray.empty y303 t306)) := by rw [ha]; exact putSel_on (e := (7, 39, .string (rdOf ByteArray.empty y303 t306))) 4 rfl rfl (hon 7 (by kernel_rfl)) rfl
                          replace ha := Aside0.mk ha
                          have HK := Aside0.mk Q_HK
                          have HB := Aside0.mk Q_HB
                          have HO305 := Aside0.mk (Q_HO305 (hon 3 (by kernel_rfl)))
                          have HA_HO305 := Aside0.mk (Q_HA_HO305 (hon 3 (by kernel_rfl)))
                          have HI0 := Aside0.mk (Q_HI0_e5 (hon 5 (by kernel_rfl)))
                          refine value_ (w1 := w') (v := .string ((a1.extract 0 (t299 : Int).toNat) ++ (rdOf ByteArray.empty y303 t306))) (by rfl) rfl ?_ ?_
                          · go_simp
                            (try simp only [i64_w])
                            try rfl
                          refine hK.out _ _ ⟨v304, adz_v304, m6_, (by rw [ha.out]; exact putSel_upk 5 hb_ rfl rfl rfl), fun h0_ => absurd ((hon 5 (by kernel_rfl)).symm.trans h0_) (by decide), Q_HK, Q_HB, Q_HO305, Q_HA_HO305, Q_HI0_e5, Q_X6_⟩
                        refine steps_cons ?_ ?_
                        · rintro b a w' ⟨v304, adz_v304, m6_, ha, Q_HI0, Q_HK, Q_HB, Q_HO305, Q_HA_HO305, Q_HI0_e5, Q_X6_⟩ hb_ hon hoff
                          refine ⟨_, rfl, fun K hK => ?_⟩
                          have e41 : a.tmps[41]? = some (.string a1) := by rw [ha]; exact (putSel_off rfl).trans rfl
                          have e42 : a.tmps[42]? = some (.int .i64 t299) := by rw [ha]; exact (putSel_off rfl).trans rfl
                          replace ha := Aside0.mk ha
                          have HK := Aside0.mk Q_HK
                          have HB := Aside0.mk Q_HB
                          refine value_ (w1 := w') (v := .string (a1.extract (t299 : Int).toNat a1.size)) (by rfl) rfl ?_ ?_
                          · go_simp
                            (try simp only [i64_w])
                            try rfl
                          refine hK.out _ _ ⟨v304, adz_v304, m6_, (by rw [ha.out]; exact putSel_upk 6 hb_ rfl rfl rfl), Q_HI0, Q_HK, Q_HB, Q_HO305, Q_HA_HO305, Q_HI0_e5, Q_X6_⟩
                        refine steps_cons ?_ ?_
                        · rintro b a w' ⟨v304, adz_v304, m6_, ha, Q_HI0, Q_HK, Q_HB, Q_HO305, Q_HA_HO305, Q_HI0_e5, Q_X6_⟩ hb_ hon hoff
                          refine ⟨_, rfl, fun K hK => ?_⟩
                          have e40 : a.tmps[40]? = some (.string ((a1.extract 0 (t299 : Int).toNat) ++ (rdOf ByteArray.empty y303 t306))) := by rw [ha]; exact putSel_on (e := (8, 40, .string ((a1.extract 0 (t299 : Int).toNat) ++ (rdOf ByteArray.empty y303 t306)))) 5 rfl rfl (hon 8 (by kernel_rfl)) rfl
                          have e43 : a.tmps[43]? = some (.string (a1.extract (t299 : Int).toNat a1.size)) := by rw [ha]; exact putSel_on (e := (11, 43, .string (a1.extract (t299 : Int).toNat a1.size))) 6 rfl rfl (hon 11 (by kernel_rfl)) rfl
                          replace ha := Aside0.mk ha
                          have HK := Aside0.mk Q_HK
                          have HB := Aside0.mk Q_HB
                          have HO305 := Aside0.mk (Q_HO305 (hon 3 (by kernel_rfl)))
                          have HA_HO305 := Aside0.mk (Q_HA_HO305 (hon 3 (by kernel_rfl)))
                          have HI0 := Aside0.mk (Q_HI0_e5 (hon 5 (by kernel_rfl)))
                          refine value_ (w1 := w') (v := .string (((a1.extract 0 (t299 : Int).toNat) ++ (rdOf ByteArray.empty y303 t306)) ++ (a1.extract (t299 : Int).toNat a1.size))) (by rfl) rfl ?_ ?_
                          · go_simp
                            (try simp only [i64_w])
                            try rfl
                          refine hK.out _ _ ⟨v304, adz_v304, m6_, (by rw [ha.out]; exact putSel_upk 7 hb_ rfl rfl rfl), fun h0_ => absurd ((hon 5 (by kernel_rfl)).symm.trans h0_) (by decide), Q_HK, Q_HB, Q_HO305, Q_HA_HO305, Q_HI0_e5, Q_X6_⟩
                        refine steps_cons ?_ ?_
                        · rintro b a w' ⟨v304, adz_v304, m6_, ha, Q_HI0, Q_HK, Q_HB, Q_HO305, Q_HA_HO305, Q_HI0_e5, Q_X6_⟩ hb_ hon hoff
                          refine ⟨_, rfl, fun K hK => ?_⟩
                          have e44 : a.tmps[44]? = some (.string (((a1.extract 0 (t299 : Int).toNat) ++ (rdOf ByteArray.empty y303 t306)) ++ (a1.extract (t299 : Int).toNat a1.size))) := by rw [ha]; exact putSel_on (e := (12, 44, .string (((a1.extract 0 (t299 : Int).toNat) ++ (rdOf ByteArray.empty y303 t306)) ++ (a1.extract (t299 : Int).toNat a1.size)))) 7 rfl rfl (hon 12 (by kernel_rfl)) rfl
                          replace ha := Aside0.mk ha
                          have HK := Aside0.mk Q_HK
                          have HB := Aside0.mk Q_HB
                          have HO305 := Aside0.mk (Q_HO305 (hon 3 (by kernel_rfl)))
                          have HA_HO305 := Aside0.mk (Q_HA_HO305 (hon 3 (by kernel_rfl)))
                          have HI0 := Aside0.mk (Q_HI0_e5 (hon 5 (by kernel_rfl)))
                          refine value_ (w1 := w') (v := .string (((a1.extract 0 (t299 : Int).toNat) ++ (rdOf ByteArray.empty y303 t306)) ++ (a1.extract (t299 : Int).toNat a1.size))) (by rfl) rfl ?_ ?_
                          · go_simp
                            (try simp only [i64_w])
                            try rfl
                          refine hK.out _ _ ⟨v304, adz_v304, m6_, (by rw [ha.out]; exact putSel_upk 8 hb_ rfl rfl rfl), fun h0_ => absurd ((hon 5 (by kernel_rfl)).symm.trans h0_) (by decide), Q_HK, Q_HB, Q_HO305, Q_HA_HO305, Q_HI0_e5, Q_X6_⟩
                        exact steps_nil
                      rintro b a w38 hall ⟨v304, adz_v304, m6_, ha, Q_HI0, Q_HK, Q_HB, Q_HO305, Q_HA_HO305, Q_HI0_e5, Q_X6_⟩
                      clear HB HI0 HK
                      have hb2_ := hall 2 (by kernel_rfl)
                      have hb3_ := hall 3 (by kernel_rfl)
                      have hb5_ := hall 5 (by kernel_rfl)
                      have hb6_ := hall 6 (by kernel_rfl)
                      have hb7_ := hall 7 (by kernel_rfl)
                      have hb8_ := hall 8 (by kernel_rfl)
                      have hb11_ := hall 11 (by kernel_rfl)
                      have hb12_ := hall 12 (by kernel_rfl)
                      have hb13_ := hall 13 (by kernel_rfl)
                      subst ha
                      obtain rfl := Q_X6_ hb6_
                      simp only [putSel, hb2_, hb3_, hb5_, hb6_, hb7_, hb8_, hb11_, hb12_, hb13_, if_true, Act.put, List.setIfInBounds_toArray, List.set_cons_zero, List.set_cons_succ]
                      clear Q_HI0
                      have HK := Aside0.mk Q_HK
                      clear Q_HK
                      have HB := Aside0.mk Q_HB
                      clear Q_HB
                      have HO305 := Aside0.mk (Q_HO305 hb3_)
                      clear Q_HO305
                      have HA_HO305 := Aside0.mk (Q_HA_HO305 hb3_)
                      clear Q_HA_HO305
                      have HI0 := Aside0.mk (Q_HI0_e5 hb5_)
                      clear Q_HI0_e5
                      clear hall hb2_ hb3_ hb5_ hb6_ hb7_ hb8_ hb11_ hb12_ hb13_
                      obtain ⟨co39, eo39⟩ := HA_HO305.out
                      clear HA_HO305
                      subst eo39
                      try go_wp2
                      go_ret
                      exact ⟨by first | rfl | (simp [errW_none, errW_some] <;> rfl) | (simp [*, errW_none, errW_some] <;> rfl), by repeat (first | (with_reducible first | exact HI0.out | apply IsS62.alloc | apply IsS62.drewN | apply IsS62.drew | apply IsS62.set_1) | exact HI0.out), by repeat (first | (with_reducible first | exact HB.out | apply below_alloc | apply pw_below_drewN | apply below_drew1 | refine below_set ?_ (IsS62.ge HI0.out)) | exact HB.out), by repeat (first | (with_reducible first | exact HK.out | apply KeepBut.set_ | apply keep_drewN | apply keep_drew | apply keep_alloc) | exact HK.out)⟩
                    · rw [if_neg c30] at H
                      exact absurd H (by simp)
                  · rw [if_neg c27] at H
                    exact absurd H (by simp)
                · rw [if_neg c26] at H
                  exact absurd H (by simp)
              · rw [if_neg c25] at H
                exact absurd H (by simp)
            · rw [if_neg c23] at H
              exact absurd H (by simp)
          · rw [if_neg c22] at H
            exact absurd H (by simp)
        · rw [if_neg c21] at H
          have c21b0 : (t301 == 2) = false := beq_eq_false_iff_ne.mpr c21
          have c21b1 : (t301 != 2) = true := bne_iff_ne.mpr c21
          by_cases c40 : t301 = 3
          · rw [if_pos c40] at H
            have c40b0 : (t301 == 3) = true := beq_iff_eq.mpr c40
            have c40b1 : (t301 != 3) = false := bne_eq_false_iff_eq.mpr c40
            clear c40
            by_cases c41 : 0 ≤ t299
            · rw [if_pos c41] at H
              have c41b0 := eq_true c41
              have c41b1 : decide (0 ≤ t299) = true := decide_eq_true c41
              clear c41
              by_cases c42 : t299 ≤ (a1.size : Int)
              · rw [if_pos c42] at H
                have c42b0 := eq_true c42
                have c42b1 : decide (t299 ≤ (a1.size : Int)) = true := decide_eq_true c42
                clear c42
                replace H := Option.bind_eq_some_iff.mp H
                obtain ⟨⟨t309, t310⟩, A430, H⟩ := H
                replace H : ((some (([(t309) % 256] : List Int) : List Int)).bind fun y311 => (if (a1.extract 0 (t299 : Int).toNat).size + (strOfNums y311).size ≤ 9223372036854775807 then (if 0 ≤ (wrap64 (t299 + 1)) then (if (wrap64 (t299 + 1)) ≤ (a1.size : Int) then (if ((a1.extract 0 (t299 : Int).toNat) ++ (strOfNums y311)).size + (a1.extract ((wrap64 (t299 + 1)) : Int).toNat a1.size).size ≤ 9223372036854775807 then (some (((a1.extract 0 (t299 : Int).toNat) ++ (strOfNums y311)) ++ (a1.extract ((wrap64 (t299 + 1)) : Int).toNat a1.size), t310)) else (none)) else (none)) else (none)) else (none))) = some (r1, r2) := H
                have A43 := Aside0.mk A430
                clear A430
                obtain ⟨y311, hy311⟩ : ∃ y_ : List Int, y_ = (([(t309) % 256] : List Int)) := ⟨_, rfl⟩
                replace H : (if (a1.extract 0 (t299 : Int).toNat).size + (strOfNums y311).size ≤ 9223372036854775807 then (if 0 ≤ (wrap64 (t299 + 1)) then (if (wrap64 (t299 + 1)) ≤ (a1.size : Int) then (if ((a1.extract 0 (t299 : Int).toNat) ++ (strOfNums y311)).size + (a1.extract ((wrap64 (t299 + 1)) : Int).toNat a1.size).size ≤ 9223372036854775807 then (some (((a1.extract 0 (t299 : Int).toNat) ++ (strOfNums y311)) ++ (a1.extract ((wrap64 (t299 + 1)) : Int).toNat a1.size), t310)) else (none)) else (none)) else (none)) else (none)) = some (r1, r2) := by first | (rw [hy311]; with_reducible exact H) | (have H2_ := (Option.bind_some _ _).symm.trans H; rw [hy311]; with_reducible exact H2_) | (have H2_ := (Option.bind_some _ _).symm.trans H; with_reducible exact H2_) | with_reducible exact H | (rw [hy311]; exact H) | exact H
                have Ny311 := Aside0.mk hy311
                clear hy311
                by_cases c44 : (a1.extract 0 (t299 : Int).toNat).size + (strOfNums y311).size ≤ 9223372036854775807
                · rw [if_pos c44] at H
                  have c44b0 := eq_true c44
                  have c44b1 : decide ((a1.extract 0 (t299 : Int).toNat).size + (strOfNums y311).size ≤ 9223372036854775807) = true := decide_eq_true c44
                  try have c44b2 : (9223372036854775807 < (a1.extract 0 (t299 : Int).toNat).size + (strOfNums y311).size) = False := eq_false (Nat.not_lt.2 c44)
                  (try (have c44n0 : (t299.toNat + (strOfNums y311).size ≤ 9223372036854775807) = True := eq_true (by have h_ := c44; (try have g0_ : t299 ≤ (a1.size : Int) := of_decide_eq_true (by first | (with_reducible assumption) | assumption)); (try have g1_ : 0 ≤ t299 := of_decide_eq_true (by first | (with_reducible assumption) | assumption)); simp only [ByteArray.size_append, ByteArray.size_extract] at h_; omega)))
                  (try (have c44n1 : (9223372036854775807 < t299.toNat + (strOfNums y311).size) = False := eq_false (by have h_ := c44; (try have g0_ : t299 ≤ (a1.size : Int) := of_decide_eq_true (by first | (with_reducible assumption) | assumption)); (try have g1_ : 0 ≤ t299 := of_decide_eq_true (by first | (with_reducible assumption) | assumption)); simp only [ByteArray.size_append, ByteArray.size_extract] at h_; omega)))
                  obtain ⟨ji45, hji45⟩ : ∃ j_ : Int, (wrap64 (t299 + 1)) = j_ := ⟨_, rfl⟩
                  replace H : (if 0 ≤ (ji45) then (if (ji45) ≤ (a1.size : Int) then (if ((a1.extract 0 (t299 : Int).toNat) ++ (strOfNums y311)).size + (a1.extract ((ji45) : Int).toNat a1.size).size ≤ 9223372036854775807 then (some (((a1.extract 0 (t299 : Int).toNat) ++ (strOfNums y311)) ++ (a1.extract ((ji45) : Int).toNat a1.size), t310)) else (none)) else (none)) else (none)) = some (r1, r2) := by first | (rw [hji45] at H; exact H) | (simp only [hji45] at H ⊢; exact H)
                  (try rw [hji45] at A4)
                  (try rw [hji45] at A5)
                  (try rw [hji45] at A43)
                  have hji45w : (IntKind.i64.wrap (t299 + 1)) = ji45 := (i64_w _).trans hji45
                  by_cases c46 : 0 ≤ (ji45)
                  · rw [if_pos c46] at H
                    have c46b0 := eq_true c46
                    have c46b1 : decide (0 ≤ (ji45)) = true := decide_eq_true c46
                    clear c46
                    by_cases c47 : (ji45) ≤ (a1.size : Int)
                    · rw [if_pos c47] at H
                      have c47b0 := eq_true c47
                      have c47b1 : decide ((ji45) ≤ (a1.size : Int)) = true := decide_eq_true c47
                      clear c47
                      by_cases c48 : ((a1.extract 0 (t299 : Int).toNat) ++ (strOfNums y311)).size + (a1.extract ((ji45) : Int).toNat a1.size).size ≤ 9223372036854775807
                      · rw [if_pos c48] at H
                        have c48b0 := eq_true c48
                        have c48b1 : decide (((a1.extract 0 (t299 : Int).toNat) ++ (strOfNums y311)).size + (a1.extract ((ji45) : Int).toNat a1.size).size ≤ 9223372036854775807) = true := decide_eq_true c48
                        try have c48b2 : (9223372036854775807 < ((a1.extract 0 (t299 : Int).toNat) ++ (strOfNums y311)).size + (a1.extract ((ji45) : Int).toNat a1.size).size) = False := eq_false (Nat.not_lt.2 c48)
                        (try (have c48n0 : (t299.toNat + (strOfNums y311).size + (a1.size - ji45.toNat) ≤ 9223372036854775807) = True := eq_true (by have h_ := c48; (try have g0_ : t299 ≤ (a1.size : Int) := of_decide_eq_true (by first | (with_reducible assumption) | assumption)); (try have g1_ : 0 ≤ t299 := of_decide_eq_true (by first | (with_reducible assumption) | assumption)); (try have g2_ : ji45 ≤ (a1.size : Int) := of_decide_eq_true (by first | (with_reducible assumption) | assumption)); (try have g3_ : 0 ≤ ji45 := of_decide_eq_true (by first | (with_reducible assumption) | assumption)); simp only [ByteArray.size_append, ByteArray.size_extract] at h_; omega)))
                        (try (have c48n1 : (9223372036854775807 < t299.toNat + (strOfNums y311).size + (a1.size - ji45.toNat)) = False := eq_false (by have h_ := c48; (try have g0_ : t299 ≤ (a1.size : Int) := of_decide_eq_true (by first | (with_reducible assumption) | assumption)); (try have g1_ : 0 ≤ t299 := of_decide_eq_true (by first | (with_reducible assumption) | assumption)); (try have g2_ : ji45 ≤ (a1.size : Int) := of_decide_eq_true (by first | (with_reducible assumption) | assumption)); (try have g3_ : 0 ≤ ji45 := of_decide_eq_true (by first | (with_reducible assumption) | assumption)); simp only [ByteArray.size_append, ByteArray.size_extract] at h_; omega)))
                        simp only [Option.some.injEq, Prod.mk.injEq] at H
                        obtain ⟨rfl, rfl⟩ := H
                        go_enter Tryd.func13, Tryd.ntmps13
                        try go_wp2_with (first | ((with_reducible refine gate_callee (f := 25) rfl ?_); refine goesL_ (some 12) rfl rfl Tryd.func25 (by kernel_rfl) rfl #[.pointer (some ⟨g, 0, none⟩), .int .i64 (a1.size : Int)] rfl (by (try simp only [List.map_toArray, List.map_cons, List.map_nil]); first | done | rfl | (simp only [List.length_drop, List.length_take]; rfl)) ?_; (with_reducible refine (paygen_Deck_Next.calls k g s0_0 s0_1 (a1.size : Int) t299 t300 w0 _ ?side1 ?side2 A4.out).mono ?_); (case side1 => repeat (first | (with_reducible first | exact HI0.out | apply IsS62.alloc | apply IsS62.drewN | apply IsS62.drew | apply IsS62.set_1) | exact HI0.out)); (case side2 => repeat (first | (with_reducible first | exact HB.out | apply below_alloc | apply pw_below_drewN | apply below_drew1 | refine below_set ?_ (IsS62.ge HI0.out)) | exact HB.out)); rintro e w49 ⟨rfl, hi, hb, hk⟩; refine ⟨_, rfl, ?_⟩; have n0_ := Aside0.mk (KeepBut.trans (by repeat (first | (with_reducible first | exact HK.out | apply KeepBut.set_ | apply keep_drewN | apply keep_drew | apply keep_alloc) | exact HK.out)) hk (.inl rfl)); have n1_ := Aside0.mk (hb); have n2_ := Aside0.mk (hi); clear HK; clear HB; clear HI0; have HK := n0_; have HB := n1_; have HI0 := n2_; clear n0_ n1_ n2_; (try clear hb); (try clear hb2); (try clear hk); (try clear hi)) | ((with_reducible refine gate_callee (f := 25) rfl ?_); refine goesL_ (some 14) rfl rfl Tryd.func25 (by kernel_rfl) rfl #[.pointer (some ⟨g, 0, none⟩), .int .i64 5] rfl (by (try simp only [List.map_toArray, List.map_cons, List.map_nil]); first | done | rfl | (simp only [List.length_drop, List.length_take]; rfl)) ?_; (with_reducible refine (paygen_Deck_Next.calls k g s0_0 t300 5 t301 t302 w0 _ ?side1 ?side2 A5.out).mono ?_); (case side1 => repeat (first | (with_reducible first | exact HI0.out | apply IsS62.alloc | apply IsS62.drewN | apply IsS62.drew | apply IsS62.set_1) | exact HI0.out)); (case side2 => repeat (first | (with_reducible first | exact HB.out | apply below_alloc | apply pw_below_drewN | apply below_drew1 | refine below_set ?_ (IsS62.ge HI0.out)) | exact HB.out)); rintro e w50 ⟨rfl, hi, hb, hk⟩; refine ⟨_, rfl, ?_⟩; have n0_ := Aside0.mk (KeepBut.trans (by repeat (first | (with_reducible first | exact HK.out | apply KeepBut.set_ | apply keep_drewN | apply keep_drew | apply keep_alloc) | exact HK.out)) hk (.inl rfl)); have n1_ := Aside0.mk (hb); have n2_ := Aside0.mk (hi); clear HK; clear HB; clear HI0; have HK := n0_; have HB := n1_; have HI0 := n2_; clear n0_ n1_ n2_; (try clear hb); (try clear hb2); (try clear hk); (try clear hi)))
                        have n0_ := Aside0.mk (IsS62.drew HI0.out)
                        have n1_ := Aside0.mk (keep_drew HK.out)
                        have n2_ := Aside0.mk (below_drew1 HB.out)
                        clear HI0
                        clear HK
                        clear HB
                        have HI0 := n0_
                        have HK := n1_
                        have HB := n2_
                        clear n0_ n1_ n2_
                        refine start_ (n := 15) (S := fun w' => True) (ds := []) #[false, false, false, false, false, false, false, false, false, false, false, false, false, false, false] (by kernel_rfl) rfl rfl trivial (fun hHeld => ?_); refine with_tabW paygen_Deck_Damage.tab12 paygen_Deck_Damage.bits12 (fun HT_ HW_ => ?_)
                        generalize w50.drew = w51 at HI0 HK HB hHeld ⊢
                        refine pure_ (i := 0) (N := some 47) (v := ?_) (a' := ?_) #[true, false, false, false, false, false, false, false, false, false, false, false, false, false, false] rfl rfl (any_of HT_.out (by kernel_rfl)) (fun _ _ _ h => h) (Or.inl ⟨by rfl, ?_⟩) ?_ ?_
                        rotate_left
                        · intro w'
                          go_simp
                          with_reducible rfl
                        rotate_left
                        · simp only [Act.put, List.setIfInBounds_toArray, List.set_cons_zero, List.set_cons_succ, i64_w, i32_w]
                          rfl
                        refine pure_ (i := 1) (N := some 48) (v := ?_) (a' := ?_) #[true, true, false, false, false, false, false, false, false, false, false, false, false, false, false] rfl rfl (any_of HT_.out (by kernel_rfl)) (fun _ _ _ h => h) (Or.inl ⟨by rfl, ?_⟩) ?_ ?_
                        rotate_left
                        · intro w'
                          go_simp
                          with_reducible rfl
                        rotate_left
                        · simp only [Act.put, List.setIfInBounds_toArray, List.set_cons_zero, List.set_cons_succ, i64_w, i32_w]
                          rfl
                        refine pure_ (i := 2) (N := some 49) (v := ?_) (a' := ?_) #[true, true, true, false, false, false, false, false, false, false, false, false, false, false, false] rfl rfl (any_of HT_.out (by kernel_rfl)) (fun _ _ _ h => h) (Or.inl ⟨by rfl, ?_⟩) ?_ ?_
                        rotate_left
                        · intro w'
                          go_simp
                          with_reducible rfl
                        rotate_left
                        · simp only [Act.put, List.setIfInBounds_toArray, List.set_cons_zero, List.set_cons_succ, i64_w, i32_w]
                          rfl
                        refine pure_ (i := 3) (N := some 50) (v := ?_) (a' := ?_) #[true, true, true, true, false, false, false, false, false, false, false, false, false, false, false] rfl rfl (any_of HT_.out (by kernel_rfl)) (fun _ _ _ h => h) (Or.inl ⟨by rfl, ?_⟩) ?_ ?_
                        rotate_left
                        · intro w'
                          go_simp
                          with_reducible rfl
                        rotate_left
                        · simp only [Act.put, List.setIfInBounds_toArray, List.set_cons_zero, List.set_cons_succ, i64_w, i32_w]
                          rfl
                        refine pure_ (i := 9) (N := some 56) (v := ?_) (a' := ?_) #[true, true, true, true, false, false, false, false, false, true, false, false, false, false, false] rfl rfl (any_of HT_.out (by kernel_rfl)) (fun _ _ _ h => h) (Or.inl ⟨by rfl, ?_⟩) ?_ ?_
                        rotate_left
                        · intro w'
                          go_simp
                          with_reducible rfl
                        rotate_left
                        · simp only [Act.put, List.setIfInBounds_toArray, List.set_cons_zero, List.set_cons_succ, i64_w, i32_w]
                          rfl
                        refine pure_ (i := 10) (N := some 57) (v := ?_) (a' := ?_) #[true, true, true, true, false, false, false, false, false, true, true, false, false, false, false] rfl rfl (any_of HT_.out (by kernel_rfl)) (fun _ _ _ h => h) (Or.inl ⟨by rfl, ?_⟩) ?_ ?_
                        rotate_left
                        · intro w'
                          go_simp
                          with_reducible rfl
                        rotate_left
                        · simp only [Act.put, List.setIfInBounds_toArray, List.set_cons_zero, List.set_cons_succ, i64_w, i32_w]
                          rfl
                        refine pure_ (i := 11) (N := some 58) (v := ?_) (a' := ?_) #[true, true, true, true, false, false, false, false, false, true, true, true, false, false, false] rfl rfl (any_of HT_.out (by kernel_rfl)) (fun _ _ _ h => h) (Or.inl ⟨by rfl, ?_⟩) ?_ ?_
                        rotate_left
                        · intro w'
                          go_simp
                          with_reducible rfl
                        rotate_left
                        · simp only [Act.put, List.setIfInBounds_toArray, List.set_cons_zero, List.set_cons_succ, i64_w, i32_w]
                          rfl
                        refine pure_ (i := 12) (N := some 59) (v := ?_) (a' := ?_) #[true, true, true, true, false, false, false, false, false, true, true, true, true, false, false] rfl rfl (any_of HT_.out (by kernel_rfl)) (fun _ _ _ h => h) (Or.inl ⟨by rfl, ?_⟩) ?_ ?_
                        rotate_left
                        · intro w'
                          go_simp
                          with_reducible rfl
                        rotate_left
                        · simp only [Act.put, List.setIfInBounds_toArray, List.set_cons_zero, List.set_cons_succ, i64_w, i32_w]
                          rfl
                        refine one_ (i := 4) (N := some 51) #[true, true, true, true, true, false, false, false, false, true, true, true, true, false, false] rfl rfl (one_of HT_.out (by kernel_rfl)) (by decide) (fun K hK => ?_)
                        refine goes_ Tryd.func25 (by kernel_rfl) rfl #[.pointer (some ⟨g, 0, none⟩), .int .i64 256] (by rfl) rfl rfl (by (try simp only [List.map_toArray, List.map_cons, List.map_nil]); first | done | rfl | (simp only [List.length_drop, List.length_take]; rfl)) ?_
                        with_reducible refine (paygen_Deck_Next.calls k g s0_0 t302 256 t309 t310 w0 _ ?side1 ?side2 A43.out).mono ?_
                        (case side1 => repeat (first | (with_reducible first | exact HI0.out | apply IsS62.alloc | apply IsS62.drewN | apply IsS62.drew | apply IsS62.set_1) | exact HI0.out))
                        (case side2 => repeat (first | (with_reducible first | exact HB.out | apply below_alloc | apply pw_below_drewN | apply below_drew1 | refine below_set ?_ (IsS62.ge HI0.out)) | exact HB.out))
                        rintro e w52 ⟨rfl, hi, hb, hk⟩
                        refine ⟨_, rfl, ?_⟩
                        have n0_ := Aside0.mk (KeepBut.trans (by repeat (first | (with_reducible first | exact HK.out | apply KeepBut.set_ | apply keep_drewN | apply keep_drew | apply keep_alloc) | exact HK.out)) hk (.inl rfl))
                        have n1_ := Aside0.mk (hb)
                        have n2_ := Aside0.mk (hi)
                        clear HK
                        clear HB
                        clear HI0
                        have HK := n0_
                        have HB := n1_
                        have HI0 := n2_
                        clear n0_ n1_ n2_
                        (try clear hb)
                        (try clear hb2)
                        (try clear hk)
                        (try clear hi)
                        refine hK.out _ _ trivial (fun hHeld => ?_)
                        clear hK K
                        refine norm_ (a' := ?_) ?_ ?_
                        rotate_left
                        · show Act.put _ (some 51) _ = _
                          simp only [Act.put, List.setIfInBounds_toArray, List.set_cons_zero, List.set_cons_succ, i64_w, i32_w]
                          rfl
                        refine pure_ (i := 5) (N := some 52) (v := ?_) (a' := ?_) #[true, true, true, true, true, true, false, false, false, true, true, true, true, false, false] rfl rfl (any_of HT_.out (by kernel_rfl)) (fun _ _ _ h => h) (Or.inl ⟨by rfl, ?_⟩) ?_ ?_
                        rotate_left
                        · intro w'
                          go_simp
                          with_reducible rfl
                        rotate_left
                        · simp only [Act.put, List.setIfInBounds_toArray, List.set_cons_zero, List.set_cons_succ, i64_w, i32_w]
                          rfl
                        refine one_ (i := 6) (N := some 53) #[true, true, true, true, true, true, true, false, false, true, true, true, true, false, false] rfl rfl (one_of HT_.out (by kernel_rfl)) (by decide) (fun K hK => ?_)
                        refine Kd.R_lit_step (Kd.int .u8) _ 5 ?hg (N := 53) ?hd (xs := ([(t309) % 256] : List Int)) (inner := [.int .u8 ((t309) % 256)]) (ok := fun _ => True) (okp := fun _ => True) ?hr ?hp (fun _ hk => hk) trivial (Below.refl _ _) (Nat.le_refl _) (by simp) ?_; (case hd => rfl); (case hg => rfl); (case hr => first | (go_simp; done) | (go_simp; rfl)); (case hp => exact (Reps.one (show Kd.M (Kd.int .u8) _ _ _ ((t309) % 256) [.int .u8 ((t309) % 256)] from rfl) (Reps.none _ _)))
                        intro v312 w53 ho54 hb hg_ hnew_
                        clear hg_ hnew_
                        (first | rw [← Ny311.out] at ho54 | (simp only [Int.reduceToNat] at ho54; rw [← Ny311.out] at ho54))
                        have n0_ := Aside0.mk (Kd.R_lower ho54 (keep_size (w := w) (g := g) (row := none) (by repeat (first | (with_reducible first | exact HK.out | apply KeepBut.set_ | apply keep_drewN | apply keep_drew | apply keep_alloc) | exact HK.out))))
                        have n1_ := Aside0.mk (IsS62.below (by repeat (first | (with_reducible first | exact HI0.out | apply IsS62.alloc | apply IsS62.drewN | apply IsS62.drew | apply IsS62.set_1) | exact HI0.out)) hb)
                        have n2_ := Aside0.mk (KeepBut.trans (by repeat (first | (with_reducible first | exact HK.out | apply KeepBut.set_ | apply keep_drewN | apply keep_drew | apply keep_alloc) | exact HK.out)) (KeepBut.of_below hb g none) (.inl rfl))
                        have n3_ := Aside0.mk (below_step (by repeat (first | (with_reducible first | exact HB.out | apply below_alloc | apply pw_below_drewN | apply below_drew1 | refine below_set ?_ (IsS62.ge HI0.out)) | exact HB.out)) hb)
                        clear HI0
                        clear HK
                        clear HB
                        have HO313 := n0_
                        have HI0 := n1_
                        have HK := n2_
                        have HB := n3_
                        clear n0_ n1_ n2_ n3_
                        clear hb ho54
                        refine hK.out _ _ trivial (fun hHeld => ?_)
                        clear hK K
                        refine norm_ (a' := ?_) ?_ ?_
                        rotate_left
                        · show Act.put _ (some 53) _ = _
                          simp only [Act.put, List.setIfInBounds_toArray, List.set_cons_zero, List.set_cons_succ, i64_w, i32_w]
                          rfl
                        refine one_ (i := 7) (N := some 54) #[true, true, true, true, true, true, true, true, false, true, true, true, true, false, false] rfl rfl (one_of HT_.out (by kernel_rfl)) (by decide) (fun K hK => ?_)
                        have hcv55 := own_string (P := Tryd.prog) Tryd.underlying26 Tryd.underlying5 Tryd.underlying9 (Kd.own_of_R HO313.out)
                        refine value_ (w1 := ?_) (v := ?_) (by rfl) rfl ?_ ?_
                        rotate_left 2
                        · go_simp
                          constructor
                          · rfl
                          · rfl
                        clear hcv55
                        refine hK.out _ _ trivial (fun hHeld => ?_)
                        clear hK K
                        refine norm_ (a' := ?_) ?_ ?_
                        rotate_left
                        · show Act.put _ (some 54) _ = _
                          simp only [Act.put, List.setIfInBounds_toArray, List.set_cons_zero, List.set_cons_succ, i64_w, i32_w]
                          rfl
                        refine pure_ (i := 8) (N := some 55) (v := ?_) (a' := ?_) #[true, true, true, true, true, true, true, true, true, true, true, true, true, false, false] rfl rfl (any_of HT_.out (by kernel_rfl)) (fun _ _ _ h => h) (Or.inl ⟨by rfl, ?_⟩) ?_ ?_
                        rotate_left
                        · intro w'
                          go_simp
                          with_reducible rfl
                        rotate_left
                        · simp only [Act.put, List.setIfInBounds_toArray, List.set_cons_zero, List.set_cons_succ, i64_w, i32_w]
                          rfl
                        refine pure_ (i := 13) (N := some 60) (v := ?_) (a' := ?_) #[true, true, true, true, true, true, true, true, true, true, true, true, true, true, false] rfl rfl (any_of HT_.out (by kernel_rfl)) (fun _ _ _ h => h) (Or.inl ⟨by rfl, ?_⟩) ?_ ?_
                        rotate_left
                        · intro w'
                          go_simp
                          with_reducible rfl
                        rotate_left
                        · simp only [Act.put, List.setIfInBounds_toArray, List.set_cons_zero, List.set_cons_succ, i64_w, i32_w]
                          rfl
                        refine pure_ (i := 14) (N := some 4) (v := ?_) (a' := ?_) #[true, true, true, true, true, true, true, true, true, true, true, true, true, true, true] rfl rfl (any_of HT_.out (by kernel_rfl)) (fun _ _ _ h => h) (Or.inl ⟨by rfl, ?_⟩) ?_ ?_
                        rotate_left
                        · intro w'
                          go_simp
                          with_reducible rfl
                        rotate_left
                        · simp only [Act.put, List.setIfInBounds_toArray, List.set_cons_zero, List.set_cons_succ, i64_w, i32_w]
                          rfl
                        refine done_ (done_of HT_.out (by kernel_rfl)) ?_
                        try go_wp2
                        go_ret
                        exact ⟨by first | rfl | (simp [errW_none, errW_some] <;> rfl) | (simp only [← hji45]; first | rfl | (simp [errW_none, errW_some] <;> rfl)) | (simp [*, errW_none, errW_some] <;> rfl), by repeat (first | (with_reducible first | exact HI0.out | apply IsS62.alloc | apply IsS62.drewN | apply IsS62.drew | apply IsS62.set_1) | exact HI0.out), by repeat (first | (with_reducible first | exact HB.out | apply below_alloc | apply pw_below_drewN | apply below_drew1 | refine below_set ?_ (IsS62.ge HI0.out)) | exact HB.out), by repeat (first | (with_reducible first | exact HK.out | apply KeepBut.set_ | apply keep_drewN | apply keep_drew | apply keep_alloc) | exact HK.out)⟩
                      · rw [if_neg c48] at H
                        exact absurd H (by simp)
                    · rw [if_neg c47] at H
                      exact absurd H (by simp)
                  · rw [if_neg c46] at H
                    exact absurd H (by simp)
                · rw [if_neg c44] at H
                  exact absurd H (by simp)
              · rw [if_neg c42] at H
                exact absurd H (by simp)
            · rw [if_neg c41] at H
              exact absurd H (by simp)
          · rw [if_neg c40] at H
            have c40b0 : (t301 == 3) = false := beq_eq_false_iff_ne.mpr c40
            have c40b1 : (t301 != 3) = true := bne_iff_ne.mpr c40
            simp only [Option.some.injEq, Prod.mk.injEq] at H
            obtain ⟨rfl, rfl⟩ := H
            go_enter Tryd.func13, Tryd.ntmps13
            go_wp2_with (first | ((with_reducible refine gate_callee (f := 25) rfl ?_); refine goesL_ (some 12) rfl rfl Tryd.func25 (by kernel_rfl) rfl #[.pointer (some ⟨g, 0, none⟩), .int .i64 (a1.size : Int)] rfl (by (try simp only [List.map_toArray, List.map_cons, List.map_nil]); first | done | rfl | (simp only [List.length_drop, List.length_take]; rfl)) ?_; (with_reducible refine (paygen_Deck_Next.calls k g s0_0 s0_1 (a1.size : Int) t299 t300 w0 _ ?side1 ?side2 A4.out).mono ?_); (case side1 => repeat (first | (with_reducible first | exact HI0.out | apply IsS62.alloc | apply IsS62.drewN | apply IsS62.drew | apply IsS62.set_1) | exact HI0.out)); (case side2 => repeat (first | (with_reducible first | exact HB.out | apply below_alloc | apply pw_below_drewN | apply below_drew1 | refine below_set ?_ (IsS62.ge HI0.out)) | exact HB.out)); rintro e w56 ⟨rfl, hi, hb, hk⟩; refine ⟨_, rfl, ?_⟩; have n0_ := Aside0.mk (KeepBut.trans (by repeat (first | (with_reducible first | exact HK.out | apply KeepBut.set_ | apply keep_drewN | apply keep_drew | apply keep_alloc) | exact HK.out)) hk (.inl rfl)); have n1_ := Aside0.mk (hb); have n2_ := Aside0.mk (hi); clear HK; clear HB; clear HI0; have HK := n0_; have HB := n1_; have HI0 := n2_; clear n0_ n1_ n2_; (try clear hb); (try clear hb2); (try clear hk); (try clear hi)) | ((with_reducible refine gate_callee (f := 25) rfl ?_); refine goesL_ (some 14) rfl rfl Tryd.func25 (by kernel_rfl) rfl #[.pointer (some ⟨g, 0, none⟩), .int .i64 5] rfl (by (try simp only [List.map_toArray, List.map_cons, List.map_nil]); first | done | rfl | (simp only [List.length_drop, List.length_take]; rfl)) ?_; (with_reducible refine (paygen_Deck_Next.calls k g s0_0 t300 5 t301 t302 w0 _ ?side1 ?side2 A5.out).mono ?_); (case side1 => repeat (first | (with_reducible first | exact HI0.out | apply IsS62.alloc | apply IsS62.drewN | apply IsS62.drew | apply IsS62.set_1) | exact HI0.out)); (case side2 => repeat (first | (with_reducible first | exact HB.out | apply below_alloc | apply pw_below_drewN | apply below_drew1 | refine below_set ?_ (IsS62.ge HI0.out)) | exact HB.out)); rintro e w57 ⟨rfl, hi, hb, hk⟩; refine ⟨_, rfl, ?_⟩; have n0_ := Aside0.mk (KeepBut.trans (by repeat (first | (with_reducible first | exact HK.out | apply KeepBut.set_ | apply keep_drewN | apply keep_drew | apply keep_alloc) | exact HK.out)) hk (.inl rfl)); have n1_ := Aside0.mk (hb); have n2_ := Aside0.mk (hi); clear HK; clear HB; clear HI0; have HK := n0_; have HB := n1_; have HI0 := n2_; clear n0_ n1_ n2_; (try clear hb); (try clear hb2); (try clear hk); (try clear hi)))
            go_ret
            exact ⟨by first | rfl | (simp [errW_none, errW_some] <;> rfl) | (simp [*, errW_none, errW_some] <;> rfl), by repeat (first | (with_reducible first | exact HI0.out | apply IsS62.alloc | apply IsS62.drewN | apply IsS62.drew | apply IsS62.set_1) | exact HI0.out), by repeat (first | (with_reducible first | exact HB.out | apply below_alloc | apply pw_below_drewN | apply below_drew1 | refine below_set ?_ (IsS62.ge HI0.out)) | exact HB.out), by repeat (first | (with_reducible first | exact HK.out | apply KeepBut.set_ | apply keep_drewN | apply keep_drew | apply keep_alloc) | exact HK.out)⟩
end Go.Proofs.YtejgfblphgcgkaaDoor.P
