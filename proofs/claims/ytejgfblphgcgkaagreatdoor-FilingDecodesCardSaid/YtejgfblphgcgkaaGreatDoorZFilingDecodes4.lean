/- Texts for the law FilingDecodes (kept out of a larger one). -/
import Derived.Test.YtejgfblphgcgkaaGreatDoorZFilingDecodes3
namespace Go.Proofs.YtejgfblphgcgkaaGreatDoor.P
open Go.RowKit Go.Proofs.YtejgfblphgcgkaaGreatDoorW.PrintWords Go.Proofs.YtejgfblphgcgkaaGreatDoorW.PrintLast Go.Proofs.YtejgfblphgcgkaaGreatDoorW.PrintMore
attribute [local go_sem] max2_int min2_int max_two min_two max_three min_three max_four min_four   -- for this text's walks alone
set_option linter.unusedVariables false
set_option maxHeartbeats 8000000
set_option maxRecDepth 100000
set_option linter.unusedSimpArgs false
def filing_word.f (a0 : Int) : Option (Zb) := if a0 = 4 then (some (⟨#[108,101,118,121]⟩ : Zb)) else (if a0 = 5 then (some (⟨#[101,109,112,108,111,121,101,114]⟩ : Zb)) else (if a0 = 6 then (some (⟨#[116,97,120]⟩ : Zb)) else (some (⟨#[]⟩ : Zb))))
theorem filing_word.calls (a0 : Int) (r : Zb) (w : World) (h : filing_word.f a0 = some r) :
 Calls Tryz.prog 37 #[.int .i64 a0] w fun e w' => e = .returned (.string r) ∧ Drawn0 w w' := by
 have H : (if a0 = 4 then (some (⟨#[108,101,118,121]⟩ : Zb)) else (if a0 = 5 then (some (⟨#[101,109,112,108,111,121,101,114]⟩ : Zb)) else (if a0 = 6 then (some (⟨#[116,97,120]⟩ : Zb)) else (some (⟨#[]⟩ : Zb))))) = some r := h
 clear h
 by_cases c2 : a0 = 4
 · rw [if_pos c2] at H
   have c2b0 : (a0 == 4) = true := Yb.mpr c2
   have c2b1 : (a0 != 4) = false := bne_eq_false_iff_eq.mpr c2
   clear c2
   obtain rfl := Xz H
   go_enter Tryz.func37, Tryz.ntmps37
   go_wp2
   go_ret
   exact ⟨by first | rfl | (simp; done) | (simp [*]; done), by repeat (first | exact Drawn0.refl _ | apply Drawn0.step)⟩
 rw [if_neg c2] at H
 have c2b0 : (a0 == 4) = false := Ya.mpr c2
 have c2b1 : (a0 != 4) = true := Yc.mpr c2
 by_cases c3 : a0 = 5
 · rw [if_pos c3] at H
   have c3b0 : (a0 == 5) = true := Yb.mpr c3
   have c3b1 : (a0 != 5) = false := bne_eq_false_iff_eq.mpr c3
   clear c3
   obtain rfl := Xz H
   go_enter Tryz.func37, Tryz.ntmps37
   go_wp2
   go_ret
   exact ⟨by first | rfl | (simp; done) | (simp [*]; done), by repeat (first | exact Drawn0.refl _ | apply Drawn0.step)⟩
 rw [if_neg c3] at H
 have c3b0 : (a0 == 5) = false := Ya.mpr c3
 have c3b1 : (a0 != 5) = true := Yc.mpr c3
 by_cases c4 : a0 = 6
 · rw [if_pos c4] at H
   have c4b0 : (a0 == 6) = true := Yb.mpr c4
   have c4b1 : (a0 != 6) = false := bne_eq_false_iff_eq.mpr c4
   clear c4
   obtain rfl := Xz H
   go_enter Tryz.func37, Tryz.ntmps37
   go_wp2
   go_ret
   exact ⟨by first | rfl | (simp; done) | (simp [*]; done), by repeat (first | exact Drawn0.refl _ | apply Drawn0.step)⟩
 rw [if_neg c4] at H
 have c4b0 : (a0 == 6) = false := Ya.mpr c4
 have c4b1 : (a0 != 6) = true := Yc.mpr c4
 obtain rfl := Xz H
 go_enter Tryz.func37, Tryz.ntmps37
 go_wp2
 go_ret
 exact ⟨by first | rfl | (simp; done) | (simp [*]; done), by repeat (first | exact Drawn0.refl _ | apply Drawn0.step)⟩
def payslip_total.f (a0 : Int) : Option (Bool) := if a0 ≥ (-1000000000000) then (some (decide (a0 ≤ 1000000000000))) else (some false)
theorem payslip_total.calls (a0 : Int) (r : Bool) (w : World) (h : payslip_total.f a0 = some r) :
 Calls Tryz.prog 80 #[.int .i64 a0] w fun e w' => e = .returned (.bool r) ∧ Drawn0 w w' := by
 have H : (if a0 ≥ (-1000000000000) then (some (decide (a0 ≤ 1000000000000))) else (some false)) = some r := h
 clear h
 by_cases c2 : a0 ≥ (-1000000000000)
 · rw [if_pos c2] at H
   have c2b0 : decide ((-1000000000000) ≤ a0) = true := Xq c2
   clear c2
   obtain rfl := Xz H
   go_enter Tryz.func80, Tryz.ntmps80
   go_wp2
   go_ret
   exact ⟨by first | rfl | (simp; done) | (simp [*]; done), by repeat (first | exact Drawn0.refl _ | apply Drawn0.step)⟩
 rw [if_neg c2] at H
 have c2b0 : decide ((-1000000000000) ≤ a0) = false := Xr c2
 clear c2
 obtain rfl := Xz H
 go_enter Tryz.func80, Tryz.ntmps80
 go_wp2
 go_ret
 exact ⟨by first | rfl | (simp; done) | (simp [*]; done), by repeat (first | exact Drawn0.refl _ | apply Drawn0.step)⟩
def payslip_coded.f (a0 : Int) : Option (Bool) := if a0 = 6 then (some false) else (if a0 = 9 then (some false) else (some (a0 != 10)))
theorem payslip_coded.calls (a0 : Int) (r : Bool) (w : World) (h : payslip_coded.f a0 = some r) :
 Calls Tryz.prog 81 #[.int .i64 a0] w fun e w' => e = .returned (.bool r) ∧ Drawn0 w w' := by
 have H : (if a0 = 6 then (some false) else (if a0 = 9 then (some false) else (some (a0 != 10)))) = some r := h
 clear h
 by_cases c2 : a0 = 6
 · rw [if_pos c2] at H
   have c2b0 : (a0 == 6) = true := Yb.mpr c2
   have c2b1 : (a0 != 6) = false := bne_eq_false_iff_eq.mpr c2
   clear c2
   obtain rfl := Xz H
   go_enter Tryz.func81, Tryz.ntmps81
   go_wp2
   go_ret
   exact ⟨by first | rfl | (simp; done) | (simp [*]; done), by repeat (first | exact Drawn0.refl _ | apply Drawn0.step)⟩
 rw [if_neg c2] at H
 have c2b0 : (a0 == 6) = false := Ya.mpr c2
 have c2b1 : (a0 != 6) = true := Yc.mpr c2
 by_cases c3 : a0 = 9
 · rw [if_pos c3] at H
   have c3b0 : (a0 == 9) = true := Yb.mpr c3
   have c3b1 : (a0 != 9) = false := bne_eq_false_iff_eq.mpr c3
   clear c3
   obtain rfl := Xz H
   go_enter Tryz.func81, Tryz.ntmps81
   go_wp2
   go_ret
   exact ⟨by first | rfl | (simp; done) | (simp [*]; done), by repeat (first | exact Drawn0.refl _ | apply Drawn0.step)⟩
 rw [if_neg c3] at H
 have c3b0 : (a0 == 9) = false := Ya.mpr c3
 have c3b1 : (a0 != 9) = true := Yc.mpr c3
 obtain rfl := Xz H
 go_enter Tryz.func81, Tryz.ntmps81
 go_wp2
 go_ret
 exact ⟨by first | rfl | (simp; done) | (simp [*]; done), by repeat (first | exact Drawn0.refl _ | apply Drawn0.step)⟩
def token_letter.f (a0 : Int) : Option (Bool) := if a0 ≥ 97 then (some (decide (a0 ≤ 122))) else (some false)
theorem token_letter.calls (a0 : Int) (r : Bool) (w : World) (h : token_letter.f a0 = some r) :
 Calls Tryz.prog 94 #[.int .u8 a0] w fun e w' => e = .returned (.bool r) ∧ Drawn0 w w' := by
 have H : (if a0 ≥ 97 then (some (decide (a0 ≤ 122))) else (some false)) = some r := h
 clear h
 by_cases c2 : a0 ≥ 97
 · rw [if_pos c2] at H
   have c2b0 : decide (97 ≤ a0) = true := Xq c2
   clear c2
   obtain rfl := Xz H
   go_enter Tryz.func94, Tryz.ntmps94
   go_wp2
   go_ret
   exact ⟨by first | rfl | (simp; done) | (simp [*]; done), by repeat (first | exact Drawn0.refl _ | apply Drawn0.step)⟩
 rw [if_neg c2] at H
 have c2b0 : decide (97 ≤ a0) = false := Xr c2
 clear c2
 obtain rfl := Xz H
 go_enter Tryz.func94, Tryz.ntmps94
 go_wp2
 go_ret
 exact ⟨by first | rfl | (simp; done) | (simp [*]; done), by repeat (first | exact Drawn0.refl _ | apply Drawn0.step)⟩
def token_digit.f (a0 : Int) : Option (Bool) := if a0 ≥ 48 then (some (decide (a0 ≤ 57))) else (some false)
theorem token_digit.calls (a0 : Int) (r : Bool) (w : World) (h : token_digit.f a0 = some r) :
 Calls Tryz.prog 95 #[.int .u8 a0] w fun e w' => e = .returned (.bool r) ∧ Drawn0 w w' := by
 have H : (if a0 ≥ 48 then (some (decide (a0 ≤ 57))) else (some false)) = some r := h
 clear h
 by_cases c2 : a0 ≥ 48
 · rw [if_pos c2] at H
   have c2b0 : decide (48 ≤ a0) = true := Xq c2
   clear c2
   obtain rfl := Xz H
   go_enter Tryz.func95, Tryz.ntmps95
   go_wp2
   go_ret
   exact ⟨by first | rfl | (simp; done) | (simp [*]; done), by repeat (first | exact Drawn0.refl _ | apply Drawn0.step)⟩
 rw [if_neg c2] at H
 have c2b0 : decide (48 ≤ a0) = false := Xr c2
 clear c2
 obtain rfl := Xz H
 go_enter Tryz.func95, Tryz.ntmps95
 go_wp2
 go_ret
 exact ⟨by first | rfl | (simp; done) | (simp [*]; done), by repeat (first | exact Drawn0.refl _ | apply Drawn0.step)⟩

-- given by hand: function 96 (token_IsKeyword), in alone
mutual
def token_IsName.j0 : Nat → Zb → Bool → Option (Bool)
 | 0, _, _ => none
 | k + 1, x0, x16 => if x16 = true then (some false) else (token_IsName.l0 k x0 (x0.size : Int) 0)
def token_IsName.l0 : Nat → Zb → Int → Int → Option (Bool)
 | 0, _, _, _ => none
 | k + 1, x0, x18, x19 => if x19 < x18 then (if 0 ≤ x19 then (if x19 < (x0.size : Int) then ((token_letter.f (bt x0 x19)).bind fun t104 => (if t104 = true then (token_IsName.j2 k x0 x18 x19 false) else ((token_digit.f (bt x0 x19)).bind fun t105 => (if t105 = true then (token_IsName.j2 k x0 x18 x19 false) else (token_IsName.j2 k x0 x18 x19 ((bt x0 x19) != 95)))))) else (none)) else (none)) else ((token_IsKeyword.f x0).bind fun t103 => (some (!t103)))
def token_IsName.j2 : Nat → Zb → Int → Int → Bool → Option (Bool)
 | 0, _, _, _, _ => none
 | k + 1, x0, x18, x19, x39 => if x39 = true then (some false) else (token_IsName.l0 k x0 x18 (wrap64 (x19 + 1)))
end
def token_IsName.f (k : Nat) (a0 : Zb) : Option (Bool) := if a0.toList = ([] : List UInt8) then (token_IsName.j0 k a0 true) else (if (a0.size : Int) > 24 then (token_IsName.j0 k a0 true) else (if 0 < (a0.size : Int) then ((token_letter.f (bt a0 0)).bind fun t102 => (token_IsName.j0 k a0 (!t102))) else (none)))
theorem token_IsName.calls (k : Nat) (a0 : Zb) (r : Bool) (w : World) (h : token_IsName.f k a0 = some r) :
 Calls Tryz.prog 82 #[.string a0] w fun e w' => e = .returned (.bool r) ∧ Below w.heap.size w w' := by
 have HB := Qa (Below.refl w.heap.size w)
 have H : (if a0.toList = ([] : List UInt8) then (token_IsName.j0 k a0 true) else (if (a0.size : Int) > 24 then (token_IsName.j0 k a0 true) else (if 0 < (a0.size : Int) then ((token_letter.f (bt a0 0)).bind fun t102 => (token_IsName.j0 k a0 (!t102))) else (none)))) = some r := h
 clear h
 have HC2 := Qa H
 clear H
 go_enter Tryz.func82, Tryz.ntmps82
 go_upto_region 1 with (fail)
 go_cut [16] (fun v16 wc => ∃ (kq : Nat) (x16_1 : Bool), v16 = .bool x16_1 ∧ Aside0 (token_IsName.j0 kq a0 x16_1 = some r) ∧ Aside0 (kq ≤ k) ∧ Aside0 (Below w.heap.size w wc))
 case first =>
  have H := HC2.out
  clear HC2
  by_cases c3 : a0.toList = ([] : List UInt8)
  · rw [if_pos c3] at H
    have c3b0 : (a0.toList == ([] : List UInt8)) = true := Yb.mpr c3
    have c3b1 : (a0.toList != ([] : List UInt8)) = false := bne_eq_false_iff_eq.mpr c3
    clear c3
    (first | rw [c3b0] | (simp only [i64_w, i32_w]; rw [c3b0]) | skip)
    have H' := Qa H
    clear H
    go_wp2
    go_meet
    case rel => exact ⟨_, (true), (by first | rfl | (simp; done) | (simp [*]; done)), H', ⟨by first | omega | exact Nat.le_refl _⟩, ⟨bl HB.out⟩⟩
  rw [if_neg c3] at H
  have c3b0 : (a0.toList == ([] : List UInt8)) = false := Ya.mpr c3
  have c3b1 : (a0.toList != ([] : List UInt8)) = true := Yc.mpr c3
  (first | rw [c3b0] | (simp only [i64_w, i32_w]; rw [c3b0]) | skip)
  by_cases c4 : (a0.size : Int) > 24
  · rw [if_pos c4] at H
    have c4b0 : decide (24 < (a0.size : Int)) = true := Xq c4
    have c4b1 : decide (24 < a0.size) = true := Xq (by omega)
    clear c4
    have H' := Qa H
    clear H
    go_wp2
    go_meet
    case rel => exact ⟨_, (true), (by first | rfl | (simp; done) | (simp [*]; done)), H', ⟨by first | omega | exact Nat.le_refl _⟩, ⟨bl HB.out⟩⟩
  rw [if_neg c4] at H
  have c4b0 : decide (24 < (a0.size : Int)) = false := Xr c4
  have c4b1 : decide (24 < a0.size) = false := Xr (by omega)
  clear c4
  by_cases c5 : 0 < (a0.size : Int)
  · rw [if_pos c5] at H
    have c5b0 : decide (0 < (a0.size : Int)) = true := Xq c5
    have c5b1 : decide (0 < a0.size) = true := Xq (by omega)
    clear c5
    replace H := Xx.mp H
    obtain ⟨t102, A70, H⟩ := H
    replace H : (token_IsName.j0 k a0 (!t102)) = some r := H
    have A7 := Qa A70
    clear A70
    have H' := Qa H
    clear H
    have p6 : 0 ≤ (0 : Int) := (by omega)
    have q6 : 0 < a0.size := (by have : (0 : Int) < (a0.size : Int) := Xp (by assumption); omega)
    have hx6 : ∀ h : 0 < a0.size, ((a0[0]'h).toNat : Int) = bt a0 0 := bt_at a0 0
    clear p6
    have qi6 : (0 < (a0.size : Int)) = True := eq_true (Xp (by assumption))
    replace q6 := eq_true q6
    go_wp2_with (first | (go_at_call 94; (with_reducible refine (token_letter.calls (bt a0 0) t102 _ A7.out).mono ?_); rintro e w' ⟨rfl, ⟨nd, rfl⟩⟩))
    go_meet
    case rel => exact ⟨_, (!t102), (by first | rfl | (simp; done) | (simp [*]; done)), H', ⟨by first | omega | exact Nat.le_refl _⟩, ⟨bl HB.out⟩⟩
  rw [if_neg c5] at H
  exact absurd H (by simp)
 case rest =>
  clear HC2
  try clear p2
  try clear c3
  try clear c3b0
  try clear c3b1
  try clear c4
  try clear c4b0
  try clear c4b1
  try clear c5
  try clear c5b0
  try clear c5b1
  try clear p6
  try clear q6
  try clear hx6
  try clear qi6
  try clear p6
  try clear q6
  obtain ⟨kq, x16_1, rfl, HA, HJ1, HB⟩ := hcut
  cases kq with
  | zero => exact absurd HA.out (by simp [token_IsName.j0])
  | succ kj1 =>
   have H := HA.out
   clear HA
   simp only [token_IsName.j0] at H
   by_cases c8 : x16_1 = true
   · subst c8
     have H1 : (some false) = some r := by rw [if_pos rfl] at H; exact H
     clear H
     have H := H1
     clear H1
     obtain rfl := Xz H
     go_wp2
     go_ret
     exact ⟨by first | rfl | (simp [errW_none, errW_some] <;> rfl) | (simp [*, errW_none, errW_some] <;> rfl), bl HB.out⟩
   replace c8 := Bool.eq_false_iff.mpr c8
   subst c8
   have H1 : (token_IsName.l0 kj1 a0 (a0.size : Int) 0) = some r := by rw [if_neg (show ¬ (false = true) by decide)] at H; exact H
   clear H
   have H := H1
   clear H1
   have H' := Qa H
   clear H
   go_wp2
   go_loopg [19] kj1 (fun kq v19 w' => ∃ (x19_2 : Int), v19 = .int .i64 x19_2 ∧ Aside0 (token_IsName.l0 kq a0 (a0.size : Int) x19_2 = some r) ∧ Aside0 (kq ≤ kj1) ∧ Aside0 (Below w.heap.size w w'))
   case atStart => exact ⟨(0), (by first | rfl | (simp; done) | (simp [*]; done)), H', ⟨Nat.le_refl _⟩, ⟨bl HB.out⟩⟩
   case round =>
    clear H'
    try clear p2
    try clear c3
    try clear c3b0
    try clear c3b1
    try clear c4
    try clear c4b0
    try clear c4b1
    try clear c5
    try clear c5b0
    try clear c5b1
    try clear p6
    try clear q6
    try clear hx6
    try clear qi6
    try clear c8
    try clear p2
    try clear p6
    try clear q6
    obtain ⟨x19_2, rfl, HA, HK2, HB⟩ := hrel
    cases gk with
    | zero => exact absurd HA.out (by simp [token_IsName.l0])
    | succ k2 =>
     have H := HA.out
     clear HA
     simp only [token_IsName.l0] at H
     by_cases c9 : x19_2 < (a0.size : Int)
     · rw [if_pos c9] at H
       have c9b0 : decide (x19_2 < (a0.size : Int)) = true := Xq c9
       clear c9
       have HC10 := Qa H
       clear H
       go_upto_region 6 with (fail)
       go_cut [39] (fun v39 wc => ∃ (kq : Nat) (x39_9 : Bool), v39 = .bool x39_9 ∧ Aside0 (token_IsName.j2 kq a0 (a0.size : Int) x19_2 x39_9 = some r) ∧ Aside0 (kq ≤ k2) ∧ Aside0 (Below w.heap.size w wc))
       case first =>
        have H := HC10.out
        clear HC10
        by_cases c11 : 0 ≤ x19_2
        · rw [if_pos c11] at H
          have c11b0 : decide (0 ≤ x19_2) = true := Xq c11
          clear c11
          (first | rw [c11b0] | (simp only [i64_w, i32_w]; rw [c11b0]) | skip)
          by_cases c12 : x19_2 < (a0.size : Int)
          · rw [if_pos c12] at H
            have c12b0 : decide (x19_2 < (a0.size : Int)) = true := Xq c12
            clear c12
            replace H := Xx.mp H
            obtain ⟨t104, A140, H⟩ := H
            replace H : (if t104 = true then (token_IsName.j2 k2 a0 (a0.size : Int) x19_2 false) else ((token_digit.f (bt a0 x19_2)).bind fun t105 => (if t105 = true then (token_IsName.j2 k2 a0 (a0.size : Int) x19_2 false) else (token_IsName.j2 k2 a0 (a0.size : Int) x19_2 ((bt a0 x19_2) != 95))))) = some r := H
            have A14 := Qa A140
            clear A140
            by_cases c15 : t104 = true
            · subst c15
              have H1 : (token_IsName.j2 k2 a0 (a0.size : Int) x19_2 false) = some r := by rw [if_pos rfl] at H; exact H
              clear H
              have H := H1
              clear H1
              have H' := Qa H
              clear H
              have p13 : 0 ≤ (x19_2 : Int) := Xp (by assumption)
              have q13 : x19_2 < (a0.size : Int) := Xp (by assumption)
              have hx13 := bt_at a0 x19_2
              replace p13 := eq_true p13
              replace q13 := eq_true q13
              go_wp2_with (first | ((with_reducible refine Qw (f := 94) rfl ?_); refine gc (some 25) Tryz.func94 #[.int .u8 (bt a0 x19_2)] ?_; (with_reducible refine (token_letter.calls (bt a0 x19_2) true _ A14.out).mono ?_); rintro e w' ⟨rfl, ⟨nd, rfl⟩⟩; refine ⟨_, rfl, ?_⟩))
              go_meet
              case rel => exact ⟨_, (false), (by first | rfl | (simp; done) | (simp [*]; done)), H', ⟨by have := HJ1.out; have := HK2.out; first | omega | exact Nat.le_refl _⟩, ⟨bl HB.out⟩⟩
            replace c15 := Bool.eq_false_iff.mpr c15
            subst c15
            have H1 : ((token_digit.f (bt a0 x19_2)).bind fun t105 => (if t105 = true then (token_IsName.j2 k2 a0 (a0.size : Int) x19_2 false) else (token_IsName.j2 k2 a0 (a0.size : Int) x19_2 ((bt a0 x19_2) != 95)))) = some r := by rw [if_neg (show ¬ (false = true) by decide)] at H; exact H
            clear H
            have H := H1
            clear H1
            replace H := Xx.mp H
            obtain ⟨t105, A170, H⟩ := H
            replace H : (if t105 = true then (token_IsName.j2 k2 a0 (a0.size : Int) x19_2 false) else (token_IsName.j2 k2 a0 (a0.size : Int) x19_2 ((bt a0 x19_2) != 95))) = some r := H
            have A17 := Qa A170
            clear A170
            by_cases c18 : t105 = true
            · subst c18
              have H1 : (token_IsName.j2 k2 a0 (a0.size : Int) x19_2 false) = some r := by rw [if_pos rfl] at H; exact H
              clear H
              have H := H1
              clear H1
              have H' := Qa H
              clear H
              have p13 : 0 ≤ (x19_2 : Int) := Xp (by assumption)
              have q13 : x19_2 < (a0.size : Int) := Xp (by assumption)
              have hx13 := bt_at a0 x19_2
              replace p13 := eq_true p13
              replace q13 := eq_true q13
              go_wp2_with (first | ((with_reducible refine Qw (f := 94) rfl ?_); refine gc (some 25) Tryz.func94 #[.int .u8 (bt a0 x19_2)] ?_; (with_reducible refine (token_letter.calls (bt a0 x19_2) false _ A14.out).mono ?_); rintro e w' ⟨rfl, ⟨nd, rfl⟩⟩; refine ⟨_, rfl, ?_⟩; have p16 : 0 ≤ (x19_2 : Int) := Xp (by assumption); have q16 : x19_2 < (a0.size : Int) := Xp (by assumption); have hx16 := bt_at a0 x19_2; replace p16 := eq_true p16; replace q16 := eq_true q16) | (go_at_call 95; (with_reducible refine (token_digit.calls (bt a0 x19_2) true _ A17.out).mono ?_); rintro e w' ⟨rfl, ⟨nd, rfl⟩⟩))
              go_meet
              case rel => exact ⟨_, (false), (by first | rfl | (simp; done) | (simp [*]; done)), H', ⟨by have := HJ1.out; have := HK2.out; first | omega | exact Nat.le_refl _⟩, ⟨bl HB.out⟩⟩
            replace c18 := Bool.eq_false_iff.mpr c18
            subst c18
            have H1 : (token_IsName.j2 k2 a0 (a0.size : Int) x19_2 ((bt a0 x19_2) != 95)) = some r := by rw [if_neg (show ¬ (false = true) by decide)] at H; exact H
            clear H
            have H := H1
            clear H1
            have H' := Qa H
            clear H
            have p13 : 0 ≤ (x19_2 : Int) := Xp (by assumption)
            have q13 : x19_2 < (a0.size : Int) := Xp (by assumption)
            have hx13 := bt_at a0 x19_2
            replace p13 := eq_true p13
            replace q13 := eq_true q13
            go_wp2_with (first | ((with_reducible refine Qw (f := 94) rfl ?_); refine gc (some 25) Tryz.func94 #[.int .u8 (bt a0 x19_2)] ?_; (with_reducible refine (token_letter.calls (bt a0 x19_2) false _ A14.out).mono ?_); rintro e w' ⟨rfl, ⟨nd, rfl⟩⟩; refine ⟨_, rfl, ?_⟩; have p16 : 0 ≤ (x19_2 : Int) := Xp (by assumption); have q16 : x19_2 < (a0.size : Int) := Xp (by assumption); have hx16 := bt_at a0 x19_2; replace p16 := eq_true p16; replace q16 := eq_true q16) | (go_at_call 95; (with_reducible refine (token_digit.calls (bt a0 x19_2) false _ A17.out).mono ?_); rintro e w' ⟨rfl, ⟨nd, rfl⟩⟩; have p19 : 0 ≤ (x19_2 : Int) := Xp (by assumption); have q19 : x19_2 < (a0.size : Int) := Xp (by assumption); have hx19 := bt_at a0 x19_2; replace p19 := eq_true p19; replace q19 := eq_true q19))
            go_meet
            case rel => exact ⟨_, (((bt a0 x19_2) != 95)), (by first | rfl | (simp; done) | (simp [*]; done)), H', ⟨by have := HJ1.out; have := HK2.out; first | omega | exact Nat.le_refl _⟩, ⟨bl HB.out⟩⟩
          rw [if_neg c12] at H
          exact absurd H (by simp)
        rw [if_neg c11] at H
        exact absurd H (by simp)
       case rest =>
        clear HC10
        try clear c1
        try clear p1
        try clear q1
        try clear hx1
        try clear p2
        try clear c3
        try clear c3b0
        try clear c3b1
        try clear c4
        try clear c4b0
        try clear c4b1
        try clear c5
        try clear c5b0
        try clear c5b1
        try clear p6
        try clear q6
        try clear hx6
        try clear qi6
        try clear c8
        try clear c9
        try clear c9b0
        try clear c11
        try clear c11b0
        try clear c12
        try clear c12b0
        try clear p13
        try clear q13
        try clear hx13
        try clear c15
        try clear p16
        try clear q16
        try clear hx16
        try clear c18
        try clear p19
        try clear q19
        try clear hx19
        try clear p13
        try clear p16
        try clear p19
        try clear p2
        try clear p6
        try clear q13
        try clear q16
        try clear q19
        try clear q6
        obtain ⟨kq, x39_9, rfl, HA, HJ9, HB⟩ := hcut
        cases kq with
        | zero => exact absurd HA.out (by simp [token_IsName.j2])
        | succ kj9 =>
         have H := HA.out
         clear HA
         simp only [token_IsName.j2] at H
         by_cases c20 : x39_9 = true
         · subst c20
           have H1 : (some false) = some r := by rw [if_pos rfl] at H; exact H
           clear H
           have H := H1
           clear H1
           obtain rfl := Xz H
           go_wp2
           go_ret
           exact ⟨by first | rfl | (simp [errW_none, errW_some] <;> rfl) | (simp [*, errW_none, errW_some] <;> rfl), bl HB.out⟩
         replace c20 := Bool.eq_false_iff.mpr c20
         subst c20
         have H1 : (token_IsName.l0 kj9 a0 (a0.size : Int) (wrap64 (x19_2 + 1))) = some r := by rw [if_neg (show ¬ (false = true) by decide)] at H; exact H
         clear H
         have H := H1
         clear H1
         have H' := Qa H
         clear H
         go_wp2
         go_roundg kj9
         case measure => have := HJ1.out; have := HK2.out; have := HJ9.out; omega
         case rel => exact ⟨(wrap64 (x19_2 + 1)), (by first | rfl | (simp; done) | (simp [*]; done)), H', ⟨by have := HJ1.out; have := HK2.out; have := HJ9.out; omega⟩, ⟨bl HB.out⟩⟩
     rw [if_neg c9] at H
     have c9b0 : decide (x19_2 < (a0.size : Int)) = false := Xr c9
     clear c9
     replace H := Xx.mp H
     obtain ⟨t103, A210, H⟩ := H
     replace H : (some (!t103)) = some r := H
     have A21 := Qa A210
     clear A210
     obtain rfl := Xz H
     go_wp2_with (first | ((with_reducible refine Qw (f := 96) rfl ?_); refine gc (some 42) Tryz.func96 #[.string a0] ?_; (with_reducible refine (token_IsKeyword.calls a0 t103 _ A21.out).mono ?_); rintro e w22 ⟨rfl, hb⟩; refine ⟨_, rfl, ?_⟩; have n0_ := Qa (Qh (bl HB.out) hb); clear HB; have HB := n0_; clear n0_; (try clear hb)))
     go_ret
     exact ⟨by first | rfl | (simp [errW_none, errW_some] <;> rfl) | (simp [*, errW_none, errW_some] <;> rfl), bl HB.out⟩
def payslip_form.j0 : Nat → Bool → Int → Zb → Int → Option (Bool)
 | 0, _, _, _, _ => none
 | k + 1, x16, x107000, x107001, x107002 => if x16 = true then (some false) else ((payslip_coded.f x107000).bind fun t108 => (if t108 = true then ((token_IsName.f k x107001).bind fun t109 => (some t109)) else (some (x107001.toList == ([] : List UInt8)))))
def payslip_form.f (k : Nat) (a0_0 : Int) (a0_1 : Zb) (a0_2 : Int) : Option (Bool) := if a0_0 < 1 then (payslip_form.j0 k true a0_0 a0_1 a0_2) else (if a0_0 > 10 then (payslip_form.j0 k true a0_0 a0_1 a0_2) else ((payslip_total.f a0_2).bind fun t107 => (payslip_form.j0 k (!t107) a0_0 a0_1 a0_2)))
theorem payslip_form.calls (k : Nat) (a0_0 : Int) (a0_1 : Zb) (a0_2 : Int) (r : Bool) (w : World) (h : payslip_form.f k a0_0 a0_1 a0_2 = some r) :
 Calls Tryz.prog 65 #[.agg #[.int .i64 a0_0, .string a0_1, .int .i64 a0_2]] w fun e w' => e = .returned (.bool r) ∧ Below w.heap.size w w' := by
 have hu60 := Tryz.underlying60
 have HB := Qa (Below.refl w.heap.size w)
 have H : (if a0_0 < 1 then (payslip_form.j0 k true a0_0 a0_1 a0_2) else (if a0_0 > 10 then (payslip_form.j0 k true a0_0 a0_1 a0_2) else ((payslip_total.f a0_2).bind fun t107 => (payslip_form.j0 k (!t107) a0_0 a0_1 a0_2)))) = some r := h
 clear h
 have HC2 := Qa H
 clear H
 go_enter Tryz.func65, Tryz.ntmps65
 go_upto_region 1 with (first | ((with_reducible refine Qx (N := 1) rfl ?_); refine Qv ?hg (N := 1) ?hd (cs := #[.int .i64 a0_0, .string a0_1, .int .i64 a0_2]) (t := 60) ?hr ?_; (case hd => rfl); (case hg => rfl); (case hr => first | (go_simp; done) | (go_simp; rfl)); intro gb106 hg w3 hbox hb; have n0_ := Qa (Qh (bl HB.out) hb); have n1_ := Qa (hbox); have n2_ := Qa ((by rw [hg]; exact (Qi (bl HB.out)) : w.heap.size ≤ gb106)); have n3_ := Qa ((by rw [hg]; exact (Qi (bl HB.out)) : w.heap.size ≤ gb106)); clear HB; have HB := n0_; have BK106 := n1_; have GW106 := n2_; have GE106 := n3_; clear n0_ n1_ n2_ n3_; clear hb hbox hg))
 (try simp only [Act.put, Xt, Xu, Xv])
 go_cut [16] (fun v16 wc => ∃ (kq : Nat) (x16_1 : Bool), v16 = .bool x16_1 ∧ Aside0 (payslip_form.j0 kq x16_1 a0_0 a0_1 a0_2 = some r) ∧ Aside0 (kq ≤ k) ∧ Aside0 (wc.heap[gb106]? = some (.cells #[.int .i64 a0_0, .string a0_1, .int .i64 a0_2] 60 (0,0))) ∧ Aside0 (Below w.heap.size w wc))
 case first =>
  have H := HC2.out
  clear HC2
  by_cases c4 : a0_0 < 1
  · rw [if_pos c4] at H
    have c4b0 : decide (a0_0 < 1) = true := Xq c4
    clear c4
    (first | rw [c4b0] | (simp only [i64_w, i32_w]; rw [c4b0]) | skip)
    have H' := Qa H
    clear H
    have hcz5_0 := hz BK106.out 0
    have hcz5_1 := hz BK106.out 1
    have hcz5_2 := hz BK106.out 2
    have hfz5_0 := Qm BK106.out 0
    have hfz5_1 := Qm BK106.out 1
    have hfz5_2 := Qm BK106.out 2
    go_wp2
    go_meet
    case rel => exact ⟨_, (true), (by first | rfl | (simp; done) | (simp [*]; done)), H', ⟨by first | omega | exact Nat.le_refl _⟩, ⟨nc BK106.out⟩, ⟨bl HB.out⟩⟩
  rw [if_neg c4] at H
  have c4b0 : decide (a0_0 < 1) = false := Xr c4
  clear c4
  (first | rw [c4b0] | (simp only [i64_w, i32_w]; rw [c4b0]) | skip)
  by_cases c6 : a0_0 > 10
  · rw [if_pos c6] at H
    have c6b0 : decide (10 < a0_0) = true := Xq c6
    clear c6
    have H' := Qa H
    clear H
    have hcz7_0 := hz BK106.out 0
    have hcz7_1 := hz BK106.out 1
    have hcz7_2 := hz BK106.out 2
    have hfz7_0 := Qm BK106.out 0
    have hfz7_1 := Qm BK106.out 1
    have hfz7_2 := Qm BK106.out 2
    go_wp2
    go_meet
    case rel => exact ⟨_, (true), (by first | rfl | (simp; done) | (simp [*]; done)), H', ⟨by first | omega | exact Nat.le_refl _⟩, ⟨nc BK106.out⟩, ⟨bl HB.out⟩⟩
  rw [if_neg c6] at H
  have c6b0 : decide (10 < a0_0) = false := Xr c6
  clear c6
  replace H := Xx.mp H
  obtain ⟨t107, A80, H⟩ := H
  replace H : (payslip_form.j0 k (!t107) a0_0 a0_1 a0_2) = some r := H
  have A8 := Qa A80
  clear A80
  have H' := Qa H
  clear H
  have hcz9_0 := hz BK106.out 0
  have hcz9_1 := hz BK106.out 1
  have hcz9_2 := hz BK106.out 2
  have hfz9_0 := Qm BK106.out 0
  have hfz9_1 := Qm BK106.out 1
  have hfz9_2 := Qm BK106.out 2
  go_wp2_with (first | (go_at_call 80; (with_reducible refine (payslip_total.calls a0_2 t107 _ A8.out).mono ?_); rintro e w' ⟨rfl, ⟨nd, rfl⟩⟩))
  go_meet
  case rel => exact ⟨_, (!t107), (by first | rfl | (simp; done) | (simp [*]; done)), H', ⟨by first | omega | exact Nat.le_refl _⟩, ⟨nc BK106.out⟩, ⟨bl HB.out⟩⟩
 case rest =>
  clear HC2
  try clear p2
  try clear c4
  try clear c4b0
  try clear c6
  try clear c6b0
  try clear hcz5_0
  try clear hcz5_1
  try clear hcz5_2
  try clear hcz7_0
  try clear hcz7_1
  try clear hcz7_2
  try clear hcz9_0
  try clear hcz9_1
  try clear hcz9_2
  try clear hfz5_0
  try clear hfz5_1
  try clear hfz5_2
  try clear hfz7_0
  try clear hfz7_1
  try clear hfz7_2
  try clear hfz9_0
  try clear hfz9_1
  try clear hfz9_2
  obtain ⟨kq, x16_1, rfl, HA, HJ1, BK106, HB⟩ := hcut
  cases kq with
  | zero => exact absurd HA.out (by simp [payslip_form.j0])
  | succ kj1 =>
   have H := HA.out
   clear HA
   simp only [payslip_form.j0] at H
   by_cases c10 : x16_1 = true
   · subst c10
     have H1 : (some false) = some r := by rw [if_pos rfl] at H; exact H
     clear H
     have H := H1
     clear H1
     obtain rfl := Xz H
     go_wp2
     go_ret
     exact ⟨by first | rfl | (simp [errW_none, errW_some] <;> rfl) | (simp [*, errW_none, errW_some] <;> rfl), bl HB.out⟩
   replace c10 := Bool.eq_false_iff.mpr c10
   subst c10
   have H1 : ((payslip_coded.f a0_0).bind fun t108 => (if t108 = true then ((token_IsName.f kj1 a0_1).bind fun t109 => (some t109)) else (some (a0_1.toList == ([] : List UInt8))))) = some r := by rw [if_neg (show ¬ (false = true) by decide)] at H; exact H
   clear H
   have H := H1
   clear H1
   replace H := Xx.mp H
   obtain ⟨t108, A110, H⟩ := H
   replace H : (if t108 = true then ((token_IsName.f kj1 a0_1).bind fun t109 => (some t109)) else (some (a0_1.toList == ([] : List UInt8)))) = some r := H
   have A11 := Qa A110
   clear A110
   by_cases c12 : t108 = true
   · subst c12
     have H1 : ((token_IsName.f kj1 a0_1).bind fun t109 => (some t109)) = some r := by rw [if_pos rfl] at H; exact H
     clear H
     have H := H1
     clear H1
     replace H := Xx.mp H
     obtain ⟨t109, A130, H⟩ := H
     replace H : (some t109) = some r := H
     have A13 := Qa A130
     clear A130
     obtain rfl := Xz H
     have hcz14_0 := hz BK106.out 0
     have hcz14_1 := hz BK106.out 1
     have hcz14_2 := hz BK106.out 2
     have hfz14_0 := Qm BK106.out 0
     have hfz14_1 := Qm BK106.out 1
     have hfz14_2 := Qm BK106.out 2
     go_wp2_with (first | ((with_reducible refine Qw (f := 81) rfl ?_); refine gc (some 19) Tryz.func81 #[.int .i64 a0_0] ?_; (with_reducible refine (payslip_coded.calls a0_0 true _ A11.out).mono ?_); rintro e w' ⟨rfl, ⟨nd, rfl⟩⟩; refine ⟨_, rfl, ?_⟩) | ((with_reducible refine Qw (f := 82) rfl ?_); refine gc (some 22) Tryz.func82 #[.string a0_1] ?_; (with_reducible refine (token_IsName.calls kj1 a0_1 t109 _ A13.out).mono ?_); rintro e w15 ⟨rfl, hb⟩; refine ⟨_, rfl, ?_⟩; have n0_ := Qa (Qb (nc BK106.out) hb); have n1_ := Qa (Qh (bl HB.out) hb); clear BK106 HB; have BK106 := n0_; have HB := n1_; clear n0_ n1_; (try clear hb)))
     go_ret
     exact ⟨by first | rfl | (simp [errW_none, errW_some] <;> rfl) | (simp [*, errW_none, errW_some] <;> rfl), bl HB.out⟩
   replace c12 := Bool.eq_false_iff.mpr c12
   subst c12
   have H1 : (some (a0_1.toList == ([] : List UInt8))) = some r := by rw [if_neg (show ¬ (false = true) by decide)] at H; exact H
   clear H
   have H := H1
   clear H1
   obtain rfl := Xz H
   have hcz16_0 := hz BK106.out 0
   have hcz16_1 := hz BK106.out 1
   have hcz16_2 := hz BK106.out 2
   have hfz16_0 := Qm BK106.out 0
   have hfz16_1 := Qm BK106.out 1
   have hfz16_2 := Qm BK106.out 2
   go_wp2_with (first | ((with_reducible refine Qw (f := 81) rfl ?_); refine gc (some 19) Tryz.func81 #[.int .i64 a0_0] ?_; (with_reducible refine (payslip_coded.calls a0_0 false _ A11.out).mono ?_); rintro e w' ⟨rfl, ⟨nd, rfl⟩⟩; refine ⟨_, rfl, ?_⟩))
   go_ret
   exact ⟨by first | rfl | (simp [errW_none, errW_some] <;> rfl) | (simp [*, errW_none, errW_some] <;> rfl), bl HB.out⟩
end Go.Proofs.YtejgfblphgcgkaaGreatDoor.P
