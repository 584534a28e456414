/- Texts for the law FilingDecodes (kept out of a larger one). -/
import Derived.Test.YtejgfblphgcgkaaGreatDoorZFilingDecodes12
namespace Go.Proofs.YtejgfblphgcgkaaGreatDoor.P
open Go.RowKit Go.Proofs.YtejgfblphgcgkaaGreatDoorW.PrintWords Go.Proofs.YtejgfblphgcgkaaGreatDoorW.PrintLast Go.Proofs.YtejgfblphgcgkaaGreatDoorW.PrintMore
attribute [local go_sem] max2_int min2_int max_two min_two max_three min_three max_four min_four   -- for this text's walks alone
set_option linter.unusedVariables false
set_option maxHeartbeats 8000000
set_option maxRecDepth 100000
set_option linter.unusedSimpArgs false
mutual
def payrollref17_word.j0 : Nat → Zb → Int → Bool → Option (Int)
 | 0, _, _, _ => none
 | k + 1, x0, x1, x15 => if x15 = true then (some x1) else (payrollref17_word.l0 k x0 x1)
def payrollref17_word.l0 : Nat → Zb → Int → Option (Int)
 | 0, _, _ => none
 | k + 1, x0, x1 => if x1 < (x0.size : Int) then (if 0 ≤ x1 then ((payrollref17_lower.f (bt x0 x1)).bind fun t299 => (if t299 = true then (payrollref17_word.j2 k x0 x1 true) else ((payrollref17_digit.f (bt x0 x1)).bind fun t300 => (if t300 = true then (payrollref17_word.j2 k x0 x1 true) else (payrollref17_word.j2 k x0 x1 ((bt x0 x1) == 95)))))) else (none)) else (payrollref17_word.j2 k x0 x1 false)
def payrollref17_word.j2 : Nat → Zb → Int → Bool → Option (Int)
 | 0, _, _, _ => none
 | k + 1, x0, x1, x38 => if x38 = true then (payrollref17_word.l0 k x0 (wrap64 (x1 + 1))) else (some x1)
end
def payrollref17_word.f (k : Nat) (a0 : Zb) (a1 : Int) : Option (Int) := if a1 ≥ (a0.size : Int) then (payrollref17_word.j0 k a0 a1 true) else (if 0 ≤ a1 then (if a1 < (a0.size : Int) then ((payrollref17_lower.f (bt a0 a1)).bind fun t298 => (payrollref17_word.j0 k a0 a1 (!t298))) else (none)) else (none))
theorem payrollref17_word.calls (k : Nat) (a0 : Zb) (a1 : Int) (r : Int) (w : World) (h : payrollref17_word.f k a0 a1 = some r) :
 Calls Tryz.prog 127 #[.string a0, .int .i64 a1] w fun e w' => e = .returned (.int .i64 r) ∧ Drawn0 w w' := by
 have H : (if a1 ≥ (a0.size : Int) then (payrollref17_word.j0 k a0 a1 true) else (if 0 ≤ a1 then (if a1 < (a0.size : Int) then ((payrollref17_lower.f (bt a0 a1)).bind fun t298 => (payrollref17_word.j0 k a0 a1 (!t298))) else (none)) else (none))) = some r := h
 clear h
 have HC3 := Qa H
 clear H
 go_enter Tryz.func127, Tryz.ntmps127
 go_upto_region 1 with (fail)
 go_cut [15] (fun v15 wc => ∃ (kq : Nat) (x15_2 : Bool), v15 = .bool x15_2 ∧ Aside0 (payrollref17_word.j0 kq a0 a1 x15_2 = some r) ∧ Aside0 (kq ≤ k) ∧ Drawn0 w wc)
 case first =>
  have H := HC3.out
  clear HC3
  by_cases c4 : a1 ≥ (a0.size : Int)
  · rw [if_pos c4] at H
    have c4b0 : decide ((a0.size : Int) ≤ a1) = true := Xq c4
    clear c4
    (first | rw [c4b0] | (simp only [i64_w, i32_w]; rw [c4b0]) | skip)
    have H' := Qa H
    clear H
    go_wp2
    go_meet
    case rel => exact ⟨_, (true), (by first | rfl | (simp; done) | (simp [*]; done)), H', ⟨by first | omega | exact Nat.le_refl _⟩, by repeat (first | exact Drawn0.refl _ | apply Drawn0.step)⟩
  rw [if_neg c4] at H
  have c4b0 : decide ((a0.size : Int) ≤ a1) = false := Xr c4
  clear c4
  (first | rw [c4b0] | (simp only [i64_w, i32_w]; rw [c4b0]) | skip)
  by_cases c5 : 0 ≤ a1
  · rw [if_pos c5] at H
    have c5b0 : decide (0 ≤ a1) = true := Xq c5
    clear c5
    by_cases c6 : a1 < (a0.size : Int)
    · rw [if_pos c6] at H
      have c6b0 : decide (a1 < (a0.size : Int)) = true := Xq c6
      clear c6
      replace H := Xx.mp H
      obtain ⟨t298, A80, H⟩ := H
      replace H : (payrollref17_word.j0 k a0 a1 (!t298)) = some r := H
      have A8 := Qa A80
      clear A80
      have H' := Qa H
      clear H
      have p7 : 0 ≤ (a1 : Int) := Xp (by assumption)
      have q7 : a1 < (a0.size : Int) := Xp (by assumption)
      have hx7 := bt_at a0 a1
      replace p7 := eq_true p7
      replace q7 := eq_true q7
      go_wp2_with (first | (go_at_call 144; (with_reducible refine (payrollref17_lower.calls (bt a0 a1) t298 _ A8.out).mono ?_); rintro e w' ⟨rfl, ⟨nd, rfl⟩⟩))
      go_meet
      case rel => exact ⟨_, (!t298), (by first | rfl | (simp; done) | (simp [*]; done)), H', ⟨by first | omega | exact Nat.le_refl _⟩, by repeat (first | exact Drawn0.refl _ | apply Drawn0.step)⟩
    rw [if_neg c6] at H
    exact absurd H (by simp)
  rw [if_neg c5] at H
  exact absurd H (by simp)
 case rest =>
  clear HC3
  try clear c1
  try clear p2
  try clear c4
  try clear c4b0
  try clear c5
  try clear c5b0
  try clear c6
  try clear c6b0
  try clear p7
  try clear q7
  try clear hx7
  try clear p7
  try clear q7
  obtain ⟨kq, x15_2, rfl, HA, HJ2, ⟨mc2, rfl⟩⟩ := hcut
  cases kq with
  | zero => exact absurd HA.out (by simp [payrollref17_word.j0])
  | succ kj2 =>
   have H := HA.out
   clear HA
   simp only [payrollref17_word.j0] at H
   by_cases c9 : x15_2 = true
   · subst c9
     have H1 : (some a1) = some r := by rw [if_pos rfl] at H; exact H
     clear H
     have H := H1
     clear H1
     obtain rfl := Xz H
     go_wp2
     go_ret
     exact ⟨by first | rfl | (simp; done) | (simp [*]; done), by repeat (first | exact Drawn0.refl _ | apply Drawn0.step)⟩
   replace c9 := Bool.eq_false_iff.mpr c9
   subst c9
   have H1 : (payrollref17_word.l0 kj2 a0 a1) = some r := by rw [if_neg (show ¬ (false = true) by decide)] at H; exact H
   clear H
   have H := H1
   clear H1
   have H' := Qa H
   clear H
   go_wp2
   go_loopg [1] kj2 (fun kq v1 w' => ∃ (x1_2 : Int), v1 = .int .i64 x1_2 ∧ Aside0 (payrollref17_word.l0 kq a0 x1_2 = some r) ∧ Aside0 (kq ≤ kj2) ∧ Drawn0 w w')
   case atStart => exact ⟨(a1), (by first | rfl | (simp; done) | (simp [*]; done)), H', ⟨Nat.le_refl _⟩, by repeat (first | exact Drawn0.refl _ | apply Drawn0.step)⟩
   case round =>
    clear H'
    try clear c1
    try clear c2
    try clear p2
    try clear c4
    try clear c4b0
    try clear c5
    try clear c5b0
    try clear c6
    try clear c6b0
    try clear p7
    try clear q7
    try clear hx7
    try clear c9
    try clear p2
    try clear p7
    try clear q7
    obtain ⟨x1_2, rfl, HA, HK2, ⟨m2, rfl⟩⟩ := hrel
    cases gk with
    | zero => exact absurd HA.out (by simp [payrollref17_word.l0])
    | succ k2 =>
     have H := HA.out
     clear HA
     simp only [payrollref17_word.l0] at H
     have HC10 := Qa H
     clear H
     go_upto_region 3 with (fail)
     go_cut [38] (fun v38 wc => ∃ (kq : Nat) (x38_9 : Bool), v38 = .bool x38_9 ∧ Aside0 (payrollref17_word.j2 kq a0 x1_2 x38_9 = some r) ∧ Aside0 (kq ≤ k2) ∧ Drawn0 w wc)
     case first =>
      have H := HC10.out
      clear HC10
      by_cases c11 : x1_2 < (a0.size : Int)
      · rw [if_pos c11] at H
        have c11b0 : decide (x1_2 < (a0.size : Int)) = true := Xq c11
        clear c11
        (first | rw [c11b0] | (simp only [i64_w, i32_w]; rw [c11b0]) | skip)
        by_cases c12 : 0 ≤ x1_2
        · rw [if_pos c12] at H
          have c12b0 : decide (0 ≤ x1_2) = true := Xq c12
          clear c12
          replace H := Xx.mp H
          obtain ⟨t299, A140, H⟩ := H
          replace H : (if t299 = true then (payrollref17_word.j2 k2 a0 x1_2 true) else ((payrollref17_digit.f (bt a0 x1_2)).bind fun t300 => (if t300 = true then (payrollref17_word.j2 k2 a0 x1_2 true) else (payrollref17_word.j2 k2 a0 x1_2 ((bt a0 x1_2) == 95))))) = some r := H
          have A14 := Qa A140
          clear A140
          by_cases c15 : t299 = true
          · subst c15
            have H1 : (payrollref17_word.j2 k2 a0 x1_2 true) = some r := by rw [if_pos rfl] at H; exact H
            clear H
            have H := H1
            clear H1
            have H' := Qa H
            clear H
            have p13 : 0 ≤ (x1_2 : Int) := Xp (by assumption)
            have q13 : x1_2 < (a0.size : Int) := Xp (by assumption)
            have hx13 := bt_at a0 x1_2
            replace p13 := eq_true p13
            replace q13 := eq_true q13
            go_wp2_with (first | (go_at_call 144; (with_reducible refine (payrollref17_lower.calls (bt a0 x1_2) true _ A14.out).mono ?_); rintro e w' ⟨rfl, ⟨nd, rfl⟩⟩))
            go_meet
            case rel => exact ⟨_, (true), (by first | rfl | (simp; done) | (simp [*]; done)), H', ⟨by have := HJ2.out; have := HK2.out; first | omega | exact Nat.le_refl _⟩, by repeat (first | exact Drawn0.refl _ | apply Drawn0.step)⟩
          replace c15 := Bool.eq_false_iff.mpr c15
          subst c15
          have H1 : ((payrollref17_digit.f (bt a0 x1_2)).bind fun t300 => (if t300 = true then (payrollref17_word.j2 k2 a0 x1_2 true) else (payrollref17_word.j2 k2 a0 x1_2 ((bt a0 x1_2) == 95)))) = some r := by rw [if_neg (show ¬ (false = true) by decide)] at H; exact H
          clear H
          have H := H1
          clear H1
          replace H := Xx.mp H
          obtain ⟨t300, A170, H⟩ := H
          replace H : (if t300 = true then (payrollref17_word.j2 k2 a0 x1_2 true) else (payrollref17_word.j2 k2 a0 x1_2 ((bt a0 x1_2) == 95))) = some r := H
          have A17 := Qa A170
          clear A170
          by_cases c18 : t300 = true
          · subst c18
            have H1 : (payrollref17_word.j2 k2 a0 x1_2 true) = some r := by rw [if_pos rfl] at H; exact H
            clear H
            have H := H1
            clear H1
            have H' := Qa H
            clear H
            have p13 : 0 ≤ (x1_2 : Int) := Xp (by assumption)
            have q13 : x1_2 < (a0.size : Int) := Xp (by assumption)
            have hx13 := bt_at a0 x1_2
            replace p13 := eq_true p13
            replace q13 := eq_true q13
            go_wp2_with (first | (go_at_call 144; (with_reducible refine (payrollref17_lower.calls (bt a0 x1_2) false _ A14.out).mono ?_); rintro e w' ⟨rfl, ⟨nd, rfl⟩⟩; have p16 : 0 ≤ (x1_2 : Int) := Xp (by assumption); have q16 : x1_2 < (a0.size : Int) := Xp (by assumption); have hx16 := bt_at a0 x1_2; replace p16 := eq_true p16; replace q16 := eq_true q16) | (go_at_call 145; (with_reducible refine (payrollref17_digit.calls (bt a0 x1_2) true _ A17.out).mono ?_); rintro e w' ⟨rfl, ⟨nd, rfl⟩⟩))
            go_meet
            case rel => exact ⟨_, (true), (by first | rfl | (simp; done) | (simp [*]; done)), H', ⟨by have := HJ2.out; have := HK2.out; first | omega | exact Nat.le_refl _⟩, by repeat (first | exact Drawn0.refl _ | apply Drawn0.step)⟩
          replace c18 := Bool.eq_false_iff.mpr c18
          subst c18
          have H1 : (payrollref17_word.j2 k2 a0 x1_2 ((bt a0 x1_2) == 95)) = some r := by rw [if_neg (show ¬ (false = true) by decide)] at H; exact H
          clear H
          have H := H1
          clear H1
          have H' := Qa H
          clear H
          have p13 : 0 ≤ (x1_2 : Int) := Xp (by assumption)
          have q13 : x1_2 < (a0.size : Int) := Xp (by assumption)
          have hx13 := bt_at a0 x1_2
          replace p13 := eq_true p13
          replace q13 := eq_true q13
          go_wp2_with (first | (go_at_call 144; (with_reducible refine (payrollref17_lower.calls (bt a0 x1_2) false _ A14.out).mono ?_); rintro e w' ⟨rfl, ⟨nd, rfl⟩⟩; have p16 : 0 ≤ (x1_2 : Int) := Xp (by assumption); have q16 : x1_2 < (a0.size : Int) := Xp (by assumption); have hx16 := bt_at a0 x1_2; replace p16 := eq_true p16; replace q16 := eq_true q16) | (go_at_call 145; (with_reducible refine (payrollref17_digit.calls (bt a0 x1_2) false _ A17.out).mono ?_); rintro e w' ⟨rfl, ⟨nd, rfl⟩⟩; have p19 : 0 ≤ (x1_2 : Int) := Xp (by assumption); have q19 : x1_2 < (a0.size : Int) := Xp (by assumption); have hx19 := bt_at a0 x1_2; replace p19 := eq_true p19; replace q19 := eq_true q19))
          go_meet
          case rel => exact ⟨_, (((bt a0 x1_2) == 95)), (by first | rfl | (simp; done) | (simp [*]; done)), H', ⟨by have := HJ2.out; have := HK2.out; first | omega | exact Nat.le_refl _⟩, by repeat (first | exact Drawn0.refl _ | apply Drawn0.step)⟩
        rw [if_neg c12] at H
        exact absurd H (by simp)
      rw [if_neg c11] at H
      have c11b0 : decide (x1_2 < (a0.size : Int)) = false := Xr c11
      clear c11
      (first | rw [c11b0] | (simp only [i64_w, i32_w]; rw [c11b0]) | skip)
      have H' := Qa H
      clear H
      go_wp2
      go_meet
      case rel => exact ⟨_, (false), (by first | rfl | (simp; done) | (simp [*]; done)), H', ⟨by have := HJ2.out; have := HK2.out; first | omega | exact Nat.le_refl _⟩, by repeat (first | exact Drawn0.refl _ | apply Drawn0.step)⟩
     case rest =>
      clear HC10
      try clear c1
      try clear p1
      try clear q1
      try clear hx1
      try clear c2
      try clear p2
      try clear c4
      try clear c4b0
      try clear c5
      try clear c5b0
      try clear c6
      try clear c6b0
      try clear p7
      try clear q7
      try clear hx7
      try clear c9
      try clear c11
      try clear c11b0
      try clear c12
      try clear c12b0
      try clear p13
      try clear q13
      try clear hx13
      try clear c15
      try clear p16
      try clear q16
      try clear hx16
      try clear c18
      try clear p19
      try clear q19
      try clear hx19
      try clear p13
      try clear p16
      try clear p19
      try clear p2
      try clear p7
      try clear q13
      try clear q16
      try clear q19
      try clear q7
      obtain ⟨kq, x38_9, rfl, HA, HJ9, ⟨mc9, rfl⟩⟩ := hcut
      cases kq with
      | zero => exact absurd HA.out (by simp [payrollref17_word.j2])
      | succ kj9 =>
       have H := HA.out
       clear HA
       simp only [payrollref17_word.j2] at H
       by_cases c20 : x38_9 = true
       · subst c20
         have H1 : (payrollref17_word.l0 kj9 a0 (wrap64 (x1_2 + 1))) = some r := by rw [if_pos rfl] at H; exact H
         clear H
         have H := H1
         clear H1
         have H' := Qa H
         clear H
         go_wp2
         go_roundg kj9
         case measure => have := HJ2.out; have := HK2.out; have := HJ9.out; omega
         case rel => exact ⟨(wrap64 (x1_2 + 1)), (by first | rfl | (simp; done) | (simp [*]; done)), H', ⟨by have := HJ2.out; have := HK2.out; have := HJ9.out; omega⟩, by repeat (first | exact Drawn0.refl _ | apply Drawn0.step)⟩
       replace c20 := Bool.eq_false_iff.mpr c20
       subst c20
       have H1 : (some x1_2) = some r := by rw [if_neg (show ¬ (false = true) by decide)] at H; exact H
       clear H
       have H := H1
       clear H1
       obtain rfl := Xz H
       go_wp2
       go_ret
       exact ⟨by first | rfl | (simp; done) | (simp [*]; done), by repeat (first | exact Drawn0.refl _ | apply Drawn0.step)⟩
def payrollref17_IsKeyword.l0 : Nat → Zb → List Zb → Int → Option (Bool)
 | 0, _, _, _ => none
 | k + 1, x0, x3, x4 => if x4 < (x3.length : Int) then (if 0 ≤ x4 then (if (rdOf ByteArray.empty x3 x4).toList = x0.toList then (some true) else (payrollref17_IsKeyword.l0 k x0 x3 (wrap64 (x4 + 1)))) else (none)) else (some false)
def payrollref17_IsKeyword.f (k : Nat) (a0 : Zb) : Option (Bool) := payrollref17_IsKeyword.l0 k a0 (([(⟨#[97,103,114,101,101,109,101,110,116]⟩ : Zb), (⟨#[105,110,112,117,116]⟩ : Zb), (⟨#[112,97,115,116]⟩ : Zb), (⟨#[115,99,97,108,101]⟩ : Zb), (⟨#[114,117,108,101]⟩ : Zb), (⟨#[112,97,121]⟩ : Zb), (⟨#[102,114,111,109]⟩ : Zb), (⟨#[114,111,117,110,100,101,100]⟩ : Zb), (⟨#[116,111]⟩ : Zb), (⟨#[105,102]⟩ : Zb), (⟨#[116,104,101,110]⟩ : Zb), (⟨#[101,108,115,101]⟩ : Zb), (⟨#[97,110,100]⟩ : Zb), (⟨#[111,114]⟩ : Zb), (⟨#[110,111,116]⟩ : Zb), (⟨#[116,114,117,101]⟩ : Zb), (⟨#[102,97,108,115,101]⟩ : Zb), (⟨#[109,105,110]⟩ : Zb), (⟨#[109,97,120]⟩ : Zb), (⟨#[114,111,117,110,100]⟩ : Zb), (⟨#[97,118,101,114,97,103,101]⟩ : Zb), (⟨#[108,97,115,116]⟩ : Zb), (⟨#[109,111,110,101,121]⟩ : Zb), (⟨#[104,111,117,114,115]⟩ : Zb), (⟨#[100,97,121,115]⟩ : Zb), (⟨#[110,117,109,98,101,114]⟩ : Zb), (⟨#[98,111,111,108]⟩ : Zb), (⟨#[100,111,119,110]⟩ : Zb), (⟨#[117,112]⟩ : Zb), (⟨#[102,108,111,111,114]⟩ : Zb), (⟨#[99,101,105,108,105,110,103]⟩ : Zb), (⟨#[104,97,108,102,95,117,112]⟩ : Zb), (⟨#[104,97,108,102,95,100,111,119,110]⟩ : Zb), (⟨#[104,97,108,102,95,101,118,101,110]⟩ : Zb)] : List Zb)) 0
theorem payrollref17_IsKeyword.calls (k : Nat) (a0 : Zb) (r : Bool) (w : World) (h : payrollref17_IsKeyword.f k a0 = some r) :
 Calls Tryz.prog 128 #[.string a0] w fun e w' => e = .returned (.bool r) ∧ Below w.heap.size w w' := by
 have HB := Qa (Below.refl w.heap.size w)
 have H : (payrollref17_IsKeyword.l0 k a0 (([(⟨#[97,103,114,101,101,109,101,110,116]⟩ : Zb), (⟨#[105,110,112,117,116]⟩ : Zb), (⟨#[112,97,115,116]⟩ : Zb), (⟨#[115,99,97,108,101]⟩ : Zb), (⟨#[114,117,108,101]⟩ : Zb), (⟨#[112,97,121]⟩ : Zb), (⟨#[102,114,111,109]⟩ : Zb), (⟨#[114,111,117,110,100,101,100]⟩ : Zb), (⟨#[116,111]⟩ : Zb), (⟨#[105,102]⟩ : Zb), (⟨#[116,104,101,110]⟩ : Zb), (⟨#[101,108,115,101]⟩ : Zb), (⟨#[97,110,100]⟩ : Zb), (⟨#[111,114]⟩ : Zb), (⟨#[110,111,116]⟩ : Zb), (⟨#[116,114,117,101]⟩ : Zb), (⟨#[102,97,108,115,101]⟩ : Zb), (⟨#[109,105,110]⟩ : Zb), (⟨#[109,97,120]⟩ : Zb), (⟨#[114,111,117,110,100]⟩ : Zb), (⟨#[97,118,101,114,97,103,101]⟩ : Zb), (⟨#[108,97,115,116]⟩ : Zb), (⟨#[109,111,110,101,121]⟩ : Zb), (⟨#[104,111,117,114,115]⟩ : Zb), (⟨#[100,97,121,115]⟩ : Zb), (⟨#[110,117,109,98,101,114]⟩ : Zb), (⟨#[98,111,111,108]⟩ : Zb), (⟨#[100,111,119,110]⟩ : Zb), (⟨#[117,112]⟩ : Zb), (⟨#[102,108,111,111,114]⟩ : Zb), (⟨#[99,101,105,108,105,110,103]⟩ : Zb), (⟨#[104,97,108,102,95,117,112]⟩ : Zb), (⟨#[104,97,108,102,95,100,111,119,110]⟩ : Zb), (⟨#[104,97,108,102,95,101,118,101,110]⟩ : Zb)] : List Zb)) 0) = some r := h
 clear h
 obtain ⟨y301, hy301⟩ : ∃ y_ : List Zb, y_ = (([(⟨#[97,103,114,101,101,109,101,110,116]⟩ : Zb), (⟨#[105,110,112,117,116]⟩ : Zb), (⟨#[112,97,115,116]⟩ : Zb), (⟨#[115,99,97,108,101]⟩ : Zb), (⟨#[114,117,108,101]⟩ : Zb), (⟨#[112,97,121]⟩ : Zb), (⟨#[102,114,111,109]⟩ : Zb), (⟨#[114,111,117,110,100,101,100]⟩ : Zb), (⟨#[116,111]⟩ : Zb), (⟨#[105,102]⟩ : Zb), (⟨#[116,104,101,110]⟩ : Zb), (⟨#[101,108,115,101]⟩ : Zb), (⟨#[97,110,100]⟩ : Zb), (⟨#[111,114]⟩ : Zb), (⟨#[110,111,116]⟩ : Zb), (⟨#[116,114,117,101]⟩ : Zb), (⟨#[102,97,108,115,101]⟩ : Zb), (⟨#[109,105,110]⟩ : Zb), (⟨#[109,97,120]⟩ : Zb), (⟨#[114,111,117,110,100]⟩ : Zb), (⟨#[97,118,101,114,97,103,101]⟩ : Zb), (⟨#[108,97,115,116]⟩ : Zb), (⟨#[109,111,110,101,121]⟩ : Zb), (⟨#[104,111,117,114,115]⟩ : Zb), (⟨#[100,97,121,115]⟩ : Zb), (⟨#[110,117,109,98,101,114]⟩ : Zb), (⟨#[98,111,111,108]⟩ : Zb), (⟨#[100,111,119,110]⟩ : Zb), (⟨#[117,112]⟩ : Zb), (⟨#[102,108,111,111,114]⟩ : Zb), (⟨#[99,101,105,108,105,110,103]⟩ : Zb), (⟨#[104,97,108,102,95,117,112]⟩ : Zb), (⟨#[104,97,108,102,95,100,111,119,110]⟩ : Zb), (⟨#[104,97,108,102,95,101,118,101,110]⟩ : Zb)] : List Zb)) := ⟨_, rfl⟩
 replace H : (payrollref17_IsKeyword.l0 k a0 y301 0) = some r := by first | (rw [hy301]; with_reducible exact H) | (have H2_ := (Xy _ _).symm.trans H; rw [hy301]; with_reducible exact H2_) | (have H2_ := (Xy _ _).symm.trans H; with_reducible exact H2_) | with_reducible exact H | (rw [hy301]; exact H) | exact H
 have Ny301 := Qa hy301
 clear hy301
 have H' := Qa H
 clear H
 go_enter Tryz.func128, Tryz.ntmps128
 go_wp2_with (first | ((with_reducible refine Qx (N := 5) rfl ?_); refine Kd.R_lit Kd.string _ 9 ?hg (N := 5) ?hd (xs := ([(⟨#[97,103,114,101,101,109,101,110,116]⟩ : Zb), (⟨#[105,110,112,117,116]⟩ : Zb), (⟨#[112,97,115,116]⟩ : Zb), (⟨#[115,99,97,108,101]⟩ : Zb), (⟨#[114,117,108,101]⟩ : Zb), (⟨#[112,97,121]⟩ : Zb), (⟨#[102,114,111,109]⟩ : Zb), (⟨#[114,111,117,110,100,101,100]⟩ : Zb), (⟨#[116,111]⟩ : Zb), (⟨#[105,102]⟩ : Zb), (⟨#[116,104,101,110]⟩ : Zb), (⟨#[101,108,115,101]⟩ : Zb), (⟨#[97,110,100]⟩ : Zb), (⟨#[111,114]⟩ : Zb), (⟨#[110,111,116]⟩ : Zb), (⟨#[116,114,117,101]⟩ : Zb), (⟨#[102,97,108,115,101]⟩ : Zb), (⟨#[109,105,110]⟩ : Zb), (⟨#[109,97,120]⟩ : Zb), (⟨#[114,111,117,110,100]⟩ : Zb), (⟨#[97,118,101,114,97,103,101]⟩ : Zb), (⟨#[108,97,115,116]⟩ : Zb), (⟨#[109,111,110,101,121]⟩ : Zb), (⟨#[104,111,117,114,115]⟩ : Zb), (⟨#[100,97,121,115]⟩ : Zb), (⟨#[110,117,109,98,101,114]⟩ : Zb), (⟨#[98,111,111,108]⟩ : Zb), (⟨#[100,111,119,110]⟩ : Zb), (⟨#[117,112]⟩ : Zb), (⟨#[102,108,111,111,114]⟩ : Zb), (⟨#[99,101,105,108,105,110,103]⟩ : Zb), (⟨#[104,97,108,102,95,117,112]⟩ : Zb), (⟨#[104,97,108,102,95,100,111,119,110]⟩ : Zb), (⟨#[104,97,108,102,95,101,118,101,110]⟩ : Zb)] : List Zb)) (inner := [.string (⟨#[97,103,114,101,101,109,101,110,116]⟩ : Zb), .string (⟨#[105,110,112,117,116]⟩ : Zb), .string (⟨#[112,97,115,116]⟩ : Zb), .string (⟨#[115,99,97,108,101]⟩ : Zb), .string (⟨#[114,117,108,101]⟩ : Zb), .string (⟨#[112,97,121]⟩ : Zb), .string (⟨#[102,114,111,109]⟩ : Zb), .string (⟨#[114,111,117,110,100,101,100]⟩ : Zb), .string (⟨#[116,111]⟩ : Zb), .string (⟨#[105,102]⟩ : Zb), .string (⟨#[116,104,101,110]⟩ : Zb), .string (⟨#[101,108,115,101]⟩ : Zb), .string (⟨#[97,110,100]⟩ : Zb), .string (⟨#[111,114]⟩ : Zb), .string (⟨#[110,111,116]⟩ : Zb), .string (⟨#[116,114,117,101]⟩ : Zb), .string (⟨#[102,97,108,115,101]⟩ : Zb), .string (⟨#[109,105,110]⟩ : Zb), .string (⟨#[109,97,120]⟩ : Zb), .string (⟨#[114,111,117,110,100]⟩ : Zb), .string (⟨#[97,118,101,114,97,103,101]⟩ : Zb), .string (⟨#[108,97,115,116]⟩ : Zb), .string (⟨#[109,111,110,101,121]⟩ : Zb), .string (⟨#[104,111,117,114,115]⟩ : Zb), .string (⟨#[100,97,121,115]⟩ : Zb), .string (⟨#[110,117,109,98,101,114]⟩ : Zb), .string (⟨#[98,111,111,108]⟩ : Zb), .string (⟨#[100,111,119,110]⟩ : Zb), .string (⟨#[117,112]⟩ : Zb), .string (⟨#[102,108,111,111,114]⟩ : Zb), .string (⟨#[99,101,105,108,105,110,103]⟩ : Zb), .string (⟨#[104,97,108,102,95,117,112]⟩ : Zb), .string (⟨#[104,97,108,102,95,100,111,119,110]⟩ : Zb), .string (⟨#[104,97,108,102,95,101,118,101,110]⟩ : Zb)]) (ok := fun _ => True) (okp := fun _ => True) ?hr ?hp (fun _ hk => hk) trivial (Below.refl _ _) (Nat.le_refl _) (by simp) ?_; (case hd => rfl); (case hg => rfl); (case hr => first | (go_simp; done) | (go_simp; rfl)); (case hp => exact (Reps.one (show Kd.M Kd.string _ _ _ (⟨#[97,103,114,101,101,109,101,110,116]⟩ : Zb) [.string (⟨#[97,103,114,101,101,109,101,110,116]⟩ : Zb)] from rfl) (Reps.one (show Kd.M Kd.string _ _ _ (⟨#[105,110,112,117,116]⟩ : Zb) [.string (⟨#[105,110,112,117,116]⟩ : Zb)] from rfl) (Reps.one (show Kd.M Kd.string _ _ _ (⟨#[112,97,115,116]⟩ : Zb) [.string (⟨#[112,97,115,116]⟩ : Zb)] from rfl) (Reps.one (show Kd.M Kd.string _ _ _ (⟨#[115,99,97,108,101]⟩ : Zb) [.string (⟨#[115,99,97,108,101]⟩ : Zb)] from rfl) (Reps.one (show Kd.M Kd.string _ _ _ (⟨#[114,117,108,101]⟩ : Zb) [.string (⟨#[114,117,108,101]⟩ : Zb)] from rfl) (Reps.one (show Kd.M Kd.string _ _ _ (⟨#[112,97,121]⟩ : Zb) [.string (⟨#[112,97,121]⟩ : Zb)] from rfl) (Reps.one (show Kd.M Kd.string _ _ _ (⟨#[102,114,111,109]⟩ : Zb) [.string (⟨#[102,114,111,109]⟩ : Zb)] from rfl) (Reps.one (show Kd.M Kd.string _ _ _ (⟨#[114,111,117,110,100,101,100]⟩ : Zb) [.string (⟨#[114,111,117,110,100,101,100]⟩ : Zb)] from rfl) (Reps.one (show Kd.M Kd.string _ _ _ (⟨#[116,111]⟩ : Zb) [.string (⟨#[116,111]⟩ : Zb)] from rfl) (Reps.one (show Kd.M Kd.string _ _ _ (⟨#[105,102]⟩ : Zb) [.string (⟨#[105,102]⟩ : Zb)] from rfl) (Reps.one (show Kd.M Kd.string _ _ _ (⟨#[116,104,101,110]⟩ : Zb) [.string (⟨#[116,104,101,110]⟩ : Zb)] from rfl) (Reps.one (show Kd.M Kd.string _ _ _ (⟨#[101,108,115,101]⟩ : Zb) [.string (⟨#[101,108,115,101]⟩ : Zb)] from rfl) (Reps.one (show Kd.M Kd.string _ _ _ (⟨#[97,110,100]⟩ : Zb) [.string (⟨#[97,110,100]⟩ : Zb)] from rfl) (Reps.one (show Kd.M Kd.string _ _ _ (⟨#[111,114]⟩ : Zb) [.string (⟨#[111,114]⟩ : Zb)] from rfl) (Reps.one (show Kd.M Kd.string _ _ _ (⟨#[110,111,116]⟩ : Zb) [.string (⟨#[110,111,116]⟩ : Zb)] from rfl) (Reps.one (show Kd.M Kd.string _ _ _ (⟨#[116,114,117,101]⟩ : Zb) [.string (⟨#[116,114,117,101]⟩ : Zb)] from rfl) (Reps.one (show Kd.M Kd.string _ _ _ (⟨#[102,97,108,115,101]⟩ : Zb) [.string (⟨#[102,97,108,115,101]⟩ : Zb)] from rfl) (Reps.one (show Kd.M Kd.string _ _ _ (⟨#[109,105,110]⟩ : Zb) [.string (⟨#[109,105,110]⟩ : Zb)] from rfl) (Reps.one (show Kd.M Kd.string _ _ _ (⟨#[109,97,120]⟩ : Zb) [.string (⟨#[109,97,120]⟩ : Zb)] from rfl) (Reps.one (show Kd.M Kd.string _ _ _ (⟨#[114,111,117,110,100]⟩ : Zb) [.string (⟨#[114,111,117,110,100]⟩ : Zb)] from rfl) (Reps.one (show Kd.M Kd.string _ _ _ (⟨#[97,118,101,114,97,103,101]⟩ : Zb) [.string (⟨#[97,118,101,114,97,103,101]⟩ : Zb)] from rfl) (Reps.one (show Kd.M Kd.string _ _ _ (⟨#[108,97,115,116]⟩ : Zb) [.string (⟨#[108,97,115,116]⟩ : Zb)] from rfl) (Reps.one (show Kd.M Kd.string _ _ _ (⟨#[109,111,110,101,121]⟩ : Zb) [.string (⟨#[109,111,110,101,121]⟩ : Zb)] from rfl) (Reps.one (show Kd.M Kd.string _ _ _ (⟨#[104,111,117,114,115]⟩ : Zb) [.string (⟨#[104,111,117,114,115]⟩ : Zb)] from rfl) (Reps.one (show Kd.M Kd.string _ _ _ (⟨#[100,97,121,115]⟩ : Zb) [.string (⟨#[100,97,121,115]⟩ : Zb)] from rfl) (Reps.one (show Kd.M Kd.string _ _ _ (⟨#[110,117,109,98,101,114]⟩ : Zb) [.string (⟨#[110,117,109,98,101,114]⟩ : Zb)] from rfl) (Reps.one (show Kd.M Kd.string _ _ _ (⟨#[98,111,111,108]⟩ : Zb) [.string (⟨#[98,111,111,108]⟩ : Zb)] from rfl) (Reps.one (show Kd.M Kd.string _ _ _ (⟨#[100,111,119,110]⟩ : Zb) [.string (⟨#[100,111,119,110]⟩ : Zb)] from rfl) (Reps.one (show Kd.M Kd.string _ _ _ (⟨#[117,112]⟩ : Zb) [.string (⟨#[117,112]⟩ : Zb)] from rfl) (Reps.one (show Kd.M Kd.string _ _ _ (⟨#[102,108,111,111,114]⟩ : Zb) [.string (⟨#[102,108,111,111,114]⟩ : Zb)] from rfl) (Reps.one (show Kd.M Kd.string _ _ _ (⟨#[99,101,105,108,105,110,103]⟩ : Zb) [.string (⟨#[99,101,105,108,105,110,103]⟩ : Zb)] from rfl) (Reps.one (show Kd.M Kd.string _ _ _ (⟨#[104,97,108,102,95,117,112]⟩ : Zb) [.string (⟨#[104,97,108,102,95,117,112]⟩ : Zb)] from rfl) (Reps.one (show Kd.M Kd.string _ _ _ (⟨#[104,97,108,102,95,100,111,119,110]⟩ : Zb) [.string (⟨#[104,97,108,102,95,100,111,119,110]⟩ : Zb)] from rfl) (Reps.one (show Kd.M Kd.string _ _ _ (⟨#[104,97,108,102,95,101,118,101,110]⟩ : Zb) [.string (⟨#[104,97,108,102,95,101,118,101,110]⟩ : Zb)] from rfl) (Reps.none _ _)))))))))))))))))))))))))))))))))))); intro v302 w2 ho3 hb hg_ hnew_; clear hg_ hnew_; (first | rw [← Ny301.out] at ho3 | (simp only [Int.reduceToNat] at ho3; rw [← Ny301.out] at ho3)); have n0_ := Qa (Kd.R_lower ho3 (Qi (bl HB.out))); have n1_ := Qa (Qh (bl HB.out) hb); clear HB; have HO303 := n0_; have HB := n1_; clear n0_ n1_; clear hb ho3))
 go_loopg [4] k (fun kq v4 w' => ∃ (x4_1 : Int), v4 = .int .i64 x4_1 ∧ Aside0 (payrollref17_IsKeyword.l0 kq a0 y301 x4_1 = some r) ∧ Aside0 (kq ≤ k) ∧ Aside0 (Kd.R Kd.string 9 w' w.heap.size (fun _ => True) v302 y301) ∧ Aside0 (Below w.heap.size w w'))
 case atStart => exact ⟨(0), (by first | rfl | (simp; done) | (simp [*]; done)), H', ⟨Nat.le_refl _⟩, ⟨kr HO303.out⟩, ⟨bl HB.out⟩⟩
 case round =>
  clear H'
  try clear c1
  try clear p2
  obtain ⟨x4_1, rfl, HA, HK1, HO_3, HB⟩ := hrel
  cases gk with
  | zero => exact absurd HA.out (by simp [payrollref17_IsKeyword.l0])
  | succ k1 =>
   have H := HA.out
   clear HA
   simp only [payrollref17_IsKeyword.l0] at H
   by_cases c4 : x4_1 < (y301.length : Int)
   · rw [if_pos c4] at H
     have c4b0 : decide (x4_1 < (y301.length : Int)) = true := Xq c4
     clear c4
     by_cases c5 : 0 ≤ x4_1
     · rw [if_pos c5] at H
       have c5b0 : decide (0 ≤ x4_1) = true := Xq c5
       clear c5
       by_cases c6 : (rdOf ByteArray.empty y301 x4_1).toList = a0.toList
       · rw [if_pos c6] at H
         have c6b0 : ((rdOf ByteArray.empty y301 x4_1).toList == a0.toList) = true := Yb.mpr c6
         have c6b1 : ((rdOf ByteArray.empty y301 x4_1).toList != a0.toList) = false := bne_eq_false_iff_eq.mpr c6
         clear c6
         obtain rfl := Xz H
         obtain ⟨Ao7, co7, eo7⟩ := Xk HO_3.out
         subst eo7
         have p304 : 0 ≤ (x4_1 : Int) := Xp (by assumption)
         have q304 : x4_1 < (y301.length : Int) := Xp (by assumption)
         obtain ⟨ad304, e304, hx304_0⟩ := Kd.at_string (Xb HO_3.out).2.2 x4_1 p304 q304
         cases e304
         replace p304 := eq_true p304
         replace q304 := eq_true q304
         go_wp2
         go_ret
         exact ⟨by first | rfl | (simp [errW_none, errW_some] <;> rfl) | (simp [*, errW_none, errW_some] <;> rfl), bl HB.out⟩
       rw [if_neg c6] at H
       have c6b0 : ((rdOf ByteArray.empty y301 x4_1).toList == a0.toList) = false := Ya.mpr c6
       have c6b1 : ((rdOf ByteArray.empty y301 x4_1).toList != a0.toList) = true := Yc.mpr c6
       have H' := Qa H
       clear H
       obtain ⟨Ao8, co8, eo8⟩ := Xk HO_3.out
       subst eo8
       have p304 : 0 ≤ (x4_1 : Int) := Xp (by assumption)
       have q304 : x4_1 < (y301.length : Int) := Xp (by assumption)
       obtain ⟨ad304, e304, hx304_0⟩ := Kd.at_string (Xb HO_3.out).2.2 x4_1 p304 q304
       cases e304
       replace p304 := eq_true p304
       replace q304 := eq_true q304
       go_wp2
       go_roundg k1
       case measure => have := HK1.out; omega
       case rel => exact ⟨(wrap64 (x4_1 + 1)), (by first | rfl | (simp; done) | (simp [*]; done)), H', ⟨by have := HK1.out; omega⟩, ⟨kr HO_3.out⟩, ⟨bl HB.out⟩⟩
     rw [if_neg c5] at H
     exact absurd H (by simp)
   rw [if_neg c4] at H
   have c4b0 : decide (x4_1 < (y301.length : Int)) = false := Xr c4
   clear c4
   obtain rfl := Xz H
   obtain ⟨Ao9, co9, eo9⟩ := Xk HO_3.out
   subst eo9
   go_wp2
   go_ret
   exact ⟨by first | rfl | (simp [errW_none, errW_some] <;> rfl) | (simp [*, errW_none, errW_some] <;> rfl), bl HB.out⟩
def payrollref17_IsName.f (k : Nat) (a0 : Zb) : Option (Bool) := if a0.toList = ([] : List UInt8) then (some false) else (if (a0.size : Int) ≤ 24 then ((payrollref17_word.f k a0 0).bind fun t305 => (if t305 = (a0.size : Int) then ((payrollref17_IsKeyword.f k a0).bind fun t306 => (some (!t306))) else (some false))) else (some false))
theorem payrollref17_IsName.calls (k : Nat) (a0 : Zb) (r : Bool) (w : World) (h : payrollref17_IsName.f k a0 = some r) :
 Calls Tryz.prog 103 #[.string a0] w fun e w' => e = .returned (.bool r) ∧ Below w.heap.size w w' := by
 have HB := Qa (Below.refl w.heap.size w)
 have H : (if a0.toList = ([] : List UInt8) then (some false) else (if (a0.size : Int) ≤ 24 then ((payrollref17_word.f k a0 0).bind fun t305 => (if t305 = (a0.size : Int) then ((payrollref17_IsKeyword.f k a0).bind fun t306 => (some (!t306))) else (some false))) else (some false))) = some r := h
 clear h
 by_cases c2 : a0.toList = ([] : List UInt8)
 · rw [if_pos c2] at H
   have c2b0 : (a0.toList == ([] : List UInt8)) = true := Yb.mpr c2
   have c2b1 : (a0.toList != ([] : List UInt8)) = false := bne_eq_false_iff_eq.mpr c2
   clear c2
   obtain rfl := Xz H
   go_enter Tryz.func103, Tryz.ntmps103
   go_wp2
   go_ret
   exact ⟨by first | rfl | (simp [errW_none, errW_some] <;> rfl) | (simp [*, errW_none, errW_some] <;> rfl), bl HB.out⟩
 rw [if_neg c2] at H
 have c2b0 : (a0.toList == ([] : List UInt8)) = false := Ya.mpr c2
 have c2b1 : (a0.toList != ([] : List UInt8)) = true := Yc.mpr c2
 by_cases c3 : (a0.size : Int) ≤ 24
 · rw [if_pos c3] at H
   have c3b0 : decide ((a0.size : Int) ≤ 24) = true := Xq c3
   have c3b1 : decide (a0.size ≤ 24) = true := Xq (by omega)
   clear c3
   replace H := Xx.mp H
   obtain ⟨t305, A40, H⟩ := H
   replace H : (if t305 = (a0.size : Int) then ((payrollref17_IsKeyword.f k a0).bind fun t306 => (some (!t306))) else (some false)) = some r := H
   have A4 := Qa A40
   clear A40
   by_cases c5 : t305 = (a0.size : Int)
   · rw [if_pos c5] at H
     have c5b0 : (t305 == (a0.size : Int)) = true := Yb.mpr c5
     have c5b1 : (t305 != (a0.size : Int)) = false := bne_eq_false_iff_eq.mpr c5
     clear c5
     replace H := Xx.mp H
     obtain ⟨t306, A60, H⟩ := H
     replace H : (some (!t306)) = some r := H
     have A6 := Qa A60
     clear A60
     obtain rfl := Xz H
     go_enter Tryz.func103, Tryz.ntmps103
     go_wp2_with (first | (go_at_call 127; (with_reducible refine (payrollref17_word.calls k a0 0 t305 _ A4.out).mono ?_); rintro e w' ⟨rfl, ⟨nd, rfl⟩⟩) | (go_at_call 128; (with_reducible refine (payrollref17_IsKeyword.calls k a0 t306 _ A6.out).mono ?_); rintro e w7 ⟨rfl, hb⟩; have n0_ := Qa (Qh (bl HB.out) hb); clear HB; have HB := n0_; clear n0_; (try clear hb)))
     go_ret
     exact ⟨by first | rfl | (simp [errW_none, errW_some] <;> rfl) | (simp [*, errW_none, errW_some] <;> rfl), bl HB.out⟩
   rw [if_neg c5] at H
   have c5b0 : (t305 == (a0.size : Int)) = false := Ya.mpr c5
   have c5b1 : (t305 != (a0.size : Int)) = true := Yc.mpr c5
   obtain rfl := Xz H
   go_enter Tryz.func103, Tryz.ntmps103
   go_wp2_with (first | (go_at_call 127; (with_reducible refine (payrollref17_word.calls k a0 0 t305 _ A4.out).mono ?_); rintro e w' ⟨rfl, ⟨nd, rfl⟩⟩))
   go_ret
   exact ⟨by first | rfl | (simp [errW_none, errW_some] <;> rfl) | (simp [*, errW_none, errW_some] <;> rfl), bl HB.out⟩
 rw [if_neg c3] at H
 have c3b0 : decide ((a0.size : Int) ≤ 24) = false := Xr c3
 have c3b1 : decide (a0.size ≤ 24) = false := Xr (by omega)
 clear c3
 obtain rfl := Xz H
 go_enter Tryz.func103, Tryz.ntmps103
 go_wp2
 go_ret
 exact ⟨by first | rfl | (simp [errW_none, errW_some] <;> rfl) | (simp [*, errW_none, errW_some] <;> rfl), bl HB.out⟩
def payrollref32_Form.j0 : Nat → Bool → Int → Zb → Int → Option (Bool)
 | 0, _, _, _, _ => none
 | k + 1, x20, x308000, x308001, x308002 => if x20 = true then (some false) else ((payrollref32_Bare.f x308000).bind fun t308 => (if t308 = true then (some (x308001.toList == ([] : List UInt8))) else ((payrollref17_IsName.f k x308001).bind fun t309 => (some t309))))
def payrollref32_Form.f (k : Nat) (a0_0 : Int) (a0_1 : Zb) (a0_2 : Int) : Option (Bool) := if a0_0 < 1 then (payrollref32_Form.j0 k true a0_0 a0_1 a0_2) else (if a0_0 > 10 then (payrollref32_Form.j0 k true a0_0 a0_1 a0_2) else (if a0_2 < (-1000000000000) then (payrollref32_Form.j0 k true a0_0 a0_1 a0_2) else (payrollref32_Form.j0 k (decide (a0_2 > 1000000000000)) a0_0 a0_1 a0_2)))
theorem payrollref32_Form.calls (k : Nat) (a0_0 : Int) (a0_1 : Zb) (a0_2 : Int) (r : Bool) (w : World) (h : payrollref32_Form.f k a0_0 a0_1 a0_2 = some r) :
 Calls Tryz.prog 87 #[.agg #[.int .i64 a0_0, .string a0_1, .int .i64 a0_2]] w fun e w' => e = .returned (.bool r) ∧ Below w.heap.size w w' := by
 have hu60 := Tryz.underlying60
 have HB := Qa (Below.refl w.heap.size w)
 have H : (if a0_0 < 1 then (payrollref32_Form.j0 k true a0_0 a0_1 a0_2) else (if a0_0 > 10 then (payrollref32_Form.j0 k true a0_0 a0_1 a0_2) else (if a0_2 < (-1000000000000) then (payrollref32_Form.j0 k true a0_0 a0_1 a0_2) else (payrollref32_Form.j0 k (decide (a0_2 > 1000000000000)) a0_0 a0_1 a0_2)))) = some r := h
 clear h
 have HC2 := Qa H
 clear H
 go_enter Tryz.func87, Tryz.ntmps87
 go_upto_region 1 with (first | ((with_reducible refine Qx (N := 1) rfl ?_); refine Qv ?hg (N := 1) ?hd (cs := #[.int .i64 a0_0, .string a0_1, .int .i64 a0_2]) (t := 60) ?hr ?_; (case hd => rfl); (case hg => rfl); (case hr => first | (go_simp; done) | (go_simp; rfl)); intro gb307 hg w3 hbox hb; have n0_ := Qa (Qh (bl HB.out) hb); have n1_ := Qa (hbox); have n2_ := Qa ((by rw [hg]; exact (Qi (bl HB.out)) : w.heap.size ≤ gb307)); have n3_ := Qa ((by rw [hg]; exact (Qi (bl HB.out)) : w.heap.size ≤ gb307)); clear HB; have HB := n0_; have BK307 := n1_; have GW307 := n2_; have GE307 := n3_; clear n0_ n1_ n2_ n3_; clear hb hbox hg))
 (try simp only [Act.put, Xt, Xu, Xv])
 go_cut [20] (fun v20 wc => ∃ (kq : Nat) (x20_1 : Bool), v20 = .bool x20_1 ∧ Aside0 (payrollref32_Form.j0 kq x20_1 a0_0 a0_1 a0_2 = some r) ∧ Aside0 (kq ≤ k) ∧ Aside0 (wc.heap[gb307]? = some (.cells #[.int .i64 a0_0, .string a0_1, .int .i64 a0_2] 60 (0,0))) ∧ Aside0 (Below w.heap.size w wc))
 case first =>
  have H := HC2.out
  clear HC2
  by_cases c4 : a0_0 < 1
  · rw [if_pos c4] at H
    have c4b0 : decide (a0_0 < 1) = true := Xq c4
    clear c4
    (first | rw [c4b0] | (simp only [i64_w, i32_w]; rw [c4b0]) | skip)
    have H' := Qa H
    clear H
    have hcz5_0 := hz BK307.out 0
    have hcz5_1 := hz BK307.out 1
    have hcz5_2 := hz BK307.out 2
    have hfz5_0 := Qm BK307.out 0
    have hfz5_1 := Qm BK307.out 1
    have hfz5_2 := Qm BK307.out 2
    go_wp2
    go_meet
    case rel => exact ⟨_, (true), (by first | rfl | (simp; done) | (simp [*]; done)), H', ⟨by first | omega | exact Nat.le_refl _⟩, ⟨nc BK307.out⟩, ⟨bl HB.out⟩⟩
  rw [if_neg c4] at H
  have c4b0 : decide (a0_0 < 1) = false := Xr c4
  clear c4
  (first | rw [c4b0] | (simp only [i64_w, i32_w]; rw [c4b0]) | skip)
  by_cases c6 : a0_0 > 10
  · rw [if_pos c6] at H
    have c6b0 : decide (10 < a0_0) = true := Xq c6
    clear c6
    have H' := Qa H
    clear H
    have hcz7_0 := hz BK307.out 0
    have hcz7_1 := hz BK307.out 1
    have hcz7_2 := hz BK307.out 2
    have hfz7_0 := Qm BK307.out 0
    have hfz7_1 := Qm BK307.out 1
    have hfz7_2 := Qm BK307.out 2
    go_wp2
    go_meet
    case rel => exact ⟨_, (true), (by first | rfl | (simp; done) | (simp [*]; done)), H', ⟨by first | omega | exact Nat.le_refl _⟩, ⟨nc BK307.out⟩, ⟨bl HB.out⟩⟩
  rw [if_neg c6] at H
  have c6b0 : decide (10 < a0_0) = false := Xr c6
  clear c6
  by_cases c8 : a0_2 < (-1000000000000)
  · rw [if_pos c8] at H
    have c8b0 : decide (a0_2 < (-1000000000000)) = true := Xq c8
    clear c8
    have H' := Qa H
    clear H
    have hcz9_0 := hz BK307.out 0
    have hcz9_1 := hz BK307.out 1
    have hcz9_2 := hz BK307.out 2
    have hfz9_0 := Qm BK307.out 0
    have hfz9_1 := Qm BK307.out 1
    have hfz9_2 := Qm BK307.out 2
    go_wp2
    go_meet
    case rel => exact ⟨_, (true), (by first | rfl | (simp; done) | (simp [*]; done)), H', ⟨by first | omega | exact Nat.le_refl _⟩, ⟨nc BK307.out⟩, ⟨bl HB.out⟩⟩
  rw [if_neg c8] at H
  have c8b0 : decide (a0_2 < (-1000000000000)) = false := Xr c8
  clear c8
  have H' := Qa H
  clear H
  have hcz10_0 := hz BK307.out 0
  have hcz10_1 := hz BK307.out 1
  have hcz10_2 := hz BK307.out 2
  have hfz10_0 := Qm BK307.out 0
  have hfz10_1 := Qm BK307.out 1
  have hfz10_2 := Qm BK307.out 2
  go_wp2
  go_meet
  case rel => exact ⟨_, (decide (a0_2 > 1000000000000)), (by first | rfl | (simp; done) | (simp [*]; done)), H', ⟨by first | omega | exact Nat.le_refl _⟩, ⟨nc BK307.out⟩, ⟨bl HB.out⟩⟩
 case rest =>
  clear HC2
  try clear p2
  try clear c4
  try clear c4b0
  try clear c6
  try clear c6b0
  try clear c8
  try clear c8b0
  try clear hcz10_0
  try clear hcz10_1
  try clear hcz10_2
  try clear hcz5_0
  try clear hcz5_1
  try clear hcz5_2
  try clear hcz7_0
  try clear hcz7_1
  try clear hcz7_2
  try clear hcz9_0
  try clear hcz9_1
  try clear hcz9_2
  try clear hfz10_0
  try clear hfz10_1
  try clear hfz10_2
  try clear hfz5_0
  try clear hfz5_1
  try clear hfz5_2
  try clear hfz7_0
  try clear hfz7_1
  try clear hfz7_2
  try clear hfz9_0
  try clear hfz9_1
  try clear hfz9_2
  obtain ⟨kq, x20_1, rfl, HA, HJ1, BK307, HB⟩ := hcut
  cases kq with
  | zero => exact absurd HA.out (by simp [payrollref32_Form.j0])
  | succ kj1 =>
   have H := HA.out
   clear HA
   simp only [payrollref32_Form.j0] at H
   by_cases c11 : x20_1 = true
   · subst c11
     have H1 : (some false) = some r := by rw [if_pos rfl] at H; exact H
     clear H
     have H := H1
     clear H1
     obtain rfl := Xz H
     go_wp2
     go_ret
     exact ⟨by first | rfl | (simp [errW_none, errW_some] <;> rfl) | (simp [*, errW_none, errW_some] <;> rfl), bl HB.out⟩
   replace c11 := Bool.eq_false_iff.mpr c11
   subst c11
   have H1 : ((payrollref32_Bare.f a0_0).bind fun t308 => (if t308 = true then (some (a0_1.toList == ([] : List UInt8))) else ((payrollref17_IsName.f kj1 a0_1).bind fun t309 => (some t309)))) = some r := by rw [if_neg (show ¬ (false = true) by decide)] at H; exact H
   clear H
   have H := H1
   clear H1
   replace H := Xx.mp H
   obtain ⟨t308, A120, H⟩ := H
   replace H : (if t308 = true then (some (a0_1.toList == ([] : List UInt8))) else ((payrollref17_IsName.f kj1 a0_1).bind fun t309 => (some t309))) = some r := H
   have A12 := Qa A120
   clear A120
   by_cases c13 : t308 = true
   · subst c13
     have H1 : (some (a0_1.toList == ([] : List UInt8))) = some r := by rw [if_pos rfl] at H; exact H
     clear H
     have H := H1
     clear H1
     obtain rfl := Xz H
     have hcz14_0 := hz BK307.out 0
     have hcz14_1 := hz BK307.out 1
     have hcz14_2 := hz BK307.out 2
     have hfz14_0 := Qm BK307.out 0
     have hfz14_1 := Qm BK307.out 1
     have hfz14_2 := Qm BK307.out 2
     go_wp2_with (first | ((with_reducible refine Qw (f := 60) rfl ?_); refine gc (some 23) Tryz.func60 #[.int .i64 a0_0] ?_; (with_reducible refine (payrollref32_Bare.calls a0_0 true _ A12.out).mono ?_); rintro e w' ⟨rfl, ⟨nd, rfl⟩⟩; refine ⟨_, rfl, ?_⟩))
     go_ret
     exact ⟨by first | rfl | (simp [errW_none, errW_some] <;> rfl) | (simp [*, errW_none, errW_some] <;> rfl), bl HB.out⟩
   replace c13 := Bool.eq_false_iff.mpr c13
   subst c13
   have H1 : ((payrollref17_IsName.f kj1 a0_1).bind fun t309 => (some t309)) = some r := by rw [if_neg (show ¬ (false = true) by decide)] at H; exact H
   clear H
   have H := H1
   clear H1
   replace H := Xx.mp H
   obtain ⟨t309, A150, H⟩ := H
   replace H : (some t309) = some r := H
   have A15 := Qa A150
   clear A150
   obtain rfl := Xz H
   have hcz16_0 := hz BK307.out 0
   have hcz16_1 := hz BK307.out 1
   have hcz16_2 := hz BK307.out 2
   have hfz16_0 := Qm BK307.out 0
   have hfz16_1 := Qm BK307.out 1
   have hfz16_2 := Qm BK307.out 2
   go_wp2_with (first | ((with_reducible refine Qw (f := 60) rfl ?_); refine gc (some 23) Tryz.func60 #[.int .i64 a0_0] ?_; (with_reducible refine (payrollref32_Bare.calls a0_0 false _ A12.out).mono ?_); rintro e w' ⟨rfl, ⟨nd, rfl⟩⟩; refine ⟨_, rfl, ?_⟩) | ((with_reducible refine Qw (f := 103) rfl ?_); refine gc (some 29) Tryz.func103 #[.string a0_1] ?_; (with_reducible refine (payrollref17_IsName.calls kj1 a0_1 t309 _ A15.out).mono ?_); rintro e w17 ⟨rfl, hb⟩; refine ⟨_, rfl, ?_⟩; have n0_ := Qa (Qb (nc BK307.out) hb); have n1_ := Qa (Qh (bl HB.out) hb); clear BK307 HB; have BK307 := n0_; have HB := n1_; clear n0_ n1_; (try clear hb)))
   go_ret
   exact ⟨by first | rfl | (simp [errW_none, errW_some] <;> rfl) | (simp [*, errW_none, errW_some] <;> rfl), bl HB.out⟩
def payrollref34_Form.f (k : Nat) (a0_0 : Int) (a0_1 : Zb) (a0_2 : Int) : Option (Bool) := if a0_2 = 0 then (some false) else ((payrollref32_Form.f k a0_0 a0_1 a0_2).bind fun t311 => (some t311))
theorem payrollref34_Form.calls (k : Nat) (a0_0 : Int) (a0_1 : Zb) (a0_2 : Int) (r : Bool) (w : World) (h : payrollref34_Form.f k a0_0 a0_1 a0_2 = some r) :
 Calls Tryz.prog 74 #[.agg #[.int .i64 a0_0, .string a0_1, .int .i64 a0_2]] w fun e w' => e = .returned (.bool r) ∧ Below w.heap.size w w' := by
 have hu60 := Tryz.underlying60
 have HB := Qa (Below.refl w.heap.size w)
 have H : (if a0_2 = 0 then (some false) else ((payrollref32_Form.f k a0_0 a0_1 a0_2).bind fun t311 => (some t311))) = some r := h
 clear h
 by_cases c2 : a0_2 = 0
 · rw [if_pos c2] at H
   have c2b0 : (a0_2 == 0) = true := Yb.mpr c2
   have c2b1 : (a0_2 != 0) = false := bne_eq_false_iff_eq.mpr c2
   clear c2
   obtain rfl := Xz H
   go_enter Tryz.func74, Tryz.ntmps74
   go_wp2_with (first | ((with_reducible refine Qx (N := 1) rfl ?_); refine Qv ?hg (N := 1) ?hd (cs := #[.int .i64 a0_0, .string a0_1, .int .i64 a0_2]) (t := 60) ?hr ?_; (case hd => rfl); (case hg => rfl); (case hr => first | (go_simp; done) | (go_simp; rfl)); intro gb310 hg w3 hbox hb; have n0_ := Qa (Qh (bl HB.out) hb); have n1_ := Qa (hbox); have n2_ := Qa ((by rw [hg]; exact (Qi (bl HB.out)) : w.heap.size ≤ gb310)); have n3_ := Qa ((by rw [hg]; exact (Qi (bl HB.out)) : w.heap.size ≤ gb310)); clear HB; have HB := n0_; have BK310 := n1_; have GW310 := n2_; have GE310 := n3_; clear n0_ n1_ n2_ n3_; clear hb hbox hg; have hcz4_0 := hz BK310.out 0; have hcz4_1 := hz BK310.out 1; have hcz4_2 := hz BK310.out 2; have hfz4_0 := Qm BK310.out 0; have hfz4_1 := Qm BK310.out 1; have hfz4_2 := Qm BK310.out 2))
   go_ret
   exact ⟨by first | rfl | (simp [errW_none, errW_some] <;> rfl) | (simp [*, errW_none, errW_some] <;> rfl), bl HB.out⟩
 rw [if_neg c2] at H
 have c2b0 : (a0_2 == 0) = false := Ya.mpr c2
 have c2b1 : (a0_2 != 0) = true := Yc.mpr c2
 replace H := Xx.mp H
 obtain ⟨t311, A50, H⟩ := H
 replace H : (some t311) = some r := H
 have A5 := Qa A50
 clear A50
 obtain rfl := Xz H
 go_enter Tryz.func74, Tryz.ntmps74
 go_wp2_with (first | ((with_reducible refine Qx (N := 1) rfl ?_); refine Qv ?hg (N := 1) ?hd (cs := #[.int .i64 a0_0, .string a0_1, .int .i64 a0_2]) (t := 60) ?hr ?_; (case hd => rfl); (case hg => rfl); (case hr => first | (go_simp; done) | (go_simp; rfl)); intro gb310 hg w6 hbox hb; have n0_ := Qa (Qh (bl HB.out) hb); have n1_ := Qa (hbox); have n2_ := Qa ((by rw [hg]; exact (Qi (bl HB.out)) : w.heap.size ≤ gb310)); have n3_ := Qa ((by rw [hg]; exact (Qi (bl HB.out)) : w.heap.size ≤ gb310)); clear HB; have HB := n0_; have BK310 := n1_; have GW310 := n2_; have GE310 := n3_; clear n0_ n1_ n2_ n3_; clear hb hbox hg; have hcz7_0 := hz BK310.out 0; have hcz7_1 := hz BK310.out 1; have hcz7_2 := hz BK310.out 2; have hfz7_0 := Qm BK310.out 0; have hfz7_1 := Qm BK310.out 1; have hfz7_2 := Qm BK310.out 2) | (go_at_call 87; (with_reducible refine (payrollref32_Form.calls k a0_0 a0_1 a0_2 t311 _ A5.out).mono ?_); rintro e w8 ⟨rfl, hb⟩; have n0_ := Qa (Qb (nc BK310.out) hb); have n1_ := Qa (Qh (bl HB.out) hb); clear BK310 HB; have BK310 := n0_; have HB := n1_; clear n0_ n1_; (try clear hb)))
 go_ret
 exact ⟨by first | rfl | (simp [errW_none, errW_some] <;> rfl) | (simp [*, errW_none, errW_some] <;> rfl), bl HB.out⟩
def payrollref32_Less.f (a0_0 : Int) (a0_1 : Zb) (a0_2 : Int) (a1_0 : Int) (a1_1 : Zb) (a1_2 : Int) : Option (Bool) := if a0_0 < a1_0 then (some true) else (if a0_0 = a1_0 then (some (Op.bytesLess a0_1.toList a1_1.toList)) else (some false))
theorem payrollref32_Less.calls (a0_0 : Int) (a0_1 : Zb) (a0_2 : Int) (a1_0 : Int) (a1_1 : Zb) (a1_2 : Int) (r : Bool) (w : World) (h : payrollref32_Less.f a0_0 a0_1 a0_2 a1_0 a1_1 a1_2 = some r) :
 Calls Tryz.prog 83 #[.agg #[.int .i64 a0_0, .string a0_1, .int .i64 a0_2], .agg #[.int .i64 a1_0, .string a1_1, .int .i64 a1_2]] w fun e w' => e = .returned (.bool r) ∧ Below w.heap.size w w' := by
 have hu60 := Tryz.underlying60
 have HB := Qa (Below.refl w.heap.size w)
 have H : (if a0_0 < a1_0 then (some true) else (if a0_0 = a1_0 then (some (Op.bytesLess a0_1.toList a1_1.toList)) else (some false))) = some r := h
 clear h
 by_cases c3 : a0_0 < a1_0
 · rw [if_pos c3] at H
   have c3b0 : decide (a0_0 < a1_0) = true := Xq c3
   clear c3
   obtain rfl := Xz H
   go_enter Tryz.func83, Tryz.ntmps83
   go_wp2_with (first | ((with_reducible refine Qx (N := 2) rfl ?_); refine Qv ?hg (N := 2) ?hd (cs := #[.int .i64 a0_0, .string a0_1, .int .i64 a0_2]) (t := 60) ?hr ?_; (case hd => rfl); (case hg => rfl); (case hr => first | (go_simp; done) | (go_simp; rfl)); intro gb312 hg w4 hbox hb; have n0_ := Qa (Qh (bl HB.out) hb); have n1_ := Qa (hbox); have n2_ := Qa ((by rw [hg]; exact (Qi (bl HB.out)) : w.heap.size ≤ gb312)); have n3_ := Qa ((by rw [hg]; exact (Qi (bl HB.out)) : w.heap.size ≤ gb312)); clear HB; have HB := n0_; have BK312 := n1_; have GW312 := n2_; have GE312 := n3_; clear n0_ n1_ n2_ n3_; clear hb hbox hg) | ((with_reducible refine Qx (N := 3) rfl ?_); refine Qv ?hg (N := 3) ?hd (cs := #[.int .i64 a1_0, .string a1_1, .int .i64 a1_2]) (t := 60) ?hr ?_; (case hd => rfl); (case hg => rfl); (case hr => first | (go_simp; done) | (go_simp; rfl)); intro gb313 hg w5 hbox hb; have n0_ := Qa (Qb (nc BK312.out) hb); have n1_ := Qa (Qh (bl HB.out) hb); have n2_ := Qa (hbox); have n3_ := Qa ((by rw [hg]; exact (Qi (bl HB.out)) : w.heap.size ≤ gb313)); have n4_ := Qa ((by rw [hg]; exact (Qi (bl HB.out)) : w.heap.size ≤ gb313)); have n5_ := Qa ((by rw [hg]; exact Nat.ne_of_lt (blk_lt (nc BK312.out)) : gb312 ≠ gb313)); have n6_ := Qa ((by rw [hg]; exact Nat.ne_of_gt (blk_lt (nc BK312.out)) : gb313 ≠ gb312)); clear BK312 HB; have BK312 := n0_; have HB := n1_; have BK313 := n2_; have GW313 := n3_; have GE313 := n4_; have NB312_313 := n5_; have NB313_312 := n6_; clear n0_ n1_ n2_ n3_ n4_ n5_ n6_; clear hb hbox hg; have hnb6 := NB312_313.out; have hnc6 := NB313_312.out; have hcz7_0 := hz BK312.out 0; have hcz7_1 := hz BK312.out 1; have hcz7_2 := hz BK312.out 2; have hfz7_0 := Qm BK312.out 0; have hfz7_1 := Qm BK312.out 1; have hfz7_2 := Qm BK312.out 2; have hcz8_0 := hz BK313.out 0; have hcz8_1 := hz BK313.out 1; have hcz8_2 := hz BK313.out 2; have hfz8_0 := Qm BK313.out 0; have hfz8_1 := Qm BK313.out 1; have hfz8_2 := Qm BK313.out 2))
   go_ret
   exact ⟨by first | rfl | (simp [errW_none, errW_some] <;> rfl) | (simp [*, errW_none, errW_some] <;> rfl), bl HB.out⟩
 rw [if_neg c3] at H
 have c3b0 : decide (a0_0 < a1_0) = false := Xr c3
 clear c3
 by_cases c9 : a0_0 = a1_0
 · rw [if_pos c9] at H
   have c9b0 : (a0_0 == a1_0) = true := Yb.mpr c9
   have c9b1 : (a0_0 != a1_0) = false := bne_eq_false_iff_eq.mpr c9
   clear c9
   obtain rfl := Xz H
   go_enter Tryz.func83, Tryz.ntmps83
   go_wp2_with (first | ((with_reducible refine Qx (N := 2) rfl ?_); refine Qv ?hg (N := 2) ?hd (cs := #[.int .i64 a0_0, .string a0_1, .int .i64 a0_2]) (t := 60) ?hr ?_; (case hd => rfl); (case hg => rfl); (case hr => first | (go_simp; done) | (go_simp; rfl)); intro gb312 hg w10 hbox hb; have n0_ := Qa (Qh (bl HB.out) hb); have n1_ := Qa (hbox); have n2_ := Qa ((by rw [hg]; exact (Qi (bl HB.out)) : w.heap.size ≤ gb312)); have n3_ := Qa ((by rw [hg]; exact (Qi (bl HB.out)) : w.heap.size ≤ gb312)); clear HB; have HB := n0_; have BK312 := n1_; have GW312 := n2_; have GE312 := n3_; clear n0_ n1_ n2_ n3_; clear hb hbox hg) | ((with_reducible refine Qx (N := 3) rfl ?_); refine Qv ?hg (N := 3) ?hd (cs := #[.int .i64 a1_0, .string a1_1, .int .i64 a1_2]) (t := 60) ?hr ?_; (case hd => rfl); (case hg => rfl); (case hr => first | (go_simp; done) | (go_simp; rfl)); intro gb313 hg w11 hbox hb; have n0_ := Qa (Qb (nc BK312.out) hb); have n1_ := Qa (Qh (bl HB.out) hb); have n2_ := Qa (hbox); have n3_ := Qa ((by rw [hg]; exact (Qi (bl HB.out)) : w.heap.size ≤ gb313)); have n4_ := Qa ((by rw [hg]; exact (Qi (bl HB.out)) : w.heap.size ≤ gb313)); have n5_ := Qa ((by rw [hg]; exact Nat.ne_of_lt (blk_lt (nc BK312.out)) : gb312 ≠ gb313)); have n6_ := Qa ((by rw [hg]; exact Nat.ne_of_gt (blk_lt (nc BK312.out)) : gb313 ≠ gb312)); clear BK312 HB; have BK312 := n0_; have HB := n1_; have BK313 := n2_; have GW313 := n3_; have GE313 := n4_; have NB312_313 := n5_; have NB313_312 := n6_; clear n0_ n1_ n2_ n3_ n4_ n5_ n6_; clear hb hbox hg; have hnb12 := NB312_313.out; have hnc12 := NB313_312.out; have hcz13_0 := hz BK312.out 0; have hcz13_1 := hz BK312.out 1; have hcz13_2 := hz BK312.out 2; have hfz13_0 := Qm BK312.out 0; have hfz13_1 := Qm BK312.out 1; have hfz13_2 := Qm BK312.out 2; have hcz14_0 := hz BK313.out 0; have hcz14_1 := hz BK313.out 1; have hcz14_2 := hz BK313.out 2; have hfz14_0 := Qm BK313.out 0; have hfz14_1 := Qm BK313.out 1; have hfz14_2 := Qm BK313.out 2))
   go_ret
   exact ⟨by first | rfl | (simp [errW_none, errW_some] <;> rfl) | (simp [*, errW_none, errW_some] <;> rfl), bl HB.out⟩
 rw [if_neg c9] at H
 have c9b0 : (a0_0 == a1_0) = false := Ya.mpr c9
 have c9b1 : (a0_0 != a1_0) = true := Yc.mpr c9
 obtain rfl := Xz H
 go_enter Tryz.func83, Tryz.ntmps83
 go_wp2_with (first | ((with_reducible refine Qx (N := 2) rfl ?_); refine Qv ?hg (N := 2) ?hd (cs := #[.int .i64 a0_0, .string a0_1, .int .i64 a0_2]) (t := 60) ?hr ?_; (case hd => rfl); (case hg => rfl); (case hr => first | (go_simp; done) | (go_simp; rfl)); intro gb312 hg w15 hbox hb; have n0_ := Qa (Qh (bl HB.out) hb); have n1_ := Qa (hbox); have n2_ := Qa ((by rw [hg]; exact (Qi (bl HB.out)) : w.heap.size ≤ gb312)); have n3_ := Qa ((by rw [hg]; exact (Qi (bl HB.out)) : w.heap.size ≤ gb312)); clear HB; have HB := n0_; have BK312 := n1_; have GW312 := n2_; have GE312 := n3_; clear n0_ n1_ n2_ n3_; clear hb hbox hg) | ((with_reducible refine Qx (N := 3) rfl ?_); refine Qv ?hg (N := 3) ?hd (cs := #[.int .i64 a1_0, .string a1_1, .int .i64 a1_2]) (t := 60) ?hr ?_; (case hd => rfl); (case hg => rfl); (case hr => first | (go_simp; done) | (go_simp; rfl)); intro gb313 hg w16 hbox hb; have n0_ := Qa (Qb (nc BK312.out) hb); have n1_ := Qa (Qh (bl HB.out) hb); have n2_ := Qa (hbox); have n3_ := Qa ((by rw [hg]; exact (Qi (bl HB.out)) : w.heap.size ≤ gb313)); have n4_ := Qa ((by rw [hg]; exact (Qi (bl HB.out)) : w.heap.size ≤ gb313)); have n5_ := Qa ((by rw [hg]; exact Nat.ne_of_lt (blk_lt (nc BK312.out)) : gb312 ≠ gb313)); have n6_ := Qa ((by rw [hg]; exact Nat.ne_of_gt (blk_lt (nc BK312.out)) : gb313 ≠ gb312)); clear BK312 HB; have BK312 := n0_; have HB := n1_; have BK313 := n2_; have GW313 := n3_; have GE313 := n4_; have NB312_313 := n5_; have NB313_312 := n6_; clear n0_ n1_ n2_ n3_ n4_ n5_ n6_; clear hb hbox hg; have hnb17 := NB312_313.out; have hnc17 := NB313_312.out; have hcz18_0 := hz BK312.out 0; have hcz18_1 := hz BK312.out 1; have hcz18_2 := hz BK312.out 2; have hfz18_0 := Qm BK312.out 0; have hfz18_1 := Qm BK312.out 1; have hfz18_2 := Qm BK312.out 2; have hcz19_0 := hz BK313.out 0; have hcz19_1 := hz BK313.out 1; have hcz19_2 := hz BK313.out 2; have hfz19_0 := Qm BK313.out 0; have hfz19_1 := Qm BK313.out 1; have hfz19_2 := Qm BK313.out 2))
 go_ret
 exact ⟨by first | rfl | (simp [errW_none, errW_some] <;> rfl) | (simp [*, errW_none, errW_some] <;> rfl), bl HB.out⟩
end Go.Proofs.YtejgfblphgcgkaaGreatDoor.P
