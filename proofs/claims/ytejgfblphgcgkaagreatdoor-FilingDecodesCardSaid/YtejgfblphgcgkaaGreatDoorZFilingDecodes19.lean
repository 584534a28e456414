/- Texts for the law FilingDecodes (kept out of a larger one). -/
import Derived.Test.YtejgfblphgcgkaaGreatDoorZFilingDecodes3
namespace Go.Proofs.YtejgfblphgcgkaaGreatDoor.P
open Go.RowKit Go.Proofs.YtejgfblphgcgkaaGreatDoorW.PrintWords Go.Proofs.YtejgfblphgcgkaaGreatDoorW.PrintLast Go.Proofs.YtejgfblphgcgkaaGreatDoorW.PrintMore
attribute [local go_sem] max2_int min2_int max_two min_two max_three min_three max_four min_four   -- for this text's walks alone
set_option linter.unusedVariables false
set_option linter.unusedSimpArgs false
mutual
def payrollref34_Number.j0 : Nat → Zb → Bool → Option (Int × Bool)
 | 0, _, _ => none
 | k + 1, x0, x4 => if x4 = true then (if 1 ≤ (x0.size : Int) then (payrollref34_Number.j1 k x4 (x0.extract 1 x0.size)) else (none)) else (payrollref34_Number.j1 k x4 x0)
def payrollref34_Number.j1 : Nat → Bool → Zb → Option (Int × Bool)
 | 0, _, _ => none
 | k + 1, x4, x5 => if x5.toList = ([] : List UInt8) then (payrollref34_Number.j2 k x4 x5 true) else (if (x5.size : Int) > 19 then (payrollref34_Number.j2 k x4 x5 true) else (if (x5.size : Int) = 19 then (if x5.toList = ([49,48,48,48,48,48,48,48,48,48,48,48,48,48,48,48,48,48,48] : List UInt8) then (if 0 < (x5.size : Int) then (if (bt x5 0) = 48 then (if (x5.size : Int) > 1 then (payrollref34_Number.j2 k x4 x5 true) else (payrollref34_Number.j2 k x4 x5 x4)) else (payrollref34_Number.j2 k x4 x5 false)) else (none)) else (payrollref34_Number.j2 k x4 x5 true)) else (if 0 < (x5.size : Int) then (if (bt x5 0) = 48 then (if (x5.size : Int) > 1 then (payrollref34_Number.j2 k x4 x5 true) else (payrollref34_Number.j2 k x4 x5 x4)) else (payrollref34_Number.j2 k x4 x5 false)) else (none))))
def payrollref34_Number.j2 : Nat → Bool → Zb → Bool → Option (Int × Bool)
 | 0, _, _, _ => none
 | k + 1, x4, x5, x48 => if x48 = true then (some (0, false)) else (payrollref34_Number.l0 k x4 x5 0 0)
def payrollref34_Number.l0 : Nat → Bool → Zb → Int → Int → Option (Int × Bool)
 | 0, _, _, _, _ => none
 | k + 1, x4, x5, x6, x7 => if x7 < (x5.size : Int) then (if 0 ≤ x7 then (if (bt x5 x7) < 48 then (some (0, false)) else (if (bt x5 x7) > 57 then (some (0, false)) else (payrollref34_Number.l0 k x4 x5 (wrap64 ((wrap64 (10 * x6)) + (((bt x5 x7) - 48) % 256))) (wrap64 (x7 + 1))))) else (none)) else (if x4 = true then (some (wrap64 (-x6), true)) else (some (x6, true)))
end
def payrollref34_Number.f (k : Nat) (a0 : Zb) : Option (Int × Bool) := if (a0.size : Int) > 1 then (if 0 < (a0.size : Int) then (payrollref34_Number.j0 k a0 ((bt a0 0) == 45)) else (none)) else (payrollref34_Number.j0 k a0 false)
set_option maxHeartbeats 8000000 in
set_option maxRecDepth 100000 in
theorem payrollref34_Number.calls (k : Nat) (a0 : Zb) (r1 : Int) (r2 : Bool) (w : World) (h : payrollref34_Number.f k a0 = some (r1, r2)) :
 Calls Tryz.prog 49 #[.string a0] w fun e w' => e = .returned (.tuple #[.int .i64 r1, .bool r2]) ∧ Drawn0 w w' := by
 have H : (if (a0.size : Int) > 1 then (if 0 < (a0.size : Int) then (payrollref34_Number.j0 k a0 ((bt a0 0) == 45)) else (none)) else (payrollref34_Number.j0 k a0 false)) = some (r1, r2) := h
 clear h
 have HC2 := Qa H
 clear H
 go_enter Tryz.func49, Tryz.ntmps49
 go_upto_region 1 with (fail)
 go_cut [4] (fun v4 wc => ∃ (kq : Nat) (x4_1 : Bool), v4 = .bool x4_1 ∧ Aside0 (payrollref34_Number.j0 kq a0 x4_1 = some (r1, r2)) ∧ Aside0 (kq ≤ k) ∧ Drawn0 w wc)
 case first =>
  have H := HC2.out
  clear HC2
  by_cases c3 : (a0.size : Int) > 1
  · rw [if_pos c3] at H
    have c3b0 : decide (1 < (a0.size : Int)) = true := Xq c3
    have c3b1 : decide (1 < a0.size) = true := Xq (by omega)
    clear c3
    (first | rw [c3b0] | (simp only [i64_w, i32_w]; rw [c3b0]) | skip)
    by_cases c4 : 0 < (a0.size : Int)
    · rw [if_pos c4] at H
      have c4b0 : decide (0 < (a0.size : Int)) = true := Xq c4
      have c4b1 : decide (0 < a0.size) = true := Xq (by omega)
      clear c4
      have H' := Qa H
      clear H
      have p5 : 0 ≤ (0 : Int) := (by omega)
      have q5 : 0 < a0.size := (by have : (0 : Int) < (a0.size : Int) := Xp (by assumption); omega)
      have hx5 : ∀ h : 0 < a0.size, ((a0[0]'h).toNat : Int) = bt a0 0 := bt_at a0 0
      clear p5
      have qi5 : (0 < (a0.size : Int)) = True := eq_true (Xp (by assumption))
      replace q5 := eq_true q5
      go_wp2
      go_meet
      case rel => exact ⟨_, (((bt a0 0) == 45)), (by first | rfl | (simp; done) | (simp [*]; done)), H', ⟨by first | omega | exact Nat.le_refl _⟩, by repeat (first | exact Drawn0.refl _ | apply Drawn0.step)⟩
    rw [if_neg c4] at H
    exact absurd H (by simp)
  rw [if_neg c3] at H
  have c3b0 : decide (1 < (a0.size : Int)) = false := Xr c3
  have c3b1 : decide (1 < a0.size) = false := Xr (by omega)
  clear c3
  (first | rw [c3b0] | (simp only [i64_w, i32_w]; rw [c3b0]) | skip)
  have H' := Qa H
  clear H
  go_wp2
  go_meet
  case rel => exact ⟨_, (false), (by first | rfl | (simp; done) | (simp [*]; done)), H', ⟨by first | omega | exact Nat.le_refl _⟩, by repeat (first | exact Drawn0.refl _ | apply Drawn0.step)⟩
 case rest =>
  clear HC2
  try clear p2
  try clear c3
  try clear c3b0
  try clear c3b1
  try clear c4
  try clear c4b0
  try clear c4b1
  try clear p5
  try clear q5
  try clear hx5
  try clear qi5
  try clear p5
  try clear q5
  obtain ⟨kq, x4_1, rfl, HA, HJ1, ⟨mc1, rfl⟩⟩ := hcut
  cases kq with
  | zero => exact absurd HA.out (by simp [payrollref34_Number.j0])
  | succ kj1 =>
   have H := HA.out
   clear HA
   simp only [payrollref34_Number.j0] at H
   have HC6 := Qa H
   clear H
   go_upto_if 17 with (fail)
   go_cut [5] (fun v5 wc => ∃ (kq : Nat) (x5_5 : Zb), v5 = .string x5_5 ∧ Aside0 (payrollref34_Number.j1 kq x4_1 x5_5 = some (r1, r2)) ∧ Aside0 (kq ≤ kj1) ∧ Drawn0 w wc)
   case first =>
    have H := HC6.out
    clear HC6
    by_cases c7 : x4_1 = true
    · subst c7
      have H1 : (if 1 ≤ (a0.size : Int) then (payrollref34_Number.j1 kj1 true (a0.extract 1 a0.size)) else (none)) = some (r1, r2) := by rw [if_pos rfl] at H; exact H
      clear H
      have H := H1
      clear H1
      by_cases c8 : 1 ≤ (a0.size : Int)
      · rw [if_pos c8] at H
        have c8b0 := eq_true c8
        have c8b1 : decide (1 ≤ (a0.size : Int)) = true := Xq c8
        clear c8
        have H' := Qa H
        clear H
        go_wp2
        go_meet
        case rel => exact ⟨_, (a0.extract 1 a0.size), (by first | rfl | (simp; done) | (simp [*]; done)), H', ⟨by have := HJ1.out; first | omega | exact Nat.le_refl _⟩, by repeat (first | exact Drawn0.refl _ | apply Drawn0.step)⟩
      rw [if_neg c8] at H
      exact absurd H (by simp)
    replace c7 := Bool.eq_false_iff.mpr c7
    subst c7
    have H1 : (payrollref34_Number.j1 kj1 false a0) = some (r1, r2) := by rw [if_neg (show ¬ (false = true) by decide)] at H; exact H
    clear H
    have H := H1
    clear H1
    have H' := Qa H
    clear H
    go_wp2
    go_meet
    case rel => exact ⟨_, (a0), (by first | rfl | (simp; done) | (simp [*]; done)), H', ⟨by have := HJ1.out; first | omega | exact Nat.le_refl _⟩, by repeat (first | exact Drawn0.refl _ | apply Drawn0.step)⟩
   case rest =>
    clear HC6
    try clear c1
    try clear p2
    try clear c3
    try clear c3b0
    try clear c3b1
    try clear c4
    try clear c4b0
    try clear c4b1
    try clear p5
    try clear q5
    try clear hx5
    try clear qi5
    try clear c7
    try clear c8
    try clear c8b0
    try clear c8b1
    try clear p2
    try clear p5
    try clear q5
    obtain ⟨kq, x5_5, rfl, HA, HJ5, ⟨mc5, rfl⟩⟩ := hcut
    cases kq with
    | zero => exact absurd HA.out (by simp [payrollref34_Number.j1])
    | succ kj5 =>
     have H := HA.out
     clear HA
     simp only [payrollref34_Number.j1] at H
     have HC9 := Qa H
     clear H
     go_upto_region 5 with (fail)
     go_cut [48] (fun v48 wc => ∃ (kq : Nat) (x48_8 : Bool), v48 = .bool x48_8 ∧ Aside0 (payrollref34_Number.j2 kq x4_1 x5_5 x48_8 = some (r1, r2)) ∧ Aside0 (kq ≤ kj5) ∧ Drawn0 w wc)
     case first =>
      have H := HC9.out
      clear HC9
      by_cases c10 : x5_5.toList = ([] : List UInt8)
      · rw [if_pos c10] at H
        have c10b0 : (x5_5.toList == ([] : List UInt8)) = true := Yb.mpr c10
        have c10b1 : (x5_5.toList != ([] : List UInt8)) = false := bne_eq_false_iff_eq.mpr c10
        clear c10
        (first | rw [c10b0] | (simp only [i64_w, i32_w]; rw [c10b0]) | skip)
        have H' := Qa H
        clear H
        go_wp2
        go_meet
        case rel => exact ⟨_, (true), (by first | rfl | (simp; done) | (simp [*]; done)), H', ⟨by have := HJ1.out; have := HJ5.out; first | omega | exact Nat.le_refl _⟩, by repeat (first | exact Drawn0.refl _ | apply Drawn0.step)⟩
      rw [if_neg c10] at H
      have c10b0 : (x5_5.toList == ([] : List UInt8)) = false := Ya.mpr c10
      have c10b1 : (x5_5.toList != ([] : List UInt8)) = true := Yc.mpr c10
      (first | rw [c10b0] | (simp only [i64_w, i32_w]; rw [c10b0]) | skip)
      by_cases c11 : (x5_5.size : Int) > 19
      · rw [if_pos c11] at H
        have c11b0 : decide (19 < (x5_5.size : Int)) = true := Xq c11
        have c11b1 : decide (19 < x5_5.size) = true := Xq (by omega)
        clear c11
        have H' := Qa H
        clear H
        go_wp2
        go_meet
        case rel => exact ⟨_, (true), (by first | rfl | (simp; done) | (simp [*]; done)), H', ⟨by have := HJ1.out; have := HJ5.out; first | omega | exact Nat.le_refl _⟩, by repeat (first | exact Drawn0.refl _ | apply Drawn0.step)⟩
      rw [if_neg c11] at H
      have c11b0 : decide (19 < (x5_5.size : Int)) = false := Xr c11
      have c11b1 : decide (19 < x5_5.size) = false := Xr (by omega)
      clear c11
      by_cases c12 : (x5_5.size : Int) = 19
      · rw [if_pos c12] at H
        have c12b0 : ((x5_5.size : Int) == 19) = true := Yb.mpr c12
        have c12b1 : ((x5_5.size : Int) != 19) = false := bne_eq_false_iff_eq.mpr c12
        clear c12
        by_cases c13 : x5_5.toList = ([49,48,48,48,48,48,48,48,48,48,48,48,48,48,48,48,48,48,48] : List UInt8)
        · rw [if_pos c13] at H
          have c13b0 : (x5_5.toList == ([49,48,48,48,48,48,48,48,48,48,48,48,48,48,48,48,48,48,48] : List UInt8)) = true := Yb.mpr c13
          have c13b1 : (x5_5.toList != ([49,48,48,48,48,48,48,48,48,48,48,48,48,48,48,48,48,48,48] : List UInt8)) = false := bne_eq_false_iff_eq.mpr c13
          clear c13
          by_cases c14 : 0 < (x5_5.size : Int)
          · rw [if_pos c14] at H
            have c14b0 : decide (0 < (x5_5.size : Int)) = true := Xq c14
            have c14b1 : decide (0 < x5_5.size) = true := Xq (by omega)
            clear c14
            by_cases c16 : (bt x5_5 0) = 48
            · rw [if_pos c16] at H
              have c16b0 : ((bt x5_5 0) == 48) = true := Yb.mpr c16
              have c16b1 : ((bt x5_5 0) != 48) = false := bne_eq_false_iff_eq.mpr c16
              clear c16
              by_cases c17 : (x5_5.size : Int) > 1
              · rw [if_pos c17] at H
                have c17b0 : decide (1 < (x5_5.size : Int)) = true := Xq c17
                have c17b1 : decide (1 < x5_5.size) = true := Xq (by omega)
                clear c17
                have H' := Qa H
                clear H
                have p15 : 0 ≤ (0 : Int) := (by omega)
                have q15 : 0 < x5_5.size := (by have : (0 : Int) < (x5_5.size : Int) := Xp (by assumption); omega)
                have hx15 : ∀ h : 0 < x5_5.size, ((x5_5[0]'h).toNat : Int) = bt x5_5 0 := bt_at x5_5 0
                clear p15
                have qi15 : (0 < (x5_5.size : Int)) = True := eq_true (Xp (by assumption))
                replace q15 := eq_true q15
                go_wp2
                go_meet
                case rel => exact ⟨_, (true), (by first | rfl | (simp; done) | (simp [*]; done)), H', ⟨by have := HJ1.out; have := HJ5.out; first | omega | exact Nat.le_refl _⟩, by repeat (first | exact Drawn0.refl _ | apply Drawn0.step)⟩
              rw [if_neg c17] at H
              have c17b0 : decide (1 < (x5_5.size : Int)) = false := Xr c17
              have c17b1 : decide (1 < x5_5.size) = false := Xr (by omega)
              clear c17
              have H' := Qa H
              clear H
              have p15 : 0 ≤ (0 : Int) := (by omega)
              have q15 : 0 < x5_5.size := (by have : (0 : Int) < (x5_5.size : Int) := Xp (by assumption); omega)
              have hx15 : ∀ h : 0 < x5_5.size, ((x5_5[0]'h).toNat : Int) = bt x5_5 0 := bt_at x5_5 0
              clear p15
              have qi15 : (0 < (x5_5.size : Int)) = True := eq_true (Xp (by assumption))
              replace q15 := eq_true q15
              go_wp2
              go_meet
              case rel => exact ⟨_, (x4_1), (by first | rfl | (simp; done) | (simp [*]; done)), H', ⟨by have := HJ1.out; have := HJ5.out; first | omega | exact Nat.le_refl _⟩, by repeat (first | exact Drawn0.refl _ | apply Drawn0.step)⟩
            rw [if_neg c16] at H
            have c16b0 : ((bt x5_5 0) == 48) = false := Ya.mpr c16
            have c16b1 : ((bt x5_5 0) != 48) = true := Yc.mpr c16
            have H' := Qa H
            clear H
            have p15 : 0 ≤ (0 : Int) := (by omega)
            have q15 : 0 < x5_5.size := (by have : (0 : Int) < (x5_5.size : Int) := Xp (by assumption); omega)
            have hx15 : ∀ h : 0 < x5_5.size, ((x5_5[0]'h).toNat : Int) = bt x5_5 0 := bt_at x5_5 0
            clear p15
            have qi15 : (0 < (x5_5.size : Int)) = True := eq_true (Xp (by assumption))
            replace q15 := eq_true q15
            go_wp2
            go_meet
            case rel => exact ⟨_, (false), (by first | rfl | (simp; done) | (simp [*]; done)), H', ⟨by have := HJ1.out; have := HJ5.out; first | omega | exact Nat.le_refl _⟩, by repeat (first | exact Drawn0.refl _ | apply Drawn0.step)⟩
          rw [if_neg c14] at H
          exact absurd H (by simp)
        rw [if_neg c13] at H
        have c13b0 : (x5_5.toList == ([49,48,48,48,48,48,48,48,48,48,48,48,48,48,48,48,48,48,48] : List UInt8)) = false := Ya.mpr c13
        have c13b1 : (x5_5.toList != ([49,48,48,48,48,48,48,48,48,48,48,48,48,48,48,48,48,48,48] : List UInt8)) = true := Yc.mpr c13
        have H' := Qa H
        clear H
        go_wp2
        go_meet
        case rel => exact ⟨_, (true), (by first | rfl | (simp; done) | (simp [*]; done)), H', ⟨by have := HJ1.out; have := HJ5.out; first | omega | exact Nat.le_refl _⟩, by repeat (first | exact Drawn0.refl _ | apply Drawn0.step)⟩
      rw [if_neg c12] at H
      have c12b0 : ((x5_5.size : Int) == 19) = false := Ya.mpr c12
      have c12b1 : ((x5_5.size : Int) != 19) = true := Yc.mpr c12
      by_cases c18 : 0 < (x5_5.size : Int)
      · rw [if_pos c18] at H
        have c18b0 : decide (0 < (x5_5.size : Int)) = true := Xq c18
        have c18b1 : decide (0 < x5_5.size) = true := Xq (by omega)
        clear c18
        by_cases c20 : (bt x5_5 0) = 48
        · rw [if_pos c20] at H
          have c20b0 : ((bt x5_5 0) == 48) = true := Yb.mpr c20
          have c20b1 : ((bt x5_5 0) != 48) = false := bne_eq_false_iff_eq.mpr c20
          clear c20
          by_cases c21 : (x5_5.size : Int) > 1
          · rw [if_pos c21] at H
            have c21b0 : decide (1 < (x5_5.size : Int)) = true := Xq c21
            have c21b1 : decide (1 < x5_5.size) = true := Xq (by omega)
            clear c21
            have H' := Qa H
            clear H
            have p19 : 0 ≤ (0 : Int) := (by omega)
            have q19 : 0 < x5_5.size := (by have : (0 : Int) < (x5_5.size : Int) := Xp (by assumption); omega)
            have hx19 : ∀ h : 0 < x5_5.size, ((x5_5[0]'h).toNat : Int) = bt x5_5 0 := bt_at x5_5 0
            clear p19
            have qi19 : (0 < (x5_5.size : Int)) = True := eq_true (Xp (by assumption))
            replace q19 := eq_true q19
            go_wp2
            go_meet
            case rel => exact ⟨_, (true), (by first | rfl | (simp; done) | (simp [*]; done)), H', ⟨by have := HJ1.out; have := HJ5.out; first | omega | exact Nat.le_refl _⟩, by repeat (first | exact Drawn0.refl _ | apply Drawn0.step)⟩
          rw [if_neg c21] at H
          have c21b0 : decide (1 < (x5_5.size : Int)) = false := Xr c21
          have c21b1 : decide (1 < x5_5.size) = false := Xr (by omega)
          clear c21
          have H' := Qa H
          clear H
          have p19 : 0 ≤ (0 : Int) := (by omega)
          have q19 : 0 < x5_5.size := (by have : (0 : Int) < (x5_5.size : Int) := Xp (by assumption); omega)
          have hx19 : ∀ h : 0 < x5_5.size, ((x5_5[0]'h).toNat : Int) = bt x5_5 0 := bt_at x5_5 0
          clear p19
          have qi19 : (0 < (x5_5.size : Int)) = True := eq_true (Xp (by assumption))
          replace q19 := eq_true q19
          go_wp2
          go_meet
          case rel => exact ⟨_, (x4_1), (by first | rfl | (simp; done) | (simp [*]; done)), H', ⟨by have := HJ1.out; have := HJ5.out; first | omega | exact Nat.le_refl _⟩, by repeat (first | exact Drawn0.refl _ | apply Drawn0.step)⟩
        rw [if_neg c20] at H
        have c20b0 : ((bt x5_5 0) == 48) = false := Ya.mpr c20
        have c20b1 : ((bt x5_5 0) != 48) = true := Yc.mpr c20
        have H' := Qa H
        clear H
        have p19 : 0 ≤ (0 : Int) := (by omega)
        have q19 : 0 < x5_5.size := (by have : (0 : Int) < (x5_5.size : Int) := Xp (by assumption); omega)
        have hx19 : ∀ h : 0 < x5_5.size, ((x5_5[0]'h).toNat : Int) = bt x5_5 0 := bt_at x5_5 0
        clear p19
        have qi19 : (0 < (x5_5.size : Int)) = True := eq_true (Xp (by assumption))
        replace q19 := eq_true q19
        go_wp2
        go_meet
        case rel => exact ⟨_, (false), (by first | rfl | (simp; done) | (simp [*]; done)), H', ⟨by have := HJ1.out; have := HJ5.out; first | omega | exact Nat.le_refl _⟩, by repeat (first | exact Drawn0.refl _ | apply Drawn0.step)⟩
      rw [if_neg c18] at H
      exact absurd H (by simp)
     case rest =>
      clear HC9
      try clear c1
      try clear p1
      try clear q1
      try clear hx1
      try clear qi1
      try clear c2
      try clear p2
      try clear c3
      try clear c3b0
      try clear c3b1
      try clear c4
      try clear c4b0
      try clear c4b1
      try clear c5
      try clear p5
      try clear q5
      try clear hx5
      try clear qi5
      try clear c7
      try clear c8
      try clear c8b0
      try clear c8b1
      try clear c10
      try clear c10b0
      try clear c10b1
      try clear c11
      try clear c11b0
      try clear c11b1
      try clear c12
      try clear c12b0
      try clear c12b1
      try clear c13
      try clear c13b0
      try clear c13b1
      try clear c14
      try clear c14b0
      try clear c14b1
      try clear p15
      try clear q15
      try clear hx15
      try clear qi15
      try clear c16
      try clear c16b0
      try clear c16b1
      try clear c17
      try clear c17b0
      try clear c17b1
      try clear c18
      try clear c18b0
      try clear c18b1
      try clear p19
      try clear q19
      try clear hx19
      try clear qi19
      try clear c20
      try clear c20b0
      try clear c20b1
      try clear c21
      try clear c21b0
      try clear c21b1
      try clear p15
      try clear p19
      try clear p2
      try clear p5
      try clear q15
      try clear q19
      try clear q5
      obtain ⟨kq, x48_8, rfl, HA, HJ8, ⟨mc8, rfl⟩⟩ := hcut
      cases kq with
      | zero => exact absurd HA.out (by simp [payrollref34_Number.j2])
      | succ kj8 =>
       have H := HA.out
       clear HA
       simp only [payrollref34_Number.j2] at H
       by_cases c22 : x48_8 = true
       · subst c22
         have H1 : (some (0, false)) = some (r1, r2) := by rw [if_pos rfl] at H; exact H
         clear H
         have H := H1
         clear H1
         simp only [Option.some.injEq, Prod.mk.injEq] at H
         obtain ⟨rfl, rfl⟩ := H
         go_wp2
         go_ret2
         exact ⟨by first | rfl | (simp; done) | (simp [*]; done), by repeat (first | exact Drawn0.refl _ | apply Drawn0.step)⟩
       replace c22 := Bool.eq_false_iff.mpr c22
       subst c22
       have H1 : (payrollref34_Number.l0 kj8 x4_1 x5_5 0 0) = some (r1, r2) := by rw [if_neg (show ¬ (false = true) by decide)] at H; exact H
       clear H
       have H := H1
       clear H1
       have H' := Qa H
       clear H
       go_wp2
       go_loopg [6,7] kj8 (fun kq v6 v7 w' => ∃ (x6_4 : Int) (x7_4 : Int), v6 = .int .i64 x6_4 ∧ v7 = .int .i64 x7_4 ∧ Aside0 (payrollref34_Number.l0 kq x4_1 x5_5 x6_4 x7_4 = some (r1, r2)) ∧ Aside0 (kq ≤ kj8) ∧ Drawn0 w w')
       case atStart => exact ⟨(0), (0), (by first | rfl | (simp; done) | (simp [*]; done)), (by first | rfl | (simp; done) | (simp [*]; done)), H', ⟨Nat.le_refl _⟩, by repeat (first | exact Drawn0.refl _ | apply Drawn0.step)⟩
       case round =>
        clear H'
        try clear c1
        try clear p1
        try clear q1
        try clear hx1
        try clear qi1
        try clear c2
        try clear p2
        try clear c3
        try clear c3b0
        try clear c3b1
        try clear c4
        try clear c4b0
        try clear c4b1
        try clear c5
        try clear p5
        try clear q5
        try clear hx5
        try clear qi5
        try clear c7
        try clear c8
        try clear c8b0
        try clear c8b1
        try clear c10
        try clear c10b0
        try clear c10b1
        try clear c11
        try clear c11b0
        try clear c11b1
        try clear c12
        try clear c12b0
        try clear c12b1
        try clear c13
        try clear c13b0
        try clear c13b1
        try clear c14
        try clear c14b0
        try clear c14b1
        try clear p15
        try clear q15
        try clear hx15
        try clear qi15
        try clear c16
        try clear c16b0
        try clear c16b1
        try clear c17
        try clear c17b0
        try clear c17b1
        try clear c18
        try clear c18b0
        try clear c18b1
        try clear p19
        try clear q19
        try clear hx19
        try clear qi19
        try clear c20
        try clear c20b0
        try clear c20b1
        try clear c21
        try clear c21b0
        try clear c21b1
        try clear c22
        try clear p1
        try clear p15
        try clear p19
        try clear p2
        try clear p5
        try clear q1
        try clear q15
        try clear q19
        try clear q5
        obtain ⟨x6_4, x7_4, rfl, rfl, HA, HK4, ⟨m4, rfl⟩⟩ := hrel
        cases gk with
        | zero => exact absurd HA.out (by simp [payrollref34_Number.l0])
        | succ k4 =>
         have H := HA.out
         clear HA
         simp only [payrollref34_Number.l0] at H
         by_cases c23 : x7_4 < (x5_5.size : Int)
         · rw [if_pos c23] at H
           have c23b0 : decide (x7_4 < (x5_5.size : Int)) = true := Xq c23
           clear c23
           by_cases c24 : 0 ≤ x7_4
           · rw [if_pos c24] at H
             have c24b0 : decide (0 ≤ x7_4) = true := Xq c24
             clear c24
             by_cases c26 : (bt x5_5 x7_4) < 48
             · rw [if_pos c26] at H
               have c26b0 : decide ((bt x5_5 x7_4) < 48) = true := Xq c26
               clear c26
               simp only [Option.some.injEq, Prod.mk.injEq] at H
               obtain ⟨rfl, rfl⟩ := H
               have p25 : 0 ≤ (x7_4 : Int) := Xp (by assumption)
               have q25 : x7_4 < (x5_5.size : Int) := Xp (by assumption)
               have hx25 := bt_at x5_5 x7_4
               replace p25 := eq_true p25
               replace q25 := eq_true q25
               go_wp2
               go_ret2
               exact ⟨by first | rfl | (simp; done) | (simp [*]; done), by repeat (first | exact Drawn0.refl _ | apply Drawn0.step)⟩
             rw [if_neg c26] at H
             have c26b0 : decide ((bt x5_5 x7_4) < 48) = false := Xr c26
             clear c26
             by_cases c28 : (bt x5_5 x7_4) > 57
             · rw [if_pos c28] at H
               have c28b0 : decide (57 < (bt x5_5 x7_4)) = true := Xq c28
               clear c28
               simp only [Option.some.injEq, Prod.mk.injEq] at H
               obtain ⟨rfl, rfl⟩ := H
               have p25 : 0 ≤ (x7_4 : Int) := Xp (by assumption)
               have q25 : x7_4 < (x5_5.size : Int) := Xp (by assumption)
               have hx25 := bt_at x5_5 x7_4
               replace p25 := eq_true p25
               replace q25 := eq_true q25
               have p27 : 0 ≤ (x7_4 : Int) := Xp (by assumption)
               have q27 : x7_4 < (x5_5.size : Int) := Xp (by assumption)
               have hx27 := bt_at x5_5 x7_4
               replace p27 := eq_true p27
               replace q27 := eq_true q27
               go_wp2
               go_ret2
               exact ⟨by first | rfl | (simp; done) | (simp [*]; done), by repeat (first | exact Drawn0.refl _ | apply Drawn0.step)⟩
             rw [if_neg c28] at H
             have c28b0 : decide (57 < (bt x5_5 x7_4)) = false := Xr c28
             clear c28
             have H' := Qa H
             clear H
             have p25 : 0 ≤ (x7_4 : Int) := Xp (by assumption)
             have q25 : x7_4 < (x5_5.size : Int) := Xp (by assumption)
             have hx25 := bt_at x5_5 x7_4
             replace p25 := eq_true p25
             replace q25 := eq_true q25
             have p27 : 0 ≤ (x7_4 : Int) := Xp (by assumption)
             have q27 : x7_4 < (x5_5.size : Int) := Xp (by assumption)
             have hx27 := bt_at x5_5 x7_4
             replace p27 := eq_true p27
             replace q27 := eq_true q27
             have p29 : 0 ≤ (x7_4 : Int) := Xp (by assumption)
             have q29 : x7_4 < (x5_5.size : Int) := Xp (by assumption)
             have hx29 := bt_at x5_5 x7_4
             replace p29 := eq_true p29
             replace q29 := eq_true q29
             go_wp2
             go_roundg k4
             case measure => have := HJ1.out; have := HJ5.out; have := HJ8.out; have := HK4.out; omega
             case rel => exact ⟨(wrap64 ((wrap64 (10 * x6_4)) + (((bt x5_5 x7_4) - 48) % 256))), (wrap64 (x7_4 + 1)), (by first | rfl | (simp; done) | (simp [*]; done)), (by first | rfl | (simp; done) | (simp [*]; done)), H', ⟨by have := HJ1.out; have := HJ5.out; have := HJ8.out; have := HK4.out; omega⟩, by repeat (first | exact Drawn0.refl _ | apply Drawn0.step)⟩
           rw [if_neg c24] at H
           exact absurd H (by simp)
         rw [if_neg c23] at H
         have c23b0 : decide (x7_4 < (x5_5.size : Int)) = false := Xr c23
         clear c23
         by_cases c30 : x4_1 = true
         · subst c30
           have H1 : (some (wrap64 (-x6_4), true)) = some (r1, r2) := by rw [if_pos rfl] at H; exact H
           clear H
           have H := H1
           clear H1
           simp only [Option.some.injEq, Prod.mk.injEq] at H
           obtain ⟨rfl, rfl⟩ := H
           go_wp2
           go_ret2
           exact ⟨by first | rfl | (simp; done) | (simp [*]; done), by repeat (first | exact Drawn0.refl _ | apply Drawn0.step)⟩
         replace c30 := Bool.eq_false_iff.mpr c30
         subst c30
         have H1 : (some (x6_4, true)) = some (r1, r2) := by rw [if_neg (show ¬ (false = true) by decide)] at H; exact H
         clear H
         have H := H1
         clear H1
         simp only [Option.some.injEq, Prod.mk.injEq] at H
         obtain ⟨rfl, rfl⟩ := H
         go_wp2
         go_ret2
         exact ⟨by first | rfl | (simp; done) | (simp [*]; done), by repeat (first | exact Drawn0.refl _ | apply Drawn0.step)⟩
end Go.Proofs.YtejgfblphgcgkaaGreatDoor.P
