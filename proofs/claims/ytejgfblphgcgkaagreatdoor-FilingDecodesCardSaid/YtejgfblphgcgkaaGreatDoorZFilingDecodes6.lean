/- Texts for the law FilingDecodes (kept out of a larger one). -/
import Derived.Test.YtejgfblphgcgkaaGreatDoorZFilingDecodes5
namespace Go.Proofs.YtejgfblphgcgkaaGreatDoor.P
open Go.RowKit Go.Proofs.YtejgfblphgcgkaaGreatDoorW.PrintWords Go.Proofs.YtejgfblphgcgkaaGreatDoorW.PrintLast Go.Proofs.YtejgfblphgcgkaaGreatDoorW.PrintMore
attribute [local go_sem] max2_int min2_int max_two min_two max_three min_three max_four min_four   -- for this text's walks alone
set_option linter.unusedVariables false
set_option linter.unusedSimpArgs false
mutual
def filing_Valid.j0 : Nat → Bool → Int → Int → List (S60) → Option (Bool)
 | 0, _, _, _, _ => none
 | k + 1, x28, x118000, x118001, x118002 => if x28 = true then (some false) else (filing_Valid.l0 k x118002 (x118002.length : Int) 0 x118000 x118001 x118002)
def filing_Valid.l0 : Nat → List (S60) → Int → Int → Int → Int → List (S60) → Option (Bool)
 | 0, _, _, _, _, _, _ => none
 | k + 1, x30, x31, x32, x118000, x118001, x118002 => if x32 < x31 then (if 0 ≤ x32 then (if x32 < (x30.length : Int) then ((filing_word.f ((rd_T60 x30 x32).f0)).bind fun t120 => (if t120.toList = ([] : List UInt8) then (filing_Valid.j2 k x32 x30 x31 x32 true x118000 x118001 x118002 ((rd_T60 x30 x32).f0) ((rd_T60 x30 x32).f1) ((rd_T60 x30 x32).f2)) else ((payslip_Form.f k ((rd_T60 x30 x32).f0) ((rd_T60 x30 x32).f1) ((rd_T60 x30 x32).f2)).bind fun t121 => (filing_Valid.j2 k x32 x30 x31 x32 (!t121) x118000 x118001 x118002 ((rd_T60 x30 x32).f0) ((rd_T60 x30 x32).f1) ((rd_T60 x30 x32).f2))))) else (none)) else (none)) else (some true)
def filing_Valid.j2 : Nat → Int → List (S60) → Int → Int → Bool → Int → Int → List (S60) → Int → Zb → Int → Option (Bool)
 | 0, _, _, _, _, _, _, _, _, _, _, _ => none
 | k + 1, x3, x30, x31, x32, x45, x118000, x118001, x118002, x120000, x120001, x120002 => if x45 = true then (some false) else (if x3 > 0 then (if 0 ≤ (wrap64 (x3 - 1)) then (if (wrap64 (x3 - 1)) < (x118002.length : Int) then ((cmp_Compare_int.f ((rd_T60 x118002 (wrap64 (x3 - 1))).f0) x120000).bind fun t123 => ((cmp_Compare_string.f ((rd_T60 x118002 (wrap64 (x3 - 1))).f1) x120001).bind fun t125 => ((cmp_Or_int.f k (([t123, t125] : List Int))).bind fun t129 => (if t129 ≥ 0 then (some false) else (filing_Valid.l0 k x30 x31 (wrap64 (x32 + 1)) x118000 x118001 x118002))))) else (none)) else (none)) else (filing_Valid.l0 k x30 x31 (wrap64 (x32 + 1)) x118000 x118001 x118002))
end
def filing_Valid.f (k : Nat) (a0_0 : Int) (a0_1 : Int) (l0_2 : List (S60)) : Option (Bool) := if a0_0 < 0 then (filing_Valid.j0 k true a0_0 a0_1 l0_2) else (if a0_0 > 84005 then (filing_Valid.j0 k true a0_0 a0_1 l0_2) else (if a0_1 < 1 then (filing_Valid.j0 k true a0_0 a0_1 l0_2) else (if a0_1 > 65536 then (filing_Valid.j0 k true a0_0 a0_1 l0_2) else (filing_Valid.j0 k (decide ((l0_2.length : Int) > 256)) a0_0 a0_1 l0_2))))
def filing_Valid.T8 : Bool × List (List Nat × List Nat) := (true, [([], []), ([0], [0]), ([1], [1]), ([2], [2]), ([3,2], [2,3]), ([2], [2]), ([5,2], [2,5]), ([4,6,2], [2,4,6]), ([7,2], [2,7]), ([8,2], [2,8]), ([2], [2]), ([10,2], [2,10]), ([9,11,2,2], [2,9,11]), ([2], [2]), ([13,2], [2,13]), ([2], [2]), ([15,2], [2,15]), ([14,16,2], [2,14,16]), ([17,2], [2,17]), ([18,2], [2,18]), ([2], [2]), ([20,2], [2,20]), ([19,21,12,2], [2,19,21]), ([12,22,2], [2,12,22]), ([23,22,2], [2,23]), ([24,2], [2,24]), ([2,25], [2,25])])
def filing_Valid.B8 : List Nat := [0,1,3,7,15,7,39,127,255,511,7,1031,4095,7,8199,7,32775,122887,253959,516103,7,1048583,4194303,8388607,16777215,33554431,67108863]
theorem filing_Valid.tab8 : rtab .any (opsOf Tryz.f16 8) = filing_Valid.T8 := by kernel_rfl
theorem filing_Valid.bits8 : waitsOk filing_Valid.T8.2 filing_Valid.B8 = true := by kernel_rfl
set_option maxHeartbeats 8000000 in
set_option maxRecDepth 100000 in
theorem filing_Valid.calls (k : Nat) (a0_0 : Int) (a0_1 : Int) (A0_2 : Option Addr) (c0_2 : Nat) (l0_2 : List (S60)) (r : Bool) (w : World) (hr0_2 : Kd.C k60 w A0_2 l0_2.length l0_2) (hc0_2 : l0_2.length ≤ c0_2) (h : filing_Valid.f k a0_0 a0_1 l0_2 = some r) :
 Calls Tryz.prog 16 #[.agg #[.int .i64 a0_0, .int .i64 a0_1, .slice A0_2 l0_2.length c0_2]] w fun e w' => e = .returned (.bool r) ∧ Below w.heap.size w w' := by
 have hu25 := Tryz.underlying25
 have hu60 := Tryz.underlying60
 have HR0_2 := Qa hr0_2
 have HC0_2 := Qa hc0_2
 clear hr0_2 hc0_2
 have HB := Qa (Below.refl w.heap.size w)
 have H : (if a0_0 < 0 then (filing_Valid.j0 k true a0_0 a0_1 l0_2) else (if a0_0 > 84005 then (filing_Valid.j0 k true a0_0 a0_1 l0_2) else (if a0_1 < 1 then (filing_Valid.j0 k true a0_0 a0_1 l0_2) else (if a0_1 > 65536 then (filing_Valid.j0 k true a0_0 a0_1 l0_2) else (filing_Valid.j0 k (decide ((l0_2.length : Int) > 256)) a0_0 a0_1 l0_2))))) = some r := h
 clear h
 have HC2 := Qa H
 clear H
 go_enter Tryz.func16, Tryz.ntmps16
 go_upto_region 1 with (first | ((with_reducible refine Qx (N := 1) rfl ?_); (try (refine gate_guard (by rfl) ?_; dsimp only)); refine Qv ?hg (N := 1) ?hd (cs := #[.int .i64 a0_0, .int .i64 a0_1, .slice A0_2 l0_2.length c0_2]) (t := 25) ?hr ?_; (case hd => rfl); (case hg => rfl); (case hr => first | (go_simp; done) | (go_simp; rfl)); intro gb117 hg w3 hbox hb; have n0_ := Qa (Qh (bl HB.out) hb); have n1_ := Qa (hbox); have n2_ := Qa ((by rw [hg]; exact (Qi (bl HB.out)) : w.heap.size ≤ gb117)); have n3_ := Qa ((by rw [hg]; exact (Qi (bl HB.out)) : w.heap.size ≤ gb117)); clear HB; have HB := n0_; have BK117 := n1_; have GW117 := n2_; have GE117 := n3_; clear n0_ n1_ n2_ n3_; clear hb hbox hg))
 (try simp only [Act.put, Xt, Xu, Xv])
 go_cut [28] (fun v28 wc => ∃ (kq : Nat) (x28_1 : Bool), v28 = .bool x28_1 ∧ Aside0 (filing_Valid.j0 kq x28_1 a0_0 a0_1 l0_2 = some r) ∧ Aside0 (kq ≤ k) ∧ Aside0 (wc.heap[gb117]? = some (.cells #[.int .i64 a0_0, .int .i64 a0_1, (.slice A0_2 l0_2.length c0_2)] 25 (0,0))) ∧ Aside0 (Below w.heap.size w wc))
 case first =>
  have H := HC2.out
  clear HC2
  by_cases c4 : a0_0 < 0
  · rw [if_pos c4] at H
    have c4b0 : decide (a0_0 < 0) = true := Xq c4
    clear c4
    (first | rw [c4b0] | (simp only [i64_w, i32_w]; rw [c4b0]) | skip)
    have H' := Qa H
    clear H
    have hcz5_0 := hz BK117.out 0
    have hcz5_1 := hz BK117.out 1
    have hcz5_2 := hz BK117.out 2
    have hfz5_0 := Qm BK117.out 0
    have hfz5_1 := Qm BK117.out 1
    have hfz5_2 := Qm BK117.out 2
    go_wp2
    go_meet
    case rel => exact ⟨_, (true), (by first | rfl | (simp; done) | (simp [*]; done)), H', ⟨by first | omega | exact Nat.le_refl _⟩, ⟨nc BK117.out⟩, ⟨bl HB.out⟩⟩
  rw [if_neg c4] at H
  have c4b0 : decide (a0_0 < 0) = false := Xr c4
  clear c4
  (first | rw [c4b0] | (simp only [i64_w, i32_w]; rw [c4b0]) | skip)
  by_cases c6 : a0_0 > 84005
  · rw [if_pos c6] at H
    have c6b0 : decide (84005 < a0_0) = true := Xq c6
    clear c6
    have H' := Qa H
    clear H
    have hcz7_0 := hz BK117.out 0
    have hcz7_1 := hz BK117.out 1
    have hcz7_2 := hz BK117.out 2
    have hfz7_0 := Qm BK117.out 0
    have hfz7_1 := Qm BK117.out 1
    have hfz7_2 := Qm BK117.out 2
    go_wp2
    go_meet
    case rel => exact ⟨_, (true), (by first | rfl | (simp; done) | (simp [*]; done)), H', ⟨by first | omega | exact Nat.le_refl _⟩, ⟨nc BK117.out⟩, ⟨bl HB.out⟩⟩
  rw [if_neg c6] at H
  have c6b0 : decide (84005 < a0_0) = false := Xr c6
  clear c6
  by_cases c8 : a0_1 < 1
  · rw [if_pos c8] at H
    have c8b0 : decide (a0_1 < 1) = true := Xq c8
    clear c8
    have H' := Qa H
    clear H
    have hcz9_0 := hz BK117.out 0
    have hcz9_1 := hz BK117.out 1
    have hcz9_2 := hz BK117.out 2
    have hfz9_0 := Qm BK117.out 0
    have hfz9_1 := Qm BK117.out 1
    have hfz9_2 := Qm BK117.out 2
    go_wp2
    go_meet
    case rel => exact ⟨_, (true), (by first | rfl | (simp; done) | (simp [*]; done)), H', ⟨by first | omega | exact Nat.le_refl _⟩, ⟨nc BK117.out⟩, ⟨bl HB.out⟩⟩
  rw [if_neg c8] at H
  have c8b0 : decide (a0_1 < 1) = false := Xr c8
  clear c8
  by_cases c10 : a0_1 > 65536
  · rw [if_pos c10] at H
    have c10b0 : decide (65536 < a0_1) = true := Xq c10
    clear c10
    have H' := Qa H
    clear H
    have hcz11_0 := hz BK117.out 0
    have hcz11_1 := hz BK117.out 1
    have hcz11_2 := hz BK117.out 2
    have hfz11_0 := Qm BK117.out 0
    have hfz11_1 := Qm BK117.out 1
    have hfz11_2 := Qm BK117.out 2
    go_wp2
    go_meet
    case rel => exact ⟨_, (true), (by first | rfl | (simp; done) | (simp [*]; done)), H', ⟨by first | omega | exact Nat.le_refl _⟩, ⟨nc BK117.out⟩, ⟨bl HB.out⟩⟩
  rw [if_neg c10] at H
  have c10b0 : decide (65536 < a0_1) = false := Xr c10
  clear c10
  have H' := Qa H
  clear H
  have hcz12_0 := hz BK117.out 0
  have hcz12_1 := hz BK117.out 1
  have hcz12_2 := hz BK117.out 2
  have hfz12_0 := Qm BK117.out 0
  have hfz12_1 := Qm BK117.out 1
  have hfz12_2 := Qm BK117.out 2
  go_wp2
  go_meet
  case rel => exact ⟨_, (decide ((l0_2.length : Int) > 256)), (by first | rfl | (simp; done) | (simp [*]; done)), H', ⟨by first | omega | exact Nat.le_refl _⟩, ⟨nc BK117.out⟩, ⟨bl HB.out⟩⟩
 case rest =>
  clear HC2
  try clear c1
  try clear p2
  try clear c4
  try clear c4b0
  try clear c6
  try clear c6b0
  try clear c8
  try clear c8b0
  try clear c10
  try clear c10b0
  try clear hcz11_0
  try clear hcz11_1
  try clear hcz11_2
  try clear hcz12_0
  try clear hcz12_1
  try clear hcz12_2
  try clear hcz5_0
  try clear hcz5_1
  try clear hcz5_2
  try clear hcz7_0
  try clear hcz7_1
  try clear hcz7_2
  try clear hcz9_0
  try clear hcz9_1
  try clear hcz9_2
  try clear hfz11_0
  try clear hfz11_1
  try clear hfz11_2
  try clear hfz12_0
  try clear hfz12_1
  try clear hfz12_2
  try clear hfz5_0
  try clear hfz5_1
  try clear hfz5_2
  try clear hfz7_0
  try clear hfz7_1
  try clear hfz7_2
  try clear hfz9_0
  try clear hfz9_1
  try clear hfz9_2
  obtain ⟨kq, x28_1, rfl, HA, HJ1, BK117, HB⟩ := hcut
  cases kq with
  | zero => exact absurd HA.out (by simp [filing_Valid.j0])
  | succ kj1 =>
   have H := HA.out
   clear HA
   simp only [filing_Valid.j0] at H
   by_cases c13 : x28_1 = true
   · subst c13
     have H1 : (some false) = some r := by rw [if_pos rfl] at H; exact H
     clear H
     have H := H1
     clear H1
     obtain rfl := Xz H
     go_wp2
     go_ret
     exact ⟨by first | rfl | (simp [errW_none, errW_some] <;> rfl) | (simp [*, errW_none, errW_some] <;> rfl), bl HB.out⟩
   replace c13 := Bool.eq_false_iff.mpr c13
   subst c13
   have H1 : (filing_Valid.l0 kj1 l0_2 (l0_2.length : Int) 0 a0_0 a0_1 l0_2) = some r := by rw [if_neg (show ¬ (false = true) by decide)] at H; exact H
   clear H
   have H := H1
   clear H1
   have H' := Qa H
   clear H
   have hcz14_0 := hz BK117.out 0
   have hcz14_1 := hz BK117.out 1
   have hcz14_2 := hz BK117.out 2
   have hfz14_0 := Qm BK117.out 0
   have hfz14_1 := Qm BK117.out 1
   have hfz14_2 := Qm BK117.out 2
   go_wp2
   go_loopg [32] kj1 (fun kq v32 w' => ∃ (x32_2 : Int), v32 = .int .i64 x32_2 ∧ Aside0 (filing_Valid.l0 kq l0_2 (l0_2.length : Int) x32_2 a0_0 a0_1 l0_2 = some r) ∧ Aside0 (kq ≤ kj1) ∧ Aside0 (w'.heap[gb117]? = some (.cells #[.int .i64 a0_0, .int .i64 a0_1, (.slice A0_2 l0_2.length c0_2)] 25 (0,0))) ∧ Aside0 (Below w.heap.size w w'))
   case atStart => exact ⟨(0), (by first | rfl | (simp; done) | (simp [*]; done)), H', ⟨Nat.le_refl _⟩, ⟨nc BK117.out⟩, ⟨bl HB.out⟩⟩
   case round =>
    clear H'
    try clear c1
    try clear p2
    try clear c4
    try clear c4b0
    try clear c6
    try clear c6b0
    try clear c8
    try clear c8b0
    try clear c10
    try clear c10b0
    try clear c13
    try clear hcz11_0
    try clear hcz11_1
    try clear hcz11_2
    try clear hcz12_0
    try clear hcz12_1
    try clear hcz12_2
    try clear hcz14_0
    try clear hcz14_1
    try clear hcz14_2
    try clear hcz5_0
    try clear hcz5_1
    try clear hcz5_2
    try clear hcz7_0
    try clear hcz7_1
    try clear hcz7_2
    try clear hcz9_0
    try clear hcz9_1
    try clear hcz9_2
    try clear hfz11_0
    try clear hfz11_1
    try clear hfz11_2
    try clear hfz12_0
    try clear hfz12_1
    try clear hfz12_2
    try clear hfz14_0
    try clear hfz14_1
    try clear hfz14_2
    try clear hfz5_0
    try clear hfz5_1
    try clear hfz5_2
    try clear hfz7_0
    try clear hfz7_1
    try clear hfz7_2
    try clear hfz9_0
    try clear hfz9_1
    try clear hfz9_2
    try clear p2
    obtain ⟨x32_2, rfl, HA, HK2, BK117, HB⟩ := hrel
    cases gk with
    | zero => exact absurd HA.out (by simp [filing_Valid.l0])
    | succ k2 =>
     have H := HA.out
     clear HA
     simp only [filing_Valid.l0] at H
     by_cases c15 : x32_2 < (l0_2.length : Int)
     · rw [if_pos c15] at H
       have c15b0 : decide (x32_2 < (l0_2.length : Int)) = true := Xq c15
       clear c15
       by_cases c16 : 0 ≤ x32_2
       · rw [if_pos c16] at H
         have c16b0 : decide (0 ≤ x32_2) = true := Xq c16
         clear c16
         by_cases c17 : x32_2 < (l0_2.length : Int)
         · rw [if_pos c17] at H
           have c17b0 : decide (x32_2 < (l0_2.length : Int)) = true := Xq c17
           clear c17
           have HC18 := Qa H
           clear H
           have p118 : 0 ≤ (x32_2 : Int) := Xp (by assumption)
           have q118 : x32_2 < (l0_2.length : Int) := Xp (by assumption)
           obtain ⟨ad118, e118, hx118_0, hx118_1, hx118_2⟩ := at_T60 HR0_2.out x32_2 p118 q118
           cases e118
           replace hx118_0 := (HB.out.cell (Xs w _ hx118_0)).trans hx118_0
           replace hx118_1 := (HB.out.cell (Xs w _ hx118_1)).trans hx118_1
           replace hx118_2 := (HB.out.cell (Xs w _ hx118_2)).trans hx118_2
           replace p118 := eq_true p118
           replace q118 := eq_true q118
           go_upto_region 6 with (first | ((with_reducible refine Qx (N := 4) rfl ?_); (try (refine gate_guard (by rfl) ?_; dsimp only)); refine Qv ?hg (N := 4) ?hd (cs := #[.int .i64 0, .string (⟨#[]⟩ : Zb), .int .i64 0]) (t := 60) ?hr ?_; (case hd => rfl); (case hg => rfl); (case hr => first | (go_simp; done) | (go_simp; rfl)); intro gb119 hg w19 hbox hb; have n0_ := Qa (Qb (nc BK117.out) hb); have n1_ := Qa (Qh (bl HB.out) hb); have n2_ := Qa (hbox); have n3_ := Qa ((by rw [hg]; exact (Qi (bl HB.out)) : w.heap.size ≤ gb119)); have n4_ := Qa ((by rw [hg]; exact (Qi (bl HB.out)) : w.heap.size ≤ gb119)); have n5_ := Qa ((by rw [hg]; exact Nat.ne_of_lt (blk_lt (nc BK117.out)) : gb117 ≠ gb119)); have n6_ := Qa ((by rw [hg]; exact Nat.ne_of_gt (blk_lt (nc BK117.out)) : gb119 ≠ gb117)); clear BK117 HB; have BK117 := n0_; have HB := n1_; have BK119 := n2_; have GW119 := n3_; have GE119 := n4_; have NB117_119 := n5_; have NB119_117 := n6_; clear n0_ n1_ n2_ n3_ n4_ n5_ n6_; clear hb hbox hg; have hnb20 := NB119_117.out; have hnc20 := NB117_119.out; have hcz21_0 := hz BK119.out 0; have hcz21_1 := hz BK119.out 1; have hcz21_2 := hz BK119.out 2; have hfz21_0 := Qm BK119.out 0; have hfz21_1 := Qm BK119.out 1; have hfz21_2 := Qm BK119.out 2))
           (try simp only [Act.put, Xt, Xu, Xv])
           go_cut [45] (fun v45 wc => ∃ (kq : Nat) (x45_17 : Bool), v45 = .bool x45_17 ∧ Aside0 (filing_Valid.j2 kq x32_2 l0_2 (l0_2.length : Int) x32_2 x45_17 a0_0 a0_1 l0_2 ((rd_T60 l0_2 x32_2).f0) ((rd_T60 l0_2 x32_2).f1) ((rd_T60 l0_2 x32_2).f2) = some r) ∧ Aside0 (kq ≤ k2) ∧ Aside0 (wc.heap[gb117]? = some (.cells #[.int .i64 a0_0, .int .i64 a0_1, (.slice (some ad118) l0_2.length c0_2)] 25 (0,0))) ∧ Aside0 (wc.heap[gb119]? = some (.cells #[.int .i64 ((rd_T60 l0_2 x32_2).f0), .string ((rd_T60 l0_2 x32_2).f1), .int .i64 ((rd_T60 l0_2 x32_2).f2)] 60 (0,0))) ∧ Aside0 (Below w.heap.size w wc))
           case first =>
            have H := HC18.out
            clear HC18
            replace H := Xx.mp H
            obtain ⟨t120, A220, H⟩ := H
            replace H : (if t120.toList = ([] : List UInt8) then (filing_Valid.j2 k2 x32_2 l0_2 (l0_2.length : Int) x32_2 true a0_0 a0_1 l0_2 ((rd_T60 l0_2 x32_2).f0) ((rd_T60 l0_2 x32_2).f1) ((rd_T60 l0_2 x32_2).f2)) else ((payslip_Form.f k2 ((rd_T60 l0_2 x32_2).f0) ((rd_T60 l0_2 x32_2).f1) ((rd_T60 l0_2 x32_2).f2)).bind fun t121 => (filing_Valid.j2 k2 x32_2 l0_2 (l0_2.length : Int) x32_2 (!t121) a0_0 a0_1 l0_2 ((rd_T60 l0_2 x32_2).f0) ((rd_T60 l0_2 x32_2).f1) ((rd_T60 l0_2 x32_2).f2)))) = some r := H
            have A22 := Qa A220
            clear A220
            by_cases c23 : t120.toList = ([] : List UInt8)
            · rw [if_pos c23] at H
              have c23b0 : (t120.toList == ([] : List UInt8)) = true := Yb.mpr c23
              have c23b1 : (t120.toList != ([] : List UInt8)) = false := bne_eq_false_iff_eq.mpr c23
              clear c23
              (first | rw [c23b0] | (simp only [i64_w, i32_w]; rw [c23b0]) | skip)
              have H' := Qa H
              clear H
              have hnb24 := NB119_117.out
              have hnc24 := NB117_119.out
              have hcz25_0 := hz BK119.out 0
              have hcz25_1 := hz BK119.out 1
              have hcz25_2 := hz BK119.out 2
              have hfz25_0 := Qm BK119.out 0
              have hfz25_1 := Qm BK119.out 1
              have hfz25_2 := Qm BK119.out 2
              go_wp2_with (first | ((with_reducible refine Qw (f := 37) rfl ?_); refine gc (some 39) Tryz.func37 #[.int .i64 ((rd_T60 l0_2 x32_2).f0)] ?_; (with_reducible refine (filing_word.calls ((rd_T60 l0_2 x32_2).f0) t120 _ A22.out).mono ?_); rintro e w' ⟨rfl, ⟨nd, rfl⟩⟩; refine ⟨_, rfl, ?_⟩))
              go_meet
              case rel => exact ⟨_, (true), (by first | rfl | (simp; done) | (simp [*]; done)), H', ⟨by have := HJ1.out; have := HK2.out; first | omega | exact Nat.le_refl _⟩, ⟨by (with_reducible repeat (first | refine Qj ?_ _ | refine Qk ?_ | refine Ql ?_ _)); refine Qc ?_ NB117_119.out _; (with_reducible repeat (first | refine Qj ?_ _ | refine Qk ?_ | refine Ql ?_ _)); refine Qc ?_ NB117_119.out _; (with_reducible repeat (first | refine Qj ?_ _ | refine Qk ?_ | refine Ql ?_ _)); refine Qc ?_ NB117_119.out _; (with_reducible repeat (first | refine Qj ?_ _ | refine Qk ?_ | refine Ql ?_ _)); exact BK117.out⟩, ⟨by (with_reducible repeat (first | refine Qj ?_ _ | refine Qk ?_ | refine Ql ?_ _)); refine Qo (cs := #[.int .i64 ((rd_T60 l0_2 x32_2).f0), .string ((rd_T60 l0_2 x32_2).f1), .int .i64 0]) ?_ 2 _ rfl; (with_reducible repeat (first | refine Qj ?_ _ | refine Qk ?_ | refine Ql ?_ _)); refine Qo (cs := #[.int .i64 ((rd_T60 l0_2 x32_2).f0), .string (⟨#[]⟩ : Zb), .int .i64 0]) ?_ 1 _ rfl; (with_reducible repeat (first | refine Qj ?_ _ | refine Qk ?_ | refine Ql ?_ _)); refine Qo (cs := #[.int .i64 0, .string (⟨#[]⟩ : Zb), .int .i64 0]) ?_ 0 _ rfl; (with_reducible repeat (first | refine Qj ?_ _ | refine Qk ?_ | refine Ql ?_ _)); exact BK119.out⟩, ⟨bl HB.out⟩⟩
            rw [if_neg c23] at H
            have c23b0 : (t120.toList == ([] : List UInt8)) = false := Ya.mpr c23
            have c23b1 : (t120.toList != ([] : List UInt8)) = true := Yc.mpr c23
            (first | rw [c23b0] | (simp only [i64_w, i32_w]; rw [c23b0]) | skip)
            replace H := Xx.mp H
            obtain ⟨t121, A260, H⟩ := H
            replace H : (filing_Valid.j2 k2 x32_2 l0_2 (l0_2.length : Int) x32_2 (!t121) a0_0 a0_1 l0_2 ((rd_T60 l0_2 x32_2).f0) ((rd_T60 l0_2 x32_2).f1) ((rd_T60 l0_2 x32_2).f2)) = some r := H
            have A26 := Qa A260
            clear A260
            have H' := Qa H
            clear H
            have hnb27 := NB119_117.out
            have hnc27 := NB117_119.out
            have hcz28_0 := hz BK119.out 0
            have hcz28_1 := hz BK119.out 1
            have hcz28_2 := hz BK119.out 2
            have hfz28_0 := Qm BK119.out 0
            have hfz28_1 := Qm BK119.out 1
            have hfz28_2 := Qm BK119.out 2
            go_wp2_with (first | ((with_reducible refine Qw (f := 37) rfl ?_); refine gc (some 39) Tryz.func37 #[.int .i64 ((rd_T60 l0_2 x32_2).f0)] ?_; (with_reducible refine (filing_word.calls ((rd_T60 l0_2 x32_2).f0) t120 _ A22.out).mono ?_); rintro e w' ⟨rfl, ⟨nd, rfl⟩⟩; refine ⟨_, rfl, ?_⟩) | (go_at_call 41; (with_reducible refine (payslip_Form.calls k2 ((rd_T60 l0_2 x32_2).f0) ((rd_T60 l0_2 x32_2).f1) ((rd_T60 l0_2 x32_2).f2) t121 _ A26.out).mono ?_); rintro e w29 ⟨rfl, hb⟩; have n0_ := Qa (Qb (g := gb117) (o := .cells #[.int .i64 a0_0, .int .i64 a0_1, .slice (some ad118) l0_2.length c0_2] 25 (0,0)) (by (with_reducible repeat (first | refine Qj ?_ _ | refine Qk ?_ | refine Ql ?_ _)); refine Qc ?_ NB117_119.out _; (with_reducible repeat (first | refine Qj ?_ _ | refine Qk ?_ | refine Ql ?_ _)); refine Qc ?_ NB117_119.out _; (with_reducible repeat (first | refine Qj ?_ _ | refine Qk ?_ | refine Ql ?_ _)); refine Qc ?_ NB117_119.out _; (with_reducible repeat (first | refine Qj ?_ _ | refine Qk ?_ | refine Ql ?_ _)); exact BK117.out) hb); have n1_ := Qa (Qb (g := gb119) (o := .cells #[.int .i64 ((rd_T60 l0_2 x32_2).f0), .string ((rd_T60 l0_2 x32_2).f1), .int .i64 ((rd_T60 l0_2 x32_2).f2)] 60 (0,0)) (by (with_reducible repeat (first | refine Qj ?_ _ | refine Qk ?_ | refine Ql ?_ _)); refine Qo (cs := #[.int .i64 ((rd_T60 l0_2 x32_2).f0), .string ((rd_T60 l0_2 x32_2).f1), .int .i64 0]) ?_ 2 _ rfl; (with_reducible repeat (first | refine Qj ?_ _ | refine Qk ?_ | refine Ql ?_ _)); refine Qo (cs := #[.int .i64 ((rd_T60 l0_2 x32_2).f0), .string (⟨#[]⟩ : Zb), .int .i64 0]) ?_ 1 _ rfl; (with_reducible repeat (first | refine Qj ?_ _ | refine Qk ?_ | refine Ql ?_ _)); refine Qo (cs := #[.int .i64 0, .string (⟨#[]⟩ : Zb), .int .i64 0]) ?_ 0 _ rfl; (with_reducible repeat (first | refine Qj ?_ _ | refine Qk ?_ | refine Ql ?_ _)); exact BK119.out) hb); have n2_ := Qa (Qh (bl HB.out) hb); clear BK117 BK119 HB; have BK117 := n0_; have BK119 := n1_; have HB := n2_; clear n0_ n1_ n2_; (try clear hb)))
            go_meet
            case rel => exact ⟨_, (!t121), (by first | rfl | (simp; done) | (simp [*]; done)), H', ⟨by have := HJ1.out; have := HK2.out; first | omega | exact Nat.le_refl _⟩, ⟨nc BK117.out⟩, ⟨nc BK119.out⟩, ⟨bl HB.out⟩⟩
           case rest =>
            clear HC18
            try clear c1
            try clear p1
            try clear q1
            try clear hx1
            try clear c2
            try clear p2
            try clear c3
            try clear c4
            try clear c4b0
            try clear c6
            try clear c6b0
            try clear c8
            try clear c8b0
            try clear c10
            try clear c10b0
            try clear p11
            try clear q11
            try clear hx11
            try clear c13
            try clear c15
            try clear c15b0
            try clear c16
            try clear c16b0
            try clear c17
            try clear c17b0
            try clear c20
            try clear c23
            try clear c23b0
            try clear c23b1
            try clear c24
            try clear c27
            try clear hcz11_0
            try clear hcz11_1
            try clear hcz11_2
            try clear hcz12_0
            try clear hcz12_1
            try clear hcz12_2
            try clear hcz14_0
            try clear hcz14_1
            try clear hcz14_2
            try clear hcz21_0
            try clear hcz21_1
            try clear hcz21_2
            try clear hcz25_0
            try clear hcz25_1
            try clear hcz25_2
            try clear hcz28_0
            try clear hcz28_1
            try clear hcz28_2
            try clear hcz5_0
            try clear hcz5_1
            try clear hcz5_2
            try clear hcz7_0
            try clear hcz7_1
            try clear hcz7_2
            try clear hcz9_0
            try clear hcz9_1
            try clear hcz9_2
            try clear hfz11_0
            try clear hfz11_1
            try clear hfz11_2
            try clear hfz12_0
            try clear hfz12_1
            try clear hfz12_2
            try clear hfz14_0
            try clear hfz14_1
            try clear hfz14_2
            try clear hfz21_0
            try clear hfz21_1
            try clear hfz21_2
            try clear hfz25_0
            try clear hfz25_1
            try clear hfz25_2
            try clear hfz28_0
            try clear hfz28_1
            try clear hfz28_2
            try clear hfz5_0
            try clear hfz5_1
            try clear hfz5_2
            try clear hfz7_0
            try clear hfz7_1
            try clear hfz7_2
            try clear hfz9_0
            try clear hfz9_1
            try clear hfz9_2
            try clear hx118_0
            try clear hx118_1
            try clear hx118_2
            try clear p118
            try clear p2
            try clear q118
            obtain ⟨kq, x45_17, rfl, HA, HJ17, BK117, BK119, HB⟩ := hcut
            cases kq with
            | zero => exact absurd HA.out (by simp [filing_Valid.j2])
            | succ kj17 =>
             have H := HA.out
             clear HA
             simp only [filing_Valid.j2] at H
             by_cases c30 : x45_17 = true
             · subst c30
               have H1 : (some false) = some r := by rw [if_pos rfl] at H; exact H
               clear H
               have H := H1
               clear H1
               obtain rfl := Xz H
               go_wp2
               go_ret
               exact ⟨by first | rfl | (simp [errW_none, errW_some] <;> rfl) | (simp [*, errW_none, errW_some] <;> rfl), bl HB.out⟩
             replace c30 := Bool.eq_false_iff.mpr c30
             subst c30
             have H1 : (if x32_2 > 0 then (if 0 ≤ (wrap64 (x32_2 - 1)) then (if (wrap64 (x32_2 - 1)) < (l0_2.length : Int) then ((cmp_Compare_int.f ((rd_T60 l0_2 (wrap64 (x32_2 - 1))).f0) ((rd_T60 l0_2 x32_2).f0)).bind fun t123 => ((cmp_Compare_string.f ((rd_T60 l0_2 (wrap64 (x32_2 - 1))).f1) ((rd_T60 l0_2 x32_2).f1)).bind fun t125 => ((cmp_Or_int.f kj17 (([t123, t125] : List Int))).bind fun t129 => (if t129 ≥ 0 then (some false) else (filing_Valid.l0 kj17 l0_2 (l0_2.length : Int) (wrap64 (x32_2 + 1)) a0_0 a0_1 l0_2))))) else (none)) else (none)) else (filing_Valid.l0 kj17 l0_2 (l0_2.length : Int) (wrap64 (x32_2 + 1)) a0_0 a0_1 l0_2)) = some r := by rw [if_neg (show ¬ (false = true) by decide)] at H; exact H
             clear H
             have H := H1
             clear H1
             by_cases c31 : x32_2 > 0
             · rw [if_pos c31] at H
               have c31b0 : decide (0 < x32_2) = true := Xq c31
               clear c31
               obtain ⟨ji32, hji32⟩ : ∃ j_ : Int, (wrap64 (x32_2 - 1)) = j_ := ⟨_, rfl⟩
               replace H : (if 0 ≤ (ji32) then (if (ji32) < (l0_2.length : Int) then ((cmp_Compare_int.f ((rd_T60 l0_2 (ji32)).f0) ((rd_T60 l0_2 x32_2).f0)).bind fun t123 => ((cmp_Compare_string.f ((rd_T60 l0_2 (ji32)).f1) ((rd_T60 l0_2 x32_2).f1)).bind fun t125 => ((cmp_Or_int.f kj17 (([t123, t125] : List Int))).bind fun t129 => (if t129 ≥ 0 then (some false) else (filing_Valid.l0 kj17 l0_2 (l0_2.length : Int) (wrap64 (x32_2 + 1)) a0_0 a0_1 l0_2))))) else (none)) else (none)) = some r := by first | (rw [hji32] at H; exact H) | (simp only [hji32] at H ⊢; exact H)
               have hji32w : (IntKind.i64.wrap (x32_2 - 1)) = ji32 := (i64_w _).trans hji32
               by_cases c33 : 0 ≤ (ji32)
               · rw [if_pos c33] at H
                 have c33b0 : decide (0 ≤ (ji32)) = true := Xq c33
                 clear c33
                 by_cases c34 : (ji32) < (l0_2.length : Int)
                 · rw [if_pos c34] at H
                   have c34b0 : decide ((ji32) < (l0_2.length : Int)) = true := Xq c34
                   clear c34
                   replace H := Xx.mp H
                   obtain ⟨t123, A350, H⟩ := H
                   replace H : ((cmp_Compare_string.f ((rd_T60 l0_2 (ji32)).f1) ((rd_T60 l0_2 x32_2).f1)).bind fun t125 => ((cmp_Or_int.f kj17 (([t123, t125] : List Int))).bind fun t129 => (if t129 ≥ 0 then (some false) else (filing_Valid.l0 kj17 l0_2 (l0_2.length : Int) (wrap64 (x32_2 + 1)) a0_0 a0_1 l0_2)))) = some r := H
                   have A35 := Qa A350
                   clear A350
                   replace H := Xx.mp H
                   obtain ⟨t125, A360, H⟩ := H
                   replace H : ((cmp_Or_int.f kj17 (([t123, t125] : List Int))).bind fun t129 => (if t129 ≥ 0 then (some false) else (filing_Valid.l0 kj17 l0_2 (l0_2.length : Int) (wrap64 (x32_2 + 1)) a0_0 a0_1 l0_2))) = some r := H
                   have A36 := Qa A360
                   clear A360
                   obtain ⟨y126, hy126⟩ : ∃ y_ : List Int, y_ = (([t123, t125] : List Int)) := ⟨_, rfl⟩
                   replace H : ((cmp_Or_int.f kj17 y126).bind fun t129 => (if t129 ≥ 0 then (some false) else (filing_Valid.l0 kj17 l0_2 (l0_2.length : Int) (wrap64 (x32_2 + 1)) a0_0 a0_1 l0_2))) = some r := by first | (rw [hy126]; with_reducible exact H) | (have H2_ := (Xy _ _).symm.trans H; rw [hy126]; with_reducible exact H2_) | (have H2_ := (Xy _ _).symm.trans H; with_reducible exact H2_) | with_reducible exact H | (rw [hy126]; exact H) | exact H
                   have Ny126 := Qa hy126
                   clear hy126
                   replace H := Xx.mp H
                   obtain ⟨t129, A370, H⟩ := H
                   replace H : (if t129 ≥ 0 then (some false) else (filing_Valid.l0 kj17 l0_2 (l0_2.length : Int) (wrap64 (x32_2 + 1)) a0_0 a0_1 l0_2)) = some r := H
                   have A37 := Qa A370
                   clear A370
                   by_cases c38 : t129 ≥ 0
                   · rw [if_pos c38] at H
                     have c38b0 : decide (0 ≤ t129) = true := Xq c38
                     clear c38
                     obtain rfl := Xz H
                     try go_wp2
                     have n0_ := Qa (Qk BK117.out)
                     have n1_ := Qa (Qk BK119.out)
                     have n2_ := Qa (Qf HB.out)
                     clear BK117
                     clear BK119
                     clear HB
                     have BK117 := n0_
                     have BK119 := n1_
                     have HB := n2_
                     clear n0_ n1_ n2_
                     have p122 : 0 ≤ ((ji32) : Int) := Xp (by assumption)
                     have q122 : (ji32) < (l0_2.length : Int) := Xp (by assumption)
                     obtain ⟨ad122, e122, hx122_0, hx122_1, hx122_2⟩ := at_T60 HR0_2.out (ji32) p122 q122
                     have hw122_2 := hx122_2
                     have hw122_1 := hx122_1
                     have hw122_0 := hx122_0
                     obtain rfl : ad118 = ad122 := (by injection e122)
                     replace hx122_0 := (HB.out.cell (Xs w _ hx122_0)).trans hx122_0
                     replace hx122_1 := (HB.out.cell (Xs w _ hx122_1)).trans hx122_1
                     replace hx122_2 := (HB.out.cell (Xs w _ hx122_2)).trans hx122_2
                     replace p122 := eq_true p122
                     replace q122 := eq_true q122
                     have p124 : 0 ≤ ((ji32) : Int) := Xp (by assumption)
                     have q124 : (ji32) < (l0_2.length : Int) := Xp (by assumption)
                     obtain ⟨ad124, e124, hx124_0, hx124_1, hx124_2⟩ := at_T60 HR0_2.out (ji32) p124 q124
                     have hw124_2 := hx124_2
                     have hw124_1 := hx124_1
                     have hw124_0 := hx124_0
                     obtain rfl : ad118 = ad124 := (by injection e124)
                     replace hx124_0 := (HB.out.cell (Xs w _ hx124_0)).trans hx124_0
                     replace hx124_1 := (HB.out.cell (Xs w _ hx124_1)).trans hx124_1
                     replace hx124_2 := (HB.out.cell (Xs w _ hx124_2)).trans hx124_2
                     replace p124 := eq_true p124
                     replace q124 := eq_true q124
                     refine start_ (n := 27) (S := fun w' => w'.cell? ⟨gb117,0, none⟩ = some (.int .i64 a0_0) ∧ w'.cell? ⟨gb117,1, none⟩ = some (.int .i64 a0_1) ∧ w'.cell? ⟨gb117,2, none⟩ = some (.slice (some ad118) l0_2.length c0_2) ∧ w'.cell? ⟨gb119,0, none⟩ = some (.int .i64 ((rd_T60 l0_2 x32_2).f0)) ∧ w'.cell? ⟨gb119,1, none⟩ = some (.string ((rd_T60 l0_2 x32_2).f1)) ∧ w'.cell? ⟨gb119,2, none⟩ = some (.int .i64 ((rd_T60 l0_2 x32_2).f2)) ∧ w'.cell? (ad118.add (((ji32)).toNat * 3)) = some (.int .i64 ((rd_T60 l0_2 (ji32)).f0)) ∧ w'.cell? ⟨(ad118.add (((ji32)).toNat * 3)).block, (ad118.add (((ji32)).toNat * 3)).off + 1, none⟩ = some (.string ((rd_T60 l0_2 (ji32)).f1)) ∧ w'.cell? ⟨(ad118.add (((ji32)).toNat * 3)).block, (ad118.add (((ji32)).toNat * 3)).off + 2, none⟩ = some (.int .i64 ((rd_T60 l0_2 (ji32)).f2)) ∧ w'.cell? (ad118.add (((ji32)).toNat * 3)) = some (.int .i64 ((rd_T60 l0_2 (ji32)).f0)) ∧ w'.cell? ⟨(ad118.add (((ji32)).toNat * 3)).block, (ad118.add (((ji32)).toNat * 3)).off + 1, none⟩ = some (.string ((rd_T60 l0_2 (ji32)).f1)) ∧ w'.cell? ⟨(ad118.add (((ji32)).toNat * 3)).block, (ad118.add (((ji32)).toNat * 3)).off + 2, none⟩ = some (.int .i64 ((rd_T60 l0_2 (ji32)).f2))) (ds := []) #[Zf,Zf,Zf,Zf,Zf,Zf,Zf,Zf,Zf,Zf,Zf,Zf,Zf,Zf,Zf,Zf,Zf,Zf,Zf,Zf,Zf,Zf,Zf,Zf,Zf,Zf,Zf] (by kernel_rfl) rfl rfl ⟨(Qn BK117.out 0).trans rfl, (Qn BK117.out 1).trans rfl, (Qn BK117.out 2).trans rfl, (Qn BK119.out 0).trans rfl, (Qn BK119.out 1).trans rfl, (Qn BK119.out 2).trans rfl, ((HB.out.cell (Xs w _ hw122_0)).trans hw122_0), ((HB.out.cell (Xs w _ hw122_1)).trans hw122_1), ((HB.out.cell (Xs w _ hw122_2)).trans hw122_2), ((HB.out.cell (Xs w _ hw124_0)).trans hw124_0), ((HB.out.cell (Xs w _ hw124_1)).trans hw124_1), ((HB.out.cell (Xs w _ hw124_2)).trans hw124_2)⟩ (fun hHeld => ?_); refine with_tabW filing_Valid.tab8 filing_Valid.bits8 (fun HT_ HW_ => ?_)
                     generalize wc.drew = w39 at BK117 BK119 HB hx122_0 hx122_1 hx122_2 hx124_0 hx124_1 hx124_2 hHeld ⊢
                     refine pu (i := 0) (N := some 46) (v := ?_) (a' := ?_) #[Zt,Zf,Zf,Zf,Zf,Zf,Zf,Zf,Zf,Zf,Zf,Zf,Zf,Zf,Zf,Zf,Zf,Zf,Zf,Zf,Zf,Zf,Zf,Zf,Zf,Zf,Zf] HT_ ?_ ?_ ?_
                     rotate_left
                     · intro w'
                       go_simp
                       with_reducible rfl
                     rotate_left
                     · simp only [Act.put, Xt, Xu, Xv, i64_w, i32_w]
                       rfl
                     refine pu (i := 1) (N := some 47) (v := ?_) (a' := ?_) #[Zt,Zt,Zf,Zf,Zf,Zf,Zf,Zf,Zf,Zf,Zf,Zf,Zf,Zf,Zf,Zf,Zf,Zf,Zf,Zf,Zf,Zf,Zf,Zf,Zf,Zf,Zf] HT_ ?_ ?_ ?_
                     rotate_left
                     · intro w'
                       go_simp
                       with_reducible rfl
                     rotate_left
                     · simp only [Act.put, Xt, Xu, Xv, i64_w, i32_w]
                       rfl
                     refine pu (i := 2) (N := some 48) (v := ?_) (a' := ?_) #[Zt,Zt,Zt,Zf,Zf,Zf,Zf,Zf,Zf,Zf,Zf,Zf,Zf,Zf,Zf,Zf,Zf,Zf,Zf,Zf,Zf,Zf,Zf,Zf,Zf,Zf,Zf] HT_ ?_ ?_ ?_
                     rotate_left
                     · intro w'
                       go_simp
                       with_reducible rfl
                     rotate_left
                     · simp only [Act.put, Xt, Xu, Xv, i64_w, i32_w]
                       rfl
                     refine pu (i := 3) (N := some 49) (v := ?_) (a' := ?_) #[Zt,Zt,Zt,Zt,Zf,Zf,Zf,Zf,Zf,Zf,Zf,Zf,Zf,Zf,Zf,Zf,Zf,Zf,Zf,Zf,Zf,Zf,Zf,Zf,Zf,Zf,Zf] HT_ ?_ ?_ ?_
                     rotate_left
                     · intro w'
                       go_simp
                       with_reducible rfl
                     rotate_left
                     · simp only [Act.put, Xt, Xu, Xv, i64_w, i32_w]
                       rfl
                     refine pu (i := 5) (N := some 51) (v := ?_) (a' := ?_) #[Zt,Zt,Zt,Zt,Zf,Zt,Zf,Zf,Zf,Zf,Zf,Zf,Zf,Zf,Zf,Zf,Zf,Zf,Zf,Zf,Zf,Zf,Zf,Zf,Zf,Zf,Zf] HT_ ?_ ?_ ?_
                     rotate_left
                     · intro w'
                       go_simp
                       with_reducible rfl
                     rotate_left
                     · simp only [Act.put, Xt, Xu, Xv, i64_w, i32_w]
                       rfl
                     refine pu (i := 6) (N := some 52) (v := ?_) (a' := ?_) #[Zt,Zt,Zt,Zt,Zf,Zt,Zt,Zf,Zf,Zf,Zf,Zf,Zf,Zf,Zf,Zf,Zf,Zf,Zf,Zf,Zf,Zf,Zf,Zf,Zf,Zf,Zf] HT_ ?_ ?_ ?_
                     rotate_left
                     · intro w'
                       go_simp
                       with_reducible rfl
                     rotate_left
                     · simp only [Act.put, Xt, Xu, Xv, i64_w, i32_w]
                       rfl
                     refine pu (i := 10) (N := some 56) (v := ?_) (a' := ?_) #[Zt,Zt,Zt,Zt,Zf,Zt,Zt,Zf,Zf,Zf,Zt,Zf,Zf,Zf,Zf,Zf,Zf,Zf,Zf,Zf,Zf,Zf,Zf,Zf,Zf,Zf,Zf] HT_ ?_ ?_ ?_
                     rotate_left
                     · intro w'
                       go_simp
                       with_reducible rfl
                     rotate_left
                     · simp only [Act.put, Xt, Xu, Xv, i64_w, i32_w]
                       rfl
                     refine pu (i := 13) (N := some 59) (v := ?_) (a' := ?_) #[Zt,Zt,Zt,Zt,Zf,Zt,Zt,Zf,Zf,Zf,Zt,Zf,Zf,Zt,Zf,Zf,Zf,Zf,Zf,Zf,Zf,Zf,Zf,Zf,Zf,Zf,Zf] HT_ ?_ ?_ ?_
                     rotate_left
                     · intro w'
                       go_simp
                       with_reducible rfl
                     rotate_left
                     · simp only [Act.put, Xt, Xu, Xv, i64_w, i32_w]
                       rfl
                     refine pu (i := 15) (N := some 61) (v := ?_) (a' := ?_) #[Zt,Zt,Zt,Zt,Zf,Zt,Zt,Zf,Zf,Zf,Zt,Zf,Zf,Zt,Zf,Zt,Zf,Zf,Zf,Zf,Zf,Zf,Zf,Zf,Zf,Zf,Zf] HT_ ?_ ?_ ?_
                     rotate_left
                     · intro w'
                       go_simp
                       with_reducible rfl
                     rotate_left
                     · simp only [Act.put, Xt, Xu, Xv, i64_w, i32_w]
                       rfl
                     refine pu (i := 16) (N := some 62) (v := ?_) (a' := ?_) #[Zt,Zt,Zt,Zt,Zf,Zt,Zt,Zf,Zf,Zf,Zt,Zf,Zf,Zt,Zf,Zt,Zt,Zf,Zf,Zf,Zf,Zf,Zf,Zf,Zf,Zf,Zf] HT_ ?_ ?_ ?_
                     rotate_left
                     · intro w'
                       go_simp
                       with_reducible rfl
                     rotate_left
                     · simp only [Act.put, Xt, Xu, Xv, i64_w, i32_w]
                       rfl
                     refine pu (i := 20) (N := some 66) (v := ?_) (a' := ?_) #[Zt,Zt,Zt,Zt,Zf,Zt,Zt,Zf,Zf,Zf,Zt,Zf,Zf,Zt,Zf,Zt,Zt,Zf,Zf,Zf,Zt,Zf,Zf,Zf,Zf,Zf,Zf] HT_ ?_ ?_ ?_
                     rotate_left
                     · intro w'
                       go_simp
                       with_reducible rfl
                     rotate_left
                     · simp only [Act.put, Xt, Xu, Xv, i64_w, i32_w]
                       rfl
                     refine take_ (i := 4) (N := some 50) (v := ?_) (a' := ?_) #[Zt,Zt,Zt,Zt,Zt,Zt,Zt,Zf,Zf,Zf,Zt,Zf,Zf,Zt,Zf,Zt,Zt,Zf,Zf,Zf,Zt,Zf,Zf,Zf,Zf,Zf,Zf] rfl rfl (take_ofW HT_.out HW_.out (by kernel_rfl)) (fun _ _ _ h => h) (Or.inl ⟨by rfl, ?_⟩) hHeld ?_ ?_
                     rotate_left
                     · rintro w' ⟨s0, s1, s2, s3, s4, s5, s6, s7, s8, s9, s10, s11⟩
                       go_simp
                       with_reducible rfl
                     rotate_left
                     · simp only [Act.put, Xt, Xu, Xv, i64_w, i32_w]
                       rfl
                     refine pu (i := 7) (N := some 53) (v := ?_) (a' := ?_) #[Zt,Zt,Zt,Zt,Zt,Zt,Zt,Zt,Zf,Zf,Zt,Zf,Zf,Zt,Zf,Zt,Zt,Zf,Zf,Zf,Zt,Zf,Zf,Zf,Zf,Zf,Zf] HT_ ?_ ?_ ?_
                     rotate_left
                     · intro w'
                       go_simp
                       with_reducible rfl
                     rotate_left
                     · simp only [Act.put, Xt, Xu, Xv, i64_w, i32_w]
                       rfl
                     refine pu (i := 8) (N := some 54) (v := ?_) (a' := ?_) #[Zt,Zt,Zt,Zt,Zt,Zt,Zt,Zt,Zt,Zf,Zt,Zf,Zf,Zt,Zf,Zt,Zt,Zf,Zf,Zf,Zt,Zf,Zf,Zf,Zf,Zf,Zf] HT_ ?_ ?_ ?_
                     rotate_left
                     · intro w'
                       go_simp
                       with_reducible rfl
                     rotate_left
                     · simp only [Act.put, Xt, Xu, Xv, i64_w, i32_w]
                       rfl
                     refine take_ (i := 9) (N := some 55) (v := ?_) (a' := ?_) #[Zt,Zt,Zt,Zt,Zt,Zt,Zt,Zt,Zt,Zt,Zt,Zf,Zf,Zt,Zf,Zt,Zt,Zf,Zf,Zf,Zt,Zf,Zf,Zf,Zf,Zf,Zf] rfl rfl (take_ofW HT_.out HW_.out (by kernel_rfl)) (fun _ _ _ h => h) (Or.inl ⟨by rfl, ?_⟩) hHeld ?_ ?_
                     rotate_left
                     · rintro w' ⟨s0, s1, s2, s3, s4, s5, s6, s7, s8, s9, s10, s11⟩
                       go_simp
                       with_reducible rfl
                     rotate_left
                     · simp only [Act.put, Xt, Xu, Xv, i64_w, i32_w]
                       rfl
                     refine take_ (i := 11) (N := some 57) (v := ?_) (a' := ?_) #[Zt,Zt,Zt,Zt,Zt,Zt,Zt,Zt,Zt,Zt,Zt,Zt,Zf,Zt,Zf,Zt,Zt,Zf,Zf,Zf,Zt,Zf,Zf,Zf,Zf,Zf,Zf] rfl rfl (take_ofW HT_.out HW_.out (by kernel_rfl)) (fun _ _ _ h => h) (Or.inl ⟨by rfl, ?_⟩) hHeld ?_ ?_
                     rotate_left
                     · rintro w' ⟨s0, s1, s2, s3, s4, s5, s6, s7, s8, s9, s10, s11⟩
                       go_simp
                       with_reducible rfl
                     rotate_left
                     · simp only [Act.put, Xt, Xu, Xv, i64_w, i32_w]
                       rfl
                     refine take_ (i := 14) (N := some 60) (v := ?_) (a' := ?_) #[Zt,Zt,Zt,Zt,Zt,Zt,Zt,Zt,Zt,Zt,Zt,Zt,Zf,Zt,Zt,Zt,Zt,Zf,Zf,Zf,Zt,Zf,Zf,Zf,Zf,Zf,Zf] rfl rfl (take_ofW HT_.out HW_.out (by kernel_rfl)) (fun _ _ _ h => h) (Or.inl ⟨by rfl, ?_⟩) hHeld ?_ ?_
                     rotate_left
                     · rintro w' ⟨s0, s1, s2, s3, s4, s5, s6, s7, s8, s9, s10, s11⟩
                       go_simp
                       with_reducible rfl
                     rotate_left
                     · simp only [Act.put, Xt, Xu, Xv, i64_w, i32_w]
                       rfl
                     refine pu (i := 17) (N := some 63) (v := ?_) (a' := ?_) #[Zt,Zt,Zt,Zt,Zt,Zt,Zt,Zt,Zt,Zt,Zt,Zt,Zf,Zt,Zt,Zt,Zt,Zt,Zf,Zf,Zt,Zf,Zf,Zf,Zf,Zf,Zf] HT_ ?_ ?_ ?_
                     rotate_left
                     · intro w'
                       go_simp
                       with_reducible rfl
                     rotate_left
                     · simp only [Act.put, Xt, Xu, Xv, i64_w, i32_w]
                       rfl
                     refine pu (i := 18) (N := some 64) (v := ?_) (a' := ?_) #[Zt,Zt,Zt,Zt,Zt,Zt,Zt,Zt,Zt,Zt,Zt,Zt,Zf,Zt,Zt,Zt,Zt,Zt,Zt,Zf,Zt,Zf,Zf,Zf,Zf,Zf,Zf] HT_ ?_ ?_ ?_
                     rotate_left
                     · intro w'
                       go_simp
                       with_reducible rfl
                     rotate_left
                     · simp only [Act.put, Xt, Xu, Xv, i64_w, i32_w]
                       rfl
                     refine take_ (i := 19) (N := some 65) (v := ?_) (a' := ?_) #[Zt,Zt,Zt,Zt,Zt,Zt,Zt,Zt,Zt,Zt,Zt,Zt,Zf,Zt,Zt,Zt,Zt,Zt,Zt,Zt,Zt,Zf,Zf,Zf,Zf,Zf,Zf] rfl rfl (take_ofW HT_.out HW_.out (by kernel_rfl)) (fun _ _ _ h => h) (Or.inl ⟨by rfl, ?_⟩) hHeld ?_ ?_
                     rotate_left
                     · rintro w' ⟨s0, s1, s2, s3, s4, s5, s6, s7, s8, s9, s10, s11⟩
                       go_simp
                       with_reducible rfl
                     rotate_left
                     · simp only [Act.put, Xt, Xu, Xv, i64_w, i32_w]
                       rfl
                     refine take_ (i := 21) (N := some 67) (v := ?_) (a' := ?_) #[Zt,Zt,Zt,Zt,Zt,Zt,Zt,Zt,Zt,Zt,Zt,Zt,Zf,Zt,Zt,Zt,Zt,Zt,Zt,Zt,Zt,Zt,Zf,Zf,Zf,Zf,Zf] rfl rfl (take_ofW HT_.out HW_.out (by kernel_rfl)) (fun _ _ _ h => h) (Or.inl ⟨by rfl, ?_⟩) hHeld ?_ ?_
                     rotate_left
                     · rintro w' ⟨s0, s1, s2, s3, s4, s5, s6, s7, s8, s9, s10, s11⟩
                       go_simp
                       with_reducible rfl
                     rotate_left
                     · simp only [Act.put, Xt, Xu, Xv, i64_w, i32_w]
                       rfl
                     refine one_ (i := 12) (N := some 58) #[Zt,Zt,Zt,Zt,Zt,Zt,Zt,Zt,Zt,Zt,Zt,Zt,Zt,Zt,Zt,Zt,Zt,Zt,Zt,Zt,Zt,Zt,Zf,Zf,Zf,Zf,Zf] rfl rfl (one_of HT_.out (by kernel_rfl)) (by decide) (fun K hK => ?_)
                     refine goes_ Tryz.func43 (by kernel_rfl) rfl #[.int .i64 ((rd_T60 l0_2 (ji32)).f0), .int .i64 ((rd_T60 l0_2 x32_2).f0)] (by rfl) rfl rfl (by (try simp only [List.map_toArray, List.map_cons, List.map_nil]); first | done | (simp only [hji32]; rfl) | rfl | (simp only [List.length_drop, List.length_take]; rfl)) ?_
                     with_reducible refine (cmp_Compare_int.calls ((rd_T60 l0_2 (ji32)).f0) ((rd_T60 l0_2 x32_2).f0) t123 _ A35.out).mono ?_
                     rintro e w' ⟨rfl, ⟨nd, rfl⟩⟩
                     refine ⟨_, rfl, ?_⟩
                     refine hK.out _ _ ⟨(Qn BK117.out 0).trans rfl, (Qn BK117.out 1).trans rfl, (Qn BK117.out 2).trans rfl, (Qn BK119.out 0).trans rfl, (Qn BK119.out 1).trans rfl, (Qn BK119.out 2).trans rfl, ((HB.out.cell (Xs w _ hw122_0)).trans hw122_0), ((HB.out.cell (Xs w _ hw122_1)).trans hw122_1), ((HB.out.cell (Xs w _ hw122_2)).trans hw122_2), ((HB.out.cell (Xs w _ hw124_0)).trans hw124_0), ((HB.out.cell (Xs w _ hw124_1)).trans hw124_1), ((HB.out.cell (Xs w _ hw124_2)).trans hw124_2)⟩ (fun hHeld => ?_)
                     clear hK K
                     refine norm_ (a' := ?_) ?_ ?_
                     rotate_left
                     · show Act.put _ (some 58) _ = _
                       simp only [Act.put, Xt, Xu, Xv, i64_w, i32_w]
                       rfl
                     refine one_ (i := 22) (N := some 68) #[Zt,Zt,Zt,Zt,Zt,Zt,Zt,Zt,Zt,Zt,Zt,Zt,Zt,Zt,Zt,Zt,Zt,Zt,Zt,Zt,Zt,Zt,Zt,Zf,Zf,Zf,Zf] rfl rfl (one_of HT_.out (by kernel_rfl)) (by decide) (fun K hK => ?_)
                     refine goes_ Tryz.func44 (by kernel_rfl) rfl #[.string ((rd_T60 l0_2 (ji32)).f1), .string ((rd_T60 l0_2 x32_2).f1)] (by rfl) rfl rfl (by (try simp only [List.map_toArray, List.map_cons, List.map_nil]); first | done | (simp only [hji32]; rfl) | rfl | (simp only [List.length_drop, List.length_take]; rfl)) ?_
                     with_reducible refine (cmp_Compare_string.calls ((rd_T60 l0_2 (ji32)).f1) ((rd_T60 l0_2 x32_2).f1) t125 _ A36.out).mono ?_
                     rintro e w' ⟨rfl, ⟨nd, rfl⟩⟩
                     refine ⟨_, rfl, ?_⟩
                     refine hK.out _ _ ⟨(Qn BK117.out 0).trans rfl, (Qn BK117.out 1).trans rfl, (Qn BK117.out 2).trans rfl, (Qn BK119.out 0).trans rfl, (Qn BK119.out 1).trans rfl, (Qn BK119.out 2).trans rfl, ((HB.out.cell (Xs w _ hw122_0)).trans hw122_0), ((HB.out.cell (Xs w _ hw122_1)).trans hw122_1), ((HB.out.cell (Xs w _ hw122_2)).trans hw122_2), ((HB.out.cell (Xs w _ hw124_0)).trans hw124_0), ((HB.out.cell (Xs w _ hw124_1)).trans hw124_1), ((HB.out.cell (Xs w _ hw124_2)).trans hw124_2)⟩ (fun hHeld => ?_)
                     clear hK K
                     refine norm_ (a' := ?_) ?_ ?_
                     rotate_left
                     · show Act.put _ (some 68) _ = _
                       simp only [Act.put, Xt, Xu, Xv, i64_w, i32_w]
                       rfl
                     refine one_ (i := 23) (N := some 69) #[Zt,Zt,Zt,Zt,Zt,Zt,Zt,Zt,Zt,Zt,Zt,Zt,Zt,Zt,Zt,Zt,Zt,Zt,Zt,Zt,Zt,Zt,Zt,Zt,Zf,Zf,Zf] rfl rfl (one_of HT_.out (by kernel_rfl)) (by decide) (fun K hK => ?_)
                     refine Kd.R_lit_step (Kd.int .i64) _ 3 ?hg (N := 69) ?hd (xs := ([t123, t125] : List Int)) (inner := [.int .i64 t123, .int .i64 t125]) (ok := fun _ => True) (okp := fun _ => True) ?hr ?hp (fun _ hk => hk) trivial (Below.refl _ _) (Nat.le_refl _) (by simp) ?_; (case hd => rfl); (case hg => rfl); (case hr => first | (go_simp; done) | (go_simp; rfl)); (case hp => exact (Reps.one (show Kd.M (Kd.int .i64) _ _ _ t123 [.int .i64 t123] from rfl) (Reps.one (show Kd.M (Kd.int .i64) _ _ _ t125 [.int .i64 t125] from rfl) (Reps.none _ _))))
                     intro v127 w40 ho41 hb hg_ hnew_
                     clear hg_ hnew_
                     (first | rw [← Ny126.out] at ho41 | (simp only [Int.reduceToNat] at ho41; rw [← Ny126.out] at ho41))
                     have n0_ := Qa (Kd.R_lower ho41 (Qi (bl HB.out)))
                     have n1_ := Qa (Qb (nc BK117.out) hb)
                     have n2_ := Qa (Qb (nc BK119.out) hb)
                     have n3_ := Qa (Qh (bl HB.out) hb)
                     clear BK117
                     clear BK119
                     clear HB
                     have HO128 := n0_
                     have BK117 := n1_
                     have BK119 := n2_
                     have HB := n3_
                     clear n0_ n1_ n2_ n3_
                     clear hb ho41
                     obtain ⟨Ao42, co42, eo42⟩ := Xk HO128.out
                     (first | subst eo42 | (injection eo42 with f1_ f2_ f3_; have f4_ := f1_.symm; have f5_ := f3_.symm; clear f1_ f2_ f3_; subst f4_; subst f5_))
                     refine hK.out _ _ ⟨(Qn BK117.out 0).trans rfl, (Qn BK117.out 1).trans rfl, (Qn BK117.out 2).trans rfl, (Qn BK119.out 0).trans rfl, (Qn BK119.out 1).trans rfl, (Qn BK119.out 2).trans rfl, ((HB.out.cell (Xs w _ hw122_0)).trans hw122_0), ((HB.out.cell (Xs w _ hw122_1)).trans hw122_1), ((HB.out.cell (Xs w _ hw122_2)).trans hw122_2), ((HB.out.cell (Xs w _ hw124_0)).trans hw124_0), ((HB.out.cell (Xs w _ hw124_1)).trans hw124_1), ((HB.out.cell (Xs w _ hw124_2)).trans hw124_2)⟩ (fun hHeld => ?_)
                     clear hK K
                     refine norm_ (a' := ?_) ?_ ?_
                     rotate_left
                     · show Act.put _ (some 69) _ = _
                       simp only [Act.put, Xt, Xu, Xv, i64_w, i32_w]
                       rfl
                     refine one_ (i := 24) (N := some 70) #[Zt,Zt,Zt,Zt,Zt,Zt,Zt,Zt,Zt,Zt,Zt,Zt,Zt,Zt,Zt,Zt,Zt,Zt,Zt,Zt,Zt,Zt,Zt,Zt,Zt,Zf,Zf] rfl rfl (one_of HT_.out (by kernel_rfl)) (by decide) (fun K hK => ?_)
                     refine goes_ Tryz.func42 (by kernel_rfl) rfl #[.slice Ao42 y126.length co42] (by rfl) rfl rfl (by (try simp only [List.map_toArray, List.map_cons, List.map_nil]); first | done | rfl | (simp only [List.length_drop, List.length_take]; rfl)) ?_
                     with_reducible refine (cmp_Or_int.calls kj17 _ _ y126 t129 _ ?side1 ?side2 A37.out).mono ?_
                     (case side1 => repeat (first | exact (Xb HO128.out).2.2 | (with_reducible refine Kd.C_alloc ?_ _) | (with_reducible refine Kd.C_drewN ?_ _) | (with_reducible refine Kd.C_drew ?_)))
                     (case side2 => exact (Xb HO128.out).2.1)
                     rintro e w' ⟨rfl, ⟨nd, rfl⟩⟩
                     refine ⟨_, rfl, ?_⟩
                     refine hK.out _ _ ⟨(Qn BK117.out 0).trans rfl, (Qn BK117.out 1).trans rfl, (Qn BK117.out 2).trans rfl, (Qn BK119.out 0).trans rfl, (Qn BK119.out 1).trans rfl, (Qn BK119.out 2).trans rfl, ((HB.out.cell (Xs w _ hw122_0)).trans hw122_0), ((HB.out.cell (Xs w _ hw122_1)).trans hw122_1), ((HB.out.cell (Xs w _ hw122_2)).trans hw122_2), ((HB.out.cell (Xs w _ hw124_0)).trans hw124_0), ((HB.out.cell (Xs w _ hw124_1)).trans hw124_1), ((HB.out.cell (Xs w _ hw124_2)).trans hw124_2)⟩ (fun hHeld => ?_)
                     clear hK K
                     refine norm_ (a' := ?_) ?_ ?_
                     rotate_left
                     · show Act.put _ (some 70) _ = _
                       simp only [Act.put, Xt, Xu, Xv, i64_w, i32_w]
                       rfl
                     refine pu (i := 25) (N := some 71) (v := ?_) (a' := ?_) #[Zt,Zt,Zt,Zt,Zt,Zt,Zt,Zt,Zt,Zt,Zt,Zt,Zt,Zt,Zt,Zt,Zt,Zt,Zt,Zt,Zt,Zt,Zt,Zt,Zt,Zt,Zf] HT_ ?_ ?_ ?_
                     rotate_left
                     · intro w'
                       go_simp
                       with_reducible rfl
                     rotate_left
                     · simp only [Act.put, Xt, Xu, Xv, i64_w, i32_w]
                       rfl
                     refine pu (i := 26) (N := some 72) (v := ?_) (a' := ?_) #[Zt,Zt,Zt,Zt,Zt,Zt,Zt,Zt,Zt,Zt,Zt,Zt,Zt,Zt,Zt,Zt,Zt,Zt,Zt,Zt,Zt,Zt,Zt,Zt,Zt,Zt,Zt] HT_ ?_ ?_ ?_
                     rotate_left
                     · intro w'
                       go_simp
                       with_reducible rfl
                     rotate_left
                     · simp only [Act.put, Xt, Xu, Xv, i64_w, i32_w]
                       rfl
                     refine done_ (done_of HT_.out (by kernel_rfl)) ?_
                     try go_wp2
                     go_ret
                     exact ⟨by first | rfl | (simp [errW_none, errW_some] <;> rfl) | (simp only [← hji32]; first | rfl | (simp [errW_none, errW_some] <;> rfl)) | (simp [*, errW_none, errW_some] <;> rfl), bl HB.out⟩
                   rw [if_neg c38] at H
                   have c38b0 : decide (0 ≤ t129) = false := Xr c38
                   clear c38
                   have H' := Qa H
                   clear H
                   try go_wp2
                   have n0_ := Qa (Qk BK117.out)
                   have n1_ := Qa (Qk BK119.out)
                   have n2_ := Qa (Qf HB.out)
                   clear BK117
                   clear BK119
                   clear HB
                   have BK117 := n0_
                   have BK119 := n1_
                   have HB := n2_
                   clear n0_ n1_ n2_
                   have p122 : 0 ≤ ((ji32) : Int) := Xp (by assumption)
                   have q122 : (ji32) < (l0_2.length : Int) := Xp (by assumption)
                   obtain ⟨ad122, e122, hx122_0, hx122_1, hx122_2⟩ := at_T60 HR0_2.out (ji32) p122 q122
                   have hw122_2 := hx122_2
                   have hw122_1 := hx122_1
                   have hw122_0 := hx122_0
                   obtain rfl : ad118 = ad122 := (by injection e122)
                   replace hx122_0 := (HB.out.cell (Xs w _ hx122_0)).trans hx122_0
                   replace hx122_1 := (HB.out.cell (Xs w _ hx122_1)).trans hx122_1
                   replace hx122_2 := (HB.out.cell (Xs w _ hx122_2)).trans hx122_2
                   replace p122 := eq_true p122
                   replace q122 := eq_true q122
                   have p124 : 0 ≤ ((ji32) : Int) := Xp (by assumption)
                   have q124 : (ji32) < (l0_2.length : Int) := Xp (by assumption)
                   obtain ⟨ad124, e124, hx124_0, hx124_1, hx124_2⟩ := at_T60 HR0_2.out (ji32) p124 q124
                   have hw124_2 := hx124_2
                   have hw124_1 := hx124_1
                   have hw124_0 := hx124_0
                   obtain rfl : ad118 = ad124 := (by injection e124)
                   replace hx124_0 := (HB.out.cell (Xs w _ hx124_0)).trans hx124_0
                   replace hx124_1 := (HB.out.cell (Xs w _ hx124_1)).trans hx124_1
                   replace hx124_2 := (HB.out.cell (Xs w _ hx124_2)).trans hx124_2
                   replace p124 := eq_true p124
                   replace q124 := eq_true q124
                   refine start_ (n := 27) (S := fun w' => w'.cell? ⟨gb117,0, none⟩ = some (.int .i64 a0_0) ∧ w'.cell? ⟨gb117,1, none⟩ = some (.int .i64 a0_1) ∧ w'.cell? ⟨gb117,2, none⟩ = some (.slice (some ad118) l0_2.length c0_2) ∧ w'.cell? ⟨gb119,0, none⟩ = some (.int .i64 ((rd_T60 l0_2 x32_2).f0)) ∧ w'.cell? ⟨gb119,1, none⟩ = some (.string ((rd_T60 l0_2 x32_2).f1)) ∧ w'.cell? ⟨gb119,2, none⟩ = some (.int .i64 ((rd_T60 l0_2 x32_2).f2)) ∧ w'.cell? (ad118.add (((ji32)).toNat * 3)) = some (.int .i64 ((rd_T60 l0_2 (ji32)).f0)) ∧ w'.cell? ⟨(ad118.add (((ji32)).toNat * 3)).block, (ad118.add (((ji32)).toNat * 3)).off + 1, none⟩ = some (.string ((rd_T60 l0_2 (ji32)).f1)) ∧ w'.cell? ⟨(ad118.add (((ji32)).toNat * 3)).block, (ad118.add (((ji32)).toNat * 3)).off + 2, none⟩ = some (.int .i64 ((rd_T60 l0_2 (ji32)).f2)) ∧ w'.cell? (ad118.add (((ji32)).toNat * 3)) = some (.int .i64 ((rd_T60 l0_2 (ji32)).f0)) ∧ w'.cell? ⟨(ad118.add (((ji32)).toNat * 3)).block, (ad118.add (((ji32)).toNat * 3)).off + 1, none⟩ = some (.string ((rd_T60 l0_2 (ji32)).f1)) ∧ w'.cell? ⟨(ad118.add (((ji32)).toNat * 3)).block, (ad118.add (((ji32)).toNat * 3)).off + 2, none⟩ = some (.int .i64 ((rd_T60 l0_2 (ji32)).f2))) (ds := []) #[Zf,Zf,Zf,Zf,Zf,Zf,Zf,Zf,Zf,Zf,Zf,Zf,Zf,Zf,Zf,Zf,Zf,Zf,Zf,Zf,Zf,Zf,Zf,Zf,Zf,Zf,Zf] (by kernel_rfl) rfl rfl ⟨(Qn BK117.out 0).trans rfl, (Qn BK117.out 1).trans rfl, (Qn BK117.out 2).trans rfl, (Qn BK119.out 0).trans rfl, (Qn BK119.out 1).trans rfl, (Qn BK119.out 2).trans rfl, ((HB.out.cell (Xs w _ hw122_0)).trans hw122_0), ((HB.out.cell (Xs w _ hw122_1)).trans hw122_1), ((HB.out.cell (Xs w _ hw122_2)).trans hw122_2), ((HB.out.cell (Xs w _ hw124_0)).trans hw124_0), ((HB.out.cell (Xs w _ hw124_1)).trans hw124_1), ((HB.out.cell (Xs w _ hw124_2)).trans hw124_2)⟩ (fun hHeld => ?_); refine with_tabW filing_Valid.tab8 filing_Valid.bits8 (fun HT_ HW_ => ?_)
                   generalize wc.drew = w43 at BK117 BK119 HB hx122_0 hx122_1 hx122_2 hx124_0 hx124_1 hx124_2 hHeld ⊢
                   refine pu (i := 0) (N := some 46) (v := ?_) (a' := ?_) #[Zt,Zf,Zf,Zf,Zf,Zf,Zf,Zf,Zf,Zf,Zf,Zf,Zf,Zf,Zf,Zf,Zf,Zf,Zf,Zf,Zf,Zf,Zf,Zf,Zf,Zf,Zf] HT_ ?_ ?_ ?_
                   rotate_left
                   · intro w'
                     go_simp
                     with_reducible rfl
                   rotate_left
                   · simp only [Act.put, Xt, Xu, Xv, i64_w, i32_w]
                     rfl
                   refine pu (i := 1) (N := some 47) (v := ?_) (a' := ?_) #[Zt,Zt,Zf,Zf,Zf,Zf,Zf,Zf,Zf,Zf,Zf,Zf,Zf,Zf,Zf,Zf,Zf,Zf,Zf,Zf,Zf,Zf,Zf,Zf,Zf,Zf,Zf] HT_ ?_ ?_ ?_
                   rotate_left
                   · intro w'
                     go_simp
                     with_reducible rfl
                   rotate_left
                   · simp only [Act.put, Xt, Xu, Xv, i64_w, i32_w]
                     rfl
                   refine pu (i := 2) (N := some 48) (v := ?_) (a' := ?_) #[Zt,Zt,Zt,Zf,Zf,Zf,Zf,Zf,Zf,Zf,Zf,Zf,Zf,Zf,Zf,Zf,Zf,Zf,Zf,Zf,Zf,Zf,Zf,Zf,Zf,Zf,Zf] HT_ ?_ ?_ ?_
                   rotate_left
                   · intro w'
                     go_simp
                     with_reducible rfl
                   rotate_left
                   · simp only [Act.put, Xt, Xu, Xv, i64_w, i32_w]
                     rfl
                   refine pu (i := 3) (N := some 49) (v := ?_) (a' := ?_) #[Zt,Zt,Zt,Zt,Zf,Zf,Zf,Zf,Zf,Zf,Zf,Zf,Zf,Zf,Zf,Zf,Zf,Zf,Zf,Zf,Zf,Zf,Zf,Zf,Zf,Zf,Zf] HT_ ?_ ?_ ?_
                   rotate_left
                   · intro w'
                     go_simp
                     with_reducible rfl
                   rotate_left
                   · simp only [Act.put, Xt, Xu, Xv, i64_w, i32_w]
                     rfl
                   refine pu (i := 5) (N := some 51) (v := ?_) (a' := ?_) #[Zt,Zt,Zt,Zt,Zf,Zt,Zf,Zf,Zf,Zf,Zf,Zf,Zf,Zf,Zf,Zf,Zf,Zf,Zf,Zf,Zf,Zf,Zf,Zf,Zf,Zf,Zf] HT_ ?_ ?_ ?_
                   rotate_left
                   · intro w'
                     go_simp
                     with_reducible rfl
                   rotate_left
                   · simp only [Act.put, Xt, Xu, Xv, i64_w, i32_w]
                     rfl
                   refine pu (i := 6) (N := some 52) (v := ?_) (a' := ?_) #[Zt,Zt,Zt,Zt,Zf,Zt,Zt,Zf,Zf,Zf,Zf,Zf,Zf,Zf,Zf,Zf,Zf,Zf,Zf,Zf,Zf,Zf,Zf,Zf,Zf,Zf,Zf] HT_ ?_ ?_ ?_
                   rotate_left
                   · intro w'
                     go_simp
                     with_reducible rfl
                   rotate_left
                   · simp only [Act.put, Xt, Xu, Xv, i64_w, i32_w]
                     rfl
                   refine pu (i := 10) (N := some 56) (v := ?_) (a' := ?_) #[Zt,Zt,Zt,Zt,Zf,Zt,Zt,Zf,Zf,Zf,Zt,Zf,Zf,Zf,Zf,Zf,Zf,Zf,Zf,Zf,Zf,Zf,Zf,Zf,Zf,Zf,Zf] HT_ ?_ ?_ ?_
                   rotate_left
                   · intro w'
                     go_simp
                     with_reducible rfl
                   rotate_left
                   · simp only [Act.put, Xt, Xu, Xv, i64_w, i32_w]
                     rfl
                   refine pu (i := 13) (N := some 59) (v := ?_) (a' := ?_) #[Zt,Zt,Zt,Zt,Zf,Zt,Zt,Zf,Zf,Zf,Zt,Zf,Zf,Zt,Zf,Zf,Zf,Zf,Zf,Zf,Zf,Zf,Zf,Zf,Zf,Zf,Zf] HT_ ?_ ?_ ?_
                   rotate_left
                   · intro w'
                     go_simp
                     with_reducible rfl
                   rotate_left
                   · simp only [Act.put, Xt, Xu, Xv, i64_w, i32_w]
                     rfl
                   refine pu (i := 15) (N := some 61) (v := ?_) (a' := ?_) #[Zt,Zt,Zt,Zt,Zf,Zt,Zt,Zf,Zf,Zf,Zt,Zf,Zf,Zt,Zf,Zt,Zf,Zf,Zf,Zf,Zf,Zf,Zf,Zf,Zf,Zf,Zf] HT_ ?_ ?_ ?_
                   rotate_left
                   · intro w'
                     go_simp
                     with_reducible rfl
                   rotate_left
                   · simp only [Act.put, Xt, Xu, Xv, i64_w, i32_w]
                     rfl
                   refine pu (i := 16) (N := some 62) (v := ?_) (a' := ?_) #[Zt,Zt,Zt,Zt,Zf,Zt,Zt,Zf,Zf,Zf,Zt,Zf,Zf,Zt,Zf,Zt,Zt,Zf,Zf,Zf,Zf,Zf,Zf,Zf,Zf,Zf,Zf] HT_ ?_ ?_ ?_
                   rotate_left
                   · intro w'
                     go_simp
                     with_reducible rfl
                   rotate_left
                   · simp only [Act.put, Xt, Xu, Xv, i64_w, i32_w]
                     rfl
                   refine pu (i := 20) (N := some 66) (v := ?_) (a' := ?_) #[Zt,Zt,Zt,Zt,Zf,Zt,Zt,Zf,Zf,Zf,Zt,Zf,Zf,Zt,Zf,Zt,Zt,Zf,Zf,Zf,Zt,Zf,Zf,Zf,Zf,Zf,Zf] HT_ ?_ ?_ ?_
                   rotate_left
                   · intro w'
                     go_simp
                     with_reducible rfl
                   rotate_left
                   · simp only [Act.put, Xt, Xu, Xv, i64_w, i32_w]
                     rfl
                   refine take_ (i := 4) (N := some 50) (v := ?_) (a' := ?_) #[Zt,Zt,Zt,Zt,Zt,Zt,Zt,Zf,Zf,Zf,Zt,Zf,Zf,Zt,Zf,Zt,Zt,Zf,Zf,Zf,Zt,Zf,Zf,Zf,Zf,Zf,Zf] rfl rfl (take_ofW HT_.out HW_.out (by kernel_rfl)) (fun _ _ _ h => h) (Or.inl ⟨by rfl, ?_⟩) hHeld ?_ ?_
                   rotate_left
                   · rintro w' ⟨s0, s1, s2, s3, s4, s5, s6, s7, s8, s9, s10, s11⟩
                     go_simp
                     with_reducible rfl
                   rotate_left
                   · simp only [Act.put, Xt, Xu, Xv, i64_w, i32_w]
                     rfl
                   refine pu (i := 7) (N := some 53) (v := ?_) (a' := ?_) #[Zt,Zt,Zt,Zt,Zt,Zt,Zt,Zt,Zf,Zf,Zt,Zf,Zf,Zt,Zf,Zt,Zt,Zf,Zf,Zf,Zt,Zf,Zf,Zf,Zf,Zf,Zf] HT_ ?_ ?_ ?_
                   rotate_left
                   · intro w'
                     go_simp
                     with_reducible rfl
                   rotate_left
                   · simp only [Act.put, Xt, Xu, Xv, i64_w, i32_w]
                     rfl
                   refine pu (i := 8) (N := some 54) (v := ?_) (a' := ?_) #[Zt,Zt,Zt,Zt,Zt,Zt,Zt,Zt,Zt,Zf,Zt,Zf,Zf,Zt,Zf,Zt,Zt,Zf,Zf,Zf,Zt,Zf,Zf,Zf,Zf,Zf,Zf] HT_ ?_ ?_ ?_
                   rotate_left
                   · intro w'
                     go_simp
                     with_reducible rfl
                   rotate_left
                   · simp only [Act.put, Xt, Xu, Xv, i64_w, i32_w]
                     rfl
                   refine take_ (i := 9) (N := some 55) (v := ?_) (a' := ?_) #[Zt,Zt,Zt,Zt,Zt,Zt,Zt,Zt,Zt,Zt,Zt,Zf,Zf,Zt,Zf,Zt,Zt,Zf,Zf,Zf,Zt,Zf,Zf,Zf,Zf,Zf,Zf] rfl rfl (take_ofW HT_.out HW_.out (by kernel_rfl)) (fun _ _ _ h => h) (Or.inl ⟨by rfl, ?_⟩) hHeld ?_ ?_
                   rotate_left
                   · rintro w' ⟨s0, s1, s2, s3, s4, s5, s6, s7, s8, s9, s10, s11⟩
                     go_simp
                     with_reducible rfl
                   rotate_left
                   · simp only [Act.put, Xt, Xu, Xv, i64_w, i32_w]
                     rfl
                   refine take_ (i := 11) (N := some 57) (v := ?_) (a' := ?_) #[Zt,Zt,Zt,Zt,Zt,Zt,Zt,Zt,Zt,Zt,Zt,Zt,Zf,Zt,Zf,Zt,Zt,Zf,Zf,Zf,Zt,Zf,Zf,Zf,Zf,Zf,Zf] rfl rfl (take_ofW HT_.out HW_.out (by kernel_rfl)) (fun _ _ _ h => h) (Or.inl ⟨by rfl, ?_⟩) hHeld ?_ ?_
                   rotate_left
                   · rintro w' ⟨s0, s1, s2, s3, s4, s5, s6, s7, s8, s9, s10, s11⟩
                     go_simp
                     with_reducible rfl
                   rotate_left
                   · simp only [Act.put, Xt, Xu, Xv, i64_w, i32_w]
                     rfl
                   refine take_ (i := 14) (N := some 60) (v := ?_) (a' := ?_) #[Zt,Zt,Zt,Zt,Zt,Zt,Zt,Zt,Zt,Zt,Zt,Zt,Zf,Zt,Zt,Zt,Zt,Zf,Zf,Zf,Zt,Zf,Zf,Zf,Zf,Zf,Zf] rfl rfl (take_ofW HT_.out HW_.out (by kernel_rfl)) (fun _ _ _ h => h) (Or.inl ⟨by rfl, ?_⟩) hHeld ?_ ?_
                   rotate_left
                   · rintro w' ⟨s0, s1, s2, s3, s4, s5, s6, s7, s8, s9, s10, s11⟩
                     go_simp
                     with_reducible rfl
                   rotate_left
                   · simp only [Act.put, Xt, Xu, Xv, i64_w, i32_w]
                     rfl
                   refine pu (i := 17) (N := some 63) (v := ?_) (a' := ?_) #[Zt,Zt,Zt,Zt,Zt,Zt,Zt,Zt,Zt,Zt,Zt,Zt,Zf,Zt,Zt,Zt,Zt,Zt,Zf,Zf,Zt,Zf,Zf,Zf,Zf,Zf,Zf] HT_ ?_ ?_ ?_
                   rotate_left
                   · intro w'
                     go_simp
                     with_reducible rfl
                   rotate_left
                   · simp only [Act.put, Xt, Xu, Xv, i64_w, i32_w]
                     rfl
                   refine pu (i := 18) (N := some 64) (v := ?_) (a' := ?_) #[Zt,Zt,Zt,Zt,Zt,Zt,Zt,Zt,Zt,Zt,Zt,Zt,Zf,Zt,Zt,Zt,Zt,Zt,Zt,Zf,Zt,Zf,Zf,Zf,Zf,Zf,Zf] HT_ ?_ ?_ ?_
                   rotate_left
                   · intro w'
                     go_simp
                     with_reducible rfl
                   rotate_left
                   · simp only [Act.put, Xt, Xu, Xv, i64_w, i32_w]
                     rfl
                   refine take_ (i := 19) (N := some 65) (v := ?_) (a' := ?_) #[Zt,Zt,Zt,Zt,Zt,Zt,Zt,Zt,Zt,Zt,Zt,Zt,Zf,Zt,Zt,Zt,Zt,Zt,Zt,Zt,Zt,Zf,Zf,Zf,Zf,Zf,Zf] rfl rfl (take_ofW HT_.out HW_.out (by kernel_rfl)) (fun _ _ _ h => h) (Or.inl ⟨by rfl, ?_⟩) hHeld ?_ ?_
                   rotate_left
                   · rintro w' ⟨s0, s1, s2, s3, s4, s5, s6, s7, s8, s9, s10, s11⟩
                     go_simp
                     with_reducible rfl
                   rotate_left
                   · simp only [Act.put, Xt, Xu, Xv, i64_w, i32_w]
                     rfl
                   refine take_ (i := 21) (N := some 67) (v := ?_) (a' := ?_) #[Zt,Zt,Zt,Zt,Zt,Zt,Zt,Zt,Zt,Zt,Zt,Zt,Zf,Zt,Zt,Zt,Zt,Zt,Zt,Zt,Zt,Zt,Zf,Zf,Zf,Zf,Zf] rfl rfl (take_ofW HT_.out HW_.out (by kernel_rfl)) (fun _ _ _ h => h) (Or.inl ⟨by rfl, ?_⟩) hHeld ?_ ?_
                   rotate_left
                   · rintro w' ⟨s0, s1, s2, s3, s4, s5, s6, s7, s8, s9, s10, s11⟩
                     go_simp
                     with_reducible rfl
                   rotate_left
                   · simp only [Act.put, Xt, Xu, Xv, i64_w, i32_w]
                     rfl
                   refine one_ (i := 12) (N := some 58) #[Zt,Zt,Zt,Zt,Zt,Zt,Zt,Zt,Zt,Zt,Zt,Zt,Zt,Zt,Zt,Zt,Zt,Zt,Zt,Zt,Zt,Zt,Zf,Zf,Zf,Zf,Zf] rfl rfl (one_of HT_.out (by kernel_rfl)) (by decide) (fun K hK => ?_)
                   refine goes_ Tryz.func43 (by kernel_rfl) rfl #[.int .i64 ((rd_T60 l0_2 (ji32)).f0), .int .i64 ((rd_T60 l0_2 x32_2).f0)] (by rfl) rfl rfl (by (try simp only [List.map_toArray, List.map_cons, List.map_nil]); first | done | (simp only [hji32]; rfl) | rfl | (simp only [List.length_drop, List.length_take]; rfl)) ?_
                   with_reducible refine (cmp_Compare_int.calls ((rd_T60 l0_2 (ji32)).f0) ((rd_T60 l0_2 x32_2).f0) t123 _ A35.out).mono ?_
                   rintro e w' ⟨rfl, ⟨nd, rfl⟩⟩
                   refine ⟨_, rfl, ?_⟩
                   refine hK.out _ _ ⟨(Qn BK117.out 0).trans rfl, (Qn BK117.out 1).trans rfl, (Qn BK117.out 2).trans rfl, (Qn BK119.out 0).trans rfl, (Qn BK119.out 1).trans rfl, (Qn BK119.out 2).trans rfl, ((HB.out.cell (Xs w _ hw122_0)).trans hw122_0), ((HB.out.cell (Xs w _ hw122_1)).trans hw122_1), ((HB.out.cell (Xs w _ hw122_2)).trans hw122_2), ((HB.out.cell (Xs w _ hw124_0)).trans hw124_0), ((HB.out.cell (Xs w _ hw124_1)).trans hw124_1), ((HB.out.cell (Xs w _ hw124_2)).trans hw124_2)⟩ (fun hHeld => ?_)
                   clear hK K
                   refine norm_ (a' := ?_) ?_ ?_
                   rotate_left
                   · show Act.put _ (some 58) _ = _
                     simp only [Act.put, Xt, Xu, Xv, i64_w, i32_w]
                     rfl
                   refine one_ (i := 22) (N := some 68) #[Zt,Zt,Zt,Zt,Zt,Zt,Zt,Zt,Zt,Zt,Zt,Zt,Zt,Zt,Zt,Zt,Zt,Zt,Zt,Zt,Zt,Zt,Zt,Zf,Zf,Zf,Zf] rfl rfl (one_of HT_.out (by kernel_rfl)) (by decide) (fun K hK => ?_)
                   refine goes_ Tryz.func44 (by kernel_rfl) rfl #[.string ((rd_T60 l0_2 (ji32)).f1), .string ((rd_T60 l0_2 x32_2).f1)] (by rfl) rfl rfl (by (try simp only [List.map_toArray, List.map_cons, List.map_nil]); first | done | (simp only [hji32]; rfl) | rfl | (simp only [List.length_drop, List.length_take]; rfl)) ?_
                   with_reducible refine (cmp_Compare_string.calls ((rd_T60 l0_2 (ji32)).f1) ((rd_T60 l0_2 x32_2).f1) t125 _ A36.out).mono ?_
                   rintro e w' ⟨rfl, ⟨nd, rfl⟩⟩
                   refine ⟨_, rfl, ?_⟩
                   refine hK.out _ _ ⟨(Qn BK117.out 0).trans rfl, (Qn BK117.out 1).trans rfl, (Qn BK117.out 2).trans rfl, (Qn BK119.out 0).trans rfl, (Qn BK119.out 1).trans rfl, (Qn BK119.out 2).trans rfl, ((HB.out.cell (Xs w _ hw122_0)).trans hw122_0), ((HB.out.cell (Xs w _ hw122_1)).trans hw122_1), ((HB.out.cell (Xs w _ hw122_2)).trans hw122_2), ((HB.out.cell (Xs w _ hw124_0)).trans hw124_0), ((HB.out.cell (Xs w _ hw124_1)).trans hw124_1), ((HB.out.cell (Xs w _ hw124_2)).trans hw124_2)⟩ (fun hHeld => ?_)
                   clear hK K
                   refine norm_ (a' := ?_) ?_ ?_
                   rotate_left
                   · show Act.put _ (some 68) _ = _
                     simp only [Act.put, Xt, Xu, Xv, i64_w, i32_w]
                     rfl
                   refine one_ (i := 23) (N := some 69) #[Zt,Zt,Zt,Zt,Zt,Zt,Zt,Zt,Zt,Zt,Zt,Zt,Zt,Zt,Zt,Zt,Zt,Zt,Zt,Zt,Zt,Zt,Zt,Zt,Zf,Zf,Zf] rfl rfl (one_of HT_.out (by kernel_rfl)) (by decide) (fun K hK => ?_)
                   refine Kd.R_lit_step (Kd.int .i64) _ 3 ?hg (N := 69) ?hd (xs := ([t123, t125] : List Int)) (inner := [.int .i64 t123, .int .i64 t125]) (ok := fun _ => True) (okp := fun _ => True) ?hr ?hp (fun _ hk => hk) trivial (Below.refl _ _) (Nat.le_refl _) (by simp) ?_; (case hd => rfl); (case hg => rfl); (case hr => first | (go_simp; done) | (go_simp; rfl)); (case hp => exact (Reps.one (show Kd.M (Kd.int .i64) _ _ _ t123 [.int .i64 t123] from rfl) (Reps.one (show Kd.M (Kd.int .i64) _ _ _ t125 [.int .i64 t125] from rfl) (Reps.none _ _))))
                   intro v127 w44 ho45 hb hg_ hnew_
                   clear hg_ hnew_
                   (first | rw [← Ny126.out] at ho45 | (simp only [Int.reduceToNat] at ho45; rw [← Ny126.out] at ho45))
                   have n0_ := Qa (Kd.R_lower ho45 (Qi (bl HB.out)))
                   have n1_ := Qa (Qb (nc BK117.out) hb)
                   have n2_ := Qa (Qb (nc BK119.out) hb)
                   have n3_ := Qa (Qh (bl HB.out) hb)
                   clear BK117
                   clear BK119
                   clear HB
                   have HO128 := n0_
                   have BK117 := n1_
                   have BK119 := n2_
                   have HB := n3_
                   clear n0_ n1_ n2_ n3_
                   clear hb ho45
                   obtain ⟨Ao46, co46, eo46⟩ := Xk HO128.out
                   (first | subst eo46 | (injection eo46 with f1_ f2_ f3_; have f4_ := f1_.symm; have f5_ := f3_.symm; clear f1_ f2_ f3_; subst f4_; subst f5_))
                   refine hK.out _ _ ⟨(Qn BK117.out 0).trans rfl, (Qn BK117.out 1).trans rfl, (Qn BK117.out 2).trans rfl, (Qn BK119.out 0).trans rfl, (Qn BK119.out 1).trans rfl, (Qn BK119.out 2).trans rfl, ((HB.out.cell (Xs w _ hw122_0)).trans hw122_0), ((HB.out.cell (Xs w _ hw122_1)).trans hw122_1), ((HB.out.cell (Xs w _ hw122_2)).trans hw122_2), ((HB.out.cell (Xs w _ hw124_0)).trans hw124_0), ((HB.out.cell (Xs w _ hw124_1)).trans hw124_1), ((HB.out.cell (Xs w _ hw124_2)).trans hw124_2)⟩ (fun hHeld => ?_)
                   clear hK K
                   refine norm_ (a' := ?_) ?_ ?_
                   rotate_left
                   · show Act.put _ (some 69) _ = _
                     simp only [Act.put, Xt, Xu, Xv, i64_w, i32_w]
                     rfl
                   refine one_ (i := 24) (N := some 70) #[Zt,Zt,Zt,Zt,Zt,Zt,Zt,Zt,Zt,Zt,Zt,Zt,Zt,Zt,Zt,Zt,Zt,Zt,Zt,Zt,Zt,Zt,Zt,Zt,Zt,Zf,Zf] rfl rfl (one_of HT_.out (by kernel_rfl)) (by decide) (fun K hK => ?_)
                   refine goes_ Tryz.func42 (by kernel_rfl) rfl #[.slice Ao46 y126.length co46] (by rfl) rfl rfl (by (try simp only [List.map_toArray, List.map_cons, List.map_nil]); first | done | rfl | (simp only [List.length_drop, List.length_take]; rfl)) ?_
                   with_reducible refine (cmp_Or_int.calls kj17 _ _ y126 t129 _ ?side1 ?side2 A37.out).mono ?_
                   (case side1 => repeat (first | exact (Xb HO128.out).2.2 | (with_reducible refine Kd.C_alloc ?_ _) | (with_reducible refine Kd.C_drewN ?_ _) | (with_reducible refine Kd.C_drew ?_)))
                   (case side2 => exact (Xb HO128.out).2.1)
                   rintro e w' ⟨rfl, ⟨nd, rfl⟩⟩
                   refine ⟨_, rfl, ?_⟩
                   refine hK.out _ _ ⟨(Qn BK117.out 0).trans rfl, (Qn BK117.out 1).trans rfl, (Qn BK117.out 2).trans rfl, (Qn BK119.out 0).trans rfl, (Qn BK119.out 1).trans rfl, (Qn BK119.out 2).trans rfl, ((HB.out.cell (Xs w _ hw122_0)).trans hw122_0), ((HB.out.cell (Xs w _ hw122_1)).trans hw122_1), ((HB.out.cell (Xs w _ hw122_2)).trans hw122_2), ((HB.out.cell (Xs w _ hw124_0)).trans hw124_0), ((HB.out.cell (Xs w _ hw124_1)).trans hw124_1), ((HB.out.cell (Xs w _ hw124_2)).trans hw124_2)⟩ (fun hHeld => ?_)
                   clear hK K
                   refine norm_ (a' := ?_) ?_ ?_
                   rotate_left
                   · show Act.put _ (some 70) _ = _
                     simp only [Act.put, Xt, Xu, Xv, i64_w, i32_w]
                     rfl
                   refine pu (i := 25) (N := some 71) (v := ?_) (a' := ?_) #[Zt,Zt,Zt,Zt,Zt,Zt,Zt,Zt,Zt,Zt,Zt,Zt,Zt,Zt,Zt,Zt,Zt,Zt,Zt,Zt,Zt,Zt,Zt,Zt,Zt,Zt,Zf] HT_ ?_ ?_ ?_
                   rotate_left
                   · intro w'
                     go_simp
                     with_reducible rfl
                   rotate_left
                   · simp only [Act.put, Xt, Xu, Xv, i64_w, i32_w]
                     rfl
                   refine pu (i := 26) (N := some 72) (v := ?_) (a' := ?_) #[Zt,Zt,Zt,Zt,Zt,Zt,Zt,Zt,Zt,Zt,Zt,Zt,Zt,Zt,Zt,Zt,Zt,Zt,Zt,Zt,Zt,Zt,Zt,Zt,Zt,Zt,Zt] HT_ ?_ ?_ ?_
                   rotate_left
                   · intro w'
                     go_simp
                     with_reducible rfl
                   rotate_left
                   · simp only [Act.put, Xt, Xu, Xv, i64_w, i32_w]
                     rfl
                   refine done_ (done_of HT_.out (by kernel_rfl)) ?_
                   try go_wp2
                   go_roundg kj17
                   case measure => have := HJ1.out; have := HK2.out; have := HJ17.out; omega
                   case rel => exact ⟨(wrap64 (x32_2 + 1)), (by first | rfl | (simp; done) | (simp [*]; done)), H', ⟨by have := HJ1.out; have := HK2.out; have := HJ17.out; omega⟩, ⟨nc BK117.out⟩, ⟨bl HB.out⟩⟩
                 rw [if_neg c34] at H
                 exact absurd H (by simp)
               rw [if_neg c33] at H
               exact absurd H (by simp)
             rw [if_neg c31] at H
             have c31b0 : decide (0 < x32_2) = false := Xr c31
             clear c31
             have H' := Qa H
             clear H
             try go_wp2
             have n0_ := Qa (Qk BK117.out)
             have n1_ := Qa (Qk BK119.out)
             have n2_ := Qa (Qf HB.out)
             clear BK117
             clear BK119
             clear HB
             have BK117 := n0_
             have BK119 := n1_
             have HB := n2_
             clear n0_ n1_ n2_
             refine start_ (n := 27) (S := fun w' => True) (ds := []) #[Zf,Zf,Zf,Zf,Zf,Zf,Zf,Zf,Zf,Zf,Zf,Zf,Zf,Zf,Zf,Zf,Zf,Zf,Zf,Zf,Zf,Zf,Zf,Zf,Zf,Zf,Zf] (by kernel_rfl) rfl rfl trivial (fun hHeld => ?_); refine with_tabW filing_Valid.tab8 filing_Valid.bits8 (fun HT_ HW_ => ?_)
             generalize wc.drew = w47 at BK117 BK119 HB hHeld ⊢
             refine pu (i := 0) (N := some 46) (v := ?_) (a' := ?_) #[Zt,Zf,Zf,Zf,Zf,Zf,Zf,Zf,Zf,Zf,Zf,Zf,Zf,Zf,Zf,Zf,Zf,Zf,Zf,Zf,Zf,Zf,Zf,Zf,Zf,Zf,Zf] HT_ ?_ ?_ ?_
             rotate_left
             · intro w'
               go_simp
               with_reducible rfl
             rotate_left
             · simp only [Act.put, Xt, Xu, Xv, i64_w, i32_w]
               rfl
             refine pu (i := 1) (N := some 47) (v := ?_) (a' := ?_) #[Zt,Zt,Zf,Zf,Zf,Zf,Zf,Zf,Zf,Zf,Zf,Zf,Zf,Zf,Zf,Zf,Zf,Zf,Zf,Zf,Zf,Zf,Zf,Zf,Zf,Zf,Zf] HT_ ?_ ?_ ?_
             rotate_left
             · intro w'
               go_simp
               with_reducible rfl
             rotate_left
             · simp only [Act.put, Xt, Xu, Xv, i64_w, i32_w]
               rfl
             refine pu (i := 2) (N := some 48) (v := ?_) (a' := ?_) #[Zt,Zt,Zt,Zf,Zf,Zf,Zf,Zf,Zf,Zf,Zf,Zf,Zf,Zf,Zf,Zf,Zf,Zf,Zf,Zf,Zf,Zf,Zf,Zf,Zf,Zf,Zf] HT_ ?_ ?_ ?_
             rotate_left
             · intro w'
               go_simp
               with_reducible rfl
             rotate_left
             · simp only [Act.put, Xt, Xu, Xv, i64_w, i32_w]
               rfl
             refine pv (i := 3) (N := some 49) (a' := ?_) #[Zt,Zt,Zt,Zt,Zf,Zf,Zf,Zf,Zf,Zf,Zf,Zf,Zf,Zf,Zf,Zf,Zf,Zf,Zf,Zf,Zf,Zf,Zf,Zf,Zf,Zf,Zf] HT_ ?_ ?_
             rotate_left
             · simp only [Act.put, Xt, Xu, Xv, i64_w, i32_w]
               rfl
             refine pv (i := 4) (N := some 50) (a' := ?_) #[Zt,Zt,Zt,Zt,Zt,Zf,Zf,Zf,Zf,Zf,Zf,Zf,Zf,Zf,Zf,Zf,Zf,Zf,Zf,Zf,Zf,Zf,Zf,Zf,Zf,Zf,Zf] HT_ ?_ ?_
             rotate_left
             · simp only [Act.put, Xt, Xu, Xv, i64_w, i32_w]
               rfl
             refine pv (i := 5) (N := some 51) (a' := ?_) #[Zt,Zt,Zt,Zt,Zt,Zt,Zf,Zf,Zf,Zf,Zf,Zf,Zf,Zf,Zf,Zf,Zf,Zf,Zf,Zf,Zf,Zf,Zf,Zf,Zf,Zf,Zf] HT_ ?_ ?_
             rotate_left
             · simp only [Act.put, Xt, Xu, Xv, i64_w, i32_w]
               rfl
             refine pv (i := 6) (N := some 52) (a' := ?_) #[Zt,Zt,Zt,Zt,Zt,Zt,Zt,Zf,Zf,Zf,Zf,Zf,Zf,Zf,Zf,Zf,Zf,Zf,Zf,Zf,Zf,Zf,Zf,Zf,Zf,Zf,Zf] HT_ ?_ ?_
             rotate_left
             · simp only [Act.put, Xt, Xu, Xv, i64_w, i32_w]
               rfl
             refine pv (i := 7) (N := some 53) (a' := ?_) #[Zt,Zt,Zt,Zt,Zt,Zt,Zt,Zt,Zf,Zf,Zf,Zf,Zf,Zf,Zf,Zf,Zf,Zf,Zf,Zf,Zf,Zf,Zf,Zf,Zf,Zf,Zf] HT_ ?_ ?_
             rotate_left
             · simp only [Act.put, Xt, Xu, Xv, i64_w, i32_w]
               rfl
             refine pv (i := 8) (N := some 54) (a' := ?_) #[Zt,Zt,Zt,Zt,Zt,Zt,Zt,Zt,Zt,Zf,Zf,Zf,Zf,Zf,Zf,Zf,Zf,Zf,Zf,Zf,Zf,Zf,Zf,Zf,Zf,Zf,Zf] HT_ ?_ ?_
             rotate_left
             · simp only [Act.put, Xt, Xu, Xv, i64_w, i32_w]
               rfl
             refine pv (i := 9) (N := some 55) (a' := ?_) #[Zt,Zt,Zt,Zt,Zt,Zt,Zt,Zt,Zt,Zt,Zf,Zf,Zf,Zf,Zf,Zf,Zf,Zf,Zf,Zf,Zf,Zf,Zf,Zf,Zf,Zf,Zf] HT_ ?_ ?_
             rotate_left
             · simp only [Act.put, Xt, Xu, Xv, i64_w, i32_w]
               rfl
             refine pv (i := 10) (N := some 56) (a' := ?_) #[Zt,Zt,Zt,Zt,Zt,Zt,Zt,Zt,Zt,Zt,Zt,Zf,Zf,Zf,Zf,Zf,Zf,Zf,Zf,Zf,Zf,Zf,Zf,Zf,Zf,Zf,Zf] HT_ ?_ ?_
             rotate_left
             · simp only [Act.put, Xt, Xu, Xv, i64_w, i32_w]
               rfl
             refine pv (i := 11) (N := some 57) (a' := ?_) #[Zt,Zt,Zt,Zt,Zt,Zt,Zt,Zt,Zt,Zt,Zt,Zt,Zf,Zf,Zf,Zf,Zf,Zf,Zf,Zf,Zf,Zf,Zf,Zf,Zf,Zf,Zf] HT_ ?_ ?_
             rotate_left
             · simp only [Act.put, Xt, Xu, Xv, i64_w, i32_w]
               rfl
             refine pv (i := 12) (N := some 58) (a' := ?_) #[Zt,Zt,Zt,Zt,Zt,Zt,Zt,Zt,Zt,Zt,Zt,Zt,Zt,Zf,Zf,Zf,Zf,Zf,Zf,Zf,Zf,Zf,Zf,Zf,Zf,Zf,Zf] HT_ ?_ ?_
             rotate_left
             · simp only [Act.put, Xt, Xu, Xv, i64_w, i32_w]
               rfl
             refine pv (i := 13) (N := some 59) (a' := ?_) #[Zt,Zt,Zt,Zt,Zt,Zt,Zt,Zt,Zt,Zt,Zt,Zt,Zt,Zt,Zf,Zf,Zf,Zf,Zf,Zf,Zf,Zf,Zf,Zf,Zf,Zf,Zf] HT_ ?_ ?_
             rotate_left
             · simp only [Act.put, Xt, Xu, Xv, i64_w, i32_w]
               rfl
             refine pv (i := 14) (N := some 60) (a' := ?_) #[Zt,Zt,Zt,Zt,Zt,Zt,Zt,Zt,Zt,Zt,Zt,Zt,Zt,Zt,Zt,Zf,Zf,Zf,Zf,Zf,Zf,Zf,Zf,Zf,Zf,Zf,Zf] HT_ ?_ ?_
             rotate_left
             · simp only [Act.put, Xt, Xu, Xv, i64_w, i32_w]
               rfl
             refine pv (i := 15) (N := some 61) (a' := ?_) #[Zt,Zt,Zt,Zt,Zt,Zt,Zt,Zt,Zt,Zt,Zt,Zt,Zt,Zt,Zt,Zt,Zf,Zf,Zf,Zf,Zf,Zf,Zf,Zf,Zf,Zf,Zf] HT_ ?_ ?_
             rotate_left
             · simp only [Act.put, Xt, Xu, Xv, i64_w, i32_w]
               rfl
             refine pv (i := 16) (N := some 62) (a' := ?_) #[Zt,Zt,Zt,Zt,Zt,Zt,Zt,Zt,Zt,Zt,Zt,Zt,Zt,Zt,Zt,Zt,Zt,Zf,Zf,Zf,Zf,Zf,Zf,Zf,Zf,Zf,Zf] HT_ ?_ ?_
             rotate_left
             · simp only [Act.put, Xt, Xu, Xv, i64_w, i32_w]
               rfl
             refine pv (i := 17) (N := some 63) (a' := ?_) #[Zt,Zt,Zt,Zt,Zt,Zt,Zt,Zt,Zt,Zt,Zt,Zt,Zt,Zt,Zt,Zt,Zt,Zt,Zf,Zf,Zf,Zf,Zf,Zf,Zf,Zf,Zf] HT_ ?_ ?_
             rotate_left
             · simp only [Act.put, Xt, Xu, Xv, i64_w, i32_w]
               rfl
             refine pv (i := 18) (N := some 64) (a' := ?_) #[Zt,Zt,Zt,Zt,Zt,Zt,Zt,Zt,Zt,Zt,Zt,Zt,Zt,Zt,Zt,Zt,Zt,Zt,Zt,Zf,Zf,Zf,Zf,Zf,Zf,Zf,Zf] HT_ ?_ ?_
             rotate_left
             · simp only [Act.put, Xt, Xu, Xv, i64_w, i32_w]
               rfl
             refine pv (i := 19) (N := some 65) (a' := ?_) #[Zt,Zt,Zt,Zt,Zt,Zt,Zt,Zt,Zt,Zt,Zt,Zt,Zt,Zt,Zt,Zt,Zt,Zt,Zt,Zt,Zf,Zf,Zf,Zf,Zf,Zf,Zf] HT_ ?_ ?_
             rotate_left
             · simp only [Act.put, Xt, Xu, Xv, i64_w, i32_w]
               rfl
             refine pv (i := 20) (N := some 66) (a' := ?_) #[Zt,Zt,Zt,Zt,Zt,Zt,Zt,Zt,Zt,Zt,Zt,Zt,Zt,Zt,Zt,Zt,Zt,Zt,Zt,Zt,Zt,Zf,Zf,Zf,Zf,Zf,Zf] HT_ ?_ ?_
             rotate_left
             · simp only [Act.put, Xt, Xu, Xv, i64_w, i32_w]
               rfl
             refine pv (i := 21) (N := some 67) (a' := ?_) #[Zt,Zt,Zt,Zt,Zt,Zt,Zt,Zt,Zt,Zt,Zt,Zt,Zt,Zt,Zt,Zt,Zt,Zt,Zt,Zt,Zt,Zt,Zf,Zf,Zf,Zf,Zf] HT_ ?_ ?_
             rotate_left
             · simp only [Act.put, Xt, Xu, Xv, i64_w, i32_w]
               rfl
             refine pv (i := 22) (N := some 68) (a' := ?_) #[Zt,Zt,Zt,Zt,Zt,Zt,Zt,Zt,Zt,Zt,Zt,Zt,Zt,Zt,Zt,Zt,Zt,Zt,Zt,Zt,Zt,Zt,Zt,Zf,Zf,Zf,Zf] HT_ ?_ ?_
             rotate_left
             · simp only [Act.put, Xt, Xu, Xv, i64_w, i32_w]
               rfl
             refine pv (i := 23) (N := some 69) (a' := ?_) #[Zt,Zt,Zt,Zt,Zt,Zt,Zt,Zt,Zt,Zt,Zt,Zt,Zt,Zt,Zt,Zt,Zt,Zt,Zt,Zt,Zt,Zt,Zt,Zt,Zf,Zf,Zf] HT_ ?_ ?_
             rotate_left
             · simp only [Act.put, Xt, Xu, Xv, i64_w, i32_w]
               rfl
             refine pv (i := 24) (N := some 70) (a' := ?_) #[Zt,Zt,Zt,Zt,Zt,Zt,Zt,Zt,Zt,Zt,Zt,Zt,Zt,Zt,Zt,Zt,Zt,Zt,Zt,Zt,Zt,Zt,Zt,Zt,Zt,Zf,Zf] HT_ ?_ ?_
             rotate_left
             · simp only [Act.put, Xt, Xu, Xv, i64_w, i32_w]
               rfl
             refine pv (i := 25) (N := some 71) (a' := ?_) #[Zt,Zt,Zt,Zt,Zt,Zt,Zt,Zt,Zt,Zt,Zt,Zt,Zt,Zt,Zt,Zt,Zt,Zt,Zt,Zt,Zt,Zt,Zt,Zt,Zt,Zt,Zf] HT_ ?_ ?_
             rotate_left
             · simp only [Act.put, Xt, Xu, Xv, i64_w, i32_w]
               rfl
             refine pu (i := 26) (N := some 72) (v := ?_) (a' := ?_) #[Zt,Zt,Zt,Zt,Zt,Zt,Zt,Zt,Zt,Zt,Zt,Zt,Zt,Zt,Zt,Zt,Zt,Zt,Zt,Zt,Zt,Zt,Zt,Zt,Zt,Zt,Zt] HT_ ?_ ?_ ?_
             rotate_left
             · intro w'
               go_simp
               with_reducible rfl
             rotate_left
             · simp only [Act.put, Xt, Xu, Xv, i64_w, i32_w]
               rfl
             refine done_ (done_of HT_.out (by kernel_rfl)) ?_
             try go_wp2
             go_roundg kj17
             case measure => have := HJ1.out; have := HK2.out; have := HJ17.out; omega
             case rel => exact ⟨(wrap64 (x32_2 + 1)), (by first | rfl | (simp; done) | (simp [*]; done)), H', ⟨by have := HJ1.out; have := HK2.out; have := HJ17.out; omega⟩, ⟨nc BK117.out⟩, ⟨bl HB.out⟩⟩
         rw [if_neg c17] at H
         exact absurd H (by simp)
       rw [if_neg c16] at H
       exact absurd H (by simp)
     rw [if_neg c15] at H
     have c15b0 : decide (x32_2 < (l0_2.length : Int)) = false := Xr c15
     clear c15
     obtain rfl := Xz H
     go_wp2
     go_ret
     exact ⟨by first | rfl | (simp [errW_none, errW_some] <;> rfl) | (simp [*, errW_none, errW_some] <;> rfl), bl HB.out⟩
end Go.Proofs.YtejgfblphgcgkaaGreatDoor.P
