/- Texts for the law FilingDecodes (kept out of a larger one). -/
import Derived.Test.YtejgfblphgcgkaaGreatDoorZFilingDecodes10
namespace Go.Proofs.YtejgfblphgcgkaaGreatDoor.P
open Go.RowKit Go.Proofs.YtejgfblphgcgkaaGreatDoorW.PrintWords Go.Proofs.YtejgfblphgcgkaaGreatDoorW.PrintLast Go.Proofs.YtejgfblphgcgkaaGreatDoorW.PrintMore
attribute [local go_sem] max2_int min2_int max_two min_two max_three min_three max_four min_four   -- for this text's walks alone
set_option linter.unusedVariables false
set_option maxHeartbeats 8000000
set_option maxRecDepth 100000
set_option linter.unusedSimpArgs false
attribute [local go_sem high] eqA60
-- given by hand: function 9 (payrolllaw43_awake), in needs
def IsS64 (w0 W : World) (g : Nat) (f0 : List Int) (f1 : Int) : Prop := ∃ A0 c0, W.heap[g]? = some (.cells #[.slice A0 f0.length c0, .int .i64 f1] 64 (0,0)) ∧ w0.heap.size ≤ g ∧ Kd.C (Kd.int .i64) w0 A0 f0.length f0
theorem IsS64.as {w0 W0 W : World} {g : Nat} {f0 : List Int} {f1 : Int} (_ : IsS64 w0 W0 g f0 f1) (h : IsS64 w0 W g f0 f1) : IsS64 w0 W g f0 f1 := h
theorem IsS64.grown {w0 W : World} {g : Nat} {f0 : List Int} {f1 : Int} {W1 : World} {row : Option Nat} (h : IsS64 w0 W g f0 f1) (hw : W.grownBy W1 row) (hne : some g ≠ row) : IsS64 w0 W1 g f0 f1 := by
 obtain ⟨A0, c0, hb, hg, hr0⟩ := h
 exact ⟨A0, c0, blk_grown hb hw hne, hg, hr0⟩
theorem IsS64.below {w0 W : World} {g : Nat} {f0 : List Int} {f1 : Int} {W1 : World} (h : IsS64 w0 W g f0 f1) (hw : Below W.heap.size W W1) : IsS64 w0 W1 g f0 f1 := h.grown (grown_of_below hw none) (by simp)
theorem IsS64.alloc {w0 W : World} {g : Nat} {f0 : List Int} {f1 : Int} (h : IsS64 w0 W g f0 f1) (o : Obj) : IsS64 w0 (W.alloc o) g f0 f1 := h.below (Qd (Below.refl _ _) o)
theorem IsS64.drewN {w0 W : World} {g : Nat} {f0 : List Int} {f1 : Int} (h : IsS64 w0 W g f0 f1) (m : Nat) : IsS64 w0 (W.drewN m) g f0 f1 := h
theorem IsS64.drew {w0 W : World} {g : Nat} {f0 : List Int} {f1 : Int} (h : IsS64 w0 W g f0 f1) : IsS64 w0 W.drew g f0 f1 := h
theorem IsS64.apart {w0 W : World} {g : Nat} {f0 : List Int} {f1 : Int} {α : Type} {d : Kd α} {e : Nat} {base : Nat} {ok : Nat → Prop} {v : Value} {xs : List α} (h : IsS64 w0 W g f0 f1) (ho : d.R e W base ok v xs) (ht : ∀ q, q ∈ e :: d.E → q ≠ 64) : d.R e W base (fun k => ok k ∧ k ≠ g) v xs := by
 obtain ⟨A0, c0, hb, hg, hr0⟩ := h
 exact Kd.R_types ho hb ht
theorem IsS64.own_ne {w0 W : World} {g : Nat} {f0 : List Int} {f1 : Int} {α : Type} {d : Kd α} {e : Nat} {base : Nat} {ok : Nat → Prop} {v : Value} {xs : List α} (h : IsS64 w0 W g f0 f1) (ho : d.R e W base ok v xs) (ht : e ≠ 64) : some g ≠ v.ownBlock := by
 obtain ⟨A0, c0, hb, hg, hr0⟩ := h
 exact Kd.R_ne ho hb ht
theorem IsS64.apartS {w0 W : World} {g : Nat} {f0 : List Int} {f1 : Int} {α : Type} {d : Kd α} {e : Nat} {base : Nat} {ok : Nat → Prop} {v : Value} {xs : List α} (h : IsS64 w0 W g f0 f1) (ho : d.S e W base ok v xs) (ht : ∀ q, q ∈ e :: d.E → q ≠ 64) : d.S e W base (fun k => ok k ∧ k ≠ g) v xs := by
 obtain ⟨A0, c0, hb, hg, hr0⟩ := h
 exact Kd.S_types ho hb ht
theorem IsS64.own_neS {w0 W : World} {g : Nat} {f0 : List Int} {f1 : Int} {α : Type} {d : Kd α} {e : Nat} {base : Nat} {ok : Nat → Prop} {v : Value} {xs : List α} (h : IsS64 w0 W g f0 f1) (ho : d.S e W base ok v xs) (ht : e ≠ 64) : some g ≠ v.ownBlock := by
 obtain ⟨A0, c0, hb, hg, hr0⟩ := h
 exact Kd.S_ne ho hb ht
theorem IsS64.lt {w0 W : World} {g : Nat} {f0 : List Int} {f1 : Int} (h : IsS64 w0 W g f0 f1) : g < W.heap.size := by
 obtain ⟨A0, c0, hb, hg, hr0⟩ := h
 exact blk_lt hb
theorem IsS64.ge {w0 W : World} {g : Nat} {f0 : List Int} {f1 : Int} (h : IsS64 w0 W g f0 f1) : w0.heap.size ≤ g := by
 obtain ⟨A0, c0, hb, hg, hr0⟩ := h
 exact hg
theorem IsS64.far {w0 W : World} {g : Nat} {f0 : List Int} {f1 : Int} {p : Addr} (h : IsS64 w0 W g f0 f1) (hne : g ≠ p.block) (u : Value) : IsS64 w0 (W.setCell p u) g f0 f1 := by
 obtain ⟨A0, c0, hb, hg, hr0⟩ := h
 exact ⟨A0, c0, Qc hb hne u, hg, hr0⟩
theorem cellS64_0 {W : World} {g : Nat} {A0 : Option Addr} {c0 : Nat} {f0 : List Int} {f1 : Int} (h : W.heap[g]? = some (.cells #[.slice A0 f0.length c0, .int .i64 f1] 64 (0,0))) : W.cell? ⟨g, 0, none⟩ = some (.slice A0 f0.length c0) := (Qn h 0).trans rfl
theorem cellS64_1 {W : World} {g : Nat} {A0 : Option Addr} {c0 : Nat} {f0 : List Int} {f1 : Int} (h : W.heap[g]? = some (.cells #[.slice A0 f0.length c0, .int .i64 f1] 64 (0,0))) : W.cell? ⟨g, 1, none⟩ = some (.int .i64 f1) := (Qn h 1).trans rfl
theorem IsS64.set_1 {w0 W : World} {g : Nat} {f0 : List Int} {f1 : Int} (h : IsS64 w0 W g f0 f1) (x : Int) : IsS64 w0 (W.setCell ⟨g, 1, none⟩ (.int .i64 x)) g f0 x := by
 obtain ⟨A0, c0, hb, hg, hr0⟩ := h
 exact ⟨A0, c0, by simpa using blk_set hb 1 (.int .i64 x), hg, hr0⟩
def paygen_New.f (l0 : List Int) : Option (List Int × Int) := some (l0,0)
theorem paygen_New.calls (A0 : Option Addr) (c0 : Nat) (l0 : List Int) (r1 : List Int) (r2 : Int) (w0 w : World) (hB : Below w0.heap.size w0 w) (hr0 : Kd.C (Kd.int .i64) w0 A0 l0.length l0) (hc0 : l0.length ≤ c0) (h : paygen_New.f l0 = some (r1, r2)) :
 Calls Tryz.prog 10 #[.slice A0 l0.length c0] w fun e w' => ∃ g_ : Nat, e = .returned (.pointer (some ⟨g_, 0, none⟩)) ∧ IsS64 w0 w' g_ r1 r2 ∧ Below w0.heap.size w0 w' ∧ Below w.heap.size w w' := by
 have hu64 := Tryz.underlying64
 have HR0 := Qa hr0
 have HC0 := Qa hc0
 clear hr0 hc0
 have HBW := Qa (Below.refl w.heap.size w)
 have HW0 := Qa hB.size
 have HB := Qa hB
 clear hB
 have H : (some (l0,0)) = some (r1, r2) := h
 clear h
 simp only [Option.some.injEq, Prod.mk.injEq] at H
 obtain ⟨rfl, rfl⟩ := H
 go_enter Tryz.func10, Tryz.ntmps10
 go_wp2_with (first | ((with_reducible refine Qx (N := 5) rfl ?_); refine Qv ?hg (N := 5) ?hd (cs := #[.slice A0 l0.length c0, .int .i64 0]) (t := 64) ?hr ?_; (case hd => rfl); (case hg => rfl); (case hr => first | (go_simp; done) | (go_simp; rfl)); intro gb193 hg w2 hbox hb; have n0_ := Qa (Qh HBW.out hb); have n1_ := Qa (Qh (bl HB.out) hb); have n2_ := Qa (hbox); have n3_ := Qa ((by rw [hg]; exact (Qi (bl HBW.out)) : w.heap.size ≤ gb193)); have n4_ := Qa ((Nat.le_trans HW0.out (by rw [hg]; exact (Qi (bl HBW.out)) : w.heap.size ≤ gb193) : w0.heap.size ≤ gb193)); clear HBW HB; have HBW := n0_; have HB := n1_; have BK193 := n2_; have GW193 := n3_; have GE193 := n4_; clear n0_ n1_ n2_ n3_ n4_; clear hb hbox hg))
 go_ret
 exact ⟨_, rfl, (show IsS64 w0 _ gb193 l0 0 from ⟨_, _, by (with_reducible repeat (first | refine Qj ?_ _ | refine Qk ?_ | refine Ql ?_ _)); exact BK193.out, GE193.out, HR0.out⟩), bl HB.out, by repeat (first | (with_reducible first | exact HBW.out | apply Qd | apply Qe | apply Qf | refine Qg ?_ GW193.out) | exact HBW.out)⟩
def paygen_Deck_Next.j0 : Nat → Int → Int → List Int → Int → Option (Int × Int)
 | 0, _, _, _, _ => none
 | k + 1, x1, x5, x1000, x1001 => if x1 = 0 then (none) else (if (Int.tmod x5 x1) < 0 then (some (wrap64 ((Int.tmod x5 x1) + x1), wrap64 (x1001 + 1))) else (some (Int.tmod x5 x1, wrap64 (x1001 + 1))))
def paygen_Deck_Next.f (k : Nat) (s0_0 : List Int) (s0_1 : Int) (a1 : Int) : Option (Int × Int) := if s0_1 < (s0_0.length : Int) then (if 0 ≤ s0_1 then (paygen_Deck_Next.j0 k a1 (rd s0_0 s0_1) s0_0 s0_1) else (none)) else (paygen_Deck_Next.j0 k a1 (wrap64 ((wrap64 (5 * s0_1)) + 2)) s0_0 s0_1)
theorem paygen_Deck_Next.calls (k : Nat) (g : Nat) (s0_0 : List Int) (s0_1 : Int) (a1 : Int) (r1 : Int) (r2 : Int) (w0 w : World) (hI : IsS64 w0 w g s0_0 s0_1) (hB : Below w0.heap.size w0 w) (h : paygen_Deck_Next.f k s0_0 s0_1 a1 = some (r1, r2)) :
 Calls Tryz.prog 28 #[.pointer (some ⟨g, 0, none⟩), .int .i64 a1] w fun e w' => e = .returned (.int .i64 r1) ∧ IsS64 w0 w' g s0_0 r2 ∧ Below w0.heap.size w0 w' ∧ KeepBut w w' g none := by
 have HI0 := Qa hI
 have HK := Qa (KeepBut.refl w g none)
 have HL := Qa hB.size
 clear hI
 have HW0 := Qa hB.size
 have HB := Qa hB
 clear hB
 have H : (if s0_1 < (s0_0.length : Int) then (if 0 ≤ s0_1 then (paygen_Deck_Next.j0 k a1 (rd s0_0 s0_1) s0_0 s0_1) else (none)) else (paygen_Deck_Next.j0 k a1 (wrap64 ((wrap64 (5 * s0_1)) + 2)) s0_0 s0_1)) = some (r1, r2) := h
 clear h
 have HC3 := Qa H
 clear H
 obtain ⟨ASz4_0, cSz4_0, HGz4, hgz4, HSz4_0⟩ := HI0.out
 have hcz4_0 := cellS64_0 HGz4
 have hcz4_1 := cellS64_1 HGz4
 have hfz4_1 := Qm HGz4 1
 clear HGz4 hgz4
 go_enter Tryz.func28, Tryz.ntmps28
 go_upto_if 21 with (fail)
 repeat (go_quiet (fail); go_upto_if 21 with (fail))
 go_cut [5] (fun v5 wc => ∃ (kq : Nat) (x5_2 : Int), v5 = .int .i64 x5_2 ∧ Aside0 (paygen_Deck_Next.j0 kq a1 x5_2 s0_0 s0_1 = some (r1, r2)) ∧ Aside0 (kq ≤ k) ∧ Aside0 (IsS64 w0 wc g s0_0 s0_1) ∧ Aside0 (KeepBut w wc g none) ∧ Aside0 (Below w0.heap.size w0 wc))
 case first =>
  have H := HC3.out
  clear HC3
  by_cases c5 : s0_1 < (s0_0.length : Int)
  · rw [if_pos c5] at H
    have c5b0 : decide (s0_1 < (s0_0.length : Int)) = true := Xq c5
    clear c5
    (first | rw [c5b0] | (simp only [i64_w, i32_w]; rw [c5b0]) | skip)
    by_cases c6 : 0 ≤ s0_1
    · rw [if_pos c6] at H
      have c6b0 : decide (0 ≤ s0_1) = true := Xq c6
      clear c6
      have H' := Qa H
      clear H
      obtain ⟨ASz7_0, cSz7_0, HGz7, hgz7, HSz7_0⟩ := HI0.out
      have hcz7_0 := cellS64_0 HGz7
      have hcz7_1 := cellS64_1 HGz7
      have hfz7_1 := Qm HGz7 1
      clear HGz7 hgz7
      (try (have e_ := hcz4_0.symm.trans hcz7_0; injection e_ with e_; injection e_ with e1_ _ e3_; subst e1_; subst e3_))
      have p194 : 0 ≤ (s0_1 : Int) := Xp (by assumption)
      have q194 : s0_1 < (s0_0.length : Int) := Xp (by assumption)
      obtain ⟨ad194, e194, hx194_0⟩ := Kd.at_int HSz7_0 s0_1 p194 q194
      cases e194
      replace hx194_0 := pw_cell_below HB.out hx194_0
      replace p194 := eq_true p194
      replace q194 := eq_true q194
      go_wp2
      repeat (go_quiet (fail); try go_wp2)
      go_meet
      case rel => exact ⟨_, (rd s0_0 s0_1), (by first | rfl | (simp; done) | (simp [*]; done)), H', ⟨by first | omega | exact Nat.le_refl _⟩, ⟨by repeat (first | (with_reducible first | exact HI0.out | apply IsS64.alloc | apply IsS64.drewN | apply IsS64.drew | apply IsS64.set_1) | exact HI0.out)⟩, ⟨kk HK.out⟩, ⟨by repeat (first | (with_reducible first | exact HB.out | apply Qd | apply Qe | apply Qf | refine Qg ?_ (IsS64.ge HI0.out)) | exact HB.out)⟩⟩
    rw [if_neg c6] at H
    exact absurd H (by simp)
  rw [if_neg c5] at H
  have c5b0 : decide (s0_1 < (s0_0.length : Int)) = false := Xr c5
  clear c5
  (first | rw [c5b0] | (simp only [i64_w, i32_w]; rw [c5b0]) | skip)
  have H' := Qa H
  clear H
  go_wp2
  repeat (go_quiet (fail); try go_wp2)
  go_meet
  case rel => exact ⟨_, (wrap64 ((wrap64 (5 * s0_1)) + 2)), (by first | rfl | (simp; done) | (simp [*]; done)), H', ⟨by first | omega | exact Nat.le_refl _⟩, ⟨by repeat (first | (with_reducible first | exact HI0.out | apply IsS64.alloc | apply IsS64.drewN | apply IsS64.drew | apply IsS64.set_1) | exact HI0.out)⟩, ⟨kk HK.out⟩, ⟨by repeat (first | (with_reducible first | exact HB.out | apply Qd | apply Qe | apply Qf | refine Qg ?_ (IsS64.ge HI0.out)) | exact HB.out)⟩⟩
 case rest =>
  clear HC3
  try clear p1
  try clear q1
  try clear hx1
  try clear c2
  try clear p2
  try clear c5
  try clear c5b0
  try clear c6
  try clear c6b0
  try clear p6
  try clear hcz4_0
  try clear hcz4_1
  try clear hcz7_0
  try clear hcz7_1
  try clear hfz4_1
  try clear hfz7_1
  try clear hx194_0
  try clear p194
  try clear q194
  obtain ⟨kq, x5_2, rfl, HA, HJ2, HI0, HK, HB⟩ := hcut
  cases kq with
  | zero => exact absurd HA.out (by simp [paygen_Deck_Next.j0])
  | succ kj2 =>
   have H := HA.out
   clear HA
   simp only [paygen_Deck_Next.j0] at H
   by_cases c8 : a1 = 0
   · rw [if_pos c8] at H
     exact absurd H (by simp)
   rw [if_neg c8] at H
   have c8b0 : (a1 == 0) = false := Ya.mpr c8
   have c8b1 : (a1 != 0) = true := Yc.mpr c8
   by_cases c9 : (Int.tmod x5_2 a1) < 0
   · rw [if_pos c9] at H
     have c9b0 : decide ((Int.tmod x5_2 a1) < 0) = true := Xq c9
     clear c9
     simp only [Option.some.injEq, Prod.mk.injEq] at H
     obtain ⟨rfl, rfl⟩ := H
     obtain ⟨ASz10_0, cSz10_0, HGz10, hgz10, HSz10_0⟩ := HI0.out
     have hcz10_0 := cellS64_0 HGz10
     have hcz10_1 := cellS64_1 HGz10
     have hfz10_1 := Qm HGz10 1
     clear HGz10 hgz10
     (try (have e_ := hcz4_0.symm.trans hcz10_0; injection e_ with e_; injection e_ with e1_ _ e3_; subst e1_; subst e3_))
     (try (have e_ := hcz7_0.symm.trans hcz10_0; injection e_ with e_; injection e_ with e1_ _ e3_; subst e1_; subst e3_))
     go_wp2
     repeat (go_quiet (fail); try go_wp2)
     go_ret
     exact ⟨by first | rfl | (simp [errW_none, errW_some] <;> rfl) | (simp [*, errW_none, errW_some] <;> rfl), by repeat (first | (with_reducible first | exact HI0.out | apply IsS64.alloc | apply IsS64.drewN | apply IsS64.drew | apply IsS64.set_1) | exact HI0.out), by repeat (first | (with_reducible first | exact HB.out | apply Qd | apply Qe | apply Qf | refine Qg ?_ (IsS64.ge HI0.out)) | exact HB.out), kk HK.out⟩
   rw [if_neg c9] at H
   have c9b0 : decide ((Int.tmod x5_2 a1) < 0) = false := Xr c9
   clear c9
   simp only [Option.some.injEq, Prod.mk.injEq] at H
   obtain ⟨rfl, rfl⟩ := H
   obtain ⟨ASz11_0, cSz11_0, HGz11, hgz11, HSz11_0⟩ := HI0.out
   have hcz11_0 := cellS64_0 HGz11
   have hcz11_1 := cellS64_1 HGz11
   have hfz11_1 := Qm HGz11 1
   clear HGz11 hgz11
   (try (have e_ := hcz4_0.symm.trans hcz11_0; injection e_ with e_; injection e_ with e1_ _ e3_; subst e1_; subst e3_))
   (try (have e_ := hcz7_0.symm.trans hcz11_0; injection e_ with e_; injection e_ with e1_ _ e3_; subst e1_; subst e3_))
   (try (have e_ := hcz10_0.symm.trans hcz11_0; injection e_ with e_; injection e_ with e1_ _ e3_; subst e1_; subst e3_))
   go_wp2
   repeat (go_quiet (fail); try go_wp2)
   go_ret
   exact ⟨by first | rfl | (simp [errW_none, errW_some] <;> rfl) | (simp [*, errW_none, errW_some] <;> rfl), by repeat (first | (with_reducible first | exact HI0.out | apply IsS64.alloc | apply IsS64.drewN | apply IsS64.drew | apply IsS64.set_1) | exact HI0.out), by repeat (first | (with_reducible first | exact HB.out | apply Qd | apply Qe | apply Qf | refine Qg ?_ (IsS64.ge HI0.out)) | exact HB.out), kk HK.out⟩
def paygen_Deck_Code.f (k : Nat) (s0_0 : List Int) (s0_1 : Int) : Option (Zb × Int) := (some (([(⟨#[98,111,110,117,115]⟩ : Zb), (⟨#[99,97,114]⟩ : Zb), (⟨#[110,105,103,104,116]⟩ : Zb), (⟨#[115,97,108,97,114,121]⟩ : Zb), (⟨#[97]⟩ : Zb), (⟨#[98]⟩ : Zb), (⟨#[120,49]⟩ : Zb), (⟨#[97,98,99,100,101,102,103,104,105,106,107,108,109,110,111,112,113,114,115,116,117,118,119,120]⟩ : Zb)] : List Zb) : List Zb)).bind fun y195 => ((paygen_Deck_Next.f k s0_0 s0_1 8).bind fun bt198 => (if 0 ≤ bt198.1 then (if bt198.1 < (y195.length : Int) then (some (rdOf ByteArray.empty y195 bt198.1, bt198.2)) else (none)) else (none)))
theorem paygen_Deck_Code.calls (k : Nat) (g : Nat) (s0_0 : List Int) (s0_1 : Int) (r1 : Zb) (r2 : Int) (w0 w : World) (hI : IsS64 w0 w g s0_0 s0_1) (hB : Below w0.heap.size w0 w) (h : paygen_Deck_Code.f k s0_0 s0_1 = some (r1, r2)) :
 Calls Tryz.prog 52 #[.pointer (some ⟨g, 0, none⟩)] w fun e w' => e = .returned (.string r1) ∧ IsS64 w0 w' g s0_0 r2 ∧ Below w0.heap.size w0 w' ∧ KeepBut w w' g none := by
 have HI0 := Qa hI
 have HK := Qa (KeepBut.refl w g none)
 have HL := Qa hB.size
 clear hI
 have HW0 := Qa hB.size
 have HB := Qa hB
 clear hB
 have H : ((some (([(⟨#[98,111,110,117,115]⟩ : Zb), (⟨#[99,97,114]⟩ : Zb), (⟨#[110,105,103,104,116]⟩ : Zb), (⟨#[115,97,108,97,114,121]⟩ : Zb), (⟨#[97]⟩ : Zb), (⟨#[98]⟩ : Zb), (⟨#[120,49]⟩ : Zb), (⟨#[97,98,99,100,101,102,103,104,105,106,107,108,109,110,111,112,113,114,115,116,117,118,119,120]⟩ : Zb)] : List Zb) : List Zb)).bind fun y195 => ((paygen_Deck_Next.f k s0_0 s0_1 8).bind fun bt198 => (if 0 ≤ bt198.1 then (if bt198.1 < (y195.length : Int) then (some (rdOf ByteArray.empty y195 bt198.1, bt198.2)) else (none)) else (none)))) = some (r1, r2) := h
 clear h
 obtain ⟨y195, hy195⟩ : ∃ y_ : List Zb, y_ = (([(⟨#[98,111,110,117,115]⟩ : Zb), (⟨#[99,97,114]⟩ : Zb), (⟨#[110,105,103,104,116]⟩ : Zb), (⟨#[115,97,108,97,114,121]⟩ : Zb), (⟨#[97]⟩ : Zb), (⟨#[98]⟩ : Zb), (⟨#[120,49]⟩ : Zb), (⟨#[97,98,99,100,101,102,103,104,105,106,107,108,109,110,111,112,113,114,115,116,117,118,119,120]⟩ : Zb)] : List Zb)) := ⟨_, rfl⟩
 replace H : ((paygen_Deck_Next.f k s0_0 s0_1 8).bind fun bt198 => (if 0 ≤ bt198.1 then (if bt198.1 < (y195.length : Int) then (some (rdOf ByteArray.empty y195 bt198.1, bt198.2)) else (none)) else (none))) = some (r1, r2) := by first | (rw [hy195]; with_reducible exact H) | (have H2_ := (Xy _ _).symm.trans H; rw [hy195]; with_reducible exact H2_) | (have H2_ := (Xy _ _).symm.trans H; with_reducible exact H2_) | with_reducible exact H | (rw [hy195]; exact H) | exact H
 have Ny195 := Qa hy195
 clear hy195
 replace H := Xx.mp H
 obtain ⟨⟨t198, t199⟩, A20, H⟩ := H
 replace H : (if 0 ≤ t198 then (if t198 < (y195.length : Int) then (some (rdOf ByteArray.empty y195 t198, t199)) else (none)) else (none)) = some (r1, r2) := H
 have A2 := Qa A20
 clear A20
 by_cases c3 : 0 ≤ t198
 · rw [if_pos c3] at H
   have c3b0 : decide (0 ≤ t198) = true := Xq c3
   clear c3
   by_cases c4 : t198 < (y195.length : Int)
   · rw [if_pos c4] at H
     have c4b0 : decide (t198 < (y195.length : Int)) = true := Xq c4
     clear c4
     simp only [Option.some.injEq, Prod.mk.injEq] at H
     obtain ⟨rfl, rfl⟩ := H
     go_enter Tryz.func52, Tryz.ntmps52
     go_wp2_with (first | ((with_reducible refine Qx (N := 3) rfl ?_); refine Kd.R_lit Kd.string _ 9 ?hg (N := 3) ?hd (xs := ([(⟨#[98,111,110,117,115]⟩ : Zb), (⟨#[99,97,114]⟩ : Zb), (⟨#[110,105,103,104,116]⟩ : Zb), (⟨#[115,97,108,97,114,121]⟩ : Zb), (⟨#[97]⟩ : Zb), (⟨#[98]⟩ : Zb), (⟨#[120,49]⟩ : Zb), (⟨#[97,98,99,100,101,102,103,104,105,106,107,108,109,110,111,112,113,114,115,116,117,118,119,120]⟩ : Zb)] : List Zb)) (inner := [.string (⟨#[98,111,110,117,115]⟩ : Zb), .string (⟨#[99,97,114]⟩ : Zb), .string (⟨#[110,105,103,104,116]⟩ : Zb), .string (⟨#[115,97,108,97,114,121]⟩ : Zb), .string (⟨#[97]⟩ : Zb), .string (⟨#[98]⟩ : Zb), .string (⟨#[120,49]⟩ : Zb), .string (⟨#[97,98,99,100,101,102,103,104,105,106,107,108,109,110,111,112,113,114,115,116,117,118,119,120]⟩ : Zb)]) (ok := fun _ => True) (okp := fun _ => True) ?hr ?hp (fun _ hk => hk) trivial (Below.refl _ _) (Nat.le_refl _) (by simp) ?_; (case hd => rfl); (case hg => rfl); (case hr => first | (go_simp; done) | (go_simp; rfl)); (case hp => exact (Reps.one (show Kd.M Kd.string _ _ _ (⟨#[98,111,110,117,115]⟩ : Zb) [.string (⟨#[98,111,110,117,115]⟩ : Zb)] from rfl) (Reps.one (show Kd.M Kd.string _ _ _ (⟨#[99,97,114]⟩ : Zb) [.string (⟨#[99,97,114]⟩ : Zb)] from rfl) (Reps.one (show Kd.M Kd.string _ _ _ (⟨#[110,105,103,104,116]⟩ : Zb) [.string (⟨#[110,105,103,104,116]⟩ : Zb)] from rfl) (Reps.one (show Kd.M Kd.string _ _ _ (⟨#[115,97,108,97,114,121]⟩ : Zb) [.string (⟨#[115,97,108,97,114,121]⟩ : Zb)] from rfl) (Reps.one (show Kd.M Kd.string _ _ _ (⟨#[97]⟩ : Zb) [.string (⟨#[97]⟩ : Zb)] from rfl) (Reps.one (show Kd.M Kd.string _ _ _ (⟨#[98]⟩ : Zb) [.string (⟨#[98]⟩ : Zb)] from rfl) (Reps.one (show Kd.M Kd.string _ _ _ (⟨#[120,49]⟩ : Zb) [.string (⟨#[120,49]⟩ : Zb)] from rfl) (Reps.one (show Kd.M Kd.string _ _ _ (⟨#[97,98,99,100,101,102,103,104,105,106,107,108,109,110,111,112,113,114,115,116,117,118,119,120]⟩ : Zb) [.string (⟨#[97,98,99,100,101,102,103,104,105,106,107,108,109,110,111,112,113,114,115,116,117,118,119,120]⟩ : Zb)] from rfl) (Reps.none _ _)))))))))); intro v196 w5 ho6 hb hg_ hnew_; clear hg_ hnew_; (first | rw [← Ny195.out] at ho6 | (simp only [Int.reduceToNat] at ho6; rw [← Ny195.out] at ho6)); have n0_ := Qa (Kd.R_lower ho6 (Qt (w := w) (g := g) (row := none) (kk HK.out))); have n1_ := Qa (IsS64.below (by repeat (first | (with_reducible first | exact HI0.out | apply IsS64.alloc | apply IsS64.drewN | apply IsS64.drew | apply IsS64.set_1) | exact HI0.out)) hb); have n2_ := Qa (KeepBut.trans (kk HK.out) (Qu hb g none) (.inl rfl)); have n3_ := Qa (Qh (by repeat (first | (with_reducible first | exact HB.out | apply Qd | apply Qe | apply Qf | refine Qg ?_ (IsS64.ge HI0.out)) | exact HB.out)) hb); clear HI0 HK HB; have HO197 := n0_; have HI0 := n1_; have HK := n2_; have HB := n3_; clear n0_ n1_ n2_ n3_; clear hb ho6) | ((with_reducible refine Qw (f := 28) rfl ?_); refine gc (some 5) Tryz.func28 #[.pointer (some ⟨g, 0, none⟩), .int .i64 8] ?_; (with_reducible refine (paygen_Deck_Next.calls k g s0_0 s0_1 8 t198 t199 w0 _ ?side1 ?side2 A2.out).mono ?_); (case side1 => repeat (first | (with_reducible first | exact HI0.out | apply IsS64.alloc | apply IsS64.drewN | apply IsS64.drew | apply IsS64.set_1) | exact HI0.out)); (case side2 => repeat (first | (with_reducible first | exact HB.out | apply Qd | apply Qe | apply Qf | refine Qg ?_ (IsS64.ge HI0.out)) | exact HB.out)); rintro e w7 ⟨rfl, hi, hb, hk⟩; refine ⟨_, rfl, ?_⟩; have n0_ := Qa (Xf (Xj (IsS64.apart (show IsS64 w0 _ g s0_0 s0_1 from by repeat (first | (with_reducible first | exact HI0.out | apply IsS64.alloc | apply IsS64.drewN | apply IsS64.drew | apply IsS64.set_1) | exact HI0.out)) (kr HO197.out) (by decide)) hk (fun _ h => h.2)) (fun _ h => h.1)); have n1_ := Qa (KeepBut.trans (kk HK.out) hk (.inl rfl)); have n2_ := Qa (hb); have n3_ := Qa (hi); clear HO197 HK; clear HB HI0; have HO197 := n0_; have HK := n1_; have HB := n2_; have HI0 := n3_; clear n0_ n1_ n2_ n3_; (try clear hb); (try clear hk); (try clear hi); obtain ⟨Ao8, co8, eo8⟩ := Xk HO197.out; subst eo8; have p200 : 0 ≤ (t198 : Int) := Xp (by assumption); have q200 : t198 < (y195.length : Int) := Xp (by assumption); obtain ⟨ad200, e200, hx200_0⟩ := Kd.at_string (Xb HO197.out).2.2 t198 p200 q200; cases e200; replace p200 := eq_true p200; replace q200 := eq_true q200))
     go_ret
     exact ⟨by first | rfl | (simp [errW_none, errW_some] <;> rfl) | (simp [*, errW_none, errW_some] <;> rfl), by repeat (first | (with_reducible first | exact HI0.out | apply IsS64.alloc | apply IsS64.drewN | apply IsS64.drew | apply IsS64.set_1) | exact HI0.out), by repeat (first | (with_reducible first | exact HB.out | apply Qd | apply Qe | apply Qf | refine Qg ?_ (IsS64.ge HI0.out)) | exact HB.out), kk HK.out⟩
   rw [if_neg c4] at H
   exact absurd H (by simp)
 rw [if_neg c3] at H
 exact absurd H (by simp)
def payrollref38_Latest.l0 : Nat → List (S25) → Int → Int → Option (Int × Int × (List (S60)) × Bool)
 | 0, _, _, _ => none
 | k + 1, x0, x1, x6 => if x6 ≥ 0 then (if 0 ≤ x6 then (if x6 < (x0.length : Int) then (if ((rd_T25 x0 x6).f0) = x1 then ((some (([] : List (S60)) : List (S60))).bind fun y205 => (if y205.length + ((rd_T25 x0 x6).f2).length < 4398046511104 then (some ((rd_T25 x0 x6).f0, (rd_T25 x0 x6).f1, (y205 ++ ((rd_T25 x0 x6).f2)), true)) else (none))) else (payrollref38_Latest.l0 k x0 x1 (wrap64 (x6 - 1)))) else (none)) else (none)) else (some (0,0, ([] : List (S60)), false))
def payrollref38_Latest.f (k : Nat) (l0 : List (S25)) (a1 : Int) : Option (Int × Int × (List (S60)) × Bool) := payrollref38_Latest.l0 k l0 a1 (wrap64 ((l0.length : Int) - 1))
theorem payrollref38_Latest.calls (k : Nat) (A0 : Option Addr) (c0 : Nat) (l0 : List (S25)) (a1 : Int) (r1 : Int) (r2 : Int) (r3 : List (S60)) (r4 : Bool) (w : World) (hr0 : Kd.C k25 w A0 l0.length l0) (hc0 : l0.length ≤ c0) (h : payrollref38_Latest.f k l0 a1 = some (r1, r2, r3, r4)) :
 Calls Tryz.prog 26 #[.slice A0 l0.length c0, .int .i64 a1] w fun e w' => ∃ v2_ : Value, e = .returned (.tuple #[.agg #[.int .i64 r1, .int .i64 r2, v2_], .bool r4]) ∧ Kd.R k60 60 w' w.heap.size (fun _ => True) v2_ r3 ∧ Below w.heap.size w w' := by
 have hu25 := Tryz.underlying25
 have HR0 := Qa hr0
 have HC0 := Qa hc0
 clear hr0 hc0
 have HB := Qa (Below.refl w.heap.size w)
 have H : (payrollref38_Latest.l0 k l0 a1 (wrap64 ((l0.length : Int) - 1))) = some (r1, r2, r3, r4) := h
 clear h
 have H' := Qa H
 clear H
 go_enter Tryz.func26, Tryz.ntmps26
 go_wp2_with (first | ((with_reducible refine Qx (N := 4) rfl ?_); refine Qv ?hg (N := 4) ?hd (cs := #[.int .i64 0, .int .i64 0, .slice none 0 0]) (t := 25) ?hr ?_; (case hd => rfl); (case hg => rfl); (case hr => first | (go_simp; done) | (go_simp; rfl)); intro gb201 hg w3 hbox hb; have n0_ := Qa (Qh (bl HB.out) hb); have n1_ := Qa (hbox); have n2_ := Qa ((by rw [hg]; exact (Qi (bl HB.out)) : w.heap.size ≤ gb201)); have n3_ := Qa ((by rw [hg]; exact (Qi (bl HB.out)) : w.heap.size ≤ gb201)); clear HB; have HB := n0_; have BK201 := n1_; have GW201 := n2_; have GE201 := n3_; clear n0_ n1_ n2_ n3_; clear hb hbox hg))
 go_loopg [6] k (fun kq v6 w' => ∃ (x6_1 : Int) (x202000_1 : Int) (x202001_1 : Int), v6 = .int .i64 x6_1 ∧ Aside0 (payrollref38_Latest.l0 kq l0 a1 x6_1 = some (r1, r2, r3, r4)) ∧ Aside0 (kq ≤ k) ∧ Aside0 (w'.heap[gb201]? = some (.cells #[.int .i64 x202000_1, .int .i64 x202001_1, (.slice none 0 0)] 25 (0,0))) ∧ Aside0 (Below w.heap.size w w'))
 case atStart => exact ⟨(wrap64 ((l0.length : Int) - 1)), (0), (0), (by first | rfl | (simp; done) | (simp [*]; done)), H', ⟨Nat.le_refl _⟩, ⟨nc BK201.out⟩, ⟨bl HB.out⟩⟩
 case round =>
  clear H'
  try clear c2
  try clear p2
  obtain ⟨x6_1, x202000_1, x202001_1, rfl, HA, HK1, BK201, HB⟩ := hrel
  cases gk with
  | zero => exact absurd HA.out (by simp [payrollref38_Latest.l0])
  | succ k1 =>
   have H := HA.out
   clear HA
   simp only [payrollref38_Latest.l0] at H
   by_cases c4 : x6_1 ≥ 0
   · rw [if_pos c4] at H
     have c4b0 : decide (0 ≤ x6_1) = true := Xq c4
     clear c4
     by_cases c5 : 0 ≤ x6_1
     · rw [if_pos c5] at H
       have c5b0 : decide (0 ≤ x6_1) = true := Xq c5
       clear c5
       by_cases c6 : x6_1 < (l0.length : Int)
       · rw [if_pos c6] at H
         have c6b0 : decide (x6_1 < (l0.length : Int)) = true := Xq c6
         clear c6
         by_cases c7 : ((rd_T25 l0 x6_1).f0) = a1
         · rw [if_pos c7] at H
           have c7b0 : (((rd_T25 l0 x6_1).f0) == a1) = true := Yb.mpr c7
           have c7b1 : (((rd_T25 l0 x6_1).f0) != a1) = false := bne_eq_false_iff_eq.mpr c7
           clear c7
           obtain ⟨y205, hy205⟩ : ∃ y_ : List (S60), y_ = (([] : List (S60))) := ⟨_, rfl⟩
           replace H : (if y205.length + ((rd_T25 l0 x6_1).f2).length < 4398046511104 then (some ((rd_T25 l0 x6_1).f0, (rd_T25 l0 x6_1).f1, (y205 ++ ((rd_T25 l0 x6_1).f2)), true)) else (none)) = some (r1, r2, r3, r4) := by first | (rw [hy205]; with_reducible exact H) | (have H2_ := (Xy _ _).symm.trans H; rw [hy205]; with_reducible exact H2_) | (have H2_ := (Xy _ _).symm.trans H; with_reducible exact H2_) | with_reducible exact H | (rw [hy205]; exact H) | exact H
           have Ny205 := Qa hy205
           clear hy205
           by_cases c8 : y205.length + ((rd_T25 l0 x6_1).f2).length < 4398046511104
           · rw [if_pos c8] at H
             have LMc8 := Qa c8
             clear c8
             obtain ⟨y208, hy208⟩ : ∃ y_ : List (S60), y_ = (y205 ++ ((rd_T25 l0 x6_1).f2)) := ⟨_, rfl⟩
             replace H : (some ((rd_T25 l0 x6_1).f0, (rd_T25 l0 x6_1).f1, y208, true)) = some (r1, r2, r3, r4) := by first | (rw [hy208]; with_reducible exact H) | (have H2_ := (Xy _ _).symm.trans H; rw [hy208]; with_reducible exact H2_) | (have H2_ := (Xy _ _).symm.trans H; with_reducible exact H2_) | with_reducible exact H | (rw [hy208]; exact H) | exact H
             have Ny208 := Qa hy208
             clear hy208
             simp only [Option.some.injEq, Prod.mk.injEq] at H
             obtain ⟨rfl, rfl, rfl, rfl⟩ := H
             have p202 : 0 ≤ (x6_1 : Int) := Xp (by assumption)
             have q202 : x6_1 < (l0.length : Int) := Xp (by assumption)
             obtain ⟨ad202, A202_2, c202_2, e202, hx202_0, hx202_1, hx202_2, hl202_2, hi202_2⟩ := at_T25 HR0.out x6_1 p202 q202
             cases e202
             replace hx202_0 := (HB.out.cell (Xs w _ hx202_0)).trans hx202_0
             replace hx202_1 := (HB.out.cell (Xs w _ hx202_1)).trans hx202_1
             replace hx202_2 := (HB.out.cell (Xs w _ hx202_2)).trans hx202_2
             have HR202_2 := Qa hi202_2
             have HC202_2 := Qa hl202_2
             clear hi202_2 hl202_2
             replace p202 := eq_true p202
             replace q202 := eq_true q202
             have p203 : 0 ≤ (x6_1 : Int) := Xp (by assumption)
             have q203 : x6_1 < (l0.length : Int) := Xp (by assumption)
             obtain ⟨ad203, A203_2, c203_2, e203, hx203_0, hx203_1, hx203_2, hl203_2, hi203_2⟩ := at_T25 HR0.out x6_1 p203 q203
             obtain rfl : ad202 = ad203 := (by injection e203)
             replace hx203_0 := (HB.out.cell (Xs w _ hx203_0)).trans hx203_0
             replace hx203_1 := (HB.out.cell (Xs w _ hx203_1)).trans hx203_1
             replace hx203_2 := (HB.out.cell (Xs w _ hx203_2)).trans hx203_2
             have HR203_2 := Qa hi203_2
             have HC203_2 := Qa hl203_2
             clear hi203_2 hl203_2
             replace p203 := eq_true p203
             replace q203 := eq_true q203
             have ea_ := Xz (hx202_2.symm.trans hx203_2)
             injection ea_ with ea_ en_ ec_
             subst ea_
             subst ec_
             clear en_
             go_wp2_with (first | ((with_reducible refine Qx (N := 7) rfl ?_); refine Qv ?hg (N := 7) ?hd (cs := #[.int .i64 0, .int .i64 0, .slice none 0 0]) (t := 25) ?hr ?_; (case hd => rfl); (case hg => rfl); (case hr => first | (go_simp; done) | (go_simp; rfl)); intro gb204 hg w9 hbox hb; have n0_ := Qa (Qb (nc BK201.out) hb); have n1_ := Qa (Qh (bl HB.out) hb); have n2_ := Qa (hbox); have n3_ := Qa ((by rw [hg]; exact (Qi (bl HB.out)) : w.heap.size ≤ gb204)); have n4_ := Qa ((by rw [hg]; exact (Qi (bl HB.out)) : w.heap.size ≤ gb204)); have n5_ := Qa ((by rw [hg]; exact Nat.ne_of_lt (blk_lt (nc BK201.out)) : gb201 ≠ gb204)); have n6_ := Qa ((by rw [hg]; exact Nat.ne_of_gt (blk_lt (nc BK201.out)) : gb204 ≠ gb201)); clear BK201 HB; have BK201 := n0_; have HB := n1_; have BK204 := n2_; have GW204 := n3_; have GE204 := n4_; have NB201_204 := n5_; have NB204_201 := n6_; clear n0_ n1_ n2_ n3_ n4_ n5_ n6_; clear hb hbox hg; have hnb10 := NB204_201.out; have hnc10 := NB201_204.out; have hcz11_0 := hz BK204.out 0; have hcz11_1 := hz BK204.out 1; have hcz11_2 := hz BK204.out 2; have hfz11_0 := Qm BK204.out 0; have hfz11_1 := Qm BK204.out 1; have hfz11_2 := Qm BK204.out 2) | ((with_reducible refine Qx (N := 26) rfl ?_); refine Kd.R_lit k60 _ 60 ?hg (N := 26) ?hd (xs := ([] : List (S60))) (inner := []) (ok := fun _ => True) (okp := fun _ => True) ?hr ?hp (fun _ hk => hk) trivial (Below.refl _ _) (Nat.le_refl _) (by simp) ?_; (case hd => rfl); (case hg => rfl); (case hr => first | (go_simp; done) | (go_simp; rfl)); (case hp => exact (Reps.none _ _)); intro v206 w12 ho13 hb hg_ hnew_; clear hg_ hnew_; (first | rw [← Ny205.out] at ho13 | (simp only [Int.reduceToNat] at ho13; rw [← Ny205.out] at ho13)); have n0_ := Qa (Kd.R_lower ho13 (Qi (bl HB.out))); have n1_ := Qa (Qb (g := gb201) (o := .cells #[.int .i64 x202000_1, .int .i64 x202001_1, .slice none 0 0] 25 (0,0)) (by (with_reducible repeat (first | refine Qj ?_ _ | refine Qk ?_ | refine Ql ?_ _)); refine Qc ?_ NB201_204.out _; (with_reducible repeat (first | refine Qj ?_ _ | refine Qk ?_ | refine Ql ?_ _)); refine Qc ?_ NB201_204.out _; (with_reducible repeat (first | refine Qj ?_ _ | refine Qk ?_ | refine Ql ?_ _)); refine Qc ?_ NB201_204.out _; (with_reducible repeat (first | refine Qj ?_ _ | refine Qk ?_ | refine Ql ?_ _)); exact BK201.out) hb); have n2_ := Qa (Qb (g := gb204) (o := .cells #[.int .i64 ((rd_T25 l0 x6_1).f0), .int .i64 ((rd_T25 l0 x6_1).f1), .slice A202_2 ((rd_T25 l0 x6_1).f2).length c202_2] 25 (0,0)) (by (with_reducible repeat (first | refine Qj ?_ _ | refine Qk ?_ | refine Ql ?_ _)); refine Qo (cs := #[.int .i64 ((rd_T25 l0 x6_1).f0), .int .i64 ((rd_T25 l0 x6_1).f1), .slice none 0 0]) ?_ 2 _ rfl; (with_reducible repeat (first | refine Qj ?_ _ | refine Qk ?_ | refine Ql ?_ _)); refine Qo (cs := #[.int .i64 ((rd_T25 l0 x6_1).f0), .int .i64 0, .slice none 0 0]) ?_ 1 _ rfl; (with_reducible repeat (first | refine Qj ?_ _ | refine Qk ?_ | refine Ql ?_ _)); refine Qo (cs := #[.int .i64 0, .int .i64 0, .slice none 0 0]) ?_ 0 _ rfl; (with_reducible repeat (first | refine Qj ?_ _ | refine Qk ?_ | refine Ql ?_ _)); exact BK204.out) hb); have n3_ := Qa (Qh (bl HB.out) hb); clear BK201 BK204 HB; have HO207 := n0_; have BK201 := n1_; have BK204 := n2_; have HB := n3_; clear n0_ n1_ n2_ n3_; clear hb ho13; have hcz14_0 := hz BK204.out 0; have hcz14_1 := hz BK204.out 1; have hcz14_2 := hz BK204.out 2; have hfz14_0 := Qm BK204.out 0; have hfz14_1 := Qm BK204.out 1; have hfz14_2 := Qm BK204.out 2) | ((with_reducible refine gate_builtin (b := .append) (xs := #[.tmp 26, .tmp 28]) rfl ?_); at_builtin; refine Kd.R_append_rows k60 (w0 := w) w.heap.size rfl (.tmp 26) (.tmp 28) 23 60 (.agg #[(.int .i64 0), (.string ⟨#[]⟩), (.int .i64 0)]) 32 rfl Tryz.underlying23 info60 rfl (by decide) (by omega) v206 y205 ((rd_T25 l0 x6_1).f2) _ _ _ (fun _ => True) (fun _ => False) rfl rfl ?aO ?aR (fun _ _ h => h) (fun _ h => h.elim) ?aF ?aB ?aS ?aL ?_; (case aR => repeat (first | exact (Kd.C_below HR203_2.out HB.out) | (with_reducible refine Kd.C_alloc ?_ _) | (with_reducible refine Kd.C_drewN ?_ _) | (with_reducible refine Kd.C_drew ?_))); (case aB => exact (bl HB.out)); (case aF => exact (fun _ _ => trivial)); (case aO => exact (kr HO207.out)); (case aS => exact (Qi (bl HB.out))); (case aL => have := LMc8.out; omega); intro v209 w15 ho hb hg hat; rw [← Ny208.out] at ho; have n0_ := Qa (blk_grown (nc BK201.out) hg (Kd.R_ne HO207.out BK201.out (by decide))); have n1_ := Qa (blk_grown (nc BK204.out) hg (Kd.R_ne HO207.out BK204.out (by decide))); have n2_ := Qa (hb); have n3_ := Qa (ho); clear BK201 BK204; clear HB HO207; have BK201 := n0_; have BK204 := n1_; have HB := n2_; have HO210 := n3_; clear n0_ n1_ n2_ n3_; clear ho hb hg hat; obtain ⟨Ao16, co16, eo16⟩ := Xk HO210.out; subst eo16; have hcz17_0 := hz BK204.out 0; have hcz17_1 := hz BK204.out 1; have hcz17_2 := hz BK204.out 2; have hfz17_0 := Qm BK204.out 0; have hfz17_1 := Qm BK204.out 1; have hfz17_2 := Qm BK204.out 2; have hcz18_0 := hz BK201.out 0; have hcz18_1 := hz BK201.out 1; have hcz18_2 := hz BK201.out 2; have hfz18_0 := Qm BK201.out 0; have hfz18_1 := Qm BK201.out 1; have hfz18_2 := Qm BK201.out 2))
             refine Qz (Xa rfl _ _ gb201 25 #[.int .i64 ((rd_T25 l0 x6_1).f0), .int .i64 ((rd_T25 l0 x6_1).f1), .slice Ao16 y208.length co16] (0,0) _ rfl (by (with_reducible repeat (first | refine Qj ?_ _ | refine Qk ?_ | refine Ql ?_ _)); refine Qo (cs := #[.int .i64 ((rd_T25 l0 x6_1).f0), .int .i64 ((rd_T25 l0 x6_1).f1), .slice none 0 0]) ?_ 2 _ rfl; (with_reducible repeat (first | refine Qj ?_ _ | refine Qk ?_ | refine Ql ?_ _)); refine Qo (cs := #[.int .i64 ((rd_T25 l0 x6_1).f0), .int .i64 x202001_1, .slice none 0 0]) ?_ 1 _ rfl; (with_reducible repeat (first | refine Qj ?_ _ | refine Qk ?_ | refine Ql ?_ _)); refine Qo (cs := #[.int .i64 x202000_1, .int .i64 x202001_1, .slice none 0 0]) ?_ 0 _ rfl; (with_reducible repeat (first | refine Qj ?_ _ | refine Qk ?_ | refine Ql ?_ _)); refine Qc ?_ NB201_204.out _; (with_reducible repeat (first | refine Qj ?_ _ | refine Qk ?_ | refine Ql ?_ _)); exact BK201.out) Tryz.underlying25 rfl (by kernel_rfl)) rfl ?_
             exact ⟨_, by first | rfl | (simp [errW_none, errW_some] <;> rfl) | (simp [*, errW_none, errW_some] <;> rfl), by (with_reducible repeat (first | apply Xc | apply Xd | apply Xe)); exact Xf (Xg (p := ⟨gb201,2, none⟩) (Xg (p := ⟨gb201,1, none⟩) (Xg (p := ⟨gb201,0, none⟩) (Xg (p := ⟨gb204,2, none⟩) (Kd.R_types (Kd.R_types HO210.out BK204.out (by decide)) BK201.out (by decide)) (fun _ hk => hk.1.2) (.slice Ao16 y208.length co16)) (fun _ hk => hk.2) (.int .i64 ((rd_T25 l0 x6_1).f0))) (fun _ hk => hk.2) (.int .i64 ((rd_T25 l0 x6_1).f1))) (fun _ hk => hk.2) (.slice Ao16 y208.length co16)) (fun _ hk => trivial), bl HB.out⟩
           rw [if_neg c8] at H
           exact absurd H (by simp)
         rw [if_neg c7] at H
         have c7b0 : (((rd_T25 l0 x6_1).f0) == a1) = false := Ya.mpr c7
         have c7b1 : (((rd_T25 l0 x6_1).f0) != a1) = true := Yc.mpr c7
         have H' := Qa H
         clear H
         have p202 : 0 ≤ (x6_1 : Int) := Xp (by assumption)
         have q202 : x6_1 < (l0.length : Int) := Xp (by assumption)
         obtain ⟨ad202, A202_2, c202_2, e202, hx202_0, hx202_1, hx202_2, hl202_2, hi202_2⟩ := at_T25 HR0.out x6_1 p202 q202
         cases e202
         replace hx202_0 := (HB.out.cell (Xs w _ hx202_0)).trans hx202_0
         replace hx202_1 := (HB.out.cell (Xs w _ hx202_1)).trans hx202_1
         replace hx202_2 := (HB.out.cell (Xs w _ hx202_2)).trans hx202_2
         have HR202_2 := Qa hi202_2
         have HC202_2 := Qa hl202_2
         clear hi202_2 hl202_2
         replace p202 := eq_true p202
         replace q202 := eq_true q202
         go_wp2
         go_roundg k1
         case measure => have := HK1.out; omega
         case rel => exact ⟨(wrap64 (x6_1 - 1)), (x202000_1), (x202001_1), (by first | rfl | (simp; done) | (simp [*]; done)), H', ⟨by have := HK1.out; omega⟩, ⟨nc BK201.out⟩, ⟨bl HB.out⟩⟩
       rw [if_neg c6] at H
       exact absurd H (by simp)
     rw [if_neg c5] at H
     exact absurd H (by simp)
   rw [if_neg c4] at H
   have c4b0 : decide (0 ≤ x6_1) = false := Xr c4
   clear c4
   simp only [Option.some.injEq, Prod.mk.injEq] at H
   obtain ⟨rfl, rfl, rfl, rfl⟩ := H
   have hcz19_0 := hz BK201.out 0
   have hcz19_1 := hz BK201.out 1
   have hcz19_2 := hz BK201.out 2
   have hfz19_0 := Qm BK201.out 0
   have hfz19_1 := Qm BK201.out 1
   have hfz19_2 := Qm BK201.out 2
   go_wp2
   refine Qz (Xa rfl _ _ gb201 25 #[.int .i64 0, .int .i64 0, .slice none 0 0] (0,0) _ rfl (by (with_reducible repeat (first | refine Qj ?_ _ | refine Qk ?_ | refine Ql ?_ _)); refine Qo (cs := #[.int .i64 0, .int .i64 0, .slice none 0 0]) ?_ 2 _ rfl; (with_reducible repeat (first | refine Qj ?_ _ | refine Qk ?_ | refine Ql ?_ _)); refine Qo (cs := #[.int .i64 0, .int .i64 x202001_1, .slice none 0 0]) ?_ 1 _ rfl; (with_reducible repeat (first | refine Qj ?_ _ | refine Qk ?_ | refine Ql ?_ _)); refine Qo (cs := #[.int .i64 x202000_1, .int .i64 x202001_1, .slice none 0 0]) ?_ 0 _ rfl; (with_reducible repeat (first | refine Qj ?_ _ | refine Qk ?_ | refine Ql ?_ _)); exact BK201.out) Tryz.underlying25 rfl (by kernel_rfl)) rfl ?_
   exact ⟨_, by first | rfl | (simp [errW_none, errW_some] <;> rfl) | (simp [*, errW_none, errW_some] <;> rfl), by first | exact Kd.R_nil _ _ _ _ _ | exact Kd.N_nil _ _ _ _ _ | exact Kd.V_nil _ _ _ _ _ | exact Kd.Q_nil _ _ _ _ _ | exact Kd.S_nil _ _ _ _ _, bl HB.out⟩
def payrollref32_Same.l0 : Nat → List (S60) → List (S60) → Int → Option (Bool)
 | 0, _, _, _ => none
 | k + 1, x0, x1, x5 => if x5 < (x0.length : Int) then (if 0 ≤ x5 then (if x5 < (x1.length : Int) then (if (!(((rd_T60 x0 x5).f0) == ((rd_T60 x1 x5).f0)) || (!((((rd_T60 x0 x5).f1).toList) == (((rd_T60 x1 x5).f1).toList)) || (!(((rd_T60 x0 x5).f2) == ((rd_T60 x1 x5).f2))))) = true then (some false) else (payrollref32_Same.l0 k x0 x1 (wrap64 (x5 + 1)))) else (none)) else (none)) else (some true)
def payrollref32_Same.f (k : Nat) (l0 : List (S60)) (l1 : List (S60)) : Option (Bool) := if (l0.length : Int) = (l1.length : Int) then (payrollref32_Same.l0 k l0 l1 0) else (some false)
theorem payrollref32_Same.calls (k : Nat) (A0 : Option Addr) (c0 : Nat) (l0 : List (S60)) (A1 : Option Addr) (c1 : Nat) (l1 : List (S60)) (r : Bool) (w : World) (hr0 : Kd.C k60 w A0 l0.length l0) (hc0 : l0.length ≤ c0) (hr1 : Kd.C k60 w A1 l1.length l1) (hc1 : l1.length ≤ c1) (h : payrollref32_Same.f k l0 l1 = some r) :
 Calls Tryz.prog 51 #[.slice A0 l0.length c0, .slice A1 l1.length c1] w fun e w' => e = .returned (.bool r) ∧ Drawn0 w w' := by
 have hu60 := Tryz.underlying60
 have HR0 := Qa hr0
 have HC0 := Qa hc0
 clear hr0 hc0
 have HR1 := Qa hr1
 have HC1 := Qa hc1
 clear hr1 hc1
 have H : (if (l0.length : Int) = (l1.length : Int) then (payrollref32_Same.l0 k l0 l1 0) else (some false)) = some r := h
 clear h
 by_cases c3 : (l0.length : Int) = (l1.length : Int)
 · rw [if_pos c3] at H
   have c3b0 : ((l0.length : Int) == (l1.length : Int)) = true := Yb.mpr c3
   have c3b1 : ((l0.length : Int) != (l1.length : Int)) = false := bne_eq_false_iff_eq.mpr c3
   have c3b2 : (l0.length == l1.length) = true := by first | simpa using c3 | (simp at c3 ⊢; omega)
   clear c3
   have H' := Qa H
   clear H
   go_enter Tryz.func51, Tryz.ntmps51
   go_wp2
   repeat (go_quiet (fail); try go_wp2)
   go_loopg [5] k (fun kq v5 w' => ∃ (x5_1 : Int), v5 = .int .i64 x5_1 ∧ Aside0 (payrollref32_Same.l0 kq l0 l1 x5_1 = some r) ∧ Aside0 (kq ≤ k) ∧ Drawn0 w w')
   case atStart => exact ⟨(0), (by first | rfl | (simp; done) | (simp [*]; done)), H', ⟨Nat.le_refl _⟩, by repeat (first | exact Drawn0.refl _ | apply Drawn0.step)⟩
   case round =>
    clear H'
    try clear c1
    try clear p2
    try clear c3
    try clear c3b0
    try clear c3b1
    try clear c3b2
    obtain ⟨x5_1, rfl, HA, HK1, ⟨m1, rfl⟩⟩ := hrel
    cases gk with
    | zero => exact absurd HA.out (by simp [payrollref32_Same.l0])
    | succ k1 =>
     have H := HA.out
     clear HA
     simp only [payrollref32_Same.l0] at H
     by_cases c4 : x5_1 < (l0.length : Int)
     · rw [if_pos c4] at H
       have c4b0 : decide (x5_1 < (l0.length : Int)) = true := Xq c4
       clear c4
       by_cases c5 : 0 ≤ x5_1
       · rw [if_pos c5] at H
         have c5b0 : decide (0 ≤ x5_1) = true := Xq c5
         clear c5
         by_cases c6 : x5_1 < (l1.length : Int)
         · rw [if_pos c6] at H
           have c6b0 : decide (x5_1 < (l1.length : Int)) = true := Xq c6
           clear c6
           by_cases c7 : (!(((rd_T60 l0 x5_1).f0) == ((rd_T60 l1 x5_1).f0)) || (!((((rd_T60 l0 x5_1).f1).toList) == (((rd_T60 l1 x5_1).f1).toList)) || (!(((rd_T60 l0 x5_1).f2) == ((rd_T60 l1 x5_1).f2))))) = true
           · rw [if_pos c7] at H
             have c7b0 : (!(((rd_T60 l0 x5_1).f0) == ((rd_T60 l1 x5_1).f0)) || (!((((rd_T60 l0 x5_1).f1).toList) == (((rd_T60 l1 x5_1).f1).toList)) || (!(((rd_T60 l0 x5_1).f2) == ((rd_T60 l1 x5_1).f2))))) = true := c7
             clear c7
             obtain rfl := Xz H
             have p211 : 0 ≤ (x5_1 : Int) := Xp (by assumption)
             have q211 : x5_1 < (l0.length : Int) := Xp (by assumption)
             obtain ⟨ad211, e211, hx211_0, hx211_1, hx211_2⟩ := at_T60 HR0.out x5_1 p211 q211
             cases e211
             replace p211 := eq_true p211
             replace q211 := eq_true q211
             have p212 : 0 ≤ (x5_1 : Int) := Xp (by assumption)
             have q212 : x5_1 < (l1.length : Int) := Xp (by assumption)
             obtain ⟨ad212, e212, hx212_0, hx212_1, hx212_2⟩ := at_T60 HR1.out x5_1 p212 q212
             cases e212
             replace p212 := eq_true p212
             replace q212 := eq_true q212
             go_wp2
             repeat (go_quiet (fail); try go_wp2)
             go_ret
             exact ⟨by first | rfl | (simp; done) | (simp [*]; done), by repeat (first | exact Drawn0.refl _ | apply Drawn0.step)⟩
           rw [if_neg c7] at H
           have c7b0 : (!(((rd_T60 l0 x5_1).f0) == ((rd_T60 l1 x5_1).f0)) || (!((((rd_T60 l0 x5_1).f1).toList) == (((rd_T60 l1 x5_1).f1).toList)) || (!(((rd_T60 l0 x5_1).f2) == ((rd_T60 l1 x5_1).f2))))) = false := by simpa using c7
           clear c7
           have H' := Qa H
           clear H
           have p211 : 0 ≤ (x5_1 : Int) := Xp (by assumption)
           have q211 : x5_1 < (l0.length : Int) := Xp (by assumption)
           obtain ⟨ad211, e211, hx211_0, hx211_1, hx211_2⟩ := at_T60 HR0.out x5_1 p211 q211
           cases e211
           replace p211 := eq_true p211
           replace q211 := eq_true q211
           have p212 : 0 ≤ (x5_1 : Int) := Xp (by assumption)
           have q212 : x5_1 < (l1.length : Int) := Xp (by assumption)
           obtain ⟨ad212, e212, hx212_0, hx212_1, hx212_2⟩ := at_T60 HR1.out x5_1 p212 q212
           cases e212
           replace p212 := eq_true p212
           replace q212 := eq_true q212
           go_wp2
           repeat (go_quiet (fail); try go_wp2)
           go_roundg k1
           case measure => have := HK1.out; omega
           case rel => exact ⟨(wrap64 (x5_1 + 1)), (by first | rfl | (simp; done) | (simp [*]; done)), H', ⟨by have := HK1.out; omega⟩, by repeat (first | exact Drawn0.refl _ | apply Drawn0.step)⟩
         rw [if_neg c6] at H
         exact absurd H (by simp)
       rw [if_neg c5] at H
       exact absurd H (by simp)
     rw [if_neg c4] at H
     have c4b0 : decide (x5_1 < (l0.length : Int)) = false := Xr c4
     clear c4
     obtain rfl := Xz H
     go_wp2
     repeat (go_quiet (fail); try go_wp2)
     go_ret
     exact ⟨by first | rfl | (simp; done) | (simp [*]; done), by repeat (first | exact Drawn0.refl _ | apply Drawn0.step)⟩
 rw [if_neg c3] at H
 have c3b0 : ((l0.length : Int) == (l1.length : Int)) = false := Ya.mpr c3
 have c3b1 : ((l0.length : Int) != (l1.length : Int)) = true := Yc.mpr c3
 have c3b2 : (l0.length == l1.length) = false := by first | simpa using c3 | (simp at c3 ⊢; omega)
 obtain rfl := Xz H
 go_enter Tryz.func51, Tryz.ntmps51
 go_wp2
 repeat (go_quiet (fail); try go_wp2)
 go_ret
 exact ⟨by first | rfl | (simp; done) | (simp [*]; done), by repeat (first | exact Drawn0.refl _ | apply Drawn0.step)⟩
def payrollref38_Next.f (k : Nat) (l0 : List (S25)) (a1 : Int) (l2 : List (S60)) : Option (Int × Int × (List (S60)) × Bool) := (payrollref38_Latest.f k l0 a1).bind fun bt214 => ((payrollref32_Same.f k bt214.2.2.1 l2).bind fun t221 => (if t221 = true then (some (0,0, ([] : List (S60)), false)) else ((some (([] : List (S60)) : List (S60))).bind fun y222 => (if y222.length + l2.length < 4398046511104 then (some (a1, wrap64 (bt214.2.1 + 1), (y222 ++ l2), true)) else (none)))))
def payrollref38_Next.T4 : Bool × List (List Nat × List Nat) := (true, [([], []), ([], []), ([1], [1]), ([2], [2]), ([], []), ([], []), ([4,5], [4,5]), ([0,3,6], [0,3,6]), ([7,6,0,1,2,3,4,5,6,7], [7]), ([8,0,1,2,3,4,5,6,7,8], [])])
def payrollref38_Next.B4 : List Nat := [0,0,2,6,0,0,48,127,255,511]
theorem payrollref38_Next.tab4 : rtab .any (opsOf Tryz.f53 4) = payrollref38_Next.T4 := by kernel_rfl
theorem payrollref38_Next.bits4 : waitsOk payrollref38_Next.T4.2 payrollref38_Next.B4 = true := by kernel_rfl
theorem payrollref38_Next.calls (k : Nat) (A0 : Option Addr) (c0 : Nat) (l0 : List (S25)) (a1 : Int) (A2 : Option Addr) (c2 : Nat) (l2 : List (S60)) (r1 : Int) (r2 : Int) (r3 : List (S60)) (r4 : Bool) (w : World) (hr0 : Kd.C k25 w A0 l0.length l0) (hc0 : l0.length ≤ c0) (hr2 : Kd.C k60 w A2 l2.length l2) (hc2 : l2.length ≤ c2) (h : payrollref38_Next.f k l0 a1 l2 = some (r1, r2, r3, r4)) :
 Calls Tryz.prog 53 #[.slice A0 l0.length c0, .int .i64 a1, .slice A2 l2.length c2] w fun e w' => ∃ v2_ : Value, e = .returned (.tuple #[.agg #[.int .i64 r1, .int .i64 r2, v2_], .bool r4]) ∧ Kd.R k60 60 w' w.heap.size (fun _ => True) v2_ r3 ∧ Below w.heap.size w w' := by
 have hu25 := Tryz.underlying25
 have HR0 := Qa hr0
 have HC0 := Qa hc0
 clear hr0 hc0
 have HR2 := Qa hr2
 have HC2 := Qa hc2
 clear hr2 hc2
 have HB := Qa (Below.refl w.heap.size w)
 have H : ((payrollref38_Latest.f k l0 a1).bind fun bt214 => ((payrollref32_Same.f k bt214.2.2.1 l2).bind fun t221 => (if t221 = true then (some (0,0, ([] : List (S60)), false)) else ((some (([] : List (S60)) : List (S60))).bind fun y222 => (if y222.length + l2.length < 4398046511104 then (some (a1, wrap64 (bt214.2.1 + 1), (y222 ++ l2), true)) else (none)))))) = some (r1, r2, r3, r4) := h
 clear h
 replace H := Xx.mp H
 obtain ⟨⟨t214, t215, t216, t219⟩, A40, H⟩ := H
 replace H : ((payrollref32_Same.f k t216 l2).bind fun t221 => (if t221 = true then (some (0,0, ([] : List (S60)), false)) else ((some (([] : List (S60)) : List (S60))).bind fun y222 => (if y222.length + l2.length < 4398046511104 then (some (a1, wrap64 (t215 + 1), (y222 ++ l2), true)) else (none))))) = some (r1, r2, r3, r4) := H
 have A4 := Qa A40
 clear A40
 replace H := Xx.mp H
 obtain ⟨t221, A50, H⟩ := H
 replace H : (if t221 = true then (some (0,0, ([] : List (S60)), false)) else ((some (([] : List (S60)) : List (S60))).bind fun y222 => (if y222.length + l2.length < 4398046511104 then (some (a1, wrap64 (t215 + 1), (y222 ++ l2), true)) else (none)))) = some (r1, r2, r3, r4) := H
 have A5 := Qa A50
 clear A50
 by_cases c6 : t221 = true
 · subst c6
   have H1 : (some (0,0, ([] : List (S60)), false)) = some (r1, r2, r3, r4) := by rw [if_pos rfl] at H; exact H
   clear H
   have H := H1
   clear H1
   simp only [Option.some.injEq, Prod.mk.injEq] at H
   obtain ⟨rfl, rfl, rfl, rfl⟩ := H
   go_enter Tryz.func53, Tryz.ntmps53
   go_wp2_with (first | ((with_reducible refine Qx (N := 6) rfl ?_); refine Qv ?hg (N := 6) ?hd (cs := #[.int .i64 0, .int .i64 0, .slice none 0 0]) (t := 25) ?hr ?_; (case hd => rfl); (case hg => rfl); (case hr => first | (go_simp; done) | (go_simp; rfl)); intro gb213 hg w7 hbox hb; have n0_ := Qa (Qh (bl HB.out) hb); have n1_ := Qa (hbox); have n2_ := Qa ((by rw [hg]; exact (Qi (bl HB.out)) : w.heap.size ≤ gb213)); have n3_ := Qa ((by rw [hg]; exact (Qi (bl HB.out)) : w.heap.size ≤ gb213)); clear HB; have HB := n0_; have BK213 := n1_; have GW213 := n2_; have GE213 := n3_; clear n0_ n1_ n2_ n3_; clear hb hbox hg) | ((with_reducible refine Qw (f := 26) rfl ?_); refine gc (some 13) Tryz.func26 #[.slice A0 l0.length c0, .int .i64 a1] ?_; (with_reducible refine (payrollref38_Latest.calls k _ _ l0 a1 t214 t215 t216 t219 _ ?side1 ?side2 A4.out).mono ?_); (case side1 => repeat (first | exact (Kd.C_below HR0.out HB.out) | (with_reducible refine Kd.C_alloc ?_ _) | (with_reducible refine Kd.C_drewN ?_ _) | (with_reducible refine Kd.C_drew ?_))); (case side2 => exact HC0.out); rintro e w8 ⟨v217, rfl, ho0, hb⟩; refine ⟨_, rfl, ?_⟩; have n0_ := Qa (Kd.R_lower ho0 (Qi (bl HB.out))); have n1_ := Qa (Qb (nc BK213.out) hb); have n2_ := Qa (Qh (bl HB.out) hb); clear BK213 HB; have HO218 := n0_; have BK213 := n1_; have HB := n2_; clear n0_ n1_ n2_; (try clear hb); (try clear ho0)) | ((with_reducible refine Qx (N := 8) rfl ?_); refine Qv ?hg (N := 8) ?hd (cs := #[.int .i64 0, .int .i64 0, .slice none 0 0]) (t := 25) ?hr ?_; (case hd => rfl); (case hg => rfl); (case hr => first | (go_simp; done) | (go_simp; rfl)); intro gb220 hg w9 hbox hb; have n0_ := Qa (Xh (kr HO218.out) hb); have n1_ := Qa (Qb (nc BK213.out) hb); have n2_ := Qa (Qh (bl HB.out) hb); have n3_ := Qa (hbox); have n4_ := Qa ((by rw [hg]; exact (Qi (bl HB.out)) : w.heap.size ≤ gb220)); have n5_ := Qa ((by rw [hg]; exact (Qi (bl HB.out)) : w.heap.size ≤ gb220)); have n6_ := Qa ((by rw [hg]; exact Nat.ne_of_lt (blk_lt (nc BK213.out)) : gb213 ≠ gb220)); have n7_ := Qa ((by rw [hg]; exact Nat.ne_of_gt (blk_lt (nc BK213.out)) : gb220 ≠ gb213)); clear HO218 BK213 HB; have HO218 := n0_; have BK213 := n1_; have HB := n2_; have BK220 := n3_; have GW220 := n4_; have GE220 := n5_; have NB213_220 := n6_; have NB220_213 := n7_; clear n0_ n1_ n2_ n3_ n4_ n5_ n6_ n7_; clear hb hbox hg; have hnb10 := NB220_213.out; have hnc10 := NB213_220.out; have hcz11_0 := hz BK220.out 0; have hcz11_1 := hz BK220.out 1; have hcz11_2 := hz BK220.out 2; have hfz11_0 := Qm BK220.out 0; have hfz11_1 := Qm BK220.out 1; have hfz11_2 := Qm BK220.out 2; obtain ⟨Ao12, co12, eo12⟩ := Xk HO218.out; subst eo12) | ((with_reducible refine Qw (f := 51) rfl ?_); refine gc (some 19) Tryz.func51 #[.slice Ao12 t216.length co12, .slice A2 l2.length c2] ?_; (with_reducible refine (payrollref32_Same.calls k _ _ t216 _ _ l2 true _ ?side1 ?side2 ?side3 ?side4 A5.out).mono ?_); (case side1 => refine (Xb (e := 60) (base := w.heap.size) (ok := fun k_ => True) (n := t216.length) (c := co12) ?_).2.2; exact (by (with_reducible repeat (first | apply Xc | apply Xd | apply Xe)); exact (Xf (Xg (p := ⟨gb220,2, none⟩) (Xg (p := ⟨gb220,1, none⟩) (Xg (p := ⟨gb220,0, none⟩) (Kd.R_types HO218.out BK220.out (by decide)) (fun _ hk => hk.2) (.int .i64 t214)) (fun _ hk => hk.2) (.int .i64 t215)) (fun _ hk => hk.2) (.slice Ao12 t216.length co12)) (fun _ h_ => h_.1)))); (case side2 => exact (Xb HO218.out).2.1); (case side3 => exact Kd.C_below HR2.out (bl HB.out)); (case side4 => exact HC2.out); rintro e w' ⟨rfl, ⟨nd, rfl⟩⟩; refine ⟨_, rfl, ?_⟩; have hcz13_0 := hz BK213.out 0; have hcz13_1 := hz BK213.out 1; have hcz13_2 := hz BK213.out 2; have hfz13_0 := Qm BK213.out 0; have hfz13_1 := Qm BK213.out 1; have hfz13_2 := Qm BK213.out 2))
   refine Qz (Xa rfl _ _ gb213 25 #[.int .i64 0, .int .i64 0, .slice none 0 0] (0,0) _ rfl (by (with_reducible repeat (first | refine Qj ?_ _ | refine Qk ?_ | refine Ql ?_ _)); refine Qo (cs := #[.int .i64 0, .int .i64 0, .slice none 0 0]) ?_ 2 _ rfl; (with_reducible repeat (first | refine Qj ?_ _ | refine Qk ?_ | refine Ql ?_ _)); refine Qo (cs := #[.int .i64 0, .int .i64 0, .slice none 0 0]) ?_ 1 _ rfl; (with_reducible repeat (first | refine Qj ?_ _ | refine Qk ?_ | refine Ql ?_ _)); refine Qo (cs := #[.int .i64 0, .int .i64 0, .slice none 0 0]) ?_ 0 _ rfl; (with_reducible repeat (first | refine Qj ?_ _ | refine Qk ?_ | refine Ql ?_ _)); refine Qc ?_ NB213_220.out _; (with_reducible repeat (first | refine Qj ?_ _ | refine Qk ?_ | refine Ql ?_ _)); refine Qc ?_ NB213_220.out _; (with_reducible repeat (first | refine Qj ?_ _ | refine Qk ?_ | refine Ql ?_ _)); refine Qc ?_ NB213_220.out _; (with_reducible repeat (first | refine Qj ?_ _ | refine Qk ?_ | refine Ql ?_ _)); exact BK213.out) Tryz.underlying25 rfl (by kernel_rfl)) rfl ?_
   exact ⟨_, by first | rfl | (simp [errW_none, errW_some] <;> rfl) | (simp [*, errW_none, errW_some] <;> rfl), by first | exact Kd.R_nil _ _ _ _ _ | exact Kd.N_nil _ _ _ _ _ | exact Kd.V_nil _ _ _ _ _ | exact Kd.Q_nil _ _ _ _ _ | exact Kd.S_nil _ _ _ _ _, bl HB.out⟩
 replace c6 := Bool.eq_false_iff.mpr c6
 subst c6
 have H1 : ((some (([] : List (S60)) : List (S60))).bind fun y222 => (if y222.length + l2.length < 4398046511104 then (some (a1, wrap64 (t215 + 1), (y222 ++ l2), true)) else (none))) = some (r1, r2, r3, r4) := by rw [if_neg (show ¬ (false = true) by decide)] at H; exact H
 clear H
 have H := H1
 clear H1
 obtain ⟨y222, hy222⟩ : ∃ y_ : List (S60), y_ = (([] : List (S60))) := ⟨_, rfl⟩
 replace H : (if y222.length + l2.length < 4398046511104 then (some (a1, wrap64 (t215 + 1), (y222 ++ l2), true)) else (none)) = some (r1, r2, r3, r4) := by first | (rw [hy222]; with_reducible exact H) | (have H2_ := (Xy _ _).symm.trans H; rw [hy222]; with_reducible exact H2_) | (have H2_ := (Xy _ _).symm.trans H; with_reducible exact H2_) | with_reducible exact H | (rw [hy222]; exact H) | exact H
 have Ny222 := Qa hy222
 clear hy222
 by_cases c14 : y222.length + l2.length < 4398046511104
 · rw [if_pos c14] at H
   have LMc14 := Qa c14
   clear c14
   obtain ⟨y225, hy225⟩ : ∃ y_ : List (S60), y_ = (y222 ++ l2) := ⟨_, rfl⟩
   replace H : (some (a1, wrap64 (t215 + 1), y225, true)) = some (r1, r2, r3, r4) := by first | (rw [hy225]; with_reducible exact H) | (have H2_ := (Xy _ _).symm.trans H; rw [hy225]; with_reducible exact H2_) | (have H2_ := (Xy _ _).symm.trans H; with_reducible exact H2_) | with_reducible exact H | (rw [hy225]; exact H) | exact H
   have Ny225 := Qa hy225
   clear hy225
   simp only [Option.some.injEq, Prod.mk.injEq] at H
   obtain ⟨rfl, rfl, rfl, rfl⟩ := H
   go_enter Tryz.func53, Tryz.ntmps53
   try go_wp2_with (first | ((with_reducible refine Qx (N := 6) rfl ?_); refine Qv ?hg (N := 6) ?hd (cs := #[.int .i64 0, .int .i64 0, .slice none 0 0]) (t := 25) ?hr ?_; (case hd => rfl); (case hg => rfl); (case hr => first | (go_simp; done) | (go_simp; rfl)); intro gb213 hg w15 hbox hb; have n0_ := Qa (Qh (bl HB.out) hb); have n1_ := Qa (hbox); have n2_ := Qa ((by rw [hg]; exact (Qi (bl HB.out)) : w.heap.size ≤ gb213)); have n3_ := Qa ((by rw [hg]; exact (Qi (bl HB.out)) : w.heap.size ≤ gb213)); clear HB; have HB := n0_; have BK213 := n1_; have GW213 := n2_; have GE213 := n3_; clear n0_ n1_ n2_ n3_; clear hb hbox hg) | ((with_reducible refine Qw (f := 26) rfl ?_); refine gc (some 13) Tryz.func26 #[.slice A0 l0.length c0, .int .i64 a1] ?_; (with_reducible refine (payrollref38_Latest.calls k _ _ l0 a1 t214 t215 t216 t219 _ ?side1 ?side2 A4.out).mono ?_); (case side1 => repeat (first | exact (Kd.C_below HR0.out HB.out) | (with_reducible refine Kd.C_alloc ?_ _) | (with_reducible refine Kd.C_drewN ?_ _) | (with_reducible refine Kd.C_drew ?_))); (case side2 => exact HC0.out); rintro e w16 ⟨v217, rfl, ho0, hb⟩; refine ⟨_, rfl, ?_⟩; have n0_ := Qa (Kd.R_lower ho0 (Qi (bl HB.out))); have n1_ := Qa (Qb (nc BK213.out) hb); have n2_ := Qa (Qh (bl HB.out) hb); clear BK213 HB; have HO218 := n0_; have BK213 := n1_; have HB := n2_; clear n0_ n1_ n2_; (try clear hb); (try clear ho0)) | ((with_reducible refine Qx (N := 8) rfl ?_); refine Qv ?hg (N := 8) ?hd (cs := #[.int .i64 0, .int .i64 0, .slice none 0 0]) (t := 25) ?hr ?_; (case hd => rfl); (case hg => rfl); (case hr => first | (go_simp; done) | (go_simp; rfl)); intro gb220 hg w17 hbox hb; have n0_ := Qa (Xh (kr HO218.out) hb); have n1_ := Qa (Qb (nc BK213.out) hb); have n2_ := Qa (Qh (bl HB.out) hb); have n3_ := Qa (hbox); have n4_ := Qa ((by rw [hg]; exact (Qi (bl HB.out)) : w.heap.size ≤ gb220)); have n5_ := Qa ((by rw [hg]; exact (Qi (bl HB.out)) : w.heap.size ≤ gb220)); have n6_ := Qa ((by rw [hg]; exact Nat.ne_of_lt (blk_lt (nc BK213.out)) : gb213 ≠ gb220)); have n7_ := Qa ((by rw [hg]; exact Nat.ne_of_gt (blk_lt (nc BK213.out)) : gb220 ≠ gb213)); clear HO218 BK213 HB; have HO218 := n0_; have BK213 := n1_; have HB := n2_; have BK220 := n3_; have GW220 := n4_; have GE220 := n5_; have NB213_220 := n6_; have NB220_213 := n7_; clear n0_ n1_ n2_ n3_ n4_ n5_ n6_ n7_; clear hb hbox hg; have hnb18 := NB220_213.out; have hnc18 := NB213_220.out; have hcz19_0 := hz BK220.out 0; have hcz19_1 := hz BK220.out 1; have hcz19_2 := hz BK220.out 2; have hfz19_0 := Qm BK220.out 0; have hfz19_1 := Qm BK220.out 1; have hfz19_2 := Qm BK220.out 2; obtain ⟨Ao20, co20, eo20⟩ := Xk HO218.out; subst eo20) | ((with_reducible refine Qw (f := 51) rfl ?_); refine gc (some 19) Tryz.func51 #[.slice Ao20 t216.length co20, .slice A2 l2.length c2] ?_; (with_reducible refine (payrollref32_Same.calls k _ _ t216 _ _ l2 false _ ?side1 ?side2 ?side3 ?side4 A5.out).mono ?_); (case side1 => refine (Xb (e := 60) (base := w.heap.size) (ok := fun k_ => True) (n := t216.length) (c := co20) ?_).2.2; exact (by (with_reducible repeat (first | apply Xc | apply Xd | apply Xe)); exact (Xf (Xg (p := ⟨gb220,2, none⟩) (Xg (p := ⟨gb220,1, none⟩) (Xg (p := ⟨gb220,0, none⟩) (Kd.R_types HO218.out BK220.out (by decide)) (fun _ hk => hk.2) (.int .i64 t214)) (fun _ hk => hk.2) (.int .i64 t215)) (fun _ hk => hk.2) (.slice Ao20 t216.length co20)) (fun _ h_ => h_.1)))); (case side2 => exact (Xb HO218.out).2.1); (case side3 => exact Kd.C_below HR2.out (bl HB.out)); (case side4 => exact HC2.out); rintro e w' ⟨rfl, ⟨nd, rfl⟩⟩; refine ⟨_, rfl, ?_⟩))
   have n0_ : Aside0 (Kd.R k60 60 (((w17.setCell ⟨gb220,0, none⟩ (.int .i64 t214)).setCell ⟨gb220,1, none⟩ (.int .i64 t215)).setCell ⟨gb220,2, none⟩ (.slice Ao20 t216.length co20)) w.heap.size (fun _ => True) (.slice Ao20 t216.length co20) t216) := ⟨by (with_reducible repeat (first | apply Xc | apply Xd | apply Xe)); exact Xf (Xg (p := ⟨gb220,2, none⟩) (Xg (p := ⟨gb220,1, none⟩) (Xg (p := ⟨gb220,0, none⟩) (Kd.R_types HO218.out BK220.out (by decide)) (fun _ hk => hk.2) (.int .i64 t214)) (fun _ hk => hk.2) (.int .i64 t215)) (fun _ hk => hk.2) (.slice Ao20 t216.length co20)) (fun _ hk => trivial)⟩
   have n1_ : Aside0 ((((w17.setCell ⟨gb220,0, none⟩ (.int .i64 t214)).setCell ⟨gb220,1, none⟩ (.int .i64 t215)).setCell ⟨gb220,2, none⟩ (.slice Ao20 t216.length co20)).heap[gb213]? = some (.cells #[.int .i64 0, .int .i64 0, .slice none 0 0] 25 (0,0))) := ⟨by (with_reducible repeat (first | refine Qj ?_ _ | refine Qk ?_ | refine Ql ?_ _)); refine Qc ?_ NB213_220.out _; (with_reducible repeat (first | refine Qj ?_ _ | refine Qk ?_ | refine Ql ?_ _)); refine Qc ?_ NB213_220.out _; (with_reducible repeat (first | refine Qj ?_ _ | refine Qk ?_ | refine Ql ?_ _)); refine Qc ?_ NB213_220.out _; (with_reducible repeat (first | refine Qj ?_ _ | refine Qk ?_ | refine Ql ?_ _)); exact BK213.out⟩
   have n2_ : Aside0 ((((w17.setCell ⟨gb220,0, none⟩ (.int .i64 t214)).setCell ⟨gb220,1, none⟩ (.int .i64 t215)).setCell ⟨gb220,2, none⟩ (.slice Ao20 t216.length co20)).heap[gb220]? = some (.cells #[.int .i64 t214, .int .i64 t215, .slice Ao20 t216.length co20] 25 (0,0))) := ⟨by (with_reducible repeat (first | refine Qj ?_ _ | refine Qk ?_ | refine Ql ?_ _)); refine Qo (cs := #[.int .i64 t214, .int .i64 t215, .slice none 0 0]) ?_ 2 _ rfl; (with_reducible repeat (first | refine Qj ?_ _ | refine Qk ?_ | refine Ql ?_ _)); refine Qo (cs := #[.int .i64 t214, .int .i64 0, .slice none 0 0]) ?_ 1 _ rfl; (with_reducible repeat (first | refine Qj ?_ _ | refine Qk ?_ | refine Ql ?_ _)); refine Qo (cs := #[.int .i64 0, .int .i64 0, .slice none 0 0]) ?_ 0 _ rfl; (with_reducible repeat (first | refine Qj ?_ _ | refine Qk ?_ | refine Ql ?_ _)); exact BK220.out⟩
   have n3_ : Aside0 (Below w.heap.size w (((w17.setCell ⟨gb220,0, none⟩ (.int .i64 t214)).setCell ⟨gb220,1, none⟩ (.int .i64 t215)).setCell ⟨gb220,2, none⟩ (.slice Ao20 t216.length co20))) := ⟨bl HB.out⟩
   (try clear HO218)
   (try clear BK213)
   (try clear BK220)
   (try clear HB)
   generalize (((w17.setCell ⟨gb220,0, none⟩ (.int .i64 t214)).setCell ⟨gb220,1, none⟩ (.int .i64 t215)).setCell ⟨gb220,2, none⟩ (.slice Ao20 t216.length co20)) = w21 at n0_ n1_ n2_ n3_ ⊢
   have HO218 := n0_
   have BK213 := n1_
   have BK220 := n2_
   have HB := n3_
   clear n0_ n1_ n2_ n3_
   (try simp only [World.drewN_drewN]); (try (rw [drewN_self w21]; generalize hq_ : World.drewN w21 _ = w21; have n0_ : Aside0 (Kd.R k60 60 w21 w.heap.size (fun _ => True) (.slice Ao20 t216.length co20) t216) := ⟨by rw [← hq_]; exact (kr HO218.out)⟩; have n1_ : Aside0 (w21.heap[gb213]? = some (.cells #[.int .i64 0, .int .i64 0, .slice none 0 0] 25 (0,0))) := ⟨by rw [← hq_]; exact (nc BK213.out)⟩; have n2_ : Aside0 (w21.heap[gb220]? = some (.cells #[.int .i64 t214, .int .i64 t215, .slice Ao20 t216.length co20] 25 (0,0))) := ⟨by rw [← hq_]; exact (nc BK220.out)⟩; have n3_ : Aside0 (Below w.heap.size w w21) := ⟨by rw [← hq_]; exact (bl HB.out)⟩; clear HO218 BK213 BK220 HB hq_; have HO218 := n0_; have BK213 := n1_; have BK220 := n2_; have HB := n3_; clear n0_ n1_ n2_ n3_))
   have n0_ := Qa (Xe HO218.out)
   have n1_ := Qa (Qk BK213.out)
   have n2_ := Qa (Qk BK220.out)
   have n3_ := Qa (Qf HB.out)
   clear HO218
   clear BK213
   clear BK220
   clear HB
   have HO218 := n0_
   have BK213 := n1_
   have BK220 := n2_
   have HB := n3_
   clear n0_ n1_ n2_ n3_
   refine start_ (n := 10) (S := fun w' => w'.cell? ⟨gb220,0, none⟩ = some (.int .i64 t214) ∧ w'.cell? ⟨gb220,1, none⟩ = some (.int .i64 t215) ∧ w'.cell? ⟨gb220,2, none⟩ = some (.slice Ao20 t216.length co20)) (ds := []) #[Zf,Zf,Zf,Zf,Zf,Zf,Zf,Zf,Zf,Zf] (by kernel_rfl) rfl rfl ⟨(Qn BK220.out 0).trans rfl, (Qn BK220.out 1).trans rfl, (Qn BK220.out 2).trans rfl⟩ (fun hHeld => ?_); refine with_tabW payrollref38_Next.tab4 payrollref38_Next.bits4 (fun HT_ HW_ => ?_)
   generalize w21.drew = w22 at HO218 BK213 BK220 HB hHeld ⊢
   refine pu (i := 0) (N := some 21) (v := ?_) (a' := ?_) #[Zt,Zf,Zf,Zf,Zf,Zf,Zf,Zf,Zf,Zf] HT_ ?_ ?_ ?_
   rotate_left
   · intro w'
     go_simp
     with_reducible rfl
   rotate_left
   · simp only [Act.put, Xt, Xu, Xv, i64_w, i32_w]
     rfl
   refine pu (i := 1) (N := some 22) (v := ?_) (a' := ?_) #[Zt,Zt,Zf,Zf,Zf,Zf,Zf,Zf,Zf,Zf] HT_ ?_ ?_ ?_
   rotate_left
   · intro w'
     go_simp
     with_reducible rfl
   rotate_left
   · simp only [Act.put, Xt, Xu, Xv, i64_w, i32_w]
     rfl
   refine pu (i := 5) (N := some 26) (v := ?_) (a' := ?_) #[Zt,Zt,Zf,Zf,Zf,Zt,Zf,Zf,Zf,Zf] HT_ ?_ ?_ ?_
   rotate_left
   · intro w'
     go_simp
     with_reducible rfl
   rotate_left
   · simp only [Act.put, Xt, Xu, Xv, i64_w, i32_w]
     rfl
   refine take_ (i := 2) (N := some 23) (v := ?_) (a' := ?_) #[Zt,Zt,Zt,Zf,Zf,Zt,Zf,Zf,Zf,Zf] rfl rfl (take_ofW HT_.out HW_.out (by kernel_rfl)) (fun _ _ _ h => h) (Or.inl ⟨by rfl, ?_⟩) hHeld ?_ ?_
   rotate_left
   · rintro w' ⟨s0, s1, s2⟩
     go_simp
     with_reducible rfl
   rotate_left
   · simp only [Act.put, Xt, Xu, Xv, i64_w, i32_w]
     rfl
   refine pu (i := 3) (N := some 24) (v := ?_) (a' := ?_) #[Zt,Zt,Zt,Zt,Zf,Zt,Zf,Zf,Zf,Zf] HT_ ?_ ?_ ?_
   rotate_left
   · intro w'
     go_simp
     with_reducible rfl
   rotate_left
   · simp only [Act.put, Xt, Xu, Xv, i64_w, i32_w]
     rfl
   refine one_ (i := 4) (N := some 25) #[Zt,Zt,Zt,Zt,Zt,Zt,Zf,Zf,Zf,Zf] rfl rfl (one_of HT_.out (by kernel_rfl)) (by decide) (fun K hK => ?_)
   refine Kd.R_lit_step k60 _ 60 ?hg (N := 25) ?hd (xs := ([] : List (S60))) (inner := []) (ok := fun _ => True) (okp := fun _ => True) ?hr ?hp (fun _ hk => hk) trivial (Below.refl _ _) (Nat.le_refl _) (by simp) ?_; (case hd => rfl); (case hg => rfl); (case hr => first | (go_simp; done) | (go_simp; rfl)); (case hp => exact (Reps.none _ _))
   intro v223 w23 ho24 hb hg_ hnew_
   clear hg_ hnew_
   (first | rw [← Ny222.out] at ho24 | (simp only [Int.reduceToNat] at ho24; rw [← Ny222.out] at ho24))
   have n0_ := Qa (Kd.R_elder' (kr HO218.out) (Kd.R_base ho24) hb)
   have n1_ := Qa (Kd.R_lower (Kd.R_new' ho24 (Kd.R_lt (kr HO218.out))) (Qi (bl HB.out)))
   have n2_ := Qa (Qb (nc BK213.out) hb)
   have n3_ := Qa (Qb (nc BK220.out) hb)
   have n4_ := Qa (Qh (bl HB.out) hb)
   clear HO218
   clear BK213
   clear BK220
   clear HB
   have HO218 := n0_
   have HO224 := n1_
   have BK213 := n2_
   have BK220 := n3_
   have HB := n4_
   clear n0_ n1_ n2_ n3_ n4_
   clear hb ho24
   refine hK.out _ _ ⟨(Qn BK220.out 0).trans rfl, (Qn BK220.out 1).trans rfl, (Qn BK220.out 2).trans rfl⟩ (fun hHeld => ?_)
   clear hK K
   refine norm_ (a' := ?_) ?_ ?_
   rotate_left
   · show Act.put _ (some 25) _ = _
     simp only [Act.put, Xt, Xu, Xv, i64_w, i32_w]
     rfl
   refine one_ (i := 6) (N := some 27) #[Zt,Zt,Zt,Zt,Zt,Zt,Zt,Zf,Zf,Zf] rfl rfl (one_of HT_.out (by kernel_rfl)) (by decide) (fun K hK => ?_)
   refine Kd.R_append_rows_step k60 (w0 := w) w.heap.size (by rfl) (.tmp 25) (.tmp 26) 23 60 (.agg #[(.int .i64 0), (.string ⟨#[]⟩), (.int .i64 0)]) 32 rfl Tryz.underlying23 info60 rfl (by decide) (by omega) v223 y222 l2 _ _ _ (fun k_ => some k_ ≠ (.slice Ao20 t216.length co20 : Value).ownBlock) (fun _ => False) rfl rfl ?aO ?aR (fun _ _ h => h) (fun _ h => h.elim) ?aF ?aB ?aS ?aL ?_
   (case aR => repeat (first | exact (Kd.C_below HR2.out HB.out) | (with_reducible refine Kd.C_alloc ?_ _) | (with_reducible refine Kd.C_drewN ?_ _) | (with_reducible refine Kd.C_drew ?_)))
   (case aB => exact (bl HB.out))
   (case aF => exact (fun k_ hk => Kd.fresh' (Kd.R_lt (kr HO218.out)) k_ hk))
   (case aO => exact (by (with_reducible repeat (first | apply Xc | apply Xd | apply Xe)); exact Xf HO224.out (fun _ hk => hk.2)))
   (case aS => exact (Qi (bl HB.out)))
   (case aL => have := LMc14.out; omega)
   intro v226 w25 ho hb hg hat
   rw [← Ny225.out] at ho
   have n0_ := Qa (blk_grown (nc BK213.out) hg (Kd.R_ne HO224.out BK213.out (by decide)))
   have n1_ := Qa (Kd.R_after (ok := (fun _ => True)) (kr HO218.out) hg hat)
   have n2_ := Qa (blk_grown (nc BK220.out) hg (Kd.R_ne HO224.out BK220.out (by decide)))
   have n3_ := Qa (hb)
   have n4_ := Qa (ho)
   clear BK213
   clear HO218
   clear BK220
   clear HB
   clear HO224
   have BK213 := n0_
   have HO218 := n1_
   have BK220 := n2_
   have HB := n3_
   have HO227 := n4_
   clear n0_ n1_ n2_ n3_ n4_
   clear ho hb hg hat
   obtain ⟨Ao26, co26, eo26⟩ := Xk HO227.out
   (first | subst eo26 | (injection eo26 with f1_ f2_ f3_; have f4_ := f1_.symm; have f5_ := f3_.symm; clear f1_ f2_ f3_; subst f4_; subst f5_))
   refine hK.out _ _ ⟨(Qn BK220.out 0).trans rfl, (Qn BK220.out 1).trans rfl, (Qn BK220.out 2).trans rfl⟩ (fun hHeld => ?_)
   clear hK K
   refine norm_ (a' := ?_) ?_ ?_
   rotate_left
   · show Act.put _ (some 27) _ = _
     simp only [Act.put, Xt, Xu, Xv, i64_w, i32_w]
     rfl
   refine pu (i := 7) (N := some 28) (v := ?_) (a' := ?_) #[Zt,Zt,Zt,Zt,Zt,Zt,Zt,Zt,Zf,Zf] HT_ ?_ ?_ ?_
   rotate_left
   · intro w'
     go_simp
     with_reducible rfl
   rotate_left
   · simp only [Act.put, Xt, Xu, Xv, i64_w, i32_w]
     rfl
   refine one_ (i := 8) (N := none) #[Zt,Zt,Zt,Zt,Zt,Zt,Zt,Zt,Zt,Zf] rfl rfl (one_of HT_.out (by kernel_rfl)) (by decide) (fun K hK => ?_)
   have hs27 : w25.cell? ⟨gb213,0, none⟩ = some (.int .i64 0) := (Qn BK213.out 0).trans rfl
   have hfs27 := Qm BK213.out 0
   have hns27_1 := NB220_213.out
   have hms27_1 := NB213_220.out
   have hs28 : w25.cell? ⟨gb213,1, none⟩ = some (.int .i64 0) := (Qn BK213.out 1).trans rfl
   have hfs28 := Qm BK213.out 1
   have hns28_1 := NB220_213.out
   have hms28_1 := NB213_220.out
   have hs29 : w25.cell? ⟨gb213,2, none⟩ = some (.slice none 0 0) := (Qn BK213.out 2).trans rfl
   have hfs29 := Qm BK213.out 2
   have hns29_1 := NB220_213.out
   have hms29_1 := NB213_220.out
   refine skip_ (w1 := ?_) (by rfl) rfl ?_ ?_
   rotate_left
   · go_simp
     rfl
   refine hK.out _ _ ⟨((cell_far (p := ⟨gb213, _, none⟩) NB220_213.out _).trans (((cell_far (p := ⟨gb213, _, none⟩) NB220_213.out _).trans (((cell_far (p := ⟨gb213, _, none⟩) NB220_213.out _).trans (hHeld.1)))))), ((cell_far (p := ⟨gb213, _, none⟩) NB220_213.out _).trans (((cell_far (p := ⟨gb213, _, none⟩) NB220_213.out _).trans (((cell_far (p := ⟨gb213, _, none⟩) NB220_213.out _).trans (hHeld.2.1)))))), ((cell_far (p := ⟨gb213, _, none⟩) NB220_213.out _).trans (((cell_far (p := ⟨gb213, _, none⟩) NB220_213.out _).trans (((cell_far (p := ⟨gb213, _, none⟩) NB220_213.out _).trans (hHeld.2.2))))))⟩ (fun hHeld => ?_)
   clear hK K
   refine pu (i := 9) (N := some 7) (v := ?_) (a' := ?_) #[Zt,Zt,Zt,Zt,Zt,Zt,Zt,Zt,Zt,Zt] HT_ ?_ ?_ ?_
   rotate_left
   · intro w'
     go_simp
     with_reducible rfl
   rotate_left
   · simp only [Act.put, Xt, Xu, Xv, i64_w, i32_w]
     rfl
   refine done_ (done_of HT_.out (by kernel_rfl)) ?_
   try go_wp2
   refine Qz (Xa rfl _ _ gb213 25 #[.int .i64 a1, .int .i64 (wrap64 (t215 + 1)), .slice Ao26 y225.length co26] (0,0) _ rfl (by (with_reducible repeat (first | refine Qj ?_ _ | refine Qk ?_ | refine Ql ?_ _)); refine Qo (cs := #[.int .i64 a1, .int .i64 (wrap64 (t215 + 1)), .slice none 0 0]) ?_ 2 _ rfl; (with_reducible repeat (first | refine Qj ?_ _ | refine Qk ?_ | refine Ql ?_ _)); refine Qo (cs := #[.int .i64 a1, .int .i64 0, .slice none 0 0]) ?_ 1 _ rfl; (with_reducible repeat (first | refine Qj ?_ _ | refine Qk ?_ | refine Ql ?_ _)); refine Qo (cs := #[.int .i64 0, .int .i64 0, .slice none 0 0]) ?_ 0 _ rfl; (with_reducible repeat (first | refine Qj ?_ _ | refine Qk ?_ | refine Ql ?_ _)); exact BK213.out) Tryz.underlying25 rfl (by kernel_rfl)) rfl ?_
   exact ⟨_, by first | rfl | (simp [errW_none, errW_some] <;> rfl) | (simp [*, errW_none, errW_some] <;> rfl), by (with_reducible repeat (first | apply Xc | apply Xd | apply Xe)); exact Xf (Xg (p := ⟨gb213,2, none⟩) (Xg (p := ⟨gb213,1, none⟩) (Xg (p := ⟨gb213,0, none⟩) (Kd.R_types HO227.out BK213.out (by decide)) (fun _ hk => hk.2) (.int .i64 a1)) (fun _ hk => hk.2) (.int .i64 (wrap64 (t215 + 1)))) (fun _ hk => hk.2) (.slice Ao26 y225.length co26)) (fun _ hk => trivial), bl HB.out⟩
 rw [if_neg c14] at H
 exact absurd H (by simp)
end Go.Proofs.YtejgfblphgcgkaaGreatDoor.P
