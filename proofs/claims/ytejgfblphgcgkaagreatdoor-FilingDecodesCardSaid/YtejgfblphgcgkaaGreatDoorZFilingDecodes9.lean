/- Texts for the law FilingDecodes (kept out of a larger one). -/
import Derived.Test.YtejgfblphgcgkaaGreatDoorZFilingDecodes6
import Derived.Test.YtejgfblphgcgkaaGreatDoorZFilingDecodes8
namespace Go.Proofs.YtejgfblphgcgkaaGreatDoor.P
open Go.RowKit Go.Proofs.YtejgfblphgcgkaaGreatDoorW.PrintWords Go.Proofs.YtejgfblphgcgkaaGreatDoorW.PrintLast Go.Proofs.YtejgfblphgcgkaaGreatDoorW.PrintMore
attribute [local go_sem] max2_int min2_int max_two min_two max_three min_three max_four min_four   -- for this text's walks alone
set_option linter.unusedVariables false
set_option maxHeartbeats 8000000
set_option maxRecDepth 100000
set_option linter.unusedSimpArgs false
theorem own_block {α : Type} {d : Kd α} {e base : Nat} {ok : Nat → Prop} {w : World} {g : Addr} {n c : Nat} {xs : List α} (h : d.R e w base ok (.slice (some g) n c) xs) : ∃ CX, w.heap[g.block]? = some (.cells CX e (0,0)) := by
 obtain ⟨h0, inner, ho, hr⟩ := h
 exact own_typed ho g.block rfl
theorem blk_ne {w : World} {a b : Nat} {c1 c2 : Array Value} {t1 t2 : TypeId} {f1 f2 : Nat × Nat} (h1 : w.heap[a]? = some (.cells c1 t1 f1)) (h2 : w.heap[b]? = some (.cells c2 t2 f2)) (ht : t1 ≠ t2) : a ≠ b := by
 intro e
 subst e
 rw [h1] at h2
 injection h2 with h2
 injection h2 with h3 h4
 exact ht h4
theorem cell_same {w1 w2 : World} {a : Addr} (h : w2.heap[a.block]? = w1.heap[a.block]?) : w2.cell? a = w1.cell? a := by simp [World.cell?, h]
theorem cell_cut {w1 w2 : World} {a : Addr} {b : Nat} {o : Obj} (hb : a.block = b) (h2 : w2.heap[b]? = some o) (h1 : w1.heap[b]? = some o) : w2.cell? a = w1.cell? a := cell_same (by rw [hb, h2, h1])
theorem add_blk (a : Addr) (n : Nat) : (a.add n).block = a.block := by unfold Addr.add; split <;> rfl
theorem cut_block {a b : Addr} {c m : Nat} {k : Nat} (h : some a = (if c = m then (some b) else ((some b) : Option Addr).map (·.add k))) : a.block = b.block := by
 split at h
 · cases h; rfl
 · cases h; exact add_blk _ _
mutual
def filing_read.j0 : Nat → List Zb → List Zb → Bool → Int → Int → Option (Int × Int × (List (S60)) × Bool)
 | 0, _, _, _, _, _ => none
 | k + 1, x7, x8, x42, x154000, x154001 => if x42 = true then (some (x154000, x154001, ([] : List (S60)), false)) else (if 1 < (x8.length : Int) then ((filing_number.f (rdOf ByteArray.empty x8 1)).bind fun bt166 => (if 3 < (x8.length : Int) then ((filing_number.f (rdOf ByteArray.empty x8 3)).bind fun bt169 => (if bt166.2 = true then (filing_read.j1 k x7 (!bt169.2) bt166.1 bt169.1) else (filing_read.j1 k x7 true bt166.1 bt169.1))) else (none))) else (none))
def filing_read.j1 : Nat → List Zb → Bool → Int → Int → Option (Int × Int × (List (S60)) × Bool)
 | 0, _, _, _, _ => none
 | k + 1, x7, x65, x154000, x154001 => if x65 = true then (some (x154000, x154001, ([] : List (S60)), false)) else (if 1 ≤ (x7.length : Int) then ((some (x7.drop 1 : List Zb)).bind fun y171 => (filing_read.l0 k y171 (y171.length : Int) 0 x154000 x154001 ([] : List (S60)))) else (none))
def filing_read.l0 : Nat → List Zb → Int → Int → Int → Int → List (S60) → Option (Int × Int × (List (S60)) × Bool)
 | 0, _, _, _, _, _, _ => none
 | k + 1, x68, x69, x70, x154000, x154001, x154002 => if x70 < x69 then (if 0 ≤ x70 then (if x70 < (x68.length : Int) then ((filing_line.f k (rdOf ByteArray.empty x68 x70)).bind fun bt176 => (if bt176.2.2.2 = true then (if x154002.length < 4398046511104 then (filing_read.l0 k x68 x69 (wrap64 (x70 + 1)) x154000 x154001 (x154002 ++ [(⟨bt176.1, bt176.2.1, bt176.2.2.1⟩ : S60)])) else (none)) else (some (x154000, x154001, x154002, false)))) else (none)) else (none)) else (some (x154000, x154001, x154002, true))
end
def filing_read.f (k : Nat) (a0 : Zb) : Option (Int × Int × (List (S60)) × Bool) := (strings_CutSuffix.f a0 (⟨#[10,101,110,100,10]⟩ : Zb)).bind fun bt154 => (if bt154.2 = true then ((strings_Split.f bt154.1 (⟨#[10]⟩ : Zb)).bind fun t156 => (if 0 < (t156.length : Int) then ((strings_Split.f (rdOf ByteArray.empty t156 0) (⟨#[32]⟩ : Zb)).bind fun t160 => (if (t160.length : Int) = 4 then (if 0 < (t160.length : Int) then (if (rdOf ByteArray.empty t160 0).toList = ([114,101,116,117,114,110] : List UInt8) then (if 2 < (t160.length : Int) then (filing_read.j0 k t156 t160 ((rdOf ByteArray.empty t160 2).toList != ([118,101,114,115,105,111,110] : List UInt8)) 0 0) else (none)) else (filing_read.j0 k t156 t160 true 0 0)) else (none)) else (filing_read.j0 k t156 t160 true 0 0))) else (none))) else (some (0,0, ([] : List (S60)), false)))
theorem filing_read.calls (k : Nat) (a0 : Zb) (r1 : Int) (r2 : Int) (r3 : List (S60)) (r4 : Bool) (w : World) (hT : Tabs w) (h : filing_read.f k a0 = some (r1, r2, r3, r4)) :
 Calls Tryz.prog 46 #[.string a0] w fun e w' => ∃ v2_ : Value, e = .returned (.tuple #[.agg #[.int .i64 r1, .int .i64 r2, v2_], .bool r4]) ∧ Kd.R k60 60 w' w.heap.size (fun _ => True) v2_ r3 ∧ Below w.heap.size w w' := by
 have hu25 := Tryz.underlying25
 have hu60 := Tryz.underlying60
 have HB := Qa (Below.refl w.heap.size w)
 have HT := Qa hT
 clear hT
 have H : ((strings_CutSuffix.f a0 (⟨#[10,101,110,100,10]⟩ : Zb)).bind fun bt154 => (if bt154.2 = true then ((strings_Split.f bt154.1 (⟨#[10]⟩ : Zb)).bind fun t156 => (if 0 < (t156.length : Int) then ((strings_Split.f (rdOf ByteArray.empty t156 0) (⟨#[32]⟩ : Zb)).bind fun t160 => (if (t160.length : Int) = 4 then (if 0 < (t160.length : Int) then (if (rdOf ByteArray.empty t160 0).toList = ([114,101,116,117,114,110] : List UInt8) then (if 2 < (t160.length : Int) then (filing_read.j0 k t156 t160 ((rdOf ByteArray.empty t160 2).toList != ([118,101,114,115,105,111,110] : List UInt8)) 0 0) else (none)) else (filing_read.j0 k t156 t160 true 0 0)) else (none)) else (filing_read.j0 k t156 t160 true 0 0))) else (none))) else (some (0,0, ([] : List (S60)), false)))) = some (r1, r2, r3, r4) := h
 clear h
 replace H := Xx.mp H
 obtain ⟨⟨t154, t155⟩, A20, H⟩ := H
 replace H : (if t155 = true then ((strings_Split.f t154 (⟨#[10]⟩ : Zb)).bind fun t156 => (if 0 < (t156.length : Int) then ((strings_Split.f (rdOf ByteArray.empty t156 0) (⟨#[32]⟩ : Zb)).bind fun t160 => (if (t160.length : Int) = 4 then (if 0 < (t160.length : Int) then (if (rdOf ByteArray.empty t160 0).toList = ([114,101,116,117,114,110] : List UInt8) then (if 2 < (t160.length : Int) then (filing_read.j0 k t156 t160 ((rdOf ByteArray.empty t160 2).toList != ([118,101,114,115,105,111,110] : List UInt8)) 0 0) else (none)) else (filing_read.j0 k t156 t160 true 0 0)) else (none)) else (filing_read.j0 k t156 t160 true 0 0))) else (none))) else (some (0,0, ([] : List (S60)), false))) = some (r1, r2, r3, r4) := H
 have A2 := Qa A20
 clear A20
 by_cases c3 : t155 = true
 · subst c3
   have H1 : ((strings_Split.f t154 (⟨#[10]⟩ : Zb)).bind fun t156 => (if 0 < (t156.length : Int) then ((strings_Split.f (rdOf ByteArray.empty t156 0) (⟨#[32]⟩ : Zb)).bind fun t160 => (if (t160.length : Int) = 4 then (if 0 < (t160.length : Int) then (if (rdOf ByteArray.empty t160 0).toList = ([114,101,116,117,114,110] : List UInt8) then (if 2 < (t160.length : Int) then (filing_read.j0 k t156 t160 ((rdOf ByteArray.empty t160 2).toList != ([118,101,114,115,105,111,110] : List UInt8)) 0 0) else (none)) else (filing_read.j0 k t156 t160 true 0 0)) else (none)) else (filing_read.j0 k t156 t160 true 0 0))) else (none))) = some (r1, r2, r3, r4) := by rw [if_pos rfl] at H; exact H
   clear H
   have H := H1
   clear H1
   replace H := Xx.mp H
   obtain ⟨t156, A40, H⟩ := H
   replace H : (if 0 < (t156.length : Int) then ((strings_Split.f (rdOf ByteArray.empty t156 0) (⟨#[32]⟩ : Zb)).bind fun t160 => (if (t160.length : Int) = 4 then (if 0 < (t160.length : Int) then (if (rdOf ByteArray.empty t160 0).toList = ([114,101,116,117,114,110] : List UInt8) then (if 2 < (t160.length : Int) then (filing_read.j0 k t156 t160 ((rdOf ByteArray.empty t160 2).toList != ([118,101,114,115,105,111,110] : List UInt8)) 0 0) else (none)) else (filing_read.j0 k t156 t160 true 0 0)) else (none)) else (filing_read.j0 k t156 t160 true 0 0))) else (none)) = some (r1, r2, r3, r4) := H
   have A4 := Qa A40
   clear A40
   by_cases c5 : 0 < (t156.length : Int)
   · rw [if_pos c5] at H
     have c5b0 : decide (0 < (t156.length : Int)) = true := Xq c5
     have c5b1 : decide (0 < t156.length) = true := Xq (by omega)
     clear c5
     replace H := Xx.mp H
     obtain ⟨t160, A60, H⟩ := H
     replace H : (if (t160.length : Int) = 4 then (if 0 < (t160.length : Int) then (if (rdOf ByteArray.empty t160 0).toList = ([114,101,116,117,114,110] : List UInt8) then (if 2 < (t160.length : Int) then (filing_read.j0 k t156 t160 ((rdOf ByteArray.empty t160 2).toList != ([118,101,114,115,105,111,110] : List UInt8)) 0 0) else (none)) else (filing_read.j0 k t156 t160 true 0 0)) else (none)) else (filing_read.j0 k t156 t160 true 0 0)) = some (r1, r2, r3, r4) := H
     have A6 := Qa A60
     clear A60
     have HC7 := Qa H
     clear H
     go_enter Tryz.func46, Tryz.ntmps46
     go_upto_region 7 with (first | ((with_reducible refine Qx (N := 2) rfl ?_); refine Qv ?hg (N := 2) ?hd (cs := #[.int .i64 0, .int .i64 0, .slice none 0 0]) (t := 25) ?hr ?_; (case hd => rfl); (case hg => rfl); (case hr => first | (go_simp; done) | (go_simp; rfl)); intro gb152 hg w8 hbox hb; have n0_ := Qa (Qh (bl HB.out) hb); have n1_ := Qa (hbox); have n2_ := Qa ((by rw [hg]; exact (Qi (bl HB.out)) : w.heap.size ≤ gb152)); have n3_ := Qa ((by rw [hg]; exact (Qi (bl HB.out)) : w.heap.size ≤ gb152)); clear HB; have HB := n0_; have BK152 := n1_; have GW152 := n2_; have GE152 := n3_; clear n0_ n1_ n2_ n3_; clear hb hbox hg) | ((with_reducible refine Qx (N := 4) rfl ?_); refine Qv ?hg (N := 4) ?hd (cs := #[.int .i64 0, .int .i64 0, .slice none 0 0]) (t := 25) ?hr ?_; (case hd => rfl); (case hg => rfl); (case hr => first | (go_simp; done) | (go_simp; rfl)); intro gb153 hg w9 hbox hb; have n0_ := Qa (Qb (nc BK152.out) hb); have n1_ := Qa (Qh (bl HB.out) hb); have n2_ := Qa (hbox); have n3_ := Qa ((by rw [hg]; exact (Qi (bl HB.out)) : w.heap.size ≤ gb153)); have n4_ := Qa ((by rw [hg]; exact (Qi (bl HB.out)) : w.heap.size ≤ gb153)); have n5_ := Qa ((by rw [hg]; exact Nat.ne_of_lt (blk_lt (nc BK152.out)) : gb152 ≠ gb153)); have n6_ := Qa ((by rw [hg]; exact Nat.ne_of_gt (blk_lt (nc BK152.out)) : gb153 ≠ gb152)); clear BK152 HB; have BK152 := n0_; have HB := n1_; have BK153 := n2_; have GW153 := n3_; have GE153 := n4_; have NB152_153 := n5_; have NB153_152 := n6_; clear n0_ n1_ n2_ n3_ n4_ n5_ n6_; clear hb hbox hg) | ((with_reducible refine Qw (f := 70) rfl ?_); refine gc (some 16) Tryz.func70 #[.string a0, .string (⟨#[10,101,110,100,10]⟩ : Zb)] ?_; (with_reducible refine (strings_CutSuffix.calls a0 (⟨#[10,101,110,100,10]⟩ : Zb) t154 true _ A2.out).mono ?_); rintro e w' ⟨rfl, ⟨nd, rfl⟩⟩; refine ⟨_, rfl, ?_⟩) | ((with_reducible refine Qw (f := 71) rfl ?_); refine gc (some 23) Tryz.func71 #[.string t154, .string (⟨#[10]⟩ : Zb)] ?_; (with_reducible refine (strings_Split.calls t154 (⟨#[10]⟩ : Zb) t156 _ ?side1 A4.out).mono ?_); (case side1 => exact Tabs.below HT.out (bl HB.out)); rintro e w10 ⟨v157, rfl, ho0, hb⟩; refine ⟨_, rfl, ?_⟩; have n0_ := Qa (Kd.R_lower ho0 (Qi (bl HB.out))); have n1_ := Qa (Qb (nc BK152.out) hb); have n2_ := Qa (Qb (nc BK153.out) hb); have n3_ := Qa (Qh (bl HB.out) hb); clear BK152 BK153 HB; have HO158 := n0_; have BK152 := n1_; have BK153 := n2_; have HB := n3_; clear n0_ n1_ n2_ n3_; (try clear hb); (try clear ho0); obtain ⟨Ao11, co11, eo11⟩ := Xk HO158.out; subst eo11; have p159 : 0 ≤ (0 : Int) := (by omega); have q159 : 0 < (t156.length : Int) := Xp (by assumption); obtain ⟨ad159, e159, hx159_0⟩ := Kd.at_string (Xb HO158.out).2.2 0 p159 q159; cases e159; have qi159 : (0 < t156.length) = True := eq_true (by omega); (try rw [show ((0 : Int)).toNat = 0 from rfl] at hx159_0); (try rw [Addr.add_zero'] at hx159_0); replace p159 := eq_true p159; replace q159 := eq_true q159) | ((with_reducible refine Qw (f := 71) rfl ?_); refine gc (some 27) Tryz.func71 #[.string (rdOf ByteArray.empty t156 0), .string (⟨#[32]⟩ : Zb)] ?_; (with_reducible refine (strings_Split.calls (rdOf ByteArray.empty t156 0) (⟨#[32]⟩ : Zb) t160 _ ?side1 A6.out).mono ?_); (case side1 => exact Tabs.below HT.out (bl HB.out)); rintro e w12 ⟨v161, rfl, ho0, hb⟩; refine ⟨_, rfl, ?_⟩; have n0_ := Qa (Kd.R_elder' (kr HO158.out) (Kd.R_base ho0) hb); have n1_ := Qa (Kd.R_lower (Kd.R_new' ho0 (Kd.R_lt (kr HO158.out))) (Qi (bl HB.out))); have n2_ := Qa (Qb (nc BK152.out) hb); have n3_ := Qa (Qb (nc BK153.out) hb); have n4_ := Qa (Qh (bl HB.out) hb); clear HO158 BK152; clear BK153 HB; have HO158 := n0_; have HO162 := n1_; have BK152 := n2_; have BK153 := n3_; have HB := n4_; clear n0_ n1_ n2_ n3_ n4_; (try clear hb); (try clear ho0)))
     (try simp only [Act.put, Xt, Xu, Xv])
     go_cut [42] (fun v42 wc => ∃ (kq : Nat) (x42_6 : Bool), v42 = .bool x42_6 ∧ Aside0 (filing_read.j0 kq t156 t160 x42_6 0 0 = some (r1, r2, r3, r4)) ∧ Aside0 (kq ≤ k) ∧ Aside0 (Kd.R Kd.string 9 wc w.heap.size (fun k_ => some k_ ≠ (v161 : Value).ownBlock) (.slice (some ad159) t156.length co11) t156) ∧ Aside0 (Kd.R Kd.string 9 wc w.heap.size (fun k_ => some k_ ≠ ((.slice (some ad159) t156.length co11) : Value).ownBlock) v161 t160) ∧ Aside0 (wc.heap[gb152]? = some (.cells #[.int .i64 0, .int .i64 0, (.slice none 0 0)] 25 (0,0))) ∧ Aside0 (wc.heap[gb153]? = some (.cells #[.int .i64 0, .int .i64 0, (.slice none 0 0)] 25 (0,0))) ∧ Aside0 (Below w.heap.size w wc))
     case first =>
      have H := HC7.out
      clear HC7
      by_cases c13 : (t160.length : Int) = 4
      · rw [if_pos c13] at H
        have c13b0 : ((t160.length : Int) == 4) = true := Yb.mpr c13
        have c13b1 : ((t160.length : Int) != 4) = false := bne_eq_false_iff_eq.mpr c13
        clear c13
        (first | rw [c13b0] | (simp only [i64_w, i32_w]; rw [c13b0]) | skip)
        by_cases c14 : 0 < (t160.length : Int)
        · rw [if_pos c14] at H
          have c14b0 : decide (0 < (t160.length : Int)) = true := Xq c14
          have c14b1 : decide (0 < t160.length) = true := Xq (by omega)
          clear c14
          by_cases c15 : (rdOf ByteArray.empty t160 0).toList = ([114,101,116,117,114,110] : List UInt8)
          · rw [if_pos c15] at H
            have c15b0 : ((rdOf ByteArray.empty t160 0).toList == ([114,101,116,117,114,110] : List UInt8)) = true := Yb.mpr c15
            have c15b1 : ((rdOf ByteArray.empty t160 0).toList != ([114,101,116,117,114,110] : List UInt8)) = false := bne_eq_false_iff_eq.mpr c15
            clear c15
            by_cases c16 : 2 < (t160.length : Int)
            · rw [if_pos c16] at H
              have c16b0 : decide (2 < (t160.length : Int)) = true := Xq c16
              have c16b1 : decide (2 < t160.length) = true := Xq (by omega)
              clear c16
              have H' := Qa H
              clear H
              obtain ⟨Ao17, co17, eo17⟩ := Xk HO162.out
              subst eo17
              have p163 : 0 ≤ (0 : Int) := (by omega)
              have q163 : 0 < (t160.length : Int) := Xp (by assumption)
              obtain ⟨ad163, e163, hx163_0⟩ := Kd.at_string (Xb HO162.out).2.2 0 p163 q163
              cases e163
              have qi163 : (0 < t160.length) = True := eq_true (by omega)
              (try rw [show ((0 : Int)).toNat = 0 from rfl] at hx163_0)
              (try rw [Addr.add_zero'] at hx163_0)
              replace p163 := eq_true p163
              replace q163 := eq_true q163
              have p164 : 0 ≤ (2 : Int) := (by omega)
              have q164 : 2 < (t160.length : Int) := Xp (by assumption)
              obtain ⟨ad164, e164, hx164_0⟩ := Kd.at_string (Xb HO162.out).2.2 2 p164 q164
              obtain rfl : ad163 = ad164 := (by injection e164)
              (try simp only [show (2 : Int).toNat = 2 from rfl, Nat.reduceMul, Nat.reduceEqDiff, Go.Addr.add, ↓reduceIte] at hx164_0)
              have qi164 : (2 < t160.length) = True := eq_true (by omega)
              (try rw [show ((2 : Int)).toNat = 2 from rfl] at hx164_0)
              replace p164 := eq_true p164
              replace q164 := eq_true q164
              go_wp2
              go_meet
              case rel => exact ⟨_, (((rdOf ByteArray.empty t160 2).toList != ([118,101,114,115,105,111,110] : List UInt8))), (by first | rfl | (simp; done) | (simp [*]; done)), H', ⟨by first | omega | exact Nat.le_refl _⟩, ⟨by (with_reducible repeat (first | apply Xc | apply Xd | apply Xe)); exact Xf HO158.out (fun _ hk => hk.2)⟩, ⟨by (with_reducible repeat (first | apply Xc | apply Xd | apply Xe)); exact Xf HO162.out (fun _ hk => hk.2)⟩, ⟨nc BK152.out⟩, ⟨nc BK153.out⟩, ⟨bl HB.out⟩⟩
            rw [if_neg c16] at H
            exact absurd H (by simp)
          rw [if_neg c15] at H
          have c15b0 : ((rdOf ByteArray.empty t160 0).toList == ([114,101,116,117,114,110] : List UInt8)) = false := Ya.mpr c15
          have c15b1 : ((rdOf ByteArray.empty t160 0).toList != ([114,101,116,117,114,110] : List UInt8)) = true := Yc.mpr c15
          have H' := Qa H
          clear H
          obtain ⟨Ao18, co18, eo18⟩ := Xk HO162.out
          subst eo18
          have p163 : 0 ≤ (0 : Int) := (by omega)
          have q163 : 0 < (t160.length : Int) := Xp (by assumption)
          obtain ⟨ad163, e163, hx163_0⟩ := Kd.at_string (Xb HO162.out).2.2 0 p163 q163
          cases e163
          have qi163 : (0 < t160.length) = True := eq_true (by omega)
          (try rw [show ((0 : Int)).toNat = 0 from rfl] at hx163_0)
          (try rw [Addr.add_zero'] at hx163_0)
          replace p163 := eq_true p163
          replace q163 := eq_true q163
          go_wp2
          go_meet
          case rel => exact ⟨_, (true), (by first | rfl | (simp; done) | (simp [*]; done)), H', ⟨by first | omega | exact Nat.le_refl _⟩, ⟨by (with_reducible repeat (first | apply Xc | apply Xd | apply Xe)); exact Xf HO158.out (fun _ hk => hk.2)⟩, ⟨by (with_reducible repeat (first | apply Xc | apply Xd | apply Xe)); exact Xf HO162.out (fun _ hk => hk.2)⟩, ⟨nc BK152.out⟩, ⟨nc BK153.out⟩, ⟨bl HB.out⟩⟩
        rw [if_neg c14] at H
        exact absurd H (by simp)
      rw [if_neg c13] at H
      have c13b0 : ((t160.length : Int) == 4) = false := Ya.mpr c13
      have c13b1 : ((t160.length : Int) != 4) = true := Yc.mpr c13
      (first | rw [c13b0] | (simp only [i64_w, i32_w]; rw [c13b0]) | skip)
      have H' := Qa H
      clear H
      obtain ⟨Ao19, co19, eo19⟩ := Xk HO162.out
      subst eo19
      go_wp2
      go_meet
      case rel => exact ⟨_, (true), (by first | rfl | (simp; done) | (simp [*]; done)), H', ⟨by first | omega | exact Nat.le_refl _⟩, ⟨by (with_reducible repeat (first | apply Xc | apply Xd | apply Xe)); exact Xf HO158.out (fun _ hk => hk.2)⟩, ⟨by (with_reducible repeat (first | apply Xc | apply Xd | apply Xe)); exact Xf HO162.out (fun _ hk => hk.2)⟩, ⟨nc BK152.out⟩, ⟨nc BK153.out⟩, ⟨bl HB.out⟩⟩
     case rest =>
      clear HC7
      try clear c1
      try clear p1
      try clear q1
      try clear hx1
      try clear qi1
      try clear p2
      try clear c3
      try clear c4
      try clear c5
      try clear c5b0
      try clear c5b1
      try clear c7
      try clear c13
      try clear c13b0
      try clear c13b1
      try clear c14
      try clear c14b0
      try clear c14b1
      try clear c15
      try clear c15b0
      try clear c15b1
      try clear p15
      try clear q15
      try clear hx15
      try clear qi15
      try clear c16
      try clear c16b0
      try clear c16b1
      try clear p16
      try clear q16
      try clear hx16
      try clear qi16
      try clear hx159_0
      try clear hx163_0
      try clear hx164_0
      try clear p159
      try clear p163
      try clear p164
      try clear q159
      try clear q163
      try clear q164
      obtain ⟨kq, x42_6, rfl, HA, HJ6, HO_7, HO_8, BK152, BK153, HB⟩ := hcut
      cases kq with
      | zero => exact absurd HA.out (by simp [filing_read.j0])
      | succ kj6 =>
       have H := HA.out
       clear HA
       simp only [filing_read.j0] at H
       by_cases c20 : x42_6 = true
       · subst c20
         have H1 : (some (0,0, ([] : List (S60)), false)) = some (r1, r2, r3, r4) := by rw [if_pos rfl] at H; exact H
         clear H
         have H := H1
         clear H1
         simp only [Option.some.injEq, Prod.mk.injEq] at H
         obtain ⟨rfl, rfl, rfl, rfl⟩ := H
         have hnb21 := NB153_152.out
         have hnc21 := NB152_153.out
         have hcz22_0 := hz BK153.out 0
         have hcz22_1 := hz BK153.out 1
         have hcz22_2 := hz BK153.out 2
         have hfz22_0 := Qm BK153.out 0
         have hfz22_1 := Qm BK153.out 1
         have hfz22_2 := Qm BK153.out 2
         have hcz23_0 := hz BK152.out 0
         have hcz23_1 := hz BK152.out 1
         have hcz23_2 := hz BK152.out 2
         have hfz23_0 := Qm BK152.out 0
         have hfz23_1 := Qm BK152.out 1
         have hfz23_2 := Qm BK152.out 2
         go_wp2
         refine Qz (Xa rfl _ _ gb152 25 #[.int .i64 0, .int .i64 0, .slice none 0 0] (0,0) _ rfl (by (with_reducible repeat (first | refine Qj ?_ _ | refine Qk ?_ | refine Ql ?_ _)); refine Qo (cs := #[.int .i64 0, .int .i64 0, .slice none 0 0]) ?_ 2 _ rfl; (with_reducible repeat (first | refine Qj ?_ _ | refine Qk ?_ | refine Ql ?_ _)); refine Qo (cs := #[.int .i64 0, .int .i64 0, .slice none 0 0]) ?_ 1 _ rfl; (with_reducible repeat (first | refine Qj ?_ _ | refine Qk ?_ | refine Ql ?_ _)); refine Qo (cs := #[.int .i64 0, .int .i64 0, .slice none 0 0]) ?_ 0 _ rfl; (with_reducible repeat (first | refine Qj ?_ _ | refine Qk ?_ | refine Ql ?_ _)); exact BK152.out) Tryz.underlying25 rfl (by kernel_rfl)) rfl ?_
         exact ⟨_, by first | rfl | (simp [errW_none, errW_some] <;> rfl) | (simp [*, errW_none, errW_some] <;> rfl), by first | exact Kd.R_nil _ _ _ _ _ | exact Kd.N_nil _ _ _ _ _ | exact Kd.V_nil _ _ _ _ _ | exact Kd.Q_nil _ _ _ _ _ | exact Kd.S_nil _ _ _ _ _, bl HB.out⟩
       replace c20 := Bool.eq_false_iff.mpr c20
       subst c20
       have H1 : (if 1 < (t160.length : Int) then ((filing_number.f (rdOf ByteArray.empty t160 1)).bind fun bt166 => (if 3 < (t160.length : Int) then ((filing_number.f (rdOf ByteArray.empty t160 3)).bind fun bt169 => (if bt166.2 = true then (filing_read.j1 kj6 t156 (!bt169.2) bt166.1 bt169.1) else (filing_read.j1 kj6 t156 true bt166.1 bt169.1))) else (none))) else (none)) = some (r1, r2, r3, r4) := by rw [if_neg (show ¬ (false = true) by decide)] at H; exact H
       clear H
       have H := H1
       clear H1
       by_cases c24 : 1 < (t160.length : Int)
       · rw [if_pos c24] at H
         have c24b0 : decide (1 < (t160.length : Int)) = true := Xq c24
         have c24b1 : decide (1 < t160.length) = true := Xq (by omega)
         clear c24
         replace H := Xx.mp H
         obtain ⟨⟨t166, t167⟩, A250, H⟩ := H
         replace H : (if 3 < (t160.length : Int) then ((filing_number.f (rdOf ByteArray.empty t160 3)).bind fun bt169 => (if t167 = true then (filing_read.j1 kj6 t156 (!bt169.2) t166 bt169.1) else (filing_read.j1 kj6 t156 true t166 bt169.1))) else (none)) = some (r1, r2, r3, r4) := H
         have A25 := Qa A250
         clear A250
         by_cases c26 : 3 < (t160.length : Int)
         · rw [if_pos c26] at H
           have c26b0 : decide (3 < (t160.length : Int)) = true := Xq c26
           have c26b1 : decide (3 < t160.length) = true := Xq (by omega)
           clear c26
           replace H := Xx.mp H
           obtain ⟨⟨t169, t170⟩, A270, H⟩ := H
           replace H : (if t167 = true then (filing_read.j1 kj6 t156 (!t170) t166 t169) else (filing_read.j1 kj6 t156 true t166 t169)) = some (r1, r2, r3, r4) := H
           have A27 := Qa A270
           clear A270
           have HC28 := Qa H
           clear H
           obtain ⟨Ao29, co29, eo29⟩ := Xk HO_8.out
           subst eo29
           have p165 : 0 ≤ (1 : Int) := (by omega)
           have q165 : 1 < (t160.length : Int) := Xp (by assumption)
           obtain ⟨ad165, e165, hx165_0⟩ := Kd.at_string (Xb HO_8.out).2.2 1 p165 q165
           cases e165
           (try simp only [show (1 : Int).toNat = 1 from rfl, Nat.reduceMul, Nat.reduceEqDiff, Go.Addr.add, ↓reduceIte] at hx165_0)
           have qi165 : (1 < t160.length) = True := eq_true (by omega)
           (try rw [show ((1 : Int)).toNat = 1 from rfl] at hx165_0)
           replace p165 := eq_true p165
           replace q165 := eq_true q165
           go_upto_region 12 with (first | ((with_reducible refine Qw (f := 72) rfl ?_); refine gc (some 48) Tryz.func72 #[.string (rdOf ByteArray.empty t160 1)] ?_; (with_reducible refine (filing_number.calls (rdOf ByteArray.empty t160 1) t166 t167 _ ?side1 A25.out).mono ?_); (case side1 => exact Tabs.below HT.out (bl HB.out)); rintro e w30 ⟨rfl, hb⟩; refine ⟨_, rfl, ?_⟩; have n0_ := Qa (Xh (kr HO_7.out) hb); have n1_ := Qa (Xh (kr HO_8.out) hb); have n2_ := Qa (Qb (nc BK152.out) hb); have n3_ := Qa (Qb (nc BK153.out) hb); have n4_ := Qa (Qh (bl HB.out) hb); clear HO_7 HO_8; clear BK152 BK153 HB; have HO_7 := n0_; have HO_8 := n1_; have BK152 := n2_; have BK153 := n3_; have HB := n4_; clear n0_ n1_ n2_ n3_ n4_; (try clear hb); have hnb31 := NB153_152.out; have hnc31 := NB152_153.out; have hcz32_0 := hz BK153.out 0; have hcz32_1 := hz BK153.out 1; have hcz32_2 := hz BK153.out 2; have hfz32_0 := Qm BK153.out 0; have hfz32_1 := Qm BK153.out 1; have hfz32_2 := Qm BK153.out 2; have p168 : 0 ≤ (3 : Int) := (by omega); have q168 : 3 < (t160.length : Int) := Xp (by assumption); obtain ⟨ad168, e168, hx168_0⟩ := Kd.at_string (Xb HO_8.out).2.2 3 p168 q168; obtain rfl : ad165 = ad168 := (by injection e168); (try simp only [show (3 : Int).toNat = 3 from rfl, Nat.reduceMul, Nat.reduceEqDiff, Go.Addr.add, ↓reduceIte] at hx168_0); have qi168 : (3 < t160.length) = True := eq_true (by omega); (try rw [show ((3 : Int)).toNat = 3 from rfl] at hx168_0); have hn168_0 : ad165.block ≠ gb153 := Kd.own_blk (Kd.R_ne HO_8.out BK153.out (by decide)); replace hx168_0 := (cell_far (p := ⟨gb153,0, none⟩) (by first | (rw [add_block]; exact hn168_0) | (show (Addr.add _ _).block ≠ _; rw [add_block]; exact hn168_0) | exact hn168_0) (.int .i64 t166)).trans hx168_0; clear hn168_0; replace p168 := eq_true p168; replace q168 := eq_true q168) | ((with_reducible refine Qw (f := 72) rfl ?_); refine gc (some 56) Tryz.func72 #[.string (rdOf ByteArray.empty t160 3)] ?_; (with_reducible refine (filing_number.calls (rdOf ByteArray.empty t160 3) t169 t170 _ ?side1 A27.out).mono ?_); (case side1 => exact Tabs.below HT.out (bl HB.out)); rintro e w33 ⟨rfl, hb⟩; refine ⟨_, rfl, ?_⟩; have n0_ := Qa (Xh (by (with_reducible repeat (first | apply Xc | apply Xd | apply Xe)); exact (Xf (Xg (p := ⟨gb153,0, none⟩) (Kd.R_types HO_7.out BK153.out (by decide)) (fun _ hk => hk.2) (.int .i64 t166)) (fun _ h_ => h_.1))) hb); have n1_ := Qa (Xh (by (with_reducible repeat (first | apply Xc | apply Xd | apply Xe)); exact (Xf (Xg (p := ⟨gb153,0, none⟩) (Kd.R_types HO_8.out BK153.out (by decide)) (fun _ hk => hk.2) (.int .i64 t166)) (fun _ h_ => h_.1))) hb); have n2_ := Qa (Qb (g := gb152) (o := .cells #[.int .i64 0, .int .i64 0, .slice none 0 0] 25 (0,0)) (by (with_reducible repeat (first | refine Qj ?_ _ | refine Qk ?_ | refine Ql ?_ _)); refine Qc ?_ NB152_153.out _; (with_reducible repeat (first | refine Qj ?_ _ | refine Qk ?_ | refine Ql ?_ _)); exact BK152.out) hb); have n3_ := Qa (Qb (g := gb153) (o := .cells #[.int .i64 t166, .int .i64 0, .slice none 0 0] 25 (0,0)) (by (with_reducible repeat (first | refine Qj ?_ _ | refine Qk ?_ | refine Ql ?_ _)); refine Qo (cs := #[.int .i64 0, .int .i64 0, .slice none 0 0]) ?_ 0 _ rfl; (with_reducible repeat (first | refine Qj ?_ _ | refine Qk ?_ | refine Ql ?_ _)); exact BK153.out) hb); have n4_ := Qa (Qh (bl HB.out) hb); clear HO_7 HO_8; clear BK152 BK153 HB; have HO_7 := n0_; have HO_8 := n1_; have BK152 := n2_; have BK153 := n3_; have HB := n4_; clear n0_ n1_ n2_ n3_ n4_; (try clear hb); have hcz34_0 := hz BK153.out 0; have hcz34_1 := hz BK153.out 1; have hcz34_2 := hz BK153.out 2; have hfz34_0 := Qm BK153.out 0; have hfz34_1 := Qm BK153.out 1; have hfz34_2 := Qm BK153.out 2))
           (try simp only [Act.put, Xt, Xu, Xv])
           go_cut [65] (fun v65 wc => ∃ (kq : Nat) (x65_27 : Bool), v65 = .bool x65_27 ∧ Aside0 (filing_read.j1 kq t156 x65_27 t166 t169 = some (r1, r2, r3, r4)) ∧ Aside0 (kq ≤ kj6) ∧ Aside0 (Kd.R Kd.string 9 wc w.heap.size (fun _ => True) (.slice (some ad159) t156.length co11) t156) ∧ Aside0 (wc.heap[gb152]? = some (.cells #[.int .i64 0, .int .i64 0, (.slice none 0 0)] 25 (0,0))) ∧ Aside0 (wc.heap[gb153]? = some (.cells #[.int .i64 t166, .int .i64 t169, (.slice none 0 0)] 25 (0,0))) ∧ Aside0 (Below w.heap.size w wc))
           case first =>
            have H := HC28.out
            clear HC28
            by_cases c35 : t167 = true
            · subst c35
              have H1 : (filing_read.j1 kj6 t156 (!t170) t166 t169) = some (r1, r2, r3, r4) := by rw [if_pos rfl] at H; exact H
              clear H
              have H := H1
              clear H1
              have H' := Qa H
              clear H
              go_wp2
              go_meet
              case rel => exact ⟨_, (!t170), (by first | rfl | (simp; done) | (simp [*]; done)), H', ⟨by have := HJ6.out; first | omega | exact Nat.le_refl _⟩, ⟨by (with_reducible repeat (first | apply Xc | apply Xd | apply Xe)); exact Xf (Xg (p := ⟨gb153,1, none⟩) (Kd.R_types HO_7.out BK153.out (by decide)) (fun _ hk => hk.2) (.int .i64 t169)) (fun _ hk => trivial)⟩, ⟨by (with_reducible repeat (first | refine Qj ?_ _ | refine Qk ?_ | refine Ql ?_ _)); refine Qc ?_ NB152_153.out _; (with_reducible repeat (first | refine Qj ?_ _ | refine Qk ?_ | refine Ql ?_ _)); exact BK152.out⟩, ⟨by (with_reducible repeat (first | refine Qj ?_ _ | refine Qk ?_ | refine Ql ?_ _)); refine Qo (cs := #[.int .i64 t166, .int .i64 0, .slice none 0 0]) ?_ 1 _ rfl; (with_reducible repeat (first | refine Qj ?_ _ | refine Qk ?_ | refine Ql ?_ _)); exact BK153.out⟩, ⟨bl HB.out⟩⟩
            replace c35 := Bool.eq_false_iff.mpr c35
            subst c35
            have H1 : (filing_read.j1 kj6 t156 true t166 t169) = some (r1, r2, r3, r4) := by rw [if_neg (show ¬ (false = true) by decide)] at H; exact H
            clear H
            have H := H1
            clear H1
            have H' := Qa H
            clear H
            go_wp2
            go_meet
            case rel => exact ⟨_, (true), (by first | rfl | (simp; done) | (simp [*]; done)), H', ⟨by have := HJ6.out; first | omega | exact Nat.le_refl _⟩, ⟨by (with_reducible repeat (first | apply Xc | apply Xd | apply Xe)); exact Xf (Xg (p := ⟨gb153,1, none⟩) (Kd.R_types HO_7.out BK153.out (by decide)) (fun _ hk => hk.2) (.int .i64 t169)) (fun _ hk => trivial)⟩, ⟨by (with_reducible repeat (first | refine Qj ?_ _ | refine Qk ?_ | refine Ql ?_ _)); refine Qc ?_ NB152_153.out _; (with_reducible repeat (first | refine Qj ?_ _ | refine Qk ?_ | refine Ql ?_ _)); exact BK152.out⟩, ⟨by (with_reducible repeat (first | refine Qj ?_ _ | refine Qk ?_ | refine Ql ?_ _)); refine Qo (cs := #[.int .i64 t166, .int .i64 0, .slice none 0 0]) ?_ 1 _ rfl; (with_reducible repeat (first | refine Qj ?_ _ | refine Qk ?_ | refine Ql ?_ _)); exact BK153.out⟩, ⟨bl HB.out⟩⟩
           case rest =>
            clear HC28
            try clear c1
            try clear p1
            try clear q1
            try clear hx1
            try clear qi1
            try clear c2
            try clear p2
            try clear c3
            try clear c4
            try clear c5
            try clear c5b0
            try clear c5b1
            try clear c7
            try clear c13
            try clear c13b0
            try clear c13b1
            try clear c14
            try clear c14b0
            try clear c14b1
            try clear c15
            try clear c15b0
            try clear c15b1
            try clear p15
            try clear q15
            try clear hx15
            try clear qi15
            try clear c16
            try clear c16b0
            try clear c16b1
            try clear p16
            try clear q16
            try clear hx16
            try clear qi16
            try clear c20
            try clear c21
            try clear c24
            try clear c24b0
            try clear c24b1
            try clear c26
            try clear c26b0
            try clear c26b1
            try clear c31
            try clear c35
            try clear hcz22_0
            try clear hcz22_1
            try clear hcz22_2
            try clear hcz23_0
            try clear hcz23_1
            try clear hcz23_2
            try clear hcz32_0
            try clear hcz32_1
            try clear hcz32_2
            try clear hcz34_0
            try clear hcz34_1
            try clear hcz34_2
            try clear hfz22_0
            try clear hfz22_1
            try clear hfz22_2
            try clear hfz23_0
            try clear hfz23_1
            try clear hfz23_2
            try clear hfz32_0
            try clear hfz32_1
            try clear hfz32_2
            try clear hfz34_0
            try clear hfz34_1
            try clear hfz34_2
            try clear hx159_0
            try clear hx163_0
            try clear hx164_0
            try clear hx165_0
            try clear hx168_0
            try clear p1
            try clear p15
            try clear p159
            try clear p16
            try clear p163
            try clear p164
            try clear p165
            try clear p168
            try clear p2
            try clear q1
            try clear q15
            try clear q159
            try clear q16
            try clear q163
            try clear q164
            try clear q165
            try clear q168
            obtain ⟨kq, x65_27, rfl, HA, HJ27, HO_7, BK152, BK153, HB⟩ := hcut
            cases kq with
            | zero => exact absurd HA.out (by simp [filing_read.j1])
            | succ kj27 =>
             have H := HA.out
             clear HA
             simp only [filing_read.j1] at H
             by_cases c36 : x65_27 = true
             · subst c36
               have H1 : (some (t166, t169, ([] : List (S60)), false)) = some (r1, r2, r3, r4) := by rw [if_pos rfl] at H; exact H
               clear H
               have H := H1
               clear H1
               simp only [Option.some.injEq, Prod.mk.injEq] at H
               obtain ⟨rfl, rfl, rfl, rfl⟩ := H
               have hnb37 := NB153_152.out
               have hnc37 := NB152_153.out
               have hcz38_0 := hz BK153.out 0
               have hcz38_1 := hz BK153.out 1
               have hcz38_2 := hz BK153.out 2
               have hfz38_0 := Qm BK153.out 0
               have hfz38_1 := Qm BK153.out 1
               have hfz38_2 := Qm BK153.out 2
               have hcz39_0 := hz BK152.out 0
               have hcz39_1 := hz BK152.out 1
               have hcz39_2 := hz BK152.out 2
               have hfz39_0 := Qm BK152.out 0
               have hfz39_1 := Qm BK152.out 1
               have hfz39_2 := Qm BK152.out 2
               go_wp2
               refine Qz (Xa rfl _ _ gb152 25 #[.int .i64 t166, .int .i64 t169, .slice none 0 0] (0,0) _ rfl (by (with_reducible repeat (first | refine Qj ?_ _ | refine Qk ?_ | refine Ql ?_ _)); refine Qo (cs := #[.int .i64 t166, .int .i64 t169, .slice none 0 0]) ?_ 2 _ rfl; (with_reducible repeat (first | refine Qj ?_ _ | refine Qk ?_ | refine Ql ?_ _)); refine Qo (cs := #[.int .i64 t166, .int .i64 0, .slice none 0 0]) ?_ 1 _ rfl; (with_reducible repeat (first | refine Qj ?_ _ | refine Qk ?_ | refine Ql ?_ _)); refine Qo (cs := #[.int .i64 0, .int .i64 0, .slice none 0 0]) ?_ 0 _ rfl; (with_reducible repeat (first | refine Qj ?_ _ | refine Qk ?_ | refine Ql ?_ _)); exact BK152.out) Tryz.underlying25 rfl (by kernel_rfl)) rfl ?_
               exact ⟨_, by first | rfl | (simp [errW_none, errW_some] <;> rfl) | (simp [*, errW_none, errW_some] <;> rfl), by first | exact Kd.R_nil _ _ _ _ _ | exact Kd.N_nil _ _ _ _ _ | exact Kd.V_nil _ _ _ _ _ | exact Kd.Q_nil _ _ _ _ _ | exact Kd.S_nil _ _ _ _ _, bl HB.out⟩
             replace c36 := Bool.eq_false_iff.mpr c36
             subst c36
             have H1 : (if 1 ≤ (t156.length : Int) then ((some (t156.drop 1 : List Zb)).bind fun y171 => (filing_read.l0 kj27 y171 (y171.length : Int) 0 t166 t169 ([] : List (S60)))) else (none)) = some (r1, r2, r3, r4) := by rw [if_neg (show ¬ (false = true) by decide)] at H; exact H
             clear H
             have H := H1
             clear H1
             by_cases c40 : 1 ≤ (t156.length : Int)
             · rw [if_pos c40] at H
               have c40b0 := eq_true c40
               have c40b1 : decide (1 ≤ (t156.length : Int)) = true := Xq c40
               clear c40
               obtain ⟨y171, hy171⟩ : ∃ y_ : List Zb, y_ = (t156.drop 1) := ⟨_, rfl⟩
               replace H : (filing_read.l0 kj27 y171 (y171.length : Int) 0 t166 t169 ([] : List (S60))) = some (r1, r2, r3, r4) := by first | (rw [hy171]; with_reducible exact H) | (have H2_ := (Xy _ _).symm.trans H; rw [hy171]; with_reducible exact H2_) | (have H2_ := (Xy _ _).symm.trans H; with_reducible exact H2_) | with_reducible exact H | (rw [hy171]; exact H) | exact H
               have Ny171 := Qa hy171
               clear hy171
               have H' := Qa H
               clear H
               have q41 : (1 : Int) ≤ ((t156.length : Int) : Int) := Xp (by assumption)
               obtain ⟨i40, hi40, _, hsz41, _⟩ := info_parts info9
               have hroom41 : t156.length ≤ co11 := (Xb HO_7.out).2.1
               have hC41 : Kd.C Kd.string _ (some ad159) t156.length t156 := (Xb HO_7.out).2.2
               have hcut41 := cut_from (P := Tryz.prog) 39 9 .i64 Tryz.underlying39 hi40 1 hsz41 (some ad159) t156.length co11 1 (by omega) q41
               have hr41 := Kd.C_drop (m := (1 : Int).toNat) (c := co11) hC41 (by omega) hroom41
               obtain ⟨A41, hA41⟩ : ∃ A1, A1 = (if co11 = (1 : Int).toNat then (some ad159) else ((some ad159) : Option Addr).map (·.add ((1 : Int).toNat * 1))) := ⟨_, rfl⟩
               obtain ⟨c41, hc41⟩ : ∃ c1, c1 = co11 - (1 : Int).toNat := ⟨_, rfl⟩
               have hy41 : y171.length = t156.length - (1 : Int).toNat := (by rw [Ny171.out, List.length_drop] <;> omega)
               rw [show (t156).drop (1 : Int).toNat = y171 from Ny171.out.symm] at hr41
               replace hr41 : Kd.C Kd.string _ A41 y171.length y171 := (by rw [hA41]; exact hr41)
               rw [← hy41, ← hA41, ← hc41] at hcut41
               have HR174 := Qa hr41
               obtain ⟨CX, hRB⟩ := own_block HO_7.out
               have RB := Qa hRB
               have RBC := Qa hRB
               clear hRB
               have HC174 := Qa (show y171.length ≤ c41 from by rw [hy41, hc41]; exact Nat.sub_le_sub_right hroom41 _)
               clear hr41 hC41 hroom41 hi40 hsz41 hc41
               have KY41 := Qa hy41
               have KA41 := Qa hA41
               clear hy41 hA41
               have KL41 := Qa (show 1 ≤ t156.length from by omega)
               replace q41 := eq_true q41
               go_wp2
               go_loopg [70] kj27 (fun kq v70 w' => ∃ (x70_3 : Int) (x153000_3 : Int) (x153001_3 : Int) (x154002_3 : List (S60)) (u154002 : Value), v70 = .int .i64 x70_3 ∧ Aside0 (filing_read.l0 kq y171 (y171.length : Int) x70_3 t166 t169 x154002_3 = some (r1, r2, r3, r4)) ∧ Aside0 (kq ≤ kj27) ∧ Aside0 (Kd.R k60 60 w' w.heap.size (fun _ => True) u154002 x154002_3) ∧ Aside0 (w'.heap[gb152]? = some (.cells #[.int .i64 x153000_3, .int .i64 x153001_3, (.slice none 0 0)] 25 (0,0))) ∧ Aside0 (w'.heap[gb153]? = some (.cells #[.int .i64 t166, .int .i64 t169, u154002] 25 (0,0))) ∧ Aside0 (Below w.heap.size w w') ∧ Aside0 (w'.heap[ad159.block]? = some (.cells CX 9 (0,0))))
               case atStart => exact ⟨(0), (0), (0), (([] : List (S60))), (.slice none 0 0), (by first | rfl | (simp; done) | (simp [*]; done)), H', ⟨Nat.le_refl _⟩, ⟨by first | exact Kd.R_nil _ _ _ _ _ | exact Kd.N_nil _ _ _ _ _ | exact Kd.V_nil _ _ _ _ _ | exact Kd.Q_nil _ _ _ _ _ | exact Kd.S_nil _ _ _ _ _⟩, ⟨nc BK152.out⟩, ⟨nc BK153.out⟩, ⟨bl HB.out⟩, ⟨nc RB.out⟩⟩
               case round =>
                clear H'
                try clear c1
                try clear p1
                try clear q1
                try clear hx1
                try clear qi1
                try clear c2
                try clear p2
                try clear c3
                try clear c4
                try clear q4
                try clear c5
                try clear c5b0
                try clear c5b1
                try clear c7
                try clear c13
                try clear c13b0
                try clear c13b1
                try clear c14
                try clear c14b0
                try clear c14b1
                try clear c15
                try clear c15b0
                try clear c15b1
                try clear p15
                try clear q15
                try clear hx15
                try clear qi15
                try clear c16
                try clear c16b0
                try clear c16b1
                try clear p16
                try clear q16
                try clear hx16
                try clear qi16
                try clear c20
                try clear c21
                try clear c24
                try clear c24b0
                try clear c24b1
                try clear c26
                try clear c26b0
                try clear c26b1
                try clear c31
                try clear c35
                try clear c36
                try clear c37
                try clear c40
                try clear c40b0
                try clear c40b1
                try clear c41
                try clear q41
                try clear hcz22_0
                try clear hcz22_1
                try clear hcz22_2
                try clear hcz23_0
                try clear hcz23_1
                try clear hcz23_2
                try clear hcz32_0
                try clear hcz32_1
                try clear hcz32_2
                try clear hcz34_0
                try clear hcz34_1
                try clear hcz34_2
                try clear hcz38_0
                try clear hcz38_1
                try clear hcz38_2
                try clear hcz39_0
                try clear hcz39_1
                try clear hcz39_2
                try clear hfz22_0
                try clear hfz22_1
                try clear hfz22_2
                try clear hfz23_0
                try clear hfz23_1
                try clear hfz23_2
                try clear hfz32_0
                try clear hfz32_1
                try clear hfz32_2
                try clear hfz34_0
                try clear hfz34_1
                try clear hfz34_2
                try clear hfz38_0
                try clear hfz38_1
                try clear hfz38_2
                try clear hfz39_0
                try clear hfz39_1
                try clear hfz39_2
                try clear hx159_0
                try clear hx163_0
                try clear hx164_0
                try clear hx165_0
                try clear hx168_0
                try clear p1
                try clear p15
                try clear p159
                try clear p16
                try clear p163
                try clear p164
                try clear p165
                try clear p168
                try clear p2
                try clear q1
                try clear q15
                try clear q159
                try clear q16
                try clear q163
                try clear q164
                try clear q165
                try clear q168
                try clear q41
                obtain ⟨x70_3, x153000_3, x153001_3, x154002_3, u154002, rfl, HA, HK3, HO_154002, BK152, BK153, HB, RB⟩ := hrel
                have NBX153 := Qa (blk_ne RB.out BK153.out (by decide))
                cases gk with
                | zero => exact absurd HA.out (by simp [filing_read.l0])
                | succ k3 =>
                 have H := HA.out
                 clear HA
                 simp only [filing_read.l0] at H
                 by_cases c42 : x70_3 < (y171.length : Int)
                 · rw [if_pos c42] at H
                   have c42b0 : decide (x70_3 < (y171.length : Int)) = true := Xq c42
                   clear c42
                   by_cases c43 : 0 ≤ x70_3
                   · rw [if_pos c43] at H
                     have c43b0 : decide (0 ≤ x70_3) = true := Xq c43
                     clear c43
                     by_cases c44 : x70_3 < (y171.length : Int)
                     · rw [if_pos c44] at H
                       have c44b0 : decide (x70_3 < (y171.length : Int)) = true := Xq c44
                       clear c44
                       replace H := Xx.mp H
                       obtain ⟨⟨t176, t177, t178, t179⟩, A450, H⟩ := H
                       replace H : (if t179 = true then (if x154002_3.length < 4398046511104 then (filing_read.l0 k3 y171 (y171.length : Int) (wrap64 (x70_3 + 1)) t166 t169 (x154002_3 ++ [(⟨t176, t177, t178⟩ : S60)])) else (none)) else (some (t166, t169, x154002_3, false))) = some (r1, r2, r3, r4) := H
                       have A45 := Qa A450
                       clear A450
                       by_cases c46 : t179 = true
                       · subst c46
                         have H1 : (if x154002_3.length < 4398046511104 then (filing_read.l0 k3 y171 (y171.length : Int) (wrap64 (x70_3 + 1)) t166 t169 (x154002_3 ++ [(⟨t176, t177, t178⟩ : S60)])) else (none)) = some (r1, r2, r3, r4) := by rw [if_pos rfl] at H; exact H
                         clear H
                         have H := H1
                         clear H1
                         by_cases c47 : x154002_3.length < 4398046511104
                         · rw [if_pos c47] at H
                           have LMc47 := Qa c47
                           clear c47
                           obtain ⟨y181, hy181⟩ : ∃ y_ : List (S60), y_ = (x154002_3 ++ [(⟨t176, t177, t178⟩ : S60)]) := ⟨_, rfl⟩
                           replace H : (filing_read.l0 k3 y171 (y171.length : Int) (wrap64 (x70_3 + 1)) t166 t169 y181) = some (r1, r2, r3, r4) := by first | (rw [hy181]; with_reducible exact H) | (have H2_ := (Xy _ _).symm.trans H; rw [hy181]; with_reducible exact H2_) | (have H2_ := (Xy _ _).symm.trans H; with_reducible exact H2_) | with_reducible exact H | (rw [hy181]; exact H) | exact H
                           have Ny181 := Qa hy181
                           clear hy181
                           have H' := Qa H
                           clear H
                           have p175 : 0 ≤ (x70_3 : Int) := Xp (by assumption)
                           have q175 : x70_3 < (y171.length : Int) := Xp (by assumption)
                           obtain ⟨ad175, e175, hx175_0⟩ := Kd.at_string HR174.out x70_3 p175 q175
                           cases e175
                           have hblk_ := cut_block KA41.out
                           replace hx175_0 := (cell_cut ((add_blk _ _).trans hblk_ : (ad175.add x70_3.toNat).block = ad159.block) RB.out RBC.out).trans hx175_0
                           clear hblk_
                           replace p175 := eq_true p175
                           replace q175 := eq_true q175
                           go_wp2_with (first | ((with_reducible refine Qw (f := 73) rfl ?_); refine gc (some 76) Tryz.func73 #[.string (rdOf ByteArray.empty y171 x70_3)] ?_; (with_reducible refine (filing_line.calls k3 (rdOf ByteArray.empty y171 x70_3) t176 t177 t178 true _ ?side1 A45.out).mono ?_); (case side1 => exact Tabs.below HT.out (bl HB.out)); rintro e w48 ⟨rfl, hb⟩; refine ⟨_, rfl, ?_⟩; have n0_ := Qa (Xh (kr HO_154002.out) hb); have n1_ := Qa (Qb (nc BK152.out) hb); have nX_ := Qa (Qb (g := ad159.block) (o := .cells CX 9 (0,0)) (nc RB.out) hb); have n2_ := Qa (Qb (nc BK153.out) hb); have n3_ := Qa (Qh (bl HB.out) hb); clear HO_154002 BK152; clear BK153 HB; have HO_154002 := n0_; have BK152 := n1_; clear RB; have RB := nX_; clear nX_; have BK153 := n2_; have HB := n3_; clear n0_ n1_ n2_ n3_; (try clear hb)) | ((with_reducible refine Qx (N := 12) rfl ?_); refine Qv ?hg (N := 12) ?hd (cs := #[.int .i64 0, .string (⟨#[]⟩ : Zb), .int .i64 0]) (t := 60) ?hr ?_; (case hd => rfl); (case hg => rfl); (case hr => first | (go_simp; done) | (go_simp; rfl)); intro gb180 hg w49 hbox hb; have n0_ := Qa (Xh (Xi (kr HO_154002.out) gb180 (Nat.le_of_eq hg.symm)) hb); have n1_ := Qa (Qb (nc BK152.out) hb); have nX_ := Qa (Qb (g := ad159.block) (o := .cells CX 9 (0,0)) (nc RB.out) hb); have n2_ := Qa (Qb (nc BK153.out) hb); have n3_ := Qa (Qh (bl HB.out) hb); have n4_ := Qa (hbox); have n5_ := Qa ((by rw [hg]; exact (Qi (bl HB.out)) : w.heap.size ≤ gb180)); have n6_ := Qa ((by rw [hg]; exact (Qi (bl HB.out)) : w.heap.size ≤ gb180)); have n7_ := Qa ((by rw [hg]; exact Nat.ne_of_lt (blk_lt (nc BK152.out)) : gb152 ≠ gb180)); have n8_ := Qa ((by rw [hg]; exact Nat.ne_of_gt (blk_lt (nc BK152.out)) : gb180 ≠ gb152)); have n9_ := Qa ((by rw [hg]; exact Nat.ne_of_lt (blk_lt (nc BK153.out)) : gb153 ≠ gb180)); have n10_ := Qa ((by rw [hg]; exact Nat.ne_of_gt (blk_lt (nc BK153.out)) : gb180 ≠ gb153)); clear HO_154002 BK152; clear BK153 HB; have HO_154002 := n0_; have BK152 := n1_; clear RB; have RB := nX_; clear nX_; have BK153 := n2_; have HB := n3_; have BK180 := n4_; have NBX180 := Qa (blk_ne RB.out BK180.out (by decide)); have GW180 := n5_; have GE180 := n6_; have NB152_180 := n7_; have NB180_152 := n8_; have NB153_180 := n9_; have NB180_153 := n10_; clear n0_ n1_ n2_ n3_ n4_ n5_ n6_ n7_ n8_ n9_ n10_; clear hb hbox hg; have hnb50 := NB180_152.out; have hnc50 := NB152_180.out; have hnb51 := NB180_153.out; have hnc51 := NB153_180.out; have hcz52_0 := hz BK180.out 0; have hcz52_1 := hz BK180.out 1; have hcz52_2 := hz BK180.out 2; have hfz52_0 := Qm BK180.out 0; have hfz52_1 := Qm BK180.out 1; have hfz52_2 := Qm BK180.out 2; have hnb53 := NB153_152.out; have hnc53 := NB152_153.out; have hcz54_0 := hz BK153.out 0; have hcz54_1 := hz BK153.out 1; have hcz54_2 := hz BK153.out 2; have hfz54_0 := Qm BK153.out 0; have hfz54_1 := Qm BK153.out 1; have hfz54_2 := Qm BK153.out 2) | ((with_reducible refine gate_builtin (b := .append) (xs := #[.tmp 83, .tmp 85]) rfl ?_); at_builtin; refine Kd.R_append k60 (w0 := w) w.heap.size rfl (.tmp 83) (.tmp 85) 23 60 (.agg #[(.int .i64 0), (.string ⟨#[]⟩), (.int .i64 0)]) 32 rfl Tryz.underlying23 info60 rfl (by decide) (by omega) u154002 x154002_3 (⟨t176, t177, t178⟩ : S60) [.int .i64 t176, .string t177, .int .i64 t178] (fun k_ => k_ ≠ gb180) (fun _ => False) rfl (by first | (go_simp; done) | (go_simp; rfl)) ?aP (fun _ hk => hk.elim) ?aF ?aO ?aB ?aS ?aL ?_; (case aP => exact k60_mkM _ _ _ (⟨t176, t177, t178⟩ : S60)); (case aB => exact (bl HB.out)); (case aF => exact (fun k_ hk => Kd.freshB (g := gb180) (o := .cells #[.int .i64 t176, .string t177, .int .i64 t178] 60 (0,0)) (by (with_reducible repeat (first | refine Qj ?_ _ | refine Qk ?_ | refine Ql ?_ _)); refine Qo (cs := #[.int .i64 t176, .string t177, .int .i64 0]) ?_ 2 _ rfl; (with_reducible repeat (first | refine Qj ?_ _ | refine Qk ?_ | refine Ql ?_ _)); refine Qo (cs := #[.int .i64 t176, .string (⟨#[]⟩ : Zb), .int .i64 0]) ?_ 1 _ rfl; (with_reducible repeat (first | refine Qj ?_ _ | refine Qk ?_ | refine Ql ?_ _)); refine Qo (cs := #[.int .i64 0, .string (⟨#[]⟩ : Zb), .int .i64 0]) ?_ 0 _ rfl; (with_reducible repeat (first | refine Qj ?_ _ | refine Qk ?_ | refine Ql ?_ _)); exact BK180.out) k_ hk)); (case aO => exact (by (with_reducible repeat (first | apply Xc | apply Xd | apply Xe)); exact Xf (Xg (p := ⟨gb180,2, none⟩) (Xg (p := ⟨gb180,1, none⟩) (Xg (p := ⟨gb180,0, none⟩) (Xf HO_154002.out (fun k_ hk => (⟨hk, hk.2⟩ : _ ∧ k_ ≠ gb180))) (fun _ hk => hk.2) (.int .i64 t176)) (fun _ hk => hk.2) (.string t177)) (fun _ hk => hk.2) (.int .i64 t178)) (fun _ hk => hk.1.2))); (case aS => exact (Qi (bl HB.out))); (case aL => have := LMc47.out; omega); intro v182 w55 ho hb hg hat; rw [← Ny181.out] at ho; have n0_ := Qa (blk_grown (g := gb152) (o := .cells #[.int .i64 x153000_3, .int .i64 x153001_3, .slice none 0 0] 25 (0,0)) (by (with_reducible repeat (first | refine Qj ?_ _ | refine Qk ?_ | refine Ql ?_ _)); refine Qc ?_ NB152_180.out _; (with_reducible repeat (first | refine Qj ?_ _ | refine Qk ?_ | refine Ql ?_ _)); refine Qc ?_ NB152_180.out _; (with_reducible repeat (first | refine Qj ?_ _ | refine Qk ?_ | refine Ql ?_ _)); refine Qc ?_ NB152_180.out _; (with_reducible repeat (first | refine Qj ?_ _ | refine Qk ?_ | refine Ql ?_ _)); exact BK152.out) hg (Kd.R_ne HO_154002.out BK152.out (by decide))); have nX_ := Qa (blk_grown (g := ad159.block) (o := .cells CX 9 (0,0)) (by (with_reducible repeat (first | refine Qj ?_ _ | refine Qk ?_ | refine Ql ?_ _)); refine Qc ?_ NBX180.out _; (with_reducible repeat (first | refine Qj ?_ _ | refine Qk ?_ | refine Ql ?_ _)); refine Qc ?_ NBX180.out _; (with_reducible repeat (first | refine Qj ?_ _ | refine Qk ?_ | refine Ql ?_ _)); refine Qc ?_ NBX180.out _; (with_reducible repeat (first | refine Qj ?_ _ | refine Qk ?_ | refine Ql ?_ _)); exact RB.out) hg (Kd.R_ne HO_154002.out RB.out (by decide))); have n1_ := Qa (blk_grown (g := gb153) (o := .cells #[.int .i64 t166, .int .i64 t169, u154002] 25 (0,0)) (by (with_reducible repeat (first | refine Qj ?_ _ | refine Qk ?_ | refine Ql ?_ _)); refine Qc ?_ NB153_180.out _; (with_reducible repeat (first | refine Qj ?_ _ | refine Qk ?_ | refine Ql ?_ _)); refine Qc ?_ NB153_180.out _; (with_reducible repeat (first | refine Qj ?_ _ | refine Qk ?_ | refine Ql ?_ _)); refine Qc ?_ NB153_180.out _; (with_reducible repeat (first | refine Qj ?_ _ | refine Qk ?_ | refine Ql ?_ _)); exact BK153.out) hg (Kd.R_ne HO_154002.out BK153.out (by decide))); have n2_ := Qa (blk_grown (g := gb180) (o := .cells #[.int .i64 t176, .string t177, .int .i64 t178] 60 (0,0)) (by (with_reducible repeat (first | refine Qj ?_ _ | refine Qk ?_ | refine Ql ?_ _)); refine Qo (cs := #[.int .i64 t176, .string t177, .int .i64 0]) ?_ 2 _ rfl; (with_reducible repeat (first | refine Qj ?_ _ | refine Qk ?_ | refine Ql ?_ _)); refine Qo (cs := #[.int .i64 t176, .string (⟨#[]⟩ : Zb), .int .i64 0]) ?_ 1 _ rfl; (with_reducible repeat (first | refine Qj ?_ _ | refine Qk ?_ | refine Ql ?_ _)); refine Qo (cs := #[.int .i64 0, .string (⟨#[]⟩ : Zb), .int .i64 0]) ?_ 0 _ rfl; (with_reducible repeat (first | refine Qj ?_ _ | refine Qk ?_ | refine Ql ?_ _)); exact BK180.out) hg (Kd.R_away HO_154002.out (fun _ hk => hk.2))); have n3_ := Qa (hb); have n4_ := Qa (ho); clear BK152 BK153; clear BK180 HB HO_154002; have BK152 := n0_; clear RB; have RB := nX_; clear nX_; have BK153 := n1_; have BK180 := n2_; have HB := n3_; have HO183 := n4_; clear n0_ n1_ n2_ n3_ n4_; clear ho hb hg hat; obtain ⟨Ao56, co56, eo56⟩ := Xk HO183.out; subst eo56; have hcz57_0 := hz BK153.out 0; have hcz57_1 := hz BK153.out 1; have hcz57_2 := hz BK153.out 2; have hfz57_0 := Qm BK153.out 0; have hfz57_1 := Qm BK153.out 1; have hfz57_2 := Qm BK153.out 2))
                           go_roundg k3
                           case measure => have := HJ6.out; have := HJ27.out; have := HK3.out; omega
                           case rel => exact ⟨(wrap64 (x70_3 + 1)), (x153000_3), (x153001_3), (y181), (.slice Ao56 y181.length co56), (by first | rfl | (simp; done) | (simp [*]; done)), H', ⟨by have := HJ6.out; have := HJ27.out; have := HK3.out; omega⟩, ⟨by (with_reducible repeat (first | apply Xc | apply Xd | apply Xe)); exact Xf (Xg (p := ⟨gb153,2, none⟩) (Kd.R_types HO183.out BK153.out (by decide)) (fun _ hk => hk.2) (.slice Ao56 y181.length co56)) (fun _ hk => trivial)⟩, ⟨by (with_reducible repeat (first | refine Qj ?_ _ | refine Qk ?_ | refine Ql ?_ _)); refine Qc ?_ NB152_153.out _; (with_reducible repeat (first | refine Qj ?_ _ | refine Qk ?_ | refine Ql ?_ _)); exact BK152.out⟩, ⟨by (with_reducible repeat (first | refine Qj ?_ _ | refine Qk ?_ | refine Ql ?_ _)); refine Qo (cs := #[.int .i64 t166, .int .i64 t169, u154002]) ?_ 2 _ rfl; (with_reducible repeat (first | refine Qj ?_ _ | refine Qk ?_ | refine Ql ?_ _)); exact BK153.out⟩, ⟨bl HB.out⟩, ⟨by (with_reducible repeat (first | refine Qj ?_ _ | refine Qk ?_ | refine Ql ?_ _)); refine Qc ?_ NBX153.out _; (with_reducible repeat (first | refine Qj ?_ _ | refine Qk ?_ | refine Ql ?_ _)); exact RB.out⟩⟩
                         rw [if_neg c47] at H
                         exact absurd H (by simp)
                       replace c46 := Bool.eq_false_iff.mpr c46
                       subst c46
                       have H1 : (some (t166, t169, x154002_3, false)) = some (r1, r2, r3, r4) := by rw [if_neg (show ¬ (false = true) by decide)] at H; exact H
                       clear H
                       have H := H1
                       clear H1
                       simp only [Option.some.injEq, Prod.mk.injEq] at H
                       obtain ⟨rfl, rfl, rfl, rfl⟩ := H
                       have p175 : 0 ≤ (x70_3 : Int) := Xp (by assumption)
                       have q175 : x70_3 < (y171.length : Int) := Xp (by assumption)
                       obtain ⟨ad175, e175, hx175_0⟩ := Kd.at_string HR174.out x70_3 p175 q175
                       cases e175
                       have hblk_ := cut_block KA41.out
                       replace hx175_0 := (cell_cut ((add_blk _ _).trans hblk_ : (ad175.add x70_3.toNat).block = ad159.block) RB.out RBC.out).trans hx175_0
                       clear hblk_
                       replace p175 := eq_true p175
                       replace q175 := eq_true q175
                       go_wp2_with (first | ((with_reducible refine Qw (f := 73) rfl ?_); refine gc (some 76) Tryz.func73 #[.string (rdOf ByteArray.empty y171 x70_3)] ?_; (with_reducible refine (filing_line.calls k3 (rdOf ByteArray.empty y171 x70_3) t176 t177 t178 false _ ?side1 A45.out).mono ?_); (case side1 => exact Tabs.below HT.out (bl HB.out)); rintro e w58 ⟨rfl, hb⟩; refine ⟨_, rfl, ?_⟩; have n0_ := Qa (Xh (kr HO_154002.out) hb); have n1_ := Qa (Qb (nc BK152.out) hb); have nX_ := Qa (Qb (g := ad159.block) (o := .cells CX 9 (0,0)) (nc RB.out) hb); have n2_ := Qa (Qb (nc BK153.out) hb); have n3_ := Qa (Qh (bl HB.out) hb); clear HO_154002 BK152; clear BK153 HB; have HO_154002 := n0_; have BK152 := n1_; clear RB; have RB := nX_; clear nX_; have BK153 := n2_; have HB := n3_; clear n0_ n1_ n2_ n3_; (try clear hb)) | ((with_reducible refine Qx (N := 12) rfl ?_); refine Qv ?hg (N := 12) ?hd (cs := #[.int .i64 0, .string (⟨#[]⟩ : Zb), .int .i64 0]) (t := 60) ?hr ?_; (case hd => rfl); (case hg => rfl); (case hr => first | (go_simp; done) | (go_simp; rfl)); intro gb180 hg w59 hbox hb; have n0_ := Qa (Xh (Xi (kr HO_154002.out) gb180 (Nat.le_of_eq hg.symm)) hb); have n1_ := Qa (Qb (nc BK152.out) hb); have nX_ := Qa (Qb (g := ad159.block) (o := .cells CX 9 (0,0)) (nc RB.out) hb); have n2_ := Qa (Qb (nc BK153.out) hb); have n3_ := Qa (Qh (bl HB.out) hb); have n4_ := Qa (hbox); have n5_ := Qa ((by rw [hg]; exact (Qi (bl HB.out)) : w.heap.size ≤ gb180)); have n6_ := Qa ((by rw [hg]; exact (Qi (bl HB.out)) : w.heap.size ≤ gb180)); have n7_ := Qa ((by rw [hg]; exact Nat.ne_of_lt (blk_lt (nc BK152.out)) : gb152 ≠ gb180)); have n8_ := Qa ((by rw [hg]; exact Nat.ne_of_gt (blk_lt (nc BK152.out)) : gb180 ≠ gb152)); have n9_ := Qa ((by rw [hg]; exact Nat.ne_of_lt (blk_lt (nc BK153.out)) : gb153 ≠ gb180)); have n10_ := Qa ((by rw [hg]; exact Nat.ne_of_gt (blk_lt (nc BK153.out)) : gb180 ≠ gb153)); clear HO_154002 BK152; clear BK153 HB; have HO_154002 := n0_; have BK152 := n1_; clear RB; have RB := nX_; clear nX_; have BK153 := n2_; have HB := n3_; have BK180 := n4_; have NBX180 := Qa (blk_ne RB.out BK180.out (by decide)); have GW180 := n5_; have GE180 := n6_; have NB152_180 := n7_; have NB180_152 := n8_; have NB153_180 := n9_; have NB180_153 := n10_; clear n0_ n1_ n2_ n3_ n4_ n5_ n6_ n7_ n8_ n9_ n10_; clear hb hbox hg; have hnb60 := NB180_152.out; have hnc60 := NB152_180.out; have hnb61 := NB180_153.out; have hnc61 := NB153_180.out; have hcz62_0 := hz BK180.out 0; have hcz62_1 := hz BK180.out 1; have hcz62_2 := hz BK180.out 2; have hfz62_0 := Qm BK180.out 0; have hfz62_1 := Qm BK180.out 1; have hfz62_2 := Qm BK180.out 2; have hnb63 := NB153_152.out; have hnc63 := NB152_153.out; have hcz64_0 := hz BK153.out 0; have hcz64_1 := hz BK153.out 1; have hcz64_2 := hz BK153.out 2; have hfz64_0 := Qm BK153.out 0; have hfz64_1 := Qm BK153.out 1; have hfz64_2 := Qm BK153.out 2; have hcz65_0 := hz BK152.out 0; have hcz65_1 := hz BK152.out 1; have hcz65_2 := hz BK152.out 2; have hfz65_0 := Qm BK152.out 0; have hfz65_1 := Qm BK152.out 1; have hfz65_2 := Qm BK152.out 2; obtain ⟨Ao66, co66, eo66⟩ := Xk HO_154002.out; subst eo66))
                       refine Qz (Xa rfl _ _ gb152 25 #[.int .i64 t166, .int .i64 t169, .slice Ao66 x154002_3.length co66] (0,0) _ rfl (by (with_reducible repeat (first | refine Qj ?_ _ | refine Qk ?_ | refine Ql ?_ _)); refine Qo (cs := #[.int .i64 t166, .int .i64 t169, .slice none 0 0]) ?_ 2 _ rfl; (with_reducible repeat (first | refine Qj ?_ _ | refine Qk ?_ | refine Ql ?_ _)); refine Qo (cs := #[.int .i64 t166, .int .i64 x153001_3, .slice none 0 0]) ?_ 1 _ rfl; (with_reducible repeat (first | refine Qj ?_ _ | refine Qk ?_ | refine Ql ?_ _)); refine Qo (cs := #[.int .i64 x153000_3, .int .i64 x153001_3, .slice none 0 0]) ?_ 0 _ rfl; (with_reducible repeat (first | refine Qj ?_ _ | refine Qk ?_ | refine Ql ?_ _)); refine Qc ?_ NB152_180.out _; (with_reducible repeat (first | refine Qj ?_ _ | refine Qk ?_ | refine Ql ?_ _)); refine Qc ?_ NB152_180.out _; (with_reducible repeat (first | refine Qj ?_ _ | refine Qk ?_ | refine Ql ?_ _)); refine Qc ?_ NB152_180.out _; (with_reducible repeat (first | refine Qj ?_ _ | refine Qk ?_ | refine Ql ?_ _)); exact BK152.out) Tryz.underlying25 rfl (by kernel_rfl)) rfl ?_
                       exact ⟨_, by first | rfl | (simp [errW_none, errW_some] <;> rfl) | (simp [*, errW_none, errW_some] <;> rfl), by (with_reducible repeat (first | apply Xc | apply Xd | apply Xe)); exact Xf (Xg (p := ⟨gb152,2, none⟩) (Xg (p := ⟨gb152,1, none⟩) (Xg (p := ⟨gb152,0, none⟩) (Xg (p := ⟨gb180,2, none⟩) (Xg (p := ⟨gb180,1, none⟩) (Xg (p := ⟨gb180,0, none⟩) (Kd.R_types (Xf HO_154002.out (fun k_ hk => (⟨hk, hk.2⟩ : _ ∧ k_ ≠ gb180))) BK152.out (by decide)) (fun _ hk => hk.1.2) (.int .i64 t176)) (fun _ hk => hk.1.2) (.string t177)) (fun _ hk => hk.1.2) (.int .i64 t178)) (fun _ hk => hk.2) (.int .i64 t166)) (fun _ hk => hk.2) (.int .i64 t169)) (fun _ hk => hk.2) (.slice Ao66 x154002_3.length co66)) (fun _ hk => trivial), bl HB.out⟩
                     rw [if_neg c44] at H
                     exact absurd H (by simp)
                   rw [if_neg c43] at H
                   exact absurd H (by simp)
                 rw [if_neg c42] at H
                 have c42b0 : decide (x70_3 < (y171.length : Int)) = false := Xr c42
                 clear c42
                 simp only [Option.some.injEq, Prod.mk.injEq] at H
                 obtain ⟨rfl, rfl, rfl, rfl⟩ := H
                 have hnb67 := NB153_152.out
                 have hnc67 := NB152_153.out
                 have hcz68_0 := hz BK153.out 0
                 have hcz68_1 := hz BK153.out 1
                 have hcz68_2 := hz BK153.out 2
                 have hfz68_0 := Qm BK153.out 0
                 have hfz68_1 := Qm BK153.out 1
                 have hfz68_2 := Qm BK153.out 2
                 have hcz69_0 := hz BK152.out 0
                 have hcz69_1 := hz BK152.out 1
                 have hcz69_2 := hz BK152.out 2
                 have hfz69_0 := Qm BK152.out 0
                 have hfz69_1 := Qm BK152.out 1
                 have hfz69_2 := Qm BK152.out 2
                 obtain ⟨Ao70, co70, eo70⟩ := Xk HO_154002.out
                 subst eo70
                 go_wp2
                 refine Qz (Xa rfl _ _ gb152 25 #[.int .i64 t166, .int .i64 t169, .slice Ao70 x154002_3.length co70] (0,0) _ rfl (by (with_reducible repeat (first | refine Qj ?_ _ | refine Qk ?_ | refine Ql ?_ _)); refine Qo (cs := #[.int .i64 t166, .int .i64 t169, .slice none 0 0]) ?_ 2 _ rfl; (with_reducible repeat (first | refine Qj ?_ _ | refine Qk ?_ | refine Ql ?_ _)); refine Qo (cs := #[.int .i64 t166, .int .i64 x153001_3, .slice none 0 0]) ?_ 1 _ rfl; (with_reducible repeat (first | refine Qj ?_ _ | refine Qk ?_ | refine Ql ?_ _)); refine Qo (cs := #[.int .i64 x153000_3, .int .i64 x153001_3, .slice none 0 0]) ?_ 0 _ rfl; (with_reducible repeat (first | refine Qj ?_ _ | refine Qk ?_ | refine Ql ?_ _)); exact BK152.out) Tryz.underlying25 rfl (by kernel_rfl)) rfl ?_
                 exact ⟨_, by first | rfl | (simp [errW_none, errW_some] <;> rfl) | (simp [*, errW_none, errW_some] <;> rfl), by (with_reducible repeat (first | apply Xc | apply Xd | apply Xe)); exact Xf (Xg (p := ⟨gb152,2, none⟩) (Xg (p := ⟨gb152,1, none⟩) (Xg (p := ⟨gb152,0, none⟩) (Kd.R_types HO_154002.out BK152.out (by decide)) (fun _ hk => hk.2) (.int .i64 t166)) (fun _ hk => hk.2) (.int .i64 t169)) (fun _ hk => hk.2) (.slice Ao70 x154002_3.length co70)) (fun _ hk => trivial), bl HB.out⟩
             rw [if_neg c40] at H
             exact absurd H (by simp)
         rw [if_neg c26] at H
         exact absurd H (by simp)
       rw [if_neg c24] at H
       exact absurd H (by simp)
   rw [if_neg c5] at H
   exact absurd H (by simp)
 replace c3 := Bool.eq_false_iff.mpr c3
 subst c3
 have H1 : (some (0,0, ([] : List (S60)), false)) = some (r1, r2, r3, r4) := by rw [if_neg (show ¬ (false = true) by decide)] at H; exact H
 clear H
 have H := H1
 clear H1
 simp only [Option.some.injEq, Prod.mk.injEq] at H
 obtain ⟨rfl, rfl, rfl, rfl⟩ := H
 go_enter Tryz.func46, Tryz.ntmps46
 go_wp2_with (first | ((with_reducible refine Qx (N := 2) rfl ?_); refine Qv ?hg (N := 2) ?hd (cs := #[.int .i64 0, .int .i64 0, .slice none 0 0]) (t := 25) ?hr ?_; (case hd => rfl); (case hg => rfl); (case hr => first | (go_simp; done) | (go_simp; rfl)); intro gb152 hg w71 hbox hb; have n0_ := Qa (Qh (bl HB.out) hb); have n1_ := Qa (hbox); have n2_ := Qa ((by rw [hg]; exact (Qi (bl HB.out)) : w.heap.size ≤ gb152)); have n3_ := Qa ((by rw [hg]; exact (Qi (bl HB.out)) : w.heap.size ≤ gb152)); clear HB; have HB := n0_; have BK152 := n1_; have GW152 := n2_; have GE152 := n3_; clear n0_ n1_ n2_ n3_; clear hb hbox hg) | ((with_reducible refine Qx (N := 4) rfl ?_); refine Qv ?hg (N := 4) ?hd (cs := #[.int .i64 0, .int .i64 0, .slice none 0 0]) (t := 25) ?hr ?_; (case hd => rfl); (case hg => rfl); (case hr => first | (go_simp; done) | (go_simp; rfl)); intro gb153 hg w72 hbox hb; have n0_ := Qa (Qb (nc BK152.out) hb); have n1_ := Qa (Qh (bl HB.out) hb); have n2_ := Qa (hbox); have n3_ := Qa ((by rw [hg]; exact (Qi (bl HB.out)) : w.heap.size ≤ gb153)); have n4_ := Qa ((by rw [hg]; exact (Qi (bl HB.out)) : w.heap.size ≤ gb153)); have n5_ := Qa ((by rw [hg]; exact Nat.ne_of_lt (blk_lt (nc BK152.out)) : gb152 ≠ gb153)); have n6_ := Qa ((by rw [hg]; exact Nat.ne_of_gt (blk_lt (nc BK152.out)) : gb153 ≠ gb152)); clear BK152 HB; have BK152 := n0_; have HB := n1_; have BK153 := n2_; have GW153 := n3_; have GE153 := n4_; have NB152_153 := n5_; have NB153_152 := n6_; clear n0_ n1_ n2_ n3_ n4_ n5_ n6_; clear hb hbox hg) | ((with_reducible refine Qw (f := 70) rfl ?_); refine gc (some 16) Tryz.func70 #[.string a0, .string (⟨#[10,101,110,100,10]⟩ : Zb)] ?_; (with_reducible refine (strings_CutSuffix.calls a0 (⟨#[10,101,110,100,10]⟩ : Zb) t154 false _ A2.out).mono ?_); rintro e w' ⟨rfl, ⟨nd, rfl⟩⟩; refine ⟨_, rfl, ?_⟩; (try simp only [World.drewN_drewN]); (try (rw [drewN_self w72]; generalize hq_ : World.drewN w72 _ = w72; have n0_ : Aside0 (w72.heap[gb152]? = some (.cells #[.int .i64 0, .int .i64 0, .slice none 0 0] 25 (0,0))) := ⟨by rw [← hq_]; exact (nc BK152.out)⟩; have n1_ : Aside0 (w72.heap[gb153]? = some (.cells #[.int .i64 0, .int .i64 0, .slice none 0 0] 25 (0,0))) := ⟨by rw [← hq_]; exact (nc BK153.out)⟩; have n2_ : Aside0 (Below w.heap.size w w72) := ⟨by rw [← hq_]; exact (bl HB.out)⟩; clear BK152 BK153 HB hq_; have BK152 := n0_; have BK153 := n1_; have HB := n2_; clear n0_ n1_ n2_)); have hnb73 := NB153_152.out; have hnc73 := NB152_153.out; have hcz74_0 := hz BK153.out 0; have hcz74_1 := hz BK153.out 1; have hcz74_2 := hz BK153.out 2; have hfz74_0 := Qm BK153.out 0; have hfz74_1 := Qm BK153.out 1; have hfz74_2 := Qm BK153.out 2; have hcz75_0 := hz BK152.out 0; have hcz75_1 := hz BK152.out 1; have hcz75_2 := hz BK152.out 2; have hfz75_0 := Qm BK152.out 0; have hfz75_1 := Qm BK152.out 1; have hfz75_2 := Qm BK152.out 2))
 refine Qz (Xa rfl _ _ gb152 25 #[.int .i64 0, .int .i64 0, .slice none 0 0] (0,0) _ rfl (by (with_reducible repeat (first | refine Qj ?_ _ | refine Qk ?_ | refine Ql ?_ _)); refine Qo (cs := #[.int .i64 0, .int .i64 0, .slice none 0 0]) ?_ 2 _ rfl; (with_reducible repeat (first | refine Qj ?_ _ | refine Qk ?_ | refine Ql ?_ _)); refine Qo (cs := #[.int .i64 0, .int .i64 0, .slice none 0 0]) ?_ 1 _ rfl; (with_reducible repeat (first | refine Qj ?_ _ | refine Qk ?_ | refine Ql ?_ _)); refine Qo (cs := #[.int .i64 0, .int .i64 0, .slice none 0 0]) ?_ 0 _ rfl; (with_reducible repeat (first | refine Qj ?_ _ | refine Qk ?_ | refine Ql ?_ _)); exact BK152.out) Tryz.underlying25 rfl (by kernel_rfl)) rfl ?_
 exact ⟨_, by first | rfl | (simp [errW_none, errW_some] <;> rfl) | (simp [*, errW_none, errW_some] <;> rfl), by first | exact Kd.R_nil _ _ _ _ _ | exact Kd.N_nil _ _ _ _ _ | exact Kd.V_nil _ _ _ _ _ | exact Kd.Q_nil _ _ _ _ _ | exact Kd.S_nil _ _ _ _ _, bl HB.out⟩
def filing_Decode.f (k : Nat) (a0 : Zb) : Option (Int × Int × (List (S60)) × Int) := if (a0.size : Int) > 65536 then (some (0,0, ([] : List (S60)), 3)) else ((filing_read.f k a0).bind fun bt185 => (if bt185.2.2.2 = true then ((filing_Valid.f k bt185.1 bt185.2.1 bt185.2.2.1).bind fun t192 => (if t192 = true then (some (bt185.1, bt185.2.1, bt185.2.2.1,0)) else (some (0,0, ([] : List (S60)), 6)))) else (some (0,0, ([] : List (S60)), 6))))
theorem filing_Decode.calls (k : Nat) (a0 : Zb) (r1 : Int) (r2 : Int) (r3 : List (S60)) (r4 : Int) (w : World) (hT : Tabs w) (h : filing_Decode.f k a0 = some (r1, r2, r3, r4)) :
 Calls Tryz.prog 19 #[.string a0] w fun e w' => ∃ v2_ : Value, e = .returned (.tuple #[.agg #[.int .i64 r1, .int .i64 r2, v2_], .int .i64 r4]) ∧ Kd.R k60 60 w' w.heap.size (fun _ => True) v2_ r3 ∧ Below w.heap.size w w' := by
 have hu25 := Tryz.underlying25
 have HB := Qa (Below.refl w.heap.size w)
 have HT := Qa hT
 clear hT
 have H : (if (a0.size : Int) > 65536 then (some (0,0, ([] : List (S60)), 3)) else ((filing_read.f k a0).bind fun bt185 => (if bt185.2.2.2 = true then ((filing_Valid.f k bt185.1 bt185.2.1 bt185.2.2.1).bind fun t192 => (if t192 = true then (some (bt185.1, bt185.2.1, bt185.2.2.1,0)) else (some (0,0, ([] : List (S60)), 6)))) else (some (0,0, ([] : List (S60)), 6))))) = some (r1, r2, r3, r4) := h
 clear h
 by_cases c2 : (a0.size : Int) > 65536
 · rw [if_pos c2] at H
   have c2b0 : decide (65536 < (a0.size : Int)) = true := Xq c2
   have c2b1 : decide (65536 < a0.size) = true := Xq (by omega)
   clear c2
   simp only [Option.some.injEq, Prod.mk.injEq] at H
   obtain ⟨rfl, rfl, rfl, rfl⟩ := H
   go_enter Tryz.func19, Tryz.ntmps19
   go_wp2_with (first | ((with_reducible refine Qx (N := 2) rfl ?_); refine Qv ?hg (N := 2) ?hd (cs := #[.int .i64 0, .int .i64 0, .slice none 0 0]) (t := 25) ?hr ?_; (case hd => rfl); (case hg => rfl); (case hr => first | (go_simp; done) | (go_simp; rfl)); intro gb184 hg w3 hbox hb; have n0_ := Qa (Qh (bl HB.out) hb); have n1_ := Qa (hbox); have n2_ := Qa ((by rw [hg]; exact (Qi (bl HB.out)) : w.heap.size ≤ gb184)); have n3_ := Qa ((by rw [hg]; exact (Qi (bl HB.out)) : w.heap.size ≤ gb184)); clear HB; have HB := n0_; have BK184 := n1_; have GW184 := n2_; have GE184 := n3_; clear n0_ n1_ n2_ n3_; clear hb hbox hg; have hcz4_0 := hz BK184.out 0; have hcz4_1 := hz BK184.out 1; have hcz4_2 := hz BK184.out 2; have hfz4_0 := Qm BK184.out 0; have hfz4_1 := Qm BK184.out 1; have hfz4_2 := Qm BK184.out 2))
   refine Qz (Xa rfl _ _ gb184 25 #[.int .i64 0, .int .i64 0, .slice none 0 0] (0,0) _ rfl (by (with_reducible repeat (first | refine Qj ?_ _ | refine Qk ?_ | refine Ql ?_ _)); refine Qo (cs := #[.int .i64 0, .int .i64 0, .slice none 0 0]) ?_ 2 _ rfl; (with_reducible repeat (first | refine Qj ?_ _ | refine Qk ?_ | refine Ql ?_ _)); refine Qo (cs := #[.int .i64 0, .int .i64 0, .slice none 0 0]) ?_ 1 _ rfl; (with_reducible repeat (first | refine Qj ?_ _ | refine Qk ?_ | refine Ql ?_ _)); refine Qo (cs := #[.int .i64 0, .int .i64 0, .slice none 0 0]) ?_ 0 _ rfl; (with_reducible repeat (first | refine Qj ?_ _ | refine Qk ?_ | refine Ql ?_ _)); exact BK184.out) Tryz.underlying25 rfl (by kernel_rfl)) rfl ?_
   exact ⟨_, by first | rfl | (simp [errW_none, errW_some] <;> rfl) | (simp [*, errW_none, errW_some] <;> rfl), by first | exact Kd.R_nil _ _ _ _ _ | exact Kd.N_nil _ _ _ _ _ | exact Kd.V_nil _ _ _ _ _ | exact Kd.Q_nil _ _ _ _ _ | exact Kd.S_nil _ _ _ _ _, bl HB.out⟩
 rw [if_neg c2] at H
 have c2b0 : decide (65536 < (a0.size : Int)) = false := Xr c2
 have c2b1 : decide (65536 < a0.size) = false := Xr (by omega)
 clear c2
 replace H := Xx.mp H
 obtain ⟨⟨t185, t186, t187, t190⟩, A50, H⟩ := H
 replace H : (if t190 = true then ((filing_Valid.f k t185 t186 t187).bind fun t192 => (if t192 = true then (some (t185, t186, t187,0)) else (some (0,0, ([] : List (S60)), 6)))) else (some (0,0, ([] : List (S60)), 6))) = some (r1, r2, r3, r4) := H
 have A5 := Qa A50
 clear A50
 by_cases c6 : t190 = true
 · subst c6
   have H1 : ((filing_Valid.f k t185 t186 t187).bind fun t192 => (if t192 = true then (some (t185, t186, t187,0)) else (some (0,0, ([] : List (S60)), 6)))) = some (r1, r2, r3, r4) := by rw [if_pos rfl] at H; exact H
   clear H
   have H := H1
   clear H1
   replace H := Xx.mp H
   obtain ⟨t192, A70, H⟩ := H
   replace H : (if t192 = true then (some (t185, t186, t187,0)) else (some (0,0, ([] : List (S60)), 6))) = some (r1, r2, r3, r4) := H
   have A7 := Qa A70
   clear A70
   by_cases c8 : t192 = true
   · subst c8
     have H1 : (some (t185, t186, t187,0)) = some (r1, r2, r3, r4) := by rw [if_pos rfl] at H; exact H
     clear H
     have H := H1
     clear H1
     simp only [Option.some.injEq, Prod.mk.injEq] at H
     obtain ⟨rfl, rfl, rfl, rfl⟩ := H
     go_enter Tryz.func19, Tryz.ntmps19
     go_wp2_with (first | ((with_reducible refine Qx (N := 2) rfl ?_); refine Qv ?hg (N := 2) ?hd (cs := #[.int .i64 0, .int .i64 0, .slice none 0 0]) (t := 25) ?hr ?_; (case hd => rfl); (case hg => rfl); (case hr => first | (go_simp; done) | (go_simp; rfl)); intro gb184 hg w9 hbox hb; have n0_ := Qa (Qh (bl HB.out) hb); have n1_ := Qa (hbox); have n2_ := Qa ((by rw [hg]; exact (Qi (bl HB.out)) : w.heap.size ≤ gb184)); have n3_ := Qa ((by rw [hg]; exact (Qi (bl HB.out)) : w.heap.size ≤ gb184)); clear HB; have HB := n0_; have BK184 := n1_; have GW184 := n2_; have GE184 := n3_; clear n0_ n1_ n2_ n3_; clear hb hbox hg) | ((with_reducible refine Qw (f := 46) rfl ?_); refine gc (some 12) Tryz.func46 #[.string a0] ?_; (with_reducible refine (filing_read.calls k a0 t185 t186 t187 true _ ?side1 A5.out).mono ?_); (case side1 => exact Tabs.below HT.out (bl HB.out)); rintro e w10 ⟨v188, rfl, ho0, hb⟩; refine ⟨_, rfl, ?_⟩; have n0_ := Qa (Kd.R_lower ho0 (Qi (bl HB.out))); have n1_ := Qa (Qb (nc BK184.out) hb); have n2_ := Qa (Qh (bl HB.out) hb); clear BK184 HB; have HO189 := n0_; have BK184 := n1_; have HB := n2_; clear n0_ n1_ n2_; (try clear hb); (try clear ho0)) | ((with_reducible refine Qx (N := 4) rfl ?_); refine Qv ?hg (N := 4) ?hd (cs := #[.int .i64 0, .int .i64 0, .slice none 0 0]) (t := 25) ?hr ?_; (case hd => rfl); (case hg => rfl); (case hr => first | (go_simp; done) | (go_simp; rfl)); intro gb191 hg w11 hbox hb; have n0_ := Qa (Xh (kr HO189.out) hb); have n1_ := Qa (Qb (nc BK184.out) hb); have n2_ := Qa (Qh (bl HB.out) hb); have n3_ := Qa (hbox); have n4_ := Qa ((by rw [hg]; exact (Qi (bl HB.out)) : w.heap.size ≤ gb191)); have n5_ := Qa ((by rw [hg]; exact (Qi (bl HB.out)) : w.heap.size ≤ gb191)); have n6_ := Qa ((by rw [hg]; exact Nat.ne_of_lt (blk_lt (nc BK184.out)) : gb184 ≠ gb191)); have n7_ := Qa ((by rw [hg]; exact Nat.ne_of_gt (blk_lt (nc BK184.out)) : gb191 ≠ gb184)); clear HO189 BK184 HB; have HO189 := n0_; have BK184 := n1_; have HB := n2_; have BK191 := n3_; have GW191 := n4_; have GE191 := n5_; have NB184_191 := n6_; have NB191_184 := n7_; clear n0_ n1_ n2_ n3_ n4_ n5_ n6_ n7_; clear hb hbox hg; have hnb12 := NB191_184.out; have hnc12 := NB184_191.out; have hcz13_0 := hz BK191.out 0; have hcz13_1 := hz BK191.out 1; have hcz13_2 := hz BK191.out 2; have hfz13_0 := Qm BK191.out 0; have hfz13_1 := Qm BK191.out 1; have hfz13_2 := Qm BK191.out 2; obtain ⟨Ao14, co14, eo14⟩ := Xk HO189.out; subst eo14) | (go_at_call 16; (with_reducible refine (filing_Valid.calls k t185 t186 _ _ t187 true _ ?side1 ?side2 A7.out).mono ?_); (case side1 => refine (Xb (e := 60) (base := w.heap.size) (ok := fun k_ => True) (n := t187.length) (c := co14) ?_).2.2; exact (by (with_reducible repeat (first | apply Xc | apply Xd | apply Xe)); exact (Xf (Xg (p := ⟨gb191,2, none⟩) (Xg (p := ⟨gb191,1, none⟩) (Xg (p := ⟨gb191,0, none⟩) (Kd.R_types HO189.out BK191.out (by decide)) (fun _ hk => hk.2) (.int .i64 t185)) (fun _ hk => hk.2) (.int .i64 t186)) (fun _ hk => hk.2) (.slice Ao14 t187.length co14)) (fun _ h_ => h_.1)))); (case side2 => exact (Xb HO189.out).2.1); rintro e w15 ⟨rfl, hb⟩; have n0_ := Qa (Xh (by (with_reducible repeat (first | apply Xc | apply Xd | apply Xe)); exact (Xf (Xg (p := ⟨gb191,2, none⟩) (Xg (p := ⟨gb191,1, none⟩) (Xg (p := ⟨gb191,0, none⟩) (Kd.R_types HO189.out BK191.out (by decide)) (fun _ hk => hk.2) (.int .i64 t185)) (fun _ hk => hk.2) (.int .i64 t186)) (fun _ hk => hk.2) (.slice Ao14 t187.length co14)) (fun _ h_ => h_.1))) hb); have n1_ := Qa (Qb (g := gb184) (o := .cells #[.int .i64 0, .int .i64 0, .slice none 0 0] 25 (0,0)) (by (with_reducible repeat (first | refine Qj ?_ _ | refine Qk ?_ | refine Ql ?_ _)); refine Qc ?_ NB184_191.out _; (with_reducible repeat (first | refine Qj ?_ _ | refine Qk ?_ | refine Ql ?_ _)); refine Qc ?_ NB184_191.out _; (with_reducible repeat (first | refine Qj ?_ _ | refine Qk ?_ | refine Ql ?_ _)); refine Qc ?_ NB184_191.out _; (with_reducible repeat (first | refine Qj ?_ _ | refine Qk ?_ | refine Ql ?_ _)); exact BK184.out) hb); have n2_ := Qa (Qb (g := gb191) (o := .cells #[.int .i64 t185, .int .i64 t186, .slice Ao14 t187.length co14] 25 (0,0)) (by (with_reducible repeat (first | refine Qj ?_ _ | refine Qk ?_ | refine Ql ?_ _)); refine Qo (cs := #[.int .i64 t185, .int .i64 t186, .slice none 0 0]) ?_ 2 _ rfl; (with_reducible repeat (first | refine Qj ?_ _ | refine Qk ?_ | refine Ql ?_ _)); refine Qo (cs := #[.int .i64 t185, .int .i64 0, .slice none 0 0]) ?_ 1 _ rfl; (with_reducible repeat (first | refine Qj ?_ _ | refine Qk ?_ | refine Ql ?_ _)); refine Qo (cs := #[.int .i64 0, .int .i64 0, .slice none 0 0]) ?_ 0 _ rfl; (with_reducible repeat (first | refine Qj ?_ _ | refine Qk ?_ | refine Ql ?_ _)); exact BK191.out) hb); have n3_ := Qa (Qh (bl HB.out) hb); clear HO189 BK184; clear BK191 HB; have HO189 := n0_; have BK184 := n1_; have BK191 := n2_; have HB := n3_; clear n0_ n1_ n2_ n3_; (try clear hb); have hcz16_0 := hz BK191.out 0; have hcz16_1 := hz BK191.out 1; have hcz16_2 := hz BK191.out 2; have hfz16_0 := Qm BK191.out 0; have hfz16_1 := Qm BK191.out 1; have hfz16_2 := Qm BK191.out 2; have hcz17_0 := hz BK184.out 0; have hcz17_1 := hz BK184.out 1; have hcz17_2 := hz BK184.out 2; have hfz17_0 := Qm BK184.out 0; have hfz17_1 := Qm BK184.out 1; have hfz17_2 := Qm BK184.out 2))
     refine Qz (Xa rfl _ _ gb184 25 #[.int .i64 t185, .int .i64 t186, .slice Ao14 t187.length co14] (0,0) _ rfl (by (with_reducible repeat (first | refine Qj ?_ _ | refine Qk ?_ | refine Ql ?_ _)); refine Qo (cs := #[.int .i64 t185, .int .i64 t186, .slice none 0 0]) ?_ 2 _ rfl; (with_reducible repeat (first | refine Qj ?_ _ | refine Qk ?_ | refine Ql ?_ _)); refine Qo (cs := #[.int .i64 t185, .int .i64 0, .slice none 0 0]) ?_ 1 _ rfl; (with_reducible repeat (first | refine Qj ?_ _ | refine Qk ?_ | refine Ql ?_ _)); refine Qo (cs := #[.int .i64 0, .int .i64 0, .slice none 0 0]) ?_ 0 _ rfl; (with_reducible repeat (first | refine Qj ?_ _ | refine Qk ?_ | refine Ql ?_ _)); exact BK184.out) Tryz.underlying25 rfl (by kernel_rfl)) rfl ?_
     exact ⟨_, by first | rfl | (simp [errW_none, errW_some] <;> rfl) | (simp [*, errW_none, errW_some] <;> rfl), by (with_reducible repeat (first | apply Xc | apply Xd | apply Xe)); exact Xf (Xg (p := ⟨gb184,2, none⟩) (Xg (p := ⟨gb184,1, none⟩) (Xg (p := ⟨gb184,0, none⟩) (Kd.R_types HO189.out BK184.out (by decide)) (fun _ hk => hk.2) (.int .i64 t185)) (fun _ hk => hk.2) (.int .i64 t186)) (fun _ hk => hk.2) (.slice Ao14 t187.length co14)) (fun _ hk => trivial), bl HB.out⟩
   replace c8 := Bool.eq_false_iff.mpr c8
   subst c8
   have H1 : (some (0,0, ([] : List (S60)), 6)) = some (r1, r2, r3, r4) := by rw [if_neg (show ¬ (false = true) by decide)] at H; exact H
   clear H
   have H := H1
   clear H1
   simp only [Option.some.injEq, Prod.mk.injEq] at H
   obtain ⟨rfl, rfl, rfl, rfl⟩ := H
   go_enter Tryz.func19, Tryz.ntmps19
   go_wp2_with (first | ((with_reducible refine Qx (N := 2) rfl ?_); refine Qv ?hg (N := 2) ?hd (cs := #[.int .i64 0, .int .i64 0, .slice none 0 0]) (t := 25) ?hr ?_; (case hd => rfl); (case hg => rfl); (case hr => first | (go_simp; done) | (go_simp; rfl)); intro gb184 hg w18 hbox hb; have n0_ := Qa (Qh (bl HB.out) hb); have n1_ := Qa (hbox); have n2_ := Qa ((by rw [hg]; exact (Qi (bl HB.out)) : w.heap.size ≤ gb184)); have n3_ := Qa ((by rw [hg]; exact (Qi (bl HB.out)) : w.heap.size ≤ gb184)); clear HB; have HB := n0_; have BK184 := n1_; have GW184 := n2_; have GE184 := n3_; clear n0_ n1_ n2_ n3_; clear hb hbox hg) | ((with_reducible refine Qw (f := 46) rfl ?_); refine gc (some 12) Tryz.func46 #[.string a0] ?_; (with_reducible refine (filing_read.calls k a0 t185 t186 t187 true _ ?side1 A5.out).mono ?_); (case side1 => exact Tabs.below HT.out (bl HB.out)); rintro e w19 ⟨v188, rfl, ho0, hb⟩; refine ⟨_, rfl, ?_⟩; have n0_ := Qa (Kd.R_lower ho0 (Qi (bl HB.out))); have n1_ := Qa (Qb (nc BK184.out) hb); have n2_ := Qa (Qh (bl HB.out) hb); clear BK184 HB; have HO189 := n0_; have BK184 := n1_; have HB := n2_; clear n0_ n1_ n2_; (try clear hb); (try clear ho0)) | ((with_reducible refine Qx (N := 4) rfl ?_); refine Qv ?hg (N := 4) ?hd (cs := #[.int .i64 0, .int .i64 0, .slice none 0 0]) (t := 25) ?hr ?_; (case hd => rfl); (case hg => rfl); (case hr => first | (go_simp; done) | (go_simp; rfl)); intro gb191 hg w20 hbox hb; have n0_ := Qa (Xh (kr HO189.out) hb); have n1_ := Qa (Qb (nc BK184.out) hb); have n2_ := Qa (Qh (bl HB.out) hb); have n3_ := Qa (hbox); have n4_ := Qa ((by rw [hg]; exact (Qi (bl HB.out)) : w.heap.size ≤ gb191)); have n5_ := Qa ((by rw [hg]; exact (Qi (bl HB.out)) : w.heap.size ≤ gb191)); have n6_ := Qa ((by rw [hg]; exact Nat.ne_of_lt (blk_lt (nc BK184.out)) : gb184 ≠ gb191)); have n7_ := Qa ((by rw [hg]; exact Nat.ne_of_gt (blk_lt (nc BK184.out)) : gb191 ≠ gb184)); clear HO189 BK184 HB; have HO189 := n0_; have BK184 := n1_; have HB := n2_; have BK191 := n3_; have GW191 := n4_; have GE191 := n5_; have NB184_191 := n6_; have NB191_184 := n7_; clear n0_ n1_ n2_ n3_ n4_ n5_ n6_ n7_; clear hb hbox hg; have hnb21 := NB191_184.out; have hnc21 := NB184_191.out; have hcz22_0 := hz BK191.out 0; have hcz22_1 := hz BK191.out 1; have hcz22_2 := hz BK191.out 2; have hfz22_0 := Qm BK191.out 0; have hfz22_1 := Qm BK191.out 1; have hfz22_2 := Qm BK191.out 2; obtain ⟨Ao23, co23, eo23⟩ := Xk HO189.out; subst eo23) | (go_at_call 16; (with_reducible refine (filing_Valid.calls k t185 t186 _ _ t187 false _ ?side1 ?side2 A7.out).mono ?_); (case side1 => refine (Xb (e := 60) (base := w.heap.size) (ok := fun k_ => True) (n := t187.length) (c := co23) ?_).2.2; exact (by (with_reducible repeat (first | apply Xc | apply Xd | apply Xe)); exact (Xf (Xg (p := ⟨gb191,2, none⟩) (Xg (p := ⟨gb191,1, none⟩) (Xg (p := ⟨gb191,0, none⟩) (Kd.R_types HO189.out BK191.out (by decide)) (fun _ hk => hk.2) (.int .i64 t185)) (fun _ hk => hk.2) (.int .i64 t186)) (fun _ hk => hk.2) (.slice Ao23 t187.length co23)) (fun _ h_ => h_.1)))); (case side2 => exact (Xb HO189.out).2.1); rintro e w24 ⟨rfl, hb⟩; have n0_ := Qa (Xh (by (with_reducible repeat (first | apply Xc | apply Xd | apply Xe)); exact (Xf (Xg (p := ⟨gb191,2, none⟩) (Xg (p := ⟨gb191,1, none⟩) (Xg (p := ⟨gb191,0, none⟩) (Kd.R_types HO189.out BK191.out (by decide)) (fun _ hk => hk.2) (.int .i64 t185)) (fun _ hk => hk.2) (.int .i64 t186)) (fun _ hk => hk.2) (.slice Ao23 t187.length co23)) (fun _ h_ => h_.1))) hb); have n1_ := Qa (Qb (g := gb184) (o := .cells #[.int .i64 0, .int .i64 0, .slice none 0 0] 25 (0,0)) (by (with_reducible repeat (first | refine Qj ?_ _ | refine Qk ?_ | refine Ql ?_ _)); refine Qc ?_ NB184_191.out _; (with_reducible repeat (first | refine Qj ?_ _ | refine Qk ?_ | refine Ql ?_ _)); refine Qc ?_ NB184_191.out _; (with_reducible repeat (first | refine Qj ?_ _ | refine Qk ?_ | refine Ql ?_ _)); refine Qc ?_ NB184_191.out _; (with_reducible repeat (first | refine Qj ?_ _ | refine Qk ?_ | refine Ql ?_ _)); exact BK184.out) hb); have n2_ := Qa (Qb (g := gb191) (o := .cells #[.int .i64 t185, .int .i64 t186, .slice Ao23 t187.length co23] 25 (0,0)) (by (with_reducible repeat (first | refine Qj ?_ _ | refine Qk ?_ | refine Ql ?_ _)); refine Qo (cs := #[.int .i64 t185, .int .i64 t186, .slice none 0 0]) ?_ 2 _ rfl; (with_reducible repeat (first | refine Qj ?_ _ | refine Qk ?_ | refine Ql ?_ _)); refine Qo (cs := #[.int .i64 t185, .int .i64 0, .slice none 0 0]) ?_ 1 _ rfl; (with_reducible repeat (first | refine Qj ?_ _ | refine Qk ?_ | refine Ql ?_ _)); refine Qo (cs := #[.int .i64 0, .int .i64 0, .slice none 0 0]) ?_ 0 _ rfl; (with_reducible repeat (first | refine Qj ?_ _ | refine Qk ?_ | refine Ql ?_ _)); exact BK191.out) hb); have n3_ := Qa (Qh (bl HB.out) hb); clear HO189 BK184; clear BK191 HB; have HO189 := n0_; have BK184 := n1_; have BK191 := n2_; have HB := n3_; clear n0_ n1_ n2_ n3_; (try clear hb); have hcz25_0 := hz BK184.out 0; have hcz25_1 := hz BK184.out 1; have hcz25_2 := hz BK184.out 2; have hfz25_0 := Qm BK184.out 0; have hfz25_1 := Qm BK184.out 1; have hfz25_2 := Qm BK184.out 2))
   refine Qz (Xa rfl _ _ gb184 25 #[.int .i64 0, .int .i64 0, .slice none 0 0] (0,0) _ rfl (by (with_reducible repeat (first | refine Qj ?_ _ | refine Qk ?_ | refine Ql ?_ _)); refine Qo (cs := #[.int .i64 0, .int .i64 0, .slice none 0 0]) ?_ 2 _ rfl; (with_reducible repeat (first | refine Qj ?_ _ | refine Qk ?_ | refine Ql ?_ _)); refine Qo (cs := #[.int .i64 0, .int .i64 0, .slice none 0 0]) ?_ 1 _ rfl; (with_reducible repeat (first | refine Qj ?_ _ | refine Qk ?_ | refine Ql ?_ _)); refine Qo (cs := #[.int .i64 0, .int .i64 0, .slice none 0 0]) ?_ 0 _ rfl; (with_reducible repeat (first | refine Qj ?_ _ | refine Qk ?_ | refine Ql ?_ _)); exact BK184.out) Tryz.underlying25 rfl (by kernel_rfl)) rfl ?_
   exact ⟨_, by first | rfl | (simp [errW_none, errW_some] <;> rfl) | (simp [*, errW_none, errW_some] <;> rfl), by first | exact Kd.R_nil _ _ _ _ _ | exact Kd.N_nil _ _ _ _ _ | exact Kd.V_nil _ _ _ _ _ | exact Kd.Q_nil _ _ _ _ _ | exact Kd.S_nil _ _ _ _ _, bl HB.out⟩
 replace c6 := Bool.eq_false_iff.mpr c6
 subst c6
 have H1 : (some (0,0, ([] : List (S60)), 6)) = some (r1, r2, r3, r4) := by rw [if_neg (show ¬ (false = true) by decide)] at H; exact H
 clear H
 have H := H1
 clear H1
 simp only [Option.some.injEq, Prod.mk.injEq] at H
 obtain ⟨rfl, rfl, rfl, rfl⟩ := H
 go_enter Tryz.func19, Tryz.ntmps19
 go_wp2_with (first | ((with_reducible refine Qx (N := 2) rfl ?_); refine Qv ?hg (N := 2) ?hd (cs := #[.int .i64 0, .int .i64 0, .slice none 0 0]) (t := 25) ?hr ?_; (case hd => rfl); (case hg => rfl); (case hr => first | (go_simp; done) | (go_simp; rfl)); intro gb184 hg w26 hbox hb; have n0_ := Qa (Qh (bl HB.out) hb); have n1_ := Qa (hbox); have n2_ := Qa ((by rw [hg]; exact (Qi (bl HB.out)) : w.heap.size ≤ gb184)); have n3_ := Qa ((by rw [hg]; exact (Qi (bl HB.out)) : w.heap.size ≤ gb184)); clear HB; have HB := n0_; have BK184 := n1_; have GW184 := n2_; have GE184 := n3_; clear n0_ n1_ n2_ n3_; clear hb hbox hg) | ((with_reducible refine Qw (f := 46) rfl ?_); refine gc (some 12) Tryz.func46 #[.string a0] ?_; (with_reducible refine (filing_read.calls k a0 t185 t186 t187 false _ ?side1 A5.out).mono ?_); (case side1 => exact Tabs.below HT.out (bl HB.out)); rintro e w27 ⟨v188, rfl, ho0, hb⟩; refine ⟨_, rfl, ?_⟩; have n0_ := Qa (Kd.R_lower ho0 (Qi (bl HB.out))); have n1_ := Qa (Qb (nc BK184.out) hb); have n2_ := Qa (Qh (bl HB.out) hb); clear BK184 HB; have HO189 := n0_; have BK184 := n1_; have HB := n2_; clear n0_ n1_ n2_; (try clear hb); (try clear ho0)) | ((with_reducible refine Qx (N := 4) rfl ?_); refine Qv ?hg (N := 4) ?hd (cs := #[.int .i64 0, .int .i64 0, .slice none 0 0]) (t := 25) ?hr ?_; (case hd => rfl); (case hg => rfl); (case hr => first | (go_simp; done) | (go_simp; rfl)); intro gb191 hg w28 hbox hb; have n0_ := Qa (Xh (kr HO189.out) hb); have n1_ := Qa (Qb (nc BK184.out) hb); have n2_ := Qa (Qh (bl HB.out) hb); have n3_ := Qa (hbox); have n4_ := Qa ((by rw [hg]; exact (Qi (bl HB.out)) : w.heap.size ≤ gb191)); have n5_ := Qa ((by rw [hg]; exact (Qi (bl HB.out)) : w.heap.size ≤ gb191)); have n6_ := Qa ((by rw [hg]; exact Nat.ne_of_lt (blk_lt (nc BK184.out)) : gb184 ≠ gb191)); have n7_ := Qa ((by rw [hg]; exact Nat.ne_of_gt (blk_lt (nc BK184.out)) : gb191 ≠ gb184)); clear HO189 BK184 HB; have HO189 := n0_; have BK184 := n1_; have HB := n2_; have BK191 := n3_; have GW191 := n4_; have GE191 := n5_; have NB184_191 := n6_; have NB191_184 := n7_; clear n0_ n1_ n2_ n3_ n4_ n5_ n6_ n7_; clear hb hbox hg; have hnb29 := NB191_184.out; have hnc29 := NB184_191.out; have hcz30_0 := hz BK191.out 0; have hcz30_1 := hz BK191.out 1; have hcz30_2 := hz BK191.out 2; have hfz30_0 := Qm BK191.out 0; have hfz30_1 := Qm BK191.out 1; have hfz30_2 := Qm BK191.out 2; obtain ⟨Ao31, co31, eo31⟩ := Xk HO189.out; subst eo31; have hcz32_0 := hz BK184.out 0; have hcz32_1 := hz BK184.out 1; have hcz32_2 := hz BK184.out 2; have hfz32_0 := Qm BK184.out 0; have hfz32_1 := Qm BK184.out 1; have hfz32_2 := Qm BK184.out 2))
 refine Qz (Xa rfl _ _ gb184 25 #[.int .i64 0, .int .i64 0, .slice none 0 0] (0,0) _ rfl (by (with_reducible repeat (first | refine Qj ?_ _ | refine Qk ?_ | refine Ql ?_ _)); refine Qo (cs := #[.int .i64 0, .int .i64 0, .slice none 0 0]) ?_ 2 _ rfl; (with_reducible repeat (first | refine Qj ?_ _ | refine Qk ?_ | refine Ql ?_ _)); refine Qo (cs := #[.int .i64 0, .int .i64 0, .slice none 0 0]) ?_ 1 _ rfl; (with_reducible repeat (first | refine Qj ?_ _ | refine Qk ?_ | refine Ql ?_ _)); refine Qo (cs := #[.int .i64 0, .int .i64 0, .slice none 0 0]) ?_ 0 _ rfl; (with_reducible repeat (first | refine Qj ?_ _ | refine Qk ?_ | refine Ql ?_ _)); refine Qc ?_ NB184_191.out _; (with_reducible repeat (first | refine Qj ?_ _ | refine Qk ?_ | refine Ql ?_ _)); refine Qc ?_ NB184_191.out _; (with_reducible repeat (first | refine Qj ?_ _ | refine Qk ?_ | refine Ql ?_ _)); refine Qc ?_ NB184_191.out _; (with_reducible repeat (first | refine Qj ?_ _ | refine Qk ?_ | refine Ql ?_ _)); exact BK184.out) Tryz.underlying25 rfl (by kernel_rfl)) rfl ?_
 exact ⟨_, by first | rfl | (simp [errW_none, errW_some] <;> rfl) | (simp [*, errW_none, errW_some] <;> rfl), by first | exact Kd.R_nil _ _ _ _ _ | exact Kd.N_nil _ _ _ _ _ | exact Kd.V_nil _ _ _ _ _ | exact Kd.Q_nil _ _ _ _ _ | exact Kd.S_nil _ _ _ _ _, bl HB.out⟩
end Go.Proofs.YtejgfblphgcgkaaGreatDoor.P
