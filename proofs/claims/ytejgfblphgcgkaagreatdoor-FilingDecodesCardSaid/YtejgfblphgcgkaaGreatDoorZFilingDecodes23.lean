/- Texts for the law FilingDecodes (kept out of a larger one). -/
import Derived.Test.YtejgfblphgcgkaaGreatDoorZFilingDecodes9
import Derived.Maps.RangeWalk
import Derived.WalkKit
import Derived.Below
import Derived.Test.YtejgfblphgcgkaaGreatDoorZFilingDecodes22
namespace Go.Proofs.YtejgfblphgcgkaaGreatDoor.P
set_option linter.unusedVariables false
set_option linter.unusedSimpArgs false
open Go Go.RowKit Go.Maps Go.ChangeMaps Go.MapKept Go.WideShapes Go.Proofs.YtejgfblphgcgkaaGreatDoorW.PrintWords Go.Proofs.YtejgfblphgcgkaaGreatDoorW.PrintLast Go.Proofs.YtejgfblphgcgkaaGreatDoorW.PrintMore
def authR (v : Value) : Option (DataW Value × List MemPlace) := some (.held v, [])
def authZ : Value := .agg #[.int .i64 0, .int .i64 0, .slice none 0 0]
theorem authKeyed : Keyed Tryz.prog 3 := int_keyed Tryz.underlying3
structure IsAuth (w0 W : World) (g m n : Nat) (D : DataW Value) : Prop where
 box : W.heap[g]? = some (Obj.cells #[.map (some m)] 92 (0, 0))
 own : W.ownsMap Tryz.prog 3 authR m n D
 geG : w0.heap.size ≤ g
 geM : w0.heap.size ≤ m
 ne : m ≠ g
 below : Below w0.heap.size w0 W
 well : ∀ kl, ∃ a b c, D.atKey kl (.held authZ) = .held (.agg #[.int .i64 a, .int .i64 b, c])
theorem IsAuth.step {w0 W W1 : World} {g m n : Nat} {D : DataW Value} (h : IsAuth w0 W g m n D) (hb : Below W.heap.size W W1) : IsAuth w0 W1 g m n D :=
 ⟨blk_below h.box hb, h.own.kept (grown_of_below hb none) (by simp), h.geG, h.geM, h.ne, below_step h.below hb, h.well⟩
theorem map_nil_no (m : Nat) (w : World) : (binOp .eql 90 (.map (some m)) (.map none)).run Tryz.prog w = .ok (.bool false) w := by kernel_rfl
theorem step_alloc (w : World) (o : Obj) : Below w.heap.size w (w.alloc o).drew := below_drew1 (below_alloc (Below.refl _ _) _)
def verV : Value → Int
 | .agg cs => (match (cs[1]? : Option Value) with | some (Value.int _ x) => x | _ => 0)
 | _ => 0
def verD (D : DataW Value) (p : Int) : Int := match D.atKey (.int .i64 p) (.held authZ) with | .held v => verV v | _ => 0
def subC (D : DataW Value) (p v e : Int) : Int := if e ≠ 0 then e else if v ≤ verD D p then 8 else if wrap64 (verD D p + 1) < v then 16 else 0
theorem well_nil : ∀ kl, ∃ a b c, (DataW.map [] : DataW Value).atKey kl (.held authZ) = .held (.agg #[.int .i64 a, .int .i64 b, c]) := fun kl => ⟨0, 0, .slice none 0 0, rfl⟩
theorem well_put {D : DataW Value} (hD : IsMap D) (h : ∀ kl, ∃ a b c, D.atKey kl (.held authZ) = .held (.agg #[.int .i64 a, .int .i64 b, c])) (p v : Int) (sv : Value) (q : Int) :
 ∀ kl, ∃ a b c, (D.put (.int .i64 q) (.held (.agg #[.int .i64 p, .int .i64 v, sv]))).atKey kl (.held authZ) = .held (.agg #[.int .i64 a, .int .i64 b, c]) := by
 intro kl
 by_cases e : kl = .int .i64 q
 · subst e
   exact ⟨p, v, sv, atKey_put_same hD (by show True; trivial) _ _⟩
 · obtain ⟨a, b, c, h1⟩ := h kl
   exact ⟨a, b, c, (atKey_put_other e _ _).trans h1⟩
theorem auth_zero (w : World) : (zeroValue 25).run Tryz.prog w = .ok authZ w := by kernel_rfl
theorem IsAuth.look {w0 W : World} {g m n : Nat} {D : DataW Value} (h : IsAuth w0 W g m n D) {p : Int} (hp : (Lit.int .i64 p).wf = true) :
 ∃ a c, (Instr.lookup 90 (.map (some m)) (.int .i64 p) false).run Tryz.prog W = .ok (.agg #[.int .i64 a, .int .i64 (verD D p), c]) W := by
 obtain ⟨v, ps, h1, h2⟩ := h.own.lookup authKeyed Tryz.underlying90 (auth_zero W) (zd := .held authZ) (zp := []) rfl (keyOf_int_mk Tryz.underlying3 hp)
 obtain ⟨a, b, c, h3⟩ := h.well (.int .i64 p)
 have h4 : DataW.held v = D.atKey (.int .i64 p) (.held authZ) := congrArg Prod.fst (Option.some.inj h2)
 rw [h3] at h4
 obtain rfl := DataW.held.inj h4
 have e : verD D p = b := by unfold verD; rw [h3]; rfl
 rw [e]
 exact ⟨a, c, h1⟩
theorem IsAuth.put {w0 W : World} {g m n : Nat} {D : DataW Value} (h : IsAuth w0 W g m n D) (hn : n < maxLen) {q : Int} (hq : (Lit.int .i64 q).wf = true) (p v : Int) (sv : Value) :
 ∃ W', (Instr.mapUpdate 90 (.map (some m)) (.int .i64 q) (.agg #[.int .i64 p, .int .i64 v, sv])).run Tryz.prog W = .ok () W' ∧ IsAuth w0 W' g m (n + 1) (D.put (.int .i64 q) (.held (.agg #[.int .i64 p, .int .i64 v, sv]))) ∧ W.grownBy W' (some m) := by
 obtain ⟨W', h1, h2, h3⟩ := h.own.update authKeyed Tryz.underlying90 hn (keyOf_int_mk Tryz.underlying3 hq) (val := .agg #[.int .i64 p, .int .i64 v, sv]) (d := .held (.agg #[.int .i64 p, .int .i64 v, sv])) (ps := []) rfl
 refine ⟨W', h1, ⟨?_, h2, h.geG, h.geM, h.ne, ?_, well_put h.own.isMap h.well p v sv q⟩, h3⟩
 · exact (h3.block g (Array.getElem?_eq_some_iff.1 h.box).1 (by simp; exact fun e => h.ne e.symm)).trans h.box
 · exact h.below.grown h3 h.below.size (fun k hk => by cases hk; exact h.geM)
theorem filing_New.calls (w : World) : Calls Tryz.prog 23 #[] w fun e w' => e = .returned (.pointer (some ⟨w.heap.size + 1, 0, none⟩)) ∧ IsAuth w w' (w.heap.size + 1) w.heap.size 0 (.map []) := by
 have hmm := @run_makeMap Tryz.prog
 go_enter Tryz.func23, Tryz.ntmps23
 go_wp2
 go_ret
 refine ⟨rfl, ?_, (World.ownsMap_made w _ _ _).alloc _, by omega, Nat.le_refl _, by omega, below_alloc (below_alloc (Below.refl _ _) _) _, well_nil⟩
 have h := blk_new (w.alloc (.map #[] 0)) (.cells #[.map (some w.heap.size)] 92)
 have e : (w.alloc (.map #[] 0)).heap.size = w.heap.size + 1 := by simp
 rw [e] at h
 exact h
def sub_T6 : Bool × List (List Nat × List Nat) := (true, [([], []), ([0], [0]), ([1], [1]), ([2], [2]), ([], []), ([4], [4]), ([3, 5], [3, 5]), ([6], [6]), ([7, 0, 1, 2, 3, 4, 5, 6, 7], [7])])
def sub_B6 : List Nat := [0, 1, 3, 7, 0, 16, 63, 127, 255]
theorem sub_tab6 : rtab .any (opsOf Tryz.f24 6) = sub_T6 := by kernel_rfl
theorem sub_bits6 : waitsOk sub_T6.2 sub_B6 = true := by kernel_rfl
def sub_T13 : Bool × List (List Nat × List Nat) := (true, [([], []), ([0], [0]), ([1], [1]), ([2], [2]), ([], []), ([4], [4]), ([], []), ([3, 5, 6, 0, 1, 2, 3, 4, 5, 6], [3, 5, 6])])
def sub_B13 : List Nat := [0, 1, 3, 7, 0, 16, 0, 127]
theorem sub_tab13 : rtab .any (opsOf Tryz.f24 13) = sub_T13 := by kernel_rfl
theorem sub_bits13 : waitsOk sub_T13.2 sub_B13 = true := by kernel_rfl
set_option maxRecDepth 100000 in
set_option maxHeartbeats 2000000 in
theorem submit_calls (k : Nat) (w0 w : World) (g m n : Nat) (D : DataW Value) (s : ByteArray) (p v e : Int) (l : List S60) (hI : IsAuth w0 w g m n D) (hT : Tabs w) (hn : n < maxLen) (hp : (Lit.int .i64 p).wf = true) (hd : filing_Decode.f k s = some (p, v, l, e)) :
 Calls Tryz.prog 24 #[.pointer (some ⟨g, 0, none⟩), .string s] w fun e' w' => e' = .returned (.int .i64 (subC D p v e)) ∧ w.grownBy w' (some m) ∧
  ((subC D p v e ≠ 0 ∧ IsAuth w0 w' g m n D) ∨ (subC D p v e = 0 ∧ ∃ sv, IsAuth w0 w' g m (n + 1) (D.put (.int .i64 p) (.held (.agg #[.int .i64 p, .int .i64 v, sv]))))) := by
 have HI := Aside0.mk hI
 have HT := Aside0.mk hT
 have HD := Aside0.mk hd
 have HP := Aside0.mk hp
 have HN := Aside0.mk hn
 have hu25 := Tryz.underlying25
 have hmm := @run_makeMap Tryz.prog
 have hmn := map_nil_no m
 clear hI hT hd hp hn
 by_cases he : e = 0
 · subst he
   go_enter Tryz.func24, Tryz.ntmps24
   go_upto_region 6 with (go_at_call 19; (with_reducible refine (filing_Decode.calls k _ _ _ _ _ _ HT.out HD.out).mono ?_); rintro e w1 ⟨sv, rfl, hR, hb⟩; have HB := Aside0.mk hb; obtain ⟨AA, cc, es⟩ := Kd.R_slice hR; subst es; have HR := Aside0.mk hR; clear hb hR)
   have IA := Aside0.mk ((HI.out.step HB.out).step (step_alloc w1 (.cells #[.int .i64 p, .int .i64 v, .slice AA l.length cc] 25)))
   have BX := Aside0.mk (show (w1.alloc (.cells #[.int .i64 p, .int .i64 v, .slice AA l.length cc] 25)).drew.heap[w1.heap.size]? = some (Obj.cells #[.int .i64 p, .int .i64 v, .slice AA l.length cc] 25 (0, 0)) from blk_new w1 _)
   have GW := Aside0.mk (below_step HB.out (step_alloc w1 (.cells #[.int .i64 p, .int .i64 v, .slice AA l.length cc] 25)))
   obtain ⟨va, vc, hlk⟩ := IA.out.look HP.out
   have LK := Aside0.mk hlk
   clear hlk HI HB HR
   refine start_ (n := 9) (S := fun w' => True) (ds := []) #[false, false, false, false, false, false, false, false, false] (by kernel_rfl) rfl rfl trivial (fun hHeld => ?_)
   refine with_tabW sub_tab6 sub_bits6 (fun HT_ HW_ => ?_)
   generalize (w1.alloc (.cells #[.int .i64 p, .int .i64 v, .slice AA l.length cc] 25)).drew = ws at IA BX GW LK ⊢
   generalize w1.heap.size = bx at BX ⊢
   refine pure_ (i := 0) (N := some 18) (v := ?_) (a' := ?_) #[true, false, false, false, false, false, false, false, false] rfl rfl (by kernel_rfl) (fun _ _ _ h => h) (Or.inl ⟨by rfl, ?_⟩) ?_ ?_
   rotate_left
   · intro w'
     go_simp
     with_reducible rfl
   rotate_left
   · simp only [Act.put, List.setIfInBounds_toArray, List.set_cons_zero, List.set_cons_succ, i64_w, i32_w]
     rfl
   refine pure_ (i := 4) (N := some 22) (v := ?_) (a' := ?_) #[true, false, false, false, true, false, false, false, false] rfl rfl (by kernel_rfl) (fun _ _ _ h => h) (Or.inl ⟨by rfl, ?_⟩) ?_ ?_
   rotate_left
   · intro w'
     go_simp
     with_reducible rfl
   rotate_left
   · simp only [Act.put, List.setIfInBounds_toArray, List.set_cons_zero, List.set_cons_succ, i64_w, i32_w]
     rfl
   refine inv_at [1, 2, 3, 5, 6, 7, 8] (fun a0_ b a w' => a = putSel a0_ b [(1, 19, .pointer (some ⟨g, 0, none⟩)), (2, 20, .pointer (some ⟨g, 0, none⟩)), (3, 21, .map (some m)), (5, 23, .int .i64 p), (6, 24, .agg #[.int .i64 va, .int .i64 (verD D p), vc]), (7, 25, .int .i64 (verD D p)), (8, 7, .int .i64 (verD D p))] ∧ (IsAuth w0 w' g m n D) ∧ (w'.heap[bx]? = some (Obj.cells #[.int .i64 p, .int .i64 v, .slice AA l.length cc] 25 (0, 0))) ∧ (Below w.heap.size w w') ∧ ((Instr.lookup 90 (.map (some m)) (.int .i64 p) false).run Tryz.prog w' = .ok (.agg #[.int .i64 va, .int .i64 (verD D p), vc]) w')) HT_.out HW_.out (by kernel_rfl) (by kernel_rfl) ?_ ?_ ?_
   · exact ⟨by simp only [putSel, Bool.false_eq_true, if_false], IA.out, BX.out, GW.out, LK.out⟩
   · skip
     clear BX GW IA LK
     refine steps_cons ?_ ?_
     · rintro b a w' ⟨ha, Q_IA, Q_BX, Q_GW, Q_LK⟩ hb_ hon hoff
       refine ⟨_, rfl, fun K hK => ?_⟩
       have e18 : a.tmps[18]? = some (.pointer (some ⟨g, 0, none⟩)) := by rw [ha]; exact (putSel_off rfl).trans rfl
       replace ha := Aside0.mk ha
       have IA := Aside0.mk Q_IA
       have BX := Aside0.mk Q_BX
       have GW := Aside0.mk Q_GW
       have LK := Aside0.mk Q_LK
       refine value_ (w1 := w') (v := .pointer (some ⟨g, 0, none⟩)) (by rfl) rfl ?_ ?_
       · go_simp
         (try simp only [i64_w])
         try rfl
       refine hK.out _ _ ⟨(by rw [ha.out]; exact putSel_upk 0 hb_ rfl rfl rfl), Q_IA, Q_BX, Q_GW, Q_LK⟩
     refine steps_cons ?_ ?_
     · rintro b a w' ⟨ha, Q_IA, Q_BX, Q_GW, Q_LK⟩ hb_ hon hoff
       refine ⟨_, rfl, fun K hK => ?_⟩
       have e19 : a.tmps[19]? = some (.pointer (some ⟨g, 0, none⟩)) := by rw [ha]; exact putSel_on (e := (1, 19, .pointer (some ⟨g, 0, none⟩))) 0 rfl rfl (hon 1 (by kernel_rfl)) rfl
       replace ha := Aside0.mk ha
       have IA := Aside0.mk Q_IA
       have BX := Aside0.mk Q_BX
       have GW := Aside0.mk Q_GW
       have LK := Aside0.mk Q_LK
       refine value_ (w1 := w') (v := .pointer (some ⟨g, 0, none⟩)) (by rfl) rfl ?_ ?_
       · go_simp
         (try simp only [i64_w])
         try rfl
       refine hK.out _ _ ⟨(by rw [ha.out]; exact putSel_upk 1 hb_ rfl rfl rfl), Q_IA, Q_BX, Q_GW, Q_LK⟩
     refine steps_cons ?_ ?_
     · rintro b a w' ⟨ha, Q_IA, Q_BX, Q_GW, Q_LK⟩ hb_ hon hoff
       refine ⟨_, rfl, fun K hK => ?_⟩
       have e20 : a.tmps[20]? = some (.pointer (some ⟨g, 0, none⟩)) := by rw [ha]; exact putSel_on (e := (2, 20, .pointer (some ⟨g, 0, none⟩))) 1 rfl rfl (hon 2 (by kernel_rfl)) rfl
       replace ha := Aside0.mk ha
       have IA := Aside0.mk Q_IA
       have BX := Aside0.mk Q_BX
       have GW := Aside0.mk Q_GW
       have LK := Aside0.mk Q_LK
       have hc0 : w'.cell? ⟨g, 0, none⟩ = some (.map (some m)) := (blk_cell IA.out.box 0).trans rfl
       refine value_ (w1 := w') (v := .map (some m)) (by rfl) rfl ?_ ?_
       · go_simp
         (try simp only [i64_w])
         try rfl
       refine hK.out _ _ ⟨(by rw [ha.out]; exact putSel_upk 2 hb_ rfl rfl rfl), Q_IA, Q_BX, Q_GW, Q_LK⟩
     refine steps_cons ?_ ?_
     · rintro b a w' ⟨ha, Q_IA, Q_BX, Q_GW, Q_LK⟩ hb_ hon hoff
       refine ⟨_, rfl, fun K hK => ?_⟩
       have e22 : a.tmps[22]? = some (.pointer (some ⟨bx, 0, none⟩)) := by rw [ha]; exact (putSel_off rfl).trans rfl
       replace ha := Aside0.mk ha
       have IA := Aside0.mk Q_IA
       have BX := Aside0.mk Q_BX
       have GW := Aside0.mk Q_GW
       have LK := Aside0.mk Q_LK
       have hb0 : w'.cell? ⟨bx, 0, none⟩ = some (.int .i64 p) := (blk_cell BX.out 0).trans rfl
       refine value_ (w1 := w') (v := .int .i64 p) (by rfl) rfl ?_ ?_
       · go_simp
         (try simp only [i64_w])
         try rfl
       refine hK.out _ _ ⟨(by rw [ha.out]; exact putSel_upk 3 hb_ rfl rfl rfl), Q_IA, Q_BX, Q_GW, Q_LK⟩
     refine steps_cons ?_ ?_
     · rintro b a w' ⟨ha, Q_IA, Q_BX, Q_GW, Q_LK⟩ hb_ hon hoff
       refine ⟨_, rfl, fun K hK => ?_⟩
       have e21 : a.tmps[21]? = some (.map (some m)) := by rw [ha]; exact putSel_on (e := (3, 21, .map (some m))) 2 rfl rfl (hon 3 (by kernel_rfl)) rfl
       have e23 : a.tmps[23]? = some (.int .i64 p) := by rw [ha]; exact putSel_on (e := (5, 23, .int .i64 p)) 3 rfl rfl (hon 5 (by kernel_rfl)) rfl
       replace ha := Aside0.mk ha
       have IA := Aside0.mk Q_IA
       have BX := Aside0.mk Q_BX
       have GW := Aside0.mk Q_GW
       have LK := Aside0.mk Q_LK
       have e := LK.out
       refine value_ (w1 := w') (v := .agg #[.int .i64 va, .int .i64 (verD D p), vc]) (by rfl) rfl ?_ ?_
       · go_simp
         (try simp only [i64_w])
         try rfl
       refine hK.out _ _ ⟨(by rw [ha.out]; exact putSel_upk 4 hb_ rfl rfl rfl), Q_IA, Q_BX, Q_GW, Q_LK⟩
     refine steps_cons ?_ ?_
     · rintro b a w' ⟨ha, Q_IA, Q_BX, Q_GW, Q_LK⟩ hb_ hon hoff
       refine ⟨_, rfl, fun K hK => ?_⟩
       have e24 : a.tmps[24]? = some (.agg #[.int .i64 va, .int .i64 (verD D p), vc]) := by rw [ha]; exact putSel_on (e := (6, 24, .agg #[.int .i64 va, .int .i64 (verD D p), vc])) 4 rfl rfl (hon 6 (by kernel_rfl)) rfl
       replace ha := Aside0.mk ha
       have IA := Aside0.mk Q_IA
       have BX := Aside0.mk Q_BX
       have GW := Aside0.mk Q_GW
       have LK := Aside0.mk Q_LK
       refine value_ (w1 := w') (v := .int .i64 (verD D p)) (by rfl) rfl ?_ ?_
       · go_simp
         (try simp only [i64_w])
         try rfl
       refine hK.out _ _ ⟨(by rw [ha.out]; exact putSel_upk 5 hb_ rfl rfl rfl), Q_IA, Q_BX, Q_GW, Q_LK⟩
     refine steps_cons ?_ ?_
     · rintro b a w' ⟨ha, Q_IA, Q_BX, Q_GW, Q_LK⟩ hb_ hon hoff
       refine ⟨_, rfl, fun K hK => ?_⟩
       have e25 : a.tmps[25]? = some (.int .i64 (verD D p)) := by rw [ha]; exact putSel_on (e := (7, 25, .int .i64 (verD D p))) 5 rfl rfl (hon 7 (by kernel_rfl)) rfl
       replace ha := Aside0.mk ha
       have IA := Aside0.mk Q_IA
       have BX := Aside0.mk Q_BX
       have GW := Aside0.mk Q_GW
       have LK := Aside0.mk Q_LK
       refine value_ (w1 := w') (v := .int .i64 (verD D p)) (by rfl) rfl ?_ ?_
       · go_simp
         (try simp only [i64_w])
         try rfl
       refine hK.out _ _ ⟨(by rw [ha.out]; exact putSel_upk 6 hb_ rfl rfl rfl), Q_IA, Q_BX, Q_GW, Q_LK⟩
     exact steps_nil
   · rintro b a w' hall ⟨ha, Q_IA, Q_BX, Q_GW, Q_LK⟩
     clear BX GW IA LK
     have hb1_ := hall 1 (by kernel_rfl)
     have hb2_ := hall 2 (by kernel_rfl)
     have hb3_ := hall 3 (by kernel_rfl)
     have hb5_ := hall 5 (by kernel_rfl)
     have hb6_ := hall 6 (by kernel_rfl)
     have hb7_ := hall 7 (by kernel_rfl)
     have hb8_ := hall 8 (by kernel_rfl)
     subst ha
     simp only [putSel, hb1_, hb2_, hb3_, hb5_, hb6_, hb7_, hb8_, if_true, Act.put, List.setIfInBounds_toArray, List.set_cons_zero, List.set_cons_succ]
     have IA := Aside0.mk Q_IA
     clear Q_IA
     have BX := Aside0.mk Q_BX
     clear Q_BX
     have GW := Aside0.mk Q_GW
     clear Q_GW
     have LK := Aside0.mk Q_LK
     clear Q_LK
     clear hall hb1_ hb2_ hb3_ hb5_ hb6_ hb7_ hb8_
     have hb1 : w'.cell? ⟨bx, 1, none⟩ = some (.int .i64 v) := (blk_cell BX.out 1).trans rfl
     by_cases c1 : v ≤ verD D p
     · have c1b : decide (v ≤ verD D p) = true := decide_eq_true c1
       have E8 := Aside0.mk (show subC D p v 0 = 8 by unfold subC; rw [if_neg (by omega), if_pos c1])
       clear c1
       go_wp2
       go_ret
       exact ⟨by rw [E8.out]; rfl, grown_of_below GW.out _, Or.inl ⟨by rw [E8.out]; decide, IA.out⟩⟩
     · have c1b : decide (v ≤ verD D p) = false := decide_eq_false c1
       by_cases c2 : wrap64 (verD D p + 1) < v
       · have c2b : decide (wrap64 (verD D p + 1) < v) = true := decide_eq_true c2
         have E16 := Aside0.mk (show subC D p v 0 = 16 by unfold subC; rw [if_neg (by omega), if_neg c1, if_pos c2])
         clear c1 c2
         go_wp2
         go_ret
         exact ⟨by rw [E16.out]; rfl, grown_of_below GW.out _, Or.inl ⟨by rw [E16.out]; decide, IA.out⟩⟩
       · have c2b : decide (wrap64 (verD D p + 1) < v) = false := decide_eq_false c2
         have e0 : subC D p v 0 = 0 := by unfold subC; rw [if_neg (by omega), if_neg c1, if_neg c2]
         have hc0 : w'.cell? ⟨g, 0, none⟩ = some (.map (some m)) := (blk_cell IA.out.box 0).trans rfl
         have E0 := Aside0.mk e0
         clear e0 c1 c2
         go_upto_region 13 with (fail)
         have IA_ := Aside0.mk (IA.out.step (below_drew1 (Below.refl _ _)))
         have BX_ := Aside0.mk (blk_drew BX.out)
         have GW_ := Aside0.mk (below_drew1 GW.out)
         obtain ⟨w2, hup, hia, hg2⟩ := IA_.out.put HN.out HP.out p v (.slice AA l.length cc)
         have UP := Aside0.mk hup
         have IA2 := Aside0.mk hia
         have G2 := Aside0.mk ((grown_of_below GW_.out (some m)).trans hg2)
         clear hup hia hg2 IA BX GW LK hb1 hc0 c1b c2b
         have IA := IA_
         have BX := BX_
         clear IA_ BX_ GW_
         refine start_ (n := 8) (S := fun w' => True) (ds := []) #[false, false, false, false, false, false, false, false] (by kernel_rfl) rfl rfl trivial (fun hHeld => ?_)
         refine with_tabW sub_tab13 sub_bits13 (fun HT_ HW_ => ?_)
         generalize w'.drew = wt at IA BX UP ⊢
         refine pure_ (i := 0) (N := some 44) (v := ?_) (a' := ?_) #[true, false, false, false, false, false, false, false] rfl rfl (by kernel_rfl) (fun _ _ _ h => h) (Or.inl ⟨by rfl, ?_⟩) ?_ ?_
         rotate_left
         · intro w'
           go_simp
           with_reducible rfl
         rotate_left
         · simp only [Act.put, List.setIfInBounds_toArray, List.set_cons_zero, List.set_cons_succ, i64_w, i32_w]
           rfl
         refine pure_ (i := 4) (N := some 48) (v := ?_) (a' := ?_) #[true, false, false, false, true, false, false, false] rfl rfl (by kernel_rfl) (fun _ _ _ h => h) (Or.inl ⟨by rfl, ?_⟩) ?_ ?_
         rotate_left
         · intro w'
           go_simp
           with_reducible rfl
         rotate_left
         · simp only [Act.put, List.setIfInBounds_toArray, List.set_cons_zero, List.set_cons_succ, i64_w, i32_w]
           rfl
         refine inv_at [1, 2, 3, 5, 6, 7] (fun a0_ b a w' => a = putSel a0_ b [(1, 45, .pointer (some ⟨g, 0, none⟩)), (2, 46, .pointer (some ⟨g, 0, none⟩)), (3, 47, .map (some m)), (5, 49, .int .i64 p), (6, 50, .agg #[.int .i64 p, .int .i64 v, .slice AA l.length cc])] ∧ (b 7 = false → IsAuth w0 w' g m n D) ∧ (b 7 = false → w'.heap[bx]? = some (Obj.cells #[.int .i64 p, .int .i64 v, .slice AA l.length cc] 25 (0, 0))) ∧ (b 7 = false → (Instr.mapUpdate 90 (.map (some m)) (.int .i64 p) (.agg #[.int .i64 p, .int .i64 v, .slice AA l.length cc])).run Tryz.prog w' = .ok () w2) ∧ (b 7 = true → w' = w2)) HT_.out HW_.out (by kernel_rfl) (by kernel_rfl) ?_ ?_ ?_
         · exact ⟨by simp only [putSel, Bool.false_eq_true, if_false], fun _ => IA.out, fun _ => BX.out, fun _ => UP.out, fun h_ => absurd h_ (by decide)⟩
         · skip
           clear BX IA UP
           refine steps_cons ?_ ?_
           · rintro b a w' ⟨ha, Q_IA, Q_BX, Q_UP, Q_FIN⟩ hb_ hon hoff
             refine ⟨_, rfl, fun K hK => ?_⟩
             have e44 : a.tmps[44]? = some (.pointer (some ⟨g, 0, none⟩)) := by rw [ha]; exact (putSel_off rfl).trans rfl
             replace ha := Aside0.mk ha
             have IA := Aside0.mk (Q_IA (hoff 7 (by kernel_rfl)))
             have BX := Aside0.mk (Q_BX (hoff 7 (by kernel_rfl)))
             have UP := Aside0.mk (Q_UP (hoff 7 (by kernel_rfl)))
             refine value_ (w1 := w') (v := .pointer (some ⟨g, 0, none⟩)) (by rfl) rfl ?_ ?_
             · go_simp
               (try simp only [i64_w])
               try rfl
             refine hK.out _ _ ⟨(by rw [ha.out]; exact putSel_upk 0 hb_ rfl rfl rfl), Q_IA, Q_BX, Q_UP, fun h0_ => absurd ((hoff 7 (by kernel_rfl)).symm.trans h0_) (by decide)⟩
           refine steps_cons ?_ ?_
           · rintro b a w' ⟨ha, Q_IA, Q_BX, Q_UP, Q_FIN⟩ hb_ hon hoff
             refine ⟨_, rfl, fun K hK => ?_⟩
             have e45 : a.tmps[45]? = some (.pointer (some ⟨g, 0, none⟩)) := by rw [ha]; exact putSel_on (e := (1, 45, .pointer (some ⟨g, 0, none⟩))) 0 rfl rfl (hon 1 (by kernel_rfl)) rfl
             replace ha := Aside0.mk ha
             have IA := Aside0.mk (Q_IA (hoff 7 (by kernel_rfl)))
             have BX := Aside0.mk (Q_BX (hoff 7 (by kernel_rfl)))
             have UP := Aside0.mk (Q_UP (hoff 7 (by kernel_rfl)))
             refine value_ (w1 := w') (v := .pointer (some ⟨g, 0, none⟩)) (by rfl) rfl ?_ ?_
             · go_simp
               (try simp only [i64_w])
               try rfl
             refine hK.out _ _ ⟨(by rw [ha.out]; exact putSel_upk 1 hb_ rfl rfl rfl), Q_IA, Q_BX, Q_UP, fun h0_ => absurd ((hoff 7 (by kernel_rfl)).symm.trans h0_) (by decide)⟩
           refine steps_cons ?_ ?_
           · rintro b a w' ⟨ha, Q_IA, Q_BX, Q_UP, Q_FIN⟩ hb_ hon hoff
             refine ⟨_, rfl, fun K hK => ?_⟩
             have e46 : a.tmps[46]? = some (.pointer (some ⟨g, 0, none⟩)) := by rw [ha]; exact putSel_on (e := (2, 46, .pointer (some ⟨g, 0, none⟩))) 1 rfl rfl (hon 2 (by kernel_rfl)) rfl
             replace ha := Aside0.mk ha
             have IA := Aside0.mk (Q_IA (hoff 7 (by kernel_rfl)))
             have BX := Aside0.mk (Q_BX (hoff 7 (by kernel_rfl)))
             have UP := Aside0.mk (Q_UP (hoff 7 (by kernel_rfl)))
             have hc0 : w'.cell? ⟨g, 0, none⟩ = some (.map (some m)) := (blk_cell IA.out.box 0).trans rfl
             refine value_ (w1 := w') (v := .map (some m)) (by rfl) rfl ?_ ?_
             · go_simp
               (try simp only [i64_w])
               try rfl
             refine hK.out _ _ ⟨(by rw [ha.out]; exact putSel_upk 2 hb_ rfl rfl rfl), Q_IA, Q_BX, Q_UP, fun h0_ => absurd ((hoff 7 (by kernel_rfl)).symm.trans h0_) (by decide)⟩
           refine steps_cons ?_ ?_
           · rintro b a w' ⟨ha, Q_IA, Q_BX, Q_UP, Q_FIN⟩ hb_ hon hoff
             refine ⟨_, rfl, fun K hK => ?_⟩
             have e48 : a.tmps[48]? = some (.pointer (some ⟨bx, 0, none⟩)) := by rw [ha]; exact (putSel_off rfl).trans rfl
             replace ha := Aside0.mk ha
             have IA := Aside0.mk (Q_IA (hoff 7 (by kernel_rfl)))
             have BX := Aside0.mk (Q_BX (hoff 7 (by kernel_rfl)))
             have UP := Aside0.mk (Q_UP (hoff 7 (by kernel_rfl)))
             have hb0 : w'.cell? ⟨bx, 0, none⟩ = some (.int .i64 p) := (blk_cell BX.out 0).trans rfl
             refine value_ (w1 := w') (v := .int .i64 p) (by rfl) rfl ?_ ?_
             · go_simp
               (try simp only [i64_w])
               try rfl
             refine hK.out _ _ ⟨(by rw [ha.out]; exact putSel_upk 3 hb_ rfl rfl rfl), Q_IA, Q_BX, Q_UP, fun h0_ => absurd ((hoff 7 (by kernel_rfl)).symm.trans h0_) (by decide)⟩
           refine steps_cons ?_ ?_
           · rintro b a w' ⟨ha, Q_IA, Q_BX, Q_UP, Q_FIN⟩ hb_ hon hoff
             refine ⟨_, rfl, fun K hK => ?_⟩
             have e5 : a.tmps[5]? = some (.pointer (some ⟨bx, 0, none⟩)) := by rw [ha]; exact (putSel_off rfl).trans rfl
             replace ha := Aside0.mk ha
             have IA := Aside0.mk (Q_IA (hoff 7 (by kernel_rfl)))
             have BX := Aside0.mk (Q_BX (hoff 7 (by kernel_rfl)))
             have UP := Aside0.mk (Q_UP (hoff 7 (by kernel_rfl)))
             have hb0 : w'.cell? ⟨bx, 0, none⟩ = some (.int .i64 p) := (blk_cell BX.out 0).trans rfl
             have hb1 : w'.cell? ⟨bx, 1, none⟩ = some (.int .i64 v) := (blk_cell BX.out 1).trans rfl
             have hb2 : w'.cell? ⟨bx, 2, none⟩ = some (.slice AA l.length cc) := (blk_cell BX.out 2).trans rfl
             refine value_ (w1 := w') (v := .agg #[.int .i64 p, .int .i64 v, .slice AA l.length cc]) (by rfl) rfl ?_ ?_
             · go_simp
               (try simp only [i64_w])
               try rfl
             refine hK.out _ _ ⟨(by rw [ha.out]; exact putSel_upk 4 hb_ rfl rfl rfl), Q_IA, Q_BX, Q_UP, fun h0_ => absurd ((hoff 7 (by kernel_rfl)).symm.trans h0_) (by decide)⟩
           refine steps_cons ?_ ?_
           · rintro b a w' ⟨ha, Q_IA, Q_BX, Q_UP, Q_FIN⟩ hb_ hon hoff
             refine ⟨_, rfl, fun K hK => ?_⟩
             have e47 : a.tmps[47]? = some (.map (some m)) := by rw [ha]; exact putSel_on (e := (3, 47, .map (some m))) 2 rfl rfl (hon 3 (by kernel_rfl)) rfl
             have e49 : a.tmps[49]? = some (.int .i64 p) := by rw [ha]; exact putSel_on (e := (5, 49, .int .i64 p)) 3 rfl rfl (hon 5 (by kernel_rfl)) rfl
             have e50 : a.tmps[50]? = some (.agg #[.int .i64 p, .int .i64 v, .slice AA l.length cc]) := by rw [ha]; exact putSel_on (e := (6, 50, .agg #[.int .i64 p, .int .i64 v, .slice AA l.length cc])) 4 rfl rfl (hon 6 (by kernel_rfl)) rfl
             replace ha := Aside0.mk ha
             have IA := Aside0.mk (Q_IA hb_)
             have BX := Aside0.mk (Q_BX hb_)
             have UP := Aside0.mk (Q_UP hb_)
             have e := UP.out
             rw [if_pos (by rfl)]
             unfold Oper.wp
             go_simp
             refine hK.out _ _ ⟨(by rw [ha.out]; exact putSel_none (v := undef) rfl), fun h0_ => absurd ((up_self b 7).symm.trans h0_) (by decide), fun h0_ => absurd ((up_self b 7).symm.trans h0_) (by decide), fun h0_ => absurd ((up_self b 7).symm.trans h0_) (by decide), fun _ => rfl⟩
           exact steps_nil
         · rintro b a w' hall ⟨ha, Q_IA, Q_BX, Q_UP, Q_FIN⟩
           clear BX IA UP
           have hb1_ := hall 1 (by kernel_rfl)
           have hb2_ := hall 2 (by kernel_rfl)
           have hb3_ := hall 3 (by kernel_rfl)
           have hb5_ := hall 5 (by kernel_rfl)
           have hb6_ := hall 6 (by kernel_rfl)
           have hb7_ := hall 7 (by kernel_rfl)
           subst ha
           simp only [putSel, hb1_, hb2_, hb3_, hb5_, hb6_, hb7_, if_true, Act.put, List.setIfInBounds_toArray, List.set_cons_zero, List.set_cons_succ]
           clear Q_IA
           clear Q_BX
           clear Q_UP
           have FIN := Aside0.mk (Q_FIN hb7_)
           clear Q_FIN
           clear hall hb1_ hb2_ hb3_ hb5_ hb6_ hb7_
           have eFin := FIN.out
           subst eFin
           clear FIN
           go_wp2
           go_ret
           exact ⟨by rw [E0.out]; rfl, G2.out, Or.inr ⟨E0.out, .slice AA l.length cc, IA2.out⟩⟩
 · have heb : decide (e = 0) = false := decide_eq_false he
   have hec : (e != 0) = true := by simpa using he
   have E1 := Aside0.mk (show subC D p v e = e by unfold subC; rw [if_pos he])
   have HE := Aside0.mk he
   clear he
   go_enter Tryz.func24, Tryz.ntmps24
   go_wp2_with (go_at_call 19; (with_reducible refine (filing_Decode.calls k _ _ _ _ _ _ HT.out HD.out).mono ?_); rintro e w1 ⟨sv, rfl, hR, hb⟩; have HB := Aside0.mk hb; obtain ⟨AA, cc, es⟩ := Kd.R_slice hR; subst es; clear hb hR)
   go_ret
   have GW := Aside0.mk (below_step HB.out (step_alloc w1 (.cells #[.int .i64 p, .int .i64 v, .slice AA l.length cc] 25)))
   exact ⟨by rw [E1.out]; rfl, grown_of_below (below_step HB.out (below_alloc (Below.refl _ _) _)) _, Or.inl ⟨by rw [E1.out]; exact HE.out, (HI.out.step HB.out).step (below_alloc (Below.refl _ _) _)⟩⟩
end Go.Proofs.YtejgfblphgcgkaaGreatDoor.P
namespace Go.Proofs.YtejgfblphgcgkaaGreatDoor.P
set_option linter.unusedVariables false
set_option linter.unusedSimpArgs false
open Go Go.RowKit Go.Maps Go.ChangeMaps Go.MapKept Go.Proofs.YtejgfblphgcgkaaGreatDoorW.PrintWords Go.Proofs.YtejgfblphgcgkaaGreatDoorW.PrintLast Go.Proofs.YtejgfblphgcgkaaGreatDoorW.PrintMore
def oneB : ByteArray := ⟨#[114, 101, 116, 117, 114, 110, 32, 53, 32, 118, 101, 114, 115, 105, 111, 110, 32, 49, 10, 116, 97, 120, 32, 45, 51, 10, 101, 110, 100, 10]⟩
def twoB : ByteArray := ⟨#[114, 101, 116, 117, 114, 110, 32, 53, 32, 118, 101, 114, 115, 105, 111, 110, 32, 50, 10, 101, 110, 100, 10]⟩
def oneX : S60 := ⟨6, ⟨#[]⟩, -3⟩
def AwakeP (k : Nat) : Prop := filing_Encode.f k 5 1 [oneX] = some (oneB, 0) ∧ filing_Encode.f k 5 2 [] = some (twoB, 0) ∧ filing_Decode.f k oneB = some (5, 1, [oneX], 0) ∧ filing_Decode.f k twoB = some (5, 2, [], 0)
instance : DecidableEq S60 := fun a b => decidable_of_iff (a.f0 = b.f0 ∧ a.f1 = b.f1 ∧ a.f2 = b.f2) (by cases a; cases b; simp)
instance (k : Nat) : Decidable (AwakeP k) := by unfold AwakeP; infer_instance
def payrolllaw43_awake.f (k : Nat) : Option Bool := if AwakeP k then some true else none
theorem verD_put {D : DataW Value} (hD : IsMap D) (p v : Int) (sv : Value) : verD (D.put (.int .i64 p) (.held (.agg #[.int .i64 p, .int .i64 v, sv]))) p = v := by
 unfold verD
 rw [atKey_put_same hD (by show True; trivial)]
 rfl
theorem subC_put {D : DataW Value} (hD : IsMap D) (p u v : Int) (sv : Value) : subC (D.put (.int .i64 p) (.held (.agg #[.int .i64 p, .int .i64 u, sv]))) p v 0 = if v ≤ u then 8 else if wrap64 (u + 1) < v then 16 else 0 := by
 unfold subC
 rw [verD_put hD, if_neg (by omega)]
theorem sub_nil (p v : Int) : subC (.map []) p v 0 = if v ≤ 0 then 8 else if wrap64 (0 + 1) < v then 16 else 0 := by
 have e : verD (.map []) p = 0 := rfl
 unfold subC
 rw [e, if_neg (by omega)]
theorem one_row (w : World) : Kd.C k60 (w.alloc (.cells #[.int .i64 6, .string ⟨#[]⟩, .int .i64 (-3)] 60)) (some ⟨w.heap.size, 0, none⟩) 1 [oneX] := by
 have hR : Kd.R k60 60 (w.alloc (.cells #[.int .i64 6, .string ⟨#[]⟩, .int .i64 (-3)] 60)) w.heap.size (fun _ => True) (.slice (some ⟨w.heap.size, 0, none⟩) 1 1) [oneX] :=
  ⟨fun _ _ => trivial, [.int .i64 6, .string ⟨#[]⟩, .int .i64 (-3)], ⟨rfl, Or.inr ⟨w.heap.size, 1, _, rfl, Nat.le_refl _, blk_new _ _, Nat.le_refl _, by decide, rfl, rfl⟩⟩, Reps.c3 (k60_mkM _ _ _ oneX) (Reps.none _ _)⟩
 exact (Kd.R_reads' hR).2.2
theorem no_row (w : World) : Kd.C k60 w none 0 [] := (Kd.R_reads' (Kd.R_nil k60 60 w 0 (fun _ => True))).2.2
set_option maxRecDepth 100000 in
set_option maxHeartbeats 2000000 in
theorem payrolllaw43_awake.calls (k : Nat) (r : Bool) (w : World) (hT : Tabs w) (h : payrolllaw43_awake.f k = some r) :
 Calls Tryz.prog 9 #[] w fun e w' => e = .returned (.bool r) ∧ Below w.heap.size w w' := by
 unfold payrolllaw43_awake.f at h
 split at h
 · rename_i hp
   obtain rfl := Option.some.inj h
   obtain ⟨h1, h2, h3, h4⟩ := hp
   have E1 := Aside0.mk h1
   have E2 := Aside0.mk h2
   have D1 := Aside0.mk h3
   have D2 := Aside0.mk h4
   have HT := Aside0.mk hT
   have hu25 := Tryz.underlying25
   have hu28 := Tryz.underlying60
   have hs : (oneB.toList = ([114, 101, 116, 117, 114, 110, 32, 53, 32, 118, 101, 114, 115, 105, 111, 110, 32, 49, 10, 116, 97, 120, 32, 45, 51, 10, 101, 110, 100, 10] : List UInt8)) = True := eq_true (by rw [Lib.toList_data]; rfl)
   have B0 := Aside0.mk (below_alloc (Below.refl w.heap.size w) (.cells #[.int .i64 6, .string ⟨#[]⟩, .int .i64 (-3)] 60))
   clear h h1 h2 h3 h4 hT
   go_enter Tryz.func9, Tryz.ntmps9
   go_upto_region 2 with (go_at_call 14; refine (filing_Encode.calls k 5 1 _ 1 [oneX] oneB 0 _ (one_row w) (Nat.le_refl _) (HT.out.below B0.out) E1.out).mono ?_; rintro e w1 ⟨rfl, hb⟩; have B1 := Aside0.mk (below_step B0.out hb); clear hb)
   go_upto_region 3 with (go_at_call 14; refine (filing_Encode.calls k 5 2 none 0 [] twoB 0 _ (no_row _) (Nat.le_refl _) (HT.out.below B1.out) E2.out).mono ?_; rintro e w2 ⟨rfl, hb⟩; have B2 := Aside0.mk (below_step B1.out hb); clear hb)
   go_upto_region 4 with (go_at_call 23; refine (filing_New.calls _).mono ?_; rintro e w3 ⟨rfl, ha⟩; have IA := Aside0.mk ha; have B3 := Aside0.mk (below_step B2.out ha.below); clear ha)
   generalize w2.heap.size + 1 = g at *
   generalize hm : w2.heap.size = m at IA
   have S1 := Aside0.mk (show subC (.map []) 5 2 0 = 16 from (sub_nil _ _).trans (by decide +kernel))
   have S2 := Aside0.mk (show subC (.map []) 5 1 0 = 0 from (sub_nil _ _).trans (by decide +kernel))
   have T1 := Aside0.mk trivial
   go_wp2_with (first
    | (go_at_call 24; have t_ := T1.out; clear t_; refine (submit_calls k _ _ g m 0 (.map []) twoB 5 2 0 [] IA.out (HT.out.below (below_step B2.out IA.out.below)) (by decide) (by decide) D2.out).mono ?_; rintro e w4 ⟨he_, hg_, hc_⟩; rw [S1.out] at he_ hc_; subst he_; clear hg_; have IA_ := Aside0.mk (hc_.elim (fun h => h.2) (fun h => absurd h.1 (by decide))); clear IA; have IA := IA_; clear IA_ hc_ T1; have T2 := Aside0.mk trivial)
    | (go_at_call 24; have t_ := T2.out; clear t_; refine (submit_calls k _ _ g m 0 (.map []) oneB 5 1 0 [oneX] IA.out (HT.out.below (below_step B2.out IA.out.below)) (by decide) (by decide) D1.out).mono ?_; rintro e w4 ⟨he_, hg_, hc_⟩; rw [S2.out] at he_ hc_; subst he_; clear hg_; obtain ⟨sv1, ia_⟩ := hc_.elim (fun h => absurd rfl h.1) (fun h => h.2); have im_ := IA.out.own.isMap; have IA_ := Aside0.mk ia_; clear IA; have IA := IA_; clear IA_ ia_ hc_ T2; have S3 := Aside0.mk (show subC ((DataW.map [] : DataW Value).put (.int .i64 5) (.held (.agg #[.int .i64 5, .int .i64 1, sv1]))) 5 2 0 = 0 from (subC_put im_ _ _ _ _).trans (by decide +kernel)); clear im_; have T3 := Aside0.mk trivial)
    | (go_at_call 24; have t_ := T3.out; clear t_; refine (submit_calls k _ _ g m 1 ((DataW.map [] : DataW Value).put (.int .i64 5) (.held (.agg #[.int .i64 5, .int .i64 1, sv1]))) twoB 5 2 0 [] IA.out (HT.out.below (below_step B2.out IA.out.below)) (by decide) (by decide) D2.out).mono ?_; rintro e w4 ⟨he_, hg_, hc_⟩; rw [S3.out] at he_ hc_; subst he_; clear hg_; obtain ⟨sv2, ia_⟩ := hc_.elim (fun h => absurd rfl h.1) (fun h => h.2); have im_ := IA.out.own.isMap; have IA_ := Aside0.mk ia_; clear IA; have IA := IA_; clear IA_ ia_ hc_ T3; have S4 := Aside0.mk (show subC (((DataW.map [] : DataW Value).put (.int .i64 5) (.held (.agg #[.int .i64 5, .int .i64 1, sv1]))).put (.int .i64 5) (.held (.agg #[.int .i64 5, .int .i64 2, sv2]))) 5 2 0 = 8 from (subC_put im_ _ _ _ _).trans (by decide +kernel)); clear im_; have T4 := Aside0.mk trivial)
    | (go_at_call 24; have t_ := T4.out; clear t_; refine (submit_calls k _ _ g m 2 (((DataW.map [] : DataW Value).put (.int .i64 5) (.held (.agg #[.int .i64 5, .int .i64 1, sv1]))).put (.int .i64 5) (.held (.agg #[.int .i64 5, .int .i64 2, sv2]))) twoB 5 2 0 [] IA.out (HT.out.below (below_step B2.out IA.out.below)) (by decide) (by decide) D2.out).mono ?_; rintro e w4 ⟨he_, hg_, hc_⟩; rw [S4.out] at he_ hc_; subst he_; clear hg_; have IA_ := Aside0.mk (hc_.elim (fun h => h.2) (fun h => absurd h.1 (by decide))); clear IA; have IA := IA_; clear IA_ hc_ T4; have T5 := Aside0.mk trivial))
   go_ret
   refine ⟨?_, below_step B2.out IA.out.below⟩
   show Ending.returned (.bool (oneB.toList == _)) = _
   rw [beq_iff_eq.mpr (of_eq_true hs)]
 · cases h
end Go.Proofs.YtejgfblphgcgkaaGreatDoor.P
