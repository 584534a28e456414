/- Texts for the law PayslipForms (kept out of a larger one). -/
import Derived.Test.YtlanldccamphcaaDoorZPayslipForms11
import Derived.Test.YtlanldccamphcaaDoorZPayslipForms14
import Derived.Test.YtlanldccamphcaaDoorZPayslipForms25
import Derived.Test.YtlanldccamphcaaDoorZPayslipForms26
import Derived.Maps.RangeWalk
import Derived.WalkKit
namespace Go.Proofs.YtlanldccamphcaaDoor.P
set_option linter.unusedVariables false
set_option linter.unusedSimpArgs false
open Go Go.RowKit Go.Maps Go.ChangeMaps Go.MapKept Go.WideShapes Go.Proofs.YtlanldccamphcaaDoorW.PrintWords Go.Proofs.YtlanldccamphcaaDoorW.PrintLast Go.Proofs.YtlanldccamphcaaDoorW.PrintMore
theorem sb_lt {j m n : Nat} (h : j ≤ m) (k : m < n) : (j : Int) < (n : Int) := by omega
theorem sb_max {j m n : Nat} (h : j ≤ m) (k : m < n) (h2 : n ≤ 65536) : j < maxLen := by unfold maxLen; omega
theorem sb_eq {j m : Nat} (h : j ≤ m) (k : ¬ j < m) : j = m := by omega
set_option maxRecDepth 100000 in
theorem sums_bad (k : Nat) (A0 : Option Addr) (c0 : Nat) (l0 : List S23) (w : World) (hr0 : Kd.C k23 w A0 l0.length l0) (m : Nat) (hm : m < l0.length) (hform : ∀ j, j < m → payslip_form.f k (rd_T23 l0 (j : Int)).f0 (rd_T23 l0 (j : Int)).f1 (rd_T23 l0 (j : Int)).f2 = some true) (hbad : payslip_form.f k (rd_T23 l0 (m : Int)).f0 (rd_T23 l0 (m : Int)).f1 (rd_T23 l0 (m : Int)).f2 = some false) (hok : ∀ j, j < m → okX (rd_T23 l0 (j : Int))) (hlen : l0.length ≤ 65536) :
    Calls Tryd.prog 29 #[.slice A0 l0.length c0] w fun e w' => e = .returned (.tuple #[.map none, .int .i64 1]) ∧ Below w.heap.size w w' := by
  have hmm := @run_makeMap Tryd.prog
  have hu23 := Tryd.underlying23
  have HR0 := Aside0.mk hr0
  clear hr0
  have c2b0 : decide (65536 < (l0.length : Int)) = false := decide_eq_false (by omega)
  have c2b1 : decide (65536 < l0.length) = false := decide_eq_false (by omega)
  have HF := Aside0.mk hform
  have HBad := Aside0.mk hbad
  have HM := Aside0.mk hm
  have HK := Aside0.mk hok
  have HL := Aside0.mk hlen
  clear hform hok hlen hbad hm
  go_enter Tryd.func29, Tryd.ntmps29
  go_wp2
  go_loopw [15] (fun i wr => ∃ j : Nat, i = .int .i64 j ∧ Aside0 (j ≤ m) ∧ Aside0 (OwnsS wr w.heap.size j (sumsD (l0.take j))) ∧ Aside0 (Below w.heap.size w wr)) (fun i _ => l0.length - (intOf i).toNat)
  case atStart => exact ⟨0, rfl, ⟨Nat.zero_le _⟩, ⟨World.ownsMap_made _ _ _ _⟩, ⟨(Below.refl _ _).alloc (Nat.le_refl _) _⟩⟩
  case round =>
    obtain ⟨j, rfl, HJ, HO, HB⟩ := hrel
    have c : (j : Int) < (l0.length : Int) := sb_lt HJ.out HM.out
    by_cases cm : j < m
    · have CM := Aside0.mk cm
      clear cm
      have c3 : decide ((j : Int) < (l0.length : Int)) = true := decide_eq_true c
      have c4 : decide (j < l0.length) = true := decide_eq_true (sw_lt c)
      obtain ⟨ad, e0, hx0, hx1, hx2⟩ := at_T23 HR0.out (j : Int) (sw_nonneg j) c
      cases e0
      replace hx0 := (HB.out.cell (World.block_lt_of_cell? w _ hx0)).trans hx0
      replace hx1 := (HB.out.cell (World.block_lt_of_cell? w _ hx1)).trans hx1
      replace hx2 := (HB.out.cell (World.block_lt_of_cell? w _ hx2)).trans hx2
      simp only [Int.toNat_natCast] at hx0 hx1 hx2
      have hget : l0[j]? = some (rd_T23 l0 (j : Int)) := by
        have hj : j < l0.length := sw_lt c
        unfold rd_T23
        rw [Int.toNat_natCast, List.getD_eq_getElem?_getD, List.getElem?_eq_getElem hj]; rfl
      have hmem : rd_T23 l0 (j : Int) ∈ l0 := List.mem_of_getElem? hget
      replace hget := Aside0.mk hget
      have A5 := Aside0.mk (HF.out j CM.out)
      have p0 : (0 ≤ (j : Int)) = True := eq_true (sw_nonneg j)
      have p1 : ((j : Int) < (l0.length : Int)) = True := eq_true c
      have HC := Aside0.mk c
      clear c
      go_upto_region 9 with (first | (go_at_call 27; (with_reducible refine (payslip_form.calls k _ _ _ true _ A5.out).mono ?_); rintro e w8 ⟨rfl, hb⟩))
      have hg : w8.heap[wr.heap.size]? = some (.cells #[.int .i64 (rd_T23 l0 (j : Int)).f0, .string (rd_T23 l0 (j : Int)).f1, .int .i64 (rd_T23 l0 (j : Int)).f2] 23 (0, 0)) :=
        (hb.block _ (by simp)).trans (MapKept.heap_alloc _ _).1
      have HO8 : OwnsS w8 w.heap.size j (sumsD (l0.take j)) := (HO.out.alloc _).kept (grown_of_below hb none) (by simp)
      have HB8 : Below w.heap.size w w8 := below_step (HB.out.alloc HB.out.size _) hb
      have hV := HK.out j CM.out
      obtain ⟨V0, ST, w1, w2, hV0, hlk, hme, hlk1, hes, hg1, hg2, hown2⟩ := entry_add (k := (rd_T23 l0 (j : Int)).f0) (c := (rd_T23 l0 (j : Int)).f1) (NI := (rd_T23 l0 (j : Int)).f2) hV HO8.drew (sb_max HJ.out HM.out HL.out) (wrap64 (numD (sumsD (l0.take j)) (rd_T23 l0 (j : Int)).f0 (rd_T23 l0 (j : Int)).f1 + (rd_T23 l0 (j : Int)).f2)) (wrap64_wf _)
      subst hV0
      have hne : wr.heap.size ≠ w.heap.size := sw_ne HO.out.lt
      have hcell : ∀ W : World, W.heap[wr.heap.size]? = some (.cells #[.int .i64 (rd_T23 l0 (j : Int)).f0, .string (rd_T23 l0 (j : Int)).f1, .int .i64 (rd_T23 l0 (j : Int)).f2] 23 (0, 0)) →
          W.cell? ⟨wr.heap.size, 0, none⟩ = some (.int .i64 (rd_T23 l0 (j : Int)).f0) ∧ W.cell? ⟨wr.heap.size, 1, none⟩ = some (.string (rd_T23 l0 (j : Int)).f1) ∧ W.cell? ⟨wr.heap.size, 2, none⟩ = some (.int .i64 (rd_T23 l0 (j : Int)).f2) :=
        fun W h => ⟨(blk_cell h 0).trans rfl, (blk_cell h 1).trans rfl, (blk_cell h 2).trans rfl⟩
      have hlt8 : wr.heap.size < w8.heap.size := (Array.getElem?_eq_some_iff.1 hg).1
      have hgd1 : w1.heap[wr.heap.size]? = some (.cells #[.int .i64 (rd_T23 l0 (j : Int)).f0, .string (rd_T23 l0 (j : Int)).f1, .int .i64 (rd_T23 l0 (j : Int)).f2] 23 (0, 0)) := (hg1.block _ hlt8 (by simp [hne])).trans hg
      have hgd2 : w2.heap[wr.heap.size]? = some (.cells #[.int .i64 (rd_T23 l0 (j : Int)).f0, .string (rd_T23 l0 (j : Int)).f1, .int .i64 (rd_T23 l0 (j : Int)).f2] 23 (0, 0)) := (hg2.block _ (Nat.lt_of_lt_of_le hlt8 hg1.size) (by simp [hne])).trans hgd1
      have CE := Aside0.mk (hcell w8.drew hg)
      have CE1 := Aside0.mk (hcell w1 hgd1)
      have CE2 := Aside0.mk (hcell w2 hgd2)
      have LK := Aside0.mk hlk
      have ME := Aside0.mk hme
      have LK1 := Aside0.mk hlk1
      have ES1 := Aside0.mk hes
      have HG := Aside0.mk (show Below w.heap.size w w2 from by
        have b0 : Below w.heap.size w w8.drew := below_drew1 HB8
        have b1 := b0.grown hg1 b0.size (fun k hk => by cases hk; exact Nat.le_refl _)
        exact b1.grown hg2 b1.size (fun k hk => by cases hk; exact Nat.le_refl _))
      have HN := Aside0.mk hown2
      clear hlk hme hlk1 hes hg1 hg2 hown2 hg hgd1 hgd2 hcell
      generalize hgV : numD (sumsD (l0.take j)) (rd_T23 l0 (j : Int)).f0 (rd_T23 l0 (j : Int)).f1 = V0 at *
      have HV := Aside0.mk hgV
      clear hgV
      refine start_ (n := 13) (S := fun w' => True) (ds := []) #[false, false, false, false, false, false, false, false, false, false, false, false, false] (by kernel_rfl) rfl rfl trivial (fun hHeld => ?_)
      refine with_tabW sums_tab9 sums_bits9 (fun HT_ HW_ => ?_)
      generalize w8.drew = ws at CE LK ME HG ⊢
      refine pure_ (i := 0) (N := some 22) (v := ?_) (a' := ?_) #[true, false, false, false, false, false, false, false, false, false, false, false, false] rfl rfl (by kernel_rfl) (fun _ _ _ h => h) (Or.inl ⟨by rfl, ?_⟩) ?_ ?_
      rotate_left
      · intro w'
        go_simp
        with_reducible rfl
      rotate_left
      · simp only [Act.put, List.setIfInBounds_toArray, List.set_cons_zero, List.set_cons_succ, i64_w, i32_w]
        rfl
      refine pure_ (i := 1) (N := some 23) (v := ?_) (a' := ?_) #[true, true, false, false, false, false, false, false, false, false, false, false, false] rfl rfl (by kernel_rfl) (fun _ _ _ h => h) (Or.inl ⟨by rfl, ?_⟩) ?_ ?_
      rotate_left
      · intro w'
        go_simp
        with_reducible rfl
      rotate_left
      · simp only [Act.put, List.setIfInBounds_toArray, List.set_cons_zero, List.set_cons_succ, i64_w, i32_w]
        rfl
      refine pure_ (i := 3) (N := some 25) (v := ?_) (a' := ?_) #[true, true, false, true, false, false, false, false, false, false, false, false, false] rfl rfl (by kernel_rfl) (fun _ _ _ h => h) (Or.inl ⟨by rfl, ?_⟩) ?_ ?_
      rotate_left
      · intro w'
        go_simp
        with_reducible rfl
      rotate_left
      · simp only [Act.put, List.setIfInBounds_toArray, List.set_cons_zero, List.set_cons_succ, i64_w, i32_w]
        rfl
      refine pure_ (i := 7) (N := some 29) (v := ?_) (a' := ?_) #[true, true, false, true, false, false, false, true, false, false, false, false, false] rfl rfl (by kernel_rfl) (fun _ _ _ h => h) (Or.inl ⟨by rfl, ?_⟩) ?_ ?_
      rotate_left
      · intro w'
        go_simp
        with_reducible rfl
      rotate_left
      · simp only [Act.put, List.setIfInBounds_toArray, List.set_cons_zero, List.set_cons_succ, i64_w, i32_w]
        rfl
      refine inv_at [2, 4, 5, 6, 8, 9, 10, 11, 12] (fun a0_ b a w' => a = putSel a0_ b [(2, 24, .int .i64 ((rd_T23 l0 (j : Int)).f0)), (4, 26, .string ((rd_T23 l0 (j : Int)).f1)), (5, 27, .agg #[.int .i64 ((rd_T23 l0 (j : Int)).f0), .string ((rd_T23 l0 (j : Int)).f1)]), (6, 28, .int .i64 V0), (8, 30, .int .i64 ((rd_T23 l0 (j : Int)).f2)), (9, 31, .int .i64 (wrap64 (V0 + ((rd_T23 l0 (j : Int)).f2)))), (10, 32, .tuple #[.int .i64 V0, .int .i64 ST]), (11, 33, .int .i64 ST)] ∧ (w'.cell? ⟨wr.heap.size, 0, none⟩ = some (.int .i64 ((rd_T23 l0 (j : Int)).f0)) ∧ w'.cell? ⟨wr.heap.size, 1, none⟩ = some (.string ((rd_T23 l0 (j : Int)).f1)) ∧ w'.cell? ⟨wr.heap.size, 2, none⟩ = some (.int .i64 ((rd_T23 l0 (j : Int)).f2))) ∧ (b 12 = false → (Instr.lookup 56 (.map (some w.heap.size)) (.agg #[.int .i64 ((rd_T23 l0 (j : Int)).f0), .string ((rd_T23 l0 (j : Int)).f1)]) false).run Tryd.prog w' = .ok (.int .i64 V0) w') ∧ (b 10 = false → (Instr.mapEntry 56 (.map (some w.heap.size)) (.agg #[.int .i64 ((rd_T23 l0 (j : Int)).f0), .string ((rd_T23 l0 (j : Int)).f1)])).run Tryd.prog w' = .ok (.tuple #[.int .i64 V0, .int .i64 ST]) w1) ∧ (b 10 = true → b 12 = false → (Instr.entryStore 56 (.map (some w.heap.size)) (.int .i64 ST) (.int .i64 (wrap64 (V0 + ((rd_T23 l0 (j : Int)).f2))))).run Tryd.prog w' = .ok () w2) ∧ (b 12 = true → w' = w2)) HT_.out HW_.out (by kernel_rfl) (by kernel_rfl) ?_ ?_ ?_
      · exact ⟨by simp only [putSel, Bool.false_eq_true, if_false], CE.out, fun _ => LK.out, fun _ => ME.out, fun h_ => absurd h_ (by decide), fun h_ => absurd h_ (by decide)⟩
      · skip
        clear CE LK ME
        refine steps_cons ?_ ?_
        · rintro b a w' ⟨ha, Q_CE, Q_LK, Q_ME, Q_ES, Q_FIN⟩ hb_ hon hoff
          refine ⟨_, rfl, fun K hK => ?_⟩
          have e23 : a.tmps[23]? = some (.pointer (some ⟨wr.heap.size, 0, none⟩)) := by rw [ha]; exact (putSel_off rfl).trans rfl
          replace ha := Aside0.mk ha
          have CE := Aside0.mk Q_CE
          have LK := Aside0.mk (Q_LK (hoff 12 (by kernel_rfl)))
          have ME := Aside0.mk (Q_ME (hoff 10 (by kernel_rfl)))
          have d0 := CE.out.1
          have d1 := CE.out.2.1
          have d2 := CE.out.2.2
          refine value_ (w1 := w') (v := .int .i64 ((rd_T23 l0 (j : Int)).f0)) (by rfl) rfl ?_ ?_
          · go_simp
            (try simp only [i64_w])
            try rfl
          refine hK.out _ _ ⟨(by rw [ha.out]; exact putSel_upk 0 hb_ rfl rfl rfl), Q_CE, Q_LK, Q_ME, fun h0_ _ => absurd ((hoff 10 (by kernel_rfl)).symm.trans h0_) (by decide), fun h0_ => absurd ((hoff 12 (by kernel_rfl)).symm.trans h0_) (by decide)⟩
        refine steps_cons ?_ ?_
        · rintro b a w' ⟨ha, Q_CE, Q_LK, Q_ME, Q_ES, Q_FIN⟩ hb_ hon hoff
          refine ⟨_, rfl, fun K hK => ?_⟩
          have e25 : a.tmps[25]? = some (.pointer (some ⟨wr.heap.size, 1, none⟩)) := by rw [ha]; exact (putSel_off rfl).trans rfl
          replace ha := Aside0.mk ha
          have CE := Aside0.mk Q_CE
          have LK := Aside0.mk (Q_LK (hoff 12 (by kernel_rfl)))
          have ME := Aside0.mk (Q_ME (hoff 10 (by kernel_rfl)))
          have d0 := CE.out.1
          have d1 := CE.out.2.1
          have d2 := CE.out.2.2
          refine value_ (w1 := w') (v := .string ((rd_T23 l0 (j : Int)).f1)) (by rfl) rfl ?_ ?_
          · go_simp
            (try simp only [i64_w])
            try rfl
          refine hK.out _ _ ⟨(by rw [ha.out]; exact putSel_upk 1 hb_ rfl rfl rfl), Q_CE, Q_LK, Q_ME, fun h0_ _ => absurd ((hoff 10 (by kernel_rfl)).symm.trans h0_) (by decide), fun h0_ => absurd ((hoff 12 (by kernel_rfl)).symm.trans h0_) (by decide)⟩
        refine steps_cons ?_ ?_
        · rintro b a w' ⟨ha, Q_CE, Q_LK, Q_ME, Q_ES, Q_FIN⟩ hb_ hon hoff
          refine ⟨_, rfl, fun K hK => ?_⟩
          have e24 : a.tmps[24]? = some (.int .i64 ((rd_T23 l0 (j : Int)).f0)) := by rw [ha]; exact putSel_on (e := (2, 24, .int .i64 ((rd_T23 l0 (j : Int)).f0))) 0 rfl rfl (hon 2 (by kernel_rfl)) rfl
          have e26 : a.tmps[26]? = some (.string ((rd_T23 l0 (j : Int)).f1)) := by rw [ha]; exact putSel_on (e := (4, 26, .string ((rd_T23 l0 (j : Int)).f1))) 1 rfl rfl (hon 4 (by kernel_rfl)) rfl
          replace ha := Aside0.mk ha
          have CE := Aside0.mk Q_CE
          have LK := Aside0.mk (Q_LK (hoff 12 (by kernel_rfl)))
          have ME := Aside0.mk (Q_ME (hoff 10 (by kernel_rfl)))
          refine value_ (w1 := w') (v := .agg #[.int .i64 ((rd_T23 l0 (j : Int)).f0), .string ((rd_T23 l0 (j : Int)).f1)]) (by rfl) rfl ?_ ?_
          · go_simp
            (try simp only [i64_w])
            try rfl
          refine hK.out _ _ ⟨(by rw [ha.out]; exact putSel_upk 2 hb_ rfl rfl rfl), Q_CE, Q_LK, Q_ME, fun h0_ _ => absurd ((hoff 10 (by kernel_rfl)).symm.trans h0_) (by decide), fun h0_ => absurd ((hoff 12 (by kernel_rfl)).symm.trans h0_) (by decide)⟩
        refine steps_cons ?_ ?_
        · rintro b a w' ⟨ha, Q_CE, Q_LK, Q_ME, Q_ES, Q_FIN⟩ hb_ hon hoff
          refine ⟨_, rfl, fun K hK => ?_⟩
          have e22 : a.tmps[22]? = some (.map (some w.heap.size)) := by rw [ha]; exact (putSel_off rfl).trans rfl
          have e27 : a.tmps[27]? = some (.agg #[.int .i64 ((rd_T23 l0 (j : Int)).f0), .string ((rd_T23 l0 (j : Int)).f1)]) := by rw [ha]; exact putSel_on (e := (5, 27, .agg #[.int .i64 ((rd_T23 l0 (j : Int)).f0), .string ((rd_T23 l0 (j : Int)).f1)])) 2 rfl rfl (hon 5 (by kernel_rfl)) rfl
          replace ha := Aside0.mk ha
          have CE := Aside0.mk Q_CE
          have LK := Aside0.mk (Q_LK (hoff 12 (by kernel_rfl)))
          have e := LK.out
          refine value_ (w1 := w') (v := .int .i64 V0) (by rfl) rfl ?_ ?_
          · go_simp
            (try simp only [i64_w])
            try rfl
          refine hK.out _ _ ⟨(by rw [ha.out]; exact putSel_upk 3 hb_ rfl rfl rfl), Q_CE, Q_LK, Q_ME, Q_ES, fun h0_ => absurd ((hoff 12 (by kernel_rfl)).symm.trans h0_) (by decide)⟩
        refine steps_cons ?_ ?_
        · rintro b a w' ⟨ha, Q_CE, Q_LK, Q_ME, Q_ES, Q_FIN⟩ hb_ hon hoff
          refine ⟨_, rfl, fun K hK => ?_⟩
          have e29 : a.tmps[29]? = some (.pointer (some ⟨wr.heap.size, 2, none⟩)) := by rw [ha]; exact (putSel_off rfl).trans rfl
          replace ha := Aside0.mk ha
          have CE := Aside0.mk Q_CE
          have LK := Aside0.mk (Q_LK (hoff 12 (by kernel_rfl)))
          have ME := Aside0.mk (Q_ME (hoff 10 (by kernel_rfl)))
          have d0 := CE.out.1
          have d1 := CE.out.2.1
          have d2 := CE.out.2.2
          refine value_ (w1 := w') (v := .int .i64 ((rd_T23 l0 (j : Int)).f2)) (by rfl) rfl ?_ ?_
          · go_simp
            (try simp only [i64_w])
            try rfl
          refine hK.out _ _ ⟨(by rw [ha.out]; exact putSel_upk 4 hb_ rfl rfl rfl), Q_CE, Q_LK, Q_ME, fun h0_ _ => absurd ((hoff 10 (by kernel_rfl)).symm.trans h0_) (by decide), fun h0_ => absurd ((hoff 12 (by kernel_rfl)).symm.trans h0_) (by decide)⟩
        refine steps_cons ?_ ?_
        · rintro b a w' ⟨ha, Q_CE, Q_LK, Q_ME, Q_ES, Q_FIN⟩ hb_ hon hoff
          refine ⟨_, rfl, fun K hK => ?_⟩
          have e28 : a.tmps[28]? = some (.int .i64 V0) := by rw [ha]; exact putSel_on (e := (6, 28, .int .i64 V0)) 3 rfl rfl (hon 6 (by kernel_rfl)) rfl
          have e30 : a.tmps[30]? = some (.int .i64 ((rd_T23 l0 (j : Int)).f2)) := by rw [ha]; exact putSel_on (e := (8, 30, .int .i64 ((rd_T23 l0 (j : Int)).f2))) 4 rfl rfl (hon 8 (by kernel_rfl)) rfl
          replace ha := Aside0.mk ha
          have CE := Aside0.mk Q_CE
          have LK := Aside0.mk (Q_LK (hoff 12 (by kernel_rfl)))
          refine value_ (w1 := w') (v := .int .i64 (wrap64 (V0 + ((rd_T23 l0 (j : Int)).f2)))) (by rfl) rfl ?_ ?_
          · go_simp
            (try simp only [i64_w])
            try rfl
          refine hK.out _ _ ⟨(by rw [ha.out]; exact putSel_upk 5 hb_ rfl rfl rfl), Q_CE, Q_LK, Q_ME, Q_ES, fun h0_ => absurd ((hoff 12 (by kernel_rfl)).symm.trans h0_) (by decide)⟩
        refine steps_cons ?_ ?_
        · rintro b a w' ⟨ha, Q_CE, Q_LK, Q_ME, Q_ES, Q_FIN⟩ hb_ hon hoff
          refine ⟨_, rfl, fun K hK => ?_⟩
          have e22 : a.tmps[22]? = some (.map (some w.heap.size)) := by rw [ha]; exact (putSel_off rfl).trans rfl
          have e27 : a.tmps[27]? = some (.agg #[.int .i64 ((rd_T23 l0 (j : Int)).f0), .string ((rd_T23 l0 (j : Int)).f1)]) := by rw [ha]; exact putSel_on (e := (5, 27, .agg #[.int .i64 ((rd_T23 l0 (j : Int)).f0), .string ((rd_T23 l0 (j : Int)).f1)])) 2 rfl rfl (hon 5 (by kernel_rfl)) rfl
          replace ha := Aside0.mk ha
          have CE := Aside0.mk Q_CE
          have LK := Aside0.mk (Q_LK (hoff 12 (by kernel_rfl)))
          have ME := Aside0.mk (Q_ME hb_)
          have e := ME.out
          refine value_ (w1 := w1) (v := .tuple #[.int .i64 V0, .int .i64 ST]) (by rfl) rfl ?_ ?_
          · go_simp
            (try rfl)
          refine hK.out _ _ ⟨(by rw [ha.out]; exact putSel_upk 6 hb_ rfl rfl rfl), CE1.out, fun _ => LK1.out, fun h0_ => absurd ((up_self b 10).symm.trans h0_) (by decide), fun _ _ => ES1.out, fun h0_ => absurd ((hoff 12 (by kernel_rfl)).symm.trans h0_) (by decide)⟩
        refine steps_cons ?_ ?_
        · rintro b a w' ⟨ha, Q_CE, Q_LK, Q_ME, Q_ES, Q_FIN⟩ hb_ hon hoff
          refine ⟨_, rfl, fun K hK => ?_⟩
          have e32 : a.tmps[32]? = some (.tuple #[.int .i64 V0, .int .i64 ST]) := by rw [ha]; exact putSel_on (e := (10, 32, .tuple #[.int .i64 V0, .int .i64 ST])) 6 rfl rfl (hon 10 (by kernel_rfl)) rfl
          replace ha := Aside0.mk ha
          have CE := Aside0.mk Q_CE
          have LK := Aside0.mk (Q_LK (hoff 12 (by kernel_rfl)))
          have ES := Aside0.mk (Q_ES (hon 10 (by kernel_rfl)) (hoff 12 (by kernel_rfl)))
          refine value_ (w1 := w') (v := .int .i64 ST) (by rfl) rfl ?_ ?_
          · go_simp
            (try simp only [i64_w])
            try rfl
          refine hK.out _ _ ⟨(by rw [ha.out]; exact putSel_upk 7 hb_ rfl rfl rfl), Q_CE, Q_LK, fun h0_ => absurd ((hon 10 (by kernel_rfl)).symm.trans h0_) (by decide), Q_ES, fun h0_ => absurd ((hoff 12 (by kernel_rfl)).symm.trans h0_) (by decide)⟩
        refine steps_cons ?_ ?_
        · rintro b a w' ⟨ha, Q_CE, Q_LK, Q_ME, Q_ES, Q_FIN⟩ hb_ hon hoff
          refine ⟨_, rfl, fun K hK => ?_⟩
          have e22 : a.tmps[22]? = some (.map (some w.heap.size)) := by rw [ha]; exact (putSel_off rfl).trans rfl
          have e33 : a.tmps[33]? = some (.int .i64 ST) := by rw [ha]; exact putSel_on (e := (11, 33, .int .i64 ST)) 7 rfl rfl (hon 11 (by kernel_rfl)) rfl
          have e31 : a.tmps[31]? = some (.int .i64 (wrap64 (V0 + ((rd_T23 l0 (j : Int)).f2)))) := by rw [ha]; exact putSel_on (e := (9, 31, .int .i64 (wrap64 (V0 + ((rd_T23 l0 (j : Int)).f2))))) 5 rfl rfl (hon 9 (by kernel_rfl)) rfl
          replace ha := Aside0.mk ha
          have CE := Aside0.mk Q_CE
          have LK := Aside0.mk (Q_LK hb_)
          have ES := Aside0.mk (Q_ES (hon 10 (by kernel_rfl)) hb_)
          have e := ES.out
          rw [if_pos (by rfl)]
          unfold Oper.wp
          go_simp
          refine hK.out _ _ ⟨(by rw [ha.out]; exact putSel_none (v := undef) rfl), CE2.out, fun h0_ => absurd ((up_self b 12).symm.trans h0_) (by decide), fun h0_ => absurd ((hon 10 (by kernel_rfl)).symm.trans h0_) (by decide), fun _ h1_ => absurd ((up_self b 12).symm.trans h1_) (by decide), fun _ => rfl⟩
        exact steps_nil
      · rintro b a w' hall ⟨ha, Q_CE, Q_LK, Q_ME, Q_ES, Q_FIN⟩
        clear CE LK ME
        have hb2_ := hall 2 (by kernel_rfl)
        have hb4_ := hall 4 (by kernel_rfl)
        have hb5_ := hall 5 (by kernel_rfl)
        have hb6_ := hall 6 (by kernel_rfl)
        have hb8_ := hall 8 (by kernel_rfl)
        have hb9_ := hall 9 (by kernel_rfl)
        have hb10_ := hall 10 (by kernel_rfl)
        have hb11_ := hall 11 (by kernel_rfl)
        have hb12_ := hall 12 (by kernel_rfl)
        subst ha
        simp only [putSel, hb2_, hb4_, hb5_, hb6_, hb8_, hb9_, hb10_, hb11_, hb12_, if_true, Act.put, List.setIfInBounds_toArray, List.set_cons_zero, List.set_cons_succ]
        have CE := Aside0.mk Q_CE
        clear Q_CE
        clear Q_LK
        clear Q_ME
        clear Q_ES
        have FIN := Aside0.mk (Q_FIN hb12_)
        clear Q_FIN
        clear hall hb2_ hb4_ hb5_ hb6_ hb8_ hb9_ hb10_ hb11_ hb12_
        have eFin := FIN.out
        subst eFin
        clear FIN CE CE1 CE2 LK1 ES1
        have HW2 := Aside0.mk (show wrap64 ((j : Int) + 1) = ((j + 1 : Nat) : Int) from sw_wrap HC.out HL.out)
        go_wp2
        go_roundw
        case measure => exact sw_meas HW2.out HC.out
        case rel =>
          have h1 := HC.out
          have h2 := HL.out
          refine ⟨j + 1, by rw [HW2.out], ⟨CM.out⟩, ⟨?_⟩, ⟨HG.out⟩⟩
          have e : sumsD (l0.take (j + 1)) = addD (sumsD (l0.take j)) (rd_T23 l0 (j : Int)) := by
            rw [List.take_add_one, hget.out, ← sumsD_snoc]; rfl
          rw [e]
          unfold addD
          rw [HV.out]
          exact HN.out
    · have hj : j = m := sb_eq HJ.out cm
      subst hj
      clear cm
      have c3 : decide ((j : Int) < (l0.length : Int)) = true := decide_eq_true c
      have c4 : decide (j < l0.length) = true := decide_eq_true (sw_lt c)
      obtain ⟨ad, e0, hx0, hx1, hx2⟩ := at_T23 HR0.out (j : Int) (sw_nonneg j) c
      cases e0
      replace hx0 := (HB.out.cell (World.block_lt_of_cell? w _ hx0)).trans hx0
      replace hx1 := (HB.out.cell (World.block_lt_of_cell? w _ hx1)).trans hx1
      replace hx2 := (HB.out.cell (World.block_lt_of_cell? w _ hx2)).trans hx2
      simp only [Int.toNat_natCast] at hx0 hx1 hx2
      have p0 : (0 ≤ (j : Int)) = True := eq_true (sw_nonneg j)
      have p1 : ((j : Int) < (l0.length : Int)) = True := eq_true c
      clear c
      go_wp2_with (first | (go_at_call 27; (with_reducible refine (payslip_form.calls k _ _ _ false _ HBad.out).mono ?_); rintro e w8 ⟨rfl, hb⟩) | go_in)
      go_ret2
      exact ⟨rfl, below_step (HB.out.alloc HB.out.size _) hb⟩
end Go.Proofs.YtlanldccamphcaaDoor.P
