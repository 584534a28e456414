/- Texts for the law FilingDecodes (kept out of a larger one). -/
import Derived.Test.YtejgfblphgcgkaaGreatDoorZFilingDecodes15
import Derived.Test.YtejgfblphgcgkaaGreatDoorZFilingDecodes19
namespace Go.Proofs.YtejgfblphgcgkaaGreatDoor.P
open Go.RowKit Go.Proofs.YtejgfblphgcgkaaGreatDoorW.PrintWords Go.Proofs.YtejgfblphgcgkaaGreatDoorW.PrintLast Go.Proofs.YtejgfblphgcgkaaGreatDoorW.PrintMore
attribute [local go_sem] max2_int min2_int max_two min_two max_three min_three max_four min_four   -- for this text's walks alone
set_option linter.unusedVariables false
set_option linter.unusedSimpArgs false
mutual
def payrollref34_Line.l0 : Nat → List Zb → Int → Option (Int × Zb × Int × Bool)
 | 0, _, _ => none
 | k + 1, x0, x4 => if x4 ≤ 10 then (if 0 < (x0.length : Int) then ((payrollref34_Word.f x4).bind fun t413 => (if (rdOf ByteArray.empty x0 0).toList = t413.toList then ((payrollref32_Bare.f x4).bind fun t415 => (if t415 = true then (payrollref34_Line.j1 k x0 1 x4 (⟨#[]⟩ : Zb) 0) else (payrollref34_Line.j1 k x0 2 x4 (⟨#[]⟩ : Zb) 0))) else (payrollref34_Line.l0 k x0 (wrap64 (x4 + 1))))) else (none)) else (some (0, (⟨#[]⟩ : Zb), 0, false))
def payrollref34_Line.j1 : Nat → List Zb → Int → Int → Zb → Int → Option (Int × Zb × Int × Bool)
 | 0, _, _, _, _, _ => none
 | k + 1, x0, x6, x415000, x415001, x415002 => if (x0.length : Int) = (wrap64 (x6 + 1)) then (if x6 = 2 then (if 1 < (x0.length : Int) then (payrollref34_Line.j2 k x0 x6 x415000 (rdOf ByteArray.empty x0 1) x415002) else (none)) else (payrollref34_Line.j2 k x0 x6 x415000 x415001 x415002)) else (some (0, (⟨#[]⟩ : Zb), 0, false))
def payrollref34_Line.j2 : Nat → List Zb → Int → Int → Zb → Int → Option (Int × Zb × Int × Bool)
 | 0, _, _, _, _, _ => none
 | k + 1, x0, x6, x415000, x415001, x415002 => if 0 ≤ x6 then (if x6 < (x0.length : Int) then ((payrollref34_Number.f k (rdOf ByteArray.empty x0 x6)).bind fun bt418 => (if bt418.2 = true then ((payrollref34_Form.f k x415000 x415001 bt418.1).bind fun t420 => (some (x415000, x415001, bt418.1, t420))) else (some (x415000, x415001, bt418.1, false)))) else (none)) else (none)
end
def payrollref34_Line.f (k : Nat) (l0 : List Zb) : Option (Int × Zb × Int × Bool) := payrollref34_Line.l0 k l0 1
def payrollref34_Line.T15 : Bool × List (List Nat × List Nat) := (true, [([], []), ([], []), ([1], [1]), ([2], [2]), ([3,2,2], [2,3]), ([2,4], [2,4]), ([0,4,0], [0]), ([5,6,0,1,2,3,4,5,6], [5])])
def payrollref34_Line.B15 : List Nat := [0,0,2,6,14,30,31,127]
theorem payrollref34_Line.tab15 : rtab .any (opsOf Tryz.f50 15) = payrollref34_Line.T15 := by kernel_rfl
theorem payrollref34_Line.bits15 : waitsOk payrollref34_Line.T15.2 payrollref34_Line.B15 = true := by kernel_rfl
set_option maxHeartbeats 8000000 in
set_option maxRecDepth 100000 in
theorem payrollref34_Line.calls (k : Nat) (A0 : Option Addr) (c0 : Nat) (l0 : List Zb) (r1 : Int) (r2 : Zb) (r3 : Int) (r4 : Bool) (w : World) (hr0 : Kd.C Kd.string w A0 l0.length l0) (hc0 : l0.length ≤ c0) (h : payrollref34_Line.f k l0 = some (r1, r2, r3, r4)) :
 Calls Tryz.prog 50 #[.slice A0 l0.length c0] w fun e w' => e = .returned (.tuple #[.agg #[.int .i64 r1, .string r2, .int .i64 r3], .bool r4]) ∧ Below w.heap.size w w' := by
 have hu60 := Tryz.underlying60
 have HR0 := Qa hr0
 have HC0 := Qa hc0
 clear hr0 hc0
 have HB := Qa (Below.refl w.heap.size w)
 have H : (payrollref34_Line.l0 k l0 1) = some (r1, r2, r3, r4) := h
 clear h
 have H' := Qa H
 clear H
 go_enter Tryz.func50, Tryz.ntmps50
 go_wp2_with (first | ((with_reducible refine Qx (N := 2) rfl ?_); refine Qv ?hg (N := 2) ?hd (cs := #[.int .i64 0, .string (⟨#[]⟩ : Zb), .int .i64 0]) (t := 60) ?hr ?_; (case hd => rfl); (case hg => rfl); (case hr => first | (go_simp; done) | (go_simp; rfl)); intro gb411 hg w2 hbox hb; have n0_ := Qa (Qh (bl HB.out) hb); have n1_ := Qa (hbox); have n2_ := Qa ((by rw [hg]; exact (Qi (bl HB.out)) : w.heap.size ≤ gb411)); have n3_ := Qa ((by rw [hg]; exact (Qi (bl HB.out)) : w.heap.size ≤ gb411)); clear HB; have HB := n0_; have BK411 := n1_; have GW411 := n2_; have GE411 := n3_; clear n0_ n1_ n2_ n3_; clear hb hbox hg))
 go_loopg [4] k (fun kq v4 w' => ∃ (x4_1 : Int) (x412000_1 : Int) (x412001_1 : Zb) (x412002_1 : Int), v4 = .int .i64 x4_1 ∧ Aside0 (payrollref34_Line.l0 kq l0 x4_1 = some (r1, r2, r3, r4)) ∧ Aside0 (kq ≤ k) ∧ Aside0 (w'.heap[gb411]? = some (.cells #[.int .i64 x412000_1, .string x412001_1, .int .i64 x412002_1] 60 (0,0))) ∧ Aside0 (Below w.heap.size w w'))
 case atStart => exact ⟨(1), (0), ((⟨#[]⟩ : Zb)), (0), (by first | rfl | (simp; done) | (simp [*]; done)), H', ⟨Nat.le_refl _⟩, ⟨nc BK411.out⟩, ⟨bl HB.out⟩⟩
 case round =>
  clear H'
  try clear p2
  obtain ⟨x4_1, x412000_1, x412001_1, x412002_1, rfl, HA, HK1, BK411, HB⟩ := hrel
  cases gk with
  | zero => exact absurd HA.out (by simp [payrollref34_Line.l0])
  | succ k1 =>
   have H := HA.out
   clear HA
   simp only [payrollref34_Line.l0] at H
   by_cases c3 : x4_1 ≤ 10
   · rw [if_pos c3] at H
     have c3b0 : decide (x4_1 ≤ 10) = true := Xq c3
     clear c3
     by_cases c4 : 0 < (l0.length : Int)
     · rw [if_pos c4] at H
       have c4b0 : decide (0 < (l0.length : Int)) = true := Xq c4
       have c4b1 : decide (0 < l0.length) = true := Xq (by omega)
       clear c4
       replace H := Xx.mp H
       obtain ⟨t413, A50, H⟩ := H
       replace H : (if (rdOf ByteArray.empty l0 0).toList = t413.toList then ((payrollref32_Bare.f x4_1).bind fun t415 => (if t415 = true then (payrollref34_Line.j1 k1 l0 1 x4_1 (⟨#[]⟩ : Zb) 0) else (payrollref34_Line.j1 k1 l0 2 x4_1 (⟨#[]⟩ : Zb) 0))) else (payrollref34_Line.l0 k1 l0 (wrap64 (x4_1 + 1)))) = some (r1, r2, r3, r4) := H
       have A5 := Qa A50
       clear A50
       by_cases c6 : (rdOf ByteArray.empty l0 0).toList = t413.toList
       · rw [if_pos c6] at H
         have c6b0 : ((rdOf ByteArray.empty l0 0).toList == t413.toList) = true := Yb.mpr c6
         have c6b1 : ((rdOf ByteArray.empty l0 0).toList != t413.toList) = false := bne_eq_false_iff_eq.mpr c6
         clear c6
         replace H := Xx.mp H
         obtain ⟨t415, A70, H⟩ := H
         replace H : (if t415 = true then (payrollref34_Line.j1 k1 l0 1 x4_1 (⟨#[]⟩ : Zb) 0) else (payrollref34_Line.j1 k1 l0 2 x4_1 (⟨#[]⟩ : Zb) 0)) = some (r1, r2, r3, r4) := H
         have A7 := Qa A70
         clear A70
         have HC8 := Qa H
         clear H
         try go_wp2
         have n0_ := Qa (Qk BK411.out)
         have n1_ := Qa (Qf HB.out)
         clear BK411
         clear HB
         have BK411 := n0_
         have HB := n1_
         clear n0_ n1_
         have p412 : 0 ≤ (0 : Int) := (by omega)
         have q412 : 0 < (l0.length : Int) := Xp (by assumption)
         obtain ⟨ad412, e412, hx412_0⟩ := Kd.at_string HR0.out 0 p412 q412
         have hw412_0 := hx412_0
         (try rw [show ((0 : Int)).toNat = 0 from rfl] at hw412_0)
         (try rw [show 0 * 1 = 0 from rfl] at hw412_0)
         (try rw [Addr.add_zero'] at hw412_0)
         cases e412
         have qi412 : (0 < l0.length) = True := eq_true (by omega)
         (try rw [show ((0 : Int)).toNat = 0 from rfl] at hx412_0)
         (try rw [Addr.add_zero'] at hx412_0)
         replace hx412_0 := (HB.out.cell (Xs w _ hx412_0)).trans hx412_0
         replace p412 := eq_true p412
         replace q412 := eq_true q412
         refine start_ (n := 6) (S := fun w' => w'.cell? ad412 = some (.string (rdOf ByteArray.empty l0 0))) (ds := []) #[Zf,Zf,Zf,Zf,Zf,Zf] (by kernel_rfl) rfl rfl (((HB.out.cell (Xs w _ hw412_0)).trans hw412_0)) (fun hHeld => ?_)
         generalize wr.drew = w9 at BK411 HB hx412_0 hHeld ⊢
         refine pure_ (i := 0) (N := some 13) (v := ?_) (a' := ?_) #[Zt,Zf,Zf,Zf,Zf,Zf] rfl rfl (by kernel_rfl) (fun _ _ _ h => h) (Or.inl ⟨by rfl, ?_⟩) ?_ ?_
         rotate_left
         · intro w'
           go_simp
           with_reducible rfl
         rotate_left
         · simp only [Act.put, Xt, Xu, Xv, i64_w, i32_w]
           rfl
         refine pure_ (i := 1) (N := some 14) (v := ?_) (a' := ?_) #[Zt,Zt,Zf,Zf,Zf,Zf] rfl rfl (by kernel_rfl) (fun _ _ _ h => h) (Or.inl ⟨by rfl, ?_⟩) ?_ ?_
         rotate_left
         · intro w'
           go_simp
           with_reducible rfl
         rotate_left
         · simp only [Act.put, Xt, Xu, Xv, i64_w, i32_w]
           rfl
         refine pure_ (i := 3) (N := some 16) (v := ?_) (a' := ?_) #[Zt,Zt,Zf,Zt,Zf,Zf] rfl rfl (by kernel_rfl) (fun _ _ _ h => h) (Or.inl ⟨by rfl, ?_⟩) ?_ ?_
         rotate_left
         · intro w'
           go_simp
           with_reducible rfl
         rotate_left
         · simp only [Act.put, Xt, Xu, Xv, i64_w, i32_w]
           rfl
         refine take_ (i := 2) (N := some 15) (v := ?_) (a' := ?_) #[Zt,Zt,Zt,Zt,Zf,Zf] rfl rfl (by kernel_rfl) (fun _ _ _ h => h) (Or.inl ⟨by rfl, ?_⟩) hHeld ?_ ?_
         rotate_left
         · intro w' s0
           go_simp
           with_reducible rfl
         rotate_left
         · simp only [Act.put, Xt, Xu, Xv, i64_w, i32_w]
           rfl
         refine one_ (i := 4) (N := some 17) #[Zt,Zt,Zt,Zt,Zt,Zf] rfl rfl (by kernel_rfl) (by decide) (fun K hK => ?_)
         refine goes_ Tryz.func64 (by kernel_rfl) rfl #[.int .i64 x4_1] (by rfl) rfl rfl (by (try simp only [List.map_toArray, List.map_cons, List.map_nil]); first | done | rfl | (simp only [List.length_drop, List.length_take]; rfl)) ?_
         with_reducible refine (payrollref34_Word.calls x4_1 t413 _ A5.out).mono ?_
         rintro e w10 ⟨rfl, hb⟩
         refine ⟨_, rfl, ?_⟩
         have n0_ := Qa (Qb (nc BK411.out) hb)
         have n1_ := Qa (Qh (bl HB.out) hb)
         clear BK411
         clear HB
         have BK411 := n0_
         have HB := n1_
         clear n0_ n1_
         (try clear hb)
         (try clear hb2)
         (try clear hk)
         (try clear hi)
         refine hK.out _ _ (((HB.out.cell (Xs w _ hw412_0)).trans hw412_0)) (fun hHeld => ?_)
         clear hK K
         refine norm_ (a' := ?_) ?_ ?_
         rotate_left
         · show Act.put _ (some 17) _ = _
           simp only [Act.put, Xt, Xu, Xv, i64_w, i32_w]
           rfl
         refine pure_ (i := 5) (N := some 18) (v := ?_) (a' := ?_) #[Zt,Zt,Zt,Zt,Zt,Zt] rfl rfl (by kernel_rfl) (fun _ _ _ h => h) (Or.inl ⟨by rfl, ?_⟩) ?_ ?_
         rotate_left
         · intro w'
           go_simp
           with_reducible rfl
         rotate_left
         · simp only [Act.put, Xt, Xu, Xv, i64_w, i32_w]
           rfl
         refine done_ (by kernel_rfl) ?_
         go_upto_if 23 with (first | ((with_reducible refine Qx (N := 5) rfl ?_); refine Qv ?hg (N := 5) ?hd (cs := #[.int .i64 0, .string (⟨#[]⟩ : Zb), .int .i64 0]) (t := 60) ?hr ?_; (case hd => rfl); (case hg => rfl); (case hr => first | (go_simp; done) | (go_simp; rfl)); intro gb414 hg w11 hbox hb; have n0_ := Qa (Qb (nc BK411.out) hb); have n1_ := Qa (Qh (bl HB.out) hb); have n2_ := Qa (hbox); have n3_ := Qa ((by rw [hg]; exact (Qi (bl HB.out)) : w.heap.size ≤ gb414)); have n4_ := Qa ((by rw [hg]; exact (Qi (bl HB.out)) : w.heap.size ≤ gb414)); have n5_ := Qa ((by rw [hg]; exact Nat.ne_of_lt (blk_lt (nc BK411.out)) : gb411 ≠ gb414)); have n6_ := Qa ((by rw [hg]; exact Nat.ne_of_gt (blk_lt (nc BK411.out)) : gb414 ≠ gb411)); clear BK411 HB; have BK411 := n0_; have HB := n1_; have BK414 := n2_; have GW414 := n3_; have GE414 := n4_; have NB411_414 := n5_; have NB414_411 := n6_; clear n0_ n1_ n2_ n3_ n4_ n5_ n6_; clear hb hbox hg; have hnb12 := NB414_411.out; have hnc12 := NB411_414.out; have hcz13_0 := hz BK414.out 0; have hcz13_1 := hz BK414.out 1; have hcz13_2 := hz BK414.out 2; have hfz13_0 := Qm BK414.out 0; have hfz13_1 := Qm BK414.out 1; have hfz13_2 := Qm BK414.out 2) | ((with_reducible refine Qw (f := 60) rfl ?_); refine gc (some 22) Tryz.func60 #[.int .i64 x4_1] ?_; (with_reducible refine (payrollref32_Bare.calls x4_1 t415 _ A7.out).mono ?_); rintro e w' ⟨rfl, ⟨nd, rfl⟩⟩; refine ⟨_, rfl, ?_⟩))
         (try simp only [Act.put, Xt, Xu, Xv])
         go_cut [6] (fun v6 wc => ∃ (kq : Nat) (x6_7 : Int), v6 = .int .i64 x6_7 ∧ Aside0 (payrollref34_Line.j1 kq l0 x6_7 x4_1 (⟨#[]⟩ : Zb) 0 = some (r1, r2, r3, r4)) ∧ Aside0 (kq ≤ k1) ∧ Aside0 (wc.heap[gb411]? = some (.cells #[.int .i64 x412000_1, .string x412001_1, .int .i64 x412002_1] 60 (0,0))) ∧ Aside0 (wc.heap[gb414]? = some (.cells #[.int .i64 x4_1, .string (⟨#[]⟩ : Zb), .int .i64 0] 60 (0,0))) ∧ Aside0 (Below w.heap.size w wc))
         case first =>
          have H := HC8.out
          clear HC8
          by_cases c14 : t415 = true
          · subst c14
            have H1 : (payrollref34_Line.j1 k1 l0 1 x4_1 (⟨#[]⟩ : Zb) 0) = some (r1, r2, r3, r4) := by rw [if_pos rfl] at H; exact H
            clear H
            have H := H1
            clear H1
            have H' := Qa H
            clear H
            go_wp2
            go_meet
            case rel => exact ⟨_, (1), (by first | rfl | (simp; done) | (simp [*]; done)), H', ⟨by have := HK1.out; first | omega | exact Nat.le_refl _⟩, ⟨by (with_reducible repeat (first | refine Qj ?_ _ | refine Qk ?_ | refine Ql ?_ _)); refine Qc ?_ NB411_414.out _; (with_reducible repeat (first | refine Qj ?_ _ | refine Qk ?_ | refine Ql ?_ _)); refine Qc ?_ NB411_414.out _; (with_reducible repeat (first | refine Qj ?_ _ | refine Qk ?_ | refine Ql ?_ _)); refine Qc ?_ NB411_414.out _; (with_reducible repeat (first | refine Qj ?_ _ | refine Qk ?_ | refine Ql ?_ _)); exact BK411.out⟩, ⟨by (with_reducible repeat (first | refine Qj ?_ _ | refine Qk ?_ | refine Ql ?_ _)); refine Qo (cs := #[.int .i64 x4_1, .string (⟨#[]⟩ : Zb), .int .i64 0]) ?_ 2 _ rfl; (with_reducible repeat (first | refine Qj ?_ _ | refine Qk ?_ | refine Ql ?_ _)); refine Qo (cs := #[.int .i64 x4_1, .string (⟨#[]⟩ : Zb), .int .i64 0]) ?_ 1 _ rfl; (with_reducible repeat (first | refine Qj ?_ _ | refine Qk ?_ | refine Ql ?_ _)); refine Qo (cs := #[.int .i64 0, .string (⟨#[]⟩ : Zb), .int .i64 0]) ?_ 0 _ rfl; (with_reducible repeat (first | refine Qj ?_ _ | refine Qk ?_ | refine Ql ?_ _)); exact BK414.out⟩, ⟨bl HB.out⟩⟩
          replace c14 := Bool.eq_false_iff.mpr c14
          subst c14
          have H1 : (payrollref34_Line.j1 k1 l0 2 x4_1 (⟨#[]⟩ : Zb) 0) = some (r1, r2, r3, r4) := by rw [if_neg (show ¬ (false = true) by decide)] at H; exact H
          clear H
          have H := H1
          clear H1
          have H' := Qa H
          clear H
          go_wp2
          go_meet
          case rel => exact ⟨_, (2), (by first | rfl | (simp; done) | (simp [*]; done)), H', ⟨by have := HK1.out; first | omega | exact Nat.le_refl _⟩, ⟨by (with_reducible repeat (first | refine Qj ?_ _ | refine Qk ?_ | refine Ql ?_ _)); refine Qc ?_ NB411_414.out _; (with_reducible repeat (first | refine Qj ?_ _ | refine Qk ?_ | refine Ql ?_ _)); refine Qc ?_ NB411_414.out _; (with_reducible repeat (first | refine Qj ?_ _ | refine Qk ?_ | refine Ql ?_ _)); refine Qc ?_ NB411_414.out _; (with_reducible repeat (first | refine Qj ?_ _ | refine Qk ?_ | refine Ql ?_ _)); exact BK411.out⟩, ⟨by (with_reducible repeat (first | refine Qj ?_ _ | refine Qk ?_ | refine Ql ?_ _)); refine Qo (cs := #[.int .i64 x4_1, .string (⟨#[]⟩ : Zb), .int .i64 0]) ?_ 2 _ rfl; (with_reducible repeat (first | refine Qj ?_ _ | refine Qk ?_ | refine Ql ?_ _)); refine Qo (cs := #[.int .i64 x4_1, .string (⟨#[]⟩ : Zb), .int .i64 0]) ?_ 1 _ rfl; (with_reducible repeat (first | refine Qj ?_ _ | refine Qk ?_ | refine Ql ?_ _)); refine Qo (cs := #[.int .i64 0, .string (⟨#[]⟩ : Zb), .int .i64 0]) ?_ 0 _ rfl; (with_reducible repeat (first | refine Qj ?_ _ | refine Qk ?_ | refine Ql ?_ _)); exact BK414.out⟩, ⟨bl HB.out⟩⟩
         case rest =>
          clear HC8
          try clear c1
          try clear p2
          try clear c3
          try clear c3b0
          try clear c4
          try clear c4b0
          try clear c4b1
          try clear p4
          try clear q4
          try clear hx4
          try clear qi4
          try clear c5
          try clear c6
          try clear c6b0
          try clear c6b1
          try clear p6
          try clear c12
          try clear c14
          try clear hcz13_0
          try clear hcz13_1
          try clear hcz13_2
          try clear hfz13_0
          try clear hfz13_1
          try clear hfz13_2
          try clear hx412_0
          try clear p2
          try clear p412
          try clear q412
          obtain ⟨kq, x6_7, rfl, HA, HJ7, BK411, BK414, HB⟩ := hcut
          cases kq with
          | zero => exact absurd HA.out (by simp [payrollref34_Line.j1])
          | succ kj7 =>
           have H := HA.out
           clear HA
           simp only [payrollref34_Line.j1] at H
           by_cases c15 : (l0.length : Int) = (wrap64 (x6_7 + 1))
           · rw [if_pos c15] at H
             have c15b0 : ((l0.length : Int) == (wrap64 (x6_7 + 1))) = true := Yb.mpr c15
             have c15b1 : ((l0.length : Int) != (wrap64 (x6_7 + 1))) = false := bne_eq_false_iff_eq.mpr c15
             clear c15
             have HC16 := Qa H
             clear H
             go_upto_if 31 with (fail)
             go_cut [] (fun wc => ∃ (kq : Nat) (x415001_15 : Zb), Aside0 (payrollref34_Line.j2 kq l0 x6_7 x4_1 x415001_15 0 = some (r1, r2, r3, r4)) ∧ Aside0 (kq ≤ kj7) ∧ Aside0 (wc.heap[gb411]? = some (.cells #[.int .i64 x412000_1, .string x412001_1, .int .i64 x412002_1] 60 (0,0))) ∧ Aside0 (wc.heap[gb414]? = some (.cells #[.int .i64 x4_1, .string x415001_15, .int .i64 0] 60 (0,0))) ∧ Aside0 (Below w.heap.size w wc))
             case first =>
              have H := HC16.out
              clear HC16
              by_cases c17 : x6_7 = 2
              · rw [if_pos c17] at H
                have c17b0 : (x6_7 == 2) = true := Yb.mpr c17
                have c17b1 : (x6_7 != 2) = false := bne_eq_false_iff_eq.mpr c17
                clear c17
                (first | rw [c17b0] | (simp only [i64_w, i32_w]; rw [c17b0]) | skip)
                by_cases c18 : 1 < (l0.length : Int)
                · rw [if_pos c18] at H
                  have c18b0 : decide (1 < (l0.length : Int)) = true := Xq c18
                  have c18b1 : decide (1 < l0.length) = true := Xq (by omega)
                  clear c18
                  have H' := Qa H
                  clear H
                  have p416 : 0 ≤ (1 : Int) := (by omega)
                  have q416 : 1 < (l0.length : Int) := Xp (by assumption)
                  obtain ⟨ad416, e416, hx416_0⟩ := Kd.at_string HR0.out 1 p416 q416
                  obtain rfl : ad412 = ad416 := (by injection e416)
                  (try simp only [show (1 : Int).toNat = 1 from rfl, Nat.reduceMul, Nat.reduceEqDiff, Go.Addr.add, ↓reduceIte] at hx416_0)
                  have qi416 : (1 < l0.length) = True := eq_true (by omega)
                  (try rw [show ((1 : Int)).toNat = 1 from rfl] at hx416_0)
                  replace hx416_0 := (HB.out.cell (Xs w _ hx416_0)).trans hx416_0
                  replace p416 := eq_true p416
                  replace q416 := eq_true q416
                  have hnb19 := NB414_411.out
                  have hnc19 := NB411_414.out
                  have hcz20_0 := hz BK414.out 0
                  have hcz20_1 := hz BK414.out 1
                  have hcz20_2 := hz BK414.out 2
                  have hfz20_0 := Qm BK414.out 0
                  have hfz20_1 := Qm BK414.out 1
                  have hfz20_2 := Qm BK414.out 2
                  go_wp2
                  go_meet
                  case rel => exact ⟨_, (rdOf ByteArray.empty l0 1), H', ⟨by have := HK1.out; have := HJ7.out; first | omega | exact Nat.le_refl _⟩, ⟨by (with_reducible repeat (first | refine Qj ?_ _ | refine Qk ?_ | refine Ql ?_ _)); refine Qc ?_ NB411_414.out _; (with_reducible repeat (first | refine Qj ?_ _ | refine Qk ?_ | refine Ql ?_ _)); exact BK411.out⟩, ⟨by (with_reducible repeat (first | refine Qj ?_ _ | refine Qk ?_ | refine Ql ?_ _)); refine Qo (cs := #[.int .i64 x4_1, .string (⟨#[]⟩ : Zb), .int .i64 0]) ?_ 1 _ rfl; (with_reducible repeat (first | refine Qj ?_ _ | refine Qk ?_ | refine Ql ?_ _)); exact BK414.out⟩, ⟨bl HB.out⟩⟩
                rw [if_neg c18] at H
                exact absurd H (by simp)
              rw [if_neg c17] at H
              have c17b0 : (x6_7 == 2) = false := Ya.mpr c17
              have c17b1 : (x6_7 != 2) = true := Yc.mpr c17
              (first | rw [c17b0] | (simp only [i64_w, i32_w]; rw [c17b0]) | skip)
              have H' := Qa H
              clear H
              go_wp2
              go_meet
              case rel => exact ⟨_, ((⟨#[]⟩ : Zb)), H', ⟨by have := HK1.out; have := HJ7.out; first | omega | exact Nat.le_refl _⟩, ⟨nc BK411.out⟩, ⟨nc BK414.out⟩, ⟨bl HB.out⟩⟩
             case rest =>
              clear HC16
              try clear c1
              try clear p2
              try clear c3
              try clear c3b0
              try clear c4
              try clear c4b0
              try clear c4b1
              try clear p4
              try clear q4
              try clear hx4
              try clear qi4
              try clear c5
              try clear c6
              try clear c6b0
              try clear c6b1
              try clear p6
              try clear c12
              try clear c14
              try clear c15
              try clear c15b0
              try clear c15b1
              try clear c17
              try clear c17b0
              try clear c17b1
              try clear c18
              try clear c18b0
              try clear c18b1
              try clear c19
              try clear hcz13_0
              try clear hcz13_1
              try clear hcz13_2
              try clear hcz20_0
              try clear hcz20_1
              try clear hcz20_2
              try clear hfz13_0
              try clear hfz13_1
              try clear hfz13_2
              try clear hfz20_0
              try clear hfz20_1
              try clear hfz20_2
              try clear hx412_0
              try clear hx416_0
              try clear p2
              try clear p4
              try clear p412
              try clear p416
              try clear p6
              try clear q4
              try clear q412
              try clear q416
              obtain ⟨kq, x415001_15, HA, HJ15, BK411, BK414, HB⟩ := hcut
              cases kq with
              | zero => exact absurd HA.out (by simp [payrollref34_Line.j2])
              | succ kj15 =>
               have H := HA.out
               clear HA
               simp only [payrollref34_Line.j2] at H
               by_cases c21 : 0 ≤ x6_7
               · rw [if_pos c21] at H
                 have c21b0 : decide (0 ≤ x6_7) = true := Xq c21
                 clear c21
                 by_cases c22 : x6_7 < (l0.length : Int)
                 · rw [if_pos c22] at H
                   have c22b0 : decide (x6_7 < (l0.length : Int)) = true := Xq c22
                   clear c22
                   replace H := Xx.mp H
                   obtain ⟨⟨t418, t419⟩, A230, H⟩ := H
                   replace H : (if t419 = true then ((payrollref34_Form.f kj15 x4_1 x415001_15 t418).bind fun t420 => (some (x4_1, x415001_15, t418, t420))) else (some (x4_1, x415001_15, t418, false))) = some (r1, r2, r3, r4) := H
                   have A23 := Qa A230
                   clear A230
                   by_cases c24 : t419 = true
                   · subst c24
                     have H1 : ((payrollref34_Form.f kj15 x4_1 x415001_15 t418).bind fun t420 => (some (x4_1, x415001_15, t418, t420))) = some (r1, r2, r3, r4) := by rw [if_pos rfl] at H; exact H
                     clear H
                     have H := H1
                     clear H1
                     replace H := Xx.mp H
                     obtain ⟨t420, A250, H⟩ := H
                     replace H : (some (x4_1, x415001_15, t418, t420)) = some (r1, r2, r3, r4) := H
                     have A25 := Qa A250
                     clear A250
                     simp only [Option.some.injEq, Prod.mk.injEq] at H
                     obtain ⟨rfl, rfl, rfl, rfl⟩ := H
                     have p417 : 0 ≤ (x6_7 : Int) := Xp (by assumption)
                     have q417 : x6_7 < (l0.length : Int) := Xp (by assumption)
                     obtain ⟨ad417, e417, hx417_0⟩ := Kd.at_string HR0.out x6_7 p417 q417
                     obtain rfl : ad412 = ad417 := (by injection e417)
                     replace hx417_0 := (HB.out.cell (Xs w _ hx417_0)).trans hx417_0
                     replace p417 := eq_true p417
                     replace q417 := eq_true q417
                     try go_wp2_with (first | ((with_reducible refine Qw (f := 49) rfl ?_); refine gc (some 41) Tryz.func49 #[.string (rdOf ByteArray.empty l0 x6_7)] ?_; (with_reducible refine (payrollref34_Number.calls kj15 (rdOf ByteArray.empty l0 x6_7) t418 true _ A23.out).mono ?_); rintro e w' ⟨rfl, ⟨nd, rfl⟩⟩; refine ⟨_, rfl, ?_⟩; (try simp only [World.drewN_drewN]); (try (rw [drewN_self wc]; generalize hq_ : World.drewN wc _ = wc; have n0_ : Aside0 (wc.heap[gb411]? = some (.cells #[.int .i64 x412000_1, .string x412001_1, .int .i64 x412002_1] 60 (0,0))) := ⟨by rw [← hq_]; exact (nc BK411.out)⟩; have n1_ : Aside0 (wc.heap[gb414]? = some (.cells #[.int .i64 x4_1, .string x415001_15, .int .i64 0] 60 (0,0))) := ⟨by rw [← hq_]; exact (nc BK414.out)⟩; have n2_ : Aside0 (Below w.heap.size w wc) := ⟨by rw [← hq_]; exact (bl HB.out)⟩; clear BK411 BK414 HB hq_; have BK411 := n0_; have BK414 := n1_; have HB := n2_; clear n0_ n1_ n2_)); have hnb26 := NB414_411.out; have hnc26 := NB411_414.out; have hcz27_0 := hz BK414.out 0; have hcz27_1 := hz BK414.out 1; have hcz27_2 := hz BK414.out 2; have hfz27_0 := Qm BK414.out 0; have hfz27_1 := Qm BK414.out 1; have hfz27_2 := Qm BK414.out 2))
                     have n0_ : Aside0 ((wc.setCell ⟨gb414,2, none⟩ (.int .i64 t418)).heap[gb411]? = some (.cells #[.int .i64 x412000_1, .string x412001_1, .int .i64 x412002_1] 60 (0,0))) := ⟨by (with_reducible repeat (first | refine Qj ?_ _ | refine Qk ?_ | refine Ql ?_ _)); refine Qc ?_ NB411_414.out _; (with_reducible repeat (first | refine Qj ?_ _ | refine Qk ?_ | refine Ql ?_ _)); exact BK411.out⟩
                     have n1_ : Aside0 ((wc.setCell ⟨gb414,2, none⟩ (.int .i64 t418)).heap[gb414]? = some (.cells #[.int .i64 x4_1, .string x415001_15, .int .i64 t418] 60 (0,0))) := ⟨by (with_reducible repeat (first | refine Qj ?_ _ | refine Qk ?_ | refine Ql ?_ _)); refine Qo (cs := #[.int .i64 x4_1, .string x415001_15, .int .i64 0]) ?_ 2 _ rfl; (with_reducible repeat (first | refine Qj ?_ _ | refine Qk ?_ | refine Ql ?_ _)); exact BK414.out⟩
                     have n2_ : Aside0 (Below w.heap.size w (wc.setCell ⟨gb414,2, none⟩ (.int .i64 t418))) := ⟨bl HB.out⟩
                     (try clear BK411)
                     (try clear BK414)
                     (try clear HB)
                     generalize (wc.setCell ⟨gb414,2, none⟩ (.int .i64 t418)) = w28 at n0_ n1_ n2_ ⊢
                     have BK411 := n0_
                     have BK414 := n1_
                     have HB := n2_
                     clear n0_ n1_ n2_
                     have n0_ := Qa (Qk BK411.out)
                     have n1_ := Qa (Qk BK414.out)
                     have n2_ := Qa (Qf HB.out)
                     clear BK411
                     clear BK414
                     clear HB
                     have BK411 := n0_
                     have BK414 := n1_
                     have HB := n2_
                     clear n0_ n1_ n2_
                     refine start_ (n := 8) (S := fun w' => w'.cell? ⟨gb414,0, none⟩ = some (.int .i64 x4_1) ∧ w'.cell? ⟨gb414,1, none⟩ = some (.string x415001_15) ∧ w'.cell? ⟨gb414,2, none⟩ = some (.int .i64 t418)) (ds := []) #[Zf,Zf,Zf,Zf,Zf,Zf,Zf,Zf] (by kernel_rfl) rfl rfl ⟨(Qn BK414.out 0).trans rfl, (Qn BK414.out 1).trans rfl, (Qn BK414.out 2).trans rfl⟩ (fun hHeld => ?_); refine with_tabW payrollref34_Line.tab15 payrollref34_Line.bits15 (fun HT_ HW_ => ?_)
                     generalize w28.drew = w29 at BK411 BK414 HB hHeld ⊢
                     refine pu (i := 1) (N := some 47) (v := ?_) (a' := ?_) #[Zf,Zt,Zf,Zf,Zf,Zf,Zf,Zf] HT_ ?_ ?_ ?_
                     rotate_left
                     · intro w'
                       go_simp
                       with_reducible rfl
                     rotate_left
                     · simp only [Act.put, Xt, Xu, Xv, i64_w, i32_w]
                       rfl
                     refine pu (i := 2) (N := some 48) (v := ?_) (a' := ?_) #[Zf,Zt,Zt,Zf,Zf,Zf,Zf,Zf] HT_ ?_ ?_ ?_
                     rotate_left
                     · intro w'
                       go_simp
                       with_reducible rfl
                     rotate_left
                     · simp only [Act.put, Xt, Xu, Xv, i64_w, i32_w]
                       rfl
                     refine take_ (i := 0) (N := some 46) (v := ?_) (a' := ?_) #[Zt,Zt,Zt,Zf,Zf,Zf,Zf,Zf] rfl rfl (take_ofW HT_.out HW_.out (by kernel_rfl)) (fun _ _ _ h => h) (Or.inl ⟨by rfl, ?_⟩) hHeld ?_ ?_
                     rotate_left
                     · rintro w' ⟨s0, s1, s2⟩
                       go_simp
                       with_reducible rfl
                     rotate_left
                     · simp only [Act.put, Xt, Xu, Xv, i64_w, i32_w]
                       rfl
                     refine take_ (i := 3) (N := some 49) (v := ?_) (a' := ?_) #[Zt,Zt,Zt,Zt,Zf,Zf,Zf,Zf] rfl rfl (take_ofW HT_.out HW_.out (by kernel_rfl)) (fun _ _ _ h => h) (Or.inl ⟨by rfl, ?_⟩) hHeld ?_ ?_
                     rotate_left
                     · rintro w' ⟨s0, s1, s2⟩
                       go_simp
                       with_reducible rfl
                     rotate_left
                     · simp only [Act.put, Xt, Xu, Xv, i64_w, i32_w]
                       rfl
                     refine one_ (i := 4) (N := some 50) #[Zt,Zt,Zt,Zt,Zt,Zf,Zf,Zf] rfl rfl (one_of HT_.out (by kernel_rfl)) (by decide) (fun K hK => ?_)
                     refine goes_ Tryz.func74 (by kernel_rfl) rfl #[.agg #[.int .i64 x4_1, .string x415001_15, .int .i64 t418]] (by rfl) rfl rfl (by (try simp only [List.map_toArray, List.map_cons, List.map_nil]); first | done | rfl | (simp only [List.length_drop, List.length_take]; rfl)) ?_
                     with_reducible refine (payrollref34_Form.calls kj15 x4_1 x415001_15 t418 t420 _ A25.out).mono ?_
                     rintro e w30 ⟨rfl, hb⟩
                     refine ⟨_, rfl, ?_⟩
                     have n0_ := Qa (Qb (nc BK411.out) hb)
                     have n1_ := Qa (Qb (nc BK414.out) hb)
                     have n2_ := Qa (Qh (bl HB.out) hb)
                     clear BK411
                     clear BK414
                     clear HB
                     have BK411 := n0_
                     have BK414 := n1_
                     have HB := n2_
                     clear n0_ n1_ n2_
                     (try clear hb)
                     (try clear hb2)
                     (try clear hk)
                     (try clear hi)
                     refine hK.out _ _ ⟨(Qn BK414.out 0).trans rfl, (Qn BK414.out 1).trans rfl, (Qn BK414.out 2).trans rfl⟩ (fun hHeld => ?_)
                     clear hK K
                     refine norm_ (a' := ?_) ?_ ?_
                     rotate_left
                     · show Act.put _ (some 50) _ = _
                       simp only [Act.put, Xt, Xu, Xv, i64_w, i32_w]
                       rfl
                     refine pu (i := 5) (N := some 51) (v := ?_) (a' := ?_) #[Zt,Zt,Zt,Zt,Zt,Zt,Zf,Zf] HT_ ?_ ?_ ?_
                     rotate_left
                     · intro w'
                       go_simp
                       with_reducible rfl
                     rotate_left
                     · simp only [Act.put, Xt, Xu, Xv, i64_w, i32_w]
                       rfl
                     refine one_ (i := 6) (N := none) #[Zt,Zt,Zt,Zt,Zt,Zt,Zt,Zf] rfl rfl (one_of HT_.out (by kernel_rfl)) (by decide) (fun K hK => ?_)
                     have hs31 : w30.cell? ⟨gb411,0, none⟩ = some (.int .i64 x412000_1) := (Qn BK411.out 0).trans rfl
                     have hfs31 := Qm BK411.out 0
                     have hns31_1 := NB414_411.out
                     have hms31_1 := NB411_414.out
                     have hs32 : w30.cell? ⟨gb411,1, none⟩ = some (.string x412001_1) := (Qn BK411.out 1).trans rfl
                     have hfs32 := Qm BK411.out 1
                     have hns32_1 := NB414_411.out
                     have hms32_1 := NB411_414.out
                     have hs33 : w30.cell? ⟨gb411,2, none⟩ = some (.int .i64 x412002_1) := (Qn BK411.out 2).trans rfl
                     have hfs33 := Qm BK411.out 2
                     have hns33_1 := NB414_411.out
                     have hms33_1 := NB411_414.out
                     refine skip_ (w1 := ?_) (by rfl) rfl ?_ ?_
                     rotate_left
                     · go_simp
                       rfl
                     refine hK.out _ _ ⟨((cell_far (p := ⟨gb411, _, none⟩) NB414_411.out _).trans (((cell_far (p := ⟨gb411, _, none⟩) NB414_411.out _).trans (((cell_far (p := ⟨gb411, _, none⟩) NB414_411.out _).trans (hHeld.1)))))), ((cell_far (p := ⟨gb411, _, none⟩) NB414_411.out _).trans (((cell_far (p := ⟨gb411, _, none⟩) NB414_411.out _).trans (((cell_far (p := ⟨gb411, _, none⟩) NB414_411.out _).trans (hHeld.2.1)))))), ((cell_far (p := ⟨gb411, _, none⟩) NB414_411.out _).trans (((cell_far (p := ⟨gb411, _, none⟩) NB414_411.out _).trans (((cell_far (p := ⟨gb411, _, none⟩) NB414_411.out _).trans (hHeld.2.2))))))⟩ (fun hHeld => ?_)
                     clear hK K
                     refine pu (i := 7) (N := some 3) (v := ?_) (a' := ?_) #[Zt,Zt,Zt,Zt,Zt,Zt,Zt,Zt] HT_ ?_ ?_ ?_
                     rotate_left
                     · intro w'
                       go_simp
                       with_reducible rfl
                     rotate_left
                     · simp only [Act.put, Xt, Xu, Xv, i64_w, i32_w]
                       rfl
                     refine done_ (done_of HT_.out (by kernel_rfl)) ?_
                     try go_wp2
                     refine Qz (Xa rfl _ _ gb411 60 #[.int .i64 x4_1, .string x415001_15, .int .i64 t418] (0,0) _ rfl (by (with_reducible repeat (first | refine Qj ?_ _ | refine Qk ?_ | refine Ql ?_ _)); refine Qo (cs := #[.int .i64 x4_1, .string x415001_15, .int .i64 x412002_1]) ?_ 2 _ rfl; (with_reducible repeat (first | refine Qj ?_ _ | refine Qk ?_ | refine Ql ?_ _)); refine Qo (cs := #[.int .i64 x4_1, .string x412001_1, .int .i64 x412002_1]) ?_ 1 _ rfl; (with_reducible repeat (first | refine Qj ?_ _ | refine Qk ?_ | refine Ql ?_ _)); refine Qo (cs := #[.int .i64 x412000_1, .string x412001_1, .int .i64 x412002_1]) ?_ 0 _ rfl; (with_reducible repeat (first | refine Qj ?_ _ | refine Qk ?_ | refine Ql ?_ _)); exact BK411.out) Tryz.underlying60 rfl (by kernel_rfl)) rfl ?_
                     exact ⟨by first | rfl | (simp [errW_none, errW_some] <;> rfl) | (simp [*, errW_none, errW_some] <;> rfl), bl HB.out⟩
                   replace c24 := Bool.eq_false_iff.mpr c24
                   subst c24
                   have H1 : (some (x4_1, x415001_15, t418, false)) = some (r1, r2, r3, r4) := by rw [if_neg (show ¬ (false = true) by decide)] at H; exact H
                   clear H
                   have H := H1
                   clear H1
                   simp only [Option.some.injEq, Prod.mk.injEq] at H
                   obtain ⟨rfl, rfl, rfl, rfl⟩ := H
                   have p417 : 0 ≤ (x6_7 : Int) := Xp (by assumption)
                   have q417 : x6_7 < (l0.length : Int) := Xp (by assumption)
                   obtain ⟨ad417, e417, hx417_0⟩ := Kd.at_string HR0.out x6_7 p417 q417
                   obtain rfl : ad412 = ad417 := (by injection e417)
                   replace hx417_0 := (HB.out.cell (Xs w _ hx417_0)).trans hx417_0
                   replace p417 := eq_true p417
                   replace q417 := eq_true q417
                   try go_wp2_with (first | ((with_reducible refine Qw (f := 49) rfl ?_); refine gc (some 41) Tryz.func49 #[.string (rdOf ByteArray.empty l0 x6_7)] ?_; (with_reducible refine (payrollref34_Number.calls kj15 (rdOf ByteArray.empty l0 x6_7) t418 false _ A23.out).mono ?_); rintro e w' ⟨rfl, ⟨nd, rfl⟩⟩; refine ⟨_, rfl, ?_⟩; (try simp only [World.drewN_drewN]); (try (rw [drewN_self wc]; generalize hq_ : World.drewN wc _ = wc; have n0_ : Aside0 (wc.heap[gb411]? = some (.cells #[.int .i64 x412000_1, .string x412001_1, .int .i64 x412002_1] 60 (0,0))) := ⟨by rw [← hq_]; exact (nc BK411.out)⟩; have n1_ : Aside0 (wc.heap[gb414]? = some (.cells #[.int .i64 x4_1, .string x415001_15, .int .i64 0] 60 (0,0))) := ⟨by rw [← hq_]; exact (nc BK414.out)⟩; have n2_ : Aside0 (Below w.heap.size w wc) := ⟨by rw [← hq_]; exact (bl HB.out)⟩; clear BK411 BK414 HB hq_; have BK411 := n0_; have BK414 := n1_; have HB := n2_; clear n0_ n1_ n2_)); have hnb34 := NB414_411.out; have hnc34 := NB411_414.out; have hcz35_0 := hz BK414.out 0; have hcz35_1 := hz BK414.out 1; have hcz35_2 := hz BK414.out 2; have hfz35_0 := Qm BK414.out 0; have hfz35_1 := Qm BK414.out 1; have hfz35_2 := Qm BK414.out 2))
                   have n0_ : Aside0 ((wc.setCell ⟨gb414,2, none⟩ (.int .i64 t418)).heap[gb411]? = some (.cells #[.int .i64 x412000_1, .string x412001_1, .int .i64 x412002_1] 60 (0,0))) := ⟨by (with_reducible repeat (first | refine Qj ?_ _ | refine Qk ?_ | refine Ql ?_ _)); refine Qc ?_ NB411_414.out _; (with_reducible repeat (first | refine Qj ?_ _ | refine Qk ?_ | refine Ql ?_ _)); exact BK411.out⟩
                   have n1_ : Aside0 ((wc.setCell ⟨gb414,2, none⟩ (.int .i64 t418)).heap[gb414]? = some (.cells #[.int .i64 x4_1, .string x415001_15, .int .i64 t418] 60 (0,0))) := ⟨by (with_reducible repeat (first | refine Qj ?_ _ | refine Qk ?_ | refine Ql ?_ _)); refine Qo (cs := #[.int .i64 x4_1, .string x415001_15, .int .i64 0]) ?_ 2 _ rfl; (with_reducible repeat (first | refine Qj ?_ _ | refine Qk ?_ | refine Ql ?_ _)); exact BK414.out⟩
                   have n2_ : Aside0 (Below w.heap.size w (wc.setCell ⟨gb414,2, none⟩ (.int .i64 t418))) := ⟨bl HB.out⟩
                   (try clear BK411)
                   (try clear BK414)
                   (try clear HB)
                   generalize (wc.setCell ⟨gb414,2, none⟩ (.int .i64 t418)) = w36 at n0_ n1_ n2_ ⊢
                   have BK411 := n0_
                   have BK414 := n1_
                   have HB := n2_
                   clear n0_ n1_ n2_
                   have n0_ := Qa (Qk BK411.out)
                   have n1_ := Qa (Qk BK414.out)
                   have n2_ := Qa (Qf HB.out)
                   clear BK411
                   clear BK414
                   clear HB
                   have BK411 := n0_
                   have BK414 := n1_
                   have HB := n2_
                   clear n0_ n1_ n2_
                   refine start_ (n := 8) (S := fun w' => w'.cell? ⟨gb414,0, none⟩ = some (.int .i64 x4_1) ∧ w'.cell? ⟨gb414,1, none⟩ = some (.string x415001_15) ∧ w'.cell? ⟨gb414,2, none⟩ = some (.int .i64 t418)) (ds := []) #[Zf,Zf,Zf,Zf,Zf,Zf,Zf,Zf] (by kernel_rfl) rfl rfl ⟨(Qn BK414.out 0).trans rfl, (Qn BK414.out 1).trans rfl, (Qn BK414.out 2).trans rfl⟩ (fun hHeld => ?_); refine with_tabW payrollref34_Line.tab15 payrollref34_Line.bits15 (fun HT_ HW_ => ?_)
                   generalize w36.drew = w37 at BK411 BK414 HB hHeld ⊢
                   refine pu (i := 1) (N := some 47) (v := ?_) (a' := ?_) #[Zf,Zt,Zf,Zf,Zf,Zf,Zf,Zf] HT_ ?_ ?_ ?_
                   rotate_left
                   · intro w'
                     go_simp
                     with_reducible rfl
                   rotate_left
                   · simp only [Act.put, Xt, Xu, Xv, i64_w, i32_w]
                     rfl
                   refine pu (i := 2) (N := some 48) (v := ?_) (a' := ?_) #[Zf,Zt,Zt,Zf,Zf,Zf,Zf,Zf] HT_ ?_ ?_ ?_
                   rotate_left
                   · intro w'
                     go_simp
                     with_reducible rfl
                   rotate_left
                   · simp only [Act.put, Xt, Xu, Xv, i64_w, i32_w]
                     rfl
                   refine pv (i := 3) (N := some 49) (a' := ?_) #[Zf,Zt,Zt,Zt,Zf,Zf,Zf,Zf] HT_ ?_ ?_
                   rotate_left
                   · simp only [Act.put, Xt, Xu, Xv, i64_w, i32_w]
                     rfl
                   refine pv (i := 4) (N := some 50) (a' := ?_) #[Zf,Zt,Zt,Zt,Zt,Zf,Zf,Zf] HT_ ?_ ?_
                   rotate_left
                   · simp only [Act.put, Xt, Xu, Xv, i64_w, i32_w]
                     rfl
                   refine pu (i := 5) (N := some 51) (v := ?_) (a' := ?_) #[Zf,Zt,Zt,Zt,Zt,Zt,Zf,Zf] HT_ ?_ ?_ ?_
                   rotate_left
                   · intro w'
                     go_simp
                     with_reducible rfl
                   rotate_left
                   · simp only [Act.put, Xt, Xu, Xv, i64_w, i32_w]
                     rfl
                   refine take_ (i := 0) (N := some 46) (v := ?_) (a' := ?_) #[Zt,Zt,Zt,Zt,Zt,Zt,Zf,Zf] rfl rfl (take_ofW HT_.out HW_.out (by kernel_rfl)) (fun _ _ _ h => h) (Or.inl ⟨by rfl, ?_⟩) hHeld ?_ ?_
                   rotate_left
                   · rintro w' ⟨s0, s1, s2⟩
                     go_simp
                     with_reducible rfl
                   rotate_left
                   · simp only [Act.put, Xt, Xu, Xv, i64_w, i32_w]
                     rfl
                   refine one_ (i := 6) (N := none) #[Zt,Zt,Zt,Zt,Zt,Zt,Zt,Zf] rfl rfl (one_of HT_.out (by kernel_rfl)) (by decide) (fun K hK => ?_)
                   have hs38 : w37.cell? ⟨gb411,0, none⟩ = some (.int .i64 x412000_1) := (Qn BK411.out 0).trans rfl
                   have hfs38 := Qm BK411.out 0
                   have hns38_1 := NB414_411.out
                   have hms38_1 := NB411_414.out
                   have hs39 : w37.cell? ⟨gb411,1, none⟩ = some (.string x412001_1) := (Qn BK411.out 1).trans rfl
                   have hfs39 := Qm BK411.out 1
                   have hns39_1 := NB414_411.out
                   have hms39_1 := NB411_414.out
                   have hs40 : w37.cell? ⟨gb411,2, none⟩ = some (.int .i64 x412002_1) := (Qn BK411.out 2).trans rfl
                   have hfs40 := Qm BK411.out 2
                   have hns40_1 := NB414_411.out
                   have hms40_1 := NB411_414.out
                   refine skip_ (w1 := ?_) (by rfl) rfl ?_ ?_
                   rotate_left
                   · go_simp
                     rfl
                   refine hK.out _ _ ⟨((cell_far (p := ⟨gb411, _, none⟩) NB414_411.out _).trans (((cell_far (p := ⟨gb411, _, none⟩) NB414_411.out _).trans (((cell_far (p := ⟨gb411, _, none⟩) NB414_411.out _).trans (hHeld.1)))))), ((cell_far (p := ⟨gb411, _, none⟩) NB414_411.out _).trans (((cell_far (p := ⟨gb411, _, none⟩) NB414_411.out _).trans (((cell_far (p := ⟨gb411, _, none⟩) NB414_411.out _).trans (hHeld.2.1)))))), ((cell_far (p := ⟨gb411, _, none⟩) NB414_411.out _).trans (((cell_far (p := ⟨gb411, _, none⟩) NB414_411.out _).trans (((cell_far (p := ⟨gb411, _, none⟩) NB414_411.out _).trans (hHeld.2.2))))))⟩ (fun hHeld => ?_)
                   clear hK K
                   refine pu (i := 7) (N := some 3) (v := ?_) (a' := ?_) #[Zt,Zt,Zt,Zt,Zt,Zt,Zt,Zt] HT_ ?_ ?_ ?_
                   rotate_left
                   · intro w'
                     go_simp
                     with_reducible rfl
                   rotate_left
                   · simp only [Act.put, Xt, Xu, Xv, i64_w, i32_w]
                     rfl
                   refine done_ (done_of HT_.out (by kernel_rfl)) ?_
                   try go_wp2
                   refine Qz (Xa rfl _ _ gb411 60 #[.int .i64 x4_1, .string x415001_15, .int .i64 t418] (0,0) _ rfl (by (with_reducible repeat (first | refine Qj ?_ _ | refine Qk ?_ | refine Ql ?_ _)); refine Qo (cs := #[.int .i64 x4_1, .string x415001_15, .int .i64 x412002_1]) ?_ 2 _ rfl; (with_reducible repeat (first | refine Qj ?_ _ | refine Qk ?_ | refine Ql ?_ _)); refine Qo (cs := #[.int .i64 x4_1, .string x412001_1, .int .i64 x412002_1]) ?_ 1 _ rfl; (with_reducible repeat (first | refine Qj ?_ _ | refine Qk ?_ | refine Ql ?_ _)); refine Qo (cs := #[.int .i64 x412000_1, .string x412001_1, .int .i64 x412002_1]) ?_ 0 _ rfl; (with_reducible repeat (first | refine Qj ?_ _ | refine Qk ?_ | refine Ql ?_ _)); exact BK411.out) Tryz.underlying60 rfl (by kernel_rfl)) rfl ?_
                   exact ⟨by first | rfl | (simp [errW_none, errW_some] <;> rfl) | (simp [*, errW_none, errW_some] <;> rfl), bl HB.out⟩
                 rw [if_neg c22] at H
                 exact absurd H (by simp)
               rw [if_neg c21] at H
               exact absurd H (by simp)
           rw [if_neg c15] at H
           have c15b0 : ((l0.length : Int) == (wrap64 (x6_7 + 1))) = false := Ya.mpr c15
           have c15b1 : ((l0.length : Int) != (wrap64 (x6_7 + 1))) = true := Yc.mpr c15
           simp only [Option.some.injEq, Prod.mk.injEq] at H
           obtain ⟨rfl, rfl, rfl, rfl⟩ := H
           have hnb41 := NB411_414.out
           have hnc41 := NB414_411.out
           have hcz42_0 := hz BK411.out 0
           have hcz42_1 := hz BK411.out 1
           have hcz42_2 := hz BK411.out 2
           have hfz42_0 := Qm BK411.out 0
           have hfz42_1 := Qm BK411.out 1
           have hfz42_2 := Qm BK411.out 2
           go_wp2
           refine Qz (Xa rfl _ _ gb411 60 #[.int .i64 0, .string (⟨#[]⟩ : Zb), .int .i64 0] (0,0) _ rfl (by (with_reducible repeat (first | refine Qj ?_ _ | refine Qk ?_ | refine Ql ?_ _)); refine Qo (cs := #[.int .i64 0, .string (⟨#[]⟩ : Zb), .int .i64 x412002_1]) ?_ 2 _ rfl; (with_reducible repeat (first | refine Qj ?_ _ | refine Qk ?_ | refine Ql ?_ _)); refine Qo (cs := #[.int .i64 0, .string x412001_1, .int .i64 x412002_1]) ?_ 1 _ rfl; (with_reducible repeat (first | refine Qj ?_ _ | refine Qk ?_ | refine Ql ?_ _)); refine Qo (cs := #[.int .i64 x412000_1, .string x412001_1, .int .i64 x412002_1]) ?_ 0 _ rfl; (with_reducible repeat (first | refine Qj ?_ _ | refine Qk ?_ | refine Ql ?_ _)); exact BK411.out) Tryz.underlying60 rfl (by kernel_rfl)) rfl ?_
           exact ⟨by first | rfl | (simp [errW_none, errW_some] <;> rfl) | (simp [*, errW_none, errW_some] <;> rfl), bl HB.out⟩
       rw [if_neg c6] at H
       have c6b0 : ((rdOf ByteArray.empty l0 0).toList == t413.toList) = false := Ya.mpr c6
       have c6b1 : ((rdOf ByteArray.empty l0 0).toList != t413.toList) = true := Yc.mpr c6
       have H' := Qa H
       clear H
       try go_wp2
       have n0_ := Qa (Qk BK411.out)
       have n1_ := Qa (Qf HB.out)
       clear BK411
       clear HB
       have BK411 := n0_
       have HB := n1_
       clear n0_ n1_
       have p412 : 0 ≤ (0 : Int) := (by omega)
       have q412 : 0 < (l0.length : Int) := Xp (by assumption)
       obtain ⟨ad412, e412, hx412_0⟩ := Kd.at_string HR0.out 0 p412 q412
       have hw412_0 := hx412_0
       (try rw [show ((0 : Int)).toNat = 0 from rfl] at hw412_0)
       (try rw [show 0 * 1 = 0 from rfl] at hw412_0)
       (try rw [Addr.add_zero'] at hw412_0)
       cases e412
       have qi412 : (0 < l0.length) = True := eq_true (by omega)
       (try rw [show ((0 : Int)).toNat = 0 from rfl] at hx412_0)
       (try rw [Addr.add_zero'] at hx412_0)
       replace hx412_0 := (HB.out.cell (Xs w _ hx412_0)).trans hx412_0
       replace p412 := eq_true p412
       replace q412 := eq_true q412
       refine start_ (n := 6) (S := fun w' => w'.cell? ad412 = some (.string (rdOf ByteArray.empty l0 0))) (ds := []) #[Zf,Zf,Zf,Zf,Zf,Zf] (by kernel_rfl) rfl rfl (((HB.out.cell (Xs w _ hw412_0)).trans hw412_0)) (fun hHeld => ?_)
       generalize wr.drew = w43 at BK411 HB hx412_0 hHeld ⊢
       refine pure_ (i := 0) (N := some 13) (v := ?_) (a' := ?_) #[Zt,Zf,Zf,Zf,Zf,Zf] rfl rfl (by kernel_rfl) (fun _ _ _ h => h) (Or.inl ⟨by rfl, ?_⟩) ?_ ?_
       rotate_left
       · intro w'
         go_simp
         with_reducible rfl
       rotate_left
       · simp only [Act.put, Xt, Xu, Xv, i64_w, i32_w]
         rfl
       refine pure_ (i := 1) (N := some 14) (v := ?_) (a' := ?_) #[Zt,Zt,Zf,Zf,Zf,Zf] rfl rfl (by kernel_rfl) (fun _ _ _ h => h) (Or.inl ⟨by rfl, ?_⟩) ?_ ?_
       rotate_left
       · intro w'
         go_simp
         with_reducible rfl
       rotate_left
       · simp only [Act.put, Xt, Xu, Xv, i64_w, i32_w]
         rfl
       refine pure_ (i := 3) (N := some 16) (v := ?_) (a' := ?_) #[Zt,Zt,Zf,Zt,Zf,Zf] rfl rfl (by kernel_rfl) (fun _ _ _ h => h) (Or.inl ⟨by rfl, ?_⟩) ?_ ?_
       rotate_left
       · intro w'
         go_simp
         with_reducible rfl
       rotate_left
       · simp only [Act.put, Xt, Xu, Xv, i64_w, i32_w]
         rfl
       refine take_ (i := 2) (N := some 15) (v := ?_) (a' := ?_) #[Zt,Zt,Zt,Zt,Zf,Zf] rfl rfl (by kernel_rfl) (fun _ _ _ h => h) (Or.inl ⟨by rfl, ?_⟩) hHeld ?_ ?_
       rotate_left
       · intro w' s0
         go_simp
         with_reducible rfl
       rotate_left
       · simp only [Act.put, Xt, Xu, Xv, i64_w, i32_w]
         rfl
       refine one_ (i := 4) (N := some 17) #[Zt,Zt,Zt,Zt,Zt,Zf] rfl rfl (by kernel_rfl) (by decide) (fun K hK => ?_)
       refine goes_ Tryz.func64 (by kernel_rfl) rfl #[.int .i64 x4_1] (by rfl) rfl rfl (by (try simp only [List.map_toArray, List.map_cons, List.map_nil]); first | done | rfl | (simp only [List.length_drop, List.length_take]; rfl)) ?_
       with_reducible refine (payrollref34_Word.calls x4_1 t413 _ A5.out).mono ?_
       rintro e w44 ⟨rfl, hb⟩
       refine ⟨_, rfl, ?_⟩
       have n0_ := Qa (Qb (nc BK411.out) hb)
       have n1_ := Qa (Qh (bl HB.out) hb)
       clear BK411
       clear HB
       have BK411 := n0_
       have HB := n1_
       clear n0_ n1_
       (try clear hb)
       (try clear hb2)
       (try clear hk)
       (try clear hi)
       refine hK.out _ _ (((HB.out.cell (Xs w _ hw412_0)).trans hw412_0)) (fun hHeld => ?_)
       clear hK K
       refine norm_ (a' := ?_) ?_ ?_
       rotate_left
       · show Act.put _ (some 17) _ = _
         simp only [Act.put, Xt, Xu, Xv, i64_w, i32_w]
         rfl
       refine pure_ (i := 5) (N := some 18) (v := ?_) (a' := ?_) #[Zt,Zt,Zt,Zt,Zt,Zt] rfl rfl (by kernel_rfl) (fun _ _ _ h => h) (Or.inl ⟨by rfl, ?_⟩) ?_ ?_
       rotate_left
       · intro w'
         go_simp
         with_reducible rfl
       rotate_left
       · simp only [Act.put, Xt, Xu, Xv, i64_w, i32_w]
         rfl
       refine done_ (by kernel_rfl) ?_
       try go_wp2
       go_roundg k1
       case measure => have := HK1.out; omega
       case rel => exact ⟨(wrap64 (x4_1 + 1)), (x412000_1), (x412001_1), (x412002_1), (by first | rfl | (simp; done) | (simp [*]; done)), H', ⟨by have := HK1.out; omega⟩, ⟨nc BK411.out⟩, ⟨bl HB.out⟩⟩
     rw [if_neg c4] at H
     exact absurd H (by simp)
   rw [if_neg c3] at H
   have c3b0 : decide (x4_1 ≤ 10) = false := Xr c3
   clear c3
   simp only [Option.some.injEq, Prod.mk.injEq] at H
   obtain ⟨rfl, rfl, rfl, rfl⟩ := H
   have hcz45_0 := hz BK411.out 0
   have hcz45_1 := hz BK411.out 1
   have hcz45_2 := hz BK411.out 2
   have hfz45_0 := Qm BK411.out 0
   have hfz45_1 := Qm BK411.out 1
   have hfz45_2 := Qm BK411.out 2
   go_wp2
   refine Qz (Xa rfl _ _ gb411 60 #[.int .i64 0, .string (⟨#[]⟩ : Zb), .int .i64 0] (0,0) _ rfl (by (with_reducible repeat (first | refine Qj ?_ _ | refine Qk ?_ | refine Ql ?_ _)); refine Qo (cs := #[.int .i64 0, .string (⟨#[]⟩ : Zb), .int .i64 x412002_1]) ?_ 2 _ rfl; (with_reducible repeat (first | refine Qj ?_ _ | refine Qk ?_ | refine Ql ?_ _)); refine Qo (cs := #[.int .i64 0, .string x412001_1, .int .i64 x412002_1]) ?_ 1 _ rfl; (with_reducible repeat (first | refine Qj ?_ _ | refine Qk ?_ | refine Ql ?_ _)); refine Qo (cs := #[.int .i64 x412000_1, .string x412001_1, .int .i64 x412002_1]) ?_ 0 _ rfl; (with_reducible repeat (first | refine Qj ?_ _ | refine Qk ?_ | refine Ql ?_ _)); exact BK411.out) Tryz.underlying60 rfl (by kernel_rfl)) rfl ?_
   exact ⟨by first | rfl | (simp [errW_none, errW_some] <;> rfl) | (simp [*, errW_none, errW_some] <;> rfl), bl HB.out⟩
end Go.Proofs.YtejgfblphgcgkaaGreatDoor.P
