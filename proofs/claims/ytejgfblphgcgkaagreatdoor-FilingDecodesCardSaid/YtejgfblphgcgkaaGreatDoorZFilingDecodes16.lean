/- Texts for the law FilingDecodes (kept out of a larger one). -/
import Derived.Test.YtejgfblphgcgkaaGreatDoorZFilingDecodes15
namespace Go.Proofs.YtejgfblphgcgkaaGreatDoor.P
open Go.RowKit Go.Proofs.YtejgfblphgcgkaaGreatDoorW.PrintWords Go.Proofs.YtejgfblphgcgkaaGreatDoorW.PrintLast Go.Proofs.YtejgfblphgcgkaaGreatDoorW.PrintMore
attribute [local go_sem] max2_int min2_int max_two min_two max_three min_three max_four min_four   -- for this text's walks alone
set_option linter.unusedVariables false
set_option linter.unusedSimpArgs false
def payrollref43_Encode.l0 : Nat → Zb → Int → Int → Int → List (S60) → Option (Zb × Int)
 | 0, _, _, _, _, _ => none
 | k + 1, x4, x5, x342000, x342001, x342002 => if x5 < (x342002.length : Int) then (if 0 ≤ x5 then ((payrollref34_Text.f k ((rd_T60 x342002 x5).f0) ((rd_T60 x342002 x5).f1) ((rd_T60 x342002 x5).f2)).bind fun t346 => (if x4.size + t346.size ≤ 9223372036854775807 then (payrollref43_Encode.l0 k (x4 ++ t346) (wrap64 (x5 + 1)) x342000 x342001 x342002) else (none))) else (none)) else (if x4.size + 4 ≤ 9223372036854775807 then (some (x4 ++ (⟨#[101,110,100,10]⟩ : Zb), 0)) else (none))
def payrollref43_Encode.f (k : Nat) (a0_0 : Int) (a0_1 : Int) (l0_2 : List (S60)) : Option (Zb × Int) := (payrollref43_Valid.f k a0_0 a0_1 l0_2).bind fun t342 => (if t342 = true then ((payrollref1_Decimal.f k a0_0).bind fun t343 => (if 7 + t343.size ≤ 9223372036854775807 then (if ((⟨#[114,101,116,117,114,110,32]⟩ : Zb) ++ t343).size + 9 ≤ 9223372036854775807 then ((payrollref1_Decimal.f k a0_1).bind fun t344 => (if (((⟨#[114,101,116,117,114,110,32]⟩ : Zb) ++ t343) ++ (⟨#[32,118,101,114,115,105,111,110,32]⟩ : Zb)).size + t344.size ≤ 9223372036854775807 then (if ((((⟨#[114,101,116,117,114,110,32]⟩ : Zb) ++ t343) ++ (⟨#[32,118,101,114,115,105,111,110,32]⟩ : Zb)) ++ t344).size + 1 ≤ 9223372036854775807 then (payrollref43_Encode.l0 k (((((⟨#[114,101,116,117,114,110,32]⟩ : Zb) ++ t343) ++ (⟨#[32,118,101,114,115,105,111,110,32]⟩ : Zb)) ++ t344) ++ (⟨#[10]⟩ : Zb)) 0 a0_0 a0_1 l0_2) else (none)) else (none))) else (none)) else (none))) else (some ((⟨#[]⟩ : Zb), 1)))
def payrollref43_Encode.T3 : Bool × List (List Nat × List Nat) := (true, [([], []), ([0], [0]), ([1], [1]), ([2], [2]), ([3], [3]), ([], []), ([5], [5]), ([6,2], [6]), ([4,7], [4,7]), ([8], [8]), ([9,7,0,1,2,3,4,5,6,7,8,9], [9])])
def payrollref43_Encode.B3 : List Nat := [0,1,3,7,15,0,32,103,255,511,1023]
theorem payrollref43_Encode.tab3 : rtab .any (opsOf Tryz.f15 3) = payrollref43_Encode.T3 := by kernel_rfl
theorem payrollref43_Encode.bits3 : waitsOk payrollref43_Encode.T3.2 payrollref43_Encode.B3 = true := by kernel_rfl
set_option maxHeartbeats 8000000 in
set_option maxRecDepth 100000 in
theorem payrollref43_Encode.calls (k : Nat) (a0_0 : Int) (a0_1 : Int) (A0_2 : Option Addr) (c0_2 : Nat) (l0_2 : List (S60)) (r1 : Zb) (r2 : Int) (w : World) (hr0_2 : Kd.C k60 w A0_2 l0_2.length l0_2) (hc0_2 : l0_2.length ≤ c0_2) (h : payrollref43_Encode.f k a0_0 a0_1 l0_2 = some (r1, r2)) :
 Calls Tryz.prog 15 #[.agg #[.int .i64 a0_0, .int .i64 a0_1, .slice A0_2 l0_2.length c0_2]] w fun e w' => e = .returned (.tuple #[.string r1, .int .i64 r2]) ∧ Below w.heap.size w w' := by
 have hu25 := Tryz.underlying25
 have hu60 := Tryz.underlying60
 have HR0_2 := Qa hr0_2
 have HC0_2 := Qa hc0_2
 clear hr0_2 hc0_2
 have HB := Qa (Below.refl w.heap.size w)
 have H : ((payrollref43_Valid.f k a0_0 a0_1 l0_2).bind fun t342 => (if t342 = true then ((payrollref1_Decimal.f k a0_0).bind fun t343 => (if 7 + t343.size ≤ 9223372036854775807 then (if ((⟨#[114,101,116,117,114,110,32]⟩ : Zb) ++ t343).size + 9 ≤ 9223372036854775807 then ((payrollref1_Decimal.f k a0_1).bind fun t344 => (if (((⟨#[114,101,116,117,114,110,32]⟩ : Zb) ++ t343) ++ (⟨#[32,118,101,114,115,105,111,110,32]⟩ : Zb)).size + t344.size ≤ 9223372036854775807 then (if ((((⟨#[114,101,116,117,114,110,32]⟩ : Zb) ++ t343) ++ (⟨#[32,118,101,114,115,105,111,110,32]⟩ : Zb)) ++ t344).size + 1 ≤ 9223372036854775807 then (payrollref43_Encode.l0 k (((((⟨#[114,101,116,117,114,110,32]⟩ : Zb) ++ t343) ++ (⟨#[32,118,101,114,115,105,111,110,32]⟩ : Zb)) ++ t344) ++ (⟨#[10]⟩ : Zb)) 0 a0_0 a0_1 l0_2) else (none)) else (none))) else (none)) else (none))) else (some ((⟨#[]⟩ : Zb), 1)))) = some (r1, r2) := h
 clear h
 replace H := Xx.mp H
 obtain ⟨t342, A20, H⟩ := H
 replace H : (if t342 = true then ((payrollref1_Decimal.f k a0_0).bind fun t343 => (if 7 + t343.size ≤ 9223372036854775807 then (if ((⟨#[114,101,116,117,114,110,32]⟩ : Zb) ++ t343).size + 9 ≤ 9223372036854775807 then ((payrollref1_Decimal.f k a0_1).bind fun t344 => (if (((⟨#[114,101,116,117,114,110,32]⟩ : Zb) ++ t343) ++ (⟨#[32,118,101,114,115,105,111,110,32]⟩ : Zb)).size + t344.size ≤ 9223372036854775807 then (if ((((⟨#[114,101,116,117,114,110,32]⟩ : Zb) ++ t343) ++ (⟨#[32,118,101,114,115,105,111,110,32]⟩ : Zb)) ++ t344).size + 1 ≤ 9223372036854775807 then (payrollref43_Encode.l0 k (((((⟨#[114,101,116,117,114,110,32]⟩ : Zb) ++ t343) ++ (⟨#[32,118,101,114,115,105,111,110,32]⟩ : Zb)) ++ t344) ++ (⟨#[10]⟩ : Zb)) 0 a0_0 a0_1 l0_2) else (none)) else (none))) else (none)) else (none))) else (some ((⟨#[]⟩ : Zb), 1))) = some (r1, r2) := H
 have A2 := Qa A20
 clear A20
 by_cases c3 : t342 = true
 · subst c3
   have H1 : ((payrollref1_Decimal.f k a0_0).bind fun t343 => (if 7 + t343.size ≤ 9223372036854775807 then (if ((⟨#[114,101,116,117,114,110,32]⟩ : Zb) ++ t343).size + 9 ≤ 9223372036854775807 then ((payrollref1_Decimal.f k a0_1).bind fun t344 => (if (((⟨#[114,101,116,117,114,110,32]⟩ : Zb) ++ t343) ++ (⟨#[32,118,101,114,115,105,111,110,32]⟩ : Zb)).size + t344.size ≤ 9223372036854775807 then (if ((((⟨#[114,101,116,117,114,110,32]⟩ : Zb) ++ t343) ++ (⟨#[32,118,101,114,115,105,111,110,32]⟩ : Zb)) ++ t344).size + 1 ≤ 9223372036854775807 then (payrollref43_Encode.l0 k (((((⟨#[114,101,116,117,114,110,32]⟩ : Zb) ++ t343) ++ (⟨#[32,118,101,114,115,105,111,110,32]⟩ : Zb)) ++ t344) ++ (⟨#[10]⟩ : Zb)) 0 a0_0 a0_1 l0_2) else (none)) else (none))) else (none)) else (none))) = some (r1, r2) := by rw [if_pos rfl] at H; exact H
   clear H
   have H := H1
   clear H1
   replace H := Xx.mp H
   obtain ⟨t343, A40, H⟩ := H
   replace H : (if 7 + t343.size ≤ 9223372036854775807 then (if ((⟨#[114,101,116,117,114,110,32]⟩ : Zb) ++ t343).size + 9 ≤ 9223372036854775807 then ((payrollref1_Decimal.f k a0_1).bind fun t344 => (if (((⟨#[114,101,116,117,114,110,32]⟩ : Zb) ++ t343) ++ (⟨#[32,118,101,114,115,105,111,110,32]⟩ : Zb)).size + t344.size ≤ 9223372036854775807 then (if ((((⟨#[114,101,116,117,114,110,32]⟩ : Zb) ++ t343) ++ (⟨#[32,118,101,114,115,105,111,110,32]⟩ : Zb)) ++ t344).size + 1 ≤ 9223372036854775807 then (payrollref43_Encode.l0 k (((((⟨#[114,101,116,117,114,110,32]⟩ : Zb) ++ t343) ++ (⟨#[32,118,101,114,115,105,111,110,32]⟩ : Zb)) ++ t344) ++ (⟨#[10]⟩ : Zb)) 0 a0_0 a0_1 l0_2) else (none)) else (none))) else (none)) else (none)) = some (r1, r2) := H
   have A4 := Qa A40
   clear A40
   by_cases c5 : 7 + t343.size ≤ 9223372036854775807
   · rw [if_pos c5] at H
     have c5b0 := eq_true c5
     have c5b1 : decide (7 + t343.size ≤ 9223372036854775807) = true := Xq c5
     try have c5b2 : (9223372036854775807 < 7 + t343.size) = False := eq_false (Nat.not_lt.2 c5)
     by_cases c6 : ((⟨#[114,101,116,117,114,110,32]⟩ : Zb) ++ t343).size + 9 ≤ 9223372036854775807
     · rw [if_pos c6] at H
       have c6b0 := eq_true c6
       have c6b1 : decide (((⟨#[114,101,116,117,114,110,32]⟩ : Zb) ++ t343).size + 9 ≤ 9223372036854775807) = true := Xq c6
       try have c6b2 : (9223372036854775807 < ((⟨#[114,101,116,117,114,110,32]⟩ : Zb) ++ t343).size + 9) = False := eq_false (Nat.not_lt.2 c6)
       (try (have c6n0 : (7 + t343.size + 9 ≤ 9223372036854775807) = True := eq_true (by have h_ := c6; simp only [Xw] at h_; exact h_)))
       (try (have c6n1 : (9223372036854775807 < 7 + t343.size + 9) = False := eq_false (by have h_ := c6; simp only [Xw] at h_; exact Nat.not_lt.2 h_)))
       replace H := Xx.mp H
       obtain ⟨t344, A70, H⟩ := H
       replace H : (if (((⟨#[114,101,116,117,114,110,32]⟩ : Zb) ++ t343) ++ (⟨#[32,118,101,114,115,105,111,110,32]⟩ : Zb)).size + t344.size ≤ 9223372036854775807 then (if ((((⟨#[114,101,116,117,114,110,32]⟩ : Zb) ++ t343) ++ (⟨#[32,118,101,114,115,105,111,110,32]⟩ : Zb)) ++ t344).size + 1 ≤ 9223372036854775807 then (payrollref43_Encode.l0 k (((((⟨#[114,101,116,117,114,110,32]⟩ : Zb) ++ t343) ++ (⟨#[32,118,101,114,115,105,111,110,32]⟩ : Zb)) ++ t344) ++ (⟨#[10]⟩ : Zb)) 0 a0_0 a0_1 l0_2) else (none)) else (none)) = some (r1, r2) := H
       have A7 := Qa A70
       clear A70
       by_cases c8 : (((⟨#[114,101,116,117,114,110,32]⟩ : Zb) ++ t343) ++ (⟨#[32,118,101,114,115,105,111,110,32]⟩ : Zb)).size + t344.size ≤ 9223372036854775807
       · rw [if_pos c8] at H
         have c8b0 := eq_true c8
         have c8b1 : decide ((((⟨#[114,101,116,117,114,110,32]⟩ : Zb) ++ t343) ++ (⟨#[32,118,101,114,115,105,111,110,32]⟩ : Zb)).size + t344.size ≤ 9223372036854775807) = true := Xq c8
         try have c8b2 : (9223372036854775807 < (((⟨#[114,101,116,117,114,110,32]⟩ : Zb) ++ t343) ++ (⟨#[32,118,101,114,115,105,111,110,32]⟩ : Zb)).size + t344.size) = False := eq_false (Nat.not_lt.2 c8)
         (try (have c8n0 : (7 + t343.size + 9 + t344.size ≤ 9223372036854775807) = True := eq_true (by have h_ := c8; simp only [Xw] at h_; exact h_)))
         (try (have c8n1 : (9223372036854775807 < 7 + t343.size + 9 + t344.size) = False := eq_false (by have h_ := c8; simp only [Xw] at h_; exact Nat.not_lt.2 h_)))
         by_cases c9 : ((((⟨#[114,101,116,117,114,110,32]⟩ : Zb) ++ t343) ++ (⟨#[32,118,101,114,115,105,111,110,32]⟩ : Zb)) ++ t344).size + 1 ≤ 9223372036854775807
         · rw [if_pos c9] at H
           have c9b0 := eq_true c9
           have c9b1 : decide (((((⟨#[114,101,116,117,114,110,32]⟩ : Zb) ++ t343) ++ (⟨#[32,118,101,114,115,105,111,110,32]⟩ : Zb)) ++ t344).size + 1 ≤ 9223372036854775807) = true := Xq c9
           try have c9b2 : (9223372036854775807 < ((((⟨#[114,101,116,117,114,110,32]⟩ : Zb) ++ t343) ++ (⟨#[32,118,101,114,115,105,111,110,32]⟩ : Zb)) ++ t344).size + 1) = False := eq_false (Nat.not_lt.2 c9)
           (try (have c9n0 : (7 + t343.size + 9 + t344.size + 1 ≤ 9223372036854775807) = True := eq_true (by have h_ := c9; simp only [Xw] at h_; exact h_)))
           (try (have c9n1 : (9223372036854775807 < 7 + t343.size + 9 + t344.size + 1) = False := eq_false (by have h_ := c9; simp only [Xw] at h_; exact Nat.not_lt.2 h_)))
           have H' := Qa H
           clear H
           go_enter Tryz.func15, Tryz.ntmps15
           try go_wp2_with (first | ((with_reducible refine Qx (N := 1) rfl ?_); refine Qv ?hg (N := 1) ?hd (cs := #[.int .i64 a0_0, .int .i64 a0_1, .slice A0_2 l0_2.length c0_2]) (t := 25) ?hr ?_; (case hd => rfl); (case hg => rfl); (case hr => first | (go_simp; done) | (go_simp; rfl)); intro gb341 hg w10 hbox hb; have n0_ := Qa (Qh (bl HB.out) hb); have n1_ := Qa (hbox); have n2_ := Qa ((by rw [hg]; exact (Qi (bl HB.out)) : w.heap.size ≤ gb341)); have n3_ := Qa ((by rw [hg]; exact (Qi (bl HB.out)) : w.heap.size ≤ gb341)); clear HB; have HB := n0_; have BK341 := n1_; have GW341 := n2_; have GE341 := n3_; clear n0_ n1_ n2_ n3_; clear hb hbox hg; have hcz11_0 := hz BK341.out 0; have hcz11_1 := hz BK341.out 1; have hcz11_2 := hz BK341.out 2; have hfz11_0 := Qm BK341.out 0; have hfz11_1 := Qm BK341.out 1; have hfz11_2 := Qm BK341.out 2) | ((with_reducible refine Qw (f := 17) rfl ?_); refine gc (some 7) Tryz.func17 #[.agg #[.int .i64 a0_0, .int .i64 a0_1, .slice A0_2 l0_2.length c0_2]] ?_; (with_reducible refine (payrollref43_Valid.calls k a0_0 a0_1 _ _ l0_2 true _ ?side1 ?side2 A2.out).mono ?_); (case side1 => repeat (first | exact (Kd.C_below HR0_2.out HB.out) | (with_reducible refine Kd.C_alloc ?_ _) | (with_reducible refine Kd.C_drewN ?_ _) | (with_reducible refine Kd.C_drew ?_))); (case side2 => exact HC0_2.out); rintro e w12 ⟨rfl, hb⟩; refine ⟨_, rfl, ?_⟩; have n0_ := Qa (Qb (nc BK341.out) hb); have n1_ := Qa (Qh (bl HB.out) hb); clear BK341 HB; have BK341 := n0_; have HB := n1_; clear n0_ n1_; (try clear hb)))
           have n0_ := Qa (Qk BK341.out)
           have n1_ := Qa (Qf HB.out)
           clear BK341
           clear HB
           have BK341 := n0_
           have HB := n1_
           clear n0_ n1_
           refine start_ (n := 11) (S := fun w' => w'.cell? ⟨gb341,0, none⟩ = some (.int .i64 a0_0) ∧ w'.cell? ⟨gb341,1, none⟩ = some (.int .i64 a0_1) ∧ w'.cell? ⟨gb341,2, none⟩ = some (.slice A0_2 l0_2.length c0_2)) (ds := []) #[Zf,Zf,Zf,Zf,Zf,Zf,Zf,Zf,Zf,Zf,Zf] (by kernel_rfl) rfl rfl ⟨(Qn BK341.out 0).trans rfl, (Qn BK341.out 1).trans rfl, (Qn BK341.out 2).trans rfl⟩ (fun hHeld => ?_); refine with_tabW payrollref43_Encode.tab3 payrollref43_Encode.bits3 (fun HT_ HW_ => ?_)
           generalize w12.drew = w13 at BK341 HB hHeld ⊢
           refine pu (i := 0) (N := some 9) (v := ?_) (a' := ?_) #[Zt,Zf,Zf,Zf,Zf,Zf,Zf,Zf,Zf,Zf,Zf] HT_ ?_ ?_ ?_
           rotate_left
           · intro w'
             go_simp
             with_reducible rfl
           rotate_left
           · simp only [Act.put, Xt, Xu, Xv, i64_w, i32_w]
             rfl
           refine pu (i := 5) (N := some 14) (v := ?_) (a' := ?_) #[Zt,Zf,Zf,Zf,Zf,Zt,Zf,Zf,Zf,Zf,Zf] HT_ ?_ ?_ ?_
           rotate_left
           · intro w'
             go_simp
             with_reducible rfl
           rotate_left
           · simp only [Act.put, Xt, Xu, Xv, i64_w, i32_w]
             rfl
           refine take_ (i := 1) (N := some 10) (v := ?_) (a' := ?_) #[Zt,Zt,Zf,Zf,Zf,Zt,Zf,Zf,Zf,Zf,Zf] rfl rfl (take_ofW HT_.out HW_.out (by kernel_rfl)) (fun _ _ _ h => h) (Or.inl ⟨by rfl, ?_⟩) hHeld ?_ ?_
           rotate_left
           · rintro w' ⟨s0, s1, s2⟩
             go_simp
             with_reducible rfl
           rotate_left
           · simp only [Act.put, Xt, Xu, Xv, i64_w, i32_w]
             rfl
           refine take_ (i := 6) (N := some 15) (v := ?_) (a' := ?_) #[Zt,Zt,Zf,Zf,Zf,Zt,Zt,Zf,Zf,Zf,Zf] rfl rfl (take_ofW HT_.out HW_.out (by kernel_rfl)) (fun _ _ _ h => h) (Or.inl ⟨by rfl, ?_⟩) hHeld ?_ ?_
           rotate_left
           · rintro w' ⟨s0, s1, s2⟩
             go_simp
             with_reducible rfl
           rotate_left
           · simp only [Act.put, Xt, Xu, Xv, i64_w, i32_w]
             rfl
           refine one_ (i := 2) (N := some 11) #[Zt,Zt,Zt,Zf,Zf,Zt,Zt,Zf,Zf,Zf,Zf] rfl rfl (one_of HT_.out (by kernel_rfl)) (by decide) (fun K hK => ?_)
           refine goes_ Tryz.func39 (by kernel_rfl) rfl #[.int .i64 a0_0] (by rfl) rfl rfl (by (try simp only [List.map_toArray, List.map_cons, List.map_nil]); first | done | rfl | (simp only [List.length_drop, List.length_take]; rfl)) ?_
           with_reducible refine (payrollref1_Decimal.calls k a0_0 t343 _ A4.out).mono ?_
           rintro e w14 ⟨rfl, hb⟩
           refine ⟨_, rfl, ?_⟩
           have n0_ := Qa (Qb (nc BK341.out) hb)
           have n1_ := Qa (Qh (bl HB.out) hb)
           clear BK341
           clear HB
           have BK341 := n0_
           have HB := n1_
           clear n0_ n1_
           (try clear hb)
           (try clear hb2)
           (try clear hk)
           (try clear hi)
           refine hK.out _ _ ⟨(Qn BK341.out 0).trans rfl, (Qn BK341.out 1).trans rfl, (Qn BK341.out 2).trans rfl⟩ (fun hHeld => ?_)
           clear hK K
           refine norm_ (a' := ?_) ?_ ?_
           rotate_left
           · show Act.put _ (some 11) _ = _
             simp only [Act.put, Xt, Xu, Xv, i64_w, i32_w]
             rfl
           refine pu (i := 3) (N := some 12) (v := ?_) (a' := ?_) #[Zt,Zt,Zt,Zt,Zf,Zt,Zt,Zf,Zf,Zf,Zf] HT_ ?_ ?_ ?_
           rotate_left
           · intro w'
             go_simp
             with_reducible rfl
           rotate_left
           · simp only [Act.put, Xt, Xu, Xv, i64_w, i32_w]
             rfl
           refine pu (i := 4) (N := some 13) (v := ?_) (a' := ?_) #[Zt,Zt,Zt,Zt,Zt,Zt,Zt,Zf,Zf,Zf,Zf] HT_ ?_ ?_ ?_
           rotate_left
           · intro w'
             go_simp
             with_reducible rfl
           rotate_left
           · simp only [Act.put, Xt, Xu, Xv, i64_w, i32_w]
             rfl
           refine one_ (i := 7) (N := some 16) #[Zt,Zt,Zt,Zt,Zt,Zt,Zt,Zt,Zf,Zf,Zf] rfl rfl (one_of HT_.out (by kernel_rfl)) (by decide) (fun K hK => ?_)
           refine goes_ Tryz.func39 (by kernel_rfl) rfl #[.int .i64 a0_1] (by rfl) rfl rfl (by (try simp only [List.map_toArray, List.map_cons, List.map_nil]); first | done | rfl | (simp only [List.length_drop, List.length_take]; rfl)) ?_
           with_reducible refine (payrollref1_Decimal.calls k a0_1 t344 _ A7.out).mono ?_
           rintro e w15 ⟨rfl, hb⟩
           refine ⟨_, rfl, ?_⟩
           have n0_ := Qa (Qb (nc BK341.out) hb)
           have n1_ := Qa (Qh (bl HB.out) hb)
           clear BK341
           clear HB
           have BK341 := n0_
           have HB := n1_
           clear n0_ n1_
           (try clear hb)
           (try clear hb2)
           (try clear hk)
           (try clear hi)
           refine hK.out _ _ ⟨(Qn BK341.out 0).trans rfl, (Qn BK341.out 1).trans rfl, (Qn BK341.out 2).trans rfl⟩ (fun hHeld => ?_)
           clear hK K
           refine norm_ (a' := ?_) ?_ ?_
           rotate_left
           · show Act.put _ (some 16) _ = _
             simp only [Act.put, Xt, Xu, Xv, i64_w, i32_w]
             rfl
           refine pu (i := 8) (N := some 17) (v := ?_) (a' := ?_) #[Zt,Zt,Zt,Zt,Zt,Zt,Zt,Zt,Zt,Zf,Zf] HT_ ?_ ?_ ?_
           rotate_left
           · intro w'
             go_simp
             with_reducible rfl
           rotate_left
           · simp only [Act.put, Xt, Xu, Xv, i64_w, i32_w]
             rfl
           refine pu (i := 9) (N := some 18) (v := ?_) (a' := ?_) #[Zt,Zt,Zt,Zt,Zt,Zt,Zt,Zt,Zt,Zt,Zf] HT_ ?_ ?_ ?_
           rotate_left
           · intro w'
             go_simp
             with_reducible rfl
           rotate_left
           · simp only [Act.put, Xt, Xu, Xv, i64_w, i32_w]
             rfl
           refine pu (i := 10) (N := some 4) (v := ?_) (a' := ?_) #[Zt,Zt,Zt,Zt,Zt,Zt,Zt,Zt,Zt,Zt,Zt] HT_ ?_ ?_ ?_
           rotate_left
           · intro w'
             go_simp
             with_reducible rfl
           rotate_left
           · simp only [Act.put, Xt, Xu, Xv, i64_w, i32_w]
             rfl
           refine done_ (done_of HT_.out (by kernel_rfl)) ?_
           try go_wp2
           go_loopg [4,5] k (fun kq v4 v5 w' => ∃ (x4_1 : Zb) (x5_1 : Int), v4 = .string x4_1 ∧ v5 = .int .i64 x5_1 ∧ Aside0 (payrollref43_Encode.l0 kq x4_1 x5_1 a0_0 a0_1 l0_2 = some (r1, r2)) ∧ Aside0 (kq ≤ k) ∧ Aside0 (w'.heap[gb341]? = some (.cells #[.int .i64 a0_0, .int .i64 a0_1, (.slice A0_2 l0_2.length c0_2)] 25 (0,0))) ∧ Aside0 (Below w.heap.size w w'))
           case atStart => exact ⟨(((((⟨#[114,101,116,117,114,110,32]⟩ : Zb) ++ t343) ++ (⟨#[32,118,101,114,115,105,111,110,32]⟩ : Zb)) ++ t344) ++ (⟨#[10]⟩ : Zb)), (0), (by first | rfl | (simp; done) | (simp [*]; done)), (by first | rfl | (simp; done) | (simp [*]; done)), H', ⟨Nat.le_refl _⟩, ⟨nc BK341.out⟩, ⟨bl HB.out⟩⟩
           case round =>
            clear H'
            try clear c1
            try clear p2
            try clear c3
            try clear c5
            try clear c5b0
            try clear c5b1
            try clear c5b2
            try clear c6
            try clear c6b0
            try clear c6b1
            try clear c6b2
            try clear c8
            try clear c8b0
            try clear c8b1
            try clear c8b2
            try clear c9
            try clear c9b0
            try clear c9b1
            try clear c9b2
            try clear c15
            try clear hcz11_0
            try clear hcz11_1
            try clear hcz11_2
            try clear hfz11_0
            try clear hfz11_1
            try clear hfz11_2
            obtain ⟨x4_1, x5_1, rfl, rfl, HA, HK1, BK341, HB⟩ := hrel
            cases gk with
            | zero => exact absurd HA.out (by simp [payrollref43_Encode.l0])
            | succ k1 =>
             have H := HA.out
             clear HA
             simp only [payrollref43_Encode.l0] at H
             by_cases c16 : x5_1 < (l0_2.length : Int)
             · rw [if_pos c16] at H
               have c16b0 : decide (x5_1 < (l0_2.length : Int)) = true := Xq c16
               clear c16
               by_cases c17 : 0 ≤ x5_1
               · rw [if_pos c17] at H
                 have c17b0 : decide (0 ≤ x5_1) = true := Xq c17
                 clear c17
                 replace H := Xx.mp H
                 obtain ⟨t346, A180, H⟩ := H
                 replace H : (if x4_1.size + t346.size ≤ 9223372036854775807 then (payrollref43_Encode.l0 k1 (x4_1 ++ t346) (wrap64 (x5_1 + 1)) a0_0 a0_1 l0_2) else (none)) = some (r1, r2) := H
                 have A18 := Qa A180
                 clear A180
                 by_cases c19 : x4_1.size + t346.size ≤ 9223372036854775807
                 · rw [if_pos c19] at H
                   have c19b0 := eq_true c19
                   have c19b1 : decide (x4_1.size + t346.size ≤ 9223372036854775807) = true := Xq c19
                   try have c19b2 : (9223372036854775807 < x4_1.size + t346.size) = False := eq_false (Nat.not_lt.2 c19)
                   have H' := Qa H
                   clear H
                   have hcz20_0 := hz BK341.out 0
                   have hcz20_1 := hz BK341.out 1
                   have hcz20_2 := hz BK341.out 2
                   have hfz20_0 := Qm BK341.out 0
                   have hfz20_1 := Qm BK341.out 1
                   have hfz20_2 := Qm BK341.out 2
                   have p345 : 0 ≤ (x5_1 : Int) := Xp (by assumption)
                   have q345 : x5_1 < (l0_2.length : Int) := Xp (by assumption)
                   obtain ⟨ad345, e345, hx345_0, hx345_1, hx345_2⟩ := at_T60 HR0_2.out x5_1 p345 q345
                   cases e345
                   replace hx345_0 := (HB.out.cell (Xs w _ hx345_0)).trans hx345_0
                   replace hx345_1 := (HB.out.cell (Xs w _ hx345_1)).trans hx345_1
                   replace hx345_2 := (HB.out.cell (Xs w _ hx345_2)).trans hx345_2
                   replace p345 := eq_true p345
                   replace q345 := eq_true q345
                   go_wp2_with (first | ((with_reducible refine Qw (f := 40) rfl ?_); refine gc (some 32) Tryz.func40 #[.agg #[.int .i64 ((rd_T60 l0_2 x5_1).f0), .string ((rd_T60 l0_2 x5_1).f1), .int .i64 ((rd_T60 l0_2 x5_1).f2)]] ?_; (with_reducible refine (payrollref34_Text.calls k1 ((rd_T60 l0_2 x5_1).f0) ((rd_T60 l0_2 x5_1).f1) ((rd_T60 l0_2 x5_1).f2) t346 _ A18.out).mono ?_); rintro e w21 ⟨rfl, hb⟩; refine ⟨_, rfl, ?_⟩; have n0_ := Qa (Qb (nc BK341.out) hb); have n1_ := Qa (Qh (bl HB.out) hb); clear BK341 HB; have BK341 := n0_; have HB := n1_; clear n0_ n1_; (try clear hb)))
                   go_roundg k1
                   case measure => have := HK1.out; omega
                   case rel => exact ⟨(x4_1 ++ t346), (wrap64 (x5_1 + 1)), (by first | rfl | (simp; done) | (simp [*]; done)), (by first | rfl | (simp; done) | (simp [*]; done)), H', ⟨by have := HK1.out; omega⟩, ⟨nc BK341.out⟩, ⟨bl HB.out⟩⟩
                 rw [if_neg c19] at H
                 exact absurd H (by simp)
               rw [if_neg c17] at H
               exact absurd H (by simp)
             rw [if_neg c16] at H
             have c16b0 : decide (x5_1 < (l0_2.length : Int)) = false := Xr c16
             clear c16
             by_cases c22 : x4_1.size + 4 ≤ 9223372036854775807
             · rw [if_pos c22] at H
               have c22b0 := eq_true c22
               have c22b1 : decide (x4_1.size + 4 ≤ 9223372036854775807) = true := Xq c22
               try have c22b2 : (9223372036854775807 < x4_1.size + 4) = False := eq_false (Nat.not_lt.2 c22)
               simp only [Option.some.injEq, Prod.mk.injEq] at H
               obtain ⟨rfl, rfl⟩ := H
               have hcz23_0 := hz BK341.out 0
               have hcz23_1 := hz BK341.out 1
               have hcz23_2 := hz BK341.out 2
               have hfz23_0 := Qm BK341.out 0
               have hfz23_1 := Qm BK341.out 1
               have hfz23_2 := Qm BK341.out 2
               go_wp2
               go_ret2
               exact ⟨by first | rfl | (simp [errW_none, errW_some] <;> rfl) | (simp [*, errW_none, errW_some] <;> rfl), bl HB.out⟩
             rw [if_neg c22] at H
             exact absurd H (by simp)
         rw [if_neg c9] at H
         exact absurd H (by simp)
       rw [if_neg c8] at H
       exact absurd H (by simp)
     rw [if_neg c6] at H
     exact absurd H (by simp)
   rw [if_neg c5] at H
   exact absurd H (by simp)
 replace c3 := Bool.eq_false_iff.mpr c3
 subst c3
 have H1 : (some ((⟨#[]⟩ : Zb), 1)) = some (r1, r2) := by rw [if_neg (show ¬ (false = true) by decide)] at H; exact H
 clear H
 have H := H1
 clear H1
 simp only [Option.some.injEq, Prod.mk.injEq] at H
 obtain ⟨rfl, rfl⟩ := H
 go_enter Tryz.func15, Tryz.ntmps15
 go_wp2_with (first | ((with_reducible refine Qx (N := 1) rfl ?_); refine Qv ?hg (N := 1) ?hd (cs := #[.int .i64 a0_0, .int .i64 a0_1, .slice A0_2 l0_2.length c0_2]) (t := 25) ?hr ?_; (case hd => rfl); (case hg => rfl); (case hr => first | (go_simp; done) | (go_simp; rfl)); intro gb341 hg w24 hbox hb; have n0_ := Qa (Qh (bl HB.out) hb); have n1_ := Qa (hbox); have n2_ := Qa ((by rw [hg]; exact (Qi (bl HB.out)) : w.heap.size ≤ gb341)); have n3_ := Qa ((by rw [hg]; exact (Qi (bl HB.out)) : w.heap.size ≤ gb341)); clear HB; have HB := n0_; have BK341 := n1_; have GW341 := n2_; have GE341 := n3_; clear n0_ n1_ n2_ n3_; clear hb hbox hg; have hcz25_0 := hz BK341.out 0; have hcz25_1 := hz BK341.out 1; have hcz25_2 := hz BK341.out 2; have hfz25_0 := Qm BK341.out 0; have hfz25_1 := Qm BK341.out 1; have hfz25_2 := Qm BK341.out 2) | ((with_reducible refine Qw (f := 17) rfl ?_); refine gc (some 7) Tryz.func17 #[.agg #[.int .i64 a0_0, .int .i64 a0_1, .slice A0_2 l0_2.length c0_2]] ?_; (with_reducible refine (payrollref43_Valid.calls k a0_0 a0_1 _ _ l0_2 false _ ?side1 ?side2 A2.out).mono ?_); (case side1 => repeat (first | exact (Kd.C_below HR0_2.out HB.out) | (with_reducible refine Kd.C_alloc ?_ _) | (with_reducible refine Kd.C_drewN ?_ _) | (with_reducible refine Kd.C_drew ?_))); (case side2 => exact HC0_2.out); rintro e w26 ⟨rfl, hb⟩; refine ⟨_, rfl, ?_⟩; have n0_ := Qa (Qb (nc BK341.out) hb); have n1_ := Qa (Qh (bl HB.out) hb); clear BK341 HB; have BK341 := n0_; have HB := n1_; clear n0_ n1_; (try clear hb)))
 go_ret2
 exact ⟨by first | rfl | (simp [errW_none, errW_some] <;> rfl) | (simp [*, errW_none, errW_some] <;> rfl), bl HB.out⟩
end Go.Proofs.YtejgfblphgcgkaaGreatDoor.P
