/- Texts for the law FilingReturns (kept out of a larger one). -/
import Derived.Test.YtejgfblphgcgkaaDoorZFilingReturns12
import Derived.Test.YtejgfblphgcgkaaDoorZFilingReturns23
import Derived.Test.YtejgfblphgcgkaaDoorZFilingReturns26
import Derived.Test.YtejgfblphgcgkaaDoorZFilingReturns27
import Derived.Test.YtejgfblphgcgkaaDoorZFilingReturns18
import Derived.WalkKit
import Derived.Below
namespace Go.Proofs.YtejgfblphgcgkaaDoor.P
set_option linter.unusedVariables false
set_option linter.unusedSimpArgs false
open Go Go.RowKit Go.Maps Go.ChangeMaps Go.MapKept Go.Proofs.YtejgfblphgcgkaaDoorW.PrintWords Go.Proofs.YtejgfblphgcgkaaDoorW.PrintLast Go.Proofs.YtejgfblphgcgkaaDoorW.PrintMore
def oneB : ByteArray := ⟨#[114, 101, 116, 117, 114, 110, 32, 53, 32, 118, 101, 114, 115, 105, 111, 110, 32, 49, 10, 116, 97, 120, 32, 45, 51, 10, 101, 110, 100, 10]⟩
def twoB : ByteArray := ⟨#[114, 101, 116, 117, 114, 110, 32, 53, 32, 118, 101, 114, 115, 105, 111, 110, 32, 50, 10, 101, 110, 100, 10]⟩
def oneX : S28 := ⟨6, ⟨#[]⟩, -3⟩
def AwakeP (k : Nat) : Prop := filing_Encode.f k 5 1 [oneX] = some (oneB, 0) ∧ filing_Encode.f k 5 2 [] = some (twoB, 0) ∧ filing_Decode.f k oneB = some (5, 1, [oneX], 0) ∧ filing_Decode.f k twoB = some (5, 2, [], 0)
instance : DecidableEq S28 := fun a b => decidable_of_iff (a.f0 = b.f0 ∧ a.f1 = b.f1 ∧ a.f2 = b.f2) (by cases a; cases b; simp)
instance (k : Nat) : Decidable (AwakeP k) := by unfold AwakeP; infer_instance
def payrolllaw43_awake.f (k : Nat) : Option Bool := if AwakeP k then some true else none
theorem verD_put {D : DataW Value} (hD : IsMap D) (p v : Int) (sv : Value) : verD (D.put (.int .i64 p) (.held (.agg #[.int .i64 p, .int .i64 v, sv]))) p = v := by
  unfold verD
  rw [atKey_put_same hD (by show True; trivial)]
  rfl
theorem subC_put {D : DataW Value} (hD : IsMap D) (p u v : Int) (sv : Value) : subC (D.put (.int .i64 p) (.held (.agg #[.int .i64 p, .int .i64 u, sv]))) p v 0 = if v ≤ u then 8 else if wrap64 (u + 1) < v then 16 else 0 := by
  unfold subC
  rw [verD_put hD, if_neg (by omega)]
theorem sub_nil (p v : Int) : subC (.map []) p v 0 = if v ≤ 0 then 8 else if wrap64 (0 + 1) < v then 16 else 0 := by
  have e : verD (.map []) p = 0 := rfl
  unfold subC
  rw [e, if_neg (by omega)]
theorem one_row (w : World) : Kd.C k28 (w.alloc (.cells #[.int .i64 6, .string ⟨#[]⟩, .int .i64 (-3)] 28)) (some ⟨w.heap.size, 0, none⟩) 1 [oneX] := by
  have hR : Kd.R k28 28 (w.alloc (.cells #[.int .i64 6, .string ⟨#[]⟩, .int .i64 (-3)] 28)) w.heap.size (fun _ => True) (.slice (some ⟨w.heap.size, 0, none⟩) 1 1) [oneX] :=
    ⟨fun _ _ => trivial, [.int .i64 6, .string ⟨#[]⟩, .int .i64 (-3)], ⟨rfl, Or.inr ⟨w.heap.size, 1, _, rfl, Nat.le_refl _, blk_new _ _, Nat.le_refl _, by decide, rfl, rfl⟩⟩, Reps.c3 (k28_mkM _ _ _ oneX) (Reps.none _ _)⟩
  exact (Kd.R_reads' hR).2.2
theorem no_row (w : World) : Kd.C k28 w none 0 [] := (Kd.R_reads' (Kd.R_nil k28 28 w 0 (fun _ => True))).2.2
set_option maxRecDepth 100000 in
set_option maxHeartbeats 2000000 in
theorem payrolllaw43_awake.calls (k : Nat) (r : Bool) (w : World) (hT : Tabs w) (h : payrolllaw43_awake.f k = some r) :
    Calls Tryd.prog 9 #[] w fun e w' => e = .returned (.bool r) ∧ Below w.heap.size w w' := by
  unfold payrolllaw43_awake.f at h
  split at h
  · rename_i hp
    obtain rfl := Option.some.inj h
    obtain ⟨h1, h2, h3, h4⟩ := hp
    have E1 := Aside0.mk h1
    have E2 := Aside0.mk h2
    have D1 := Aside0.mk h3
    have D2 := Aside0.mk h4
    have HT := Aside0.mk hT
    have hu25 := Tryd.underlying25
    have hu28 := Tryd.underlying28
    have hs : (oneB.toList = ([114, 101, 116, 117, 114, 110, 32, 53, 32, 118, 101, 114, 115, 105, 111, 110, 32, 49, 10, 116, 97, 120, 32, 45, 51, 10, 101, 110, 100, 10] : List UInt8)) = True := eq_true (by rw [Lib.toList_data]; rfl)
    have B0 := Aside0.mk (below_alloc (Below.refl w.heap.size w) (.cells #[.int .i64 6, .string ⟨#[]⟩, .int .i64 (-3)] 28))
    clear h h1 h2 h3 h4 hT
    go_enter Tryd.func9, Tryd.ntmps9
    go_upto_region 2 with (go_at_call 6; refine (filing_Encode.calls k 5 1 _ 1 [oneX] oneB 0 _ (one_row w) (Nat.le_refl _) (HT.out.below B0.out) E1.out).mono ?_; rintro e w1 ⟨rfl, hb⟩; have B1 := Aside0.mk (below_step B0.out hb); clear hb)
    go_upto_region 3 with (go_at_call 6; refine (filing_Encode.calls k 5 2 none 0 [] twoB 0 _ (no_row _) (Nat.le_refl _) (HT.out.below B1.out) E2.out).mono ?_; rintro e w2 ⟨rfl, hb⟩; have B2 := Aside0.mk (below_step B1.out hb); clear hb)
    go_upto_region 4 with (go_at_call 23; refine (filing_New.calls _).mono ?_; rintro e w3 ⟨rfl, ha⟩; have IA := Aside0.mk ha; have B3 := Aside0.mk (below_step B2.out ha.below); clear ha)
    generalize w2.heap.size + 1 = g at *
    generalize hm : w2.heap.size = m at IA
    have S1 := Aside0.mk (show subC (.map []) 5 2 0 = 16 from (sub_nil _ _).trans (by decide +kernel))
    have S2 := Aside0.mk (show subC (.map []) 5 1 0 = 0 from (sub_nil _ _).trans (by decide +kernel))
    have T1 := Aside0.mk trivial
    go_wp2_with (first
      | (go_at_call 24; have t_ := T1.out; clear t_; refine (submit_calls k _ _ g m 0 (.map []) twoB 5 2 0 [] IA.out (HT.out.below (below_step B2.out IA.out.below)) (by decide) (by decide) D2.out).mono ?_; rintro e w4 ⟨he_, hg_, hc_⟩; rw [S1.out] at he_ hc_; subst he_; clear hg_; have IA_ := Aside0.mk (hc_.elim (fun h => h.2) (fun h => absurd h.1 (by decide))); clear IA; have IA := IA_; clear IA_ hc_ T1; have T2 := Aside0.mk trivial)
      | (go_at_call 24; have t_ := T2.out; clear t_; refine (submit_calls k _ _ g m 0 (.map []) oneB 5 1 0 [oneX] IA.out (HT.out.below (below_step B2.out IA.out.below)) (by decide) (by decide) D1.out).mono ?_; rintro e w4 ⟨he_, hg_, hc_⟩; rw [S2.out] at he_ hc_; subst he_; clear hg_; obtain ⟨sv1, ia_⟩ := hc_.elim (fun h => absurd rfl h.1) (fun h => h.2); have im_ := IA.out.own.isMap; have IA_ := Aside0.mk ia_; clear IA; have IA := IA_; clear IA_ ia_ hc_ T2; have S3 := Aside0.mk (show subC ((DataW.map [] : DataW Value).put (.int .i64 5) (.held (.agg #[.int .i64 5, .int .i64 1, sv1]))) 5 2 0 = 0 from (subC_put im_ _ _ _ _).trans (by decide +kernel)); clear im_; have T3 := Aside0.mk trivial)
      | (go_at_call 24; have t_ := T3.out; clear t_; refine (submit_calls k _ _ g m 1 ((DataW.map [] : DataW Value).put (.int .i64 5) (.held (.agg #[.int .i64 5, .int .i64 1, sv1]))) twoB 5 2 0 [] IA.out (HT.out.below (below_step B2.out IA.out.below)) (by decide) (by decide) D2.out).mono ?_; rintro e w4 ⟨he_, hg_, hc_⟩; rw [S3.out] at he_ hc_; subst he_; clear hg_; obtain ⟨sv2, ia_⟩ := hc_.elim (fun h => absurd rfl h.1) (fun h => h.2); have im_ := IA.out.own.isMap; have IA_ := Aside0.mk ia_; clear IA; have IA := IA_; clear IA_ ia_ hc_ T3; have S4 := Aside0.mk (show subC (((DataW.map [] : DataW Value).put (.int .i64 5) (.held (.agg #[.int .i64 5, .int .i64 1, sv1]))).put (.int .i64 5) (.held (.agg #[.int .i64 5, .int .i64 2, sv2]))) 5 2 0 = 8 from (subC_put im_ _ _ _ _).trans (by decide +kernel)); clear im_; have T4 := Aside0.mk trivial)
      | (go_at_call 24; have t_ := T4.out; clear t_; refine (submit_calls k _ _ g m 2 (((DataW.map [] : DataW Value).put (.int .i64 5) (.held (.agg #[.int .i64 5, .int .i64 1, sv1]))).put (.int .i64 5) (.held (.agg #[.int .i64 5, .int .i64 2, sv2]))) twoB 5 2 0 [] IA.out (HT.out.below (below_step B2.out IA.out.below)) (by decide) (by decide) D2.out).mono ?_; rintro e w4 ⟨he_, hg_, hc_⟩; rw [S4.out] at he_ hc_; subst he_; clear hg_; have IA_ := Aside0.mk (hc_.elim (fun h => h.2) (fun h => absurd h.1 (by decide))); clear IA; have IA := IA_; clear IA_ hc_ T4; have T5 := Aside0.mk trivial))
    go_ret
    refine ⟨?_, below_step B2.out IA.out.below⟩
    show Ending.returned (.bool (oneB.toList == _)) = _
    rw [beq_iff_eq.mpr (of_eq_true hs)]
  · cases h
end Go.Proofs.YtejgfblphgcgkaaDoor.P
