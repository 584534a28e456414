/- Texts for the law RatioTexts (kept out of a larger one). -/
import Derived.Test.YtighihhaljofdaaDoorZRatioTexts9
import Derived.Test.YtighihhaljofdaaDoorZRatioTexts19
import Derived.Test.YtighihhaljofdaaDoorZRatioTexts21
import Derived.Test.YtighihhaljofdaaDoorZRatioTexts22
import Derived.Test.YtighihhaljofdaaDoorZRatioTexts20
import Derived.Test.YtighihhaljofdaaDoorZRatioTexts24
import Derived.Test.YtighihhaljofdaaDoorZRatioTexts25
import Derived.Test.YtighihhaljofdaaDoorZRatioTexts23
namespace Go.Proofs.YtighihhaljofdaaDoor.P
set_option linter.unusedVariables false
open Go.RowKit Go.Proofs.YtighihhaljofdaaDoorW.PrintWords
theorem rd_mem (l : List ByteArray) (i : Int) (h0 : 0 ≤ i) (h : i < (l.length : Int)) : rdOf ByteArray.empty l i ∈ l := by
  have hl : i.toNat < l.length := by omega
  unfold rdOf
  have e : (l[i.toNat]?).getD ByteArray.empty = l[i.toNat] := by rw [List.getElem?_eq_getElem hl]; rfl
  first
    | (rw [e]; exact List.getElem_mem hl)
    | (rw [List.getD_eq_getElem?_getD, e]; exact List.getElem_mem hl)
    | (simp [hl])
theorem texts_loop (L : List ByteArray) (hL : ∀ s ∈ L, s.size ≤ 281474976710656) (a b c d : Int) (ha : I64 a) (hb : I64 b) (hc : I64 c) (hd : I64 d) (hm : L.length < 1000) :
    ∀ (m : Nat) (i : Int), 0 ≤ i → i + m = L.length → Ev (fun k => payrolllaw1_RatioTexts.l0 k L i a b c d) true := by
  intro m
  induction m with
  | zero =>
    intro i h0 hi
    refine Ev.step (fun k => by simp only [payrolllaw1_RatioTexts.l0]; rfl) (Ev.ifn (by omega) ?_)
    refine Ev.bind (ratio_Format_ev ha hb) (Ev.bind (ref1_Format_ev ha hb) (Ev.ifp rfl ?_))
    refine Ev.bind (ratio_Format_ev hc hd) (Ev.bind (ref1_Format_ev hc hd) (Ev.ifp rfl ?_))
    exact Ev.bind sane_ev (Ev.now _)
  | succ m ih =>
    intro i h0 hi
    obtain ⟨r, h1, h2, _⟩ := both_read (rdOf ByteArray.empty L i) (hL _ (rd_mem L i h0 (by omega)))
    refine Ev.step (fun k => by simp only [payrolllaw1_RatioTexts.l0]; rfl) (Ev.ifp (by omega) (Ev.ifp h0 ?_))
    refine Ev.bind h1 (Ev.bind h2 (Ev.ifn (by simp) (Ev.ifn (by simp) ?_)))
    rw [wrap64_in (n := i + 1) (by unfold I64; omega)]
    exact ih (i + 1) (by omega) (by omega)
theorem RatioTexts (l0 : List Int) (a1_0 a1_1 : Int) (a2 : ByteArray) (hm : l0.length ≤ maxLen) (hy : l0.length * 8 ≤ 140737488351232) (hw : ∀ x ∈ l0, (Lit.int .i64 x).wf = true)
    (w1 : (Lit.int .i64 a1_0).wf = true) (w2 : (Lit.int .i64 a1_1).wf = true) (hs : a2.size ≤ 140737488351232) :
    ∃ k, payrolllaw1_RatioTexts.f k l0 a1_0 a1_1 a2 = some true := by
  have main : Ev (fun k => payrolllaw1_RatioTexts.f k l0 a1_0 a1_1 a2) true := by
    unfold payrolllaw1_RatioTexts.f
    obtain ⟨x, y, p1, h1, hv, he⟩ := tape_Ratio_ok l0 0 (At.start hy)
    have hx := hv.i64n
    have hy' := hv.i64d
    have hl := fmtL_len hx hy'
    have z1 : (bs (fmtL x y)).size + 1 ≤ 9223372036854775807 := by rw [bs_size]; omega
    have z2 : 1 + (bs (fmtL x y)).size ≤ 9223372036854775807 := by rw [bs_size]; omega
    refine Ev.bindc (a := (l0, 0)) rfl (Ev.bind he (Ev.bind (ratio_Format_ev hx hy') (Ev.bind (ref1_Format_ev hx hy') (Ev.bind (ref1_Format_ev hx hy') (Ev.ifp z1 (Ev.bind (ref1_Format_ev hx hy') (Ev.ifp z2 (Ev.bind (ref1_Format_ev hx hy') (Ev.ifp z2 ?_)))))))))
    have e1 : bs (fmtL x y) ++ (⟨#[48]⟩ : ByteArray) = bs (fmtL x y ++ [48]) := bs_append _ [48]
    have e2 : (⟨#[45]⟩ : ByteArray) ++ bs (fmtL x y) = bs (45 :: fmtL x y) := bs_append [45] _
    have e3 : (⟨#[48]⟩ : ByteArray) ++ bs (fmtL x y) = bs (48 :: fmtL x y) := bs_append [48] _
    rw [e1, e2, e3]
    refine texts_loop _ ?_ a1_0 a1_1 x y (I64.of_wf w1) (I64.of_wf w2) hx hy' (by simp) 13 0 (by omega) rfl
    intro s hs'
    simp only [List.mem_cons, List.not_mem_nil, or_false] at hs'
    rcases hs' with rfl | rfl | rfl | rfl | rfl | rfl | rfl | rfl | rfl | rfl | rfl | rfl | rfl
    · omega
    · rw [bs_size]; omega
    · rw [bs_size]; omega
    · rw [bs_size, List.length_append, List.length_singleton]; omega
    · rw [bs_size, List.length_cons]; omega
    · rw [bs_size, List.length_cons]; omega
    all_goals decide
  exact main.rounds
end Go.Proofs.YtighihhaljofdaaDoor.P
