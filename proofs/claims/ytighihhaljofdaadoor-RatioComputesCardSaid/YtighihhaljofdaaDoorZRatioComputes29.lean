/- Texts for the law RatioComputes (kept out of a larger one). -/
import Derived.Test.YtighihhaljofdaaDoorZRatioComputes9
import Derived.Test.YtighihhaljofdaaDoorZRatioComputes21
import Derived.Test.YtighihhaljofdaaDoorZRatioComputes22
import Derived.Test.YtighihhaljofdaaDoorZRatioComputes17
import Derived.Test.YtighihhaljofdaaDoorZRatioComputes24
import Derived.Test.YtighihhaljofdaaDoorZRatioComputes25
import Derived.Test.YtighihhaljofdaaDoorZRatioComputes26
import Derived.Test.YtighihhaljofdaaDoorZRatioComputes23
import Derived.Test.YtighihhaljofdaaDoorZRatioComputes27
import Derived.Test.YtighihhaljofdaaDoorZRatioComputes28
namespace Go.Proofs.YtighihhaljofdaaDoor.P
set_option linter.unusedVariables false
open Go.RowKit Go.Proofs.YtighihhaljofdaaDoorW.PrintWords
theorem tape_Fraction_ok (l : List Int) (p : Int) (h : At l p) : ∃ a b p', At l p' ∧ I64 a ∧ I64 b ∧ Ev (fun k => payrollgen_Tape_Fraction.f k l p) (a, b, p') := by
  unfold payrollgen_Tape_Fraction.f
  obtain ⟨a, b, p1, h1, hv, he⟩ := tape_Ratio_ok l p h
  obtain ⟨v, p2, e2, h2, _⟩ := next_ok l p1 10 h1 (by omega)
  by_cases c8 : v = 8
  · exact ⟨wrap64 (2 * a), wrap64 (2 * b), p2, h2, I64.wrap _, I64.wrap _, Ev.bind he (Ev.bindc e2 (Ev.ifp c8 (Ev.now _)))⟩
  · by_cases c9 : v = 9
    · obtain ⟨w, q, f, i, m⟩ := pick_ok l p2 [0, (-1), 1000001] h2 (by decide) (by decide)
      have j : I64 w := by simp only [List.mem_cons, List.not_mem_nil, or_false] at m; unfold I64; omega
      exact ⟨a, w, q, i, hv.i64n, j, Ev.bind he (Ev.bindc e2 (Ev.ifn c8 (Ev.ifp c9 (Ev.bindc f (Ev.now _)))))⟩
    · exact ⟨a, b, p2, h2, hv.i64n, hv.i64d, Ev.bind he (Ev.bindc e2 (Ev.ifn c8 (Ev.ifn c9 (Ev.now _))))⟩
theorem agrees_ev (a b c d : Int) (ha : I64 a) (hb : I64 b) (hc : I64 c) (hd : I64 d) : Ev (fun k => payrolllaw1_agrees.f k a b c d) true := by
  unfold payrolllaw1_agrees.f
  refine Ev.bind (ratio_Add_ev a b c d ha hb hc hd) (Ev.bind (ref1_Add_ev a b c d ha hb hc hd) (Ev.bind (ratio_Sub_ev a b c d ha hb hc hd) (Ev.bind (ref1_Sub_ev a b c d ha hb hc hd) ?_)))
  refine Ev.ifn (by simp) (Ev.ifp rfl (Ev.ifn (by simp) ?_))
  rw [bne_self_eq_false]
  refine Ev.step (fun k => by simp only [payrolllaw1_agrees.j0]; exact if_neg (by decide)) ?_
  refine Ev.bind (ratio_Mul_ev a b c d ha hb hc hd) (Ev.bind (ref1_Mul_ev a b c d ha hb hc hd) (Ev.bind (ratio_Div_ev a b c d ha hb hc hd) (Ev.bind (ref1_Div_ev a b c d ha hb hc hd) (Ev.bind (ratio_Neg_ev a b ha hb) (Ev.bind (ref1_Neg_ev a b ha hb) ?_)))))
  refine Ev.ifp (by simp) (Ev.ifp rfl (Ev.ifp (by simp) (Ev.ifp rfl (Ev.ifp (by simp) (Ev.ifp rfl ?_)))))
  refine Ev.bind (ratio_Valid_ev a b ha hb) (Ev.bind (ref1_Valid_ev a b ha hb) (Ev.ifp (by simp) ?_))
  refine Ev.bind (ratio_Compare_ev a b c d ha hb hc hd) (Ev.bind (ref1_Compare_ev a b c d ha hb hc hd) (Ev.ifp rfl ?_))
  refine Ev.bind (ratio_Floor_ev a b ha hb) (Ev.bind (ref1_Floor_ev a b ha hb) ?_)
  exact Ev.cast (Ev.now _) (by simp)
theorem computes_loop (a b c d : Int) (ha : I64 a) (hb : I64 b) (hc : I64 c) (hd : I64 d) (l : List Int) :
    ∀ (m : Nat) (i p : Int), At l p → 0 ≤ i → i + m = 6 → Ev (fun k => payrolllaw1_RatioComputes.l0 k i a b c d l p) true := by
  intro m
  induction m with
  | zero =>
    intro i p _ h0 hi
    obtain rfl : i = 6 := by omega
    refine Ev.step (fun k => by simp only [payrolllaw1_RatioComputes.l0]; exact if_neg (by decide)) ?_
    exact Ev.bind (agrees_ev a b c d ha hb hc hd) (Ev.ifp rfl (Ev.bind (agrees_ev c d a b hc hd ha hb) (Ev.ifp rfl (Ev.bind sane_ev (Ev.now _)))))
  | succ m ih =>
    intro i p hp h0 hi
    obtain ⟨x, y, p1, h1, j1, j2, e1⟩ := tape_Fraction_ok l p hp
    obtain ⟨z, w, p2, h2, j3, j4, e2⟩ := tape_Fraction_ok l p1 h1
    refine Ev.step (fun k => by simp only [payrolllaw1_RatioComputes.l0]; exact if_pos (by omega)) ?_
    refine Ev.bind e1 (Ev.bind e2 (Ev.bind (agrees_ev x y z w j1 j2 j3 j4) (Ev.ifp rfl ?_)))
    rw [wrap64_in (n := i + 1) (by unfold I64; omega)]
    exact ih (i + 1) p2 h2 (by omega) (by omega)
theorem RatioComputes (l0 : List Int) (a1_0 a1_1 a2_0 a2_1 : Int) (hm : l0.length ≤ maxLen) (hy : l0.length * 8 ≤ 140737488351232) (hw : ∀ x ∈ l0, (Lit.int .i64 x).wf = true)
    (w1 : (Lit.int .i64 a1_0).wf = true) (w2 : (Lit.int .i64 a1_1).wf = true) (w3 : (Lit.int .i64 a2_0).wf = true) (w4 : (Lit.int .i64 a2_1).wf = true) :
    ∃ k, payrolllaw1_RatioComputes.f k l0 a1_0 a1_1 a2_0 a2_1 = some true := by
  have main : Ev (fun k => payrolllaw1_RatioComputes.f k l0 a1_0 a1_1 a2_0 a2_1) true := by
    unfold payrolllaw1_RatioComputes.f
    exact Ev.bindc (a := (l0, 0)) rfl (computes_loop a1_0 a1_1 a2_0 a2_1 (I64.of_wf w1) (I64.of_wf w2) (I64.of_wf w3) (I64.of_wf w4) l0 6 0 0 (At.start hy) (by omega) (by omega))
  exact main.rounds
end Go.Proofs.YtighihhaljofdaaDoor.P
