/- Texts for the law RatioRoundTrip (kept out of a larger one). -/
import Derived.Test.YtighihhaljofdaaDoorZRatioRoundTrip8
import Derived.Test.YtighihhaljofdaaDoorZRatioRoundTrip16
import Derived.Test.YtighihhaljofdaaDoorZRatioRoundTrip18
import Derived.Test.YtighihhaljofdaaDoorZRatioRoundTrip21
import Derived.Test.YtighihhaljofdaaDoorZRatioRoundTrip17
import Derived.Test.YtighihhaljofdaaDoorZRatioRoundTrip23
import Derived.Test.YtighihhaljofdaaDoorZRatioRoundTrip20
import Derived.Test.YtighihhaljofdaaDoorZRatioRoundTrip22
namespace Go.Proofs.YtighihhaljofdaaDoor.P
set_option linter.unusedVariables false
open Go.RowKit Go.Proofs.YtighihhaljofdaaDoorW.PrintWords
theorem trip_j1 (s : ByteArray) (hs : s.size ≤ 281474976710656) : Ev (fun k => payrolllaw1_RatioRoundTrip.j1 k s false) true := by
  obtain ⟨r, h1, h2⟩ := prog_reads s hs
  refine Ev.step (fun k => by simp only [payrolllaw1_RatioRoundTrip.j1]; rfl) (Ev.ifn (by decide) (Ev.bind h1 ?_))
  rcases h2 with rfl | ⟨n, d, hv, hf, rfl⟩
  · exact Ev.ifn (by decide) (Ev.bind sane_ev (Ev.now _))
  · refine Ev.ifp rfl (Ev.bind (ratio_Format_ev hv.i64n hv.i64d) (Ev.ifp (str_eq.2 (by rw [hf, bs_of])) (Ev.bind (ratio_Valid_ev n d hv.i64n hv.i64d) (Ev.ifp (decide_eq_true hv) (Ev.bind sane_ev (Ev.now _))))))
theorem trip_j0 (s : ByteArray) (hs : s.size ≤ 281474976710656) (n d : Int) (hn : I64 n) (hd : I64 d) : Ev (fun k => payrolllaw1_RatioRoundTrip.j0 k s n d) true := by
  refine Ev.step (fun k => by simp only [payrolllaw1_RatioRoundTrip.j0]; rfl) (Ev.bind (ratio_Format_ev hn hd) ?_)
  by_cases hv : VR n d
  · refine Ev.bind (prog_finds hv) (Ev.bind (ref1_Valid_ev n d hn hd) ?_)
    refine Ev.ifn (by simp [hv]) (Ev.ifp rfl ?_)
    exact Ev.cast (Ev.congr (fun k => by simp) (trip_j1 s hs)) rfl
  · rw [fmtL_no hv]
    obtain ⟨r, h1, h2⟩ := prog_reads (bs []) (by decide)
    have : r = (0, 0, false) := by
      rcases h2 with h | ⟨a, b, hv', hf, _⟩
      · exact h
      · exact absurd hf (fmtL_ne hv')
    subst this
    refine Ev.bind h1 (Ev.bind (ref1_Valid_ev n d hn hd) (Ev.ifn (by simp [hv]) (Ev.ifn (by decide) (trip_j1 s hs))))
theorem RatioRoundTrip (l0 : List Int) (a1_0 a1_1 : Int) (a2 : ByteArray) (hm : l0.length ≤ maxLen) (hy : l0.length * 8 ≤ 140737488351232) (hw : ∀ x ∈ l0, (Lit.int .i64 x).wf = true)
    (w1 : (Lit.int .i64 a1_0).wf = true) (w2 : (Lit.int .i64 a1_1).wf = true) (hs : a2.size ≤ 140737488351232) :
    ∃ k, payrolllaw1_RatioRoundTrip.f k l0 a1_0 a1_1 a2 = some true := by
  have main : Ev (fun k => payrolllaw1_RatioRoundTrip.f k l0 a1_0 a1_1 a2) true := by
    unfold payrolllaw1_RatioRoundTrip.f
    obtain ⟨v, p, e, hp, _⟩ := next_ok l0 0 3 (At.start hy) (by omega)
    refine Ev.bindc (a := (l0, 0)) rfl (Ev.bindc e ?_)
    by_cases h : v > 0
    · obtain ⟨x, y, p1, h1, hx, hy', he⟩ := tape_Fraction_ok l0 p hp
      exact Ev.ifp h (Ev.bind he (trip_j0 a2 (by omega) x y hx hy'))
    · exact Ev.ifn h (trip_j0 a2 (by omega) a1_0 a1_1 (I64.of_wf w1) (I64.of_wf w2))
  exact main.rounds
end Go.Proofs.YtighihhaljofdaaDoor.P
