/- Texts for the law RatioRoundTrip (kept out of a larger one). -/
import Derived.Test.YtighihhaljofdaaDoorZRatioRoundTrip8
import Derived.Test.YtighihhaljofdaaDoorZRatioRoundTrip9
import Derived.Test.YtighihhaljofdaaDoorZRatioRoundTrip13
import Derived.Test.YtighihhaljofdaaDoorZRatioRoundTrip15
import Derived.Test.YtighihhaljofdaaDoorZRatioRoundTrip16
import Derived.Test.YtighihhaljofdaaDoorZRatioRoundTrip11
import Derived.Test.YtighihhaljofdaaDoorZRatioRoundTrip18
import Derived.Test.YtighihhaljofdaaDoorZRatioRoundTrip19
import Derived.Test.YtighihhaljofdaaDoorZRatioRoundTrip17
import Derived.Test.YtighihhaljofdaaDoorZRatioRoundTrip20
import Derived.WalkKit
namespace Go.Proofs.YtighihhaljofdaaDoor.P
set_option linter.unusedVariables false
open Go.RowKit Go.Proofs.YtighihhaljofdaaDoorW.PrintWords
theorem tape_Fraction_ok (l : List Int) (p : Int) (h : At l p) : ∃ a b p', At l p' ∧ I64 a ∧ I64 b ∧ Ev (fun k => payrollgen_Tape_Fraction.f k l p) (a, b, p') := by
  unfold payrollgen_Tape_Fraction.f
  obtain ⟨a, b, p1, h1, hv, he⟩ := tape_Ratio_ok l p h
  obtain ⟨v, p2, e2, h2, _⟩ := next_ok l p1 10 h1 (by omega)
  by_cases c8 : v = 8
  · exact ⟨wrap64 (2 * a), wrap64 (2 * b), p2, h2, I64.wrap _, I64.wrap _, Ev.bind he (Ev.bindc e2 (Ev.ifp c8 (Ev.now _)))⟩
  · by_cases c9 : v = 9
    · obtain ⟨w, q, f, i, m⟩ := pick_ok l p2 [0, (-1), 1000001] h2 (by decide) (by decide)
      have j : I64 w := by simp only [List.mem_cons, List.not_mem_nil, or_false] at m; unfold I64; omega
      exact ⟨a, w, q, i, hv.i64n, j, Ev.bind he (Ev.bindc e2 (Ev.ifn c8 (Ev.ifp c9 (Ev.bindc f (Ev.now _)))))⟩
    · exact ⟨a, b, p2, h2, hv.i64n, hv.i64d, Ev.bind he (Ev.bindc e2 (Ev.ifn c8 (Ev.ifn c9 (Ev.now _))))⟩
end Go.Proofs.YtighihhaljofdaaDoor.P
