/- Texts for the law FilingLimits (kept out of a larger one). -/
import Derived.Test.YtejgfblphgcgkaaDoorZFilingLimits11
import Derived.Test.YtejgfblphgcgkaaDoorZFilingLimits28
import Derived.Test.YtejgfblphgcgkaaDoorZFilingLimits30
import Derived.Test.YtejgfblphgcgkaaDoorZFilingLimits29
import Derived.Test.YtejgfblphgcgkaaDoorZFilingLimits34
import Derived.Test.YtejgfblphgcgkaaDoorZFilingLimits27
import Derived.Test.YtejgfblphgcgkaaDoorZFilingLimits36
import Derived.Test.YtejgfblphgcgkaaDoorZFilingLimits35
import Derived.WalkKit
namespace Go.Proofs.YtejgfblphgcgkaaDoor.P
set_option linter.unusedVariables false
set_option linter.unusedSimpArgs false
open Go.RowKit Go.Proofs.YtejgfblphgcgkaaDoorW.PrintWords
theorem awake_ev : Ev (fun k => payrolllaw43_awake.f k) true := by
  have v1 : validP 5 1 [oneX] = true := by decide +kernel
  have v2 : validP 5 2 [] = true := by decide +kernel
  have b1 : encB 5 1 [oneX] = oneB := by decide +kernel
  have b2 : encB 5 2 [] = twoB := by decide +kernel
  obtain ⟨K1, h1⟩ := encode_ev (p := 5) (v := 1) (l := [oneX]) (by simp)
  obtain ⟨K2, h2⟩ := encode_ev (p := 5) (v := 2) (l := []) (by simp)
  obtain ⟨K3, h3⟩ := decode_ev oneB
  obtain ⟨K4, h4⟩ := decode_ev twoB
  rw [if_pos v1, b1] at h1
  rw [if_pos v2, b2] at h2
  rw [← b1, decP_enc v1, b1] at h3
  rw [← b2, decP_enc v2, b2] at h4
  refine ⟨K1 + K2 + K3 + K4, fun k hk => ?_⟩
  unfold payrolllaw43_awake.f
  exact if_pos ⟨h1 k (by omega), h2 k (by omega), h3 k (by omega), h4 k (by omega)⟩
end Go.Proofs.YtejgfblphgcgkaaDoor.P
