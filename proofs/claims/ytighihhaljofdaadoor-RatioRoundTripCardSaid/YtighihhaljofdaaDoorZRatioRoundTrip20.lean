/- Texts for the law RatioRoundTrip (kept out of a larger one). -/
import Derived.Test.YtighihhaljofdaaDoorZRatioRoundTrip8
import Derived.Test.YtighihhaljofdaaDoorZRatioRoundTrip15
import Derived.KernelRfl
namespace Go.Proofs.YtighihhaljofdaaDoor.P
open Go.RowKit Go.Proofs.YtighihhaljofdaaDoorW.PrintWords
theorem sane_at : payrolllaw1_sane.f 30 = some true := by decide +kernel
theorem sane_ev : Ev (fun k => payrolllaw1_sane.f k) true := Ev.of payrolllaw1_sane.mono sane_at
end Go.Proofs.YtighihhaljofdaaDoor.P
