/- Texts for the law RatioField (kept out of a larger one). -/
import Derived.Test.YtighihhaljofdaaDoorZRatioField9
import Derived.Test.YtighihhaljofdaaDoorZRatioField16
import Derived.KernelRfl
namespace Go.Proofs.YtighihhaljofdaaDoor.P
open Go.RowKit Go.Proofs.YtighihhaljofdaaDoorW.PrintWords
theorem sane_at : payrolllaw1_sane.f 30 = some true := by decide +kernel
theorem sane_ev : Ev (fun k => payrolllaw1_sane.f k) true := Ev.of payrolllaw1_sane.mono sane_at
end Go.Proofs.YtighihhaljofdaaDoor.P
