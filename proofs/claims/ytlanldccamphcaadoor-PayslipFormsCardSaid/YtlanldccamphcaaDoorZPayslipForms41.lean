/- Texts for the law PayslipForms (kept out of a larger one). -/
import Derived.Test.YtlanldccamphcaaDoorZPayslipForms11
import Derived.Test.YtlanldccamphcaaDoorZPayslipForms33
import Derived.Test.YtlanldccamphcaaDoorZPayslipForms34
import Derived.Test.YtlanldccamphcaaDoorZPayslipForms32
import Derived.Test.YtlanldccamphcaaDoorZPayslipForms18
import Derived.Test.YtlanldccamphcaaDoorZPayslipForms36
import Derived.Test.YtlanldccamphcaaDoorZPayslipForms39
import Derived.Test.YtlanldccamphcaaDoorZPayslipForms20
import Derived.Test.YtlanldccamphcaaDoorZPayslipForms40
import Derived.WalkKit
namespace Go.Proofs.YtlanldccamphcaaDoor.P
set_option linter.unusedVariables false
set_option linter.unusedSimpArgs false
open Go.RowKit Go.Proofs.YtlanldccamphcaaDoorW.PrintWords
theorem awake_ev : Ev (fun k => payrolllaw34_awake.f k) true := by
  unfold payrolllaw34_awake.f
  refine Ev.bind (payslip_Compare_ev _ _) (Ev.bindc (a := (fmtText, 0)) rfl ?_)
  have e1 : (compareP [⟨9, ⟨#[]⟩, 100⟩, ⟨6, ⟨#[]⟩, 20⟩] [⟨9, ⟨#[]⟩, 90⟩, ⟨4, ⟨#[97]⟩, 10⟩, ⟨6, ⟨#[]⟩, 20⟩]).2 = 0 := by decide +kernel
  have e2 : (compareP [⟨9, ⟨#[]⟩, 100⟩, ⟨6, ⟨#[]⟩, 20⟩] [⟨9, ⟨#[]⟩, 90⟩, ⟨4, ⟨#[97]⟩, 10⟩, ⟨6, ⟨#[]⟩, 20⟩]).1.length = 2 := by decide +kernel
  have e3 : (rd_T23 (compareP [⟨9, ⟨#[]⟩, 100⟩, ⟨6, ⟨#[]⟩, 20⟩] [⟨9, ⟨#[]⟩, 90⟩, ⟨4, ⟨#[97]⟩, 10⟩, ⟨6, ⟨#[]⟩, 20⟩]).1 0).f2 = 10 := by decide +kernel
  have e4 : (rd_T23 (compareP [⟨9, ⟨#[]⟩, 100⟩, ⟨6, ⟨#[]⟩, 20⟩] [⟨9, ⟨#[]⟩, 90⟩, ⟨4, ⟨#[97]⟩, 10⟩, ⟨6, ⟨#[]⟩, 20⟩]).1 1).f2 = -10 := by decide +kernel
  generalize compareP [⟨9, ⟨#[]⟩, 100⟩, ⟨6, ⟨#[]⟩, 20⟩] [⟨9, ⟨#[]⟩, 90⟩, ⟨4, ⟨#[97]⟩, 10⟩, ⟨6, ⟨#[]⟩, 20⟩] = c at *
  refine Ev.ifp e1 (Ev.ifp (by omega) (Ev.ifp (by omega) (Ev.ifp e3 (Ev.ifp (by omega) (Ev.ifp e4 (Ev.ifp (by first | rfl | trivial) ((Ev.now _).cast ?_)))))))
  decide +kernel
end Go.Proofs.YtlanldccamphcaaDoor.P
