/- Texts for the law PayslipForms (kept out of a larger one). -/
import Derived.Test.YtlanldccamphcaaDoorZPayslipForms11
import Derived.Test.YtlanldccamphcaaDoorZPayslipForms33
import Derived.Test.YtlanldccamphcaaDoorZPayslipForms34
import Derived.Test.YtlanldccamphcaaDoorZPayslipForms32
import Derived.Test.YtlanldccamphcaaDoorZPayslipForms18
import Derived.Test.YtlanldccamphcaaDoorZPayslipForms14
import Derived.Test.YtlanldccamphcaaDoorZPayslipForms36
import Derived.Test.YtlanldccamphcaaDoorZPayslipForms31
import Derived.Test.YtlanldccamphcaaDoorZPayslipForms39
import Derived.Test.YtlanldccamphcaaDoorZPayslipForms12
import Derived.Test.YtlanldccamphcaaDoorZPayslipForms28
import Derived.WalkKit
namespace Go.Proofs.YtlanldccamphcaaDoor.P
set_option linter.unusedVariables false
set_option linter.unusedSimpArgs false
open Go.RowKit Go.Proofs.YtlanldccamphcaaDoorW.PrintWords
def allForm (l : List S23) : Bool := l.all fun x => formP x.f0 x.f1 x.f2
theorem formsB_ev (l : List S23) : Ev (fun k => formsB k l) (allForm l) := by
  induction l with
  | nil => exact Ev.now _
  | cons x r ih =>
    show Ev (fun k => (payslip_form.f k x.f0 x.f1 x.f2).bind fun b => if b = true then formsB k r else some false) (formP x.f0 x.f1 x.f2 && allForm r)
    refine Ev.bind (payslip_form_ev _ _ _) ?_
    cases h : formP x.f0 x.f1 x.f2 with
    | true => exact Ev.ifp (by first | rfl | trivial) (ih.cast (by simp))
    | false => exact Ev.ifn (by decide) (Ev.now _)
def codeP (l : List S23) : Int := if (l.length : Int) > 65536 then 3 else if allForm l = true then (if allT (sumS l) = true then 0 else 4) else 1
theorem codeS_ev (l : List S23) : Ev (fun k => codeS k l) (codeP l) := by
  unfold codeS codeP
  refine Ev.ite (fun _ => Ev.now _) (fun _ => Ev.bind (formsB_ev l) ?_)
  exact Ev.ite (fun _ => Ev.ite (fun _ => Ev.now _) (fun _ => Ev.now _)) (fun _ => Ev.now _)
def compareP (a b : List S23) : List S23 × Int := if codeP a = 0 then (if codeP b = 0 then (if allT (cmpS a b) = true then (dropZ (cmpS a b), 0) else ([], 4)) else ([], codeP b)) else ([], codeP a)
theorem payslip_Compare_ev (a b : List S23) : Ev (fun k => payslip_Compare.f k a b) (compareP a b) := by
  unfold payslip_Compare.f compareP
  refine Ev.bind (codeS_ev a) (Ev.ite (fun _ => Ev.bind (codeS_ev b) ?_) (fun _ => Ev.now _))
  exact Ev.ite (fun _ => Ev.ite (fun _ => Ev.now _) (fun _ => Ev.now _)) (fun _ => Ev.now _)
end Go.Proofs.YtlanldccamphcaaDoor.P
