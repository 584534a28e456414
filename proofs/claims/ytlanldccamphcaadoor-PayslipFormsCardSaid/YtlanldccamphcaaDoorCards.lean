/-
  DERIVED. GIVEN WITH THE SEED: THE CARDS: each row of YtlanldccamphcaaDoorRows.lean that lists a variable, with what it lists TIED to the program's text (the seventh form; the later family's looks); each row that meets fmt, with fmt's text TOLD by the authors' own Lean function (tested against real Go, not proved from fmt's source: count such statements apart). THE CARD IS WHAT COUNTS. Prove the row's statement (the work); the ties are given (YtlanldccamphcaaDoorTie.lean); close each card by the builder's one call (the guide's Derived/Test/ToyasCard.lean, 'card_holds'). Laid BY PROGRAM, IN A SANDBOX (cutbox-door.mjs). By AI agents, Wed Nov 11 2026. No macro, syntax, notation, axiom, sorry.
-/
import Derived.Test.YtlanldccamphcaaDoorRows
import GoSem.ClaimSeven
namespace Go.Proofs.YtlanldccamphcaaDoor
namespace Rows

/-- THE TIED CARD OF 'payrolllaw34.PayslipForms'. -/
def payslipFormsCard : Claim7 := { stood := { row := payslipFormsRow, standIns := [], harness := (true, "573fb54359fd1c5541ae74222097886742b7b700182680bb01fca187c01e652d"), looks := false }, kinds := [], alts := [], laidByText := true, laidKinds := [.data, .data, .data], laidTests := true, laidLooks := .later }
def PayslipFormsCardSaid : Prop := Claim7.holds Tryd.pinned (.plain (OpenSpec.ofChange payslipFormsSpec)) payslipFormsCard

/-- THE TIED CARD OF 'payrolllaw34.PayslipCompares'. -/
def payslipComparesCard : Claim7 := { stood := { row := payslipComparesRow, standIns := [], harness := (true, "573fb54359fd1c5541ae74222097886742b7b700182680bb01fca187c01e652d"), looks := false }, kinds := [], alts := [], laidByText := true, laidKinds := [.data, .data, .data], laidTests := true, laidLooks := .later }
def PayslipComparesCardSaid : Prop := Claim7.holds Tryd.pinned (.plain (OpenSpec.ofChange payslipComparesSpec)) payslipComparesCard

/-- THE TIED CARD OF 'payrolllaw34.PayslipLimits'. -/
def payslipLimitsCard : Claim7 := { stood := { row := payslipLimitsRow, standIns := [], harness := (true, "573fb54359fd1c5541ae74222097886742b7b700182680bb01fca187c01e652d"), looks := false }, kinds := [], alts := [], laidByText := true, laidKinds := [.data, .data, .data], laidTests := true, laidLooks := .later }
def PayslipLimitsCardSaid : Prop := Claim7.holds Tryd.pinned (.plain (OpenSpec.ofChange payslipLimitsSpec)) payslipLimitsCard

/-- THE TIED CARD OF 'payrolllaw34.PayslipMerges'. -/
def payslipMergesCard : Claim7 := { stood := { row := payslipMergesRow, standIns := [], harness := (true, "573fb54359fd1c5541ae74222097886742b7b700182680bb01fca187c01e652d"), looks := false }, kinds := [], alts := [], laidByText := true, laidKinds := [.data, .data, .data], laidTests := true, laidLooks := .later }
def PayslipMergesCardSaid : Prop := Claim7.holds Tryd.pinned (.plain (OpenSpec.ofChange payslipMergesSpec)) payslipMergesCard

/-- THE TIED CARD OF 'payrolllaw34.PayslipAdds'. -/
def payslipAddsCard : Claim7 := { stood := { row := payslipAddsRow, standIns := [], harness := (true, "573fb54359fd1c5541ae74222097886742b7b700182680bb01fca187c01e652d"), looks := false }, kinds := [], alts := [], laidByText := true, laidKinds := [.data, .data, .data], laidTests := true, laidLooks := .later }
def PayslipAddsCardSaid : Prop := Claim7.holds Tryd.pinned (.plain (OpenSpec.ofChange payslipAddsSpec)) payslipAddsCard

/-- THE SECOND FORM's CARD OF 'payrolllaw34.PayslipForms'. -/
def payslipFormsUptoCard : Claim7 := { stood := { row := payslipFormsUptoRow, standIns := [], harness := (true, "573fb54359fd1c5541ae74222097886742b7b700182680bb01fca187c01e652d"), looks := false }, kinds := [], alts := [], laidByText := true, laidKinds := [.data, .data, .data], laidTests := true, laidLooks := .later }
def PayslipFormsUptoCardSaid : Prop := Claim7.holds Tryd.pinned (.plain (OpenSpec.upto payslipFormsSpec)) payslipFormsUptoCard

/-- THE SECOND FORM's CARD OF 'payrolllaw34.PayslipCompares'. -/
def payslipComparesUptoCard : Claim7 := { stood := { row := payslipComparesUptoRow, standIns := [], harness := (true, "573fb54359fd1c5541ae74222097886742b7b700182680bb01fca187c01e652d"), looks := false }, kinds := [], alts := [], laidByText := true, laidKinds := [.data, .data, .data], laidTests := true, laidLooks := .later }
def PayslipComparesUptoCardSaid : Prop := Claim7.holds Tryd.pinned (.plain (OpenSpec.upto payslipComparesSpec)) payslipComparesUptoCard

/-- THE SECOND FORM's CARD OF 'payrolllaw34.PayslipLimits'. -/
def payslipLimitsUptoCard : Claim7 := { stood := { row := payslipLimitsUptoRow, standIns := [], harness := (true, "573fb54359fd1c5541ae74222097886742b7b700182680bb01fca187c01e652d"), looks := false }, kinds := [], alts := [], laidByText := true, laidKinds := [.data, .data, .data], laidTests := true, laidLooks := .later }
def PayslipLimitsUptoCardSaid : Prop := Claim7.holds Tryd.pinned (.plain (OpenSpec.upto payslipLimitsSpec)) payslipLimitsUptoCard

/-- THE SECOND FORM's CARD OF 'payrolllaw34.PayslipMerges'. -/
def payslipMergesUptoCard : Claim7 := { stood := { row := payslipMergesUptoRow, standIns := [], harness := (true, "573fb54359fd1c5541ae74222097886742b7b700182680bb01fca187c01e652d"), looks := false }, kinds := [], alts := [], laidByText := true, laidKinds := [.data, .data, .data], laidTests := true, laidLooks := .later }
def PayslipMergesUptoCardSaid : Prop := Claim7.holds Tryd.pinned (.plain (OpenSpec.upto payslipMergesSpec)) payslipMergesUptoCard

/-- THE SECOND FORM's CARD OF 'payrolllaw34.PayslipAdds'. -/
def payslipAddsUptoCard : Claim7 := { stood := { row := payslipAddsUptoRow, standIns := [], harness := (true, "573fb54359fd1c5541ae74222097886742b7b700182680bb01fca187c01e652d"), looks := false }, kinds := [], alts := [], laidByText := true, laidKinds := [.data, .data, .data], laidTests := true, laidLooks := .later }
def PayslipAddsUptoCardSaid : Prop := Claim7.holds Tryd.pinned (.plain (OpenSpec.upto payslipAddsSpec)) payslipAddsUptoCard
end Rows
end Go.Proofs.YtlanldccamphcaaDoor
