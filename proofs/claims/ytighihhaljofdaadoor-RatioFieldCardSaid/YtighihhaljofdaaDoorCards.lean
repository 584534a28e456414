/-
  DERIVED. GIVEN WITH THE SEED: THE CARDS: each row of YtighihhaljofdaaDoorRows.lean that lists a variable, with what it lists TIED to the program's text (the seventh form; the later family's looks); each row that meets fmt, with fmt's text TOLD by the authors' own Lean function (tested against real Go, not proved from fmt's source: count such statements apart). THE CARD IS WHAT COUNTS. Prove the row's statement (the work); the ties are given (YtighihhaljofdaaDoorTie.lean); close each card by the builder's one call (the guide's Derived/Test/ToyasCard.lean, 'card_holds'). Laid BY PROGRAM, IN A SANDBOX (cutbox-door.mjs). By AI agents, Wed Nov 11 2026. No macro, syntax, notation, axiom, sorry.
-/
import Derived.Test.YtighihhaljofdaaDoorRows
import GoSem.ClaimSeven
namespace Go.Proofs.YtighihhaljofdaaDoor
namespace Rows

/-- THE TIED CARD OF 'payrolllaw1.RatioNew'. -/
def ratioNewCard : Claim7 := { stood := { row := ratioNewRow, standIns := [], harness := (true, "e136dab329e7a29d9c382129aff77d5c3b71a5ff8a20eebd271cbcb7f57ab249"), looks := true }, kinds := [], alts := [], laidByText := true, laidKinds := [.data, .data, .data, .sentinel, .sentinel], laidTests := true, laidLooks := .later }
def RatioNewCardSaid : Prop := Claim7.holds Tryd.pinned (.plain (OpenSpec.ofChange ratioNewSpec)) ratioNewCard

/-- THE TIED CARD OF 'payrolllaw1.RatioTexts'. -/
def ratioTextsCard : Claim7 := { stood := { row := ratioTextsRow, standIns := [], harness := (true, "e136dab329e7a29d9c382129aff77d5c3b71a5ff8a20eebd271cbcb7f57ab249"), looks := true }, kinds := [], alts := [], laidByText := true, laidKinds := [.data, .data, .data, .sentinel, .sentinel], laidTests := true, laidLooks := .later }
def RatioTextsCardSaid : Prop := Claim7.holds Tryd.pinned (.plain (OpenSpec.ofChange ratioTextsSpec)) ratioTextsCard

/-- THE TIED CARD OF 'payrolllaw1.RatioRoundTrip'. -/
def ratioRoundTripCard : Claim7 := { stood := { row := ratioRoundTripRow, standIns := [], harness := (true, "e136dab329e7a29d9c382129aff77d5c3b71a5ff8a20eebd271cbcb7f57ab249"), looks := true }, kinds := [], alts := [], laidByText := true, laidKinds := [.data, .data, .data, .sentinel, .sentinel], laidTests := true, laidLooks := .later }
def RatioRoundTripCardSaid : Prop := Claim7.holds Tryd.pinned (.plain (OpenSpec.ofChange ratioRoundTripSpec)) ratioRoundTripCard

/-- THE TIED CARD OF 'payrolllaw1.RatioOrder'. -/
def ratioOrderCard : Claim7 := { stood := { row := ratioOrderRow, standIns := [], harness := (true, "e136dab329e7a29d9c382129aff77d5c3b71a5ff8a20eebd271cbcb7f57ab249"), looks := true }, kinds := [], alts := [], laidByText := true, laidKinds := [.data, .data, .data, .sentinel, .sentinel], laidTests := true, laidLooks := .later }
def RatioOrderCardSaid : Prop := Claim7.holds Tryd.pinned (.plain (OpenSpec.ofChange ratioOrderSpec)) ratioOrderCard

/-- THE TIED CARD OF 'payrolllaw1.RatioField'. -/
def ratioFieldCard : Claim7 := { stood := { row := ratioFieldRow, standIns := [], harness := (true, "e136dab329e7a29d9c382129aff77d5c3b71a5ff8a20eebd271cbcb7f57ab249"), looks := true }, kinds := [], alts := [], laidByText := true, laidKinds := [.data, .data, .data, .sentinel, .sentinel], laidTests := true, laidLooks := .later }
def RatioFieldCardSaid : Prop := Claim7.holds Tryd.pinned (.plain (OpenSpec.ofChange ratioFieldSpec)) ratioFieldCard

/-- THE TIED CARD OF 'payrolllaw1.RatioComputes'. -/
def ratioComputesCard : Claim7 := { stood := { row := ratioComputesRow, standIns := [], harness := (true, "e136dab329e7a29d9c382129aff77d5c3b71a5ff8a20eebd271cbcb7f57ab249"), looks := true }, kinds := [], alts := [], laidByText := true, laidKinds := [.data, .data, .data, .sentinel, .sentinel], laidTests := true, laidLooks := .later }
def RatioComputesCardSaid : Prop := Claim7.holds Tryd.pinned (.plain (OpenSpec.ofChange ratioComputesSpec)) ratioComputesCard

/-- THE SECOND FORM's CARD OF 'payrolllaw1.RatioNew'. -/
def ratioNewUptoCard : Claim7 := { stood := { row := ratioNewUptoRow, standIns := [], harness := (true, "e136dab329e7a29d9c382129aff77d5c3b71a5ff8a20eebd271cbcb7f57ab249"), looks := true }, kinds := [], alts := [], laidByText := true, laidKinds := [.data, .data, .data, .sentinel, .sentinel], laidTests := true, laidLooks := .later }
def RatioNewUptoCardSaid : Prop := Claim7.holds Tryd.pinned (.plain (OpenSpec.upto ratioNewSpec)) ratioNewUptoCard

/-- THE SECOND FORM's CARD OF 'payrolllaw1.RatioTexts'. -/
def ratioTextsUptoCard : Claim7 := { stood := { row := ratioTextsUptoRow, standIns := [], harness := (true, "e136dab329e7a29d9c382129aff77d5c3b71a5ff8a20eebd271cbcb7f57ab249"), looks := true }, kinds := [], alts := [], laidByText := true, laidKinds := [.data, .data, .data, .sentinel, .sentinel], laidTests := true, laidLooks := .later }
def RatioTextsUptoCardSaid : Prop := Claim7.holds Tryd.pinned (.plain (OpenSpec.upto ratioTextsSpec)) ratioTextsUptoCard

/-- THE SECOND FORM's CARD OF 'payrolllaw1.RatioRoundTrip'. -/
def ratioRoundTripUptoCard : Claim7 := { stood := { row := ratioRoundTripUptoRow, standIns := [], harness := (true, "e136dab329e7a29d9c382129aff77d5c3b71a5ff8a20eebd271cbcb7f57ab249"), looks := true }, kinds := [], alts := [], laidByText := true, laidKinds := [.data, .data, .data, .sentinel, .sentinel], laidTests := true, laidLooks := .later }
def RatioRoundTripUptoCardSaid : Prop := Claim7.holds Tryd.pinned (.plain (OpenSpec.upto ratioRoundTripSpec)) ratioRoundTripUptoCard

/-- THE SECOND FORM's CARD OF 'payrolllaw1.RatioOrder'. -/
def ratioOrderUptoCard : Claim7 := { stood := { row := ratioOrderUptoRow, standIns := [], harness := (true, "e136dab329e7a29d9c382129aff77d5c3b71a5ff8a20eebd271cbcb7f57ab249"), looks := true }, kinds := [], alts := [], laidByText := true, laidKinds := [.data, .data, .data, .sentinel, .sentinel], laidTests := true, laidLooks := .later }
def RatioOrderUptoCardSaid : Prop := Claim7.holds Tryd.pinned (.plain (OpenSpec.upto ratioOrderSpec)) ratioOrderUptoCard

/-- THE SECOND FORM's CARD OF 'payrolllaw1.RatioField'. -/
def ratioFieldUptoCard : Claim7 := { stood := { row := ratioFieldUptoRow, standIns := [], harness := (true, "e136dab329e7a29d9c382129aff77d5c3b71a5ff8a20eebd271cbcb7f57ab249"), looks := true }, kinds := [], alts := [], laidByText := true, laidKinds := [.data, .data, .data, .sentinel, .sentinel], laidTests := true, laidLooks := .later }
def RatioFieldUptoCardSaid : Prop := Claim7.holds Tryd.pinned (.plain (OpenSpec.upto ratioFieldSpec)) ratioFieldUptoCard

/-- THE SECOND FORM's CARD OF 'payrolllaw1.RatioComputes'. -/
def ratioComputesUptoCard : Claim7 := { stood := { row := ratioComputesUptoRow, standIns := [], harness := (true, "e136dab329e7a29d9c382129aff77d5c3b71a5ff8a20eebd271cbcb7f57ab249"), looks := true }, kinds := [], alts := [], laidByText := true, laidKinds := [.data, .data, .data, .sentinel, .sentinel], laidTests := true, laidLooks := .later }
def RatioComputesUptoCardSaid : Prop := Claim7.holds Tryd.pinned (.plain (OpenSpec.upto ratioComputesSpec)) ratioComputesUptoCard
end Rows
end Go.Proofs.YtighihhaljofdaaDoor
