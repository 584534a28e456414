/-
  DERIVED. GIVEN WITH THE SEED: THE CARDS: each row of YtejgfblphgcgkaaGreatDoorRows.lean that lists a variable, with what it lists TIED to the program's text (the seventh form; the later family's looks); each row that meets fmt, with fmt's text TOLD by the authors' own Lean function (tested against real Go, not proved from fmt's source: count such statements apart). THE CARD IS WHAT COUNTS. Prove the row's statement (the work); the ties are given (YtejgfblphgcgkaaGreatDoorTie.lean); close each card by the builder's one call (the guide's Derived/Test/ToyasCard.lean, 'card_holds'). Laid BY PROGRAM, IN A SANDBOX (cutbox-door.mjs). By AI agents, Wed Nov 11 2026. No macro, syntax, notation, axiom, sorry.
-/
import Derived.Test.YtejgfblphgcgkaaGreatDoorRows
import GoSem.ClaimSeven
namespace Go.Proofs.YtejgfblphgcgkaaGreatDoor
namespace Rows

/-- THE TIED CARD OF 'payrolllaw43.FilingEncodes'. -/
def filingEncodesCard : Claim7 := { stood := { row := filingEncodesRow, standIns := [], harness := (true, "e347e98fc3ef9a4e9c8b0c9c24f47178076ca63050d5526e14136fb2af451b09"), looks := true }, kinds := [], alts := [], laidByText := true, laidKinds := [.data, .data, .data, .data, .sentinel, .sentinel, .pinned], laidTests := true, laidLooks := .later }
def FilingEncodesCardSaid : Prop := Claim7.holds Tryz.pinned (.plain (OpenSpec.ofChange filingEncodesSpec)) filingEncodesCard

/-- THE TIED CARD OF 'payrolllaw43.FilingDecodes'. -/
def filingDecodesCard : Claim7 := { stood := { row := filingDecodesRow, standIns := [], harness := (true, "e347e98fc3ef9a4e9c8b0c9c24f47178076ca63050d5526e14136fb2af451b09"), looks := true }, kinds := [], alts := [], laidByText := true, laidKinds := [.data, .data, .data, .data, .sentinel, .sentinel, .pinned], laidTests := true, laidLooks := .later }
def FilingDecodesCardSaid : Prop := Claim7.holds Tryz.pinned (.plain (OpenSpec.ofChange filingDecodesSpec)) filingDecodesCard

/-- THE TIED CARD OF 'payrolllaw43.AuthorityLatest'. -/
def authorityLatestCard : Claim7 := { stood := { row := authorityLatestRow, standIns := [], harness := (true, "e347e98fc3ef9a4e9c8b0c9c24f47178076ca63050d5526e14136fb2af451b09"), looks := true }, kinds := [], alts := [], laidByText := true, laidKinds := [.data, .data, .data, .data, .sentinel, .sentinel, .pinned], laidTests := true, laidLooks := .later }
def AuthorityLatestCardSaid : Prop := Claim7.holds Tryz.pinned (.plain (OpenSpec.ofChange authorityLatestSpec)) authorityLatestCard

/-- THE TIED CARD OF 'payrolllaw43.AuthorityFollows'. -/
def authorityFollowsCard : Claim7 := { stood := { row := authorityFollowsRow, standIns := [], harness := (true, "e347e98fc3ef9a4e9c8b0c9c24f47178076ca63050d5526e14136fb2af451b09"), looks := true }, kinds := [], alts := [], laidByText := true, laidKinds := [.data, .data, .data, .data, .sentinel, .sentinel, .pinned], laidTests := true, laidLooks := .later }
def AuthorityFollowsCardSaid : Prop := Claim7.holds Tryz.pinned (.plain (OpenSpec.ofChange authorityFollowsSpec)) authorityFollowsCard

/-- THE TIED CARD OF 'payrolllaw43.AuthorityCopies'. -/
def authorityCopiesCard : Claim7 := { stood := { row := authorityCopiesRow, standIns := [], harness := (true, "e347e98fc3ef9a4e9c8b0c9c24f47178076ca63050d5526e14136fb2af451b09"), looks := true }, kinds := [], alts := [], laidByText := true, laidKinds := [.data, .data, .data, .data, .sentinel, .sentinel, .pinned], laidTests := true, laidLooks := .later }
def AuthorityCopiesCardSaid : Prop := Claim7.holds Tryz.pinned (.plain (OpenSpec.ofChange authorityCopiesSpec)) authorityCopiesCard

/-- THE SECOND FORM's CARD OF 'payrolllaw43.FilingEncodes'. -/
def filingEncodesUptoCard : Claim7 := { stood := { row := filingEncodesUptoRow, standIns := [], harness := (true, "e347e98fc3ef9a4e9c8b0c9c24f47178076ca63050d5526e14136fb2af451b09"), looks := true }, kinds := [], alts := [], laidByText := true, laidKinds := [.data, .data, .data, .data, .sentinel, .sentinel, .pinned], laidTests := true, laidLooks := .later }
def FilingEncodesUptoCardSaid : Prop := Claim7.holds Tryz.pinned (.plain (OpenSpec.upto filingEncodesSpec)) filingEncodesUptoCard

/-- THE SECOND FORM's CARD OF 'payrolllaw43.FilingDecodes'. -/
def filingDecodesUptoCard : Claim7 := { stood := { row := filingDecodesUptoRow, standIns := [], harness := (true, "e347e98fc3ef9a4e9c8b0c9c24f47178076ca63050d5526e14136fb2af451b09"), looks := true }, kinds := [], alts := [], laidByText := true, laidKinds := [.data, .data, .data, .data, .sentinel, .sentinel, .pinned], laidTests := true, laidLooks := .later }
def FilingDecodesUptoCardSaid : Prop := Claim7.holds Tryz.pinned (.plain (OpenSpec.upto filingDecodesSpec)) filingDecodesUptoCard

/-- THE SECOND FORM's CARD OF 'payrolllaw43.AuthorityLatest'. -/
def authorityLatestUptoCard : Claim7 := { stood := { row := authorityLatestUptoRow, standIns := [], harness := (true, "e347e98fc3ef9a4e9c8b0c9c24f47178076ca63050d5526e14136fb2af451b09"), looks := true }, kinds := [], alts := [], laidByText := true, laidKinds := [.data, .data, .data, .data, .sentinel, .sentinel, .pinned], laidTests := true, laidLooks := .later }
def AuthorityLatestUptoCardSaid : Prop := Claim7.holds Tryz.pinned (.plain (OpenSpec.upto authorityLatestSpec)) authorityLatestUptoCard

/-- THE SECOND FORM's CARD OF 'payrolllaw43.AuthorityFollows'. -/
def authorityFollowsUptoCard : Claim7 := { stood := { row := authorityFollowsUptoRow, standIns := [], harness := (true, "e347e98fc3ef9a4e9c8b0c9c24f47178076ca63050d5526e14136fb2af451b09"), looks := true }, kinds := [], alts := [], laidByText := true, laidKinds := [.data, .data, .data, .data, .sentinel, .sentinel, .pinned], laidTests := true, laidLooks := .later }
def AuthorityFollowsUptoCardSaid : Prop := Claim7.holds Tryz.pinned (.plain (OpenSpec.upto authorityFollowsSpec)) authorityFollowsUptoCard

/-- THE SECOND FORM's CARD OF 'payrolllaw43.AuthorityCopies'. -/
def authorityCopiesUptoCard : Claim7 := { stood := { row := authorityCopiesUptoRow, standIns := [], harness := (true, "e347e98fc3ef9a4e9c8b0c9c24f47178076ca63050d5526e14136fb2af451b09"), looks := true }, kinds := [], alts := [], laidByText := true, laidKinds := [.data, .data, .data, .data, .sentinel, .sentinel, .pinned], laidTests := true, laidLooks := .later }
def AuthorityCopiesUptoCardSaid : Prop := Claim7.holds Tryz.pinned (.plain (OpenSpec.upto authorityCopiesSpec)) authorityCopiesUptoCard
end Rows
end Go.Proofs.YtejgfblphgcgkaaGreatDoor
