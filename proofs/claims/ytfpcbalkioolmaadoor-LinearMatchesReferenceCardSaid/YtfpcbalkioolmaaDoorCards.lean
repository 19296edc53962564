/-
  DERIVED. GIVEN WITH THE SEED: THE CARDS: each row of YtfpcbalkioolmaaDoorRows.lean that lists a variable, with what it lists TIED to the program's text (the seventh form; the later family's looks); each row that meets fmt, with fmt's text TOLD by the authors' own Lean function (tested against real Go, not proved from fmt's source: count such statements apart). THE CARD IS WHAT COUNTS. Prove the row's statement (the work); the ties are given (YtfpcbalkioolmaaDoorTie.lean); close each card by the builder's one call (the guide's Derived/Test/ToyasCard.lean, 'card_holds'). Laid BY PROGRAM, IN A SANDBOX (cutbox-door.mjs). By AI agents, Wed Nov 11 2026. No macro, syntax, notation, axiom, sorry.
-/
import Derived.Test.YtfpcbalkioolmaaDoorRows
import GoSem.ClaimSeven
namespace Go.Proofs.YtfpcbalkioolmaaDoor
namespace Rows

/-- THE TIED CARD OF 'sixdotlaw10.LinearMatchesReference'. -/
def linearMatchesReferenceCard : Claim7 := { stood := { row := linearMatchesReferenceRow, standIns := [], harness := (true, "59c22ce9c56a2087be149a6d3f97d72b675e92c751de50c55b1457b980c7ff5f"), looks := false }, kinds := [], alts := [], laidByText := true, laidKinds := [.data], laidTests := true, laidLooks := .later }
def LinearMatchesReferenceCardSaid : Prop := Claim7.holds Tryd.pinned (.plain (OpenSpec.ofChange linearMatchesReferenceSpec)) linearMatchesReferenceCard

/-- THE TIED CARD OF 'sixdotlaw10.LinearReads'. -/
def linearReadsCard : Claim7 := { stood := { row := linearReadsRow, standIns := [], harness := (true, "59c22ce9c56a2087be149a6d3f97d72b675e92c751de50c55b1457b980c7ff5f"), looks := false }, kinds := [], alts := [], laidByText := true, laidKinds := [.data], laidTests := true, laidLooks := .later }
def LinearReadsCardSaid : Prop := Claim7.holds Tryd.pinned (.plain (OpenSpec.ofChange linearReadsSpec)) linearReadsCard

/-- THE TIED CARD OF 'sixdotlaw10.LinearPrefixes'. -/
def linearPrefixesCard : Claim7 := { stood := { row := linearPrefixesRow, standIns := [], harness := (true, "59c22ce9c56a2087be149a6d3f97d72b675e92c751de50c55b1457b980c7ff5f"), looks := false }, kinds := [], alts := [], laidByText := true, laidKinds := [.data], laidTests := true, laidLooks := .later }
def LinearPrefixesCardSaid : Prop := Claim7.holds Tryd.pinned (.plain (OpenSpec.ofChange linearPrefixesSpec)) linearPrefixesCard

/-- THE TIED CARD OF 'sixdotlaw10.LinearChanges'. -/
def linearChangesCard : Claim7 := { stood := { row := linearChangesRow, standIns := [], harness := (true, "59c22ce9c56a2087be149a6d3f97d72b675e92c751de50c55b1457b980c7ff5f"), looks := false }, kinds := [], alts := [], laidByText := true, laidKinds := [.data], laidTests := true, laidLooks := .later }
def LinearChangesCardSaid : Prop := Claim7.holds Tryd.pinned (.plain (OpenSpec.ofChange linearChangesSpec)) linearChangesCard

/-- THE TIED CARD OF 'sixdotlaw10.LinearIsClean'. -/
def linearIsCleanCard : Claim7 := { stood := { row := linearIsCleanRow, standIns := [], harness := (true, "59c22ce9c56a2087be149a6d3f97d72b675e92c751de50c55b1457b980c7ff5f"), looks := false }, kinds := [], alts := [], laidByText := true, laidKinds := [.data], laidTests := true, laidLooks := .later }
def LinearIsCleanCardSaid : Prop := Claim7.holds Tryd.pinned (.plain (OpenSpec.ofChange linearIsCleanSpec)) linearIsCleanCard

/-- THE TIED CARD OF 'sixdotlaw10.LinearLimits'. -/
def linearLimitsCard : Claim7 := { stood := { row := linearLimitsRow, standIns := [], harness := (true, "59c22ce9c56a2087be149a6d3f97d72b675e92c751de50c55b1457b980c7ff5f"), looks := false }, kinds := [], alts := [], laidByText := true, laidKinds := [.data], laidTests := true, laidLooks := .later }
def LinearLimitsCardSaid : Prop := Claim7.holds Tryd.pinned (.plain (OpenSpec.ofChange linearLimitsSpec)) linearLimitsCard

/-- THE SECOND FORM's CARD OF 'sixdotlaw10.LinearMatchesReference'. -/
def linearMatchesReferenceUptoCard : Claim7 := { stood := { row := linearMatchesReferenceUptoRow, standIns := [], harness := (true, "59c22ce9c56a2087be149a6d3f97d72b675e92c751de50c55b1457b980c7ff5f"), looks := false }, kinds := [], alts := [], laidByText := true, laidKinds := [.data], laidTests := true, laidLooks := .later }
def LinearMatchesReferenceUptoCardSaid : Prop := Claim7.holds Tryd.pinned (.plain (OpenSpec.upto linearMatchesReferenceSpec)) linearMatchesReferenceUptoCard

/-- THE SECOND FORM's CARD OF 'sixdotlaw10.LinearReads'. -/
def linearReadsUptoCard : Claim7 := { stood := { row := linearReadsUptoRow, standIns := [], harness := (true, "59c22ce9c56a2087be149a6d3f97d72b675e92c751de50c55b1457b980c7ff5f"), looks := false }, kinds := [], alts := [], laidByText := true, laidKinds := [.data], laidTests := true, laidLooks := .later }
def LinearReadsUptoCardSaid : Prop := Claim7.holds Tryd.pinned (.plain (OpenSpec.upto linearReadsSpec)) linearReadsUptoCard

/-- THE SECOND FORM's CARD OF 'sixdotlaw10.LinearPrefixes'. -/
def linearPrefixesUptoCard : Claim7 := { stood := { row := linearPrefixesUptoRow, standIns := [], harness := (true, "59c22ce9c56a2087be149a6d3f97d72b675e92c751de50c55b1457b980c7ff5f"), looks := false }, kinds := [], alts := [], laidByText := true, laidKinds := [.data], laidTests := true, laidLooks := .later }
def LinearPrefixesUptoCardSaid : Prop := Claim7.holds Tryd.pinned (.plain (OpenSpec.upto linearPrefixesSpec)) linearPrefixesUptoCard

/-- THE SECOND FORM's CARD OF 'sixdotlaw10.LinearChanges'. -/
def linearChangesUptoCard : Claim7 := { stood := { row := linearChangesUptoRow, standIns := [], harness := (true, "59c22ce9c56a2087be149a6d3f97d72b675e92c751de50c55b1457b980c7ff5f"), looks := false }, kinds := [], alts := [], laidByText := true, laidKinds := [.data], laidTests := true, laidLooks := .later }
def LinearChangesUptoCardSaid : Prop := Claim7.holds Tryd.pinned (.plain (OpenSpec.upto linearChangesSpec)) linearChangesUptoCard

/-- THE SECOND FORM's CARD OF 'sixdotlaw10.LinearIsClean'. -/
def linearIsCleanUptoCard : Claim7 := { stood := { row := linearIsCleanUptoRow, standIns := [], harness := (true, "59c22ce9c56a2087be149a6d3f97d72b675e92c751de50c55b1457b980c7ff5f"), looks := false }, kinds := [], alts := [], laidByText := true, laidKinds := [.data], laidTests := true, laidLooks := .later }
def LinearIsCleanUptoCardSaid : Prop := Claim7.holds Tryd.pinned (.plain (OpenSpec.upto linearIsCleanSpec)) linearIsCleanUptoCard

/-- THE SECOND FORM's CARD OF 'sixdotlaw10.LinearLimits'. -/
def linearLimitsUptoCard : Claim7 := { stood := { row := linearLimitsUptoRow, standIns := [], harness := (true, "59c22ce9c56a2087be149a6d3f97d72b675e92c751de50c55b1457b980c7ff5f"), looks := false }, kinds := [], alts := [], laidByText := true, laidKinds := [.data], laidTests := true, laidLooks := .later }
def LinearLimitsUptoCardSaid : Prop := Claim7.holds Tryd.pinned (.plain (OpenSpec.upto linearLimitsSpec)) linearLimitsUptoCard
end Rows
end Go.Proofs.YtfpcbalkioolmaaDoor
