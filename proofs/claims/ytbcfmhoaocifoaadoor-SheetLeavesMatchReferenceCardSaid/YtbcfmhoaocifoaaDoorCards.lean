/-
  DERIVED. GIVEN WITH THE SEED: THE CARDS: each row of YtbcfmhoaocifoaaDoorRows.lean that lists a variable, with what it lists TIED to the program's text (the seventh form; the later family's looks); each row that meets fmt, with fmt's text TOLD by the authors' own Lean function (tested against real Go, not proved from fmt's source: count such statements apart). THE CARD IS WHAT COUNTS. Prove the row's statement (the work); the ties are given (YtbcfmhoaocifoaaDoorTie.lean); close each card by the builder's one call (the guide's Derived/Test/ToyasCard.lean, 'card_holds'). Laid BY PROGRAM, IN A SANDBOX (cutbox-door.mjs). By AI agents, Wed Nov 11 2026. No macro, syntax, notation, axiom, sorry.
-/
import Derived.Test.YtbcfmhoaocifoaaDoorRows
import GoSem.ClaimSeven
namespace Go.Proofs.YtbcfmhoaocifoaaDoor
namespace Rows

/-- THE TIED CARD OF 'sixdotlaw25.SheetMatchesReference'. -/
def sheetMatchesReferenceCard : Claim7 := { stood := { row := sheetMatchesReferenceRow, standIns := [], harness := (true, "0d7b5b1463130c788d3b2893a7490ec8613815a640d80a1917baefd9fff06753"), looks := false }, kinds := [], alts := [], laidByText := true, laidKinds := [.data, .data, .data, .data, .data, .data], laidTests := true, laidLooks := .later }
def SheetMatchesReferenceCardSaid : Prop := Claim7.holds Tryd.pinned (.plain (OpenSpec.ofChange sheetMatchesReferenceSpec)) sheetMatchesReferenceCard

/-- THE TIED CARD OF 'sixdotlaw25.SheetReads'. -/
def sheetReadsCard : Claim7 := { stood := { row := sheetReadsRow, standIns := [], harness := (true, "0d7b5b1463130c788d3b2893a7490ec8613815a640d80a1917baefd9fff06753"), looks := false }, kinds := [], alts := [], laidByText := true, laidKinds := [.data, .data, .data, .data, .data, .data], laidTests := true, laidLooks := .later }
def SheetReadsCardSaid : Prop := Claim7.holds Tryd.pinned (.plain (OpenSpec.ofChange sheetReadsSpec)) sheetReadsCard

/-- THE TIED CARD OF 'sixdotlaw25.SheetPlates'. -/
def sheetPlatesCard : Claim7 := { stood := { row := sheetPlatesRow, standIns := [], harness := (true, "0d7b5b1463130c788d3b2893a7490ec8613815a640d80a1917baefd9fff06753"), looks := false }, kinds := [], alts := [], laidByText := true, laidKinds := [.data, .data, .data, .data, .data, .data], laidTests := true, laidLooks := .later }
def SheetPlatesCardSaid : Prop := Claim7.holds Tryd.pinned (.plain (OpenSpec.ofChange sheetPlatesSpec)) sheetPlatesCard

/-- THE TIED CARD OF 'sixdotlaw25.SheetTurns'. -/
def sheetTurnsCard : Claim7 := { stood := { row := sheetTurnsRow, standIns := [], harness := (true, "0d7b5b1463130c788d3b2893a7490ec8613815a640d80a1917baefd9fff06753"), looks := false }, kinds := [], alts := [], laidByText := true, laidKinds := [.data, .data, .data, .data, .data, .data], laidTests := true, laidLooks := .later }
def SheetTurnsCardSaid : Prop := Claim7.holds Tryd.pinned (.plain (OpenSpec.ofChange sheetTurnsSpec)) sheetTurnsCard

/-- THE TIED CARD OF 'sixdotlaw25.SheetLeaves'. -/
def sheetLeavesCard : Claim7 := { stood := { row := sheetLeavesRow, standIns := [], harness := (true, "0d7b5b1463130c788d3b2893a7490ec8613815a640d80a1917baefd9fff06753"), looks := false }, kinds := [], alts := [], laidByText := true, laidKinds := [.data, .data, .data, .data, .data, .data], laidTests := true, laidLooks := .later }
def SheetLeavesCardSaid : Prop := Claim7.holds Tryd.pinned (.plain (OpenSpec.ofChange sheetLeavesSpec)) sheetLeavesCard

/-- THE TIED CARD OF 'sixdotlaw25.SheetLeavesMatchReference'. -/
def sheetLeavesMatchReferenceCard : Claim7 := { stood := { row := sheetLeavesMatchReferenceRow, standIns := [], harness := (true, "0d7b5b1463130c788d3b2893a7490ec8613815a640d80a1917baefd9fff06753"), looks := false }, kinds := [], alts := [], laidByText := true, laidKinds := [.data, .data, .data, .data, .data, .data], laidTests := true, laidLooks := .later }
def SheetLeavesMatchReferenceCardSaid : Prop := Claim7.holds Tryd.pinned (.plain (OpenSpec.ofChange sheetLeavesMatchReferenceSpec)) sheetLeavesMatchReferenceCard

/-- THE SECOND FORM's CARD OF 'sixdotlaw25.SheetMatchesReference'. -/
def sheetMatchesReferenceUptoCard : Claim7 := { stood := { row := sheetMatchesReferenceUptoRow, standIns := [], harness := (true, "0d7b5b1463130c788d3b2893a7490ec8613815a640d80a1917baefd9fff06753"), looks := false }, kinds := [], alts := [], laidByText := true, laidKinds := [.data, .data, .data, .data, .data, .data], laidTests := true, laidLooks := .later }
def SheetMatchesReferenceUptoCardSaid : Prop := Claim7.holds Tryd.pinned (.plain (OpenSpec.upto sheetMatchesReferenceSpec)) sheetMatchesReferenceUptoCard

/-- THE SECOND FORM's CARD OF 'sixdotlaw25.SheetReads'. -/
def sheetReadsUptoCard : Claim7 := { stood := { row := sheetReadsUptoRow, standIns := [], harness := (true, "0d7b5b1463130c788d3b2893a7490ec8613815a640d80a1917baefd9fff06753"), looks := false }, kinds := [], alts := [], laidByText := true, laidKinds := [.data, .data, .data, .data, .data, .data], laidTests := true, laidLooks := .later }
def SheetReadsUptoCardSaid : Prop := Claim7.holds Tryd.pinned (.plain (OpenSpec.upto sheetReadsSpec)) sheetReadsUptoCard

/-- THE SECOND FORM's CARD OF 'sixdotlaw25.SheetPlates'. -/
def sheetPlatesUptoCard : Claim7 := { stood := { row := sheetPlatesUptoRow, standIns := [], harness := (true, "0d7b5b1463130c788d3b2893a7490ec8613815a640d80a1917baefd9fff06753"), looks := false }, kinds := [], alts := [], laidByText := true, laidKinds := [.data, .data, .data, .data, .data, .data], laidTests := true, laidLooks := .later }
def SheetPlatesUptoCardSaid : Prop := Claim7.holds Tryd.pinned (.plain (OpenSpec.upto sheetPlatesSpec)) sheetPlatesUptoCard

/-- THE SECOND FORM's CARD OF 'sixdotlaw25.SheetTurns'. -/
def sheetTurnsUptoCard : Claim7 := { stood := { row := sheetTurnsUptoRow, standIns := [], harness := (true, "0d7b5b1463130c788d3b2893a7490ec8613815a640d80a1917baefd9fff06753"), looks := false }, kinds := [], alts := [], laidByText := true, laidKinds := [.data, .data, .data, .data, .data, .data], laidTests := true, laidLooks := .later }
def SheetTurnsUptoCardSaid : Prop := Claim7.holds Tryd.pinned (.plain (OpenSpec.upto sheetTurnsSpec)) sheetTurnsUptoCard

/-- THE SECOND FORM's CARD OF 'sixdotlaw25.SheetLeaves'. -/
def sheetLeavesUptoCard : Claim7 := { stood := { row := sheetLeavesUptoRow, standIns := [], harness := (true, "0d7b5b1463130c788d3b2893a7490ec8613815a640d80a1917baefd9fff06753"), looks := false }, kinds := [], alts := [], laidByText := true, laidKinds := [.data, .data, .data, .data, .data, .data], laidTests := true, laidLooks := .later }
def SheetLeavesUptoCardSaid : Prop := Claim7.holds Tryd.pinned (.plain (OpenSpec.upto sheetLeavesSpec)) sheetLeavesUptoCard

/-- THE SECOND FORM's CARD OF 'sixdotlaw25.SheetLeavesMatchReference'. -/
def sheetLeavesMatchReferenceUptoCard : Claim7 := { stood := { row := sheetLeavesMatchReferenceUptoRow, standIns := [], harness := (true, "0d7b5b1463130c788d3b2893a7490ec8613815a640d80a1917baefd9fff06753"), looks := false }, kinds := [], alts := [], laidByText := true, laidKinds := [.data, .data, .data, .data, .data, .data], laidTests := true, laidLooks := .later }
def SheetLeavesMatchReferenceUptoCardSaid : Prop := Claim7.holds Tryd.pinned (.plain (OpenSpec.upto sheetLeavesMatchReferenceSpec)) sheetLeavesMatchReferenceUptoCard
end Rows
end Go.Proofs.YtbcfmhoaocifoaaDoor
