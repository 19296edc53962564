/-
  DERIVED. GIVEN WITH THE SEED: THE CARDS: each row of YtdegmbjhedfffaaDoorRows.lean that lists a variable, with what it lists TIED to the program's text (the seventh form; the later family's looks); each row that meets fmt, with fmt's text TOLD by the authors' own Lean function (tested against real Go, not proved from fmt's source: count such statements apart). THE CARD IS WHAT COUNTS. Prove the row's statement (the work); the ties are given (YtdegmbjhedfffaaDoorTie.lean); close each card by the builder's one call (the guide's Derived/Test/ToyasCard.lean, 'card_holds'). Laid BY PROGRAM, IN A SANDBOX (cutbox-door.mjs). By AI agents, Wed Nov 11 2026. No macro, syntax, notation, axiom, sorry.
-/
import Derived.Test.YtdegmbjhedfffaaDoorRows
import GoSem.ClaimSeven
namespace Go.Proofs.YtdegmbjhedfffaaDoor
namespace Rows

/-- THE TIED CARD OF 'sixdotlaw22.NoteNumbersMatchReference'. -/
def noteNumbersMatchReferenceCard : Claim7 := { stood := { row := noteNumbersMatchReferenceRow, standIns := [], harness := (true, "6bd21a74480fb7f18a462f775a84616f88b1f5af896e3400ab24d29c9b1f14ac"), looks := false }, kinds := [], alts := [], laidByText := true, laidKinds := [.data, .data, .data, .data], laidTests := true, laidLooks := .later }
def NoteNumbersMatchReferenceCardSaid : Prop := Claim7.holds Tryd.pinned (.plain (OpenSpec.ofChange noteNumbersMatchReferenceSpec)) noteNumbersMatchReferenceCard

/-- THE TIED CARD OF 'sixdotlaw22.NoteBelongs'. -/
def noteBelongsCard : Claim7 := { stood := { row := noteBelongsRow, standIns := [], harness := (true, "6bd21a74480fb7f18a462f775a84616f88b1f5af896e3400ab24d29c9b1f14ac"), looks := false }, kinds := [], alts := [], laidByText := true, laidKinds := [.data, .data, .data, .data], laidTests := true, laidLooks := .later }
def NoteBelongsCardSaid : Prop := Claim7.holds Tryd.pinned (.plain (OpenSpec.ofChange noteBelongsSpec)) noteBelongsCard

/-- THE TIED CARD OF 'sixdotlaw22.NoteReferences'. -/
def noteReferencesCard : Claim7 := { stood := { row := noteReferencesRow, standIns := [], harness := (true, "6bd21a74480fb7f18a462f775a84616f88b1f5af896e3400ab24d29c9b1f14ac"), looks := false }, kinds := [], alts := [], laidByText := true, laidKinds := [.data, .data, .data, .data], laidTests := true, laidLooks := .later }
def NoteReferencesCardSaid : Prop := Claim7.holds Tryd.pinned (.plain (OpenSpec.ofChange noteReferencesSpec)) noteReferencesCard

/-- THE TIED CARD OF 'sixdotlaw22.NoteStripMatchesReference'. -/
def noteStripMatchesReferenceCard : Claim7 := { stood := { row := noteStripMatchesReferenceRow, standIns := [], harness := (true, "6bd21a74480fb7f18a462f775a84616f88b1f5af896e3400ab24d29c9b1f14ac"), looks := false }, kinds := [], alts := [], laidByText := true, laidKinds := [.data, .data, .data, .data], laidTests := true, laidLooks := .later }
def NoteStripMatchesReferenceCardSaid : Prop := Claim7.holds Tryd.pinned (.plain (OpenSpec.ofChange noteStripMatchesReferenceSpec)) noteStripMatchesReferenceCard

/-- THE TIED CARD OF 'sixdotlaw22.NoteUnique'. -/
def noteUniqueCard : Claim7 := { stood := { row := noteUniqueRow, standIns := [], harness := (true, "6bd21a74480fb7f18a462f775a84616f88b1f5af896e3400ab24d29c9b1f14ac"), looks := false }, kinds := [], alts := [], laidByText := true, laidKinds := [.data, .data, .data, .data], laidTests := true, laidLooks := .later }
def NoteUniqueCardSaid : Prop := Claim7.holds Tryd.pinned (.plain (OpenSpec.ofChange noteUniqueSpec)) noteUniqueCard

/-- THE SECOND FORM's CARD OF 'sixdotlaw22.NoteNumbersMatchReference'. -/
def noteNumbersMatchReferenceUptoCard : Claim7 := { stood := { row := noteNumbersMatchReferenceUptoRow, standIns := [], harness := (true, "6bd21a74480fb7f18a462f775a84616f88b1f5af896e3400ab24d29c9b1f14ac"), looks := false }, kinds := [], alts := [], laidByText := true, laidKinds := [.data, .data, .data, .data], laidTests := true, laidLooks := .later }
def NoteNumbersMatchReferenceUptoCardSaid : Prop := Claim7.holds Tryd.pinned (.plain (OpenSpec.upto noteNumbersMatchReferenceSpec)) noteNumbersMatchReferenceUptoCard

/-- THE SECOND FORM's CARD OF 'sixdotlaw22.NoteBelongs'. -/
def noteBelongsUptoCard : Claim7 := { stood := { row := noteBelongsUptoRow, standIns := [], harness := (true, "6bd21a74480fb7f18a462f775a84616f88b1f5af896e3400ab24d29c9b1f14ac"), looks := false }, kinds := [], alts := [], laidByText := true, laidKinds := [.data, .data, .data, .data], laidTests := true, laidLooks := .later }
def NoteBelongsUptoCardSaid : Prop := Claim7.holds Tryd.pinned (.plain (OpenSpec.upto noteBelongsSpec)) noteBelongsUptoCard

/-- THE SECOND FORM's CARD OF 'sixdotlaw22.NoteReferences'. -/
def noteReferencesUptoCard : Claim7 := { stood := { row := noteReferencesUptoRow, standIns := [], harness := (true, "6bd21a74480fb7f18a462f775a84616f88b1f5af896e3400ab24d29c9b1f14ac"), looks := false }, kinds := [], alts := [], laidByText := true, laidKinds := [.data, .data, .data, .data], laidTests := true, laidLooks := .later }
def NoteReferencesUptoCardSaid : Prop := Claim7.holds Tryd.pinned (.plain (OpenSpec.upto noteReferencesSpec)) noteReferencesUptoCard

/-- THE SECOND FORM's CARD OF 'sixdotlaw22.NoteStripMatchesReference'. -/
def noteStripMatchesReferenceUptoCard : Claim7 := { stood := { row := noteStripMatchesReferenceUptoRow, standIns := [], harness := (true, "6bd21a74480fb7f18a462f775a84616f88b1f5af896e3400ab24d29c9b1f14ac"), looks := false }, kinds := [], alts := [], laidByText := true, laidKinds := [.data, .data, .data, .data], laidTests := true, laidLooks := .later }
def NoteStripMatchesReferenceUptoCardSaid : Prop := Claim7.holds Tryd.pinned (.plain (OpenSpec.upto noteStripMatchesReferenceSpec)) noteStripMatchesReferenceUptoCard

/-- THE SECOND FORM's CARD OF 'sixdotlaw22.NoteUnique'. -/
def noteUniqueUptoCard : Claim7 := { stood := { row := noteUniqueUptoRow, standIns := [], harness := (true, "6bd21a74480fb7f18a462f775a84616f88b1f5af896e3400ab24d29c9b1f14ac"), looks := false }, kinds := [], alts := [], laidByText := true, laidKinds := [.data, .data, .data, .data], laidTests := true, laidLooks := .later }
def NoteUniqueUptoCardSaid : Prop := Claim7.holds Tryd.pinned (.plain (OpenSpec.upto noteUniqueSpec)) noteUniqueUptoCard
end Rows
end Go.Proofs.YtdegmbjhedfffaaDoor
