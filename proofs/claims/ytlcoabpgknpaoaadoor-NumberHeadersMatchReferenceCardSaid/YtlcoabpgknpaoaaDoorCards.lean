/-
  DERIVED. GIVEN WITH THE SEED: THE CARDS: each row of YtlcoabpgknpaoaaDoorRows.lean that lists a variable, with what it lists TIED to the program's text (the seventh form; the later family's looks); each row that meets fmt, with fmt's text TOLD by the authors' own Lean function (tested against real Go, not proved from fmt's source: count such statements apart). THE CARD IS WHAT COUNTS. Prove the row's statement (the work); the ties are given (YtlcoabpgknpaoaaDoorTie.lean); close each card by the builder's one call (the guide's Derived/Test/ToyasCard.lean, 'card_holds'). Laid BY PROGRAM, IN A SANDBOX (cutbox-door.mjs). By AI agents, Wed Nov 11 2026. No macro, syntax, notation, axiom, sorry.
-/
import Derived.Test.YtlcoabpgknpaoaaDoorRows
import GoSem.ClaimSeven
namespace Go.Proofs.YtlcoabpgknpaoaaDoor
namespace Rows

/-- THE TIED CARD OF 'sixdotlaw19.NumberMatchesReference'. -/
def numberMatchesReferenceCard : Claim7 := { stood := { row := numberMatchesReferenceRow, standIns := [], harness := (true, "973f51334380db6b7b374371b5d2be55007ac0b84915fd160bf15c92b3c4f6a3"), looks := false }, kinds := [], alts := [], laidByText := true, laidKinds := [.data, .data, .data, .data, .data], laidTests := true, laidLooks := .later }
def NumberMatchesReferenceCardSaid : Prop := Claim7.holds Tryd.pinned (.plain (OpenSpec.ofChange numberMatchesReferenceSpec)) numberMatchesReferenceCard

/-- THE TIED CARD OF 'sixdotlaw19.NumberReads'. -/
def numberReadsCard : Claim7 := { stood := { row := numberReadsRow, standIns := [], harness := (true, "973f51334380db6b7b374371b5d2be55007ac0b84915fd160bf15c92b3c4f6a3"), looks := false }, kinds := [], alts := [], laidByText := true, laidKinds := [.data, .data, .data, .data, .data], laidTests := true, laidLooks := .later }
def NumberReadsCardSaid : Prop := Claim7.holds Tryd.pinned (.plain (OpenSpec.ofChange numberReadsSpec)) numberReadsCard

/-- THE TIED CARD OF 'sixdotlaw19.NumberPages'. -/
def numberPagesCard : Claim7 := { stood := { row := numberPagesRow, standIns := [], harness := (true, "973f51334380db6b7b374371b5d2be55007ac0b84915fd160bf15c92b3c4f6a3"), looks := false }, kinds := [], alts := [], laidByText := true, laidKinds := [.data, .data, .data, .data, .data], laidTests := true, laidLooks := .later }
def NumberPagesCardSaid : Prop := Claim7.holds Tryd.pinned (.plain (OpenSpec.ofChange numberPagesSpec)) numberPagesCard

/-- THE TIED CARD OF 'sixdotlaw19.NumberHeaders'. -/
def numberHeadersCard : Claim7 := { stood := { row := numberHeadersRow, standIns := [], harness := (true, "973f51334380db6b7b374371b5d2be55007ac0b84915fd160bf15c92b3c4f6a3"), looks := false }, kinds := [], alts := [], laidByText := true, laidKinds := [.data, .data, .data, .data, .data], laidTests := true, laidLooks := .later }
def NumberHeadersCardSaid : Prop := Claim7.holds Tryd.pinned (.plain (OpenSpec.ofChange numberHeadersSpec)) numberHeadersCard

/-- THE TIED CARD OF 'sixdotlaw19.NumberHeadersMatchReference'. -/
def numberHeadersMatchReferenceCard : Claim7 := { stood := { row := numberHeadersMatchReferenceRow, standIns := [], harness := (true, "973f51334380db6b7b374371b5d2be55007ac0b84915fd160bf15c92b3c4f6a3"), looks := false }, kinds := [], alts := [], laidByText := true, laidKinds := [.data, .data, .data, .data, .data], laidTests := true, laidLooks := .later }
def NumberHeadersMatchReferenceCardSaid : Prop := Claim7.holds Tryd.pinned (.plain (OpenSpec.ofChange numberHeadersMatchReferenceSpec)) numberHeadersMatchReferenceCard

/-- THE SECOND FORM's CARD OF 'sixdotlaw19.NumberMatchesReference'. -/
def numberMatchesReferenceUptoCard : Claim7 := { stood := { row := numberMatchesReferenceUptoRow, standIns := [], harness := (true, "973f51334380db6b7b374371b5d2be55007ac0b84915fd160bf15c92b3c4f6a3"), looks := false }, kinds := [], alts := [], laidByText := true, laidKinds := [.data, .data, .data, .data, .data], laidTests := true, laidLooks := .later }
def NumberMatchesReferenceUptoCardSaid : Prop := Claim7.holds Tryd.pinned (.plain (OpenSpec.upto numberMatchesReferenceSpec)) numberMatchesReferenceUptoCard

/-- THE SECOND FORM's CARD OF 'sixdotlaw19.NumberReads'. -/
def numberReadsUptoCard : Claim7 := { stood := { row := numberReadsUptoRow, standIns := [], harness := (true, "973f51334380db6b7b374371b5d2be55007ac0b84915fd160bf15c92b3c4f6a3"), looks := false }, kinds := [], alts := [], laidByText := true, laidKinds := [.data, .data, .data, .data, .data], laidTests := true, laidLooks := .later }
def NumberReadsUptoCardSaid : Prop := Claim7.holds Tryd.pinned (.plain (OpenSpec.upto numberReadsSpec)) numberReadsUptoCard

/-- THE SECOND FORM's CARD OF 'sixdotlaw19.NumberPages'. -/
def numberPagesUptoCard : Claim7 := { stood := { row := numberPagesUptoRow, standIns := [], harness := (true, "973f51334380db6b7b374371b5d2be55007ac0b84915fd160bf15c92b3c4f6a3"), looks := false }, kinds := [], alts := [], laidByText := true, laidKinds := [.data, .data, .data, .data, .data], laidTests := true, laidLooks := .later }
def NumberPagesUptoCardSaid : Prop := Claim7.holds Tryd.pinned (.plain (OpenSpec.upto numberPagesSpec)) numberPagesUptoCard

/-- THE SECOND FORM's CARD OF 'sixdotlaw19.NumberHeaders'. -/
def numberHeadersUptoCard : Claim7 := { stood := { row := numberHeadersUptoRow, standIns := [], harness := (true, "973f51334380db6b7b374371b5d2be55007ac0b84915fd160bf15c92b3c4f6a3"), looks := false }, kinds := [], alts := [], laidByText := true, laidKinds := [.data, .data, .data, .data, .data], laidTests := true, laidLooks := .later }
def NumberHeadersUptoCardSaid : Prop := Claim7.holds Tryd.pinned (.plain (OpenSpec.upto numberHeadersSpec)) numberHeadersUptoCard

/-- THE SECOND FORM's CARD OF 'sixdotlaw19.NumberHeadersMatchReference'. -/
def numberHeadersMatchReferenceUptoCard : Claim7 := { stood := { row := numberHeadersMatchReferenceUptoRow, standIns := [], harness := (true, "973f51334380db6b7b374371b5d2be55007ac0b84915fd160bf15c92b3c4f6a3"), looks := false }, kinds := [], alts := [], laidByText := true, laidKinds := [.data, .data, .data, .data, .data], laidTests := true, laidLooks := .later }
def NumberHeadersMatchReferenceUptoCardSaid : Prop := Claim7.holds Tryd.pinned (.plain (OpenSpec.upto numberHeadersMatchReferenceSpec)) numberHeadersMatchReferenceUptoCard
end Rows
end Go.Proofs.YtlcoabpgknpaoaaDoor
