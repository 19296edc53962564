/-
  DERIVED. GIVEN WITH THE SEED: THE CARDS: each row of YtlhpkjgpcenfdaaDoorRows.lean that lists a variable, with what it lists TIED to the program's text (the seventh form; the later family's looks); each row that meets fmt, with fmt's text TOLD by the authors' own Lean function (tested against real Go, not proved from fmt's source: count such statements apart). THE CARD IS WHAT COUNTS. Prove the row's statement (the work); the ties are given (YtlhpkjgpcenfdaaDoorTie.lean); close each card by the builder's one call (the guide's Derived/Test/ToyasCard.lean, 'card_holds'). Laid BY PROGRAM, IN A SANDBOX (cutbox-door.mjs). By AI agents, Wed Nov 11 2026. No macro, syntax, notation, axiom, sorry.
-/
import Derived.Test.YtlhpkjgpcenfdaaDoorRows
import GoSem.ClaimSeven
namespace Go.Proofs.YtlhpkjgpcenfdaaDoor
namespace Rows

/-- THE TIED CARD OF 'sixdotlaw02.TableTexts'. -/
def tableTextsCard : Claim7 := { stood := { row := tableTextsRow, standIns := [], harness := (true, "41bebb2bd5c83c06bd092eec4356906b1311cabacca883ad290effb75a6b08fd"), looks := false }, kinds := [], alts := [], laidByText := true, laidKinds := [.data, .data, .data], laidTests := true, laidLooks := .later }
def TableTextsCardSaid : Prop := Claim7.holds Tryd.pinned (.plain (OpenSpec.ofChange tableTextsSpec)) tableTextsCard

/-- THE TIED CARD OF 'sixdotlaw02.TableCleanWords'. -/
def tableCleanWordsCard : Claim7 := { stood := { row := tableCleanWordsRow, standIns := [], harness := (true, "41bebb2bd5c83c06bd092eec4356906b1311cabacca883ad290effb75a6b08fd"), looks := false }, kinds := [], alts := [], laidByText := true, laidKinds := [.data, .data, .data], laidTests := true, laidLooks := .later }
def TableCleanWordsCardSaid : Prop := Claim7.holds Tryd.pinned (.plain (OpenSpec.ofChange tableCleanWordsSpec)) tableCleanWordsCard

/-- THE TIED CARD OF 'sixdotlaw02.TableChecks'. -/
def tableChecksCard : Claim7 := { stood := { row := tableChecksRow, standIns := [], harness := (true, "41bebb2bd5c83c06bd092eec4356906b1311cabacca883ad290effb75a6b08fd"), looks := false }, kinds := [], alts := [], laidByText := true, laidKinds := [.data, .data, .data], laidTests := true, laidLooks := .later }
def TableChecksCardSaid : Prop := Claim7.holds Tryd.pinned (.plain (OpenSpec.ofChange tableChecksSpec)) tableChecksCard

/-- THE TIED CARD OF 'sixdotlaw02.TableSpoils'. -/
def tableSpoilsCard : Claim7 := { stood := { row := tableSpoilsRow, standIns := [], harness := (true, "41bebb2bd5c83c06bd092eec4356906b1311cabacca883ad290effb75a6b08fd"), looks := false }, kinds := [], alts := [], laidByText := true, laidKinds := [.data, .data, .data], laidTests := true, laidLooks := .later }
def TableSpoilsCardSaid : Prop := Claim7.holds Tryd.pinned (.plain (OpenSpec.ofChange tableSpoilsSpec)) tableSpoilsCard

/-- THE TIED CARD OF 'sixdotlaw02.TableCounts'. -/
def tableCountsCard : Claim7 := { stood := { row := tableCountsRow, standIns := [], harness := (true, "41bebb2bd5c83c06bd092eec4356906b1311cabacca883ad290effb75a6b08fd"), looks := false }, kinds := [], alts := [], laidByText := true, laidKinds := [.data, .data, .data], laidTests := true, laidLooks := .later }
def TableCountsCardSaid : Prop := Claim7.holds Tryd.pinned (.plain (OpenSpec.ofChange tableCountsSpec)) tableCountsCard

/-- THE TIED CARD OF 'sixdotlaw02.TableRoundTrips'. -/
def tableRoundTripsCard : Claim7 := { stood := { row := tableRoundTripsRow, standIns := [], harness := (true, "41bebb2bd5c83c06bd092eec4356906b1311cabacca883ad290effb75a6b08fd"), looks := false }, kinds := [], alts := [], laidByText := true, laidKinds := [.data, .data, .data], laidTests := true, laidLooks := .later }
def TableRoundTripsCardSaid : Prop := Claim7.holds Tryd.pinned (.plain (OpenSpec.ofChange tableRoundTripsSpec)) tableRoundTripsCard

/-- THE SECOND FORM's CARD OF 'sixdotlaw02.TableTexts'. -/
def tableTextsUptoCard : Claim7 := { stood := { row := tableTextsUptoRow, standIns := [], harness := (true, "41bebb2bd5c83c06bd092eec4356906b1311cabacca883ad290effb75a6b08fd"), looks := false }, kinds := [], alts := [], laidByText := true, laidKinds := [.data, .data, .data], laidTests := true, laidLooks := .later }
def TableTextsUptoCardSaid : Prop := Claim7.holds Tryd.pinned (.plain (OpenSpec.upto tableTextsSpec)) tableTextsUptoCard

/-- THE SECOND FORM's CARD OF 'sixdotlaw02.TableCleanWords'. -/
def tableCleanWordsUptoCard : Claim7 := { stood := { row := tableCleanWordsUptoRow, standIns := [], harness := (true, "41bebb2bd5c83c06bd092eec4356906b1311cabacca883ad290effb75a6b08fd"), looks := false }, kinds := [], alts := [], laidByText := true, laidKinds := [.data, .data, .data], laidTests := true, laidLooks := .later }
def TableCleanWordsUptoCardSaid : Prop := Claim7.holds Tryd.pinned (.plain (OpenSpec.upto tableCleanWordsSpec)) tableCleanWordsUptoCard

/-- THE SECOND FORM's CARD OF 'sixdotlaw02.TableChecks'. -/
def tableChecksUptoCard : Claim7 := { stood := { row := tableChecksUptoRow, standIns := [], harness := (true, "41bebb2bd5c83c06bd092eec4356906b1311cabacca883ad290effb75a6b08fd"), looks := false }, kinds := [], alts := [], laidByText := true, laidKinds := [.data, .data, .data], laidTests := true, laidLooks := .later }
def TableChecksUptoCardSaid : Prop := Claim7.holds Tryd.pinned (.plain (OpenSpec.upto tableChecksSpec)) tableChecksUptoCard

/-- THE SECOND FORM's CARD OF 'sixdotlaw02.TableSpoils'. -/
def tableSpoilsUptoCard : Claim7 := { stood := { row := tableSpoilsUptoRow, standIns := [], harness := (true, "41bebb2bd5c83c06bd092eec4356906b1311cabacca883ad290effb75a6b08fd"), looks := false }, kinds := [], alts := [], laidByText := true, laidKinds := [.data, .data, .data], laidTests := true, laidLooks := .later }
def TableSpoilsUptoCardSaid : Prop := Claim7.holds Tryd.pinned (.plain (OpenSpec.upto tableSpoilsSpec)) tableSpoilsUptoCard

/-- THE SECOND FORM's CARD OF 'sixdotlaw02.TableCounts'. -/
def tableCountsUptoCard : Claim7 := { stood := { row := tableCountsUptoRow, standIns := [], harness := (true, "41bebb2bd5c83c06bd092eec4356906b1311cabacca883ad290effb75a6b08fd"), looks := false }, kinds := [], alts := [], laidByText := true, laidKinds := [.data, .data, .data], laidTests := true, laidLooks := .later }
def TableCountsUptoCardSaid : Prop := Claim7.holds Tryd.pinned (.plain (OpenSpec.upto tableCountsSpec)) tableCountsUptoCard

/-- THE SECOND FORM's CARD OF 'sixdotlaw02.TableRoundTrips'. -/
def tableRoundTripsUptoCard : Claim7 := { stood := { row := tableRoundTripsUptoRow, standIns := [], harness := (true, "41bebb2bd5c83c06bd092eec4356906b1311cabacca883ad290effb75a6b08fd"), looks := false }, kinds := [], alts := [], laidByText := true, laidKinds := [.data, .data, .data], laidTests := true, laidLooks := .later }
def TableRoundTripsUptoCardSaid : Prop := Claim7.holds Tryd.pinned (.plain (OpenSpec.upto tableRoundTripsSpec)) tableRoundTripsUptoCard
end Rows
end Go.Proofs.YtlhpkjgpcenfdaaDoor
