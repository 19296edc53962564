/-
  DERIVED. GIVEN WITH THE SEED: THE CARDS: each row of YtioockkejhpleaaDoorRows.lean that lists a variable, with what it lists TIED to the program's text (the seventh form; the later family's looks); each row that meets fmt, with fmt's text TOLD by the authors' own Lean function (tested against real Go, not proved from fmt's source: count such statements apart). THE CARD IS WHAT COUNTS. Prove the row's statement (the work); the ties are given (YtioockkejhpleaaDoorTie.lean); close each card by the builder's one call (the guide's Derived/Test/ToyasCard.lean, 'card_holds'). Laid BY PROGRAM, IN A SANDBOX (cutbox-door.mjs). By AI agents, Wed Nov 11 2026. No macro, syntax, notation, axiom, sorry.
-/
import Derived.Test.YtioockkejhpleaaDoorRows
import GoSem.ClaimSeven
namespace Go.Proofs.YtioockkejhpleaaDoor
namespace Rows

/-- THE TIED CARD OF 'sixdotlaw11.SpatialMatchesReference'. -/
def spatialMatchesReferenceCard : Claim7 := { stood := { row := spatialMatchesReferenceRow, standIns := [], harness := (true, "973b28c4418e9d17035deaca3b2e119a48652969e06ee4d2ce1f1214707309ab"), looks := false }, kinds := [], alts := [], laidByText := true, laidKinds := [.data], laidTests := true, laidLooks := .later }
def SpatialMatchesReferenceCardSaid : Prop := Claim7.holds Tryd.pinned (.plain (OpenSpec.ofChange spatialMatchesReferenceSpec)) spatialMatchesReferenceCard

/-- THE TIED CARD OF 'sixdotlaw11.SpatialForm'. -/
def spatialFormCard : Claim7 := { stood := { row := spatialFormRow, standIns := [], harness := (true, "973b28c4418e9d17035deaca3b2e119a48652969e06ee4d2ce1f1214707309ab"), looks := false }, kinds := [], alts := [], laidByText := true, laidKinds := [.data], laidTests := true, laidLooks := .later }
def SpatialFormCardSaid : Prop := Claim7.holds Tryd.pinned (.plain (OpenSpec.ofChange spatialFormSpec)) spatialFormCard

/-- THE TIED CARD OF 'sixdotlaw11.SpatialDiffers'. -/
def spatialDiffersCard : Claim7 := { stood := { row := spatialDiffersRow, standIns := [], harness := (true, "973b28c4418e9d17035deaca3b2e119a48652969e06ee4d2ce1f1214707309ab"), looks := false }, kinds := [], alts := [], laidByText := true, laidKinds := [.data], laidTests := true, laidLooks := .later }
def SpatialDiffersCardSaid : Prop := Claim7.holds Tryd.pinned (.plain (OpenSpec.ofChange spatialDiffersSpec)) spatialDiffersCard

/-- THE TIED CARD OF 'sixdotlaw11.SpatialLimits'. -/
def spatialLimitsCard : Claim7 := { stood := { row := spatialLimitsRow, standIns := [], harness := (true, "973b28c4418e9d17035deaca3b2e119a48652969e06ee4d2ce1f1214707309ab"), looks := false }, kinds := [], alts := [], laidByText := true, laidKinds := [.data], laidTests := true, laidLooks := .later }
def SpatialLimitsCardSaid : Prop := Claim7.holds Tryd.pinned (.plain (OpenSpec.ofChange spatialLimitsSpec)) spatialLimitsCard

/-- THE SECOND FORM's CARD OF 'sixdotlaw11.SpatialMatchesReference'. -/
def spatialMatchesReferenceUptoCard : Claim7 := { stood := { row := spatialMatchesReferenceUptoRow, standIns := [], harness := (true, "973b28c4418e9d17035deaca3b2e119a48652969e06ee4d2ce1f1214707309ab"), looks := false }, kinds := [], alts := [], laidByText := true, laidKinds := [.data], laidTests := true, laidLooks := .later }
def SpatialMatchesReferenceUptoCardSaid : Prop := Claim7.holds Tryd.pinned (.plain (OpenSpec.upto spatialMatchesReferenceSpec)) spatialMatchesReferenceUptoCard

/-- THE SECOND FORM's CARD OF 'sixdotlaw11.SpatialForm'. -/
def spatialFormUptoCard : Claim7 := { stood := { row := spatialFormUptoRow, standIns := [], harness := (true, "973b28c4418e9d17035deaca3b2e119a48652969e06ee4d2ce1f1214707309ab"), looks := false }, kinds := [], alts := [], laidByText := true, laidKinds := [.data], laidTests := true, laidLooks := .later }
def SpatialFormUptoCardSaid : Prop := Claim7.holds Tryd.pinned (.plain (OpenSpec.upto spatialFormSpec)) spatialFormUptoCard

/-- THE SECOND FORM's CARD OF 'sixdotlaw11.SpatialDiffers'. -/
def spatialDiffersUptoCard : Claim7 := { stood := { row := spatialDiffersUptoRow, standIns := [], harness := (true, "973b28c4418e9d17035deaca3b2e119a48652969e06ee4d2ce1f1214707309ab"), looks := false }, kinds := [], alts := [], laidByText := true, laidKinds := [.data], laidTests := true, laidLooks := .later }
def SpatialDiffersUptoCardSaid : Prop := Claim7.holds Tryd.pinned (.plain (OpenSpec.upto spatialDiffersSpec)) spatialDiffersUptoCard

/-- THE SECOND FORM's CARD OF 'sixdotlaw11.SpatialLimits'. -/
def spatialLimitsUptoCard : Claim7 := { stood := { row := spatialLimitsUptoRow, standIns := [], harness := (true, "973b28c4418e9d17035deaca3b2e119a48652969e06ee4d2ce1f1214707309ab"), looks := false }, kinds := [], alts := [], laidByText := true, laidKinds := [.data], laidTests := true, laidLooks := .later }
def SpatialLimitsUptoCardSaid : Prop := Claim7.holds Tryd.pinned (.plain (OpenSpec.upto spatialLimitsSpec)) spatialLimitsUptoCard
end Rows
end Go.Proofs.YtioockkejhpleaaDoor
