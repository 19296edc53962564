/-
  No cell of these rows narrows 'for every input' (looked for: loops, veiled, ifaces, maps, wideKeys, modest, calm, conditions, laid).
  DERIVED. THE GIVEN ROWS OF THIS SEAT. 6 by the template 'for every input the law returns true; each argument reads behind the call as it read before'; 0 by the template 'total and deterministic' (their statements: YthfdgicfcjkfgaaTotals.lean).
  GIVEN WITH THE SEED: the statements are not yours to turn. If you find one false, say at which input.
  Laid BY PROGRAM, IN A SANDBOX (cutbox-rows.mjs): the forced cells as the released guide's own fill.sh prints them over the translation 56c849866c99fc4e… (all of the seat's roots in one cut). By AI agents, Wed Nov 11 2026. No macro, syntax, notation, axiom, sorry.
-/
import Derived.Test.YthfdgicfcjkfgaaChecked
import GoSem.Claim
import GoSem.ClaimJoined
import GoSem.ClaimMapViews
import Derived.JoinedTies
import Derived.KernelRfl
namespace Go.Proofs.Ythfdgicfcjkfgaa
/- THE CELL 'sum', in the pinned program and in every row, IS THE sha256 OF THE DUMP (.gsa) THAT YthfdgicfcjkfgaaProg.lean LOADS. Nothing in Lean hashes anything: it is a label: what it is worth is what the hold of that sum in a sandbox is worth. -/
noncomputable def Try.pinned : Pinned := { name := "ythfdgicfcjkfgaa", sum := "56c849866c99fc4e2ba08128d15a2285ae47416e596b981021569f9546cd2580", checked := Try.checked }
namespace Rows
def none {H : Type} : Left H := { results := [], args := [] }

/-- 'sixdotlaw21.PageMatchesReference': WHATEVER THE INPUT: true; the input reads as it did. -/
def pageMatchesReferenceSpec : ChangeSpec := { name := "pageMatchesReference", fn := fun _ => fun
  | [d1, d2, d3] => { results := [.lit (.bool true)], args := [d1, d2, d3] }
  | _ => none }
def pageMatchesReferenceRow : OpenClaim := { program := "ythfdgicfcjkfgaa", sum := "56c849866c99fc4e2ba08128d15a2285ae47416e596b981021569f9546cd2580", func := "sixdot/sixdotlaw21.PageMatchesReference", spec := "pageMatchesReference", apart := false }
def PageMatchesReferenceSaid : Prop := pageMatchesReferenceRow.holds Try.pinned (OpenSpec.ofChange pageMatchesReferenceSpec)

/-- ITS FALSE NEIGHBOUR: 'it returns false'. Refute it at one input. -/
def pageMatchesReferenceWrong : ChangeSpec := { name := "pageMatchesReference", fn := fun _ => fun
  | [d1, d2, d3] => { results := [.lit (.bool false)], args := [d1, d2, d3] }
  | _ => none }
def PageMatchesReferenceWrongFalsely : Prop := pageMatchesReferenceRow.holds Try.pinned (OpenSpec.ofChange pageMatchesReferenceWrong)

/-- 'sixdotlaw21.PageFills': WHATEVER THE INPUT: true; the input reads as it did. -/
def pageFillsSpec : ChangeSpec := { name := "pageFills", fn := fun _ => fun
  | [d1, d2] => { results := [.lit (.bool true)], args := [d1, d2] }
  | _ => none }
def pageFillsRow : OpenClaim := { program := "ythfdgicfcjkfgaa", sum := "56c849866c99fc4e2ba08128d15a2285ae47416e596b981021569f9546cd2580", func := "sixdot/sixdotlaw21.PageFills", spec := "pageFills", apart := false }
def PageFillsSaid : Prop := pageFillsRow.holds Try.pinned (OpenSpec.ofChange pageFillsSpec)

/-- ITS FALSE NEIGHBOUR: 'it returns false'. Refute it at one input. -/
def pageFillsWrong : ChangeSpec := { name := "pageFills", fn := fun _ => fun
  | [d1, d2] => { results := [.lit (.bool false)], args := [d1, d2] }
  | _ => none }
def PageFillsWrongFalsely : Prop := pageFillsRow.holds Try.pinned (OpenSpec.ofChange pageFillsWrong)

/-- 'sixdotlaw21.PageSteps': WHATEVER THE INPUT: true; the input reads as it did. -/
def pageStepsSpec : ChangeSpec := { name := "pageSteps", fn := fun _ => fun
  | [d1, d2, d3] => { results := [.lit (.bool true)], args := [d1, d2, d3] }
  | _ => none }
def pageStepsRow : OpenClaim := { program := "ythfdgicfcjkfgaa", sum := "56c849866c99fc4e2ba08128d15a2285ae47416e596b981021569f9546cd2580", func := "sixdot/sixdotlaw21.PageSteps", spec := "pageSteps", apart := false }
def PageStepsSaid : Prop := pageStepsRow.holds Try.pinned (OpenSpec.ofChange pageStepsSpec)

/-- ITS FALSE NEIGHBOUR: 'it returns false'. Refute it at one input. -/
def pageStepsWrong : ChangeSpec := { name := "pageSteps", fn := fun _ => fun
  | [d1, d2, d3] => { results := [.lit (.bool false)], args := [d1, d2, d3] }
  | _ => none }
def PageStepsWrongFalsely : Prop := pageStepsRow.holds Try.pinned (OpenSpec.ofChange pageStepsWrong)

/-- 'sixdotlaw21.PageHeights': WHATEVER THE INPUT: true; the input reads as it did. -/
def pageHeightsSpec : ChangeSpec := { name := "pageHeights", fn := fun _ => fun
  | [d1, d2, d3] => { results := [.lit (.bool true)], args := [d1, d2, d3] }
  | _ => none }
def pageHeightsRow : OpenClaim := { program := "ythfdgicfcjkfgaa", sum := "56c849866c99fc4e2ba08128d15a2285ae47416e596b981021569f9546cd2580", func := "sixdot/sixdotlaw21.PageHeights", spec := "pageHeights", apart := false }
def PageHeightsSaid : Prop := pageHeightsRow.holds Try.pinned (OpenSpec.ofChange pageHeightsSpec)

/-- ITS FALSE NEIGHBOUR: 'it returns false'. Refute it at one input. -/
def pageHeightsWrong : ChangeSpec := { name := "pageHeights", fn := fun _ => fun
  | [d1, d2, d3] => { results := [.lit (.bool false)], args := [d1, d2, d3] }
  | _ => none }
def PageHeightsWrongFalsely : Prop := pageHeightsRow.holds Try.pinned (OpenSpec.ofChange pageHeightsWrong)

/-- 'sixdotlaw21.PageParts': WHATEVER THE INPUT: true; the input reads as it did. -/
def pagePartsSpec : ChangeSpec := { name := "pageParts", fn := fun _ => fun
  | [d1, d2, d3] => { results := [.lit (.bool true)], args := [d1, d2, d3] }
  | _ => none }
def pagePartsRow : OpenClaim := { program := "ythfdgicfcjkfgaa", sum := "56c849866c99fc4e2ba08128d15a2285ae47416e596b981021569f9546cd2580", func := "sixdot/sixdotlaw21.PageParts", spec := "pageParts", apart := false }
def PagePartsSaid : Prop := pagePartsRow.holds Try.pinned (OpenSpec.ofChange pagePartsSpec)

/-- ITS FALSE NEIGHBOUR: 'it returns false'. Refute it at one input. -/
def pagePartsWrong : ChangeSpec := { name := "pageParts", fn := fun _ => fun
  | [d1, d2, d3] => { results := [.lit (.bool false)], args := [d1, d2, d3] }
  | _ => none }
def PagePartsWrongFalsely : Prop := pagePartsRow.holds Try.pinned (OpenSpec.ofChange pagePartsWrong)

/-- 'sixdotlaw21.PageGrows': WHATEVER THE INPUT: true; the input reads as it did. -/
def pageGrowsSpec : ChangeSpec := { name := "pageGrows", fn := fun _ => fun
  | [d1, d2, d3] => { results := [.lit (.bool true)], args := [d1, d2, d3] }
  | _ => none }
def pageGrowsRow : OpenClaim := { program := "ythfdgicfcjkfgaa", sum := "56c849866c99fc4e2ba08128d15a2285ae47416e596b981021569f9546cd2580", func := "sixdot/sixdotlaw21.PageGrows", spec := "pageGrows", apart := false }
def PageGrowsSaid : Prop := pageGrowsRow.holds Try.pinned (OpenSpec.ofChange pageGrowsSpec)

/-- ITS FALSE NEIGHBOUR: 'it returns false'. Refute it at one input. -/
def pageGrowsWrong : ChangeSpec := { name := "pageGrows", fn := fun _ => fun
  | [d1, d2, d3] => { results := [.lit (.bool false)], args := [d1, d2, d3] }
  | _ => none }
def PageGrowsWrongFalsely : Prop := pageGrowsRow.holds Try.pinned (OpenSpec.ofChange pageGrowsWrong)

/- THE SECOND FORM. 'bulk': how many values and letters a reading holds, each counted each time it is reached (what is shared counts as often as it is met; a slice's spare places count too). A statement '..UptoSaid' is the law's where the arguments, and the package variables that the reading takes, are together of bulk at most 1048576: NARROWER than '..Said'. Prove '..Said' where nothing that the law and all that it calls make is longer than what came in: it says more and counts as full. Else prove '..UptoSaid'. A law counts once. -/
mutual
def uptoBulk {H : Type} : DataW H → Nat
  | .lit (.string bytes) => bytes.length + 1
  | .lit _ => 1
  | .nil => 1
  | .ptr d => uptoBulk d + 1
  | .slice elems spare => uptoBulkAll elems + uptoBulkAll spare + 1
  | .agg parts => uptoBulkAll parts + 1
  | .iface _ d => uptoBulk d + 1
  | .map entries => uptoBulkEntries entries + 1
  | .held _ => 1
def uptoBulkAll {H : Type} : List (DataW H) → Nat
  | [] => 0
  | d :: r => uptoBulk d + uptoBulkAll r
def uptoBulkEntries {H : Type} : List (Lit × DataW H) → Nat
  | [] => 0
  | x :: r => uptoBulkEntry x + uptoBulkEntries r
def uptoBulkEntry {H : Type} : Lit × DataW H → Nat
  | (.string bytes, d) => bytes.length + uptoBulk d + 1
  | (_, d) => uptoBulk d + 1
 end
def uptoSmall : (H : Type) → List (DataW H) → Bool := fun _ ds => decide (uptoBulkAll ds ≤ 1048576)
def OpenSpec.upto (s : _root_.Go.ChangeSpec) : _root_.Go.OpenSpec := { _root_.Go.OpenSpec.ofChange s with cond := some uptoSmall }

/-- 'sixdotlaw21.PageMatchesReference', WHERE WHAT IT READS IS OF BULK AT MOST 1048576: true; the input reads as it did. -/
def pageMatchesReferenceUptoRow : OpenClaim := { program := "ythfdgicfcjkfgaa", sum := "56c849866c99fc4e2ba08128d15a2285ae47416e596b981021569f9546cd2580", func := "sixdot/sixdotlaw21.PageMatchesReference", spec := "pageMatchesReference", apart := false, narrowed := true }
def PageMatchesReferenceUptoSaid : Prop := pageMatchesReferenceUptoRow.holds Try.pinned (OpenSpec.upto pageMatchesReferenceSpec)

/-- 'sixdotlaw21.PageFills', WHERE WHAT IT READS IS OF BULK AT MOST 1048576: true; the input reads as it did. -/
def pageFillsUptoRow : OpenClaim := { program := "ythfdgicfcjkfgaa", sum := "56c849866c99fc4e2ba08128d15a2285ae47416e596b981021569f9546cd2580", func := "sixdot/sixdotlaw21.PageFills", spec := "pageFills", apart := false, narrowed := true }
def PageFillsUptoSaid : Prop := pageFillsUptoRow.holds Try.pinned (OpenSpec.upto pageFillsSpec)

/-- 'sixdotlaw21.PageSteps', WHERE WHAT IT READS IS OF BULK AT MOST 1048576: true; the input reads as it did. -/
def pageStepsUptoRow : OpenClaim := { program := "ythfdgicfcjkfgaa", sum := "56c849866c99fc4e2ba08128d15a2285ae47416e596b981021569f9546cd2580", func := "sixdot/sixdotlaw21.PageSteps", spec := "pageSteps", apart := false, narrowed := true }
def PageStepsUptoSaid : Prop := pageStepsUptoRow.holds Try.pinned (OpenSpec.upto pageStepsSpec)

/-- 'sixdotlaw21.PageHeights', WHERE WHAT IT READS IS OF BULK AT MOST 1048576: true; the input reads as it did. -/
def pageHeightsUptoRow : OpenClaim := { program := "ythfdgicfcjkfgaa", sum := "56c849866c99fc4e2ba08128d15a2285ae47416e596b981021569f9546cd2580", func := "sixdot/sixdotlaw21.PageHeights", spec := "pageHeights", apart := false, narrowed := true }
def PageHeightsUptoSaid : Prop := pageHeightsUptoRow.holds Try.pinned (OpenSpec.upto pageHeightsSpec)

/-- 'sixdotlaw21.PageParts', WHERE WHAT IT READS IS OF BULK AT MOST 1048576: true; the input reads as it did. -/
def pagePartsUptoRow : OpenClaim := { program := "ythfdgicfcjkfgaa", sum := "56c849866c99fc4e2ba08128d15a2285ae47416e596b981021569f9546cd2580", func := "sixdot/sixdotlaw21.PageParts", spec := "pageParts", apart := false, narrowed := true }
def PagePartsUptoSaid : Prop := pagePartsUptoRow.holds Try.pinned (OpenSpec.upto pagePartsSpec)

/-- 'sixdotlaw21.PageGrows', WHERE WHAT IT READS IS OF BULK AT MOST 1048576: true; the input reads as it did. -/
def pageGrowsUptoRow : OpenClaim := { program := "ythfdgicfcjkfgaa", sum := "56c849866c99fc4e2ba08128d15a2285ae47416e596b981021569f9546cd2580", func := "sixdot/sixdotlaw21.PageGrows", spec := "pageGrows", apart := false, narrowed := true }
def PageGrowsUptoSaid : Prop := pageGrowsUptoRow.holds Try.pinned (OpenSpec.upto pageGrowsSpec)

end Rows
end Go.Proofs.Ythfdgicfcjkfgaa
