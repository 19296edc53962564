/-
  NARROWER THAN 'FOR EVERY INPUT', by the rows' own cells (each row's printed sentence says how): SpatialMatchesReference: laid · SpatialForm: laid · SpatialDiffers: laid · SpatialLimits: laid.
  DERIVED. THE GIVEN ROWS OF THIS SEAT. 4 by the template 'for every input the law returns true; each argument reads behind the call as it read before'; 0 by the template 'total and deterministic' (their statements: YtioockkejhpleaaDoorTotals.lean).
  GIVEN WITH THE SEED: the statements are not yours to turn. If you find one false, say at which input.
  Laid BY PROGRAM, IN A SANDBOX (cutbox-rows.mjs): the forced cells as the released guide's own fill.sh prints them over the translation d35eb6138f14f321… (all of the seat's roots in one cut). By AI agents, Wed Nov 11 2026. No macro, syntax, notation, axiom, sorry.
-/
import Derived.Test.YtioockkejhpleaaDoorChecked
import GoSem.Claim
import GoSem.ClaimJoined
import GoSem.ClaimMapViews
import Derived.JoinedTies
import Derived.KernelRfl
namespace Go.Proofs.YtioockkejhpleaaDoor
/- THE CELL 'sum', in the pinned program and in every row, IS THE sha256 OF THE DUMP (.gsa) THAT YtioockkejhpleaaDoorProg.lean LOADS. Nothing in Lean hashes anything: it is a label: what it is worth is what the hold of that sum in a sandbox is worth. -/
noncomputable def Tryd.pinned : Pinned := { name := "ytioockkejhpleaadoor", sum := "d35eb6138f14f3215df24a17ac2844a40e36b81f62c315739372b7cbba468133", checked := Tryd.checked }
namespace Rows
def none {H : Type} : Left H := { results := [], args := [] }

/- WHAT THE LISTED PACKAGE-LEVEL VARIABLES READ AS WHEN THE CALL BEGINS. Each datum BY PROGRAM (the guide's laid-datum.mjs) off the statement by which the dump's own 'gosem.cut.vars' lays the variable. In a bare row this is a premise. The card (YtioockkejhpleaaDoorCards.lean) ties it to the program's text. -/
def laid_sixdot_linear_letters {H : Type} : DataW H := .agg [.lit (.int .u8 1), .lit (.int .u8 3), .lit (.int .u8 9), .lit (.int .u8 25), .lit (.int .u8 17), .lit (.int .u8 11), .lit (.int .u8 27), .lit (.int .u8 19), .lit (.int .u8 10), .lit (.int .u8 26), .lit (.int .u8 5), .lit (.int .u8 7), .lit (.int .u8 13), .lit (.int .u8 29), .lit (.int .u8 21), .lit (.int .u8 15), .lit (.int .u8 31), .lit (.int .u8 23), .lit (.int .u8 14), .lit (.int .u8 30), .lit (.int .u8 37), .lit (.int .u8 39), .lit (.int .u8 58), .lit (.int .u8 45), .lit (.int .u8 61), .lit (.int .u8 53)]

/-- 'sixdotlaw11.SpatialMatchesReference': WHATEVER THE INPUT: true; the input reads as it did. -/
def spatialMatchesReferenceSpec : ChangeSpec := { name := "spatialMatchesReference", fn := fun _ => fun
  | [d1, d2] => { results := [.lit (.bool true)], args := [d1, d2] }
  | _ => none }
def spatialMatchesReferenceRow : OpenClaim := { program := "ytioockkejhpleaadoor", sum := "d35eb6138f14f3215df24a17ac2844a40e36b81f62c315739372b7cbba468133", func := "sixdot/sixdotlaw11.SpatialMatchesReference", spec := "spatialMatchesReference", unfollowed := true, recurses := true, named := ["sixdot/linear.letters"], apart := false, laid := [("sixdot/linear.letters", laid_sixdot_linear_letters)] }
def SpatialMatchesReferenceSaid : Prop := spatialMatchesReferenceRow.holds Tryd.pinned (OpenSpec.ofChange spatialMatchesReferenceSpec)

/-- ITS FALSE NEIGHBOUR: 'it returns false'. Refute it at one input. -/
def spatialMatchesReferenceWrong : ChangeSpec := { name := "spatialMatchesReference", fn := fun _ => fun
  | [d1, d2] => { results := [.lit (.bool false)], args := [d1, d2] }
  | _ => none }
def SpatialMatchesReferenceWrongFalsely : Prop := spatialMatchesReferenceRow.holds Tryd.pinned (OpenSpec.ofChange spatialMatchesReferenceWrong)

/-- 'sixdotlaw11.SpatialForm': WHATEVER THE INPUT: true; the input reads as it did. -/
def spatialFormSpec : ChangeSpec := { name := "spatialForm", fn := fun _ => fun
  | [d] => { results := [.lit (.bool true)], args := [d] }
  | _ => none }
def spatialFormRow : OpenClaim := { program := "ytioockkejhpleaadoor", sum := "d35eb6138f14f3215df24a17ac2844a40e36b81f62c315739372b7cbba468133", func := "sixdot/sixdotlaw11.SpatialForm", spec := "spatialForm", unfollowed := true, recurses := true, named := ["sixdot/linear.letters"], apart := false, laid := [("sixdot/linear.letters", laid_sixdot_linear_letters)] }
def SpatialFormSaid : Prop := spatialFormRow.holds Tryd.pinned (OpenSpec.ofChange spatialFormSpec)

/-- ITS FALSE NEIGHBOUR: 'it returns false'. Refute it at one input. -/
def spatialFormWrong : ChangeSpec := { name := "spatialForm", fn := fun _ => fun
  | [d] => { results := [.lit (.bool false)], args := [d] }
  | _ => none }
def SpatialFormWrongFalsely : Prop := spatialFormRow.holds Tryd.pinned (OpenSpec.ofChange spatialFormWrong)

/-- 'sixdotlaw11.SpatialDiffers': WHATEVER THE INPUT: true; the input reads as it did. -/
def spatialDiffersSpec : ChangeSpec := { name := "spatialDiffers", fn := fun _ => fun
  | [d1, d2, d3] => { results := [.lit (.bool true)], args := [d1, d2, d3] }
  | _ => none }
def spatialDiffersRow : OpenClaim := { program := "ytioockkejhpleaadoor", sum := "d35eb6138f14f3215df24a17ac2844a40e36b81f62c315739372b7cbba468133", func := "sixdot/sixdotlaw11.SpatialDiffers", spec := "spatialDiffers", unfollowed := true, recurses := true, named := ["sixdot/linear.letters"], apart := false, laid := [("sixdot/linear.letters", laid_sixdot_linear_letters)] }
def SpatialDiffersSaid : Prop := spatialDiffersRow.holds Tryd.pinned (OpenSpec.ofChange spatialDiffersSpec)

/-- ITS FALSE NEIGHBOUR: 'it returns false'. Refute it at one input. -/
def spatialDiffersWrong : ChangeSpec := { name := "spatialDiffers", fn := fun _ => fun
  | [d1, d2, d3] => { results := [.lit (.bool false)], args := [d1, d2, d3] }
  | _ => none }
def SpatialDiffersWrongFalsely : Prop := spatialDiffersRow.holds Tryd.pinned (OpenSpec.ofChange spatialDiffersWrong)

/-- 'sixdotlaw11.SpatialLimits': WHATEVER THE INPUT: true; the input reads as it did. -/
def spatialLimitsSpec : ChangeSpec := { name := "spatialLimits", fn := fun _ => fun
  | [d1, d2, d3] => { results := [.lit (.bool true)], args := [d1, d2, d3] }
  | _ => none }
def spatialLimitsRow : OpenClaim := { program := "ytioockkejhpleaadoor", sum := "d35eb6138f14f3215df24a17ac2844a40e36b81f62c315739372b7cbba468133", func := "sixdot/sixdotlaw11.SpatialLimits", spec := "spatialLimits", unfollowed := true, recurses := true, named := ["sixdot/linear.letters"], apart := false, laid := [("sixdot/linear.letters", laid_sixdot_linear_letters)] }
def SpatialLimitsSaid : Prop := spatialLimitsRow.holds Tryd.pinned (OpenSpec.ofChange spatialLimitsSpec)

/-- ITS FALSE NEIGHBOUR: 'it returns false'. Refute it at one input. -/
def spatialLimitsWrong : ChangeSpec := { name := "spatialLimits", fn := fun _ => fun
  | [d1, d2, d3] => { results := [.lit (.bool false)], args := [d1, d2, d3] }
  | _ => none }
def SpatialLimitsWrongFalsely : Prop := spatialLimitsRow.holds Tryd.pinned (OpenSpec.ofChange spatialLimitsWrong)

/- THE SECOND FORM. 'bulk': how many values and letters a reading holds, each counted each time it is reached (what is shared counts as often as it is met; a slice's spare places count too). A statement '..UptoSaid' is the law's where the arguments, and the package variables that the reading takes, are together of bulk at most 1048576: NARROWER than '..Said'. Prove '..Said' where nothing that the law and all that it calls make is longer than what came in: it says more and counts as full. Else prove '..UptoSaid'. A law counts once. -/
mutual
def uptoBulk {H : Type} : DataW H → Nat
  | .lit (.string bytes) => bytes.length + 1
  | .lit _ => 1
  | .nil => 1
  | .ptr d => uptoBulk d + 1
  | .slice elems spare => uptoBulkAll elems + uptoBulkAll spare + 1
  | .agg parts => uptoBulkAll parts + 1
  | .iface _ d => uptoBulk d + 1
  | .map entries => uptoBulkEntries entries + 1
  | .held _ => 1
def uptoBulkAll {H : Type} : List (DataW H) → Nat
  | [] => 0
  | d :: r => uptoBulk d + uptoBulkAll r
def uptoBulkEntries {H : Type} : List (Lit × DataW H) → Nat
  | [] => 0
  | x :: r => uptoBulkEntry x + uptoBulkEntries r
def uptoBulkEntry {H : Type} : Lit × DataW H → Nat
  | (.string bytes, d) => bytes.length + uptoBulk d + 1
  | (_, d) => uptoBulk d + 1
 end
def uptoSmall : (H : Type) → List (DataW H) → Bool := fun _ ds => decide (uptoBulkAll ds ≤ 1048576)
def OpenSpec.upto (s : _root_.Go.ChangeSpec) : _root_.Go.OpenSpec := { _root_.Go.OpenSpec.ofChange s with cond := some uptoSmall }

/-- 'sixdotlaw11.SpatialMatchesReference', WHERE WHAT IT READS IS OF BULK AT MOST 1048576: true; the input reads as it did. -/
def spatialMatchesReferenceUptoRow : OpenClaim := { program := "ytioockkejhpleaadoor", sum := "d35eb6138f14f3215df24a17ac2844a40e36b81f62c315739372b7cbba468133", func := "sixdot/sixdotlaw11.SpatialMatchesReference", spec := "spatialMatchesReference", unfollowed := true, recurses := true, named := ["sixdot/linear.letters"], apart := false, laid := [("sixdot/linear.letters", laid_sixdot_linear_letters)], narrowed := true }
def SpatialMatchesReferenceUptoSaid : Prop := spatialMatchesReferenceUptoRow.holds Tryd.pinned (OpenSpec.upto spatialMatchesReferenceSpec)

/-- 'sixdotlaw11.SpatialForm', WHERE WHAT IT READS IS OF BULK AT MOST 1048576: true; the input reads as it did. -/
def spatialFormUptoRow : OpenClaim := { program := "ytioockkejhpleaadoor", sum := "d35eb6138f14f3215df24a17ac2844a40e36b81f62c315739372b7cbba468133", func := "sixdot/sixdotlaw11.SpatialForm", spec := "spatialForm", unfollowed := true, recurses := true, named := ["sixdot/linear.letters"], apart := false, laid := [("sixdot/linear.letters", laid_sixdot_linear_letters)], narrowed := true }
def SpatialFormUptoSaid : Prop := spatialFormUptoRow.holds Tryd.pinned (OpenSpec.upto spatialFormSpec)

/-- 'sixdotlaw11.SpatialDiffers', WHERE WHAT IT READS IS OF BULK AT MOST 1048576: true; the input reads as it did. -/
def spatialDiffersUptoRow : OpenClaim := { program := "ytioockkejhpleaadoor", sum := "d35eb6138f14f3215df24a17ac2844a40e36b81f62c315739372b7cbba468133", func := "sixdot/sixdotlaw11.SpatialDiffers", spec := "spatialDiffers", unfollowed := true, recurses := true, named := ["sixdot/linear.letters"], apart := false, laid := [("sixdot/linear.letters", laid_sixdot_linear_letters)], narrowed := true }
def SpatialDiffersUptoSaid : Prop := spatialDiffersUptoRow.holds Tryd.pinned (OpenSpec.upto spatialDiffersSpec)

/-- 'sixdotlaw11.SpatialLimits', WHERE WHAT IT READS IS OF BULK AT MOST 1048576: true; the input reads as it did. -/
def spatialLimitsUptoRow : OpenClaim := { program := "ytioockkejhpleaadoor", sum := "d35eb6138f14f3215df24a17ac2844a40e36b81f62c315739372b7cbba468133", func := "sixdot/sixdotlaw11.SpatialLimits", spec := "spatialLimits", unfollowed := true, recurses := true, named := ["sixdot/linear.letters"], apart := false, laid := [("sixdot/linear.letters", laid_sixdot_linear_letters)], narrowed := true }
def SpatialLimitsUptoSaid : Prop := spatialLimitsUptoRow.holds Tryd.pinned (OpenSpec.upto spatialLimitsSpec)

end Rows
end Go.Proofs.YtioockkejhpleaaDoor
