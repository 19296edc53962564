/-
  NARROWER THAN 'FOR EVERY INPUT', by the rows' own cells (each row's printed sentence says how): LinearMatchesReference: laid · LinearReads: laid · LinearPrefixes: laid · LinearChanges: laid · LinearIsClean: laid · LinearLimits: laid.
  DERIVED. THE GIVEN ROWS OF THIS SEAT. 6 by the template 'for every input the law returns true; each argument reads behind the call as it read before'; 0 by the template 'total and deterministic' (their statements: YtfpcbalkioolmaaDoorTotals.lean).
  GIVEN WITH THE SEED: the statements are not yours to turn. If you find one false, say at which input.
  Laid BY PROGRAM, IN A SANDBOX (cutbox-rows.mjs): the forced cells as the released guide's own fill.sh prints them over the translation 7c83746f7e8496be… (all of the seat's roots in one cut). By AI agents, Wed Nov 11 2026. No macro, syntax, notation, axiom, sorry.
-/
import Derived.Test.YtfpcbalkioolmaaDoorChecked
import GoSem.Claim
import GoSem.ClaimJoined
import GoSem.ClaimMapViews
import Derived.JoinedTies
import Derived.KernelRfl
namespace Go.Proofs.YtfpcbalkioolmaaDoor
/- THE CELL 'sum', in the pinned program and in every row, IS THE sha256 OF THE DUMP (.gsa) THAT YtfpcbalkioolmaaDoorProg.lean LOADS. Nothing in Lean hashes anything: it is a label: what it is worth is what the hold of that sum in a sandbox is worth. -/
noncomputable def Tryd.pinned : Pinned := { name := "ytfpcbalkioolmaadoor", sum := "7c83746f7e8496bec19c6b5d9a886684274684fb8d5cea39782ee65fa8ac8bef", checked := Tryd.checked }
namespace Rows
def none {H : Type} : Left H := { results := [], args := [] }

/- WHAT THE LISTED PACKAGE-LEVEL VARIABLES READ AS WHEN THE CALL BEGINS. Each datum BY PROGRAM (the guide's laid-datum.mjs) off the statement by which the dump's own 'gosem.cut.vars' lays the variable. In a bare row this is a premise. The card (YtfpcbalkioolmaaDoorCards.lean) ties it to the program's text. -/
def laid_sixdot_linear_letters {H : Type} : DataW H := .agg [.lit (.int .u8 1), .lit (.int .u8 3), .lit (.int .u8 9), .lit (.int .u8 25), .lit (.int .u8 17), .lit (.int .u8 11), .lit (.int .u8 27), .lit (.int .u8 19), .lit (.int .u8 10), .lit (.int .u8 26), .lit (.int .u8 5), .lit (.int .u8 7), .lit (.int .u8 13), .lit (.int .u8 29), .lit (.int .u8 21), .lit (.int .u8 15), .lit (.int .u8 31), .lit (.int .u8 23), .lit (.int .u8 14), .lit (.int .u8 30), .lit (.int .u8 37), .lit (.int .u8 39), .lit (.int .u8 58), .lit (.int .u8 45), .lit (.int .u8 61), .lit (.int .u8 53)]

/-- 'sixdotlaw10.LinearMatchesReference': WHATEVER THE INPUT: true; the input reads as it did. -/
def linearMatchesReferenceSpec : ChangeSpec := { name := "linearMatchesReference", fn := fun _ => fun
  | [d1, d2, d3] => { results := [.lit (.bool true)], args := [d1, d2, d3] }
  | _ => none }
def linearMatchesReferenceRow : OpenClaim := { program := "ytfpcbalkioolmaadoor", sum := "7c83746f7e8496bec19c6b5d9a886684274684fb8d5cea39782ee65fa8ac8bef", func := "sixdot/sixdotlaw10.LinearMatchesReference", spec := "linearMatchesReference", unfollowed := true, recurses := true, named := ["sixdot/linear.letters"], apart := false, laid := [("sixdot/linear.letters", laid_sixdot_linear_letters)] }
def LinearMatchesReferenceSaid : Prop := linearMatchesReferenceRow.holds Tryd.pinned (OpenSpec.ofChange linearMatchesReferenceSpec)

/-- ITS FALSE NEIGHBOUR: 'it returns false'. Refute it at one input. -/
def linearMatchesReferenceWrong : ChangeSpec := { name := "linearMatchesReference", fn := fun _ => fun
  | [d1, d2, d3] => { results := [.lit (.bool false)], args := [d1, d2, d3] }
  | _ => none }
def LinearMatchesReferenceWrongFalsely : Prop := linearMatchesReferenceRow.holds Tryd.pinned (OpenSpec.ofChange linearMatchesReferenceWrong)

/-- 'sixdotlaw10.LinearReads': WHATEVER THE INPUT: true; the input reads as it did. -/
def linearReadsSpec : ChangeSpec := { name := "linearReads", fn := fun _ => fun
  | [d1, d2] => { results := [.lit (.bool true)], args := [d1, d2] }
  | _ => none }
def linearReadsRow : OpenClaim := { program := "ytfpcbalkioolmaadoor", sum := "7c83746f7e8496bec19c6b5d9a886684274684fb8d5cea39782ee65fa8ac8bef", func := "sixdot/sixdotlaw10.LinearReads", spec := "linearReads", unfollowed := true, recurses := true, named := ["sixdot/linear.letters"], apart := false, laid := [("sixdot/linear.letters", laid_sixdot_linear_letters)] }
def LinearReadsSaid : Prop := linearReadsRow.holds Tryd.pinned (OpenSpec.ofChange linearReadsSpec)

/-- ITS FALSE NEIGHBOUR: 'it returns false'. Refute it at one input. -/
def linearReadsWrong : ChangeSpec := { name := "linearReads", fn := fun _ => fun
  | [d1, d2] => { results := [.lit (.bool false)], args := [d1, d2] }
  | _ => none }
def LinearReadsWrongFalsely : Prop := linearReadsRow.holds Tryd.pinned (OpenSpec.ofChange linearReadsWrong)

/-- 'sixdotlaw10.LinearPrefixes': WHATEVER THE INPUT: true; the input reads as it did. -/
def linearPrefixesSpec : ChangeSpec := { name := "linearPrefixes", fn := fun _ => fun
  | [d] => { results := [.lit (.bool true)], args := [d] }
  | _ => none }
def linearPrefixesRow : OpenClaim := { program := "ytfpcbalkioolmaadoor", sum := "7c83746f7e8496bec19c6b5d9a886684274684fb8d5cea39782ee65fa8ac8bef", func := "sixdot/sixdotlaw10.LinearPrefixes", spec := "linearPrefixes", unfollowed := true, recurses := true, named := ["sixdot/linear.letters"], apart := false, laid := [("sixdot/linear.letters", laid_sixdot_linear_letters)] }
def LinearPrefixesSaid : Prop := linearPrefixesRow.holds Tryd.pinned (OpenSpec.ofChange linearPrefixesSpec)

/-- ITS FALSE NEIGHBOUR: 'it returns false'. Refute it at one input. -/
def linearPrefixesWrong : ChangeSpec := { name := "linearPrefixes", fn := fun _ => fun
  | [d] => { results := [.lit (.bool false)], args := [d] }
  | _ => none }
def LinearPrefixesWrongFalsely : Prop := linearPrefixesRow.holds Tryd.pinned (OpenSpec.ofChange linearPrefixesWrong)

/-- 'sixdotlaw10.LinearChanges': WHATEVER THE INPUT: true; the input reads as it did. -/
def linearChangesSpec : ChangeSpec := { name := "linearChanges", fn := fun _ => fun
  | [d1, d2, d3] => { results := [.lit (.bool true)], args := [d1, d2, d3] }
  | _ => none }
def linearChangesRow : OpenClaim := { program := "ytfpcbalkioolmaadoor", sum := "7c83746f7e8496bec19c6b5d9a886684274684fb8d5cea39782ee65fa8ac8bef", func := "sixdot/sixdotlaw10.LinearChanges", spec := "linearChanges", unfollowed := true, recurses := true, named := ["sixdot/linear.letters"], apart := false, laid := [("sixdot/linear.letters", laid_sixdot_linear_letters)] }
def LinearChangesSaid : Prop := linearChangesRow.holds Tryd.pinned (OpenSpec.ofChange linearChangesSpec)

/-- ITS FALSE NEIGHBOUR: 'it returns false'. Refute it at one input. -/
def linearChangesWrong : ChangeSpec := { name := "linearChanges", fn := fun _ => fun
  | [d1, d2, d3] => { results := [.lit (.bool false)], args := [d1, d2, d3] }
  | _ => none }
def LinearChangesWrongFalsely : Prop := linearChangesRow.holds Tryd.pinned (OpenSpec.ofChange linearChangesWrong)

/-- 'sixdotlaw10.LinearIsClean': WHATEVER THE INPUT: true; the input reads as it did. -/
def linearIsCleanSpec : ChangeSpec := { name := "linearIsClean", fn := fun _ => fun
  | [d] => { results := [.lit (.bool true)], args := [d] }
  | _ => none }
def linearIsCleanRow : OpenClaim := { program := "ytfpcbalkioolmaadoor", sum := "7c83746f7e8496bec19c6b5d9a886684274684fb8d5cea39782ee65fa8ac8bef", func := "sixdot/sixdotlaw10.LinearIsClean", spec := "linearIsClean", unfollowed := true, recurses := true, named := ["sixdot/linear.letters"], apart := false, laid := [("sixdot/linear.letters", laid_sixdot_linear_letters)] }
def LinearIsCleanSaid : Prop := linearIsCleanRow.holds Tryd.pinned (OpenSpec.ofChange linearIsCleanSpec)

/-- ITS FALSE NEIGHBOUR: 'it returns false'. Refute it at one input. -/
def linearIsCleanWrong : ChangeSpec := { name := "linearIsClean", fn := fun _ => fun
  | [d] => { results := [.lit (.bool false)], args := [d] }
  | _ => none }
def LinearIsCleanWrongFalsely : Prop := linearIsCleanRow.holds Tryd.pinned (OpenSpec.ofChange linearIsCleanWrong)

/-- 'sixdotlaw10.LinearLimits': WHATEVER THE INPUT: true; the input reads as it did. -/
def linearLimitsSpec : ChangeSpec := { name := "linearLimits", fn := fun _ => fun
  | [d1, d2] => { results := [.lit (.bool true)], args := [d1, d2] }
  | _ => none }
def linearLimitsRow : OpenClaim := { program := "ytfpcbalkioolmaadoor", sum := "7c83746f7e8496bec19c6b5d9a886684274684fb8d5cea39782ee65fa8ac8bef", func := "sixdot/sixdotlaw10.LinearLimits", spec := "linearLimits", unfollowed := true, recurses := true, named := ["sixdot/linear.letters"], apart := false, laid := [("sixdot/linear.letters", laid_sixdot_linear_letters)] }
def LinearLimitsSaid : Prop := linearLimitsRow.holds Tryd.pinned (OpenSpec.ofChange linearLimitsSpec)

/-- ITS FALSE NEIGHBOUR: 'it returns false'. Refute it at one input. -/
def linearLimitsWrong : ChangeSpec := { name := "linearLimits", fn := fun _ => fun
  | [d1, d2] => { results := [.lit (.bool false)], args := [d1, d2] }
  | _ => none }
def LinearLimitsWrongFalsely : Prop := linearLimitsRow.holds Tryd.pinned (OpenSpec.ofChange linearLimitsWrong)

/- THE SECOND FORM. 'bulk': how many values and letters a reading holds, each counted each time it is reached (what is shared counts as often as it is met; a slice's spare places count too). A statement '..UptoSaid' is the law's where the arguments, and the package variables that the reading takes, are together of bulk at most 1048576: NARROWER than '..Said'. Prove '..Said' where nothing that the law and all that it calls make is longer than what came in: it says more and counts as full. Else prove '..UptoSaid'. A law counts once. -/
mutual
def uptoBulk {H : Type} : DataW H → Nat
  | .lit (.string bytes) => bytes.length + 1
  | .lit _ => 1
  | .nil => 1
  | .ptr d => uptoBulk d + 1
  | .slice elems spare => uptoBulkAll elems + uptoBulkAll spare + 1
  | .agg parts => uptoBulkAll parts + 1
  | .iface _ d => uptoBulk d + 1
  | .map entries => uptoBulkEntries entries + 1
  | .held _ => 1
def uptoBulkAll {H : Type} : List (DataW H) → Nat
  | [] => 0
  | d :: r => uptoBulk d + uptoBulkAll r
def uptoBulkEntries {H : Type} : List (Lit × DataW H) → Nat
  | [] => 0
  | x :: r => uptoBulkEntry x + uptoBulkEntries r
def uptoBulkEntry {H : Type} : Lit × DataW H → Nat
  | (.string bytes, d) => bytes.length + uptoBulk d + 1
  | (_, d) => uptoBulk d + 1
 end
def uptoSmall : (H : Type) → List (DataW H) → Bool := fun _ ds => decide (uptoBulkAll ds ≤ 1048576)
def OpenSpec.upto (s : _root_.Go.ChangeSpec) : _root_.Go.OpenSpec := { _root_.Go.OpenSpec.ofChange s with cond := some uptoSmall }

/-- 'sixdotlaw10.LinearMatchesReference', WHERE WHAT IT READS IS OF BULK AT MOST 1048576: true; the input reads as it did. -/
def linearMatchesReferenceUptoRow : OpenClaim := { program := "ytfpcbalkioolmaadoor", sum := "7c83746f7e8496bec19c6b5d9a886684274684fb8d5cea39782ee65fa8ac8bef", func := "sixdot/sixdotlaw10.LinearMatchesReference", spec := "linearMatchesReference", unfollowed := true, recurses := true, named := ["sixdot/linear.letters"], apart := false, laid := [("sixdot/linear.letters", laid_sixdot_linear_letters)], narrowed := true }
def LinearMatchesReferenceUptoSaid : Prop := linearMatchesReferenceUptoRow.holds Tryd.pinned (OpenSpec.upto linearMatchesReferenceSpec)

/-- 'sixdotlaw10.LinearReads', WHERE WHAT IT READS IS OF BULK AT MOST 1048576: true; the input reads as it did. -/
def linearReadsUptoRow : OpenClaim := { program := "ytfpcbalkioolmaadoor", sum := "7c83746f7e8496bec19c6b5d9a886684274684fb8d5cea39782ee65fa8ac8bef", func := "sixdot/sixdotlaw10.LinearReads", spec := "linearReads", unfollowed := true, recurses := true, named := ["sixdot/linear.letters"], apart := false, laid := [("sixdot/linear.letters", laid_sixdot_linear_letters)], narrowed := true }
def LinearReadsUptoSaid : Prop := linearReadsUptoRow.holds Tryd.pinned (OpenSpec.upto linearReadsSpec)

/-- 'sixdotlaw10.LinearPrefixes', WHERE WHAT IT READS IS OF BULK AT MOST 1048576: true; the input reads as it did. -/
def linearPrefixesUptoRow : OpenClaim := { program := "ytfpcbalkioolmaadoor", sum := "7c83746f7e8496bec19c6b5d9a886684274684fb8d5cea39782ee65fa8ac8bef", func := "sixdot/sixdotlaw10.LinearPrefixes", spec := "linearPrefixes", unfollowed := true, recurses := true, named := ["sixdot/linear.letters"], apart := false, laid := [("sixdot/linear.letters", laid_sixdot_linear_letters)], narrowed := true }
def LinearPrefixesUptoSaid : Prop := linearPrefixesUptoRow.holds Tryd.pinned (OpenSpec.upto linearPrefixesSpec)

/-- 'sixdotlaw10.LinearChanges', WHERE WHAT IT READS IS OF BULK AT MOST 1048576: true; the input reads as it did. -/
def linearChangesUptoRow : OpenClaim := { program := "ytfpcbalkioolmaadoor", sum := "7c83746f7e8496bec19c6b5d9a886684274684fb8d5cea39782ee65fa8ac8bef", func := "sixdot/sixdotlaw10.LinearChanges", spec := "linearChanges", unfollowed := true, recurses := true, named := ["sixdot/linear.letters"], apart := false, laid := [("sixdot/linear.letters", laid_sixdot_linear_letters)], narrowed := true }
def LinearChangesUptoSaid : Prop := linearChangesUptoRow.holds Tryd.pinned (OpenSpec.upto linearChangesSpec)

/-- 'sixdotlaw10.LinearIsClean', WHERE WHAT IT READS IS OF BULK AT MOST 1048576: true; the input reads as it did. -/
def linearIsCleanUptoRow : OpenClaim := { program := "ytfpcbalkioolmaadoor", sum := "7c83746f7e8496bec19c6b5d9a886684274684fb8d5cea39782ee65fa8ac8bef", func := "sixdot/sixdotlaw10.LinearIsClean", spec := "linearIsClean", unfollowed := true, recurses := true, named := ["sixdot/linear.letters"], apart := false, laid := [("sixdot/linear.letters", laid_sixdot_linear_letters)], narrowed := true }
def LinearIsCleanUptoSaid : Prop := linearIsCleanUptoRow.holds Tryd.pinned (OpenSpec.upto linearIsCleanSpec)

/-- 'sixdotlaw10.LinearLimits', WHERE WHAT IT READS IS OF BULK AT MOST 1048576: true; the input reads as it did. -/
def linearLimitsUptoRow : OpenClaim := { program := "ytfpcbalkioolmaadoor", sum := "7c83746f7e8496bec19c6b5d9a886684274684fb8d5cea39782ee65fa8ac8bef", func := "sixdot/sixdotlaw10.LinearLimits", spec := "linearLimits", unfollowed := true, recurses := true, named := ["sixdot/linear.letters"], apart := false, laid := [("sixdot/linear.letters", laid_sixdot_linear_letters)], narrowed := true }
def LinearLimitsUptoSaid : Prop := linearLimitsUptoRow.holds Tryd.pinned (OpenSpec.upto linearLimitsSpec)

end Rows
end Go.Proofs.YtfpcbalkioolmaaDoor
