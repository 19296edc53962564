/-
  NARROWER THAN 'FOR EVERY INPUT', by the rows' own cells (each row's printed sentence says how): SheetMatchesReference: laid · SheetReads: laid · SheetPlates: laid · SheetTurns: laid · SheetLeaves: laid · SheetLeavesMatchReference: laid.
  DERIVED. THE GIVEN ROWS OF THIS SEAT. 6 by the template 'for every input the law returns true; each argument reads behind the call as it read before'; 0 by the template 'total and deterministic' (their statements: YtbcfmhoaocifoaaDoorTotals.lean).
  GIVEN WITH THE SEED: the statements are not yours to turn. If you find one false, say at which input.
  Laid BY PROGRAM, IN A SANDBOX (cutbox-rows.mjs): the forced cells as the released guide's own fill.sh prints them over the translation f7de0ee0d8b2905b… (all of the seat's roots in one cut). By AI agents, Wed Nov 11 2026. No macro, syntax, notation, axiom, sorry.
-/
import Derived.Test.YtbcfmhoaocifoaaDoorChecked
import GoSem.Claim
import GoSem.ClaimJoined
import GoSem.ClaimMapViews
import Derived.JoinedTies
import Derived.KernelRfl
namespace Go.Proofs.YtbcfmhoaocifoaaDoor
/- THE CELL 'sum', in the pinned program and in every row, IS THE sha256 OF THE DUMP (.gsa) THAT YtbcfmhoaocifoaaDoorProg.lean LOADS. Nothing in Lean hashes anything: it is a label: what it is worth is what the hold of that sum in a sandbox is worth. -/
noncomputable def Tryd.pinned : Pinned := { name := "ytbcfmhoaocifoaadoor", sum := "f7de0ee0d8b2905b301f44ea008b027a4b0b6dd396d788a576ccb2949478cf5b", checked := Tryd.checked }
namespace Rows
def none {H : Type} : Left H := { results := [], args := [] }

/- WHAT THE LISTED PACKAGE-LEVEL VARIABLES READ AS WHEN THE CALL BEGINS. Each datum BY PROGRAM (the guide's laid-datum.mjs) off the statement by which the dump's own 'gosem.cut.vars' lays the variable. In a bare row this is a premise. The card (YtbcfmhoaocifoaaDoorCards.lean) ties it to the program's text. -/
def laid_math_bits_deBruijn32tab {H : Type} : DataW H := .agg [.lit (.int .u8 0), .lit (.int .u8 1), .lit (.int .u8 28), .lit (.int .u8 2), .lit (.int .u8 29), .lit (.int .u8 14), .lit (.int .u8 24), .lit (.int .u8 3), .lit (.int .u8 30), .lit (.int .u8 22), .lit (.int .u8 20), .lit (.int .u8 15), .lit (.int .u8 25), .lit (.int .u8 17), .lit (.int .u8 4), .lit (.int .u8 8), .lit (.int .u8 31), .lit (.int .u8 27), .lit (.int .u8 13), .lit (.int .u8 23), .lit (.int .u8 21), .lit (.int .u8 19), .lit (.int .u8 16), .lit (.int .u8 7), .lit (.int .u8 26), .lit (.int .u8 12), .lit (.int .u8 18), .lit (.int .u8 6), .lit (.int .u8 11), .lit (.int .u8 5), .lit (.int .u8 10), .lit (.int .u8 9)]
def laid_math_bits_deBruijn64tab {H : Type} : DataW H := .agg [.lit (.int .u8 0), .lit (.int .u8 1), .lit (.int .u8 56), .lit (.int .u8 2), .lit (.int .u8 57), .lit (.int .u8 49), .lit (.int .u8 28), .lit (.int .u8 3), .lit (.int .u8 61), .lit (.int .u8 58), .lit (.int .u8 42), .lit (.int .u8 50), .lit (.int .u8 38), .lit (.int .u8 29), .lit (.int .u8 17), .lit (.int .u8 4), .lit (.int .u8 62), .lit (.int .u8 47), .lit (.int .u8 59), .lit (.int .u8 36), .lit (.int .u8 45), .lit (.int .u8 43), .lit (.int .u8 51), .lit (.int .u8 22), .lit (.int .u8 53), .lit (.int .u8 39), .lit (.int .u8 33), .lit (.int .u8 30), .lit (.int .u8 24), .lit (.int .u8 18), .lit (.int .u8 12), .lit (.int .u8 5), .lit (.int .u8 63), .lit (.int .u8 55), .lit (.int .u8 48), .lit (.int .u8 27), .lit (.int .u8 60), .lit (.int .u8 41), .lit (.int .u8 37), .lit (.int .u8 16), .lit (.int .u8 46), .lit (.int .u8 35), .lit (.int .u8 44), .lit (.int .u8 21), .lit (.int .u8 52), .lit (.int .u8 32), .lit (.int .u8 23), .lit (.int .u8 11), .lit (.int .u8 54), .lit (.int .u8 26), .lit (.int .u8 40), .lit (.int .u8 15), .lit (.int .u8 34), .lit (.int .u8 20), .lit (.int .u8 31), .lit (.int .u8 10), .lit (.int .u8 25), .lit (.int .u8 14), .lit (.int .u8 19), .lit (.int .u8 9), .lit (.int .u8 13), .lit (.int .u8 8), .lit (.int .u8 7), .lit (.int .u8 6)]
def laid_internal_strconv_uint64pow10 {H : Type} : DataW H := .agg [.lit (.int .u64 1), .lit (.int .u64 10), .lit (.int .u64 100), .lit (.int .u64 1000), .lit (.int .u64 10000), .lit (.int .u64 100000), .lit (.int .u64 1000000), .lit (.int .u64 10000000), .lit (.int .u64 100000000), .lit (.int .u64 1000000000), .lit (.int .u64 10000000000), .lit (.int .u64 100000000000), .lit (.int .u64 1000000000000), .lit (.int .u64 10000000000000), .lit (.int .u64 100000000000000), .lit (.int .u64 1000000000000000), .lit (.int .u64 10000000000000000), .lit (.int .u64 100000000000000000), .lit (.int .u64 1000000000000000000), .lit (.int .u64 10000000000000000000)]
def laid_sixdot_grid_offsets {H : Type} : DataW H := .agg [.agg [.lit (.int .i64 0), .lit (.int .i64 0)], .agg [.lit (.int .i64 0), .lit (.int .i64 1)], .agg [.lit (.int .i64 0), .lit (.int .i64 2)], .agg [.lit (.int .i64 1), .lit (.int .i64 0)], .agg [.lit (.int .i64 1), .lit (.int .i64 1)], .agg [.lit (.int .i64 1), .lit (.int .i64 2)]]
def laid_sixdot_number_digits {H : Type} : DataW H := .agg [.lit (.int .u8 26), .lit (.int .u8 1), .lit (.int .u8 3), .lit (.int .u8 9), .lit (.int .u8 25), .lit (.int .u8 17), .lit (.int .u8 11), .lit (.int .u8 27), .lit (.int .u8 19), .lit (.int .u8 10)]
def laid_sixdot_number_letters {H : Type} : DataW H := .agg [.lit (.int .u8 1), .lit (.int .u8 3), .lit (.int .u8 9), .lit (.int .u8 25), .lit (.int .u8 17), .lit (.int .u8 11), .lit (.int .u8 27), .lit (.int .u8 19), .lit (.int .u8 10), .lit (.int .u8 26), .lit (.int .u8 5), .lit (.int .u8 7), .lit (.int .u8 13), .lit (.int .u8 29), .lit (.int .u8 21), .lit (.int .u8 15), .lit (.int .u8 31), .lit (.int .u8 23), .lit (.int .u8 14), .lit (.int .u8 30), .lit (.int .u8 37), .lit (.int .u8 39), .lit (.int .u8 58), .lit (.int .u8 45), .lit (.int .u8 61), .lit (.int .u8 53)]

/-- 'sixdotlaw25.SheetMatchesReference': WHATEVER THE INPUT: true; the input reads as it did. -/
def sheetMatchesReferenceSpec : ChangeSpec := { name := "sheetMatchesReference", fn := fun _ => fun
  | [d1, d2, d3] => { results := [.lit (.bool true)], args := [d1, d2, d3] }
  | _ => none }
def sheetMatchesReferenceRow : OpenClaim := { program := "ytbcfmhoaocifoaadoor", sum := "f7de0ee0d8b2905b301f44ea008b027a4b0b6dd396d788a576ccb2949478cf5b", func := "sixdot/sixdotlaw25.SheetMatchesReference", spec := "sheetMatchesReference", unfollowed := true, recurses := true, named := ["sixdot/grid.offsets", "sixdot/number.letters", "sixdot/number.digits", "internal/strconv.uint64pow10", "math/bits.deBruijn32tab", "math/bits.deBruijn64tab"], apart := false, laid := [("math/bits.deBruijn32tab", laid_math_bits_deBruijn32tab), ("math/bits.deBruijn64tab", laid_math_bits_deBruijn64tab), ("internal/strconv.uint64pow10", laid_internal_strconv_uint64pow10), ("sixdot/grid.offsets", laid_sixdot_grid_offsets), ("sixdot/number.digits", laid_sixdot_number_digits), ("sixdot/number.letters", laid_sixdot_number_letters)] }
def SheetMatchesReferenceSaid : Prop := sheetMatchesReferenceRow.holds Tryd.pinned (OpenSpec.ofChange sheetMatchesReferenceSpec)

/-- ITS FALSE NEIGHBOUR: 'it returns false'. Refute it at one input. -/
def sheetMatchesReferenceWrong : ChangeSpec := { name := "sheetMatchesReference", fn := fun _ => fun
  | [d1, d2, d3] => { results := [.lit (.bool false)], args := [d1, d2, d3] }
  | _ => none }
def SheetMatchesReferenceWrongFalsely : Prop := sheetMatchesReferenceRow.holds Tryd.pinned (OpenSpec.ofChange sheetMatchesReferenceWrong)

/-- 'sixdotlaw25.SheetReads': WHATEVER THE INPUT: true; the input reads as it did. -/
def sheetReadsSpec : ChangeSpec := { name := "sheetReads", fn := fun _ => fun
  | [d] => { results := [.lit (.bool true)], args := [d] }
  | _ => none }
def sheetReadsRow : OpenClaim := { program := "ytbcfmhoaocifoaadoor", sum := "f7de0ee0d8b2905b301f44ea008b027a4b0b6dd396d788a576ccb2949478cf5b", func := "sixdot/sixdotlaw25.SheetReads", spec := "sheetReads", unfollowed := true, recurses := true, named := ["sixdot/grid.offsets", "sixdot/number.letters", "sixdot/number.digits", "internal/strconv.uint64pow10", "math/bits.deBruijn32tab", "math/bits.deBruijn64tab"], apart := false, laid := [("math/bits.deBruijn32tab", laid_math_bits_deBruijn32tab), ("math/bits.deBruijn64tab", laid_math_bits_deBruijn64tab), ("internal/strconv.uint64pow10", laid_internal_strconv_uint64pow10), ("sixdot/grid.offsets", laid_sixdot_grid_offsets), ("sixdot/number.digits", laid_sixdot_number_digits), ("sixdot/number.letters", laid_sixdot_number_letters)] }
def SheetReadsSaid : Prop := sheetReadsRow.holds Tryd.pinned (OpenSpec.ofChange sheetReadsSpec)

/-- ITS FALSE NEIGHBOUR: 'it returns false'. Refute it at one input. -/
def sheetReadsWrong : ChangeSpec := { name := "sheetReads", fn := fun _ => fun
  | [d] => { results := [.lit (.bool false)], args := [d] }
  | _ => none }
def SheetReadsWrongFalsely : Prop := sheetReadsRow.holds Tryd.pinned (OpenSpec.ofChange sheetReadsWrong)

/-- 'sixdotlaw25.SheetPlates': WHATEVER THE INPUT: true; the input reads as it did. -/
def sheetPlatesSpec : ChangeSpec := { name := "sheetPlates", fn := fun _ => fun
  | [d1, d2, d3] => { results := [.lit (.bool true)], args := [d1, d2, d3] }
  | _ => none }
def sheetPlatesRow : OpenClaim := { program := "ytbcfmhoaocifoaadoor", sum := "f7de0ee0d8b2905b301f44ea008b027a4b0b6dd396d788a576ccb2949478cf5b", func := "sixdot/sixdotlaw25.SheetPlates", spec := "sheetPlates", unfollowed := true, recurses := true, named := ["sixdot/grid.offsets", "sixdot/number.letters", "sixdot/number.digits", "internal/strconv.uint64pow10", "math/bits.deBruijn32tab", "math/bits.deBruijn64tab"], apart := false, laid := [("math/bits.deBruijn32tab", laid_math_bits_deBruijn32tab), ("math/bits.deBruijn64tab", laid_math_bits_deBruijn64tab), ("internal/strconv.uint64pow10", laid_internal_strconv_uint64pow10), ("sixdot/grid.offsets", laid_sixdot_grid_offsets), ("sixdot/number.digits", laid_sixdot_number_digits), ("sixdot/number.letters", laid_sixdot_number_letters)] }
def SheetPlatesSaid : Prop := sheetPlatesRow.holds Tryd.pinned (OpenSpec.ofChange sheetPlatesSpec)

/-- ITS FALSE NEIGHBOUR: 'it returns false'. Refute it at one input. -/
def sheetPlatesWrong : ChangeSpec := { name := "sheetPlates", fn := fun _ => fun
  | [d1, d2, d3] => { results := [.lit (.bool false)], args := [d1, d2, d3] }
  | _ => none }
def SheetPlatesWrongFalsely : Prop := sheetPlatesRow.holds Tryd.pinned (OpenSpec.ofChange sheetPlatesWrong)

/-- 'sixdotlaw25.SheetTurns': WHATEVER THE INPUT: true; the input reads as it did. -/
def sheetTurnsSpec : ChangeSpec := { name := "sheetTurns", fn := fun _ => fun
  | [d1, d2] => { results := [.lit (.bool true)], args := [d1, d2] }
  | _ => none }
def sheetTurnsRow : OpenClaim := { program := "ytbcfmhoaocifoaadoor", sum := "f7de0ee0d8b2905b301f44ea008b027a4b0b6dd396d788a576ccb2949478cf5b", func := "sixdot/sixdotlaw25.SheetTurns", spec := "sheetTurns", unfollowed := true, recurses := true, named := ["sixdot/grid.offsets", "sixdot/number.letters", "sixdot/number.digits", "internal/strconv.uint64pow10", "math/bits.deBruijn32tab", "math/bits.deBruijn64tab"], apart := false, laid := [("math/bits.deBruijn32tab", laid_math_bits_deBruijn32tab), ("math/bits.deBruijn64tab", laid_math_bits_deBruijn64tab), ("internal/strconv.uint64pow10", laid_internal_strconv_uint64pow10), ("sixdot/grid.offsets", laid_sixdot_grid_offsets), ("sixdot/number.digits", laid_sixdot_number_digits), ("sixdot/number.letters", laid_sixdot_number_letters)] }
def SheetTurnsSaid : Prop := sheetTurnsRow.holds Tryd.pinned (OpenSpec.ofChange sheetTurnsSpec)

/-- ITS FALSE NEIGHBOUR: 'it returns false'. Refute it at one input. -/
def sheetTurnsWrong : ChangeSpec := { name := "sheetTurns", fn := fun _ => fun
  | [d1, d2] => { results := [.lit (.bool false)], args := [d1, d2] }
  | _ => none }
def SheetTurnsWrongFalsely : Prop := sheetTurnsRow.holds Tryd.pinned (OpenSpec.ofChange sheetTurnsWrong)

/-- 'sixdotlaw25.SheetLeaves': WHATEVER THE INPUT: true; the input reads as it did. -/
def sheetLeavesSpec : ChangeSpec := { name := "sheetLeaves", fn := fun _ => fun
  | [d1, d2] => { results := [.lit (.bool true)], args := [d1, d2] }
  | _ => none }
def sheetLeavesRow : OpenClaim := { program := "ytbcfmhoaocifoaadoor", sum := "f7de0ee0d8b2905b301f44ea008b027a4b0b6dd396d788a576ccb2949478cf5b", func := "sixdot/sixdotlaw25.SheetLeaves", spec := "sheetLeaves", unfollowed := true, recurses := true, named := ["sixdot/grid.offsets", "sixdot/number.letters", "sixdot/number.digits", "internal/strconv.uint64pow10", "math/bits.deBruijn32tab", "math/bits.deBruijn64tab"], apart := false, laid := [("math/bits.deBruijn32tab", laid_math_bits_deBruijn32tab), ("math/bits.deBruijn64tab", laid_math_bits_deBruijn64tab), ("internal/strconv.uint64pow10", laid_internal_strconv_uint64pow10), ("sixdot/grid.offsets", laid_sixdot_grid_offsets), ("sixdot/number.digits", laid_sixdot_number_digits), ("sixdot/number.letters", laid_sixdot_number_letters)] }
def SheetLeavesSaid : Prop := sheetLeavesRow.holds Tryd.pinned (OpenSpec.ofChange sheetLeavesSpec)

/-- ITS FALSE NEIGHBOUR: 'it returns false'. Refute it at one input. -/
def sheetLeavesWrong : ChangeSpec := { name := "sheetLeaves", fn := fun _ => fun
  | [d1, d2] => { results := [.lit (.bool false)], args := [d1, d2] }
  | _ => none }
def SheetLeavesWrongFalsely : Prop := sheetLeavesRow.holds Tryd.pinned (OpenSpec.ofChange sheetLeavesWrong)

/-- 'sixdotlaw25.SheetLeavesMatchReference': WHATEVER THE INPUT: true; the input reads as it did. -/
def sheetLeavesMatchReferenceSpec : ChangeSpec := { name := "sheetLeavesMatchReference", fn := fun _ => fun
  | [d1, d2, d3] => { results := [.lit (.bool true)], args := [d1, d2, d3] }
  | _ => none }
def sheetLeavesMatchReferenceRow : OpenClaim := { program := "ytbcfmhoaocifoaadoor", sum := "f7de0ee0d8b2905b301f44ea008b027a4b0b6dd396d788a576ccb2949478cf5b", func := "sixdot/sixdotlaw25.SheetLeavesMatchReference", spec := "sheetLeavesMatchReference", unfollowed := true, recurses := true, named := ["sixdot/grid.offsets", "sixdot/number.letters", "sixdot/number.digits", "internal/strconv.uint64pow10", "math/bits.deBruijn32tab", "math/bits.deBruijn64tab"], apart := false, laid := [("math/bits.deBruijn32tab", laid_math_bits_deBruijn32tab), ("math/bits.deBruijn64tab", laid_math_bits_deBruijn64tab), ("internal/strconv.uint64pow10", laid_internal_strconv_uint64pow10), ("sixdot/grid.offsets", laid_sixdot_grid_offsets), ("sixdot/number.digits", laid_sixdot_number_digits), ("sixdot/number.letters", laid_sixdot_number_letters)] }
def SheetLeavesMatchReferenceSaid : Prop := sheetLeavesMatchReferenceRow.holds Tryd.pinned (OpenSpec.ofChange sheetLeavesMatchReferenceSpec)

/-- ITS FALSE NEIGHBOUR: 'it returns false'. Refute it at one input. -/
def sheetLeavesMatchReferenceWrong : ChangeSpec := { name := "sheetLeavesMatchReference", fn := fun _ => fun
  | [d1, d2, d3] => { results := [.lit (.bool false)], args := [d1, d2, d3] }
  | _ => none }
def SheetLeavesMatchReferenceWrongFalsely : Prop := sheetLeavesMatchReferenceRow.holds Tryd.pinned (OpenSpec.ofChange sheetLeavesMatchReferenceWrong)

/- THE SECOND FORM. 'bulk': how many values and letters a reading holds, each counted each time it is reached (what is shared counts as often as it is met; a slice's spare places count too). A statement '..UptoSaid' is the law's where the arguments, and the package variables that the reading takes, are together of bulk at most 1048576: NARROWER than '..Said'. Prove '..Said' where nothing that the law and all that it calls make is longer than what came in: it says more and counts as full. Else prove '..UptoSaid'. A law counts once. -/
mutual
def uptoBulk {H : Type} : DataW H → Nat
  | .lit (.string bytes) => bytes.length + 1
  | .lit _ => 1
  | .nil => 1
  | .ptr d => uptoBulk d + 1
  | .slice elems spare => uptoBulkAll elems + uptoBulkAll spare + 1
  | .agg parts => uptoBulkAll parts + 1
  | .iface _ d => uptoBulk d + 1
  | .map entries => uptoBulkEntries entries + 1
  | .held _ => 1
def uptoBulkAll {H : Type} : List (DataW H) → Nat
  | [] => 0
  | d :: r => uptoBulk d + uptoBulkAll r
def uptoBulkEntries {H : Type} : List (Lit × DataW H) → Nat
  | [] => 0
  | x :: r => uptoBulkEntry x + uptoBulkEntries r
def uptoBulkEntry {H : Type} : Lit × DataW H → Nat
  | (.string bytes, d) => bytes.length + uptoBulk d + 1
  | (_, d) => uptoBulk d + 1
 end
def uptoSmall : (H : Type) → List (DataW H) → Bool := fun _ ds => decide (uptoBulkAll ds ≤ 1048576)
def OpenSpec.upto (s : _root_.Go.ChangeSpec) : _root_.Go.OpenSpec := { _root_.Go.OpenSpec.ofChange s with cond := some uptoSmall }

/-- 'sixdotlaw25.SheetMatchesReference', WHERE WHAT IT READS IS OF BULK AT MOST 1048576: true; the input reads as it did. -/
def sheetMatchesReferenceUptoRow : OpenClaim := { program := "ytbcfmhoaocifoaadoor", sum := "f7de0ee0d8b2905b301f44ea008b027a4b0b6dd396d788a576ccb2949478cf5b", func := "sixdot/sixdotlaw25.SheetMatchesReference", spec := "sheetMatchesReference", unfollowed := true, recurses := true, named := ["sixdot/grid.offsets", "sixdot/number.letters", "sixdot/number.digits", "internal/strconv.uint64pow10", "math/bits.deBruijn32tab", "math/bits.deBruijn64tab"], apart := false, laid := [("math/bits.deBruijn32tab", laid_math_bits_deBruijn32tab), ("math/bits.deBruijn64tab", laid_math_bits_deBruijn64tab), ("internal/strconv.uint64pow10", laid_internal_strconv_uint64pow10), ("sixdot/grid.offsets", laid_sixdot_grid_offsets), ("sixdot/number.digits", laid_sixdot_number_digits), ("sixdot/number.letters", laid_sixdot_number_letters)], narrowed := true }
def SheetMatchesReferenceUptoSaid : Prop := sheetMatchesReferenceUptoRow.holds Tryd.pinned (OpenSpec.upto sheetMatchesReferenceSpec)

/-- 'sixdotlaw25.SheetReads', WHERE WHAT IT READS IS OF BULK AT MOST 1048576: true; the input reads as it did. -/
def sheetReadsUptoRow : OpenClaim := { program := "ytbcfmhoaocifoaadoor", sum := "f7de0ee0d8b2905b301f44ea008b027a4b0b6dd396d788a576ccb2949478cf5b", func := "sixdot/sixdotlaw25.SheetReads", spec := "sheetReads", unfollowed := true, recurses := true, named := ["sixdot/grid.offsets", "sixdot/number.letters", "sixdot/number.digits", "internal/strconv.uint64pow10", "math/bits.deBruijn32tab", "math/bits.deBruijn64tab"], apart := false, laid := [("math/bits.deBruijn32tab", laid_math_bits_deBruijn32tab), ("math/bits.deBruijn64tab", laid_math_bits_deBruijn64tab), ("internal/strconv.uint64pow10", laid_internal_strconv_uint64pow10), ("sixdot/grid.offsets", laid_sixdot_grid_offsets), ("sixdot/number.digits", laid_sixdot_number_digits), ("sixdot/number.letters", laid_sixdot_number_letters)], narrowed := true }
def SheetReadsUptoSaid : Prop := sheetReadsUptoRow.holds Tryd.pinned (OpenSpec.upto sheetReadsSpec)

/-- 'sixdotlaw25.SheetPlates', WHERE WHAT IT READS IS OF BULK AT MOST 1048576: true; the input reads as it did. -/
def sheetPlatesUptoRow : OpenClaim := { program := "ytbcfmhoaocifoaadoor", sum := "f7de0ee0d8b2905b301f44ea008b027a4b0b6dd396d788a576ccb2949478cf5b", func := "sixdot/sixdotlaw25.SheetPlates", spec := "sheetPlates", unfollowed := true, recurses := true, named := ["sixdot/grid.offsets", "sixdot/number.letters", "sixdot/number.digits", "internal/strconv.uint64pow10", "math/bits.deBruijn32tab", "math/bits.deBruijn64tab"], apart := false, laid := [("math/bits.deBruijn32tab", laid_math_bits_deBruijn32tab), ("math/bits.deBruijn64tab", laid_math_bits_deBruijn64tab), ("internal/strconv.uint64pow10", laid_internal_strconv_uint64pow10), ("sixdot/grid.offsets", laid_sixdot_grid_offsets), ("sixdot/number.digits", laid_sixdot_number_digits), ("sixdot/number.letters", laid_sixdot_number_letters)], narrowed := true }
def SheetPlatesUptoSaid : Prop := sheetPlatesUptoRow.holds Tryd.pinned (OpenSpec.upto sheetPlatesSpec)

/-- 'sixdotlaw25.SheetTurns', WHERE WHAT IT READS IS OF BULK AT MOST 1048576: true; the input reads as it did. -/
def sheetTurnsUptoRow : OpenClaim := { program := "ytbcfmhoaocifoaadoor", sum := "f7de0ee0d8b2905b301f44ea008b027a4b0b6dd396d788a576ccb2949478cf5b", func := "sixdot/sixdotlaw25.SheetTurns", spec := "sheetTurns", unfollowed := true, recurses := true, named := ["sixdot/grid.offsets", "sixdot/number.letters", "sixdot/number.digits", "internal/strconv.uint64pow10", "math/bits.deBruijn32tab", "math/bits.deBruijn64tab"], apart := false, laid := [("math/bits.deBruijn32tab", laid_math_bits_deBruijn32tab), ("math/bits.deBruijn64tab", laid_math_bits_deBruijn64tab), ("internal/strconv.uint64pow10", laid_internal_strconv_uint64pow10), ("sixdot/grid.offsets", laid_sixdot_grid_offsets), ("sixdot/number.digits", laid_sixdot_number_digits), ("sixdot/number.letters", laid_sixdot_number_letters)], narrowed := true }
def SheetTurnsUptoSaid : Prop := sheetTurnsUptoRow.holds Tryd.pinned (OpenSpec.upto sheetTurnsSpec)

/-- 'sixdotlaw25.SheetLeaves', WHERE WHAT IT READS IS OF BULK AT MOST 1048576: true; the input reads as it did. -/
def sheetLeavesUptoRow : OpenClaim := { program := "ytbcfmhoaocifoaadoor", sum := "f7de0ee0d8b2905b301f44ea008b027a4b0b6dd396d788a576ccb2949478cf5b", func := "sixdot/sixdotlaw25.SheetLeaves", spec := "sheetLeaves", unfollowed := true, recurses := true, named := ["sixdot/grid.offsets", "sixdot/number.letters", "sixdot/number.digits", "internal/strconv.uint64pow10", "math/bits.deBruijn32tab", "math/bits.deBruijn64tab"], apart := false, laid := [("math/bits.deBruijn32tab", laid_math_bits_deBruijn32tab), ("math/bits.deBruijn64tab", laid_math_bits_deBruijn64tab), ("internal/strconv.uint64pow10", laid_internal_strconv_uint64pow10), ("sixdot/grid.offsets", laid_sixdot_grid_offsets), ("sixdot/number.digits", laid_sixdot_number_digits), ("sixdot/number.letters", laid_sixdot_number_letters)], narrowed := true }
def SheetLeavesUptoSaid : Prop := sheetLeavesUptoRow.holds Tryd.pinned (OpenSpec.upto sheetLeavesSpec)

/-- 'sixdotlaw25.SheetLeavesMatchReference', WHERE WHAT IT READS IS OF BULK AT MOST 1048576: true; the input reads as it did. -/
def sheetLeavesMatchReferenceUptoRow : OpenClaim := { program := "ytbcfmhoaocifoaadoor", sum := "f7de0ee0d8b2905b301f44ea008b027a4b0b6dd396d788a576ccb2949478cf5b", func := "sixdot/sixdotlaw25.SheetLeavesMatchReference", spec := "sheetLeavesMatchReference", unfollowed := true, recurses := true, named := ["sixdot/grid.offsets", "sixdot/number.letters", "sixdot/number.digits", "internal/strconv.uint64pow10", "math/bits.deBruijn32tab", "math/bits.deBruijn64tab"], apart := false, laid := [("math/bits.deBruijn32tab", laid_math_bits_deBruijn32tab), ("math/bits.deBruijn64tab", laid_math_bits_deBruijn64tab), ("internal/strconv.uint64pow10", laid_internal_strconv_uint64pow10), ("sixdot/grid.offsets", laid_sixdot_grid_offsets), ("sixdot/number.digits", laid_sixdot_number_digits), ("sixdot/number.letters", laid_sixdot_number_letters)], narrowed := true }
def SheetLeavesMatchReferenceUptoSaid : Prop := sheetLeavesMatchReferenceUptoRow.holds Tryd.pinned (OpenSpec.upto sheetLeavesMatchReferenceSpec)

end Rows
end Go.Proofs.YtbcfmhoaocifoaaDoor
