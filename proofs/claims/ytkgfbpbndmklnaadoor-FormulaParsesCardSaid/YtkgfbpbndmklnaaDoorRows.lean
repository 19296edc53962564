/-
  NARROWER THAN 'FOR EVERY INPUT', by the rows' own cells (each row's printed sentence says how): FormulaValid: laid · FormulaInverts: laid · FormulaParses: laid · FormulaSpoilt: laid · FormulaGoesOn: laid · FormulaTrees: laid · FormulaLimits: laid.
  DERIVED. THE GIVEN ROWS OF THIS SEAT. 7 by the template 'for every input the law returns true; each argument reads behind the call as it read before'; 0 by the template 'total and deterministic' (their statements: YtkgfbpbndmklnaaDoorTotals.lean).
  GIVEN WITH THE SEED: the statements are not yours to turn. If you find one false, say at which input.
  Laid BY PROGRAM, IN A SANDBOX (cutbox-rows.mjs): the forced cells as the released guide's own fill.sh prints them over the translation 5c88b340bb212071… (all of the seat's roots in one cut). By AI agents, Wed Nov 11 2026. No macro, syntax, notation, axiom, sorry.
-/
import Derived.Test.YtkgfbpbndmklnaaDoorChecked
import GoSem.Claim
import GoSem.ClaimJoined
import GoSem.ClaimMapViews
import Derived.JoinedTies
import Derived.KernelRfl
namespace Go.Proofs.YtkgfbpbndmklnaaDoor
/- THE CELL 'sum', in the pinned program and in every row, IS THE sha256 OF THE DUMP (.gsa) THAT YtkgfbpbndmklnaaDoorProg.lean LOADS. Nothing in Lean hashes anything: it is a label: what it is worth is what the hold of that sum in a sandbox is worth. -/
noncomputable def Tryd.pinned : Pinned := { name := "ytkgfbpbndmklnaadoor", sum := "5c88b340bb212071bf4e2d1d437ad806ce17da1bd85211912b0854073a76e516", checked := Tryd.checked }
namespace Rows
def none {H : Type} : Left H := { results := [], args := [] }

/- WHAT THE LISTED PACKAGE-LEVEL VARIABLES READ AS WHEN THE CALL BEGINS. Each datum BY PROGRAM (the guide's laid-datum.mjs) off the statement by which the dump's own 'gosem.cut.vars' lays the variable. In a bare row this is a premise. The card (YtkgfbpbndmklnaaDoorCards.lean) ties it to the program's text. -/
def laid_math_bits_deBruijn32tab {H : Type} : DataW H := .agg [.lit (.int .u8 0), .lit (.int .u8 1), .lit (.int .u8 28), .lit (.int .u8 2), .lit (.int .u8 29), .lit (.int .u8 14), .lit (.int .u8 24), .lit (.int .u8 3), .lit (.int .u8 30), .lit (.int .u8 22), .lit (.int .u8 20), .lit (.int .u8 15), .lit (.int .u8 25), .lit (.int .u8 17), .lit (.int .u8 4), .lit (.int .u8 8), .lit (.int .u8 31), .lit (.int .u8 27), .lit (.int .u8 13), .lit (.int .u8 23), .lit (.int .u8 21), .lit (.int .u8 19), .lit (.int .u8 16), .lit (.int .u8 7), .lit (.int .u8 26), .lit (.int .u8 12), .lit (.int .u8 18), .lit (.int .u8 6), .lit (.int .u8 11), .lit (.int .u8 5), .lit (.int .u8 10), .lit (.int .u8 9)]
def laid_math_bits_deBruijn64tab {H : Type} : DataW H := .agg [.lit (.int .u8 0), .lit (.int .u8 1), .lit (.int .u8 56), .lit (.int .u8 2), .lit (.int .u8 57), .lit (.int .u8 49), .lit (.int .u8 28), .lit (.int .u8 3), .lit (.int .u8 61), .lit (.int .u8 58), .lit (.int .u8 42), .lit (.int .u8 50), .lit (.int .u8 38), .lit (.int .u8 29), .lit (.int .u8 17), .lit (.int .u8 4), .lit (.int .u8 62), .lit (.int .u8 47), .lit (.int .u8 59), .lit (.int .u8 36), .lit (.int .u8 45), .lit (.int .u8 43), .lit (.int .u8 51), .lit (.int .u8 22), .lit (.int .u8 53), .lit (.int .u8 39), .lit (.int .u8 33), .lit (.int .u8 30), .lit (.int .u8 24), .lit (.int .u8 18), .lit (.int .u8 12), .lit (.int .u8 5), .lit (.int .u8 63), .lit (.int .u8 55), .lit (.int .u8 48), .lit (.int .u8 27), .lit (.int .u8 60), .lit (.int .u8 41), .lit (.int .u8 37), .lit (.int .u8 16), .lit (.int .u8 46), .lit (.int .u8 35), .lit (.int .u8 44), .lit (.int .u8 21), .lit (.int .u8 52), .lit (.int .u8 32), .lit (.int .u8 23), .lit (.int .u8 11), .lit (.int .u8 54), .lit (.int .u8 26), .lit (.int .u8 40), .lit (.int .u8 15), .lit (.int .u8 34), .lit (.int .u8 20), .lit (.int .u8 31), .lit (.int .u8 10), .lit (.int .u8 25), .lit (.int .u8 14), .lit (.int .u8 19), .lit (.int .u8 9), .lit (.int .u8 13), .lit (.int .u8 8), .lit (.int .u8 7), .lit (.int .u8 6)]
def laid_internal_strconv_uint64pow10 {H : Type} : DataW H := .agg [.lit (.int .u64 1), .lit (.int .u64 10), .lit (.int .u64 100), .lit (.int .u64 1000), .lit (.int .u64 10000), .lit (.int .u64 100000), .lit (.int .u64 1000000), .lit (.int .u64 10000000), .lit (.int .u64 100000000), .lit (.int .u64 1000000000), .lit (.int .u64 10000000000), .lit (.int .u64 100000000000), .lit (.int .u64 1000000000000), .lit (.int .u64 10000000000000), .lit (.int .u64 100000000000000), .lit (.int .u64 1000000000000000), .lit (.int .u64 10000000000000000), .lit (.int .u64 100000000000000000), .lit (.int .u64 1000000000000000000), .lit (.int .u64 10000000000000000000)]

/-- 'sixdotlaw09.FormulaValid': WHATEVER THE INPUT: true; the input reads as it did. -/
def formulaValidSpec : ChangeSpec := { name := "formulaValid", fn := fun _ => fun
  | [d1, d2, d3] => { results := [.lit (.bool true)], args := [d1, d2, d3] }
  | _ => none }
def formulaValidRow : OpenClaim := { program := "ytkgfbpbndmklnaadoor", sum := "5c88b340bb212071bf4e2d1d437ad806ce17da1bd85211912b0854073a76e516", func := "sixdot/sixdotlaw09.FormulaValid", spec := "formulaValid", unfollowed := true, recurses := true, named := ["internal/strconv.uint64pow10", "math/bits.deBruijn32tab", "math/bits.deBruijn64tab"], apart := false, laid := [("math/bits.deBruijn32tab", laid_math_bits_deBruijn32tab), ("math/bits.deBruijn64tab", laid_math_bits_deBruijn64tab), ("internal/strconv.uint64pow10", laid_internal_strconv_uint64pow10)] }
def FormulaValidSaid : Prop := formulaValidRow.holds Tryd.pinned (OpenSpec.ofChange formulaValidSpec)

/-- ITS FALSE NEIGHBOUR: 'it returns false'. Refute it at one input. -/
def formulaValidWrong : ChangeSpec := { name := "formulaValid", fn := fun _ => fun
  | [d1, d2, d3] => { results := [.lit (.bool false)], args := [d1, d2, d3] }
  | _ => none }
def FormulaValidWrongFalsely : Prop := formulaValidRow.holds Tryd.pinned (OpenSpec.ofChange formulaValidWrong)

/-- 'sixdotlaw09.FormulaInverts': WHATEVER THE INPUT: true; the input reads as it did. -/
def formulaInvertsSpec : ChangeSpec := { name := "formulaInverts", fn := fun _ => fun
  | [d1, d2] => { results := [.lit (.bool true)], args := [d1, d2] }
  | _ => none }
def formulaInvertsRow : OpenClaim := { program := "ytkgfbpbndmklnaadoor", sum := "5c88b340bb212071bf4e2d1d437ad806ce17da1bd85211912b0854073a76e516", func := "sixdot/sixdotlaw09.FormulaInverts", spec := "formulaInverts", unfollowed := true, recurses := true, named := ["internal/strconv.uint64pow10", "math/bits.deBruijn32tab", "math/bits.deBruijn64tab"], apart := false, laid := [("math/bits.deBruijn32tab", laid_math_bits_deBruijn32tab), ("math/bits.deBruijn64tab", laid_math_bits_deBruijn64tab), ("internal/strconv.uint64pow10", laid_internal_strconv_uint64pow10)] }
def FormulaInvertsSaid : Prop := formulaInvertsRow.holds Tryd.pinned (OpenSpec.ofChange formulaInvertsSpec)

/-- ITS FALSE NEIGHBOUR: 'it returns false'. Refute it at one input. -/
def formulaInvertsWrong : ChangeSpec := { name := "formulaInverts", fn := fun _ => fun
  | [d1, d2] => { results := [.lit (.bool false)], args := [d1, d2] }
  | _ => none }
def FormulaInvertsWrongFalsely : Prop := formulaInvertsRow.holds Tryd.pinned (OpenSpec.ofChange formulaInvertsWrong)

/-- 'sixdotlaw09.FormulaParses': WHATEVER THE INPUT: true; the input reads as it did. -/
def formulaParsesSpec : ChangeSpec := { name := "formulaParses", fn := fun _ => fun
  | [d] => { results := [.lit (.bool true)], args := [d] }
  | _ => none }
def formulaParsesRow : OpenClaim := { program := "ytkgfbpbndmklnaadoor", sum := "5c88b340bb212071bf4e2d1d437ad806ce17da1bd85211912b0854073a76e516", func := "sixdot/sixdotlaw09.FormulaParses", spec := "formulaParses", unfollowed := true, recurses := true, named := ["internal/strconv.uint64pow10", "math/bits.deBruijn32tab", "math/bits.deBruijn64tab"], apart := false, laid := [("math/bits.deBruijn32tab", laid_math_bits_deBruijn32tab), ("math/bits.deBruijn64tab", laid_math_bits_deBruijn64tab), ("internal/strconv.uint64pow10", laid_internal_strconv_uint64pow10)] }
def FormulaParsesSaid : Prop := formulaParsesRow.holds Tryd.pinned (OpenSpec.ofChange formulaParsesSpec)

/-- ITS FALSE NEIGHBOUR: 'it returns false'. Refute it at one input. -/
def formulaParsesWrong : ChangeSpec := { name := "formulaParses", fn := fun _ => fun
  | [d] => { results := [.lit (.bool false)], args := [d] }
  | _ => none }
def FormulaParsesWrongFalsely : Prop := formulaParsesRow.holds Tryd.pinned (OpenSpec.ofChange formulaParsesWrong)

/-- 'sixdotlaw09.FormulaSpoilt': WHATEVER THE INPUT: true; the input reads as it did. -/
def formulaSpoiltSpec : ChangeSpec := { name := "formulaSpoilt", fn := fun _ => fun
  | [d1, d2, d3] => { results := [.lit (.bool true)], args := [d1, d2, d3] }
  | _ => none }
def formulaSpoiltRow : OpenClaim := { program := "ytkgfbpbndmklnaadoor", sum := "5c88b340bb212071bf4e2d1d437ad806ce17da1bd85211912b0854073a76e516", func := "sixdot/sixdotlaw09.FormulaSpoilt", spec := "formulaSpoilt", unfollowed := true, recurses := true, named := ["internal/strconv.uint64pow10", "math/bits.deBruijn32tab", "math/bits.deBruijn64tab"], apart := false, laid := [("math/bits.deBruijn32tab", laid_math_bits_deBruijn32tab), ("math/bits.deBruijn64tab", laid_math_bits_deBruijn64tab), ("internal/strconv.uint64pow10", laid_internal_strconv_uint64pow10)] }
def FormulaSpoiltSaid : Prop := formulaSpoiltRow.holds Tryd.pinned (OpenSpec.ofChange formulaSpoiltSpec)

/-- ITS FALSE NEIGHBOUR: 'it returns false'. Refute it at one input. -/
def formulaSpoiltWrong : ChangeSpec := { name := "formulaSpoilt", fn := fun _ => fun
  | [d1, d2, d3] => { results := [.lit (.bool false)], args := [d1, d2, d3] }
  | _ => none }
def FormulaSpoiltWrongFalsely : Prop := formulaSpoiltRow.holds Tryd.pinned (OpenSpec.ofChange formulaSpoiltWrong)

/-- 'sixdotlaw09.FormulaGoesOn': WHATEVER THE INPUT: true; the input reads as it did. -/
def formulaGoesOnSpec : ChangeSpec := { name := "formulaGoesOn", fn := fun _ => fun
  | [d1, d2, d3] => { results := [.lit (.bool true)], args := [d1, d2, d3] }
  | _ => none }
def formulaGoesOnRow : OpenClaim := { program := "ytkgfbpbndmklnaadoor", sum := "5c88b340bb212071bf4e2d1d437ad806ce17da1bd85211912b0854073a76e516", func := "sixdot/sixdotlaw09.FormulaGoesOn", spec := "formulaGoesOn", unfollowed := true, recurses := true, named := ["internal/strconv.uint64pow10", "math/bits.deBruijn32tab", "math/bits.deBruijn64tab"], apart := false, laid := [("math/bits.deBruijn32tab", laid_math_bits_deBruijn32tab), ("math/bits.deBruijn64tab", laid_math_bits_deBruijn64tab), ("internal/strconv.uint64pow10", laid_internal_strconv_uint64pow10)] }
def FormulaGoesOnSaid : Prop := formulaGoesOnRow.holds Tryd.pinned (OpenSpec.ofChange formulaGoesOnSpec)

/-- ITS FALSE NEIGHBOUR: 'it returns false'. Refute it at one input. -/
def formulaGoesOnWrong : ChangeSpec := { name := "formulaGoesOn", fn := fun _ => fun
  | [d1, d2, d3] => { results := [.lit (.bool false)], args := [d1, d2, d3] }
  | _ => none }
def FormulaGoesOnWrongFalsely : Prop := formulaGoesOnRow.holds Tryd.pinned (OpenSpec.ofChange formulaGoesOnWrong)

/-- 'sixdotlaw09.FormulaTrees': WHATEVER THE INPUT: true; the input reads as it did. -/
def formulaTreesSpec : ChangeSpec := { name := "formulaTrees", fn := fun _ => fun
  | [d] => { results := [.lit (.bool true)], args := [d] }
  | _ => none }
def formulaTreesRow : OpenClaim := { program := "ytkgfbpbndmklnaadoor", sum := "5c88b340bb212071bf4e2d1d437ad806ce17da1bd85211912b0854073a76e516", func := "sixdot/sixdotlaw09.FormulaTrees", spec := "formulaTrees", unfollowed := true, recurses := true, named := ["internal/strconv.uint64pow10", "math/bits.deBruijn32tab", "math/bits.deBruijn64tab"], apart := false, laid := [("math/bits.deBruijn32tab", laid_math_bits_deBruijn32tab), ("math/bits.deBruijn64tab", laid_math_bits_deBruijn64tab), ("internal/strconv.uint64pow10", laid_internal_strconv_uint64pow10)] }
def FormulaTreesSaid : Prop := formulaTreesRow.holds Tryd.pinned (OpenSpec.ofChange formulaTreesSpec)

/-- ITS FALSE NEIGHBOUR: 'it returns false'. Refute it at one input. -/
def formulaTreesWrong : ChangeSpec := { name := "formulaTrees", fn := fun _ => fun
  | [d] => { results := [.lit (.bool false)], args := [d] }
  | _ => none }
def FormulaTreesWrongFalsely : Prop := formulaTreesRow.holds Tryd.pinned (OpenSpec.ofChange formulaTreesWrong)

/-- 'sixdotlaw09.FormulaLimits': WHATEVER THE INPUT: true; the input reads as it did. -/
def formulaLimitsSpec : ChangeSpec := { name := "formulaLimits", fn := fun _ => fun
  | [d1, d2, d3] => { results := [.lit (.bool true)], args := [d1, d2, d3] }
  | _ => none }
def formulaLimitsRow : OpenClaim := { program := "ytkgfbpbndmklnaadoor", sum := "5c88b340bb212071bf4e2d1d437ad806ce17da1bd85211912b0854073a76e516", func := "sixdot/sixdotlaw09.FormulaLimits", spec := "formulaLimits", unfollowed := true, recurses := true, named := ["internal/strconv.uint64pow10", "math/bits.deBruijn32tab", "math/bits.deBruijn64tab"], apart := false, laid := [("math/bits.deBruijn32tab", laid_math_bits_deBruijn32tab), ("math/bits.deBruijn64tab", laid_math_bits_deBruijn64tab), ("internal/strconv.uint64pow10", laid_internal_strconv_uint64pow10)] }
def FormulaLimitsSaid : Prop := formulaLimitsRow.holds Tryd.pinned (OpenSpec.ofChange formulaLimitsSpec)

/-- ITS FALSE NEIGHBOUR: 'it returns false'. Refute it at one input. -/
def formulaLimitsWrong : ChangeSpec := { name := "formulaLimits", fn := fun _ => fun
  | [d1, d2, d3] => { results := [.lit (.bool false)], args := [d1, d2, d3] }
  | _ => none }
def FormulaLimitsWrongFalsely : Prop := formulaLimitsRow.holds Tryd.pinned (OpenSpec.ofChange formulaLimitsWrong)

/- THE SECOND FORM. 'bulk': how many values and letters a reading holds, each counted each time it is reached (what is shared counts as often as it is met; a slice's spare places count too). A statement '..UptoSaid' is the law's where the arguments, and the package variables that the reading takes, are together of bulk at most 1048576: NARROWER than '..Said'. Prove '..Said' where nothing that the law and all that it calls make is longer than what came in: it says more and counts as full. Else prove '..UptoSaid'. A law counts once. -/
mutual
def uptoBulk {H : Type} : DataW H → Nat
  | .lit (.string bytes) => bytes.length + 1
  | .lit _ => 1
  | .nil => 1
  | .ptr d => uptoBulk d + 1
  | .slice elems spare => uptoBulkAll elems + uptoBulkAll spare + 1
  | .agg parts => uptoBulkAll parts + 1
  | .iface _ d => uptoBulk d + 1
  | .map entries => uptoBulkEntries entries + 1
  | .held _ => 1
def uptoBulkAll {H : Type} : List (DataW H) → Nat
  | [] => 0
  | d :: r => uptoBulk d + uptoBulkAll r
def uptoBulkEntries {H : Type} : List (Lit × DataW H) → Nat
  | [] => 0
  | x :: r => uptoBulkEntry x + uptoBulkEntries r
def uptoBulkEntry {H : Type} : Lit × DataW H → Nat
  | (.string bytes, d) => bytes.length + uptoBulk d + 1
  | (_, d) => uptoBulk d + 1
 end
def uptoSmall : (H : Type) → List (DataW H) → Bool := fun _ ds => decide (uptoBulkAll ds ≤ 1048576)
def OpenSpec.upto (s : _root_.Go.ChangeSpec) : _root_.Go.OpenSpec := { _root_.Go.OpenSpec.ofChange s with cond := some uptoSmall }

/-- 'sixdotlaw09.FormulaValid', WHERE WHAT IT READS IS OF BULK AT MOST 1048576: true; the input reads as it did. -/
def formulaValidUptoRow : OpenClaim := { program := "ytkgfbpbndmklnaadoor", sum := "5c88b340bb212071bf4e2d1d437ad806ce17da1bd85211912b0854073a76e516", func := "sixdot/sixdotlaw09.FormulaValid", spec := "formulaValid", unfollowed := true, recurses := true, named := ["internal/strconv.uint64pow10", "math/bits.deBruijn32tab", "math/bits.deBruijn64tab"], apart := false, laid := [("math/bits.deBruijn32tab", laid_math_bits_deBruijn32tab), ("math/bits.deBruijn64tab", laid_math_bits_deBruijn64tab), ("internal/strconv.uint64pow10", laid_internal_strconv_uint64pow10)], narrowed := true }
def FormulaValidUptoSaid : Prop := formulaValidUptoRow.holds Tryd.pinned (OpenSpec.upto formulaValidSpec)

/-- 'sixdotlaw09.FormulaInverts', WHERE WHAT IT READS IS OF BULK AT MOST 1048576: true; the input reads as it did. -/
def formulaInvertsUptoRow : OpenClaim := { program := "ytkgfbpbndmklnaadoor", sum := "5c88b340bb212071bf4e2d1d437ad806ce17da1bd85211912b0854073a76e516", func := "sixdot/sixdotlaw09.FormulaInverts", spec := "formulaInverts", unfollowed := true, recurses := true, named := ["internal/strconv.uint64pow10", "math/bits.deBruijn32tab", "math/bits.deBruijn64tab"], apart := false, laid := [("math/bits.deBruijn32tab", laid_math_bits_deBruijn32tab), ("math/bits.deBruijn64tab", laid_math_bits_deBruijn64tab), ("internal/strconv.uint64pow10", laid_internal_strconv_uint64pow10)], narrowed := true }
def FormulaInvertsUptoSaid : Prop := formulaInvertsUptoRow.holds Tryd.pinned (OpenSpec.upto formulaInvertsSpec)

/-- 'sixdotlaw09.FormulaParses', WHERE WHAT IT READS IS OF BULK AT MOST 1048576: true; the input reads as it did. -/
def formulaParsesUptoRow : OpenClaim := { program := "ytkgfbpbndmklnaadoor", sum := "5c88b340bb212071bf4e2d1d437ad806ce17da1bd85211912b0854073a76e516", func := "sixdot/sixdotlaw09.FormulaParses", spec := "formulaParses", unfollowed := true, recurses := true, named := ["internal/strconv.uint64pow10", "math/bits.deBruijn32tab", "math/bits.deBruijn64tab"], apart := false, laid := [("math/bits.deBruijn32tab", laid_math_bits_deBruijn32tab), ("math/bits.deBruijn64tab", laid_math_bits_deBruijn64tab), ("internal/strconv.uint64pow10", laid_internal_strconv_uint64pow10)], narrowed := true }
def FormulaParsesUptoSaid : Prop := formulaParsesUptoRow.holds Tryd.pinned (OpenSpec.upto formulaParsesSpec)

/-- 'sixdotlaw09.FormulaSpoilt', WHERE WHAT IT READS IS OF BULK AT MOST 1048576: true; the input reads as it did. -/
def formulaSpoiltUptoRow : OpenClaim := { program := "ytkgfbpbndmklnaadoor", sum := "5c88b340bb212071bf4e2d1d437ad806ce17da1bd85211912b0854073a76e516", func := "sixdot/sixdotlaw09.FormulaSpoilt", spec := "formulaSpoilt", unfollowed := true, recurses := true, named := ["internal/strconv.uint64pow10", "math/bits.deBruijn32tab", "math/bits.deBruijn64tab"], apart := false, laid := [("math/bits.deBruijn32tab", laid_math_bits_deBruijn32tab), ("math/bits.deBruijn64tab", laid_math_bits_deBruijn64tab), ("internal/strconv.uint64pow10", laid_internal_strconv_uint64pow10)], narrowed := true }
def FormulaSpoiltUptoSaid : Prop := formulaSpoiltUptoRow.holds Tryd.pinned (OpenSpec.upto formulaSpoiltSpec)

/-- 'sixdotlaw09.FormulaGoesOn', WHERE WHAT IT READS IS OF BULK AT MOST 1048576: true; the input reads as it did. -/
def formulaGoesOnUptoRow : OpenClaim := { program := "ytkgfbpbndmklnaadoor", sum := "5c88b340bb212071bf4e2d1d437ad806ce17da1bd85211912b0854073a76e516", func := "sixdot/sixdotlaw09.FormulaGoesOn", spec := "formulaGoesOn", unfollowed := true, recurses := true, named := ["internal/strconv.uint64pow10", "math/bits.deBruijn32tab", "math/bits.deBruijn64tab"], apart := false, laid := [("math/bits.deBruijn32tab", laid_math_bits_deBruijn32tab), ("math/bits.deBruijn64tab", laid_math_bits_deBruijn64tab), ("internal/strconv.uint64pow10", laid_internal_strconv_uint64pow10)], narrowed := true }
def FormulaGoesOnUptoSaid : Prop := formulaGoesOnUptoRow.holds Tryd.pinned (OpenSpec.upto formulaGoesOnSpec)

/-- 'sixdotlaw09.FormulaTrees', WHERE WHAT IT READS IS OF BULK AT MOST 1048576: true; the input reads as it did. -/
def formulaTreesUptoRow : OpenClaim := { program := "ytkgfbpbndmklnaadoor", sum := "5c88b340bb212071bf4e2d1d437ad806ce17da1bd85211912b0854073a76e516", func := "sixdot/sixdotlaw09.FormulaTrees", spec := "formulaTrees", unfollowed := true, recurses := true, named := ["internal/strconv.uint64pow10", "math/bits.deBruijn32tab", "math/bits.deBruijn64tab"], apart := false, laid := [("math/bits.deBruijn32tab", laid_math_bits_deBruijn32tab), ("math/bits.deBruijn64tab", laid_math_bits_deBruijn64tab), ("internal/strconv.uint64pow10", laid_internal_strconv_uint64pow10)], narrowed := true }
def FormulaTreesUptoSaid : Prop := formulaTreesUptoRow.holds Tryd.pinned (OpenSpec.upto formulaTreesSpec)

/-- 'sixdotlaw09.FormulaLimits', WHERE WHAT IT READS IS OF BULK AT MOST 1048576: true; the input reads as it did. -/
def formulaLimitsUptoRow : OpenClaim := { program := "ytkgfbpbndmklnaadoor", sum := "5c88b340bb212071bf4e2d1d437ad806ce17da1bd85211912b0854073a76e516", func := "sixdot/sixdotlaw09.FormulaLimits", spec := "formulaLimits", unfollowed := true, recurses := true, named := ["internal/strconv.uint64pow10", "math/bits.deBruijn32tab", "math/bits.deBruijn64tab"], apart := false, laid := [("math/bits.deBruijn32tab", laid_math_bits_deBruijn32tab), ("math/bits.deBruijn64tab", laid_math_bits_deBruijn64tab), ("internal/strconv.uint64pow10", laid_internal_strconv_uint64pow10)], narrowed := true }
def FormulaLimitsUptoSaid : Prop := formulaLimitsUptoRow.holds Tryd.pinned (OpenSpec.upto formulaLimitsSpec)

end Rows
end Go.Proofs.YtkgfbpbndmklnaaDoor
