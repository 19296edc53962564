/-
  NARROWER THAN 'FOR EVERY INPUT', by the rows' own cells (each row's printed sentence says how): NumberMatchesReference: laid · NumberReads: laid · NumberPages: laid · NumberHeaders: laid · NumberHeadersMatchReference: laid.
  DERIVED. THE GIVEN ROWS OF THIS SEAT. 5 by the template 'for every input the law returns true; each argument reads behind the call as it read before'; 0 by the template 'total and deterministic' (their statements: YtlcoabpgknpaoaaDoorTotals.lean).
  GIVEN WITH THE SEED: the statements are not yours to turn. If you find one false, say at which input.
  Laid BY PROGRAM, IN A SANDBOX (cutbox-rows.mjs): the forced cells as the released guide's own fill.sh prints them over the translation 52c35c41792cc73f… (all of the seat's roots in one cut). By AI agents, Wed Nov 11 2026. No macro, syntax, notation, axiom, sorry.
-/
import Derived.Test.YtlcoabpgknpaoaaDoorChecked
import GoSem.Claim
import GoSem.ClaimJoined
import GoSem.ClaimMapViews
import Derived.JoinedTies
import Derived.KernelRfl
namespace Go.Proofs.YtlcoabpgknpaoaaDoor
/- THE CELL 'sum', in the pinned program and in every row, IS THE sha256 OF THE DUMP (.gsa) THAT YtlcoabpgknpaoaaDoorProg.lean LOADS. Nothing in Lean hashes anything: it is a label: what it is worth is what the hold of that sum in a sandbox is worth. -/
noncomputable def Tryd.pinned : Pinned := { name := "ytlcoabpgknpaoaadoor", sum := "52c35c41792cc73f654449144db9b13bf1c02a4bf2dab4866e08f193a71b9b15", checked := Tryd.checked }
namespace Rows
def none {H : Type} : Left H := { results := [], args := [] }

/- WHAT THE LISTED PACKAGE-LEVEL VARIABLES READ AS WHEN THE CALL BEGINS. Each datum BY PROGRAM (the guide's laid-datum.mjs) off the statement by which the dump's own 'gosem.cut.vars' lays the variable. In a bare row this is a premise. The card (YtlcoabpgknpaoaaDoorCards.lean) ties it to the program's text. -/
def laid_math_bits_deBruijn32tab {H : Type} : DataW H := .agg [.lit (.int .u8 0), .lit (.int .u8 1), .lit (.int .u8 28), .lit (.int .u8 2), .lit (.int .u8 29), .lit (.int .u8 14), .lit (.int .u8 24), .lit (.int .u8 3), .lit (.int .u8 30), .lit (.int .u8 22), .lit (.int .u8 20), .lit (.int .u8 15), .lit (.int .u8 25), .lit (.int .u8 17), .lit (.int .u8 4), .lit (.int .u8 8), .lit (.int .u8 31), .lit (.int .u8 27), .lit (.int .u8 13), .lit (.int .u8 23), .lit (.int .u8 21), .lit (.int .u8 19), .lit (.int .u8 16), .lit (.int .u8 7), .lit (.int .u8 26), .lit (.int .u8 12), .lit (.int .u8 18), .lit (.int .u8 6), .lit (.int .u8 11), .lit (.int .u8 5), .lit (.int .u8 10), .lit (.int .u8 9)]
def laid_math_bits_deBruijn64tab {H : Type} : DataW H := .agg [.lit (.int .u8 0), .lit (.int .u8 1), .lit (.int .u8 56), .lit (.int .u8 2), .lit (.int .u8 57), .lit (.int .u8 49), .lit (.int .u8 28), .lit (.int .u8 3), .lit (.int .u8 61), .lit (.int .u8 58), .lit (.int .u8 42), .lit (.int .u8 50), .lit (.int .u8 38), .lit (.int .u8 29), .lit (.int .u8 17), .lit (.int .u8 4), .lit (.int .u8 62), .lit (.int .u8 47), .lit (.int .u8 59), .lit (.int .u8 36), .lit (.int .u8 45), .lit (.int .u8 43), .lit (.int .u8 51), .lit (.int .u8 22), .lit (.int .u8 53), .lit (.int .u8 39), .lit (.int .u8 33), .lit (.int .u8 30), .lit (.int .u8 24), .lit (.int .u8 18), .lit (.int .u8 12), .lit (.int .u8 5), .lit (.int .u8 63), .lit (.int .u8 55), .lit (.int .u8 48), .lit (.int .u8 27), .lit (.int .u8 60), .lit (.int .u8 41), .lit (.int .u8 37), .lit (.int .u8 16), .lit (.int .u8 46), .lit (.int .u8 35), .lit (.int .u8 44), .lit (.int .u8 21), .lit (.int .u8 52), .lit (.int .u8 32), .lit (.int .u8 23), .lit (.int .u8 11), .lit (.int .u8 54), .lit (.int .u8 26), .lit (.int .u8 40), .lit (.int .u8 15), .lit (.int .u8 34), .lit (.int .u8 20), .lit (.int .u8 31), .lit (.int .u8 10), .lit (.int .u8 25), .lit (.int .u8 14), .lit (.int .u8 19), .lit (.int .u8 9), .lit (.int .u8 13), .lit (.int .u8 8), .lit (.int .u8 7), .lit (.int .u8 6)]
def laid_internal_strconv_uint64pow10 {H : Type} : DataW H := .agg [.lit (.int .u64 1), .lit (.int .u64 10), .lit (.int .u64 100), .lit (.int .u64 1000), .lit (.int .u64 10000), .lit (.int .u64 100000), .lit (.int .u64 1000000), .lit (.int .u64 10000000), .lit (.int .u64 100000000), .lit (.int .u64 1000000000), .lit (.int .u64 10000000000), .lit (.int .u64 100000000000), .lit (.int .u64 1000000000000), .lit (.int .u64 10000000000000), .lit (.int .u64 100000000000000), .lit (.int .u64 1000000000000000), .lit (.int .u64 10000000000000000), .lit (.int .u64 100000000000000000), .lit (.int .u64 1000000000000000000), .lit (.int .u64 10000000000000000000)]
def laid_sixdot_number_digits {H : Type} : DataW H := .agg [.lit (.int .u8 26), .lit (.int .u8 1), .lit (.int .u8 3), .lit (.int .u8 9), .lit (.int .u8 25), .lit (.int .u8 17), .lit (.int .u8 11), .lit (.int .u8 27), .lit (.int .u8 19), .lit (.int .u8 10)]
def laid_sixdot_number_letters {H : Type} : DataW H := .agg [.lit (.int .u8 1), .lit (.int .u8 3), .lit (.int .u8 9), .lit (.int .u8 25), .lit (.int .u8 17), .lit (.int .u8 11), .lit (.int .u8 27), .lit (.int .u8 19), .lit (.int .u8 10), .lit (.int .u8 26), .lit (.int .u8 5), .lit (.int .u8 7), .lit (.int .u8 13), .lit (.int .u8 29), .lit (.int .u8 21), .lit (.int .u8 15), .lit (.int .u8 31), .lit (.int .u8 23), .lit (.int .u8 14), .lit (.int .u8 30), .lit (.int .u8 37), .lit (.int .u8 39), .lit (.int .u8 58), .lit (.int .u8 45), .lit (.int .u8 61), .lit (.int .u8 53)]

/-- 'sixdotlaw19.NumberMatchesReference': WHATEVER THE INPUT: true; the input reads as it did. -/
def numberMatchesReferenceSpec : ChangeSpec := { name := "numberMatchesReference", fn := fun _ => fun
  | [d1, d2, d3] => { results := [.lit (.bool true)], args := [d1, d2, d3] }
  | _ => none }
def numberMatchesReferenceRow : OpenClaim := { program := "ytlcoabpgknpaoaadoor", sum := "52c35c41792cc73f654449144db9b13bf1c02a4bf2dab4866e08f193a71b9b15", func := "sixdot/sixdotlaw19.NumberMatchesReference", spec := "numberMatchesReference", named := ["sixdot/number.digits", "internal/strconv.uint64pow10", "math/bits.deBruijn32tab", "math/bits.deBruijn64tab", "sixdot/number.letters"], apart := false, laid := [("math/bits.deBruijn32tab", laid_math_bits_deBruijn32tab), ("math/bits.deBruijn64tab", laid_math_bits_deBruijn64tab), ("internal/strconv.uint64pow10", laid_internal_strconv_uint64pow10), ("sixdot/number.digits", laid_sixdot_number_digits), ("sixdot/number.letters", laid_sixdot_number_letters)] }
def NumberMatchesReferenceSaid : Prop := numberMatchesReferenceRow.holds Tryd.pinned (OpenSpec.ofChange numberMatchesReferenceSpec)

/-- ITS FALSE NEIGHBOUR: 'it returns false'. Refute it at one input. -/
def numberMatchesReferenceWrong : ChangeSpec := { name := "numberMatchesReference", fn := fun _ => fun
  | [d1, d2, d3] => { results := [.lit (.bool false)], args := [d1, d2, d3] }
  | _ => none }
def NumberMatchesReferenceWrongFalsely : Prop := numberMatchesReferenceRow.holds Tryd.pinned (OpenSpec.ofChange numberMatchesReferenceWrong)

/-- 'sixdotlaw19.NumberReads': WHATEVER THE INPUT: true; the input reads as it did. -/
def numberReadsSpec : ChangeSpec := { name := "numberReads", fn := fun _ => fun
  | [d1, d2] => { results := [.lit (.bool true)], args := [d1, d2] }
  | _ => none }
def numberReadsRow : OpenClaim := { program := "ytlcoabpgknpaoaadoor", sum := "52c35c41792cc73f654449144db9b13bf1c02a4bf2dab4866e08f193a71b9b15", func := "sixdot/sixdotlaw19.NumberReads", spec := "numberReads", named := ["sixdot/number.digits", "internal/strconv.uint64pow10", "math/bits.deBruijn32tab", "math/bits.deBruijn64tab", "sixdot/number.letters"], apart := false, laid := [("math/bits.deBruijn32tab", laid_math_bits_deBruijn32tab), ("math/bits.deBruijn64tab", laid_math_bits_deBruijn64tab), ("internal/strconv.uint64pow10", laid_internal_strconv_uint64pow10), ("sixdot/number.digits", laid_sixdot_number_digits), ("sixdot/number.letters", laid_sixdot_number_letters)] }
def NumberReadsSaid : Prop := numberReadsRow.holds Tryd.pinned (OpenSpec.ofChange numberReadsSpec)

/-- ITS FALSE NEIGHBOUR: 'it returns false'. Refute it at one input. -/
def numberReadsWrong : ChangeSpec := { name := "numberReads", fn := fun _ => fun
  | [d1, d2] => { results := [.lit (.bool false)], args := [d1, d2] }
  | _ => none }
def NumberReadsWrongFalsely : Prop := numberReadsRow.holds Tryd.pinned (OpenSpec.ofChange numberReadsWrong)

/-- 'sixdotlaw19.NumberPages': WHATEVER THE INPUT: true; the input reads as it did. -/
def numberPagesSpec : ChangeSpec := { name := "numberPages", fn := fun _ => fun
  | [d1, d2] => { results := [.lit (.bool true)], args := [d1, d2] }
  | _ => none }
def numberPagesRow : OpenClaim := { program := "ytlcoabpgknpaoaadoor", sum := "52c35c41792cc73f654449144db9b13bf1c02a4bf2dab4866e08f193a71b9b15", func := "sixdot/sixdotlaw19.NumberPages", spec := "numberPages", named := ["sixdot/number.digits", "internal/strconv.uint64pow10", "math/bits.deBruijn32tab", "math/bits.deBruijn64tab", "sixdot/number.letters"], apart := false, laid := [("math/bits.deBruijn32tab", laid_math_bits_deBruijn32tab), ("math/bits.deBruijn64tab", laid_math_bits_deBruijn64tab), ("internal/strconv.uint64pow10", laid_internal_strconv_uint64pow10), ("sixdot/number.digits", laid_sixdot_number_digits), ("sixdot/number.letters", laid_sixdot_number_letters)] }
def NumberPagesSaid : Prop := numberPagesRow.holds Tryd.pinned (OpenSpec.ofChange numberPagesSpec)

/-- ITS FALSE NEIGHBOUR: 'it returns false'. Refute it at one input. -/
def numberPagesWrong : ChangeSpec := { name := "numberPages", fn := fun _ => fun
  | [d1, d2] => { results := [.lit (.bool false)], args := [d1, d2] }
  | _ => none }
def NumberPagesWrongFalsely : Prop := numberPagesRow.holds Tryd.pinned (OpenSpec.ofChange numberPagesWrong)

/-- 'sixdotlaw19.NumberHeaders': WHATEVER THE INPUT: true; the input reads as it did. -/
def numberHeadersSpec : ChangeSpec := { name := "numberHeaders", fn := fun _ => fun
  | [d1, d2, d3] => { results := [.lit (.bool true)], args := [d1, d2, d3] }
  | _ => none }
def numberHeadersRow : OpenClaim := { program := "ytlcoabpgknpaoaadoor", sum := "52c35c41792cc73f654449144db9b13bf1c02a4bf2dab4866e08f193a71b9b15", func := "sixdot/sixdotlaw19.NumberHeaders", spec := "numberHeaders", named := ["sixdot/number.digits", "internal/strconv.uint64pow10", "math/bits.deBruijn32tab", "math/bits.deBruijn64tab", "sixdot/number.letters"], apart := false, laid := [("math/bits.deBruijn32tab", laid_math_bits_deBruijn32tab), ("math/bits.deBruijn64tab", laid_math_bits_deBruijn64tab), ("internal/strconv.uint64pow10", laid_internal_strconv_uint64pow10), ("sixdot/number.digits", laid_sixdot_number_digits), ("sixdot/number.letters", laid_sixdot_number_letters)] }
def NumberHeadersSaid : Prop := numberHeadersRow.holds Tryd.pinned (OpenSpec.ofChange numberHeadersSpec)

/-- ITS FALSE NEIGHBOUR: 'it returns false'. Refute it at one input. -/
def numberHeadersWrong : ChangeSpec := { name := "numberHeaders", fn := fun _ => fun
  | [d1, d2, d3] => { results := [.lit (.bool false)], args := [d1, d2, d3] }
  | _ => none }
def NumberHeadersWrongFalsely : Prop := numberHeadersRow.holds Tryd.pinned (OpenSpec.ofChange numberHeadersWrong)

/-- 'sixdotlaw19.NumberHeadersMatchReference': WHATEVER THE INPUT: true; the input reads as it did. -/
def numberHeadersMatchReferenceSpec : ChangeSpec := { name := "numberHeadersMatchReference", fn := fun _ => fun
  | [d1, d2, d3] => { results := [.lit (.bool true)], args := [d1, d2, d3] }
  | _ => none }
def numberHeadersMatchReferenceRow : OpenClaim := { program := "ytlcoabpgknpaoaadoor", sum := "52c35c41792cc73f654449144db9b13bf1c02a4bf2dab4866e08f193a71b9b15", func := "sixdot/sixdotlaw19.NumberHeadersMatchReference", spec := "numberHeadersMatchReference", named := ["sixdot/number.digits", "internal/strconv.uint64pow10", "math/bits.deBruijn32tab", "math/bits.deBruijn64tab", "sixdot/number.letters"], apart := false, laid := [("math/bits.deBruijn32tab", laid_math_bits_deBruijn32tab), ("math/bits.deBruijn64tab", laid_math_bits_deBruijn64tab), ("internal/strconv.uint64pow10", laid_internal_strconv_uint64pow10), ("sixdot/number.digits", laid_sixdot_number_digits), ("sixdot/number.letters", laid_sixdot_number_letters)] }
def NumberHeadersMatchReferenceSaid : Prop := numberHeadersMatchReferenceRow.holds Tryd.pinned (OpenSpec.ofChange numberHeadersMatchReferenceSpec)

/-- ITS FALSE NEIGHBOUR: 'it returns false'. Refute it at one input. -/
def numberHeadersMatchReferenceWrong : ChangeSpec := { name := "numberHeadersMatchReference", fn := fun _ => fun
  | [d1, d2, d3] => { results := [.lit (.bool false)], args := [d1, d2, d3] }
  | _ => none }
def NumberHeadersMatchReferenceWrongFalsely : Prop := numberHeadersMatchReferenceRow.holds Tryd.pinned (OpenSpec.ofChange numberHeadersMatchReferenceWrong)

/- THE SECOND FORM. 'bulk': how many values and letters a reading holds, each counted each time it is reached (what is shared counts as often as it is met; a slice's spare places count too). A statement '..UptoSaid' is the law's where the arguments, and the package variables that the reading takes, are together of bulk at most 1048576: NARROWER than '..Said'. Prove '..Said' where nothing that the law and all that it calls make is longer than what came in: it says more and counts as full. Else prove '..UptoSaid'. A law counts once. -/
mutual
def uptoBulk {H : Type} : DataW H → Nat
  | .lit (.string bytes) => bytes.length + 1
  | .lit _ => 1
  | .nil => 1
  | .ptr d => uptoBulk d + 1
  | .slice elems spare => uptoBulkAll elems + uptoBulkAll spare + 1
  | .agg parts => uptoBulkAll parts + 1
  | .iface _ d => uptoBulk d + 1
  | .map entries => uptoBulkEntries entries + 1
  | .held _ => 1
def uptoBulkAll {H : Type} : List (DataW H) → Nat
  | [] => 0
  | d :: r => uptoBulk d + uptoBulkAll r
def uptoBulkEntries {H : Type} : List (Lit × DataW H) → Nat
  | [] => 0
  | x :: r => uptoBulkEntry x + uptoBulkEntries r
def uptoBulkEntry {H : Type} : Lit × DataW H → Nat
  | (.string bytes, d) => bytes.length + uptoBulk d + 1
  | (_, d) => uptoBulk d + 1
 end
def uptoSmall : (H : Type) → List (DataW H) → Bool := fun _ ds => decide (uptoBulkAll ds ≤ 1048576)
def OpenSpec.upto (s : _root_.Go.ChangeSpec) : _root_.Go.OpenSpec := { _root_.Go.OpenSpec.ofChange s with cond := some uptoSmall }

/-- 'sixdotlaw19.NumberMatchesReference', WHERE WHAT IT READS IS OF BULK AT MOST 1048576: true; the input reads as it did. -/
def numberMatchesReferenceUptoRow : OpenClaim := { program := "ytlcoabpgknpaoaadoor", sum := "52c35c41792cc73f654449144db9b13bf1c02a4bf2dab4866e08f193a71b9b15", func := "sixdot/sixdotlaw19.NumberMatchesReference", spec := "numberMatchesReference", named := ["sixdot/number.digits", "internal/strconv.uint64pow10", "math/bits.deBruijn32tab", "math/bits.deBruijn64tab", "sixdot/number.letters"], apart := false, laid := [("math/bits.deBruijn32tab", laid_math_bits_deBruijn32tab), ("math/bits.deBruijn64tab", laid_math_bits_deBruijn64tab), ("internal/strconv.uint64pow10", laid_internal_strconv_uint64pow10), ("sixdot/number.digits", laid_sixdot_number_digits), ("sixdot/number.letters", laid_sixdot_number_letters)], narrowed := true }
def NumberMatchesReferenceUptoSaid : Prop := numberMatchesReferenceUptoRow.holds Tryd.pinned (OpenSpec.upto numberMatchesReferenceSpec)

/-- 'sixdotlaw19.NumberReads', WHERE WHAT IT READS IS OF BULK AT MOST 1048576: true; the input reads as it did. -/
def numberReadsUptoRow : OpenClaim := { program := "ytlcoabpgknpaoaadoor", sum := "52c35c41792cc73f654449144db9b13bf1c02a4bf2dab4866e08f193a71b9b15", func := "sixdot/sixdotlaw19.NumberReads", spec := "numberReads", named := ["sixdot/number.digits", "internal/strconv.uint64pow10", "math/bits.deBruijn32tab", "math/bits.deBruijn64tab", "sixdot/number.letters"], apart := false, laid := [("math/bits.deBruijn32tab", laid_math_bits_deBruijn32tab), ("math/bits.deBruijn64tab", laid_math_bits_deBruijn64tab), ("internal/strconv.uint64pow10", laid_internal_strconv_uint64pow10), ("sixdot/number.digits", laid_sixdot_number_digits), ("sixdot/number.letters", laid_sixdot_number_letters)], narrowed := true }
def NumberReadsUptoSaid : Prop := numberReadsUptoRow.holds Tryd.pinned (OpenSpec.upto numberReadsSpec)

/-- 'sixdotlaw19.NumberPages', WHERE WHAT IT READS IS OF BULK AT MOST 1048576: true; the input reads as it did. -/
def numberPagesUptoRow : OpenClaim := { program := "ytlcoabpgknpaoaadoor", sum := "52c35c41792cc73f654449144db9b13bf1c02a4bf2dab4866e08f193a71b9b15", func := "sixdot/sixdotlaw19.NumberPages", spec := "numberPages", named := ["sixdot/number.digits", "internal/strconv.uint64pow10", "math/bits.deBruijn32tab", "math/bits.deBruijn64tab", "sixdot/number.letters"], apart := false, laid := [("math/bits.deBruijn32tab", laid_math_bits_deBruijn32tab), ("math/bits.deBruijn64tab", laid_math_bits_deBruijn64tab), ("internal/strconv.uint64pow10", laid_internal_strconv_uint64pow10), ("sixdot/number.digits", laid_sixdot_number_digits), ("sixdot/number.letters", laid_sixdot_number_letters)], narrowed := true }
def NumberPagesUptoSaid : Prop := numberPagesUptoRow.holds Tryd.pinned (OpenSpec.upto numberPagesSpec)

/-- 'sixdotlaw19.NumberHeaders', WHERE WHAT IT READS IS OF BULK AT MOST 1048576: true; the input reads as it did. -/
def numberHeadersUptoRow : OpenClaim := { program := "ytlcoabpgknpaoaadoor", sum := "52c35c41792cc73f654449144db9b13bf1c02a4bf2dab4866e08f193a71b9b15", func := "sixdot/sixdotlaw19.NumberHeaders", spec := "numberHeaders", named := ["sixdot/number.digits", "internal/strconv.uint64pow10", "math/bits.deBruijn32tab", "math/bits.deBruijn64tab", "sixdot/number.letters"], apart := false, laid := [("math/bits.deBruijn32tab", laid_math_bits_deBruijn32tab), ("math/bits.deBruijn64tab", laid_math_bits_deBruijn64tab), ("internal/strconv.uint64pow10", laid_internal_strconv_uint64pow10), ("sixdot/number.digits", laid_sixdot_number_digits), ("sixdot/number.letters", laid_sixdot_number_letters)], narrowed := true }
def NumberHeadersUptoSaid : Prop := numberHeadersUptoRow.holds Tryd.pinned (OpenSpec.upto numberHeadersSpec)

/-- 'sixdotlaw19.NumberHeadersMatchReference', WHERE WHAT IT READS IS OF BULK AT MOST 1048576: true; the input reads as it did. -/
def numberHeadersMatchReferenceUptoRow : OpenClaim := { program := "ytlcoabpgknpaoaadoor", sum := "52c35c41792cc73f654449144db9b13bf1c02a4bf2dab4866e08f193a71b9b15", func := "sixdot/sixdotlaw19.NumberHeadersMatchReference", spec := "numberHeadersMatchReference", named := ["sixdot/number.digits", "internal/strconv.uint64pow10", "math/bits.deBruijn32tab", "math/bits.deBruijn64tab", "sixdot/number.letters"], apart := false, laid := [("math/bits.deBruijn32tab", laid_math_bits_deBruijn32tab), ("math/bits.deBruijn64tab", laid_math_bits_deBruijn64tab), ("internal/strconv.uint64pow10", laid_internal_strconv_uint64pow10), ("sixdot/number.digits", laid_sixdot_number_digits), ("sixdot/number.letters", laid_sixdot_number_letters)], narrowed := true }
def NumberHeadersMatchReferenceUptoSaid : Prop := numberHeadersMatchReferenceUptoRow.holds Tryd.pinned (OpenSpec.upto numberHeadersMatchReferenceSpec)

end Rows
end Go.Proofs.YtlcoabpgknpaoaaDoor
