/-
  No cell of these rows narrows 'for every input' (looked for: loops, veiled, ifaces, maps, wideKeys, modest, calm, conditions, laid).
  DERIVED. THE GIVEN ROWS OF THIS SEAT. 5 by the template 'for every input the law returns true; each argument reads behind the call as it read before'; 0 by the template 'total and deterministic' (their statements: YtbdmehgppgfiaaaTotals.lean).
  GIVEN WITH THE SEED: the statements are not yours to turn. If you find one false, say at which input.
  Laid BY PROGRAM, IN A SANDBOX (cutbox-rows.mjs): the forced cells as the released guide's own fill.sh prints them over the translation 16d9110d5154bf96… (all of the seat's roots in one cut). By AI agents, Wed Nov 11 2026. No macro, syntax, notation, axiom, sorry.
-/
import Derived.Test.YtbdmehgppgfiaaaChecked
import GoSem.Claim
import GoSem.ClaimJoined
import GoSem.ClaimMapViews
import Derived.JoinedTies
import Derived.KernelRfl
namespace Go.Proofs.Ytbdmehgppgfiaaa
/- THE CELL 'sum', in the pinned program and in every row, IS THE sha256 OF THE DUMP (.gsa) THAT YtbdmehgppgfiaaaProg.lean LOADS. Nothing in Lean hashes anything: it is a label: what it is worth is what the hold of that sum in a sandbox is worth. -/
noncomputable def Try.pinned : Pinned := { name := "ytbdmehgppgfiaaa", sum := "16d9110d5154bf961fd0f79ef698cdbbb6d7cd361d004bd73dee425885e32d63", checked := Try.checked }
namespace Rows
def none {H : Type} : Left H := { results := [], args := [] }

/-- 'sixdotlaw01.CellMatchesReference': WHATEVER THE INPUT: true; the input reads as it did. -/
def cellMatchesReferenceSpec : ChangeSpec := { name := "cellMatchesReference", fn := fun _ => fun
  | [d1, d2, d3] => { results := [.lit (.bool true)], args := [d1, d2, d3] }
  | _ => none }
def cellMatchesReferenceRow : OpenClaim := { program := "ytbdmehgppgfiaaa", sum := "16d9110d5154bf961fd0f79ef698cdbbb6d7cd361d004bd73dee425885e32d63", func := "sixdot/sixdotlaw01.CellMatchesReference", spec := "cellMatchesReference", apart := false }
def CellMatchesReferenceSaid : Prop := cellMatchesReferenceRow.holds Try.pinned (OpenSpec.ofChange cellMatchesReferenceSpec)

/-- ITS FALSE NEIGHBOUR: 'it returns false'. Refute it at one input. -/
def cellMatchesReferenceWrong : ChangeSpec := { name := "cellMatchesReference", fn := fun _ => fun
  | [d1, d2, d3] => { results := [.lit (.bool false)], args := [d1, d2, d3] }
  | _ => none }
def CellMatchesReferenceWrongFalsely : Prop := cellMatchesReferenceRow.holds Try.pinned (OpenSpec.ofChange cellMatchesReferenceWrong)

/-- 'sixdotlaw01.CellTexts': WHATEVER THE INPUT: true; the input reads as it did. -/
def cellTextsSpec : ChangeSpec := { name := "cellTexts", fn := fun _ => fun
  | [d1, d2] => { results := [.lit (.bool true)], args := [d1, d2] }
  | _ => none }
def cellTextsRow : OpenClaim := { program := "ytbdmehgppgfiaaa", sum := "16d9110d5154bf961fd0f79ef698cdbbb6d7cd361d004bd73dee425885e32d63", func := "sixdot/sixdotlaw01.CellTexts", spec := "cellTexts", apart := false }
def CellTextsSaid : Prop := cellTextsRow.holds Try.pinned (OpenSpec.ofChange cellTextsSpec)

/-- ITS FALSE NEIGHBOUR: 'it returns false'. Refute it at one input. -/
def cellTextsWrong : ChangeSpec := { name := "cellTexts", fn := fun _ => fun
  | [d1, d2] => { results := [.lit (.bool false)], args := [d1, d2] }
  | _ => none }
def CellTextsWrongFalsely : Prop := cellTextsRow.holds Try.pinned (OpenSpec.ofChange cellTextsWrong)

/-- 'sixdotlaw01.CellLines': WHATEVER THE INPUT: true; the input reads as it did. -/
def cellLinesSpec : ChangeSpec := { name := "cellLines", fn := fun _ => fun
  | [d1, d2, d3] => { results := [.lit (.bool true)], args := [d1, d2, d3] }
  | _ => none }
def cellLinesRow : OpenClaim := { program := "ytbdmehgppgfiaaa", sum := "16d9110d5154bf961fd0f79ef698cdbbb6d7cd361d004bd73dee425885e32d63", func := "sixdot/sixdotlaw01.CellLines", spec := "cellLines", apart := false }
def CellLinesSaid : Prop := cellLinesRow.holds Try.pinned (OpenSpec.ofChange cellLinesSpec)

/-- ITS FALSE NEIGHBOUR: 'it returns false'. Refute it at one input. -/
def cellLinesWrong : ChangeSpec := { name := "cellLines", fn := fun _ => fun
  | [d1, d2, d3] => { results := [.lit (.bool false)], args := [d1, d2, d3] }
  | _ => none }
def CellLinesWrongFalsely : Prop := cellLinesRow.holds Try.pinned (OpenSpec.ofChange cellLinesWrong)

/-- 'sixdotlaw01.CellMetric': WHATEVER THE INPUT: true; the input reads as it did. -/
def cellMetricSpec : ChangeSpec := { name := "cellMetric", fn := fun _ => fun
  | [d1, d2, d3] => { results := [.lit (.bool true)], args := [d1, d2, d3] }
  | _ => none }
def cellMetricRow : OpenClaim := { program := "ytbdmehgppgfiaaa", sum := "16d9110d5154bf961fd0f79ef698cdbbb6d7cd361d004bd73dee425885e32d63", func := "sixdot/sixdotlaw01.CellMetric", spec := "cellMetric", apart := false }
def CellMetricSaid : Prop := cellMetricRow.holds Try.pinned (OpenSpec.ofChange cellMetricSpec)

/-- ITS FALSE NEIGHBOUR: 'it returns false'. Refute it at one input. -/
def cellMetricWrong : ChangeSpec := { name := "cellMetric", fn := fun _ => fun
  | [d1, d2, d3] => { results := [.lit (.bool false)], args := [d1, d2, d3] }
  | _ => none }
def CellMetricWrongFalsely : Prop := cellMetricRow.holds Try.pinned (OpenSpec.ofChange cellMetricWrong)

/-- 'sixdotlaw01.CellDoubt': WHATEVER THE INPUT: true; the input reads as it did. -/
def cellDoubtSpec : ChangeSpec := { name := "cellDoubt", fn := fun _ => fun
  | [d] => { results := [.lit (.bool true)], args := [d] }
  | _ => none }
def cellDoubtRow : OpenClaim := { program := "ytbdmehgppgfiaaa", sum := "16d9110d5154bf961fd0f79ef698cdbbb6d7cd361d004bd73dee425885e32d63", func := "sixdot/sixdotlaw01.CellDoubt", spec := "cellDoubt", apart := false }
def CellDoubtSaid : Prop := cellDoubtRow.holds Try.pinned (OpenSpec.ofChange cellDoubtSpec)

/-- ITS FALSE NEIGHBOUR: 'it returns false'. Refute it at one input. -/
def cellDoubtWrong : ChangeSpec := { name := "cellDoubt", fn := fun _ => fun
  | [d] => { results := [.lit (.bool false)], args := [d] }
  | _ => none }
def CellDoubtWrongFalsely : Prop := cellDoubtRow.holds Try.pinned (OpenSpec.ofChange cellDoubtWrong)

/- THE SECOND FORM. 'bulk': how many values and letters a reading holds, each counted each time it is reached (what is shared counts as often as it is met; a slice's spare places count too). A statement '..UptoSaid' is the law's where the arguments, and the package variables that the reading takes, are together of bulk at most 1048576: NARROWER than '..Said'. Prove '..Said' where nothing that the law and all that it calls make is longer than what came in: it says more and counts as full. Else prove '..UptoSaid'. A law counts once. -/
mutual
def uptoBulk {H : Type} : DataW H → Nat
  | .lit (.string bytes) => bytes.length + 1
  | .lit _ => 1
  | .nil => 1
  | .ptr d => uptoBulk d + 1
  | .slice elems spare => uptoBulkAll elems + uptoBulkAll spare + 1
  | .agg parts => uptoBulkAll parts + 1
  | .iface _ d => uptoBulk d + 1
  | .map entries => uptoBulkEntries entries + 1
  | .held _ => 1
def uptoBulkAll {H : Type} : List (DataW H) → Nat
  | [] => 0
  | d :: r => uptoBulk d + uptoBulkAll r
def uptoBulkEntries {H : Type} : List (Lit × DataW H) → Nat
  | [] => 0
  | x :: r => uptoBulkEntry x + uptoBulkEntries r
def uptoBulkEntry {H : Type} : Lit × DataW H → Nat
  | (.string bytes, d) => bytes.length + uptoBulk d + 1
  | (_, d) => uptoBulk d + 1
 end
def uptoSmall : (H : Type) → List (DataW H) → Bool := fun _ ds => decide (uptoBulkAll ds ≤ 1048576)
def OpenSpec.upto (s : _root_.Go.ChangeSpec) : _root_.Go.OpenSpec := { _root_.Go.OpenSpec.ofChange s with cond := some uptoSmall }

/-- 'sixdotlaw01.CellMatchesReference', WHERE WHAT IT READS IS OF BULK AT MOST 1048576: true; the input reads as it did. -/
def cellMatchesReferenceUptoRow : OpenClaim := { program := "ytbdmehgppgfiaaa", sum := "16d9110d5154bf961fd0f79ef698cdbbb6d7cd361d004bd73dee425885e32d63", func := "sixdot/sixdotlaw01.CellMatchesReference", spec := "cellMatchesReference", apart := false, narrowed := true }
def CellMatchesReferenceUptoSaid : Prop := cellMatchesReferenceUptoRow.holds Try.pinned (OpenSpec.upto cellMatchesReferenceSpec)

/-- 'sixdotlaw01.CellTexts', WHERE WHAT IT READS IS OF BULK AT MOST 1048576: true; the input reads as it did. -/
def cellTextsUptoRow : OpenClaim := { program := "ytbdmehgppgfiaaa", sum := "16d9110d5154bf961fd0f79ef698cdbbb6d7cd361d004bd73dee425885e32d63", func := "sixdot/sixdotlaw01.CellTexts", spec := "cellTexts", apart := false, narrowed := true }
def CellTextsUptoSaid : Prop := cellTextsUptoRow.holds Try.pinned (OpenSpec.upto cellTextsSpec)

/-- 'sixdotlaw01.CellLines', WHERE WHAT IT READS IS OF BULK AT MOST 1048576: true; the input reads as it did. -/
def cellLinesUptoRow : OpenClaim := { program := "ytbdmehgppgfiaaa", sum := "16d9110d5154bf961fd0f79ef698cdbbb6d7cd361d004bd73dee425885e32d63", func := "sixdot/sixdotlaw01.CellLines", spec := "cellLines", apart := false, narrowed := true }
def CellLinesUptoSaid : Prop := cellLinesUptoRow.holds Try.pinned (OpenSpec.upto cellLinesSpec)

/-- 'sixdotlaw01.CellMetric', WHERE WHAT IT READS IS OF BULK AT MOST 1048576: true; the input reads as it did. -/
def cellMetricUptoRow : OpenClaim := { program := "ytbdmehgppgfiaaa", sum := "16d9110d5154bf961fd0f79ef698cdbbb6d7cd361d004bd73dee425885e32d63", func := "sixdot/sixdotlaw01.CellMetric", spec := "cellMetric", apart := false, narrowed := true }
def CellMetricUptoSaid : Prop := cellMetricUptoRow.holds Try.pinned (OpenSpec.upto cellMetricSpec)

/-- 'sixdotlaw01.CellDoubt', WHERE WHAT IT READS IS OF BULK AT MOST 1048576: true; the input reads as it did. -/
def cellDoubtUptoRow : OpenClaim := { program := "ytbdmehgppgfiaaa", sum := "16d9110d5154bf961fd0f79ef698cdbbb6d7cd361d004bd73dee425885e32d63", func := "sixdot/sixdotlaw01.CellDoubt", spec := "cellDoubt", apart := false, narrowed := true }
def CellDoubtUptoSaid : Prop := cellDoubtUptoRow.holds Try.pinned (OpenSpec.upto cellDoubtSpec)

end Rows
end Go.Proofs.Ytbdmehgppgfiaaa
