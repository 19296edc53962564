/-
  DERIVED. GIVEN WITH THE SEED: THE CARDS: each row of YtkgfbpbndmklnaaDoorRows.lean that lists a variable, with what it lists TIED to the program's text (the seventh form; the later family's looks); each row that meets fmt, with fmt's text TOLD by the authors' own Lean function (tested against real Go, not proved from fmt's source: count such statements apart). THE CARD IS WHAT COUNTS. Prove the row's statement (the work); the ties are given (YtkgfbpbndmklnaaDoorTie.lean); close each card by the builder's one call (the guide's Derived/Test/ToyasCard.lean, 'card_holds'). Laid BY PROGRAM, IN A SANDBOX (cutbox-door.mjs). By AI agents, Wed Nov 11 2026. No macro, syntax, notation, axiom, sorry.
-/
import Derived.Test.YtkgfbpbndmklnaaDoorRows
import GoSem.ClaimSeven
namespace Go.Proofs.YtkgfbpbndmklnaaDoor
namespace Rows

/-- THE TIED CARD OF 'sixdotlaw09.FormulaValid'. -/
def formulaValidCard : Claim7 := { stood := { row := formulaValidRow, standIns := [], harness := (true, "9df21c2ca6dcac51451763eb372849b1b1e142e8984060048754ade5d5d0881c"), looks := false }, kinds := [], alts := [], laidByText := true, laidKinds := [.data, .data, .data], laidTests := true, laidLooks := .later }
def FormulaValidCardSaid : Prop := Claim7.holds Tryd.pinned (.plain (OpenSpec.ofChange formulaValidSpec)) formulaValidCard

/-- THE TIED CARD OF 'sixdotlaw09.FormulaInverts'. -/
def formulaInvertsCard : Claim7 := { stood := { row := formulaInvertsRow, standIns := [], harness := (true, "9df21c2ca6dcac51451763eb372849b1b1e142e8984060048754ade5d5d0881c"), looks := false }, kinds := [], alts := [], laidByText := true, laidKinds := [.data, .data, .data], laidTests := true, laidLooks := .later }
def FormulaInvertsCardSaid : Prop := Claim7.holds Tryd.pinned (.plain (OpenSpec.ofChange formulaInvertsSpec)) formulaInvertsCard

/-- THE TIED CARD OF 'sixdotlaw09.FormulaParses'. -/
def formulaParsesCard : Claim7 := { stood := { row := formulaParsesRow, standIns := [], harness := (true, "9df21c2ca6dcac51451763eb372849b1b1e142e8984060048754ade5d5d0881c"), looks := false }, kinds := [], alts := [], laidByText := true, laidKinds := [.data, .data, .data], laidTests := true, laidLooks := .later }
def FormulaParsesCardSaid : Prop := Claim7.holds Tryd.pinned (.plain (OpenSpec.ofChange formulaParsesSpec)) formulaParsesCard

/-- THE TIED CARD OF 'sixdotlaw09.FormulaSpoilt'. -/
def formulaSpoiltCard : Claim7 := { stood := { row := formulaSpoiltRow, standIns := [], harness := (true, "9df21c2ca6dcac51451763eb372849b1b1e142e8984060048754ade5d5d0881c"), looks := false }, kinds := [], alts := [], laidByText := true, laidKinds := [.data, .data, .data], laidTests := true, laidLooks := .later }
def FormulaSpoiltCardSaid : Prop := Claim7.holds Tryd.pinned (.plain (OpenSpec.ofChange formulaSpoiltSpec)) formulaSpoiltCard

/-- THE TIED CARD OF 'sixdotlaw09.FormulaGoesOn'. -/
def formulaGoesOnCard : Claim7 := { stood := { row := formulaGoesOnRow, standIns := [], harness := (true, "9df21c2ca6dcac51451763eb372849b1b1e142e8984060048754ade5d5d0881c"), looks := false }, kinds := [], alts := [], laidByText := true, laidKinds := [.data, .data, .data], laidTests := true, laidLooks := .later }
def FormulaGoesOnCardSaid : Prop := Claim7.holds Tryd.pinned (.plain (OpenSpec.ofChange formulaGoesOnSpec)) formulaGoesOnCard

/-- THE TIED CARD OF 'sixdotlaw09.FormulaTrees'. -/
def formulaTreesCard : Claim7 := { stood := { row := formulaTreesRow, standIns := [], harness := (true, "9df21c2ca6dcac51451763eb372849b1b1e142e8984060048754ade5d5d0881c"), looks := false }, kinds := [], alts := [], laidByText := true, laidKinds := [.data, .data, .data], laidTests := true, laidLooks := .later }
def FormulaTreesCardSaid : Prop := Claim7.holds Tryd.pinned (.plain (OpenSpec.ofChange formulaTreesSpec)) formulaTreesCard

/-- THE TIED CARD OF 'sixdotlaw09.FormulaLimits'. -/
def formulaLimitsCard : Claim7 := { stood := { row := formulaLimitsRow, standIns := [], harness := (true, "9df21c2ca6dcac51451763eb372849b1b1e142e8984060048754ade5d5d0881c"), looks := false }, kinds := [], alts := [], laidByText := true, laidKinds := [.data, .data, .data], laidTests := true, laidLooks := .later }
def FormulaLimitsCardSaid : Prop := Claim7.holds Tryd.pinned (.plain (OpenSpec.ofChange formulaLimitsSpec)) formulaLimitsCard

/-- THE SECOND FORM's CARD OF 'sixdotlaw09.FormulaValid'. -/
def formulaValidUptoCard : Claim7 := { stood := { row := formulaValidUptoRow, standIns := [], harness := (true, "9df21c2ca6dcac51451763eb372849b1b1e142e8984060048754ade5d5d0881c"), looks := false }, kinds := [], alts := [], laidByText := true, laidKinds := [.data, .data, .data], laidTests := true, laidLooks := .later }
def FormulaValidUptoCardSaid : Prop := Claim7.holds Tryd.pinned (.plain (OpenSpec.upto formulaValidSpec)) formulaValidUptoCard

/-- THE SECOND FORM's CARD OF 'sixdotlaw09.FormulaInverts'. -/
def formulaInvertsUptoCard : Claim7 := { stood := { row := formulaInvertsUptoRow, standIns := [], harness := (true, "9df21c2ca6dcac51451763eb372849b1b1e142e8984060048754ade5d5d0881c"), looks := false }, kinds := [], alts := [], laidByText := true, laidKinds := [.data, .data, .data], laidTests := true, laidLooks := .later }
def FormulaInvertsUptoCardSaid : Prop := Claim7.holds Tryd.pinned (.plain (OpenSpec.upto formulaInvertsSpec)) formulaInvertsUptoCard

/-- THE SECOND FORM's CARD OF 'sixdotlaw09.FormulaParses'. -/
def formulaParsesUptoCard : Claim7 := { stood := { row := formulaParsesUptoRow, standIns := [], harness := (true, "9df21c2ca6dcac51451763eb372849b1b1e142e8984060048754ade5d5d0881c"), looks := false }, kinds := [], alts := [], laidByText := true, laidKinds := [.data, .data, .data], laidTests := true, laidLooks := .later }
def FormulaParsesUptoCardSaid : Prop := Claim7.holds Tryd.pinned (.plain (OpenSpec.upto formulaParsesSpec)) formulaParsesUptoCard

/-- THE SECOND FORM's CARD OF 'sixdotlaw09.FormulaSpoilt'. -/
def formulaSpoiltUptoCard : Claim7 := { stood := { row := formulaSpoiltUptoRow, standIns := [], harness := (true, "9df21c2ca6dcac51451763eb372849b1b1e142e8984060048754ade5d5d0881c"), looks := false }, kinds := [], alts := [], laidByText := true, laidKinds := [.data, .data, .data], laidTests := true, laidLooks := .later }
def FormulaSpoiltUptoCardSaid : Prop := Claim7.holds Tryd.pinned (.plain (OpenSpec.upto formulaSpoiltSpec)) formulaSpoiltUptoCard

/-- THE SECOND FORM's CARD OF 'sixdotlaw09.FormulaGoesOn'. -/
def formulaGoesOnUptoCard : Claim7 := { stood := { row := formulaGoesOnUptoRow, standIns := [], harness := (true, "9df21c2ca6dcac51451763eb372849b1b1e142e8984060048754ade5d5d0881c"), looks := false }, kinds := [], alts := [], laidByText := true, laidKinds := [.data, .data, .data], laidTests := true, laidLooks := .later }
def FormulaGoesOnUptoCardSaid : Prop := Claim7.holds Tryd.pinned (.plain (OpenSpec.upto formulaGoesOnSpec)) formulaGoesOnUptoCard

/-- THE SECOND FORM's CARD OF 'sixdotlaw09.FormulaTrees'. -/
def formulaTreesUptoCard : Claim7 := { stood := { row := formulaTreesUptoRow, standIns := [], harness := (true, "9df21c2ca6dcac51451763eb372849b1b1e142e8984060048754ade5d5d0881c"), looks := false }, kinds := [], alts := [], laidByText := true, laidKinds := [.data, .data, .data], laidTests := true, laidLooks := .later }
def FormulaTreesUptoCardSaid : Prop := Claim7.holds Tryd.pinned (.plain (OpenSpec.upto formulaTreesSpec)) formulaTreesUptoCard

/-- THE SECOND FORM's CARD OF 'sixdotlaw09.FormulaLimits'. -/
def formulaLimitsUptoCard : Claim7 := { stood := { row := formulaLimitsUptoRow, standIns := [], harness := (true, "9df21c2ca6dcac51451763eb372849b1b1e142e8984060048754ade5d5d0881c"), looks := false }, kinds := [], alts := [], laidByText := true, laidKinds := [.data, .data, .data], laidTests := true, laidLooks := .later }
def FormulaLimitsUptoCardSaid : Prop := Claim7.holds Tryd.pinned (.plain (OpenSpec.upto formulaLimitsSpec)) formulaLimitsUptoCard
end Rows
end Go.Proofs.YtkgfbpbndmklnaaDoor
