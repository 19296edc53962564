/- Own work. -/
import Derived.Test.YtkgfbpbndmklnaaDoorSh
import Derived.Test.YtkgfbpbndmklnaaDoorP09c
set_option linter.unusedSimpArgs false
set_option linter.unusedVariables false
set_option maxRecDepth 100000
namespace Go.Proofs.YtkgfbpbndmklnaaDoor
open Go.Abs
theorem law_FormulaLimits (xss : List (List IV)) (hs : ShpL Tryd.prog [24, 5, 5] xss) : QSpec Tryd.prog 9 (argsA Tryd.prog [24, 5, 5] xss) (.bool true) := by
  match xss, hs with
  | [x0, x1, x2], ⟨h0, h1, h2, _⟩ =>
    obtain ⟨t0, rfl, k0⟩ := ty24 _ h0
    obtain ⟨t1, rfl, k1⟩ := ty5 _ h1
    obtain ⟨t2, rfl, k2⟩ := ty5 _ h2
    have H := f_L09_FormulaLimits_ok (plain_FormulaLimits k0 k1 k2)
    have e : argsA Tryd.prog [24, 5, 5] [(eL (eI .u8)) t0, (eI .u8) t1, (eI .u8) t2] = [slA (eI .u8) t0, .int .u8 t1, .int .u8 t2] := by
      kernel_rfl
    rw [e]
    exact H
end Go.Proofs.YtkgfbpbndmklnaaDoor
