/-
  Written by lawgen.py (own work): the law LinearLimits, from its plain form.
-/
import Derived.Test.YtfpcbalkioolmaaDoorSh
import Derived.Test.YtfpcbalkioolmaaDoorFm8
set_option linter.unusedSimpArgs false
set_option linter.unusedVariables false
set_option maxRecDepth 100000
namespace Go.Proofs.YtfpcbalkioolmaaDoor
open Go.Abs
theorem law_LinearLimits (xss : List (List IV)) (hs : ShpL Tryd.prog [5, 26] xss) : QSpec Tryd.prog 8 (argsA Tryd.prog [5, 26] xss) (.bool true) := by
  match xss, hs with
  | [x0, x1], ⟨h0, h1, _⟩ =>
    obtain ⟨t0, rfl, k0⟩ := ty5 _ h0
    obtain ⟨t1, rfl, k1⟩ := ty26 _ h1
    have H := f_L10_LinearLimits_ok (plain_LinearLimits k0 k1)
    have e : argsA Tryd.prog [5, 26] [(eI .u8) t0, (eL eS_Node) t1] = [.int .u8 t0, slA eS_Node t1] := by
      kernel_rfl
    rw [e]
    exact H
end Go.Proofs.YtfpcbalkioolmaaDoor
