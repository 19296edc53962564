/-
  Written by lawgen.py (own work): the law PageFills, from its plain form.
-/
import Derived.Test.YthfdgicfcjkfgaaSh
import Derived.Test.YthfdgicfcjkfgaaP21g
set_option linter.unusedSimpArgs false
set_option linter.unusedVariables false
set_option maxRecDepth 100000
namespace Go.Proofs.Ythfdgicfcjkfgaa
open Go.Abs
theorem law_PageFills (xss : List (List IV)) (hs : ShpL Try.prog [22, 5] xss) : QSpec Try.prog 4 (argsA Try.prog [22, 5] xss) (.bool true) := by
  match xss, hs with
  | [x0, x1], ⟨h0, h1, _⟩ =>
    obtain ⟨t0, rfl, k0⟩ := ty22 _ h0
    obtain ⟨t1, rfl, k1⟩ := ty5 _ h1
    have H := f_L21_PageFills_ok (plain_PageFills k0 k1)
    have e : argsA Try.prog [22, 5] [(eL (eI .u8)) t0, (eI .u8) t1] = [slA (eI .u8) t0, .int .u8 t1] := by
      kernel_rfl
    rw [e]
    exact H
end Go.Proofs.Ythfdgicfcjkfgaa
