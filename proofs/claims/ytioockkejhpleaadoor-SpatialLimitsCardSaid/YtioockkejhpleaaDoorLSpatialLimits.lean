/-
  Written by lawgen.py (own work): the law SpatialLimits, from its plain form.
-/
import Derived.Test.YtioockkejhpleaaDoorSh
import Derived.Test.YtioockkejhpleaaDoorSp5
set_option linter.unusedSimpArgs false
set_option linter.unusedVariables false
set_option maxRecDepth 100000
namespace Go.Proofs.YtioockkejhpleaaDoor
open Go.Abs
theorem law_SpatialLimits (xss : List (List IV)) (hs : ShpL Tryd.prog [5, 5, 5] xss) : QSpec Tryd.prog 6 (argsA Tryd.prog [5, 5, 5] xss) (.bool true) := by
  match xss, hs with
  | [x0, x1, x2], ⟨h0, h1, h2, _⟩ =>
    obtain ⟨t0, rfl, k0⟩ := ty5 _ h0
    obtain ⟨t1, rfl, k1⟩ := ty5 _ h1
    obtain ⟨t2, rfl, k2⟩ := ty5 _ h2
    have H := f_L11_SpatialLimits_ok (plain_SpatialLimits k0 k1 k2)
    have e : argsA Tryd.prog [5, 5, 5] [(eI .u8) t0, (eI .u8) t1, (eI .u8) t2] = [.int .u8 t0, .int .u8 t1, .int .u8 t2] := by
      kernel_rfl
    rw [e]
    exact H
end Go.Proofs.YtioockkejhpleaaDoor
