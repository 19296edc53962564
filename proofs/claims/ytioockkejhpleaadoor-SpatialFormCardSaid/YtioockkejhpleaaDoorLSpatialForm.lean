/-
  Written by lawgen.py (own work): the law SpatialForm, from its plain form.
-/
import Derived.Test.YtioockkejhpleaaDoorSh
import Derived.Test.YtioockkejhpleaaDoorSp5
set_option linter.unusedSimpArgs false
set_option linter.unusedVariables false
set_option maxRecDepth 100000
namespace Go.Proofs.YtioockkejhpleaaDoor
open Go.Abs
theorem law_SpatialForm (xss : List (List IV)) (hs : ShpL Tryd.prog [24] xss) : QSpec Tryd.prog 4 (argsA Tryd.prog [24] xss) (.bool true) := by
  match xss, hs with
  | [x0], ⟨h0, _⟩ =>
    obtain ⟨t0, rfl, k0⟩ := ty24 _ h0
    have H := f_L11_SpatialForm_ok (plain_SpatialForm k0)
    have e : argsA Tryd.prog [24] [(eS_Raw) t0] = [.agg [.int .u8 t0.Kind, .int .u8 t0.N, slA eA43 t0.L]] := by
      kernel_rfl
    rw [e]
    exact H
end Go.Proofs.YtioockkejhpleaaDoor
