/- Own work. -/
import Derived.Test.YtioockkejhpleaaDoorSh
import Derived.Test.YtioockkejhpleaaDoorSp5
set_option linter.unusedSimpArgs false
set_option linter.unusedVariables false
set_option maxRecDepth 100000
namespace Go.Proofs.YtioockkejhpleaaDoor
open Go.Abs
theorem law_SpatialMatchesReference (xss : List (List IV)) (hs : ShpL Tryd.prog [24, 5] xss) : QSpec Tryd.prog 3 (argsA Tryd.prog [24, 5] xss) (.bool true) := by
  match xss, hs with
  | [x0, x1], ⟨h0, h1, _⟩ =>
    obtain ⟨t0, rfl, k0⟩ := ty24 _ h0
    obtain ⟨t1, rfl, k1⟩ := ty5 _ h1
    have H := f_L11_SpatialMatchesReference_ok (plain_SpatialMatchesReference k0 k1)
    have e : argsA Tryd.prog [24, 5] [(eS_Raw) t0, (eI .u8) t1] = [.agg [.int .u8 t0.Kind, .int .u8 t0.N, slA eA43 t0.L], .int .u8 t1] := by
      kernel_rfl
    rw [e]
    exact H
end Go.Proofs.YtioockkejhpleaaDoor
