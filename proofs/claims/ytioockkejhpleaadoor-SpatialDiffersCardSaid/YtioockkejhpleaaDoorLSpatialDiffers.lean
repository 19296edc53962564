/- Own work. -/
import Derived.Test.YtioockkejhpleaaDoorSh
import Derived.Test.YtioockkejhpleaaDoorSp6
set_option linter.unusedSimpArgs false
set_option linter.unusedVariables false
set_option maxRecDepth 100000
namespace Go.Proofs.YtioockkejhpleaaDoor
open Go.Abs
theorem law_SpatialDiffers (xss : List (List IV)) (hs : ShpL Tryd.prog [24, 24, 5] xss) (hb : ∀ ys n, (xss.getD 0 []).getD 2 (.mp []) = .sl ys n → n * 2 ≤ reachBytes) : QSpec Tryd.prog 5 (argsA Tryd.prog [24, 24, 5] xss) (.bool true) := by
  match xss, hs with
  | [x0, x1, x2], ⟨h0, h1, h2, _⟩ =>
    obtain ⟨t0, rfl, k0⟩ := ty24 _ h0
    obtain ⟨t1, rfl, k1⟩ := ty24 _ h1
    obtain ⟨t2, rfl, k2⟩ := ty5 _ h2
    have hl : t0.L.length * 2 ≤ 140737488355328 := Nat.le_trans (hb _ _ rfl) (by decide)
    have H := f_L11_SpatialDiffers_ok (plain_SpatialDiffers k0 k1 k2 hl)
    have e : argsA Tryd.prog [24, 24, 5] [(eS_Raw) t0, (eS_Raw) t1, (eI .u8) t2] = [.agg [.int .u8 t0.Kind, .int .u8 t0.N, slA eA43 t0.L], .agg [.int .u8 t1.Kind, .int .u8 t1.N, slA eA43 t1.L], .int .u8 t2] := by
      kernel_rfl
    rw [e]
    exact H
end Go.Proofs.YtioockkejhpleaaDoor
