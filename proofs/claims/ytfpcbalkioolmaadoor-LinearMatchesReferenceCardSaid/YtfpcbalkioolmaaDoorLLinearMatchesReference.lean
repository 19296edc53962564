/- Own work. -/
import Derived.Test.YtfpcbalkioolmaaDoorSh
import Derived.Test.YtfpcbalkioolmaaDoorPzB
import Derived.Test.YtfpcbalkioolmaaDoorXFC
set_option linter.unusedSimpArgs false
set_option linter.unusedVariables false
set_option maxRecDepth 100000
namespace Go.Proofs.YtfpcbalkioolmaaDoor
open Go.Abs
theorem law_LinearMatchesReference (xss : List (List IV)) (hs : ShpL Tryd.prog [22, 22, 23] xss) : QSpec Tryd.prog 3 (argsA Tryd.prog [22, 22, 23] xss) (.bool true) := by
  match xss, hs with
  | [x0, x1, x2], ⟨h0, h1, h2, _⟩ =>
    obtain ⟨t0, rfl, k0⟩ := ty22 _ h0
    obtain ⟨t1, rfl, k1⟩ := ty22 _ h1
    obtain ⟨t2, rfl, k2⟩ := ty23 _ h2
    have H := f_L10_LinearMatchesReference_ok (plain_LinearMatchesReference k0 k1 k2)
    have e : argsA Tryd.prog [22, 22, 23] [(eL (eI .u8)) t0, (eL (eI .u8)) t1, (eL eA34) t2] = [slA (eI .u8) t0, slA (eI .u8) t1, slA eA34 t2] := by
      kernel_rfl
    rw [e]
    exact H
end Go.Proofs.YtfpcbalkioolmaaDoor
