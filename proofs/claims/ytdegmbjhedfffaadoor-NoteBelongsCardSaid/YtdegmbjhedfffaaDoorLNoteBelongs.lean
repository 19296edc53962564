/-
  Written by lawgen.py (own work): the law NoteBelongs, from its plain form.
-/
import Derived.Test.YtdegmbjhedfffaaDoorSh
import Derived.Test.YtdegmbjhedfffaaDoorP22b
set_option linter.unusedSimpArgs false
set_option linter.unusedVariables false
set_option maxRecDepth 100000
namespace Go.Proofs.YtdegmbjhedfffaaDoor
open Go.Abs
theorem law_NoteBelongs (xss : List (List IV)) (hs : ShpL Tryd.prog [22] xss) : QSpec Tryd.prog 4 (argsA Tryd.prog [22] xss) (.bool true) := by
  match xss, hs with
  | [x0], ⟨h0, _⟩ =>
    obtain ⟨t0, rfl, k0⟩ := ty22 _ h0
    have H := f_L22_NoteBelongs_ok (plain_NoteBelongs k0)
    have e : argsA Tryd.prog [22] [(eL (eI .u8)) t0] = [slA (eI .u8) t0] := by
      kernel_rfl
    rw [e]
    exact H
end Go.Proofs.YtdegmbjhedfffaaDoor
