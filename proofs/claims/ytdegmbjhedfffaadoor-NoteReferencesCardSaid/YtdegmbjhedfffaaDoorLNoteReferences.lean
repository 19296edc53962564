/-
  Written by lawgen.py (own work): the law NoteReferences, from its plain form.
-/
import Derived.Test.YtdegmbjhedfffaaDoorSh
import Derived.Test.YtdegmbjhedfffaaDoorP22f
set_option linter.unusedSimpArgs false
set_option linter.unusedVariables false
set_option maxRecDepth 100000
namespace Go.Proofs.YtdegmbjhedfffaaDoor
open Go.Abs
theorem law_NoteReferences (xss : List (List IV)) (hs : ShpL Tryd.prog [32, 33, 5] xss) : QSpec Tryd.prog 5 (argsA Tryd.prog [32, 33, 5] xss) (.bool true) := by
  match xss, hs with
  | [x0, x1, x2], ⟨h0, h1, h2, _⟩ =>
    obtain ⟨t0, rfl, k0⟩ := ty32 _ h0
    obtain ⟨t1, rfl, k1⟩ := ty33 _ h1
    obtain ⟨t2, rfl, k2⟩ := ty5 _ h2
    have H := f_L22_NoteReferences_ok (plain_NoteReferences k0 k1 k2)
    have e : argsA Tryd.prog [32, 33, 5] [(eL (eL (eI .u8))) t0, (eI .u32) t1, (eI .u8) t2] = [slA (eL (eI .u8)) t0, .int .u32 t1, .int .u8 t2] := by
      kernel_rfl
    rw [e]
    exact H
end Go.Proofs.YtdegmbjhedfffaaDoor
