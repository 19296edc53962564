/-
  Written by lawgen.py (own work): the law NoteNumbersMatchReference, from its plain form.
-/
import Derived.Test.YtdegmbjhedfffaaDoorSh
import Derived.Test.YtdegmbjhedfffaaDoorP22b
set_option linter.unusedSimpArgs false
set_option linter.unusedVariables false
set_option maxRecDepth 100000
namespace Go.Proofs.YtdegmbjhedfffaaDoor
open Go.Abs
theorem law_NoteNumbersMatchReference (xss : List (List IV)) (hs : ShpL Tryd.prog [22, 23, 3] xss) : QSpec Tryd.prog 3 (argsA Tryd.prog [22, 23, 3] xss) (.bool true) := by
  match xss, hs with
  | [x0, x1, x2], ⟨h0, h1, h2, _⟩ =>
    obtain ⟨t0, rfl, k0⟩ := ty22 _ h0
    obtain ⟨t1, rfl, k1⟩ := ty23 _ h1
    obtain ⟨t2, rfl, k2⟩ := ty3 _ h2
    have H := f_L22_NoteNumbersMatchReference_ok (plain_NoteNumbersMatchReference k0 k1 k2)
    have e : argsA Tryd.prog [22, 23, 3] [(eL (eI .u8)) t0, (eL (eI .i64)) t1, (eI .i64) t2] = [slA (eI .u8) t0, slA (eI .i64) t1, .int .i64 t2] := by
      kernel_rfl
    rw [e]
    exact H
end Go.Proofs.YtdegmbjhedfffaaDoor
