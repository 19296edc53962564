/-
  Written by lawgen.py (own work): the law NoteStripMatchesReference, from its plain form.
-/
import Derived.Test.YtdegmbjhedfffaaDoorSh
import Derived.Test.YtdegmbjhedfffaaDoorP22f
set_option linter.unusedSimpArgs false
set_option linter.unusedVariables false
set_option maxRecDepth 100000
namespace Go.Proofs.YtdegmbjhedfffaaDoor
open Go.Abs
theorem law_NoteStripMatchesReference (xss : List (List IV)) (hs : ShpL Tryd.prog [32, 23, 22] xss) : QSpec Tryd.prog 6 (argsA Tryd.prog [32, 23, 22] xss) (.bool true) := by
  match xss, hs with
  | [x0, x1, x2], ⟨h0, h1, h2, _⟩ =>
    obtain ⟨t0, rfl, k0⟩ := ty32 _ h0
    obtain ⟨t1, rfl, k1⟩ := ty23 _ h1
    obtain ⟨t2, rfl, k2⟩ := ty22 _ h2
    have H := f_L22_NoteStripMatchesReference_ok (plain_NoteStripMatchesReference k0 k1 k2)
    have e : argsA Tryd.prog [32, 23, 22] [(eL (eL (eI .u8))) t0, (eL (eI .i64)) t1, (eL (eI .u8)) t2] = [slA (eL (eI .u8)) t0, slA (eI .i64) t1, slA (eI .u8) t2] := by
      kernel_rfl
    rw [e]
    exact H
end Go.Proofs.YtdegmbjhedfffaaDoor
