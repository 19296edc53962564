/-
  Written by lawgen.py (own work): the law TableCounts, from its plain form.
-/
import Derived.Test.YtlhpkjgpcenfdaaDoorSh
import Derived.Test.YtlhpkjgpcenfdaaDoorP02f
set_option linter.unusedSimpArgs false
set_option linter.unusedVariables false
set_option maxRecDepth 100000
namespace Go.Proofs.YtlhpkjgpcenfdaaDoor
open Go.Abs
theorem law_TableCounts (xss : List (List IV)) (hs : ShpL Tryd.prog [5, 42, 5] xss) : QSpec Tryd.prog 7 (argsA Tryd.prog [5, 42, 5] xss) (.bool true) := by
  match xss, hs with
  | [x0, x1, x2], ⟨h0, h1, h2, _⟩ =>
    obtain ⟨t0, rfl, k0⟩ := ty5 _ h0
    obtain ⟨t1, rfl, k1⟩ := ty42 _ h1
    obtain ⟨t2, rfl, k2⟩ := ty5 _ h2
    have H := f_L02_TableCounts_ok (plain_TableCounts k0 k1 k2)
    have e : argsA Tryd.prog [5, 42, 5] [(eI .u8) t0, (eI .i8) t1, (eI .u8) t2] = [.int .u8 t0, .int .i8 t1, .int .u8 t2] := by
      kernel_rfl
    rw [e]
    exact H
end Go.Proofs.YtlhpkjgpcenfdaaDoor
