/-
  Written by lawgen.py (own work): the law TableCleanWords, from its plain form.
-/
import Derived.Test.YtlhpkjgpcenfdaaDoorSh
import Derived.Test.YtlhpkjgpcenfdaaDoorP02b
set_option linter.unusedSimpArgs false
set_option linter.unusedVariables false
set_option maxRecDepth 100000
namespace Go.Proofs.YtlhpkjgpcenfdaaDoor
open Go.Abs
theorem law_TableCleanWords (xss : List (List IV)) (hs : ShpL Tryd.prog [9] xss) : QSpec Tryd.prog 4 (argsA Tryd.prog [9] xss) (.bool true) := by
  match xss, hs with
  | [x0], ⟨h0, _⟩ =>
    obtain ⟨t0, rfl, k0⟩ := ty9 _ h0
    have H := f_L02_TableCleanWords_ok (plain_TableCleanWords k0)
    have e : argsA Tryd.prog [9] [(eS) t0] = [.string t0] := by
      kernel_rfl
    rw [e]
    exact H
end Go.Proofs.YtlhpkjgpcenfdaaDoor
