/-
  Written by lawgen.py (own work): the law TableChecks, from its plain form.
-/
import Derived.Test.YtlhpkjgpcenfdaaDoorSh
import Derived.Test.YtlhpkjgpcenfdaaDoorP02e
set_option linter.unusedSimpArgs false
set_option linter.unusedVariables false
set_option maxRecDepth 100000
namespace Go.Proofs.YtlhpkjgpcenfdaaDoor
open Go.Abs
theorem law_TableChecks (xss : List (List IV)) (hs : ShpL Tryd.prog [33] xss) : QSpec Tryd.prog 5 (argsA Tryd.prog [33] xss) (.bool true) := by
  match xss, hs with
  | [x0], ⟨h0, _⟩ =>
    obtain ⟨t0, rfl, k0⟩ := ty33 _ h0
    have H := f_L02_TableChecks_ok (plain_TableChecks k0)
    have e : argsA Tryd.prog [33] [(eS_Table) t0] = [.agg [.int .i64 t0.Modes, .int .u8 t0.Accept, slA eS_Rule t0.Rules]] := by
      kernel_rfl
    rw [e]
    exact H
end Go.Proofs.YtlhpkjgpcenfdaaDoor
