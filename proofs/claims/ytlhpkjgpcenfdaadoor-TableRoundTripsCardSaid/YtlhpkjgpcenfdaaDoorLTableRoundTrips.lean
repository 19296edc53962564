/-
  Written by lawgen.py (own work): the law TableRoundTrips, from its plain form.
-/
import Derived.Test.YtlhpkjgpcenfdaaDoorSh
import Derived.Test.YtlhpkjgpcenfdaaDoorP02k
set_option linter.unusedSimpArgs false
set_option linter.unusedVariables false
set_option maxRecDepth 100000
namespace Go.Proofs.YtlhpkjgpcenfdaaDoor
open Go.Abs
theorem law_TableRoundTrips (xss : List (List IV)) (hs : ShpL Tryd.prog [41] xss) : QSpec Tryd.prog 8 (argsA Tryd.prog [41] xss) (.bool true) := by
  match xss, hs with
  | [x0], ⟨h0, _⟩ =>
    obtain ⟨t0, rfl, k0⟩ := ty41 _ h0
    have H := f_L02_TableRoundTrips_ok (plain_TableRoundTrips k0)
    have e : argsA Tryd.prog [41] [(eS_Raw) t0] = [.agg [.int .u8 t0.Base, .int .u8 t0.Drop, slA eS_RawRule t0.More]] := by
      kernel_rfl
    rw [e]
    exact H
end Go.Proofs.YtlhpkjgpcenfdaaDoor
