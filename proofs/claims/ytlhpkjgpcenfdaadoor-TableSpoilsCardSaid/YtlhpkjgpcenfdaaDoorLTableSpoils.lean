/-
  Written by lawgen.py (own work): the law TableSpoils, from its plain form.
-/
import Derived.Test.YtlhpkjgpcenfdaaDoorSh
import Derived.Test.YtlhpkjgpcenfdaaDoorP02h
set_option linter.unusedSimpArgs false
set_option linter.unusedVariables false
set_option maxRecDepth 100000
namespace Go.Proofs.YtlhpkjgpcenfdaaDoor
open Go.Abs
theorem law_TableSpoils (xss : List (List IV)) (hs : ShpL Tryd.prog [41, 44] xss) : QSpec Tryd.prog 6 (argsA Tryd.prog [41, 44] xss) (.bool true) := by
  match xss, hs with
  | [x0, x1], ⟨h0, h1, _⟩ =>
    obtain ⟨t0, rfl, k0⟩ := ty41 _ h0
    obtain ⟨t1, rfl, k1⟩ := ty44 _ h1
    have H := f_L02_TableSpoils_ok (plain_TableSpoils k0 k1)
    have e : argsA Tryd.prog [41, 44] [(eS_Raw) t0, (eS_Spoil) t1] = [.agg [.int .u8 t0.Base, .int .u8 t0.Drop, slA eS_RawRule t0.More], .agg [.int .u8 t1.At, .int .u8 t1.What, .int .u8 t1.B, .int .i8 t1.N]] := by
      kernel_rfl
    rw [e]
    exact H
end Go.Proofs.YtlhpkjgpcenfdaaDoor
