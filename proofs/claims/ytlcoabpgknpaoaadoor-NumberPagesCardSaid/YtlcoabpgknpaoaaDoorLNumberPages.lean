/-
  Written by lawgen.py (own work): the law NumberPages, from its plain form.
-/
import Derived.Test.YtlcoabpgknpaoaaDoorSh
import Derived.Test.YtlcoabpgknpaoaaDoorP19c
set_option linter.unusedSimpArgs false
set_option linter.unusedVariables false
set_option maxRecDepth 100000
namespace Go.Proofs.YtlcoabpgknpaoaaDoor
open Go.Abs
theorem law_NumberPages (xss : List (List IV)) (hs : ShpL Tryd.prog [46, 46] xss) : QSpec Tryd.prog 5 (argsA Tryd.prog [46, 46] xss) (.bool true) := by
  match xss, hs with
  | [x0, x1], ⟨h0, h1, _⟩ =>
    obtain ⟨t0, rfl, k0⟩ := ty46 _ h0
    obtain ⟨t1, rfl, k1⟩ := ty46 _ h1
    have H := f_L19_NumberPages_ok (plain_NumberPages k0 k1)
    have e : argsA Tryd.prog [46, 46] [(eS_Raw) t0, (eS_Raw) t1] = [.agg [.int .u8 t0.Width, .int .u16 t0.N, .int .u8 t0.K, .bool t0.Back, .int .u16 t0.Ink, .int .u8 t0.Part], .agg [.int .u8 t1.Width, .int .u16 t1.N, .int .u8 t1.K, .bool t1.Back, .int .u16 t1.Ink, .int .u8 t1.Part]] := by
      kernel_rfl
    rw [e]
    exact H
end Go.Proofs.YtlcoabpgknpaoaaDoor
