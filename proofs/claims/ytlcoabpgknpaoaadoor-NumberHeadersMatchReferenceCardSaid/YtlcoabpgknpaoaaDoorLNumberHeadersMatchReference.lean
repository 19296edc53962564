/-
  Written by lawgen.py (own work): the law NumberHeadersMatchReference, from its plain form.
-/
import Derived.Test.YtlcoabpgknpaoaaDoorSh
import Derived.Test.YtlcoabpgknpaoaaDoorP19j
set_option linter.unusedSimpArgs false
set_option linter.unusedVariables false
set_option maxRecDepth 100000
namespace Go.Proofs.YtlcoabpgknpaoaaDoor
open Go.Abs
theorem law_NumberHeadersMatchReference (xss : List (List IV)) (hs : ShpL Tryd.prog [46, 48, 23] xss) : QSpec Tryd.prog 7 (argsA Tryd.prog [46, 48, 23] xss) (.bool true) := by
  match xss, hs with
  | [x0, x1, x2], ⟨h0, h1, h2, _⟩ =>
    obtain ⟨t0, rfl, k0⟩ := ty46 _ h0
    obtain ⟨t1, rfl, k1⟩ := ty48 _ h1
    obtain ⟨t2, rfl, k2⟩ := ty23 _ h2
    have H := f_L19_NumberHeadersMatchReference_ok (plain_NumberHeadersMatchReference k0 k1 k2)
    have e : argsA Tryd.prog [46, 48, 23] [(eS_Raw) t0, (eS_Header) t1, (eL (eI .u8)) t2] = [.agg [.int .u8 t0.Width, .int .u16 t0.N, .int .u8 t0.K, .bool t0.Back, .int .u16 t0.Ink, .int .u8 t0.Part], .agg [.int .i64 t1.Width, .int .i64 t1.Label.N, .int .i64 t1.Label.K, .bool t1.Back, .int .i64 t1.Ink, .int .i64 t1.Part], slA (eI .u8) t2] := by
      kernel_rfl
    rw [e]
    exact H
end Go.Proofs.YtlcoabpgknpaoaaDoor
