/- Own work. -/
import Derived.Test.YtkgfbpbndmklnaaDoorSh
import Derived.Test.YtkgfbpbndmklnaaDoorP09e
set_option linter.unusedSimpArgs false
set_option linter.unusedVariables false
set_option maxRecDepth 100000
namespace Go.Proofs.YtkgfbpbndmklnaaDoor
open Go.Abs
theorem law_FormulaInverts(xss:List (List IV))(hs:ShpL Tryd.prog [24,24] xss):QSpec Tryd.prog 4 (argsA Tryd.prog [24,24] xss) (.bool true):=by
  match xss,hs with
  |[x0,x1],⟨h0,h1,_⟩=>
    obtain⟨t0,rfl,k0⟩:=ty24 _ h0;obtain⟨t1,rfl,k1⟩:=ty24 _ h1;have H:=f_L09_FormulaInverts_ok (plain_FormulaInverts k0 k1);have e:argsA Tryd.prog [24,24] [(eL (eI .u8)) t0,(eL (eI .u8)) t1]=[slA (eI .u8) t0,slA (eI .u8) t1]:=by
      kernel_rfl
    rw[e];exact H
end Go.Proofs.YtkgfbpbndmklnaaDoor
