/- Own work. -/
import Derived.Test.YtkgfbpbndmklnaaDoorSh
import Derived.Test.YtkgfbpbndmklnaaDoorP09g
set_option linter.unusedSimpArgs false
set_option linter.unusedVariables false
set_option maxRecDepth 100000
namespace Go.Proofs.YtkgfbpbndmklnaaDoor
open Go.Abs
theorem law_FormulaParses(xss:List (List IV))(hs:ShpL Tryd.prog [24] xss):QSpec Tryd.prog 5 (argsA Tryd.prog [24] xss) (.bool true):=by
  match xss,hs with
  |[x0],⟨h0,_⟩=>
    obtain⟨t0,rfl,k0⟩:=ty24 _ h0;have H:=f_L09_FormulaParses_ok (plain_FormulaParses k0);have e:argsA Tryd.prog [24] [(eL (eI .u8)) t0]=[slA (eI .u8) t0]:=by
      kernel_rfl
    rw[e];exact H
end Go.Proofs.YtkgfbpbndmklnaaDoor
