/- Own work. -/
import Derived.Test.YtkgfbpbndmklnaaDoorSh
import Derived.Test.YtkgfbpbndmklnaaDoorP09d
set_option linter.unusedSimpArgs false
set_option linter.unusedVariables false
set_option maxRecDepth 100000
namespace Go.Proofs.YtkgfbpbndmklnaaDoor
open Go.Abs
theorem law_FormulaValid(xss:List (List IV))(hs:ShpL Tryd.prog [23,24,26] xss):QSpec Tryd.prog 3 (argsA Tryd.prog [23,24,26] xss) (.bool true):=by
  match xss,hs with
  |[x0,x1,x2],⟨h0,h1,h2,_⟩=>
    obtain⟨t0,rfl,k0⟩:=ty23 _ h0;obtain⟨t1,rfl,k1⟩:=ty24 _ h1;obtain⟨t2,rfl,k2⟩:=ty26 _ h2;have H:=f_L09_FormulaValid_ok (plain_FormulaValid k0 k1 k2);have e:argsA Tryd.prog [23,24,26] [(eL Y3) t0,(eL (eI .u8)) t1,(Y3) t2]=[slA Y3 t0,slA (eI .u8) t1,.agg [.int .i64 t2.Op,.int .i64 t2.N]]:=by
      kernel_rfl
    rw[e];exact H
end Go.Proofs.YtkgfbpbndmklnaaDoor
