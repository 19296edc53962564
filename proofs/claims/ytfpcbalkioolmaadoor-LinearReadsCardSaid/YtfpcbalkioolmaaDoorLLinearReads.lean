/- Own work. -/
import Derived.Test.YtfpcbalkioolmaaDoorSh
import Derived.Test.YtfpcbalkioolmaaDoorP10r
set_option linter.unusedSimpArgs false
set_option linter.unusedVariables false
set_option maxRecDepth 100000
namespace Go.Proofs.YtfpcbalkioolmaaDoor
open Go.Abs
theorem law_LinearReads(xss:List (List IV))(hs:ShpL Tryd.prog [22,22] xss):QSpec Tryd.prog 4 (argsA Tryd.prog [22,22] xss) (.bool true):=by
  match xss,hs with
  |[x0,x1],⟨h0,h1,_⟩=>
    obtain⟨t0,rfl,k0⟩:=ty22 _ h0;obtain⟨t1,rfl,k1⟩:=ty22 _ h1;have H:=f_L10_LinearReads_ok (plain_LinearReads k0 k1);have e:argsA Tryd.prog [22,22] [(eL (eI .u8)) t0,(eL (eI .u8)) t1]=[slA (eI .u8) t0,slA (eI .u8) t1]:=by
      kernel_rfl
    rw[e];exact H
end Go.Proofs.YtfpcbalkioolmaaDoor
