/- Own work. -/
import Derived.Test.YtfpcbalkioolmaaDoorSh
import Derived.Test.YtfpcbalkioolmaaDoorP10p
set_option linter.unusedSimpArgs false
set_option linter.unusedVariables false
set_option maxRecDepth 100000
namespace Go.Proofs.YtfpcbalkioolmaaDoor
open Go.Abs
theorem law_LinearPrefixes(xss:List (List IV))(hs:ShpL Tryd.prog [22] xss):QSpec Tryd.prog 5 (argsA Tryd.prog [22] xss) (.bool true):=by
  match xss,hs with
  |[x0],⟨h0,_⟩=>
    obtain⟨t0,rfl,k0⟩:=ty22 _ h0;have H:=f_L10_LinearPrefixes_ok (plain_LinearPrefixes k0);have e:argsA Tryd.prog [22] [(eL (eI .u8)) t0]=[slA (eI .u8) t0]:=by
      kernel_rfl
    rw[e];exact H
end Go.Proofs.YtfpcbalkioolmaaDoor
