/- Own work. -/
import Derived.Test.YtfpcbalkioolmaaDoorSh
import Derived.Test.YtfpcbalkioolmaaDoorP10c
set_option linter.unusedSimpArgs false
set_option linter.unusedVariables false
set_option maxRecDepth 100000
namespace Go.Proofs.YtfpcbalkioolmaaDoor
open Go.Abs
theorem law_LinearChanges(xss:List (List IV))(hs:ShpL Tryd.prog [22,34,22] xss):QSpec Tryd.prog 6 (argsA Tryd.prog [22,34,22] xss) (.bool true):=by
  match xss,hs with
  |[x0,x1,x2],⟨h0,h1,h2,_⟩=>
    obtain⟨t0,rfl,k0⟩:=ty22 _ h0;obtain⟨t1,rfl,k1⟩:=ty34 _ h1;obtain⟨t2,rfl,k2⟩:=ty22 _ h2;have H:=f_L10_LinearChanges_ok (plain_LinearChanges k0 k1 k2);obtain⟨a1_0,a1_1,rfl⟩:∃a1_0 a1_1,t1=[a1_0,a1_1]:=by
      match t1,k1.2 with
      |[a1_0,a1_1],_=>exact⟨a1_0,a1_1,rfl⟩
    have e:argsA Tryd.prog [22,34,22] [(eL (eI .u8)) t0,(fun l=>l.flatMap (eI .u8)) [a1_0,a1_1],(eL (eI .u8)) t2]=[slA (eI .u8) t0,.agg [.int .u8 ([a1_0,a1_1].getD 0 (0:Int)),.int .u8 ([a1_0,a1_1].getD 1 (0:Int))],slA (eI .u8) t2]:=by
      kernel_rfl
    rw[e];exact H
end Go.Proofs.YtfpcbalkioolmaaDoor
