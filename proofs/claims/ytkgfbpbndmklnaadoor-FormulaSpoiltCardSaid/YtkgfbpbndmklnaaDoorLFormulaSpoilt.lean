/- Own work. -/
import Derived.Test.YtkgfbpbndmklnaaDoorSh
import Derived.Test.YtkgfbpbndmklnaaDoorP09f
set_option linter.unusedSimpArgs false
set_option linter.unusedVariables false
set_option maxRecDepth 100000
namespace Go.Proofs.YtkgfbpbndmklnaaDoor
open Go.Abs
theorem law_FormulaSpoilt(xss:List (List IV))(hs:ShpL Tryd.prog [24,5,39] xss):QSpec Tryd.prog 6 (argsA Tryd.prog [24,5,39] xss) (.bool true):=by
  match xss,hs with
  |[x0,x1,x2],⟨h0,h1,h2,_⟩=>
    obtain⟨t0,rfl,k0⟩:=ty24 _ h0;obtain⟨t1,rfl,k1⟩:=ty5 _ h1;obtain⟨t2,rfl,k2⟩:=ty39 _ h2;have H:=f_L09_FormulaSpoilt_ok (plain_FormulaSpoilt k0 k1 k2);obtain⟨a2_0,a2_1,rfl⟩:∃a2_0 a2_1,t2=[a2_0,a2_1]:=by
      match t2,k2.2 with
      |[a2_0,a2_1],_=>exact⟨a2_0,a2_1,rfl⟩
    have e:argsA Tryd.prog [24,5,39] [(eL (eI .u8)) t0,(eI .u8) t1,(fun l=>l.flatMap (eI .u8)) [a2_0,a2_1]]=[slA (eI .u8) t0,.int .u8 t1,.agg [.int .u8 ([a2_0,a2_1].getD 0 (0:Int)),.int .u8 ([a2_0,a2_1].getD 1 (0:Int))]]:=by
      kernel_rfl
    rw[e];exact H
end Go.Proofs.YtkgfbpbndmklnaaDoor
