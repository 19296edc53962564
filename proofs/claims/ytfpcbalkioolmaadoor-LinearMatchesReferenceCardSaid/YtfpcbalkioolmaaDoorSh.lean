/- Own work. -/
import Derived.Test.YtfpcbalkioolmaaDoorLibC
import Derived.Test.YtfpcbalkioolmaaDoorW8
set_option linter.unusedSimpArgs false
set_option linter.unusedVariables false
set_option maxRecDepth 100000
namespace Go.Proofs.YtfpcbalkioolmaaDoor
open Go.Abs
theorem ty5:Typ Tryd.prog 5 (eI .u8) (okInt .u8):=Typ.int (by kernel_rfl)
theorem ty22:Typ Tryd.prog 22 (eL (eI .u8)) (okList (okInt .u8)):=Typ.sl (by kernel_rfl) ty5
theorem ty34:Typ Tryd.prog 34 (fun l=>l.flatMap (eI .u8)) (okArr 2 (okInt .u8)):=Typ.arr (by kernel_rfl) ty5
theorem tyA34:Typ Tryd.prog 34 eA34 (okArr 2 (okInt .u8)):=fun xs hs=>by
  obtain⟨v,rfl,k⟩:=ty34 _ hs;obtain⟨b0,b1,rfl⟩:∃b0 b1,v=[b0,b1]:=by
    match v,k.2 with
    |[b0,b1],_=>exact⟨b0,b1,rfl⟩
  exact⟨[b0,b1],rfl,k⟩
theorem ty23:Typ Tryd.prog 23 (eL eA34) (okList (okArr 2 (okInt .u8))):=Typ.sl (by kernel_rfl) tyA34
end Go.Proofs.YtfpcbalkioolmaaDoor
