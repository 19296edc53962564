/- Own work. -/
import Derived.Test.YtkgfbpbndmklnaaDoorLibC
import Derived.Test.YtkgfbpbndmklnaaDoorW5
set_option linter.unusedSimpArgs false
set_option linter.unusedVariables false
set_option maxRecDepth 100000
namespace Go.Proofs.YtkgfbpbndmklnaaDoor
open Go.Abs
theorem ty3:Typ Tryd.prog 3 (eI .i64) (okInt .i64):=Typ.int (by kernel_rfl)
def okS_Node (x:Y4):Prop:=okInt .i64 x.Op∧okInt .i64 x.N
theorem ty26:Typ Tryd.prog 26 Y3 okS_Node:=fun xs hs=>by
  obtain⟨xss,rfl,hl⟩:=hs.fields (fs:= #[{name:= "Op",type:=3,offset:=0,embedded:=false,tag:= "",pkgPath:= "",byteOffset:=0},{name:= "N",type:=3,offset:=1,embedded:=false,tag:= "",pkgPath:= "",byteOffset:=8}]) (by kernel_rfl) [3,3] rfl
  match xss,hl with
  |[y0,y1],⟨h0,h1,_⟩=>
    obtain⟨v0,rfl,k0⟩:=ty3 _ h0;obtain⟨v1,rfl,k1⟩:=ty3 _ h1;exact⟨⟨v0,v1⟩,rfl,⟨k0,k1⟩⟩
theorem ty23:Typ Tryd.prog 23 (eL Y3) (okList okS_Node):=Typ.sl (by kernel_rfl) ty26
theorem ty5:Typ Tryd.prog 5 (eI .u8) (okInt .u8):=Typ.int (by kernel_rfl)
theorem ty24:Typ Tryd.prog 24 (eL (eI .u8)) (okList (okInt .u8)):=Typ.sl (by kernel_rfl) ty5
end Go.Proofs.YtkgfbpbndmklnaaDoor
