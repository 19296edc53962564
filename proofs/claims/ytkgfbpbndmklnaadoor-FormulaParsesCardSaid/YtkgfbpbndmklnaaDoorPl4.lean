/- Own work. -/
import Derived.Test.YtkgfbpbndmklnaaDoorFmX
import Derived.Test.YtkgfbpbndmklnaaDoorLibG
import Derived.Lib.Bytealg
set_option linter.unusedSimpArgs false
set_option linter.unusedVariables false
namespace Go.Abs
def B (l:List UInt8):ByteArray:=⟨l.toArray⟩
theorem B_data(l:List UInt8):(B l).data.toList=l:=rfl
theorem B_eta(s:ByteArray):B s.data.toList=s:=rfl
theorem B_inj{a b:List UInt8}(h:B a=B b):a=b:=by
  have:=congrArg (fun s:ByteArray=>s.data.toList) h;exact this
theorem B_size(l:List UInt8):(B l).size=l.length:=rfl
theorem B_app(a b:List UInt8):B a++B b=B (a++b):=by
  apply WideShapes.bytes_inj;rw[ByteArray.data_append];simp[B]
theorem B_at(l:List UInt8)(k:Nat):bAt (B l) (k:Int)=((l.getD k 0).toNat:Int):=rfl
theorem B_extract(l:List UInt8)(a b:Nat):(B l).extract a b=B ((l.drop a).take (b-a)):=by
  apply WideShapes.bytes_inj;rw[ByteArray.data_extract,Array.toList_extract]
  rfl
theorem B_beq(a b:List UInt8):((B a).toList==(B b).toList)=decide (a=b):=by
  rw[toList_data,toList_data,B_data,B_data,X0w];simp
def lnt (l:List UInt8):List Int:=l.map fun b=>((b.toNat:Nat):Int)
def toU (l:List Int):List UInt8:=l.map fun n=>UInt8.ofNat n.toNat
theorem lnt_len(l:List UInt8):(lnt l).length=l.length:=by simp[lnt]
theorem lnt_app(a b:List UInt8):lnt (a++b)=lnt a++lnt b:=by simp[lnt]
theorem strOf_B(l:List Int):strOf l=B (toU l):=by
  apply WideShapes.bytes_inj;rw[strOf_data]
  rfl
theorem toU_lnt(l:List UInt8):toU (lnt l)=l:=by
  unfold toU lnt;rw[List.map_map]
  conv=>rhs;rw[←List.map_id l]
  apply X09;intro b _;simp
theorem wrap_u8'{n:Int}(h:0≤n∧n≤255):IntKind.wrap .u8 n=n:=IntWalk.u8_in n h
end Go.Abs
