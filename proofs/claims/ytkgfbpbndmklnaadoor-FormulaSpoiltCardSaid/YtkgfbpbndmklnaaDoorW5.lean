/- Own work. -/
import Derived.Test.YtkgfbpbndmklnaaDoorW4
set_option linter.unusedSimpArgs false
set_option linter.unusedVariables false
set_option maxRecDepth 100000
namespace Go.Proofs.YtkgfbpbndmklnaaDoor
open Go.Abs
def Y5y (t0:ByteArray):Option ((List Y2)×Int×Int):=
 (Y51 (⟨t0,(0:Int),false⟩:Y1) (1:Int)).bind fun x1=>
 cond (cond x1.2.Bad true (decide (x1.2.At<(t0.size:Int)))) (
  some ([],x1.2.At,(90:Int))) (
  (Y44 x1.1).bind fun x3=>
  cond (!x3) (
   some ([],(0:Int),(2:Int))) (
   some (x1.1,x1.2.At,(0:Int))))
section
variable (t0:ByteArray) (x1:((List Y2)×Y1)) (x3:Bool)
abbrev Z89:Nat×AV:=(5,.ref 5 0 0)
abbrev Z86:Env:=[(24,.bool (cond x1.2.Bad true (decide (x1.2.At<(t0.size:Int))))),(6,slA Y5 x1.1),Z89]
abbrev Z87:Hp:=[(5,⟨0,true,68,3,[.string t0,.j (0:Int),.bool false]⟩)]
abbrev Z88:Env:=[(31,.bool (!x3)),(6,slA Y5 x1.1),Z89]
end
theorem f_R09_Parse_ok{t0:ByteArray}{r:(List Y2)×Int×Int}(H:Y5y t0=some r):QSpec Tryd.prog 18 [.string t0] (.tup [slA Y5 r.1,.int .i64 r.2.1,.int .i64 r.2.2]):=by
 refine Yv Tryd.func18 rfl (by simp[Tryd.ntmps18]) ?_;rw[Tryd.ntmps18];unfold Y5y at H;change AW _ _ _ [(0,.string t0)] [] _;refine Y0 (OpsW.sg 3 [0] [(0,.string t0)] ?_);refine Y4 (Y0 (OpsW.sg 2 [8,0] [(8,.agg [.string t0,.j (0:Int),.bool false]),(0,.string t0)] ?_));refine OpsW.box rfl rfl rfl 9 rfl (Y0o (by kernel_rfl)) ?_;change OpsW _ _ _ _ _ [(9,⟨0,true,68,3,[.string t0,.j (0:Int),.bool false]⟩)] _;refine OpsW.sg 1 [5,0] [(5,.ref 9 0 0),(0,.string t0)] (OpsW.rc [Z89,(0,.string t0)] (Z87 t0) (StC.mk (phi [(5,some 9)]) (.o rfl (.i3 .nil) .nil) rfl (.cons (.r rfl) (.cons .im .nil))) ?_);refine Y4 (Y0 (OpsW.sg 1 [10,5,0] [(10,.ref 5 0 0),Z89,(0,.string t0)] ?_));have⟨x1,hx1,H⟩:=Y0b H;refine Y1e (Z87 t0) [] [(2020,⟨0,true,68,3,[.string t0,.j (0:Int),.bool false]⟩)] (phi [(2020,some 5)]) rfl (f_R09_parser_expression_io hx1) (.cons (.r rfl) (.cons .im .nil)) (.b (.i3 .nil) .nil) (slA Y5 x1.1) [(5,⟨0,true,68,3,[.string x1.2.S,.j x1.2.At,.bool x1.2.Bad]⟩)] (phi [(5,some 2020)]) (.b (.i3 .nil) .nil) (.cons .im .nil)<|OpsW.sg 1 [6,5,0] [(6,slA Y5 x1.1),Z89,(0,.string t0)] ?_;refine Y4 (Y0a (Y0 (OpsW.sg 1 [12,6,5,0] [(12,.ref 5 0 0),(6,slA Y5 x1.1),Z89,(0,.string t0)] ?_)))
 refine Y20 rfl rfl rfl (OpsW.sg 4 [17,16,6,5,0] [(17,.cnd (!x1.2.Bad) (.ref 5 0 0)),(16,.bool x1.2.Bad),(6,slA Y5 x1.1),Z89,(0,.string t0)] (Y6h (c:= !x1.2.Bad) (.ref 5 0 0) rfl rfl rfl rfl (Quiet.nilCheck rfl (gpoG (c:= !x1.2.Bad) rfl rfl rfl (fun hc=>⟨hc,rfl,rfl⟩))) (OpsW.sz 6 [24,6,5] (Z86 t0 x1) ⟨(fun h=>h),(fun h=>h),(fun h=>h),(fun h=>h),(fun h=>h),(fun h=>by first|exact h|(simpa using h)|grind),trivial⟩ (Y4 (Yd (b:=cond x1.2.Bad true (decide (x1.2.At<(t0.size:Int)))) H rfl (fun c2 H=> ?_) (fun c2 H=> ?_))))))
 ·refine Y3a Tryd.checked.mixed (by kernel_rfl)<|QOps.sz (N:=37) 1 ((25,.ref 5 0 0)::(Z86 t0 x1)) trivial (QOps.quietU (.ref 5 0 0) rfl (Quiet.nilCheck rfl (gpoU rfl ⟨trivial,rfl,rfl⟩)) (QOps.sz (N:=37) 5 ((4,.j (90:Int))::(3,.j x1.2.At)::(2,.im (.val (.slice none 0 0)))::(28,.j x1.2.At)::(27,.ref 5 0 1)::(26,.ref 5 0 0)::(25,.ref 5 0 0)::(Z86 t0 x1)) trivial ?_));refine QOps.nil (AW.trim [4,3,2] [(4,.j (90:Int)),(3,.j x1.2.At),(2,.im (.val (.slice none 0 0)))] (by kernel_rfl) ?_);obtain rfl:=X8 H;refine AW.recast (env':=[(2,slA Y5 []),(3,.j x1.2.At),(4,.j (90:Int))]) (h':=[]) (StC.pure (.cons .nil (.i2 .nil))) (Y00 ?_)
  try simp only[Ex.t,Ex.b]
  exact Done.eq rfl (.tmp (.tmp (.tmp .nil)))
 refine Yi (Y0a (Y0 (OpsW.sg 1 [29,6,5] [(29,slA Y5 x1.1),(6,slA Y5 x1.1),Z89] ?_)));have⟨x3,hx3,H⟩:=Y0b H;refine Y0w rfl (.cons (.pur rfl) .nil) (f_R09_Valid_ok hx3) (OpsW.sg 1 [31,6,5] (Z88 x1 x3) (Y4 (Yd (b:= !x3) H rfl (fun c4 H=> ?_) (fun c4 H=> ?_))))
 ·refine Y0 (OpsW.sg 3 [4,3,2] [(4,.j (2:Int)),(3,.j (0:Int)),(2,.im (.val (.slice none 0 0)))] ?_);refine Y4 ?_;obtain rfl:=X8 H;refine AW.recast (env':=[(2,slA Y5 []),(3,.j (0:Int)),(4,.j (2:Int))]) (h':=[]) (StC.pure (.cons .nil (.i2 .nil))) (Y00 ?_)
  try simp only[Ex.t,Ex.b]
  exact Done.eq rfl (.tmp (.tmp (.tmp .nil)))
 refine Yi (Y3a Tryd.checked.mixed (by kernel_rfl) ?_);refine QOps.sz (N:=37) 2 ((33,.ref 5 0 0)::(32,slA Y5 x1.1)::(Z88 x1 x3)) trivial (QOps.quietU (.ref 5 0 0) rfl (Quiet.nilCheck rfl (gpoU rfl ⟨trivial,rfl,rfl⟩)) (QOps.sz (N:=37) 5 ((4,.j (0:Int))::(3,.j x1.2.At)::(2,slA Y5 x1.1)::(36,.j x1.2.At)::(35,.ref 5 0 1)::(34,.ref 5 0 0)::(33,.ref 5 0 0)::(32,slA Y5 x1.1)::(Z88 x1 x3)) trivial ?_));refine QOps.nil (AW.trim [4,3,2] [(4,.j (0:Int)),(3,.j x1.2.At),(2,slA Y5 x1.1)] (by kernel_rfl) ?_);obtain rfl:=X8 H;refine AW.recast (env':=[(2,slA Y5 x1.1),(3,.j x1.2.At),(4,.j (0:Int))]) (h':=[]) (StC.pure (.i3 .nil)) (Y00 ?_)
 try simp only[Ex.t,Ex.b]
 exact Done.eq rfl (.tmp (.tmp (.tmp .nil)))
def Y1u (x1:Bool) (v12:ByteArray):Option Bool:=
 (Y1o v12).bind fun x13=>
 (Y5y v12).bind fun x14=>
 (f_R09_Same x13.1 x14.1).bind fun x15=>
 some (cond (cond (cond x15 (x13.2.1==x14.2.1) false) (x13.2.2==x14.2.2) false) x1 false)
def Y53 (t0:List Int) (t1:Int) (t2:List Int):Option Bool:=
 (f_L09_sanity).bind fun x1=>
 (f_R09_Made t0).bind fun x2=>
 (f_R09_Print x2).bind fun x3=>
 G ((x3.size:Int)≠0)<|
 G (((⟨#[48,49,50,51,52,53,54,55,56,57,97,98,99,102,109,114,115,116,40,41,44,59,43,45,42,61,32]⟩:ByteArray).size:Int)≠0)<|
 G (0≤(Int.tmod (IntKind.wrap .i64 (t2.getD 1 0)) ((⟨#[48,49,50,51,52,53,54,55,56,57,97,98,99,102,109,114,115,116,40,41,44,59,43,45,42,61,32]⟩:ByteArray).size:Int))∧(Int.tmod (IntKind.wrap .i64 (t2.getD 1 0)) ((⟨#[48,49,50,51,52,53,54,55,56,57,97,98,99,102,109,114,115,116,40,41,44,59,43,45,42,61,32]⟩:ByteArray).size:Int))<((⟨#[48,49,50,51,52,53,54,55,56,57,97,98,99,102,109,114,115,116,40,41,44,59,43,45,42,61,32]⟩:ByteArray).size:Int))<|
 G (0≤(Int.tmod (IntKind.wrap .i64 t1) (x3.size:Int))∧(Int.tmod (IntKind.wrap .i64 t1) (x3.size:Int))≤(x3.size:Int))<|
 G ((x3.extract 0 ((Int.tmod (IntKind.wrap .i64 t1) (x3.size:Int)).toNat)).size+(Y3x [bAt (⟨#[48,49,50,51,52,53,54,55,56,57,97,98,99,102,109,114,115,116,40,41,44,59,43,45,42,61,32]⟩:ByteArray) (Int.tmod (IntKind.wrap .i64 (t2.getD 1 0)) ((⟨#[48,49,50,51,52,53,54,55,56,57,97,98,99,102,109,114,115,116,40,41,44,59,43,45,42,61,32]⟩:ByteArray).size:Int))]).size≤9223372036854775807)<|
 G (inR ((Int.tmod (IntKind.wrap .i64 t1) (x3.size:Int))+1))<|
 G (0≤((Int.tmod (IntKind.wrap .i64 t1) (x3.size:Int))+1)∧((Int.tmod (IntKind.wrap .i64 t1) (x3.size:Int))+1)≤(x3.size:Int))<|
 G (((x3.extract 0 ((Int.tmod (IntKind.wrap .i64 t1) (x3.size:Int)).toNat))++(Y3x [bAt (⟨#[48,49,50,51,52,53,54,55,56,57,97,98,99,102,109,114,115,116,40,41,44,59,43,45,42,61,32]⟩:ByteArray) (Int.tmod (IntKind.wrap .i64 (t2.getD 1 0)) ((⟨#[48,49,50,51,52,53,54,55,56,57,97,98,99,102,109,114,115,116,40,41,44,59,43,45,42,61,32]⟩:ByteArray).size:Int))])).size+(x3.extract (((Int.tmod (IntKind.wrap .i64 t1) (x3.size:Int))+1).toNat) x3.size).size≤9223372036854775807)<|
 cond ((Int.tmod (t2.getD 0 0) (3:Int))==1) (
  G ((x3.extract 0 ((Int.tmod (IntKind.wrap .i64 t1) (x3.size:Int)).toNat)).size+(x3.extract (((Int.tmod (IntKind.wrap .i64 t1) (x3.size:Int))+1).toNat) x3.size).size≤9223372036854775807)<|
  Y1u x1 ((x3.extract 0 ((Int.tmod (IntKind.wrap .i64 t1) (x3.size:Int)).toNat))++(x3.extract (((Int.tmod (IntKind.wrap .i64 t1) (x3.size:Int))+1).toNat) x3.size))) (
  cond ((Int.tmod (t2.getD 0 0) (3:Int))==2) (
   G (((x3.extract 0 ((Int.tmod (IntKind.wrap .i64 t1) (x3.size:Int)).toNat))++(Y3x [bAt (⟨#[48,49,50,51,52,53,54,55,56,57,97,98,99,102,109,114,115,116,40,41,44,59,43,45,42,61,32]⟩:ByteArray) (Int.tmod (IntKind.wrap .i64 (t2.getD 1 0)) ((⟨#[48,49,50,51,52,53,54,55,56,57,97,98,99,102,109,114,115,116,40,41,44,59,43,45,42,61,32]⟩:ByteArray).size:Int))])).size+(x3.extract ((Int.tmod (IntKind.wrap .i64 t1) (x3.size:Int)).toNat) x3.size).size≤9223372036854775807)<|
   Y1u x1 (((x3.extract 0 ((Int.tmod (IntKind.wrap .i64 t1) (x3.size:Int)).toNat))++(Y3x [bAt (⟨#[48,49,50,51,52,53,54,55,56,57,97,98,99,102,109,114,115,116,40,41,44,59,43,45,42,61,32]⟩:ByteArray) (Int.tmod (IntKind.wrap .i64 (t2.getD 1 0)) ((⟨#[48,49,50,51,52,53,54,55,56,57,97,98,99,102,109,114,115,116,40,41,44,59,43,45,42,61,32]⟩:ByteArray).size:Int))]))++(x3.extract ((Int.tmod (IntKind.wrap .i64 t1) (x3.size:Int)).toNat) x3.size))) (
   Y1u x1 (((x3.extract 0 ((Int.tmod (IntKind.wrap .i64 t1) (x3.size:Int)).toNat))++(Y3x [bAt (⟨#[48,49,50,51,52,53,54,55,56,57,97,98,99,102,109,114,115,116,40,41,44,59,43,45,42,61,32]⟩:ByteArray) (Int.tmod (IntKind.wrap .i64 (t2.getD 1 0)) ((⟨#[48,49,50,51,52,53,54,55,56,57,97,98,99,102,109,114,115,116,40,41,44,59,43,45,42,61,32]⟩:ByteArray).size:Int))]))++(x3.extract (((Int.tmod (IntKind.wrap .i64 t1) (x3.size:Int))+1).toNat) x3.size))))
section
variable (t1:Int) (t2:List Int) (x1:Bool) (x3:ByteArray)
abbrev Z8d:=(⟨#[48,49,50,51,52,53,54,55,56,57,97,98,99,102,109,114,115,116,40,41,44,59,43,45,42,61,32]⟩:ByteArray)
abbrev Z8e:=(Int.tmod (IntKind.wrap .i64 t1) (x3.size:Int))
abbrev Z8f:=(Int.tmod (IntKind.wrap .i64 (t2.getD 1 0)) (Z8d.size:Int))
abbrev Z8g:=x3.extract (((Z8e t1 x3)+1).toNat) x3.size
abbrev Z8h:=x3.extract 0 ((Z8e t1 x3).toNat)
abbrev Z8i:=(Int.tmod (t2.getD 0 0) (3:Int))
abbrev Z8j:=x3.extract ((Z8e t1 x3).toNat) x3.size
abbrev Z8c:Env:=[(7,.bool x1),(5,.ref 5 0 0)]
end
theorem f_L09_FormulaSpoilt_ok{t0:List Int}{t1:Int}{t2:List Int}{r:Bool}(H:Y53 t0 t1 t2=some r):QSpec Tryd.prog 6 [slA (eI .u8) t0,.int .u8 t1,.agg [.int .u8 (t2.getD 0 0),.int .u8 (t2.getD 1 0)]] (.bool r):=by
 refine Yv Tryd.func6 rfl (by simp[Tryd.ntmps6]) ?_;rw[Tryd.ntmps6];unfold Y53 at H;change AW _ _ _ [(0,sU t0),(1,.int .u8 t1),(2,.agg [.int .u8 (t2.getD 0 0),.int .u8 (t2.getD 1 0)])] [] _;refine Y0 (OpsW.box rfl rfl rfl 5 rfl (Y0o (by kernel_rfl)) ?_);change OpsW _ _ _ _ _ [(5,⟨0,true,39,2,[.int .u8 (t2.getD 0 0),.int .u8 (t2.getD 1 0)]⟩)] _;refine OpsW.sg 1 [5,0,1] [(5,.ref 5 0 0),(0,sU t0),(1,.int .u8 t1)]<|Y4 (Y0 ?_);have⟨x1,hx1,H⟩:=Y0b H;refine Y0w rfl .nil (f_L09_sanity_ok hx1) (OpsW.sg 1 [7,5,0,1] [(7,.bool x1),(5,.ref 5 0 0),(0,sU t0),(1,.int .u8 t1)] ?_);refine Y4 (Y0 (OpsW.sg 1 [20,7,5,1] [(20,sU t0),(7,.bool x1),(5,.ref 5 0 0),(1,.int .u8 t1)] ?_));have⟨x2,hx2,H⟩:=Y0b H;refine Y0w rfl (.cons (.pur rfl) .nil) (f_R09_Made_ok hx2) ?_;have⟨x3,hx3,H⟩:=Y0b H;refine Y0w rfl (.cons (.pur rfl) .nil) (f_R09_Print_ok hx3) (OpsW.sg 1 [8,7,5,1] [(8,.string x3),(7,.bool x1),(5,.ref 5 0 0),(1,.int .u8 t1)] ?_);refine Y4 (Y0 ?_);have⟨g4,H⟩:=Yh H;refine OpsW.sz 7 [10,9,8,7,5] ((10,.string Z8d)::(9,.j (Z8e t1 x3))::(8,.string x3)::(Z8c x1)) ⟨g4,trivial⟩<|Y4 (Y0 ?_);have⟨g5,H⟩:=Yh H;have⟨g6,H⟩:=Yh H
 refine OpsW.sz 8 [35,9,8,7,5] ((35,.int .u8 (bAt Z8d (Z8f t2)))::(9,.j (Z8e t1 x3))::(8,.string x3)::(Z8c x1)) ⟨(by decide),g5,g6,trivial⟩ (OpsW.buildTI (enc:=eI .u8) [bAt Z8d (Z8f t2)] rfl rfl rfl E24 (fun _=>rfl) (by decide) ⟨trivial,by kernel_rfl,by kernel_rfl,by kernel_rfl,rfl⟩ (OpsW.quietU (.string (Y3x [bAt Z8d (Z8f t2)])) rfl rfl (Quiet.toStr (e:=5) [bAt Z8d (Z8f t2)] rfl (by kernel_rfl) (by kernel_rfl) (by kernel_rfl) (gpoU rfl ⟨trivial,SlV.im,SrcA.typed (enc:=eI .u8) (fun _=>rfl) (by kernel_rfl) [bAt Z8d (Z8f t2)]⟩)) (OpsW.sg 1 [11,9,8,7,5] ((11,.string (Y3x [bAt Z8d (Z8f t2)]))::(9,.j (Z8e t1 x3))::(8,.string x3)::(Z8c x1)) ?_)));refine Y4 (Y3a Tryd.checked.mixed (by kernel_rfl) ?_);have⟨g7,H⟩:=Yh H;have⟨g8,H⟩:=Yh H;have⟨g9,H⟩:=Yh H;have⟨g10,H⟩:=Yh H;have⟨g11,H⟩:=Yh H;refine QOps.sz (N:=100) 11 ((12,.string (((Z8h t1 x3)++(Y3x [bAt Z8d (Z8f t2)]))++(Z8g t1 x3)))::(47,.string (((Z8h t1 x3)++(Y3x [bAt Z8d (Z8f t2)]))++(Z8g t1 x3)))::(46,.string (Z8g t1 x3))::(45,.j ((Z8e t1 x3)+1))::(44,.j (Z8e t1 x3))::(43,.string x3)::(42,.string ((Z8h t1 x3)++(Y3x [bAt Z8d (Z8f t2)])))::(41,.string (Y3x [bAt Z8d (Z8f t2)]))::(40,.string (Z8h t1 x3))::(39,.j (Z8e t1 x3))::(38,.string x3)::(11,.string (Y3x [bAt Z8d (Z8f t2)]))::(9,.j (Z8e t1 x3))::(8,.string x3)::(Z8c x1)) ⟨g7,g8,g9,g10,g11,trivial⟩ ?_
 refine QOps.nil (AW.trim [12,11,9,8,7,5] ((12,.string (((Z8h t1 x3)++(Y3x [bAt Z8d (Z8f t2)]))++(Z8g t1 x3)))::(11,.string (Y3x [bAt Z8d (Z8f t2)]))::(9,.j (Z8e t1 x3))::(8,.string x3)::(Z8c x1)) (by kernel_rfl) ?_);refine Y3d (fun(y:ByteArray)=>Y1u x1 y) r (fun(y:ByteArray)=>[(7,.bool x1),(12,.string y)]) (fun(y:ByteArray)=>[]) ?_ ?_
 ·refine Y0 (OpsW.sz 3 [50,12,11,9,8,7] [(50,.int .u8 (Z8i t2)),(12,.string (((Z8h t1 x3)++(Y3x [bAt Z8d (Z8f t2)]))++(Z8g t1 x3))),(11,.string (Y3x [bAt Z8d (Z8f t2)])),(9,.j (Z8e t1 x3)),(8,.string x3),(7,.bool x1)] ⟨(by decide),(by decide),trivial⟩ ?_);refine Y4 (Y04 (Y0 (OpsW.sg 2 [51,50,12,11,9,8,7] [(51,.bool ((Z8i t2)==1)),(50,.int .u8 (Z8i t2)),(12,.string (((Z8h t1 x3)++(Y3x [bAt Z8d (Z8f t2)]))++(Z8g t1 x3))),(11,.string (Y3x [bAt Z8d (Z8f t2)])),(9,.j (Z8e t1 x3)),(8,.string x3),(7,.bool x1)] ?_)));refine Y4 (Yd (b:=(Z8i t2)==1) H rfl (fun c16 H=> ?_) (fun c16 H=> ?_))
  ·refine AW.draw Tryd.checked.mixed (by kernel_rfl) ?_;have⟨g17,H⟩:=Yh H;refine QOps.sz (N:=100) 9 [(12,.string ((Z8h t1 x3)++(Z8g t1 x3))),(60,.string ((Z8h t1 x3)++(Z8g t1 x3))),(59,.string (Z8g t1 x3)),(58,.j ((Z8e t1 x3)+1)),(57,.j (Z8e t1 x3)),(56,.string x3),(55,.string (Z8h t1 x3)),(54,.j (Z8e t1 x3)),(53,.string x3),(51,.bool ((Z8i t2)==1)),(50,.int .u8 (Z8i t2)),(12,.string (((Z8h t1 x3)++(Y3x [bAt Z8d (Z8f t2)]))++(Z8g t1 x3))),(11,.string (Y3x [bAt Z8d (Z8f t2)])),(9,.j (Z8e t1 x3)),(8,.string x3),(7,.bool x1)] ⟨g7,g9,g10,g17,trivial⟩ (QOps.nil ?_);exact⟨(Z8h t1 x3)++(Z8g t1 x3),H,(StC.pure (.i2 .nil))⟩
  refine Y0 (OpsW.sg 2 [61,12,11,9,8,7] [(61,.bool ((Z8i t2)==2)),(12,.string (((Z8h t1 x3)++(Y3x [bAt Z8d (Z8f t2)]))++(Z8g t1 x3))),(11,.string (Y3x [bAt Z8d (Z8f t2)])),(9,.j (Z8e t1 x3)),(8,.string x3),(7,.bool x1)] ?_);refine Y4 (Yd (b:=(Z8i t2)==2) H rfl (fun c18 H=> ?_) (fun c18 H=> ?_))
  ·refine AW.draw Tryd.checked.mixed (by kernel_rfl) ?_;have⟨g19,H⟩:=Yh H;refine QOps.sz (N:=100) 10 [(12,.string (((Z8h t1 x3)++(Y3x [bAt Z8d (Z8f t2)]))++(Z8j t1 x3))),(71,.string (((Z8h t1 x3)++(Y3x [bAt Z8d (Z8f t2)]))++(Z8j t1 x3))),(70,.string (Z8j t1 x3)),(69,.j (Z8e t1 x3)),(68,.string x3),(67,.string ((Z8h t1 x3)++(Y3x [bAt Z8d (Z8f t2)]))),(66,.string (Y3x [bAt Z8d (Z8f t2)])),(65,.string (Z8h t1 x3)),(64,.j (Z8e t1 x3)),(63,.string x3),(61,.bool ((Z8i t2)==2)),(12,.string (((Z8h t1 x3)++(Y3x [bAt Z8d (Z8f t2)]))++(Z8g t1 x3))),(11,.string (Y3x [bAt Z8d (Z8f t2)])),(9,.j (Z8e t1 x3)),(8,.string x3),(7,.bool x1)] ⟨g7,g8,g7,g19,trivial⟩ (QOps.nil ?_);exact⟨((Z8h t1 x3)++(Y3x [bAt Z8d (Z8f t2)]))++(Z8j t1 x3),H,(StC.pure (.i2 .nil))⟩
  refine Yi ?_;exact⟨((Z8h t1 x3)++(Y3x [bAt Z8d (Z8f t2)]))++(Z8g t1 x3),H,(StC.pure (.i2 .nil))⟩
 intro v12 H;unfold Y1u at H;change AW _ _ _ [(7,.bool x1),(12,.string v12)] [] _;refine Y0 (OpsW.sg 1 [73,7,12] [(73,.string v12),(7,.bool x1),(12,.string v12)] ?_);have⟨x13,hx13,H⟩:=Y0b H;refine Y0w rfl (.cons (.pur rfl) .nil) (f_formula_Parse_ok hx13) (OpsW.sg 7 [15,14,13,7,12] [(15,.j x13.2.2),(14,.j x13.2.1),(13,slA Y5 x13.1),(7,.bool x1),(12,.string v12)] ?_);refine Y4 (Y0 (OpsW.sg 1 [79,15,14,13,7] [(79,.string v12),(15,.j x13.2.2),(14,.j x13.2.1),(13,slA Y5 x13.1),(7,.bool x1)] ?_));have⟨x14,hx14,H⟩:=Y0b H;refine Y0w rfl (.cons (.pur rfl) .nil) (f_R09_Parse_ok hx14) (OpsW.sg 7 [18,17,16,15,14,13,7] [(18,.j x14.2.2),(17,.j x14.2.1),(16,slA Y5 x14.1),(15,.j x13.2.2),(14,.j x13.2.1),(13,slA Y5 x13.1),(7,.bool x1)] ?_);refine Y4 (Y0 (OpsW.sg 2 [85,84,18,17,15,14,7] [(85,slA Y5 x14.1),(84,slA Y5 x13.1),(18,.j x14.2.2),(17,.j x14.2.1),(15,.j x13.2.2),(14,.j x13.2.1),(7,.bool x1)] ?_));have⟨x15,hx15,H⟩:=Y0b H;refine Y0w rfl (.cons (.pur rfl) (.cons (.pur rfl) .nil)) (f_R09_Same_ok hx15) (OpsW.sz 14 [6] [(6,.bool (cond (cond (cond x15 (x13.2.1==x14.2.1) false) (x13.2.2==x14.2.2) false) x1 false))] ⟨(fun h=>h),(fun h=>h),(fun h=>by first|exact h|(simpa using h)|grind),(fun h=>h),(fun h=>h),(fun h=>by first|exact h|(simpa using h)|grind),(fun h=>by first|exact h|(simpa using h)|grind),trivial⟩ (Y4 ?_));obtain rfl:=X8 H
 refine AW.recast (env':=[(6,.bool (cond (cond (cond x15 (x13.2.1==x14.2.1) false) (x13.2.2==x14.2.2) false) x1 false))]) (h':=[]) (StC.pure (.cons .im .nil)) (Y00 ?_)
 try simp only[Ex.t,Ex.b]
 exact Done.eq rfl (.tmp .nil)
end Go.Proofs.YtkgfbpbndmklnaaDoor
