/- Own work. -/
import Derived.Test.YtkgfbpbndmklnaaDoorW4
set_option linter.unusedSimpArgs false
set_option linter.unusedVariables false
set_option maxRecDepth 100000
namespace Go.Proofs.YtkgfbpbndmklnaaDoor
open Go.Abs
def Y5j (t0:ByteArray):Option ((List Y5)×Int×Int):=
 (Y4k (⟨t0,(0:Int),false⟩:Y1) (1:Int)).bind fun x1=>
 cond (cond x1.2.Bad true (decide (x1.2.At<(t0.size:Int)))) (
  some ([],x1.2.At,(90:Int))) (
  (f_R09_Valid x1.1).bind fun x3=>
  cond (!x3) (
   some ([],(0:Int),(2:Int))) (
   some (x1.1,x1.2.At,(0:Int))))
section
variable (t0:ByteArray) (x1:((List Y5)×Y1)) (x3:Bool)
abbrev Z89:Nat×AV:=(5,.ref 5 0 0)
abbrev Z86:Env:=[(24,.bool (cond x1.2.Bad true (decide (x1.2.At<(t0.size:Int))))),(6,slA Y4 x1.1),Z89]
abbrev Z87:Hp:=[(5,⟨0,true,68,3,[.string t0,.j (0:Int),.bool false]⟩)]
abbrev Z88:Env:=[(31,.bool (!x3)),(6,slA Y4 x1.1),Z89]
end
theorem f_R09_Parse_ok{t0:ByteArray}{r:(List Y5)×Int×Int}(H:Y5j t0=some r):QSpec Tryd.prog 18 [.string t0] (.tup [slA Y4 r.1,.int .i64 r.2.1,.int .i64 r.2.2]):=by
 refine Yw Tryd.func18 rfl (by simp[Tryd.ntmps18]) ?_;rw[Tryd.ntmps18];unfold Y5j at H;change AW _ _ _ [(0,.string t0)] [] _;refine Y0 (OpsW.sg 3 [0] [(0,.string t0)] ?_);refine Y2 (Y0 (OpsW.sg 2 [8,0] [(8,.agg [.string t0,.j (0:Int),.bool false]),(0,.string t0)] ?_));refine OpsW.box rfl rfl rfl 9 rfl (Yx (by kernel_rfl)) ?_;change OpsW _ _ _ _ _ [(9,⟨0,true,68,3,[.string t0,.j (0:Int),.bool false]⟩)] _;refine OpsW.sg 1 [5,0] [(5,.ref 9 0 0),(0,.string t0)] (OpsW.rc [Z89,(0,.string t0)] (Z87 t0) (StC.mk (phi [(5,some 9)]) (.o rfl (.i3 .nil) .nil) rfl (.cons (.r rfl) (.cons .im .nil))) ?_);refine Y2 (Y0 (OpsW.sg 1 [10,5,0] [(10,.ref 5 0 0),Z89,(0,.string t0)] ?_));have⟨x1,hx1,H⟩:=Y0y H;refine Y2v (Z87 t0) [] [(2020,⟨0,true,68,3,[.string t0,.j (0:Int),.bool false]⟩)] (phi [(2020,some 5)]) rfl (f_R09_parser_expression_io hx1) (.cons (.r rfl) (.cons .im .nil)) (.b (.i3 .nil) .nil) (slA Y4 x1.1) [(5,⟨0,true,68,3,[.string x1.2.S,.j x1.2.At,.bool x1.2.Bad]⟩)] (phi [(5,some 2020)]) (.b (.i3 .nil) .nil) (.cons .im .nil)<|OpsW.sg 1 [6,5,0] [(6,slA Y4 x1.1),Z89,(0,.string t0)] ?_;refine Y2 (Y05 (Y0 (OpsW.sg 1 [12,6,5,0] [(12,.ref 5 0 0),(6,slA Y4 x1.1),Z89,(0,.string t0)] ?_)))
 refine Y0s rfl rfl rfl (OpsW.sg 4 [17,16,6,5,0] [(17,.cnd (!x1.2.Bad) (.ref 5 0 0)),(16,.bool x1.2.Bad),(6,slA Y4 x1.1),Z89,(0,.string t0)] (Y65 (c:= !x1.2.Bad) (.ref 5 0 0) rfl rfl rfl rfl (Quiet.nilCheck rfl (gpoG (c:= !x1.2.Bad) rfl rfl rfl (fun hc=>⟨hc,rfl,rfl⟩))) (OpsW.sz 6 [24,6,5] (Z86 t0 x1) ⟨id,id,id,id,id,(by grind),trivial⟩ (Y2 (Yc (b:=cond x1.2.Bad true (decide (x1.2.At<(t0.size:Int)))) H rfl (fun c2 H=> ?_) (fun c2 H=> ?_))))))
 ·refine Y28 Tryd.checked.mixed (by kernel_rfl)<|QOps.sz (N:=37) 1 ((25,.ref 5 0 0)::(Z86 t0 x1)) trivial (QOps.quietU (.ref 5 0 0) rfl (Quiet.nilCheck rfl (gpoU rfl ⟨trivial,rfl,rfl⟩)) (QOps.sz (N:=37) 5 ((4,.j (90:Int))::(3,.j x1.2.At)::(2,.im (.val (.slice none 0 0)))::(28,.j x1.2.At)::(27,.ref 5 0 1)::(26,.ref 5 0 0)::(25,.ref 5 0 0)::(Z86 t0 x1)) trivial ?_));refine QOps.nil (AW.trim [4,3,2] [(4,.j (90:Int)),(3,.j x1.2.At),(2,.im (.val (.slice none 0 0)))] (by kernel_rfl) ?_);obtain rfl:=X6 H;refine AW.recast (env':=[(2,slA Y4 []),(3,.j x1.2.At),(4,.j (90:Int))]) (h':=[]) (StC.pure (.cons .nil (.i2 .nil))) (Yp ?_)
  try simp only[Ex.t,Ex.b]
  exact Done.eq rfl (.tmp (.tmp (.tmp .nil)))
 refine Yh (Y05 (Y0 (OpsW.sg 1 [29,6,5] [(29,slA Y4 x1.1),(6,slA Y4 x1.1),Z89] ?_)));have⟨x3,hx3,H⟩:=Y0y H;refine Y20 rfl (.cons (.pur rfl) .nil) (f_R09_Valid_ok hx3) (OpsW.sg 1 [31,6,5] (Z88 x1 x3) (Y2 (Yc (b:= !x3) H rfl (fun c4 H=> ?_) (fun c4 H=> ?_))))
 ·refine Y0 (OpsW.sg 3 [4,3,2] [(4,.j (2:Int)),(3,.j (0:Int)),(2,.im (.val (.slice none 0 0)))] ?_);refine Y2 ?_;obtain rfl:=X6 H;refine AW.recast (env':=[(2,slA Y4 []),(3,.j (0:Int)),(4,.j (2:Int))]) (h':=[]) (StC.pure (.cons .nil (.i2 .nil))) (Yp ?_)
  try simp only[Ex.t,Ex.b]
  exact Done.eq rfl (.tmp (.tmp (.tmp .nil)))
 refine Yh (Y28 Tryd.checked.mixed (by kernel_rfl) ?_);refine QOps.sz (N:=37) 2 ((33,.ref 5 0 0)::(32,slA Y4 x1.1)::(Z88 x1 x3)) trivial (QOps.quietU (.ref 5 0 0) rfl (Quiet.nilCheck rfl (gpoU rfl ⟨trivial,rfl,rfl⟩)) (QOps.sz (N:=37) 5 ((4,.j (0:Int))::(3,.j x1.2.At)::(2,slA Y4 x1.1)::(36,.j x1.2.At)::(35,.ref 5 0 1)::(34,.ref 5 0 0)::(33,.ref 5 0 0)::(32,slA Y4 x1.1)::(Z88 x1 x3)) trivial ?_));refine QOps.nil (AW.trim [4,3,2] [(4,.j (0:Int)),(3,.j x1.2.At),(2,slA Y4 x1.1)] (by kernel_rfl) ?_);obtain rfl:=X6 H;refine AW.recast (env':=[(2,slA Y4 x1.1),(3,.j x1.2.At),(4,.j (0:Int))]) (h':=[]) (StC.pure (.i3 .nil)) (Yp ?_)
 try simp only[Ex.t,Ex.b]
 exact Done.eq rfl (.tmp (.tmp (.tmp .nil)))
def Y4o (t0:List Int):Option Bool:=
 (f_L09_sanity).bind fun x1=>
 G (0≤(if(60:Int)<(t0.length:Int) then(60:Int) else(t0.length:Int))∧(if(60:Int)<(t0.length:Int) then(60:Int) else(t0.length:Int))≤(t0.length:Int))<|
 (Y1i (strOf (t0.take ((if(60:Int)<(t0.length:Int) then(60:Int) else(t0.length:Int)).toNat)))).bind fun x3=>
 (Y5j (strOf (t0.take ((if(60:Int)<(t0.length:Int) then(60:Int) else(t0.length:Int)).toNat)))).bind fun x4=>
 (f_R09_Same x3.1 x4.1).bind fun x5=>
 (cond ((cond (cond x5 (x3.2.1==x4.2.1) false) (x3.2.2==x4.2.2) false)&&(!(x3.2.2 !=0))) (Y4d x3.1) (some false)).bind fun x6=>
 (cond (((cond (cond x5 (x3.2.1==x4.2.1) false) (x3.2.2==x4.2.2) false)&&(!(x3.2.2 !=0)))&&x6) (Y5f x3.1) (some ByteArray.empty)).bind fun x7=>
 some (cond (cond (cond (cond x5 (x3.2.1==x4.2.1) false) (x3.2.2==x4.2.2) false) (cond (x3.2.2 !=0) true (cond x6 (x7.toList==(strOf (t0.take ((if(60:Int)<(t0.length:Int) then(60:Int) else(t0.length:Int)).toNat))).toList) false)) false) x1 false)
section
variable (t0:List Int)
abbrev Z8a:=(t0.take ((if(60:Int)<(t0.length:Int) then(60:Int) else(t0.length:Int)).toNat))
abbrev Z8b:=strOf (Z8a t0)
end
theorem f_L09_FormulaParses_ok{t0:List Int}{r:Bool}(H:Y4o t0=some r):QSpec Tryd.prog 5 [slA (eI .u8) t0] (.bool r):=by
 refine Yw Tryd.func5 rfl (by simp[Tryd.ntmps5]) ?_;rw[Tryd.ntmps5];unfold Y4o at H;change AW _ _ _ [(0,sU t0)] [] _;refine Y0 (OpsW.sg 1 [0] [(0,sU t0)] ?_);refine Y2 (Y0 ?_);have⟨x1,hx1,H⟩:=Y0y H;refine Y20 rfl .nil (f_L09_sanity_ok hx1) (OpsW.sg 1 [3,0] [(3,.bool x1),(0,sU t0)] ?_);refine Y2 (Y0 (OpsW.sg 4 [15,12,3] [(15,.j (if(60:Int)<(t0.length:Int) then(60:Int) else(t0.length:Int))),(12,sU t0),(3,.bool x1)] ?_));have⟨g2,H⟩:=Y00 H;refine OpsW.asU (sU (Z8a t0)) rfl rfl (T.slice' rfl trivial trivial trivial (by kernel_rfl) (by kernel_rfl) g2 trivial (sl_hi (eI .u8) 1 (fun _=>rfl) t0 (if(60:Int)<(t0.length:Int) then(60:Int) else(t0.length:Int)) g2)) (OpsW.quietU (.string (Z8b t0)) rfl rfl (Quiet.toStr (e:=5) (Z8a t0) rfl (by kernel_rfl) (by kernel_rfl) (by kernel_rfl) (gpoU rfl ⟨trivial,SlV.im,SrcA.typed (enc:=eI .u8) (fun _=>rfl) (by kernel_rfl) (Z8a t0)⟩)) (OpsW.sg 1 [4,3] [(4,.string (Z8b t0)),(3,.bool x1)] ?_));refine Y2 (Y0 (OpsW.sg 1 [19,4,3] [(19,.string (Z8b t0)),(4,.string (Z8b t0)),(3,.bool x1)] ?_));have⟨x3,hx3,H⟩:=Y0y H;refine Y20 rfl (.cons (.pur rfl) .nil) (f_formula_Parse_ok hx3) (OpsW.sg 7 [7,6,5,4,3] [(7,.j x3.2.2),(6,.j x3.2.1),(5,slA Y4 x3.1),(4,.string (Z8b t0)),(3,.bool x1)] ?_);refine Y2 (Y0 (OpsW.sg 1 [25,7,6,5,4,3] [(25,.string (Z8b t0)),(7,.j x3.2.2),(6,.j x3.2.1),(5,slA Y4 x3.1),(4,.string (Z8b t0)),(3,.bool x1)] ?_));have⟨x4,hx4,H⟩:=Y0y H
 refine Y20 rfl (.cons (.pur rfl) .nil) (f_R09_Parse_ok hx4) (OpsW.sg 7 [10,9,8,7,6,5,4,3] [(10,.j x4.2.2),(9,.j x4.2.1),(8,slA Y4 x4.1),(7,.j x3.2.2),(6,.j x3.2.1),(5,slA Y4 x3.1),(4,.string (Z8b t0)),(3,.bool x1)] ?_);refine Y2 (Y0 (OpsW.sg 2 [31,30,10,9,7,6,5,4,3] [(31,slA Y4 x4.1),(30,slA Y4 x3.1),(10,.j x4.2.2),(9,.j x4.2.1),(7,.j x3.2.2),(6,.j x3.2.1),(5,slA Y4 x3.1),(4,.string (Z8b t0)),(3,.bool x1)] ?_));have⟨x5,hx5,H⟩:=Y0y H;refine Y20 rfl (.cons (.pur rfl) (.cons (.pur rfl) .nil)) (f_R09_Same_ok hx5) (OpsW.sz 15 [47,46,43,5,4,3] [(47,.cnd ((cond (cond x5 (x3.2.1==x4.2.1) false) (x3.2.2==x4.2.2) false)&&(!(x3.2.2 !=0))) (slA Y4 x3.1)),(46,.cnd (cond (cond x5 (x3.2.1==x4.2.1) false) (x3.2.2==x4.2.2) false) (.bool (x3.2.2 !=0))),(43,.bool (cond (cond x5 (x3.2.1==x4.2.1) false) (x3.2.2==x4.2.2) false)),(5,slA Y4 x3.1),(4,.string (Z8b t0)),(3,.bool x1)] ⟨id,id,(by grind),id,id,(by grind),id,id,trivial⟩ ?_);have⟨x6,hx6,H⟩:=Y0y H
 refine OpsW.gcall (c:=(cond (cond x5 (x3.2.1==x4.2.1) false) (x3.2.2==x4.2.2) false)&&(!(x3.2.2 !=0))) (r:=.bool x6) [] rfl (by kernel_rfl) rfl rfl rfl rfl (fun hc=>⟨Ys ⟨hc,trivial⟩,(.cons (.pur rfl) .nil),f_formula_Valid_ok (condT hc hx6),.inl ⟨rfl,rfl⟩⟩) (OpsW.sz 2 [50,49,46,43,4,3] [(50,.cnd (((cond (cond x5 (x3.2.1==x4.2.1) false) (x3.2.2==x4.2.2) false)&&(!(x3.2.2 !=0)))&&x6) (slA Y4 x3.1)),(49,.cnd ((cond (cond x5 (x3.2.1==x4.2.1) false) (x3.2.2==x4.2.2) false)&&(!(x3.2.2 !=0))) (.bool x6)),(46,.cnd (cond (cond x5 (x3.2.1==x4.2.1) false) (x3.2.2==x4.2.2) false) (.bool (x3.2.2 !=0))),(43,.bool (cond (cond x5 (x3.2.1==x4.2.1) false) (x3.2.2==x4.2.2) false)),(4,.string (Z8b t0)),(3,.bool x1)] ⟨id,trivial⟩ ?_);have⟨x7,hx7,H⟩:=Y0y H;refine OpsW.gcall (c:=((cond (cond x5 (x3.2.1==x4.2.1) false) (x3.2.2==x4.2.2) false)&&(!(x3.2.2 !=0)))&&x6) (r:=.string x7) [] rfl (by kernel_rfl) rfl rfl rfl rfl (fun hc=>⟨Ys ⟨hc,trivial⟩,(.cons (.pur rfl) .nil),f_formula_Print_ok (condT hc hx7),.inl ⟨rfl,rfl⟩⟩) (OpsW.sz 9 [2] [(2,.bool (cond (cond (cond (cond x5 (x3.2.1==x4.2.1) false) (x3.2.2==x4.2.2) false) (cond (x3.2.2 !=0) true (cond x6 (x7.toList==(Z8b t0).toList) false)) false) x1 false))] ⟨id,id,id,(by grind),id,(by grind),(by grind),(by grind),trivial⟩ (Y2 ?_));obtain rfl:=X6 H
 refine AW.recast (env':=[(2,.bool (cond (cond (cond (cond x5 (x3.2.1==x4.2.1) false) (x3.2.2==x4.2.2) false) (cond (x3.2.2 !=0) true (cond x6 (x7.toList==(Z8b t0).toList) false)) false) x1 false))]) (h':=[]) (StC.pure (.cons .im .nil)) (Yp ?_)
 try simp only[Ex.t,Ex.b]
 exact Done.eq rfl (.tmp .nil)
end Go.Proofs.YtkgfbpbndmklnaaDoor
