/- Own work. -/
import Derived.Test.YtfpcbalkioolmaaDoorW5
import Derived.Test.YtfpcbalkioolmaaDoorLr15
set_option linter.unusedSimpArgs false
set_option linter.unusedVariables false
set_option maxRecDepth 100000
namespace Go.Proofs.YtfpcbalkioolmaaDoor
open Go.Abs
def Y2x (loop6:(Int)->Option Bool) (v5:Int):Option Bool:=
 G (inR (v5+1))<|
 loop6 (v5+1)
def Y19 (x1:Bool) (x3:(List Int)×Int) (loop6:(Int)->Option Bool) (v5:Int):Option Bool:=
 cond (decide (v5<(x3.1.length:Int))) (
  G (0<=v5/\v5<=(x3.1.length:Int))<|
  (f_linear_Read (x3.1.take v5.toNat)).bind fun x10=>
  cond (cond (cond (x10.2.2==100) (x10.2.1==v5) false) ((x10.1.length:Int)==0) false) (
   Y2x loop6 v5) (
   cond (cond (x10.2.2 !=0) true (x10.2.1 !=v5)) (
    some false) (
    (Y33 x10.1).bind fun x13=>
    (cond (!(x13.2 !=0)) (f_R01_Same x13.1 (x3.1.take v5.toNat)) (some false)).bind fun x14=>
    cond (cond (x13.2 !=0) true (!x14)) (
     some false) (
     Y2x loop6 v5)))) (
  some x1)
def Y4b (t0:List Int):Option Bool:=
 (f_L10_sanity).bind fun x1=>
 (f_R09_Made t0).bind fun x2=>
 (Y33 x2).bind fun x3=>
 cond (cond (x3.2 !=0) true (decide ((400:Int)<(x3.1.length:Int)))) (
  some (cond (x3.2==0) x1 false)) (
  iter (fun loop (s:Int)=>Y19 x1 x3 loop s) 1000000 (0:Int))
section
variable (v5:Int) (x1:Bool) (x3:(List Int)×Int)
abbrev Z7u:Env:=[(3,.bool x1),(4,sU x3.1),(6,.j v5)]
end
theorem f_L10_LinearPrefixes_ok{t0:List Int}{r:Bool}(H:Y4b t0=some r):QSpec Tryd.prog 5 [slA (eI .u8) t0] (.bool r):=by
 refine Y08 Tryd.func5 rfl (by simp[Tryd.ntmps5]) ?_;rw[Tryd.ntmps5];unfold Y4b at H;change AW _ _ _ [(0,sU t0)] [] _;refine Y0 (OpsW.sg 1 [0] [(0,sU t0)] ?_);refine Y2 (Y0 ?_);have⟨x1,hx1,H⟩:=Y1a H;refine Y2s rfl .nil (f_L10_sanity_ok hx1) (OpsW.sg 1 [3,0] [(3,.bool x1),(0,sU t0)] ?_);refine Y2 (Y0 (OpsW.sg 1 [14,3] [(14,sU t0),(3,.bool x1)] ?_));have⟨x2,hx2,H⟩:=Y1a H;refine Y2s rfl (.cons (.pur rfl) .nil) (f_R09_Made_ok hx2) ?_;have⟨x3,hx3,H⟩:=Y1a H;refine Y2s rfl (.cons (.pur rfl) .nil) (f_linear_Write_ok hx3) (OpsW.sg 5 [5,4,3] [(5,.j x3.2),(4,sU x3.1),(3,.bool x1)] ?_);refine Y2 (Y15 (Y0 (Yt 7 [25,5,4,3] [(25,.bool (cond (x3.2 !=0) true (decide ((400:Int)<(x3.1.length:Int))))),(5,.j x3.2),(4,sU x3.1),(3,.bool x1)] ⟨(fun h=>h),(fun h=>h),(fun h=>by first|exact h|(simpa using h)|grind),trivial⟩ ?_)));refine Y2 (Yd (b:=cond (x3.2 !=0) true (decide ((400:Int)<(x3.1.length:Int)))) H rfl (fun c4 H=> ?_) (fun c4 H=> ?_))
 ·refine Y0 (Yt 6 [2] [(2,.bool (cond (x3.2==0) x1 false))] ⟨(fun h=>by first|exact h|(simpa using h)|grind),trivial⟩ ?_);refine Y2 ?_;obtain rfl:=X6 H;refine AW.recast (env':=[(2,.bool (cond (x3.2==0) x1 false))]) (h':=[]) (StC.pure (.cons .im .nil)) (Y09 ?_)
  try simp only[Ex.t,Ex.b]
  exact Yw rfl (.tmp .nil)
 refine Ym (Y15 (Y0 (OpsW.sg 1 [6,4,3] [(6,.j (0:Int)),(4,sU x3.1),(3,.bool x1)] ?_)));refine Y2 (Y1b ?_);refine Y5w (fun loop (s:Int)=>Y19 x1 x3 loop s) r (fun(s:Int)=>[(3,.bool x1),(4,sU x3.1),(6,.j s)]) (fun(s:Int)=>[]) ?_ 1000000 (0:Int) H (StC.pure (.i3 .nil));intro loop6 v5 H;unfold Y19 at H;change AW _ _ _ (Z7u v5 x1 x3) [] _;refine Y15 (Y0 (OpsW.sg 4 [34,3,4,6] ((34,.bool (decide (v5<(x3.1.length:Int))))::(Z7u v5 x1 x3)) ?_));refine Y2 (Yd (b:=decide (v5<(x3.1.length:Int))) H rfl (fun c7 H=> ?_) (fun c7 H=> ?_))
 ·refine Ym<|Y1w (fun(y:Unit)=>Y2x loop6 v5) r (fun(y:Unit)=>(Z7u v5 x1 x3)) (fun(y:Unit)=>[]) ?_ ?_
  ·refine Y1b (Y0 (OpsW.sg 2 [39,38,3,4,6] ((39,.j v5)::(38,sU x3.1)::(Z7u v5 x1 x3)) ?_));have⟨g9,H⟩:=Y06 H;refine OpsW.asU (sU (x3.1.take v5.toNat)) rfl rfl (T.slice' rfl trivial trivial trivial (by kernel_rfl) (by kernel_rfl) g9 trivial (sl_hi (eI .u8) 1 (fun _=>rfl) x3.1 v5 g9)) ?_;have⟨x10,hx10,H⟩:=Y1a H;refine Y2s rfl (.cons (.pur rfl) .nil) (f_linear_Read_ok hx10) (OpsW.sg 7 [9,8,7,3,4,6] ((9,.j x10.2.2)::(8,.j x10.2.1)::(7,slA Y8 x10.1)::(Z7u v5 x1 x3)) ?_);refine Y2 (Y15 (Y0 (Yt 12 [56,9,8,7,3,4,6] ((56,.bool (cond (cond (x10.2.2==100) (x10.2.1==v5) false) ((x10.1.length:Int)==0) false))::(9,.j x10.2.2)::(8,.j x10.2.1)::(7,slA Y8 x10.1)::(Z7u v5 x1 x3)) ⟨(fun h=>h),(fun h=>h),(fun h=>by first|exact h|(simpa using h)|grind),(fun h=>h),(fun h=>h),(fun h=>by first|exact h|(simpa using h)|grind),trivial⟩ ?_)));refine Y2 (Yd (b:=cond (cond (x10.2.2==100) (x10.2.1==v5) false) ((x10.1.length:Int)==0) false) H rfl (fun c11 H=> ?_) (fun c11 H=> ?_))
   ·refine AW.exit ?_;exact⟨(),H,(StC.pure (.i3 .nil))⟩
   refine Ym (Y15 (Y0 (Yt 7 [63,7,3,4,6] ((63,.bool (cond (x10.2.2 !=0) true (x10.2.1 !=v5)))::(7,slA Y8 x10.1)::(Z7u v5 x1 x3)) ⟨(fun h=>h),(fun h=>h),(fun h=>by first|exact h|(simpa using h)|grind),trivial⟩ ?_)));refine Y2 (Yd (b:=cond (x10.2.2 !=0) true (x10.2.1 !=v5)) H rfl (fun c12 H=> ?_) (fun c12 H=> ?_))
   ·refine Y0 (OpsW.sg 1 [2] [(2,.bool false)] ?_);refine Y2 ?_;obtain rfl:=X6 H;refine AW.recast (env':=[(2,.bool false)]) (h':=[]) (StC.pure (.cons .im .nil)) (Y09 ?_)
    try simp only[Ex.t,Ex.b]
    exact Yw rfl (.tmp .nil)
   refine Ym (Y0 (OpsW.sg 1 [65,3,4,6] ((65,slA Y8 x10.1)::(Z7u v5 x1 x3)) ?_));have⟨x13,hx13,H⟩:=Y1a H;refine Y2s rfl (.cons (.pur rfl) .nil) (f_linear_Write_ok hx13) (OpsW.sg 5 [11,10,3,4,6] ((11,.j x13.2)::(10,sU x13.1)::(Z7u v5 x1 x3)) ?_);refine Y2 (Y0 (OpsW.sg 6 [74,73,72,71,3,4,6] ((74,.cnd (!(x13.2 !=0)) (.j v5))::(73,.cnd (!(x13.2 !=0)) (sU x3.1))::(72,.cnd (!(x13.2 !=0)) (sU x13.1))::(71,.bool (x13.2 !=0))::(Z7u v5 x1 x3)) ?_));refine OpsW.asG (c:= !(x13.2 !=0)) (sU (x3.1.take v5.toNat)) rfl rfl rfl rfl (fun hc=>T.slice' rfl hc trivial hc (by kernel_rfl) (by kernel_rfl) ((fun _=>g9) hc) trivial (sl_hi (eI .u8) 1 (fun _=>rfl) x3.1 v5 ((fun _=>g9) hc))) ?_;have⟨x14,hx14,H⟩:=Y1a H;refine OpsW.gcall (c:= !(x13.2 !=0)) (r:=.bool x14) [] rfl (by kernel_rfl) rfl rfl rfl rfl (fun hc=>⟨Y1f ⟨hc,hc,trivial⟩,(.cons (.pur rfl) (.cons (.pur rfl) .nil)),f_R01_Same_ok (condT hc hx14),.inl ⟨rfl,rfl⟩⟩) (Yt 2 [78,3,4,6] ((78,.bool (cond (x13.2 !=0) true (!x14)))::(Z7u v5 x1 x3)) ⟨(fun h=>h),(fun h=>by first|exact h|(simpa using h)|grind),trivial⟩ (Y2 (Yd (b:=cond (x13.2 !=0) true (!x14)) H rfl (fun c15 H=> ?_) (fun c15 H=> ?_))))
   ·refine Y0 (OpsW.sg 1 [2] [(2,.bool false)] ?_);refine Y2 ?_;obtain rfl:=X6 H;refine AW.recast (env':=[(2,.bool false)]) (h':=[]) (StC.pure (.cons .im .nil)) (Y09 ?_)
    try simp only[Ex.t,Ex.b]
    exact Yw rfl (.tmp .nil)
   refine Ym ?_;exact⟨(),H,(StC.pure (.i3 .nil))⟩
  rintro⟨⟩ H;unfold Y2x at H;change AW _ _ _ (Z7u v5 x1 x3) [] _;refine Ys ?_;have⟨g8,H⟩:=Y06 H;refine Yt 3 [6,3,4] [(6,.j (v5+1)),(3,.bool x1),(4,sU x3.1)] ⟨g8,trivial⟩ (Y2 ?_);exact⟨v5+1,H,(StC.pure (.i3 .nil))⟩
 refine AW.exit<|Y0 (OpsW.sg 2 [2] [(2,.bool x1)] ?_);refine Y2 ?_;obtain rfl:=X6 H;refine AW.recast (env':=[(2,.bool x1)]) (h':=[]) (StC.pure (.cons .im .nil)) (Y09 ?_)
 try simp only[Ex.t,Ex.b]
 exact Yw rfl (.tmp .nil)
end Go.Proofs.YtfpcbalkioolmaaDoor
