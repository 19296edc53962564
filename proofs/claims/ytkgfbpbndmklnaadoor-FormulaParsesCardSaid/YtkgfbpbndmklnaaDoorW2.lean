/- Own work. -/
import Derived.Test.YtkgfbpbndmklnaaDoorW1
import Derived.Test.YtkgfbpbndmklnaaDoorPrP
set_option linter.unusedSimpArgs false
set_option linter.unusedVariables false
set_option maxRecDepth 100000
namespace Go.Proofs.YtkgfbpbndmklnaaDoor
open Go.Abs
def f_formula_arity_k1:Option (Int×Bool):=
 some ((0:Int),false)
def Y25 (t0:Y5) (v5:Bool):Option (Int×Bool):=
 cond v5 (
  some ((1:Int),t0.N==0)) (
  cond (t0.Op==12) (
   cond (cond (decide (t0.N<2)) true (decide (5<t0.N))) (
    some ((0:Int),false)) (
    G (inR (t0.N+1))<|
    some (t0.N+1,true))) (
   cond (t0.Op==13) (
    cond (decide (t0.N<0)) (
     some ((0:Int),false)) (
     G (inR (Int.tdiv t0.N (8:Int)))<|
     G (inR ((Int.tdiv t0.N (8:Int))*(Int.tmod t0.N (8:Int))))<|
     some ((Int.tdiv t0.N (8:Int))*(Int.tmod t0.N (8:Int)),cond (cond (cond (decide ((1:Int)≤(Int.tdiv t0.N (8:Int)))) (decide ((Int.tdiv t0.N (8:Int))≤4)) false) (decide ((1:Int)≤(Int.tmod t0.N (8:Int)))) false) (decide ((Int.tmod t0.N (8:Int))≤4)) false))) (
    f_formula_arity_k1)))
def Y0l (t0:Y5) (v3:Bool):Option (Int×Bool):=
 cond v3 (
  some ((2:Int),t0.N==0)) (
  cond (t0.Op==9) (
   Y25 t0 (t0.Op==9)) (
   cond (t0.Op==10) (
    Y25 t0 (t0.Op==10)) (
    Y25 t0 (t0.Op==11))))
def Y35 (t0:Y5):Option (Int×Bool):=
 cond (t0.Op==0) (
  some ((0:Int),cond (decide (0≤t0.N)) (decide (t0.N≤99999)) false)) (
  cond (t0.Op==1) (
   some ((0:Int),cond (decide (0≤t0.N)) (decide (t0.N≤25)) false)) (
   cond (t0.Op==2) (
    Y0l t0 (t0.Op==2)) (
    cond (t0.Op==3) (
     Y0l t0 (t0.Op==3)) (
     cond (t0.Op==4) (
      Y0l t0 (t0.Op==4)) (
      cond (t0.Op==5) (
       Y0l t0 (t0.Op==5)) (
       cond (t0.Op==6) (
        Y0l t0 (t0.Op==6)) (
        cond (t0.Op==7) (
         Y0l t0 (t0.Op==7)) (
         Y0l t0 (t0.Op==8)))))))))
section
variable (t0:Y5)
abbrev Z2o:=(cond (cond (cond (decide ((1:Int)≤(Int.tdiv t0.N (8:Int)))) (decide ((Int.tdiv t0.N (8:Int))≤4)) false) (decide ((1:Int)≤(Int.tmod t0.N (8:Int)))) false) (decide ((Int.tmod t0.N (8:Int))≤4)) false)
abbrev Z2p:=decide (0≤t0.N)
abbrev Z2q:Nat×AV:=(1,.ref 1 0 0)
abbrev Z2r:Nat×AV:=(2,.j (0:Int))
abbrev Z2s:=cond (Z2p t0) (decide (t0.N≤99999)) false
abbrev Z2t:=cond (Z2p t0) (decide (t0.N≤25)) false
abbrev Z2u:=(Int.tmod t0.N (8:Int))
abbrev Z2v:=(Int.tdiv t0.N (8:Int))
abbrev Z2w:Nat×AV:=(3,.bool (t0.N==0))
abbrev Z2m:Env:=[(7,.j t0.Op),Z2q]
abbrev Z2n:Hp:=[(1,⟨0,true,26,2,[.j t0.Op,.j t0.N]⟩)]
end
theorem f_formula_arity_ok{t0:Y5}{r:Int×Bool}(H:Y35 t0=some r):QSpec Tryd.prog 35 [.agg [.int .i64 t0.Op,.int .i64 t0.N]] (.tup [.int .i64 r.1,.bool r.2]):=by
 refine Yw Tryd.func35 rfl (by simp[Tryd.ntmps35]) ?_;rw[Tryd.ntmps35];unfold Y35 at H;change AW _ _ _ [(0,.agg [.j t0.Op,.j t0.N])] [] _;refine Y0 (OpsW.box rfl rfl rfl 1 rfl (Yx (by kernel_rfl)) ?_);change OpsW _ _ _ _ _ (Z2n t0) _;refine OpsW.sg 2 [1] [Z2q] (Y2 ?_);refine Y33 (fun(y:Unit)=>f_formula_arity_k1) r (fun(y:Unit)=>[]) (fun(y:Unit)=>[]) ?_ ?_
 ·refine Y0 (OpsW.sg 2 [7,1] (Z2m t0) ?_);refine Y2 (Y04 (Y0 (OpsW.sg 2 [8,7,1] ((8,.bool (t0.Op==0))::(Z2m t0)) ?_)));refine Y2 (Yc (b:=t0.Op==0) H rfl (fun c1 H=> ?_) (fun c1 H=> ?_))
  ·refine Y28 Tryd.checked.mixed (by kernel_rfl)<|QOps.sz (N:=87) 10 ((3,.bool (Z2s t0))::Z2r::(17,.bool (Z2s t0))::(16,.cnd (Z2p t0) (.bool (decide (t0.N≤99999))))::(15,.cnd (Z2p t0) (.j t0.N))::(14,.cnd (Z2p t0) (.ref 1 0 1))::(13,.bool (Z2p t0))::(12,.bool (Z2p t0))::(11,.j t0.N)::(10,.ref 1 0 1)::(8,.bool (t0.Op==0))::(Z2m t0)) ⟨id,id,(by grind),trivial⟩ ?_;refine QOps.nil (AW.trim [3,2] [(3,.bool (Z2s t0)),Z2r] (by kernel_rfl) ?_);obtain rfl:=X6 H;refine AW.recast (env':=[Z2r,(3,.bool (Z2s t0))]) (h':=[]) (StC.pure (.i2 .nil)) (Yp ?_)
   try simp only[Ex.t,Ex.b]
   exact Done.eq rfl (.tmp (.tmp .nil))
  refine Y0 (OpsW.sg 2 [18,7,1] ((18,.bool (t0.Op==1))::(Z2m t0)) ?_);refine Y2 (Yc (b:=t0.Op==1) H rfl (fun c2 H=> ?_) (fun c2 H=> ?_))
  ·refine Y28 Tryd.checked.mixed (by kernel_rfl)<|QOps.sz (N:=87) 10 ((3,.bool (Z2t t0))::Z2r::(27,.bool (Z2t t0))::(26,.cnd (Z2p t0) (.bool (decide (t0.N≤25))))::(25,.cnd (Z2p t0) (.j t0.N))::(24,.cnd (Z2p t0) (.ref 1 0 1))::(23,.bool (Z2p t0))::(22,.bool (Z2p t0))::(21,.j t0.N)::(20,.ref 1 0 1)::(18,.bool (t0.Op==1))::(Z2m t0)) ⟨id,id,(by grind),trivial⟩ ?_;refine QOps.nil (AW.trim [3,2] [(3,.bool (Z2t t0)),Z2r] (by kernel_rfl) ?_);obtain rfl:=X6 H;refine AW.recast (env':=[Z2r,(3,.bool (Z2t t0))]) (h':=[]) (StC.pure (.i2 .nil)) (Yp ?_)
   try simp only[Ex.t,Ex.b]
   exact Done.eq rfl (.tmp (.tmp .nil))
  refine Y33 (fun(y:Bool)=>Y0l t0 y) r (fun(y:Bool)=>[Z2q,(7,.j t0.Op),(28,.bool y)]) (fun(y:Bool)=>(Z2n t0)) ?_ ?_
  ·refine Y0 (OpsW.sg 2 [28,7,1] ((28,.bool (t0.Op==2))::(Z2m t0)) ?_);refine Y2 (Yc (b:=t0.Op==2) H rfl (fun c16 H=> ?_) (fun c16 H=> ?_))
   ·refine Yh ?_;exact⟨t0.Op==2,H,(StC.mk (phi [(1,some 1)]) (.o rfl (.i2 .nil) .nil) rfl (.cons (.r rfl) (.i2 .nil)))⟩
   refine Y0 (OpsW.sg 2 [28,7,1] ((28,.bool (t0.Op==3))::(Z2m t0)) ?_);refine Y2 (Yc (b:=t0.Op==3) H rfl (fun c17 H=> ?_) (fun c17 H=> ?_))
   ·refine Yh ?_;exact⟨t0.Op==3,H,(StC.mk (phi [(1,some 1)]) (.o rfl (.i2 .nil) .nil) rfl (.cons (.r rfl) (.i2 .nil)))⟩
   refine Y0 (OpsW.sg 2 [28,7,1] ((28,.bool (t0.Op==4))::(Z2m t0)) ?_);refine Y2 (Yc (b:=t0.Op==4) H rfl (fun c18 H=> ?_) (fun c18 H=> ?_))
   ·refine Yh ?_;exact⟨t0.Op==4,H,(StC.mk (phi [(1,some 1)]) (.o rfl (.i2 .nil) .nil) rfl (.cons (.r rfl) (.i2 .nil)))⟩
   refine Y0 (OpsW.sg 2 [28,7,1] ((28,.bool (t0.Op==5))::(Z2m t0)) ?_);refine Y2 (Yc (b:=t0.Op==5) H rfl (fun c19 H=> ?_) (fun c19 H=> ?_))
   ·refine Yh ?_;exact⟨t0.Op==5,H,(StC.mk (phi [(1,some 1)]) (.o rfl (.i2 .nil) .nil) rfl (.cons (.r rfl) (.i2 .nil)))⟩
   refine Y0 (OpsW.sg 2 [28,7,1] ((28,.bool (t0.Op==6))::(Z2m t0)) ?_);refine Y2 (Yc (b:=t0.Op==6) H rfl (fun c20 H=> ?_) (fun c20 H=> ?_))
   ·refine Yh ?_;exact⟨t0.Op==6,H,(StC.mk (phi [(1,some 1)]) (.o rfl (.i2 .nil) .nil) rfl (.cons (.r rfl) (.i2 .nil)))⟩
   refine Y0 (OpsW.sg 2 [28,7,1] ((28,.bool (t0.Op==7))::(Z2m t0)) ?_);refine Y2 (Yc (b:=t0.Op==7) H rfl (fun c21 H=> ?_) (fun c21 H=> ?_))
   ·refine Yh ?_;exact⟨t0.Op==7,H,(StC.mk (phi [(1,some 1)]) (.o rfl (.i2 .nil) .nil) rfl (.cons (.r rfl) (.i2 .nil)))⟩
   refine Yz (OpsW.sg 2 [28,7,1] ((28,.bool (t0.Op==8))::(Z2m t0)) ?_);refine Y2 ?_;exact⟨t0.Op==8,H,(StC.mk (phi [(1,some 1)]) (.o rfl (.i2 .nil) .nil) rfl (.cons (.r rfl) (.i2 .nil)))⟩
  intro v3 H;unfold Y0l at H;change AW _ _ _ [Z2q,(7,.j t0.Op),(28,.bool v3)] (Z2n t0) _;refine Yc (b:=v3) H rfl (fun c4 H=> ?_) (fun c4 H=> ?_)
  ·refine Y28 Tryd.checked.mixed (by kernel_rfl)<|QOps.sz (N:=87) 5 [(Z2w t0),(2,.j (2:Int)),(38,.bool (t0.N==0)),(37,.j t0.N),(36,.ref 1 0 1),Z2q,(7,.j t0.Op),(28,.bool v3)] trivial<|QOps.nil (AW.trim [3,2] [(Z2w t0),(2,.j (2:Int))] (by kernel_rfl) ?_);obtain rfl:=X6 H;refine AW.recast (env':=[(2,.j (2:Int)),(Z2w t0)]) (h':=[]) (StC.pure (.i2 .nil)) (Yp ?_)
   try simp only[Ex.t,Ex.b]
   exact Done.eq rfl (.tmp (.tmp .nil))
  refine Y33 (fun(y:Bool)=>Y25 t0 y) r (fun(y:Bool)=>[Z2q,(7,.j t0.Op),(39,.bool y)]) (fun(y:Bool)=>(Z2n t0)) ?_ ?_
  ·refine Y0 (OpsW.sg 2 [39,1,7] [(39,.bool (t0.Op==9)),Z2q,(7,.j t0.Op)] ?_);refine Y2 (Yc (b:=t0.Op==9) H rfl (fun c14 H=> ?_) (fun c14 H=> ?_))
   ·refine Yh ?_;exact⟨t0.Op==9,H,(StC.mk (phi [(1,some 1)]) (.o rfl (.i2 .nil) .nil) rfl (.cons (.r rfl) (.i2 .nil)))⟩
   refine Y0 (OpsW.sg 2 [39,1,7] [(39,.bool (t0.Op==10)),Z2q,(7,.j t0.Op)] ?_);refine Y2 (Yc (b:=t0.Op==10) H rfl (fun c15 H=> ?_) (fun c15 H=> ?_))
   ·refine Yh ?_;exact⟨t0.Op==10,H,(StC.mk (phi [(1,some 1)]) (.o rfl (.i2 .nil) .nil) rfl (.cons (.r rfl) (.i2 .nil)))⟩
   refine Yz (OpsW.sg 2 [39,1,7] [(39,.bool (t0.Op==11)),Z2q,(7,.j t0.Op)] ?_);refine Y2 ?_;exact⟨t0.Op==11,H,(StC.mk (phi [(1,some 1)]) (.o rfl (.i2 .nil) .nil) rfl (.cons (.r rfl) (.i2 .nil)))⟩
  intro v5 H;unfold Y25 at H;change AW _ _ _ [Z2q,(7,.j t0.Op),(39,.bool v5)] (Z2n t0) _;refine Yc (b:=v5) H rfl (fun c6 H=> ?_) (fun c6 H=> ?_)
  ·refine Y28 Tryd.checked.mixed (by kernel_rfl)<|QOps.sz (N:=87) 5 [(Z2w t0),(2,.j (1:Int)),(45,.bool (t0.N==0)),(44,.j t0.N),(43,.ref 1 0 1),Z2q,(7,.j t0.Op),(39,.bool v5)] trivial<|QOps.nil (AW.trim [3,2] [(Z2w t0),(2,.j (1:Int))] (by kernel_rfl) ?_);obtain rfl:=X6 H;refine AW.recast (env':=[(2,.j (1:Int)),(Z2w t0)]) (h':=[]) (StC.pure (.i2 .nil)) (Yp ?_)
   try simp only[Ex.t,Ex.b]
   exact Done.eq rfl (.tmp (.tmp .nil))
  refine Y0 (OpsW.sg 2 [46,1,7] [(46,.bool (t0.Op==12)),Z2q,(7,.j t0.Op)] ?_);refine Y2 (Yc (b:=t0.Op==12) H rfl (fun c7 H=> ?_) (fun c7 H=> ?_))
  ·refine Y05 (Y0 (OpsW.sz 8 [55,1] [(55,.bool (cond (decide (t0.N<2)) true (decide (5<t0.N)))),Z2q] ⟨id,id,(by grind),trivial⟩ ?_));refine Y2 (Yc (b:=cond (decide (t0.N<2)) true (decide (5<t0.N))) H rfl (fun c8 H=> ?_) (fun c8 H=> ?_))
   ·refine Y0 (OpsW.sg 2 [3,2] [(3,.bool false),Z2r] ?_);refine Y2 ?_;obtain rfl:=X6 H;refine AW.recast (env':=[Z2r,(3,.bool false)]) (h':=[]) (StC.pure (.i2 .nil)) (Yp ?_)
    try simp only[Ex.t,Ex.b]
    exact Done.eq rfl (.tmp (.tmp .nil))
   refine Yh (Y0 ?_);have⟨g9,H⟩:=Y00 H;refine OpsW.sz 5 [3,2] [(3,.bool true),(2,.j (t0.N+1))] ⟨g9,trivial⟩ (Y2 ?_);obtain rfl:=X6 H;refine AW.recast (env':=[(2,.j (t0.N+1)),(3,.bool true)]) (h':=[]) (StC.pure (.i2 .nil)) (Yp ?_)
   try simp only[Ex.t,Ex.b]
   exact Done.eq rfl (.tmp (.tmp .nil))
  refine Y0 (OpsW.sg 2 [59,1] [(59,.bool (t0.Op==13)),Z2q] ?_);refine Y2 (Yc (b:=t0.Op==13) H rfl (fun c10 H=> ?_) (fun c10 H=> ?_))
  ·refine Y05 (Y0 (OpsW.sg 3 [63,1] [(63,.bool (decide (t0.N<0))),Z2q] ?_));refine Y2 (Yc (b:=decide (t0.N<0)) H rfl (fun c11 H=> ?_) (fun c11 H=> ?_))
   ·refine Y0 (OpsW.sg 2 [3,2] [(3,.bool false),Z2r] ?_);refine Y2 ?_;obtain rfl:=X6 H;refine AW.recast (env':=[Z2r,(3,.bool false)]) (h':=[]) (StC.pure (.i2 .nil)) (Yp ?_)
    try simp only[Ex.t,Ex.b]
    exact Done.eq rfl (.tmp (.tmp .nil))
   refine Yh (Y28 Tryd.checked.mixed (by kernel_rfl) ?_);have⟨g12,H⟩:=Y00 H;refine QOps.sz (N:=87) 8 [(5,.j (Z2u t0)),(4,.j (Z2v t0)),(69,.j (Z2u t0)),(68,.j t0.N),(67,.ref 1 0 1),(66,.j (Z2v t0)),(65,.j t0.N),(64,.ref 1 0 1),(63,.bool (decide (t0.N<0))),Z2q] ⟨(by decide),g12,(by decide),trivial⟩<|QOps.nil (AW.trim [5,4] [(5,.j (Z2u t0)),(4,.j (Z2v t0))] (by kernel_rfl) ?_);refine Y0 ?_;have⟨g13,H⟩:=Y00 H;refine OpsW.sz 19 [3,2] [(3,.bool (Z2o t0)),(2,.j ((Z2v t0)*(Z2u t0)))] ⟨g13,id,(by grind),id,(by grind),id,(by grind),trivial⟩ (Y2 ?_);obtain rfl:=X6 H;refine AW.recast (env':=[(2,.j ((Z2v t0)*(Z2u t0))),(3,.bool (Z2o t0))]) (h':=[]) (StC.pure (.i2 .nil)) (Yp ?_)
   try simp only[Ex.t,Ex.b]
   exact Done.eq rfl (.tmp (.tmp .nil))
  refine Yh ?_;exact⟨(),H,(StC.pure .nil)⟩
 rintro⟨⟩ H;unfold f_formula_arity_k1 at H;change AW _ _ _ [] [] _;refine Y0 (OpsW.sg 2 [3,2] [(3,.bool false),Z2r] ?_);refine Y2 ?_;obtain rfl:=X6 H;refine AW.recast (env':=[Z2r,(3,.bool false)]) (h':=[]) (StC.pure (.i2 .nil)) (Yp ?_)
 try simp only[Ex.t,Ex.b]
 exact Done.eq rfl (.tmp (.tmp .nil))
def Y3e:Option Int:=
 some (4:Int)
def Y2n (t0:Int) (v2:Bool):Option Int:=
 cond v2 (
  some (2:Int)) (
  cond (t0==4) (
   some (3:Int)) (
   Y3e))
def Y1k (t0:Int):Option Int:=
 cond (t0==5) (
  some (1:Int)) (
  cond (t0==2) (
   Y2n t0 (t0==2)) (
   Y2n t0 (t0==3)))
theorem Y3d{t0:Int}{r:Int}(H:Y1k t0=some r):QSpec Tryd.prog 68 [.int .i64 t0] (.int .i64 r):=by
 refine Yw Tryd.func68 rfl (by simp[Tryd.ntmps68]) ?_;rw[Tryd.ntmps68];unfold Y1k at H;change AW _ _ _ [(0,.j t0)] [] _;refine Y0 (OpsW.sg 1 [0] [(0,.j t0)] ?_);refine Y2<|Y33 (fun(y:Unit)=>Y3e) r (fun(y:Unit)=>[]) (fun(y:Unit)=>[]) ?_ ?_
 ·refine Y0 (OpsW.sg 1 [3] [(3,.j t0)] ?_);refine Y2 (Y04 (Y0 (OpsW.sg 2 [4,3] [(4,.bool (t0==5)),(3,.j t0)] ?_)));refine Y2 (Yc (b:=t0==5) H rfl (fun c1 H=> ?_) (fun c1 H=> ?_))
  ·refine Y0 (OpsW.sg 1 [2] [(2,.j (1:Int))] ?_);refine Y2 ?_;obtain rfl:=X6 H;refine AW.recast (env':=[(2,.j (1:Int))]) (h':=[]) (StC.pure (.cons .im .nil)) (Yp ?_)
   try simp only[Ex.t,Ex.b]
   exact Done.eq rfl (.tmp .nil)
  refine Y33 (fun(y:Bool)=>Y2n t0 y) r (fun(y:Bool)=>[(3,.j t0),(6,.bool y)]) (fun(y:Bool)=>[]) ?_ ?_
  ·refine Y0 (OpsW.sg 2 [6,3] [(6,.bool (t0==2)),(3,.j t0)] ?_);refine Y2 (Yc (b:=t0==2) H rfl (fun c5 H=> ?_) (fun c5 H=> ?_))
   ·refine Yh ?_;exact⟨t0==2,H,(StC.pure (.i2 .nil))⟩
   refine Yz (OpsW.sg 2 [6,3] [(6,.bool (t0==3)),(3,.j t0)] ?_);refine Y2 ?_;exact⟨t0==3,H,(StC.pure (.i2 .nil))⟩
  intro v2 H;unfold Y2n at H;change AW _ _ _ [(3,.j t0),(6,.bool v2)] [] _;refine Yc (b:=v2) H rfl (fun c3 H=> ?_) (fun c3 H=> ?_)
  ·refine Y0 (OpsW.sg 1 [2] [(2,.j (2:Int))] ?_);refine Y2 ?_;obtain rfl:=X6 H;refine AW.recast (env':=[(2,.j (2:Int))]) (h':=[]) (StC.pure (.cons .im .nil)) (Yp ?_)
   try simp only[Ex.t,Ex.b]
   exact Done.eq rfl (.tmp .nil)
  refine Y0 (OpsW.sg 2 [9] [(9,.bool (t0==4))] ?_);refine Y2 (Yc (b:=t0==4) H rfl (fun c4 H=> ?_) (fun c4 H=> ?_))
  ·refine Y0 (OpsW.sg 1 [2] [(2,.j (3:Int))] ?_);refine Y2 ?_;obtain rfl:=X6 H;refine AW.recast (env':=[(2,.j (3:Int))]) (h':=[]) (StC.pure (.cons .im .nil)) (Yp ?_)
   try simp only[Ex.t,Ex.b]
   exact Done.eq rfl (.tmp .nil)
  refine Yh ?_;exact⟨(),H,(StC.pure .nil)⟩
 rintro⟨⟩ H;unfold Y3e at H;change AW _ _ _ [] [] _;refine Y0 (OpsW.sg 1 [2] [(2,.j (4:Int))] ?_);refine Y2 ?_;obtain rfl:=X6 H;refine AW.recast (env':=[(2,.j (4:Int))]) (h':=[]) (StC.pure (.cons .im .nil)) (Yp ?_)
 try simp only[Ex.t,Ex.b]
 exact Done.eq rfl (.tmp .nil)
def Y4j:Option Bool:=
 some true
def Y2d (t0:Y5) (t1:Int) (t2:Y5) (v1:Bool):Option Bool:=
 cond v1 (
  cond (t1==0) (
   (Y1k t2.Op).bind fun x4=>
   (Y1k t0.Op).bind fun x5=>
   some (decide (x5≤x4))) (
   (Y1k t2.Op).bind fun x6=>
   (Y1k t0.Op).bind fun x7=>
   some (decide (x7<x6)))) (
  cond (t0.Op==12) (
   some (t2.Op==0)) (
   Y4j))
def Y4x (t0:Y5) (t1:Int) (t2:Y5):Option Bool:=
 cond (t0.Op==2) (
  Y2d t0 t1 t2 (t0.Op==2)) (
  cond (t0.Op==3) (
   Y2d t0 t1 t2 (t0.Op==3)) (
   cond (t0.Op==4) (
    Y2d t0 t1 t2 (t0.Op==4)) (
    Y2d t0 t1 t2 (t0.Op==5))))
section
variable (t0:Y5) (t1:Int) (t2:Y5)
abbrev Z2x:Env:=[(15,.bool (t1==0)),(3,.ref 3 0 0),(5,.ref 5 0 0)]
abbrev Z2y:Env:=[(5,.ref 5 0 0),(3,.ref 3 0 0),(1,.j t1)]
abbrev Z2z:Hp:=[(3,⟨0,true,26,2,[.j t0.Op,.j t0.N]⟩),(5,⟨0,true,26,2,[.j t2.Op,.j t2.N]⟩)]
end
theorem f_formula_admits_ok{t0:Y5}{t1:Int}{t2:Y5}{r:Bool}(H:Y4x t0 t1 t2=some r):QSpec Tryd.prog 55 [.agg [.int .i64 t0.Op,.int .i64 t0.N],.int .i64 t1,.agg [.int .i64 t2.Op,.int .i64 t2.N]] (.bool r):=by
 refine Yw Tryd.func55 rfl (by simp[Tryd.ntmps55]) ?_;rw[Tryd.ntmps55];unfold Y4x at H;change AW _ _ _ [(0,.agg [.j t0.Op,.j t0.N]),(1,.j t1),(2,.agg [.j t2.Op,.j t2.N])] [] _;refine Y0 (OpsW.box rfl rfl rfl 3 rfl (Yx (by kernel_rfl)) ?_);change OpsW _ _ _ _ _ [(3,⟨0,true,26,2,[.j t0.Op,.j t0.N]⟩)] _;refine OpsW.box rfl rfl rfl 5 rfl (Yx (by kernel_rfl)) ?_;change OpsW _ _ _ _ _ [(5,⟨0,true,26,2,[.j t2.Op,.j t2.N]⟩),(3,⟨0,true,26,2,[.j t0.Op,.j t0.N]⟩)] _;refine OpsW.sg 1 [5,3,1] (Z2y t1) (OpsW.rc (Z2y t1) (Z2z t0 t2) (StC.mk (phi [(3,some 3),(5,some 5)]) (.o rfl (.i2 .nil) (.o rfl (.i2 .nil) .nil)) rfl (.cons (.r rfl) (.cons (.r rfl) (.cons .im .nil)))) (Y2 ?_));refine Y33 (fun(y:Unit)=>Y4j) r (fun(y:Unit)=>[]) (fun(y:Unit)=>[]) ?_ ?_
 ·refine Y0 (OpsW.sg 2 [8,5,3,1] ((8,.j t0.Op)::(Z2y t1)) ?_);refine Y2 (Y04 ?_);refine Y33 (fun(y:Bool)=>Y2d t0 t1 t2 y) r (fun(y:Bool)=>[(1,.j t1),(3,.ref 3 0 0),(5,.ref 5 0 0),(8,.j t0.Op),(9,.bool y)]) (fun(y:Bool)=>(Z2z t0 t2)) ?_ ?_
  ·refine Y0 (OpsW.sg 2 [9,8,5,3,1] ((9,.bool (t0.Op==2))::(8,.j t0.Op)::(Z2y t1)) ?_);refine Y2 (Yc (b:=t0.Op==2) H rfl (fun c9 H=> ?_) (fun c9 H=> ?_))
   ·refine Yh ?_;exact⟨t0.Op==2,H,(StC.mk (phi [(3,some 3),(5,some 5)]) (.o rfl (.i2 .nil) (.o rfl (.i2 .nil) .nil)) rfl (.cons .im (.cons (.r rfl) (.cons (.r rfl) (.i2 .nil)))))⟩
   refine Y0 (OpsW.sg 2 [9,8,5,3,1] ((9,.bool (t0.Op==3))::(8,.j t0.Op)::(Z2y t1)) ?_);refine Y2 (Yc (b:=t0.Op==3) H rfl (fun c10 H=> ?_) (fun c10 H=> ?_))
   ·refine Yh ?_;exact⟨t0.Op==3,H,(StC.mk (phi [(3,some 3),(5,some 5)]) (.o rfl (.i2 .nil) (.o rfl (.i2 .nil) .nil)) rfl (.cons .im (.cons (.r rfl) (.cons (.r rfl) (.i2 .nil)))))⟩
   refine Y0 (OpsW.sg 2 [9,8,5,3,1] ((9,.bool (t0.Op==4))::(8,.j t0.Op)::(Z2y t1)) ?_);refine Y2 (Yc (b:=t0.Op==4) H rfl (fun c11 H=> ?_) (fun c11 H=> ?_))
   ·refine Yh ?_;exact⟨t0.Op==4,H,(StC.mk (phi [(3,some 3),(5,some 5)]) (.o rfl (.i2 .nil) (.o rfl (.i2 .nil) .nil)) rfl (.cons .im (.cons (.r rfl) (.cons (.r rfl) (.i2 .nil)))))⟩
   refine Yz (OpsW.sg 2 [9,8,5,3,1] ((9,.bool (t0.Op==5))::(8,.j t0.Op)::(Z2y t1)) ?_);refine Y2 ?_;exact⟨t0.Op==5,H,(StC.mk (phi [(3,some 3),(5,some 5)]) (.o rfl (.i2 .nil) (.o rfl (.i2 .nil) .nil)) rfl (.cons .im (.cons (.r rfl) (.cons (.r rfl) (.i2 .nil)))))⟩
  intro v1 H;unfold Y2d at H;change AW _ _ _ [(1,.j t1),(3,.ref 3 0 0),(5,.ref 5 0 0),(8,.j t0.Op),(9,.bool v1)] (Z2z t0 t2) _;refine Yc (b:=v1) H rfl (fun c2 H=> ?_) (fun c2 H=> ?_)
  ·refine Y05 (Y0 (OpsW.sg 2 [15,3,5] (Z2x t1) ?_));refine Y2 (Yc (b:=t1==0) H rfl (fun c3 H=> ?_) (fun c3 H=> ?_))
   ·refine Y28 Tryd.checked.mixed (by kernel_rfl)<|QOps.sz (N:=35) 2 ((17,.j t2.Op)::(16,.ref 5 0 0)::(Z2x t1)) trivial ?_;have⟨x4,hx4,H⟩:=Y0y H;refine QOps.qcall rfl (by kernel_rfl) rfl (Ys trivial) (.cons (.pur rfl) .nil) (Y3d hx4) rfl (QOps.sz (N:=35) 2 ((20,.j t0.Op)::(19,.ref 3 0 0)::(18,.j x4)::(17,.j t2.Op)::(16,.ref 5 0 0)::(Z2x t1)) trivial ?_);have⟨x5,hx5,H⟩:=Y0y H;refine QOps.qcall rfl (by kernel_rfl) rfl (Ys trivial) (.cons (.pur rfl) .nil) (Y3d hx5) rfl (QOps.sz (N:=35) 2 ((6,.bool (decide (x5≤x4)))::(22,.bool (decide (x5≤x4)))::(21,.j x5)::(20,.j t0.Op)::(19,.ref 3 0 0)::(18,.j x4)::(17,.j t2.Op)::(16,.ref 5 0 0)::(Z2x t1)) trivial ?_);refine QOps.nil (AW.trim [6] [(6,.bool (decide (x5≤x4)))] (by kernel_rfl) ?_);obtain rfl:=X6 H;refine AW.recast (env':=[(6,.bool (decide (x5≤x4)))]) (h':=[]) (StC.pure (.cons .im .nil)) (Yp ?_)
    try simp only[Ex.t,Ex.b]
    exact Done.eq rfl (.tmp .nil)
   refine Yh (Y28 Tryd.checked.mixed (by kernel_rfl) ?_);refine QOps.sz (N:=35) 2 ((24,.j t2.Op)::(23,.ref 5 0 0)::(Z2x t1)) trivial ?_;have⟨x6,hx6,H⟩:=Y0y H;refine QOps.qcall rfl (by kernel_rfl) rfl (Ys trivial) (.cons (.pur rfl) .nil) (Y3d hx6) rfl (QOps.sz (N:=35) 2 ((27,.j t0.Op)::(26,.ref 3 0 0)::(25,.j x6)::(24,.j t2.Op)::(23,.ref 5 0 0)::(Z2x t1)) trivial ?_);have⟨x7,hx7,H⟩:=Y0y H;refine QOps.qcall rfl (by kernel_rfl) rfl (Ys trivial) (.cons (.pur rfl) .nil) (Y3d hx7) rfl (QOps.sz (N:=35) 2 ((6,.bool (decide (x7<x6)))::(29,.bool (decide (x7<x6)))::(28,.j x7)::(27,.j t0.Op)::(26,.ref 3 0 0)::(25,.j x6)::(24,.j t2.Op)::(23,.ref 5 0 0)::(Z2x t1)) trivial ?_);refine QOps.nil (AW.trim [6] [(6,.bool (decide (x7<x6)))] (by kernel_rfl) ?_);obtain rfl:=X6 H;refine AW.recast (env':=[(6,.bool (decide (x7<x6)))]) (h':=[]) (StC.pure (.cons .im .nil)) (Yp ?_)
   try simp only[Ex.t,Ex.b]
   exact Done.eq rfl (.tmp .nil)
  refine Y0 (OpsW.sg 2 [30,5] [(30,.bool (t0.Op==12)),(5,.ref 5 0 0)] ?_);refine Y2 (Yc (b:=t0.Op==12) H rfl (fun c8 H=> ?_) (fun c8 H=> ?_))
  ·refine Y0 (OpsW.sg 4 [6] [(6,.bool (t2.Op==0))] ?_);refine Y2 ?_;obtain rfl:=X6 H;refine AW.recast (env':=[(6,.bool (t2.Op==0))]) (h':=[]) (StC.pure (.cons .im .nil)) (Yp ?_)
   try simp only[Ex.t,Ex.b]
   exact Done.eq rfl (.tmp .nil)
  refine Yh ?_;exact⟨(),H,(StC.pure .nil)⟩
 rintro⟨⟩ H;unfold Y4j at H;change AW _ _ _ [] [] _;refine Y0 (OpsW.sg 1 [6] [(6,.bool true)] ?_);refine Y2 ?_;obtain rfl:=X6 H;refine AW.recast (env':=[(6,.bool true)]) (h':=[]) (StC.pure (.cons .im .nil)) (Yp ?_)
 try simp only[Ex.t,Ex.b]
 exact Done.eq rfl (.tmp .nil)
def Y0h (ra1:(List Y5)→Int→Option (Int×Int×Bool)) (t0:List Y5) (t1:Int) (x3:Int×Bool) (loop9:(Int×Int×Int)→Option (Int×Int×Bool)) (v6:Int) (v7:Int) (v8:Int):Option (Int×Int×Bool):=
 cond (decide (v8<x3.1)) (
  G ((!(decide ((t0.length:Int)≤v6)))=true→(0≤v6∧v6<(t0.length:Int)))<|
  (cond (!(decide ((t0.length:Int)≤v6))) (Y4x (t0.getD t1.toNat Yd) v8 (t0.getD v6.toNat Yd)) (some false)).bind fun x12=>
  cond (cond (decide ((t0.length:Int)≤v6)) true (!x12)) (
   some ((0:Int),(0:Int),false)) (
   (ra1 t0 v6).bind fun x14=>
   cond (!x14.2.2) (
    some ((0:Int),(0:Int),false)) (
    G (inR (x14.2.1+1))<|
    G (inR (v8+1))<|
    loop9 (x14.1,(if(x14.2.1+1)>v7 then(x14.2.1+1) else v7),v8+1)))) (
  some (v6,v7,true))
def Y3q (ra1:(List Y5)→Int→Option (Int×Int×Bool)) (t0:List Y5) (t1:Int):Option (Int×Int×Bool):=
 cond (decide ((t0.length:Int)≤t1)) (
  some ((0:Int),(0:Int),false)) (
  G (0≤t1∧t1<(t0.length:Int))<|
  (Y35 (t0.getD t1.toNat Yd)).bind fun x3=>
  cond (!x3.2) (
   some ((0:Int),(0:Int),false)) (
   G (inR (t1+1))<|
   iter (fun loop (s:Int×Int×Int)=>Y0h ra1 t0 t1 x3 loop s.1 s.2.1 s.2.2) 1000000 (t1+1,(1:Int),(0:Int))))
section
variable (t0:List Y5) (t1:Int) (v6:Int) (v7:Int) (v8:Int) (x3:Int×Bool)
abbrev Z37:=(decide ((t0.length:Int)≤v6))
abbrev Z38:List AV:=[.j ((t0.getD t1.toNat Yd).Op),.j ((t0.getD t1.toNat Yd).N)]
abbrev Z39:=t0.getD v6.toNat Yd
abbrev Z30:Env:=[(42,.cnd (!(Z37 t0 v6)) (.ipt (t0.flatMap Y4) (t1.toNat*2))),(41,.cnd (!(Z37 t0 v6)) (.j t1)),(40,.cnd (!(Z37 t0 v6)) (slA Y4 t0)),(39,.bool (Z37 t0 v6)),(38,.bool (Z37 t0 v6)),(37,.j (t0.length:Int)),(36,slA Y4 t0),(35,.j v6),(11,.j v8),(0,slA Y4 t0),(1,.j t1),(9,.j v6),(10,.j v7),(31,.j x3.1),(32,.j v8)]
abbrev Z31:Env:=(47,.cnd (!(Z37 t0 v6)) (.ipt (t0.flatMap Y4) (v6.toNat*2)))::(46,.cnd (!(Z37 t0 v6)) (.j v6))::(45,.cnd (!(Z37 t0 v6)) (slA Y4 t0))::(44,.cnd (!(Z37 t0 v6)) (.j v8))::(43,.cnd (!(Z37 t0 v6)) (.agg (Z38 t0 t1)))::(Z30 t0 t1 v6 v7 v8 x3)
abbrev Z32:Env:=[(0,slA Y4 t0),(1,.j t1),(9,.j v6),(10,.j v7),(31,.j x3.1),(32,.j v8)]
abbrev Z33:Env:=[(6,.bool false),(5,.j (0:Int)),(4,.j (0:Int))]
abbrev Z34:Env:=[(4,.j (0:Int)),(5,.j (0:Int)),(6,.bool false)]
abbrev Z35:Env:=[(0,slA Y4 t0),(1,.j t1)]
abbrev Z36:Env:=[(0,slA Y4 t0),(1,.j t1),(10,.j v7),(31,.j x3.1),(32,.j v8)]
end
theorem f_formula_measure_body_ok{ra1:(List Y5)→Int→Option (Int×Int×Bool)}(hra1:∀(t0:List Y5) (t1:Int) (r:Int×Int×Bool),ra1 t0 t1=some r→QSpec Tryd.prog 36 [slA Y4 t0,.int .i64 t1] (.tup [.int .i64 r.1,.int .i64 r.2.1,.bool r.2.2])){t0:List Y5}{t1:Int}{r:Int×Int×Bool}(H:Y3q ra1 t0 t1=some r):QSpec Tryd.prog 36 [slA Y4 t0,.int .i64 t1] (.tup [.int .i64 r.1,.int .i64 r.2.1,.bool r.2.2]):=by
 refine Yw Tryd.func36 rfl (by simp[Tryd.ntmps36]) ?_;rw[Tryd.ntmps36];unfold Y3q at H;change AW _ _ _ (Z35 t0 t1) [] _;refine Y0 (OpsW.sg 3 [0,1] (Z35 t0 t1) ?_);refine Y2 (Y05 (Y0 (OpsW.sg 4 [18,0,1] ((18,.bool (decide ((t0.length:Int)≤t1)))::(Z35 t0 t1)) ?_)));refine Y2 (Yc (b:=decide ((t0.length:Int)≤t1)) H rfl (fun c1 H=> ?_) (fun c1 H=> ?_))
 ·refine Y0 (OpsW.sg 3 [6,5,4] Z33 ?_);refine Y2 ?_;obtain rfl:=X6 H;refine AW.recast (env':=Z34) (h':=[]) (StC.pure (.i3 .nil)) (Yp ?_)
  try simp only[Ex.t,Ex.b]
  exact Done.eq rfl (.tmp (.tmp (.tmp .nil)))
 refine Yh (Y0 ?_);have⟨g2,H⟩:=Y00 H;refine OpsW.sz 3 [22,0,1] ((22,.ipt (t0.flatMap Y4) (t1.toNat*2))::(Z35 t0 t1)) ⟨g2,trivial⟩ (OpsW.asU (.agg (Z38 t0 t1)) rfl rfl (T.loadAgg (cs:=t0.flatMap Y4) (off:=t1.toNat*2) (ds:=Y4 (t0.getD t1.toNat Yd)) rfl trivial (by kernel_rfl) (by have:=Y18 Y4 2 (fun _=>rfl) t0;have:=(ltN g2);omega) (fm_elem Y4 2 (fun _=>rfl) t0 Yd t1.toNat (ltN g2))) ?_);have⟨x3,hx3,H⟩:=Y0y H;refine Y20 rfl (.cons (.pur rfl) .nil) (f_formula_arity_ok hx3) (OpsW.sg 5 [8,7,0,1] ((8,.bool x3.2)::(7,.j x3.1)::(Z35 t0 t1)) ?_);refine Y2 (Y05 (Y0 (OpsW.sg 2 [28,7,0,1] ((28,.bool (!x3.2))::(7,.j x3.1)::(Z35 t0 t1)) ?_)));refine Y2 (Yc (b:= !x3.2) H rfl (fun c4 H=> ?_) (fun c4 H=> ?_))
 ·refine Y0 (OpsW.sg 3 [6,5,4] Z33 ?_);refine Y2 ?_;obtain rfl:=X6 H;refine AW.recast (env':=Z34) (h':=[]) (StC.pure (.i3 .nil)) (Yp ?_)
  try simp only[Ex.t,Ex.b]
  exact Done.eq rfl (.tmp (.tmp (.tmp .nil)))
 refine Yh (Y0 ?_);have⟨g5,H⟩:=Y00 H;refine OpsW.sz 4 [10,9,7,0,1] ((10,.j (1:Int))::(9,.j (t1+1))::(7,.j x3.1)::(Z35 t0 t1)) ⟨g5,trivial⟩<|Y2 (Y05 (Y0 (OpsW.sg 2 [32,31,10,9,0,1] ((32,.j (0:Int))::(31,.j x3.1)::(10,.j (1:Int))::(9,.j (t1+1))::(Z35 t0 t1)) ?_)));refine Y2 (Y04 ?_);refine Y40 (fun loop (s:Int×Int×Int)=>Y0h ra1 t0 t1 x3 loop s.1 s.2.1 s.2.2) r (fun(s:Int×Int×Int)=>[(0,slA Y4 t0),(1,.j t1),(9,.j s.1),(10,.j s.2.1),(31,.j x3.1),(32,.j s.2.2)]) (fun(s:Int×Int×Int)=>[]) ?_ 1000000 (t1+1,(1:Int),(0:Int)) H (StC.pure (.i6 .nil));intro loop9 s H;have⟨v6,v7,v8⟩:=s;unfold Y0h at H;change AW _ _ _ (Z32 t0 t1 v6 v7 v8 x3) [] _;refine Y0 (OpsW.sg 1 [33,0,1,9,10,31,32] ((33,.bool (decide (v8<x3.1)))::(Z32 t0 t1 v6 v7 v8 x3)) ?_);refine Y2 (Y05 (Yc (b:=decide (v8<x3.1)) H rfl (fun c10 H=> ?_) (fun c10 H=> ?_)))
 ·refine Yh (Y05 (Y04 (Y0 (OpsW.sg 2 [11,0,1,9,10,31,32] ((11,.j v8)::(Z32 t0 t1 v6 v7 v8 x3)) ?_))));refine Y2 (Y05 (Y28 Tryd.checked.mixed (by kernel_rfl) ?_));refine QOps.sz (N:=69) 8 (Z30 t0 t1 v6 v7 v8 x3) ⟨id,id,(fun _=>g2),trivial⟩ (QOps.asG (c:= !(Z37 t0 v6)) (.agg (Z38 t0 t1)) rfl rfl rfl (fun hc=>T.loadAgg (cs:=t0.flatMap Y4) (off:=t1.toNat*2) (ds:=Y4 (t0.getD t1.toNat Yd)) rfl hc (by kernel_rfl) (by have:=Y18 Y4 2 (fun _=>rfl) t0;have:=(ltN g2);first|omega|(simp only[Z37] at*;omega)) (fm_elem Y4 2 (fun _=>rfl) t0 Yd t1.toNat (ltN g2))) ?_);have⟨g11,H⟩:=Y00 H;refine QOps.sz (N:=69) 4 (Z31 t0 t1 v6 v7 v8 x3) ⟨id,id,g11,trivial⟩ (QOps.asG (c:= !(Z37 t0 v6)) (.agg [.j ((Z39 t0 v6).Op),.j ((Z39 t0 v6).N)]) rfl rfl rfl (fun hc=>T.loadAgg (cs:=t0.flatMap Y4) (off:=v6.toNat*2) (ds:=Y4 (Z39 t0 v6)) rfl hc (by kernel_rfl) (by have:=Y18 Y4 2 (fun _=>rfl) t0;have:=(ltN (g11 hc));first|omega|(simp only[Z37,Z39] at*;omega)) (fm_elem Y4 2 (fun _=>rfl) t0 Yd v6.toNat (ltN (g11 hc)))) ?_);have⟨x12,hx12,H⟩:=Y0y H
  refine QOps.gcall (c:= !(Z37 t0 v6)) (r:=.bool x12) [] rfl (by kernel_rfl) rfl rfl rfl (fun hc=>⟨Ys ⟨hc,hc,hc,trivial⟩,(.cons (.pur rfl) (.cons (.pur rfl) (.cons (.pur rfl) .nil))),f_formula_admits_ok (condT hc hx12),.inl ⟨rfl,rfl⟩⟩) (QOps.sz (N:=69) 2 ((51,.bool (cond (Z37 t0 v6) true (!x12)))::(50,.cnd (!(Z37 t0 v6)) (.bool (!x12)))::(49,.cnd (!(Z37 t0 v6)) (.bool x12))::(48,.cnd (!(Z37 t0 v6)) (.agg [.j ((Z39 t0 v6).Op),.j ((Z39 t0 v6).N)]))::(Z31 t0 t1 v6 v7 v8 x3)) ⟨id,(by grind),trivial⟩ ?_);refine QOps.nil (AW.trim [51,0,1,9,10,31,32] ((51,.bool (cond (Z37 t0 v6) true (!x12)))::(Z32 t0 t1 v6 v7 v8 x3)) (by kernel_rfl) ?_);refine Yc (b:=cond (Z37 t0 v6) true (!x12)) H rfl (fun c13 H=> ?_) (fun c13 H=> ?_)
  ·refine Y0 (OpsW.sg 3 [6,5,4] Z33 ?_);refine Y2 ?_;obtain rfl:=X6 H;refine AW.recast (env':=Z34) (h':=[]) (StC.pure (.i3 .nil)) (Yp ?_)
   try simp only[Ex.t,Ex.b]
   exact Done.eq rfl (.tmp (.tmp (.tmp .nil)))
  refine Yh (Y0 (OpsW.sg 2 [54,53,0,1,10,31,32] ((54,.j v6)::(53,slA Y4 t0)::(Z36 t0 t1 v7 v8 x3)) ?_));have⟨x14,hx14,H⟩:=Y0y H;refine Y20 rfl (.cons (.pur rfl) (.cons (.pur rfl) .nil)) (hra1 _ _ _ hx14) (OpsW.sg 7 [14,13,12,0,1,10,31,32] ((14,.bool x14.2.2)::(13,.j x14.2.1)::(12,.j x14.1)::(Z36 t0 t1 v7 v8 x3)) ?_);refine Y2 (Y05 (Y0 (OpsW.sg 2 [60,13,12,0,1,10,31,32] ((60,.bool (!x14.2.2))::(13,.j x14.2.1)::(12,.j x14.1)::(Z36 t0 t1 v7 v8 x3)) ?_)));refine Y2 (Yc (b:= !x14.2.2) H rfl (fun c15 H=> ?_) (fun c15 H=> ?_))
  ·refine Y0 (OpsW.sg 3 [6,5,4] Z33 ?_);refine Y2 ?_;obtain rfl:=X6 H;refine AW.recast (env':=Z34) (h':=[]) (StC.pure (.i3 .nil)) (Yp ?_)
   try simp only[Ex.t,Ex.b]
   exact Done.eq rfl (.tmp (.tmp (.tmp .nil)))
  refine Yh (Yz ?_);have⟨g16,H⟩:=Y00 H;refine OpsW.sz 7 [10,9,0,1,31,32] [(10,.j (if(x14.2.1+1)>v7 then(x14.2.1+1) else v7)),(9,.j x14.1),(0,slA Y4 t0),(1,.j t1),(31,.j x3.1),(32,.j v8)] ⟨g16,trivial⟩<|Y2 (Yz ?_);have⟨g17,H⟩:=Y00 H;refine OpsW.sz 2 [32,10,9,0,1,31] [(32,.j (v8+1)),(10,.j (if(x14.2.1+1)>v7 then(x14.2.1+1) else v7)),(9,.j x14.1),(0,slA Y4 t0),(1,.j t1),(31,.j x3.1)] ⟨g17,trivial⟩ (Y2 ?_);exact⟨(x14.1,(if(x14.2.1+1)>v7 then(x14.2.1+1) else v7),v8+1),H,(StC.pure (.i6 .nil))⟩
 refine AW.exit<|Y0 (OpsW.sg 5 [6,5,4] [(6,.bool true),(5,.j v7),(4,.j v6)] ?_);refine Y2 ?_;obtain rfl:=X6 H;refine AW.recast (env':=[(4,.j v6),(5,.j v7),(6,.bool true)]) (h':=[]) (StC.pure (.i3 .nil)) (Yp ?_)
 try simp only[Ex.t,Ex.b]
 exact Done.eq rfl (.tmp (.tmp (.tmp .nil)))
def Y0n:Nat→(List Y5)→Int→Option (Int×Int×Bool)
 |0,_,_=>none
 |n+1,t0,t1=>Y3q (Y0n n) t0 t1
theorem f_formula_measure_all:∀n:Nat,(∀(t0:List Y5) (t1:Int) (r:Int×Int×Bool),Y0n n t0 t1=some r→QSpec Tryd.prog 36 [slA Y4 t0,.int .i64 t1] (.tup [.int .i64 r.1,.int .i64 r.2.1,.bool r.2.2]))∧True
 |0=>by
  refine⟨?_,trivial⟩
  ·intro t0 t1 r H;rw[Y0n] at H;cases H
 |n+1=>by
  have ih:=f_formula_measure_all n;refine⟨?_,trivial⟩
  ·intro t0 t1 r H;rw[Y0n] at H;exact f_formula_measure_body_ok ih.1 H
def Y5o (t0:List Y5) (t1:Int):Option (Int×Int×Bool):=Y0n 1000000 t0 t1
theorem f_formula_measure_ok{t0:List Y5}{t1:Int}{r:Int×Int×Bool}(H:Y5o t0 t1=some r):QSpec Tryd.prog 36 [slA Y4 t0,.int .i64 t1] (.tup [.int .i64 r.1,.int .i64 r.2.1,.bool r.2.2]):=
 (f_formula_measure_all 1000000).1 t0 t1 r H
def f_formula_Depth (t0:List Y5):Option Int:=
 cond (decide ((60:Int)<(t0.length:Int))) (
  some (0:Int)) (
  (Y5o t0 (0:Int)).bind fun x2=>
  cond (cond (cond (!x2.2.2) true (x2.1 !=(t0.length:Int))) true (decide (8<x2.2.1))) (
   some (0:Int)) (
   some x2.2.1))
theorem f_formula_Depth_ok{t0:List Y5}{r:Int}(H:f_formula_Depth t0=some r):QSpec Tryd.prog 23 [slA Y4 t0] (.int .i64 r):=by
 refine Yw Tryd.func23 rfl (by simp[Tryd.ntmps23]) ?_;rw[Tryd.ntmps23];unfold f_formula_Depth at H;change AW _ _ _ [(0,slA Y4 t0)] [] _;refine Y0 (OpsW.sg 1 [0] [(0,slA Y4 t0)] ?_);refine Y2 (Y05 (Y0 (OpsW.sg 3 [8,0] [(8,.bool (decide ((60:Int)<(t0.length:Int)))),(0,slA Y4 t0)] ?_)));refine Y2 (Yc (b:=decide ((60:Int)<(t0.length:Int))) H rfl (fun c1 H=> ?_) (fun c1 H=> ?_))
 ·refine Y0 (OpsW.sg 1 [2] [(2,.j (0:Int))] ?_);refine Y2 ?_;obtain rfl:=X6 H;refine AW.recast (env':=[(2,.j (0:Int))]) (h':=[]) (StC.pure (.cons .im .nil)) (Yp ?_)
  try simp only[Ex.t,Ex.b]
  exact Done.eq rfl (.tmp .nil)
 refine Yh (Y0 (OpsW.sg 1 [10,0] [(10,slA Y4 t0),(0,slA Y4 t0)] ?_));have⟨x2,hx2,H⟩:=Y0y H;refine Y20 rfl (.cons (.pur rfl) (.cons (.pur rfl) .nil)) (f_formula_measure_ok hx2) (OpsW.sg 7 [5,4,3,0] [(5,.bool x2.2.2),(4,.j x2.2.1),(3,.j x2.1),(0,slA Y4 t0)] ?_);refine Y2 (Y05 (Y0 (OpsW.sz 12 [26,4] [(26,.bool (cond (cond (!x2.2.2) true (x2.1 !=(t0.length:Int))) true (decide (8<x2.2.1)))),(4,.j x2.2.1)] ⟨id,id,id,(by grind),id,(by grind),trivial⟩ ?_)));refine Y2 (Yc (b:=cond (cond (!x2.2.2) true (x2.1 !=(t0.length:Int))) true (decide (8<x2.2.1))) H rfl (fun c3 H=> ?_) (fun c3 H=> ?_))
 ·refine Y0 (OpsW.sg 1 [2] [(2,.j (0:Int))] ?_);refine Y2 ?_;obtain rfl:=X6 H;refine AW.recast (env':=[(2,.j (0:Int))]) (h':=[]) (StC.pure (.cons .im .nil)) (Yp ?_)
  try simp only[Ex.t,Ex.b]
  exact Done.eq rfl (.tmp .nil)
 refine Yh (Y0 (OpsW.sg 2 [2] [(2,.j x2.2.1)] ?_));refine Y2 ?_;obtain rfl:=X6 H;refine AW.recast (env':=[(2,.j x2.2.1)]) (h':=[]) (StC.pure (.cons .im .nil)) (Yp ?_)
 try simp only[Ex.t,Ex.b]
 exact Done.eq rfl (.tmp .nil)
def Y4d (t0:List Y5):Option Bool:=
 (f_formula_Depth t0).bind fun x1=>
 some (decide (0<x1))
theorem f_formula_Valid_ok{t0:List Y5}{r:Bool}(H:Y4d t0=some r):QSpec Tryd.prog 12 [slA Y4 t0] (.bool r):=by
 refine Yw Tryd.func12 rfl (by simp[Tryd.ntmps12]) ?_;rw[Tryd.ntmps12];unfold Y4d at H;change AW _ _ _ [(0,slA Y4 t0)] [] _;refine Y0 (OpsW.sg 1 [0] [(0,slA Y4 t0)] ?_);refine Y2 (Y0 (OpsW.sg 1 [3] [(3,slA Y4 t0)] ?_));have⟨x1,hx1,H⟩:=Y0y H;refine Y20 rfl (.cons (.pur rfl) .nil) (f_formula_Depth_ok hx1) (OpsW.sg 2 [2] [(2,.bool (decide (0<x1)))] (Y2 ?_));obtain rfl:=X6 H;refine AW.recast (env':=[(2,.bool (decide (0<x1)))]) (h':=[]) (StC.pure (.cons .im .nil)) (Yp ?_)
 try simp only[Ex.t,Ex.b]
 exact Done.eq rfl (.tmp .nil)
def f_formula_sign (t0:Int):Option Int:=
 cond (t0==2) (
  some (43:Int)) (
  cond (t0==3) (
   some (45:Int)) (
   cond (t0==4) (
    some (42:Int)) (
    some (61:Int))))
theorem f_formula_sign_ok{t0:Int}{r:Int}(H:f_formula_sign t0=some r):QSpec Tryd.prog 45 [.int .i64 t0] (.int .u8 r):=by
 refine Yw Tryd.func45 rfl (by simp[Tryd.ntmps45]) ?_;rw[Tryd.ntmps45];unfold f_formula_sign at H;change AW _ _ _ [(0,.j t0)] [] _;refine Y0 (OpsW.sg 1 [0] [(0,.j t0)] ?_);refine Y2 (Y05 (Y0 (OpsW.sg 1 [3] [(3,.j t0)] ?_)));refine Y2 (Y04 (Y0 (OpsW.sg 2 [4,3] [(4,.bool (t0==2)),(3,.j t0)] ?_)));refine Y2 (Yc (b:=t0==2) H rfl (fun c1 H=> ?_) (fun c1 H=> ?_))
 ·refine Y0 (OpsW.sg 1 [2] [(2,.int .u8 43)] ?_);refine Y2 ?_;obtain rfl:=X6 H;refine AW.recast (env':=[(2,.int .u8 43)]) (h':=[]) (StC.pure (.cons .im .nil)) (Yp ?_)
  try simp only[Ex.t,Ex.b]
  exact Done.eq rfl (.tmp .nil)
 refine Y0 (OpsW.sg 2 [6,3] [(6,.bool (t0==3)),(3,.j t0)] ?_);refine Y2 (Yc (b:=t0==3) H rfl (fun c2 H=> ?_) (fun c2 H=> ?_))
 ·refine Y0 (OpsW.sg 1 [2] [(2,.int .u8 45)] ?_);refine Y2 ?_;obtain rfl:=X6 H;refine AW.recast (env':=[(2,.int .u8 45)]) (h':=[]) (StC.pure (.cons .im .nil)) (Yp ?_)
  try simp only[Ex.t,Ex.b]
  exact Done.eq rfl (.tmp .nil)
 refine Y0 (OpsW.sg 2 [8] [(8,.bool (t0==4))] ?_);refine Y2 (Yc (b:=t0==4) H rfl (fun c3 H=> ?_) (fun c3 H=> ?_))
 ·refine Y0 (OpsW.sg 1 [2] [(2,.int .u8 42)] ?_);refine Y2 ?_;obtain rfl:=X6 H;refine AW.recast (env':=[(2,.int .u8 42)]) (h':=[]) (StC.pure (.cons .im .nil)) (Yp ?_)
  try simp only[Ex.t,Ex.b]
  exact Done.eq rfl (.tmp .nil)
 refine Yh (Y0 (OpsW.sg 1 [2] [(2,.int .u8 61)] ?_));refine Y2 ?_;obtain rfl:=X6 H;refine AW.recast (env':=[(2,.int .u8 61)]) (h':=[]) (StC.pure (.cons .im .nil)) (Yp ?_)
 try simp only[Ex.t,Ex.b]
 exact Done.eq rfl (.tmp .nil)
def f_formula_name (t0:Int):Option ByteArray:=
 cond (t0==6) (
  some (⟨#[102,114,97,99]⟩:ByteArray)) (
  cond (t0==7) (
   some (⟨#[112,111,119]⟩:ByteArray)) (
   cond (t0==8) (
    some (⟨#[105,100,120]⟩:ByteArray)) (
    cond (t0==9) (
     some (⟨#[114,111,111,116]⟩:ByteArray)) (
     cond (t0==11) (
      some (⟨#[99,97,110,99,101,108]⟩:ByteArray)) (
      cond (t0==12) (
       some (⟨#[115,117,109]⟩:ByteArray)) (
       cond (t0==13) (
        some (⟨#[109,97,116,114,105,120]⟩:ByteArray)) (
        some (⟨#[]⟩:ByteArray))))))))
theorem f_formula_name_ok{t0:Int}{r:ByteArray}(H:f_formula_name t0=some r):QSpec Tryd.prog 46 [.int .i64 t0] (.string r):=by
 refine Yw Tryd.func46 rfl (by simp[Tryd.ntmps46]) ?_;rw[Tryd.ntmps46];unfold f_formula_name at H;change AW _ _ _ [(0,.j t0)] [] _;refine Y0 (OpsW.sg 1 [0] [(0,.j t0)] ?_);refine Y2 (Y05 (Y0 (OpsW.sg 1 [3] [(3,.j t0)] ?_)));refine Y2 (Y04 (Y0 (OpsW.sg 2 [4,3] [(4,.bool (t0==6)),(3,.j t0)] ?_)));refine Y2 (Yc (b:=t0==6) H rfl (fun c1 H=> ?_) (fun c1 H=> ?_))
 ·refine Y0 (OpsW.sg 1 [2] [(2,.string (⟨#[102,114,97,99]⟩:ByteArray))] ?_);refine Y2 ?_;obtain rfl:=X6 H;refine AW.recast (env':=[(2,.string (⟨#[102,114,97,99]⟩:ByteArray))]) (h':=[]) (StC.pure (.cons .im .nil)) (Yp ?_)
  try simp only[Ex.t,Ex.b]
  exact Done.eq rfl (.tmp .nil)
 refine Y0 (OpsW.sg 2 [6,3] [(6,.bool (t0==7)),(3,.j t0)] ?_);refine Y2 (Yc (b:=t0==7) H rfl (fun c2 H=> ?_) (fun c2 H=> ?_))
 ·refine Y0 (OpsW.sg 1 [2] [(2,.string (⟨#[112,111,119]⟩:ByteArray))] ?_);refine Y2 ?_;obtain rfl:=X6 H;refine AW.recast (env':=[(2,.string (⟨#[112,111,119]⟩:ByteArray))]) (h':=[]) (StC.pure (.cons .im .nil)) (Yp ?_)
  try simp only[Ex.t,Ex.b]
  exact Done.eq rfl (.tmp .nil)
 refine Y0 (OpsW.sg 2 [8,3] [(8,.bool (t0==8)),(3,.j t0)] ?_);refine Y2 (Yc (b:=t0==8) H rfl (fun c3 H=> ?_) (fun c3 H=> ?_))
 ·refine Y0 (OpsW.sg 1 [2] [(2,.string (⟨#[105,100,120]⟩:ByteArray))] ?_);refine Y2 ?_;obtain rfl:=X6 H;refine AW.recast (env':=[(2,.string (⟨#[105,100,120]⟩:ByteArray))]) (h':=[]) (StC.pure (.cons .im .nil)) (Yp ?_)
  try simp only[Ex.t,Ex.b]
  exact Done.eq rfl (.tmp .nil)
 refine Y0 (OpsW.sg 2 [10,3] [(10,.bool (t0==9)),(3,.j t0)] ?_);refine Y2 (Yc (b:=t0==9) H rfl (fun c4 H=> ?_) (fun c4 H=> ?_))
 ·refine Y0 (OpsW.sg 1 [2] [(2,.string (⟨#[114,111,111,116]⟩:ByteArray))] ?_);refine Y2 ?_;obtain rfl:=X6 H;refine AW.recast (env':=[(2,.string (⟨#[114,111,111,116]⟩:ByteArray))]) (h':=[]) (StC.pure (.cons .im .nil)) (Yp ?_)
  try simp only[Ex.t,Ex.b]
  exact Done.eq rfl (.tmp .nil)
 refine Y0 (OpsW.sg 2 [12,3] [(12,.bool (t0==11)),(3,.j t0)] ?_);refine Y2 (Yc (b:=t0==11) H rfl (fun c5 H=> ?_) (fun c5 H=> ?_))
 ·refine Y0 (OpsW.sg 1 [2] [(2,.string (⟨#[99,97,110,99,101,108]⟩:ByteArray))] ?_);refine Y2 ?_;obtain rfl:=X6 H;refine AW.recast (env':=[(2,.string (⟨#[99,97,110,99,101,108]⟩:ByteArray))]) (h':=[]) (StC.pure (.cons .im .nil)) (Yp ?_)
  try simp only[Ex.t,Ex.b]
  exact Done.eq rfl (.tmp .nil)
 refine Y0 (OpsW.sg 2 [14,3] [(14,.bool (t0==12)),(3,.j t0)] ?_);refine Y2 (Yc (b:=t0==12) H rfl (fun c6 H=> ?_) (fun c6 H=> ?_))
 ·refine Y0 (OpsW.sg 1 [2] [(2,.string (⟨#[115,117,109]⟩:ByteArray))] ?_);refine Y2 ?_;obtain rfl:=X6 H;refine AW.recast (env':=[(2,.string (⟨#[115,117,109]⟩:ByteArray))]) (h':=[]) (StC.pure (.cons .im .nil)) (Yp ?_)
  try simp only[Ex.t,Ex.b]
  exact Done.eq rfl (.tmp .nil)
 refine Y0 (OpsW.sg 2 [16] [(16,.bool (t0==13))] ?_);refine Y2 (Yc (b:=t0==13) H rfl (fun c7 H=> ?_) (fun c7 H=> ?_))
 ·refine Y0 (OpsW.sg 1 [2] [(2,.string (⟨#[109,97,116,114,105,120]⟩:ByteArray))] ?_);refine Y2 ?_;obtain rfl:=X6 H;refine AW.recast (env':=[(2,.string (⟨#[109,97,116,114,105,120]⟩:ByteArray))]) (h':=[]) (StC.pure (.cons .im .nil)) (Yp ?_)
  try simp only[Ex.t,Ex.b]
  exact Done.eq rfl (.tmp .nil)
 refine Yh (Y0 (OpsW.sg 1 [2] [(2,.string (⟨#[]⟩:ByteArray))] ?_));refine Y2 ?_;obtain rfl:=X6 H;refine AW.recast (env':=[(2,.string (⟨#[]⟩:ByteArray))]) (h':=[]) (StC.pure (.cons .im .nil)) (Yp ?_)
 try simp only[Ex.t,Ex.b]
 exact Done.eq rfl (.tmp .nil)
def Y3k (t0:Y5) (t1:Int):Option Int:=
 G (((!(cond (t0.Op==12) (t1==t0.N) false))&&(t0.Op==13))=true→(Int.tmod t0.N (8:Int))≠0)<|
 cond (cond (cond (t0.Op==12) (t1==t0.N) false) true (cond (t0.Op==13) ((Int.tmod t1 (Int.tmod t0.N (8:Int)))==0) false)) (
  some (59:Int)) (
  some (44:Int))
section
variable (t0:Y5) (t1:Int)
abbrev Z3a:=(cond (t0.Op==13) ((Int.tmod t1 (Int.tmod t0.N (8:Int)))==0) false)
end
theorem f_formula_separator_ok{t0:Y5}{t1:Int}{r:Int}(H:Y3k t0 t1=some r):QSpec Tryd.prog 47 [.agg [.int .i64 t0.Op,.int .i64 t0.N],.int .i64 t1] (.int .u8 r):=by
 refine Yw Tryd.func47 rfl (by simp[Tryd.ntmps47]) ?_;rw[Tryd.ntmps47];unfold Y3k at H;change AW _ _ _ [(0,.agg [.j t0.Op,.j t0.N]),(1,.j t1)] [] _;refine Y0 (OpsW.box rfl rfl rfl 2 rfl (Yx (by kernel_rfl)) ?_);change OpsW _ _ _ _ _ [(2,⟨0,true,26,2,[.j t0.Op,.j t0.N]⟩)] _;refine OpsW.sg 1 [2,1] [(2,.ref 2 0 0),(1,.j t1)]<|Y2 (Y05 (Y0 ?_));have⟨g1,H⟩:=Y00 H;refine OpsW.sz 22 [26] [(26,.bool (cond (cond (t0.Op==12) (t1==t0.N) false) true (Z3a t0 t1)))] ⟨id,id,id,(by grind),id,id,id,id,id,(fun _=>by decide),id,id,g1,id,id,(by grind),(by grind),trivial⟩ (Y2 (Yc (b:=cond (cond (t0.Op==12) (t1==t0.N) false) true (Z3a t0 t1)) H rfl (fun c2 H=> ?_) (fun c2 H=> ?_)))
 ·refine Y0 (OpsW.sg 1 [4] [(4,.int .u8 59)] ?_);refine Y2 ?_;obtain rfl:=X6 H;refine AW.recast (env':=[(4,.int .u8 59)]) (h':=[]) (StC.pure (.cons .im .nil)) (Yp ?_)
  try simp only[Ex.t,Ex.b]
  exact Done.eq rfl (.tmp .nil)
 refine Yh (Y0 (OpsW.sg 1 [4] [(4,.int .u8 44)] ?_));refine Y2 ?_;obtain rfl:=X6 H;refine AW.recast (env':=[(4,.int .u8 44)]) (h':=[]) (StC.pure (.cons .im .nil)) (Yp ?_)
 try simp only[Ex.t,Ex.b]
 exact Done.eq rfl (.tmp .nil)
end Go.Proofs.YtkgfbpbndmklnaaDoor
