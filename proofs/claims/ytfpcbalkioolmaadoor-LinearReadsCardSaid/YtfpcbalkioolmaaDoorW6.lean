/- Own work. -/
import Derived.Test.YtfpcbalkioolmaaDoorW5
import Derived.Test.YtfpcbalkioolmaaDoorLr15
set_option linter.unusedSimpArgs false
set_option linter.unusedVariables false
set_option maxRecDepth 100000
namespace Go.Proofs.YtfpcbalkioolmaaDoor
open Go.Abs
def Y5a (t0:List Int) (t1:List Int):Option Bool:=
 (f_L10_sanity).bind fun x1=>
 (f_R09_Made t0).bind fun x2=>
 (f_R09_Made t1).bind fun x3=>
 (Y41 x2).bind fun x4=>
 (Y41 x3).bind fun x5=>
 cond (cond (x4.2 !=0) true (x5.2 !=0)) (
  some false) (
  (f_linear_Read x4.1).bind fun x7=>
  (cond (cond (cond x1 (x7.2.2==0) false) (x7.2.1==(x4.1.length:Int)) false) (f_R09_Same x7.1 x2) (some false)).bind fun x8=>
  (cond (cond (cond (cond x1 (x7.2.2==0) false) (x7.2.1==(x4.1.length:Int)) false) x8 false) (f_R01_Same x4.1 x5.1) (some false)).bind fun x9=>
  (cond (cond (cond (cond x1 (x7.2.2==0) false) (x7.2.1==(x4.1.length:Int)) false) x8 false) (f_R09_Same x2 x3) (some false)).bind fun x10=>
  some (cond (cond (cond (cond x1 (x7.2.2==0) false) (x7.2.1==(x4.1.length:Int)) false) x8 false) (x9==x10) false))
section
variable (x2:(List Y7)) (x3:(List Y7)) (x4:((List Int)×Int))
abbrev Z7r:=(x4.1.length:Int)
abbrev Z7s:Nat×AV:=(6,slA Y2 x2)
abbrev Z7t:Nat×AV:=(7,slA Y2 x3)
end
theorem f_L10_LinearReads_ok{t0:List Int}{t1:List Int}{r:Bool}(H:Y5a t0 t1=some r):QSpec Tryd.prog 4 [slA (eI .u8) t0,slA (eI .u8) t1] (.bool r):=by
 refine Y07 Tryd.func4 rfl (by simp[Tryd.ntmps4]) ?_;rw[Tryd.ntmps4];unfold Y5a at H;change AW _ _ _ [(0,sU t0),(1,sU t1)] [] _;refine Y0 (OpsW.sg 1 [0,1] [(0,sU t0),(1,sU t1)] ?_);refine Y3 (Y0 ?_);have⟨x1,hx1,H⟩:=Y10 H;refine Y2g rfl .nil (f_L10_sanity_ok hx1) (OpsW.sg 1 [5,0,1] [(5,.bool x1),(0,sU t0),(1,sU t1)] ?_);refine Y3 (Y0 (OpsW.sg 1 [16,5,1] [(16,sU t0),(5,.bool x1),(1,sU t1)] ?_));have⟨x2,hx2,H⟩:=Y10 H;refine Y2g rfl (.cons (.pur rfl) .nil) (f_R09_Made_ok hx2) (OpsW.sg 1 [6,5,1] [(Z7s x2),(5,.bool x1),(1,sU t1)] ?_);refine Y3 (Y0 (OpsW.sg 1 [18,6,5] [(18,sU t1),(Z7s x2),(5,.bool x1)] ?_));have⟨x3,hx3,H⟩:=Y10 H;refine Y2g rfl (.cons (.pur rfl) .nil) (f_R09_Made_ok hx3) (OpsW.sg 1 [7,6,5] [(Z7t x3),(Z7s x2),(5,.bool x1)] ?_);refine Y3 (Y0 (OpsW.sg 1 [21,7,6,5] [(21,slA Y2 x2),(Z7t x3),(Z7s x2),(5,.bool x1)] ?_));have⟨x4,hx4,H⟩:=Y10 H;refine Y2g rfl (.cons (.pur rfl) .nil) (f_linear_Write_ok hx4) (OpsW.sg 5 [9,8,7,6,5] [(9,.j x4.2),(8,sU x4.1),(Z7t x3),(Z7s x2),(5,.bool x1)] ?_);refine Y3 (Y0 (OpsW.sg 1 [26,9,8,7,6,5] [(26,slA Y2 x3),(9,.j x4.2),(8,sU x4.1),(Z7t x3),(Z7s x2),(5,.bool x1)] ?_));have⟨x5,hx5,H⟩:=Y10 H;refine Y2g rfl (.cons (.pur rfl) .nil) (f_linear_Write_ok hx5) (OpsW.sg 5 [11,10,9,8,7,6,5] [(11,.j x5.2),(10,sU x5.1),(9,.j x4.2),(8,sU x4.1),(Z7t x3),(Z7s x2),(5,.bool x1)] ?_)
 refine Y3 (Y15 (Y0 (Yx 6 [35,10,8,7,6,5] [(35,.bool (cond (x4.2 !=0) true (x5.2 !=0))),(10,sU x5.1),(8,sU x4.1),(Z7t x3),(Z7s x2),(5,.bool x1)] ⟨(fun h=>h),(fun h=>by first|exact h|(simpa using h)|grind),trivial⟩ ?_)));refine Y3 (Ye (b:=cond (x4.2 !=0) true (x5.2 !=0)) H rfl (fun c6 H=> ?_) (fun c6 H=> ?_))
 ·refine Y0 (OpsW.sg 1 [4] [(4,.bool false)] ?_);refine Y3 ?_;obtain rfl:=X5 H;refine AW.recast (env':=[(4,.bool false)]) (h':=[]) (StC.pure (.cons .im .nil)) (Y0b ?_)
  try simp only[Ex.t,Ex.b]
  exact Yz rfl (.tmp .nil)
 refine Yr (Y0 (OpsW.sg 1 [37,10,8,7,6,5] [(37,sU x4.1),(10,sU x5.1),(8,sU x4.1),(Z7t x3),(Z7s x2),(5,.bool x1)] ?_));have⟨x7,hx7,H⟩:=Y10 H;refine Y2g rfl (.cons (.pur rfl) .nil) (f_linear_Read_ok hx7) (OpsW.sg 7 [14,13,12,10,8,7,6,5] [(14,.j x7.2.2),(13,.j x7.2.1),(12,slA Y2 x7.1),(10,sU x5.1),(8,sU x4.1),(Z7t x3),(Z7s x2),(5,.bool x1)] ?_);refine Y3 (Y0 (Yx 14 [55,54,53,10,8,7,6] [(55,.cnd (cond (cond x1 (x7.2.2==0) false) (x7.2.1==(Z7r x4)) false) (slA Y2 x2)),(54,.cnd (cond (cond x1 (x7.2.2==0) false) (x7.2.1==(Z7r x4)) false) (slA Y2 x7.1)),(53,.bool (cond (cond x1 (x7.2.2==0) false) (x7.2.1==(Z7r x4)) false)),(10,sU x5.1),(8,sU x4.1),(Z7t x3),(Z7s x2)] ⟨(fun h=>h),(fun h=>by first|exact h|(simpa using h)|grind),(fun h=>h),(fun h=>h),(fun h=>h),(fun h=>by first|exact h|(simpa using h)|grind),trivial⟩ ?_));have⟨x8,hx8,H⟩:=Y10 H
 refine OpsW.gcall (c:=cond (cond x1 (x7.2.2==0) false) (x7.2.1==(Z7r x4)) false) (r:=.bool x8) [] rfl (by kernel_rfl) rfl rfl rfl rfl (fun hc=>⟨Yg ⟨hc,hc,trivial⟩,(.cons (.pur rfl) (.cons (.pur rfl) .nil)),f_R09_Same_ok (condT hc hx8),.inl ⟨rfl,rfl⟩⟩) (Yx 4 [60,59,58,7,6] [(60,.cnd (cond (cond (cond x1 (x7.2.2==0) false) (x7.2.1==(Z7r x4)) false) x8 false) (sU x5.1)),(59,.cnd (cond (cond (cond x1 (x7.2.2==0) false) (x7.2.1==(Z7r x4)) false) x8 false) (sU x4.1)),(58,.bool (cond (cond (cond x1 (x7.2.2==0) false) (x7.2.1==(Z7r x4)) false) x8 false)),(Z7t x3),(Z7s x2)] ⟨(fun h=>by first|exact h|(simpa using h)|grind),trivial⟩ ?_);have⟨x9,hx9,H⟩:=Y10 H;refine OpsW.gcall (c:=cond (cond (cond x1 (x7.2.2==0) false) (x7.2.1==(Z7r x4)) false) x8 false) (r:=.bool x9) [] rfl (by kernel_rfl) rfl rfl rfl rfl (fun hc=>⟨Yg ⟨hc,hc,trivial⟩,(.cons (.pur rfl) (.cons (.pur rfl) .nil)),f_R01_Same_ok (condT hc hx9),.inl ⟨rfl,rfl⟩⟩) (OpsW.sg 2 [63,62,61,58] [(63,.cnd (cond (cond (cond x1 (x7.2.2==0) false) (x7.2.1==(Z7r x4)) false) x8 false) (slA Y2 x3)),(62,.cnd (cond (cond (cond x1 (x7.2.2==0) false) (x7.2.1==(Z7r x4)) false) x8 false) (slA Y2 x2)),(61,.cnd (cond (cond (cond x1 (x7.2.2==0) false) (x7.2.1==(Z7r x4)) false) x8 false) (.bool x9)),(58,.bool (cond (cond (cond x1 (x7.2.2==0) false) (x7.2.1==(Z7r x4)) false) x8 false))] ?_);have⟨x10,hx10,H⟩:=Y10 H
 refine OpsW.gcall (c:=cond (cond (cond x1 (x7.2.2==0) false) (x7.2.1==(Z7r x4)) false) x8 false) (r:=.bool x10) [] rfl (by kernel_rfl) rfl rfl rfl rfl (fun hc=>⟨Yg ⟨hc,hc,trivial⟩,(.cons (.pur rfl) (.cons (.pur rfl) .nil)),f_R09_Same_ok (condT hc hx10),.inl ⟨rfl,rfl⟩⟩) (Yx 3 [4] [(4,.bool (cond (cond (cond (cond x1 (x7.2.2==0) false) (x7.2.1==(Z7r x4)) false) x8 false) (x9==x10) false))] ⟨(fun h=>h),(fun h=>h),(fun h=>by first|exact h|(simpa using h)|grind),trivial⟩ (Y3 ?_));obtain rfl:=X5 H;refine AW.recast (env':=[(4,.bool (cond (cond (cond (cond x1 (x7.2.2==0) false) (x7.2.1==(Z7r x4)) false) x8 false) (x9==x10) false))]) (h':=[]) (StC.pure (.cons .im .nil)) (Y0b ?_)
 try simp only[Ex.t,Ex.b]
 exact Yz rfl (.tmp .nil)
end Go.Proofs.YtfpcbalkioolmaaDoor
