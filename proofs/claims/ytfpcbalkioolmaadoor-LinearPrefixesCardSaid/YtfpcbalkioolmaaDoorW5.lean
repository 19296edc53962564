/- Own work. -/
import Derived.Test.YtfpcbalkioolmaaDoorW4
set_option linter.unusedSimpArgs false
set_option linter.unusedVariables false
set_option maxRecDepth 100000
namespace Go.Proofs.YtfpcbalkioolmaaDoor
open Go.Abs
def Y33 (t0:List Y6):Option ((List Int)×Int):=
 (Y5c t0).bind fun x1=>
 cond (!x1) (
  some ([],(90:Int))) (
  (f_linear_brackets).bind fun x3=>
  (Y5o (⟨t0,(0:Int),([]:List Int),([]:List Int),()⟩:Y3)).bind fun x4=>
  some (x4.cells_,(0:Int)))
section
variable (x4:Y3)
abbrev Z5p:Hp:=[(5040,rtA 0 33 1 (eI .u8) ([]:List Int)),(5041,rtA 0 33 1 (eI .u8) ([]:List Int))]
abbrev Z5q:Hp:=[(5040,rtA 1 33 1 (eI .u8) x4.level_),(5041,rtA 1 33 1 (eI .u8) x4.cells_)]
end
theorem f_linear_Write_ok{t0:List Y6}{r:(List Int)×Int}(H:Y33 t0=some r):QSpec Tryd.prog 11 [slA Y8 t0] (.tup [slA (eI .u8) r.1,.int .i64 r.2]):=by
 refine Y08 Tryd.func11 rfl (by simp[Tryd.ntmps11]) ?_;rw[Tryd.ntmps11];unfold Y33 at H;change AW _ _ _ [(0,slA Y8 t0)] [] _;refine Y0 (OpsW.sg 2 [0] [(0,slA Y8 t0)] ?_);refine Y2 (Y15 (Y0 (OpsW.sg 1 [5,0] [(5,slA Y8 t0),(0,slA Y8 t0)] ?_)));have⟨x1,hx1,H⟩:=Y1a H;refine Y2s rfl (.cons (.pur rfl) .nil) (f_formula_Valid_ok hx1) (OpsW.sg 1 [7,0] [(7,.bool (!x1)),(0,slA Y8 t0)] (Y2 (Yd (b:= !x1) H rfl (fun c2 H=> ?_) (fun c2 H=> ?_))))
 ·refine Y0 (OpsW.sg 2 [3,2] [(3,.j (90:Int)),(2,.im (.val (.slice none 0 0)))] ?_);refine Y2 ?_;obtain rfl:=X6 H;refine AW.recast (env':=[(2,sU []),(3,.j (90:Int))]) (h':=[]) (StC.pure (.cons .nil (.cons .im .nil))) (Y09 ?_)
  try simp only[Ex.t,Ex.b]
  exact Yw rfl (.tmp (.tmp .nil))
 refine Ym (Y0 (OpsW.sg 1 [8] [(8,slA Y8 t0)] ?_));have⟨x3,hx3,H⟩:=Y1a H;refine Y2s rfl .nil (Y5p hx3) (OpsW.sg 1 [10] [(10,.agg [slA Y8 t0,.j (0:Int),.im (.val (.slice none 0 0)),.im (.val (.slice none 0 0)),.im (.mp (mapV Y0f))])] (OpsW.alloc' rfl rfl rfl 4 rfl (by kernel_rfl:zc Tryd.prog 58=some [.slice none 0 0,.j 0,.slice none 0 0,.slice none 0 0,.map none]) (by kernel_rfl) (Y5i rfl rfl rfl rfl trivial trivial rfl rfl rfl (by kernel_rfl) (Y16 (by kernel_rfl)) (X9 (by kernel_rfl)) ?_)));change OpsW _ _ _ _ _ [(4,⟨0,true,58,5,[slA Y8 t0,.j (0:Int),.im (.val (.slice none 0 0)),.im (.val (.slice none 0 0)),.im (.mp (mapV Y0f))]⟩),(4,⟨0,true,58,5,[.im (.val (.slice none 0 0)),.j (0:Int),.im (.val (.slice none 0 0)),.im (.val (.slice none 0 0)),.im (.val (.map none))]⟩)] _;refine OpsW.sg 0 [4] [(4,.ref 4 0 0)] (OpsW.rc [(4,.ref 4 0 0)] [(4,⟨0,true,58,5,[slA Y8 t0,.j (0:Int),.im (.val (.slice none 0 0)),.im (.val (.slice none 0 0)),.im (.mp (mapV Y0f))]⟩)] (StC.mk (phi [(4,some 4)]) (.o rfl (.i5 .nil) .nil) rfl (.cons (.r rfl) .nil)) ?_);refine Y2 (Y0 (OpsW.rc [(4,.ref 4 0 0)] ((4,⟨0,true,58,5,[slA Y8 t0,.j (0:Int),.rsl 5040 0 0 0,.rsl 5041 0 0 0,.im (.mp (mapV Y0f))]⟩)::Z5p) (StC.mk (phi [(4,some 4),(5040,none),(5041,none)]) (.o rfl (.i2 (.cons (.nilr rfl rfl rfl) (.cons (.nilr rfl rfl rfl) (.cons .im .nil)))) (.new rfl (.new rfl .nil))) rfl (.cons (.r rfl) .nil)) ?_));have⟨x4,hx4,H⟩:=Y1a H
 refine Y10 ((4,⟨0,true,58,5,[slA Y8 t0,.j (0:Int),.rsl 5040 0 0 0,.rsl 5041 0 0 0,.im (.mp (mapV Y0f))]⟩)::Z5p) [] [(2010,⟨0,true,58,5,[slA Y8 t0,.j (0:Int),.rsl 3010 0 0 0,.rsl 3011 0 0 0,.im (.mp (mapV Y0f))]⟩),(3010,rtA 0 33 1 (eI .u8) ([]:List Int)),(3011,rtA 0 33 1 (eI .u8) ([]:List Int))] (phi [(2010,some 4),(3010,some 5040),(3011,some 5041)]) rfl (f_linear_writer_node_io hx4) (.cons (.r rfl) .nil) (.cons rfl rfl rfl rfl rfl (.i2 (.cons (.s rfl) (.cons (.s rfl) (.cons .im .nil)))) (.b (RnL.ims _) (.b (RnL.ims _) .nil))) (.tup []) ((4,⟨0,true,58,5,[slA Y8 x4.f_,.j x4.at_,.rsl 5040 1 0 x4.level_.length,.rsl 5041 1 0 x4.cells_.length,.im (.mp (mapV Y0f))]⟩)::(Z5q x4)) (phi [(4,some 2010),(5040,some 3010),(5041,some 3011)]) (.cons rfl rfl rfl rfl rfl (.i2 (.cons (.s rfl) (.cons (.s rfl) (.cons .im .nil)))) (.b (RnL.ims _) (.b (RnL.ims _) .nil))) (.tup .nil .nil) ?_;refine OpsW.sg 0 [4] [(4,.ref 4 0 0)] (OpsW.rc [(4,.ref 4 0 0)] [(4,⟨0,true,58,5,[slA Y8 x4.f_,.j x4.at_,.rsl 5040 0 0 x4.level_.length,.rsl 5041 0 0 x4.cells_.length,.im (.mp (mapV Y0f))]⟩),(5040,rtA 0 33 1 (eI .u8) x4.level_),(5041,rtA 0 33 1 (eI .u8) x4.cells_)] (StC.mk (phi [(4,some 4),(5040,some 5040),(5041,some 5041)]) (.o rfl (.i2 (.cons (.s rfl) (.cons (.s rfl) (.cons .im .nil)))) (.o rfl (CstL.ims _) (.o rfl (CstL.ims _) .nil))) rfl (.cons (.r rfl) .nil)) ?_)
 refine Y2 (Y0 (OpsW.sg 4 [3,2] [(3,.j (0:Int)),(2,.rsl 5041 0 0 x4.cells_.length)] ?_));refine OpsW.rc [(3,.j (0:Int)),(2,sU x4.cells_)] [] (StC.mk (phi []) .nil rfl (.cons .im (.cons (.frz rfl rfl rfl (frz_all (eI .u8) 1 (fun _=>rfl) x4.cells_) (Y28 (eI .u8) 1 (fun _=>rfl) x4.cells_) (phi_ne rfl)) .nil))) (Y2 ?_);obtain rfl:=X6 H;refine AW.recast (env':=[(2,sU x4.cells_),(3,.j (0:Int))]) (h':=[]) (StC.pure (.i2 .nil)) (Y09 ?_)
 try simp only[Ex.t,Ex.b]
 exact Yw rfl (.tmp (.tmp .nil))
def f_R01_Same_b1 (t0:List Int) (t1:List Int) (loop3:(Int)->Option Bool) (v2:Int):Option Bool:=
 cond (decide (v2<(t0.length:Int))) (
  G (0<=v2/\v2<(t0.length:Int))<|
  G (0<=v2/\v2<(t1.length:Int))<|
  cond ((t0.getD v2.toNat 0) !=(t1.getD v2.toNat 0)) (
   some false) (
   G (inR (v2+1))<|
   loop3 (v2+1))) (
  some true)
def f_R01_Same (t0:List Int) (t1:List Int):Option Bool:=
 cond ((t0.length:Int) !=(t1.length:Int)) (
  some false) (
  iter (fun loop (s:Int)=>f_R01_Same_b1 t0 t1 loop s) 1000000 (0:Int))
section
variable (t0:List Int) (t1:List Int) (v2:Int)
abbrev Z76:Env:=[(19,.ipt (t0.flatMap (eI .u8)) (v2.toNat*1)),(18,.j v2),(17,sU t0),(14,.bool (decide (v2<(t0.length:Int)))),(0,sU t0),(1,sU t1),(5,.j v2)]
abbrev Z77:Env:=(23,.ipt (t1.flatMap (eI .u8)) (v2.toNat*1))::(22,.j v2)::(21,sU t1)::(20,.int .u8 (t0.getD v2.toNat 0))::(Z76 t0 t1 v2)
end
theorem f_R01_Same_ok{t0:List Int}{t1:List Int}{r:Bool}(H:f_R01_Same t0 t1=some r):QSpec Tryd.prog 13 [slA (eI .u8) t0,slA (eI .u8) t1] (.bool r):=by
 refine Y08 Tryd.func13 rfl (by simp[Tryd.ntmps13]) ?_;rw[Tryd.ntmps13];unfold f_R01_Same at H;change AW _ _ _ [(0,sU t0),(1,sU t1)] [] _;refine Y0 (OpsW.sg 1 [0,1] [(0,sU t0),(1,sU t1)] ?_);refine Y2 (Y15 (Y0 (OpsW.sg 5 [10,0,1] [(10,.bool ((t0.length:Int) !=(t1.length:Int))),(0,sU t0),(1,sU t1)] ?_)));refine Y2 (Yd (b:=(t0.length:Int) !=(t1.length:Int)) H rfl (fun c1 H=> ?_) (fun c1 H=> ?_))
 ·refine Y0 (OpsW.sg 1 [4] [(4,.bool false)] ?_);refine Y2 ?_;obtain rfl:=X6 H;refine AW.recast (env':=[(4,.bool false)]) (h':=[]) (StC.pure (.cons .im .nil)) (Y09 ?_)
  try simp only[Ex.t,Ex.b]
  exact Yw rfl (.tmp .nil)
 refine Ym (Y15 (Y0 (OpsW.sg 1 [5,0,1] [(5,.j (0:Int)),(0,sU t0),(1,sU t1)] ?_)));refine Y2 (Y1b ?_);refine Y5w (fun loop (s:Int)=>f_R01_Same_b1 t0 t1 loop s) r (fun(s:Int)=>[(0,sU t0),(1,sU t1),(5,.j s)]) (fun(s:Int)=>[]) ?_ 1000000 (0:Int) H (StC.pure (.i3 .nil));intro loop3 v2 H;unfold f_R01_Same_b1 at H;change AW _ _ _ [(0,sU t0),(1,sU t1),(5,.j v2)] [] _;refine Y15 (Y0 (OpsW.sg 4 [14,0,1,5] [(14,.bool (decide (v2<(t0.length:Int)))),(0,sU t0),(1,sU t1),(5,.j v2)] ?_));refine Y2 (Yd (b:=decide (v2<(t0.length:Int))) H rfl (fun c4 H=> ?_) (fun c4 H=> ?_))
 ·refine Ym (Y15 (Y1b (Y3n Tryd.checked.mixed (by kernel_rfl) ?_)));have⟨g5,H⟩:=Y06 H;refine QOps.sz (N:=26) 3 (Z76 t0 t1 v2) ⟨g5,trivial⟩ (QOps.asU (.int .u8 (t0.getD v2.toNat 0)) rfl (T.load rfl trivial (by kernel_rfl) (fm_cell0 (eI .u8) 1 (fun _=>rfl) t0 (0:Int) v2.toNat (ltN g5) (fun a=>.val (.int .u8 a)) (fun _=>rfl))) ?_);have⟨g6,H⟩:=Y06 H;refine QOps.sz (N:=26) 3 (Z77 t0 t1 v2) ⟨g6,trivial⟩ (QOps.asU (.int .u8 (t1.getD v2.toNat 0)) rfl (T.load rfl trivial (by kernel_rfl) (fm_cell0 (eI .u8) 1 (fun _=>rfl) t1 (0:Int) v2.toNat (ltN g6) (fun a=>.val (.int .u8 a)) (fun _=>rfl))) (QOps.sz (N:=26) 1 ((25,.bool ((t0.getD v2.toNat 0) !=(t1.getD v2.toNat 0)))::(24,.int .u8 (t1.getD v2.toNat 0))::(Z77 t0 t1 v2)) trivial ?_));refine QOps.nil (AW.trim [25,0,1,5] [(25,.bool ((t0.getD v2.toNat 0) !=(t1.getD v2.toNat 0))),(0,sU t0),(1,sU t1),(5,.j v2)] (by kernel_rfl) ?_);refine Yd (b:=(t0.getD v2.toNat 0) !=(t1.getD v2.toNat 0)) H rfl (fun c7 H=> ?_) (fun c7 H=> ?_)
  ·refine Y0 (OpsW.sg 1 [4] [(4,.bool false)] ?_);refine Y2 ?_;obtain rfl:=X6 H;refine AW.recast (env':=[(4,.bool false)]) (h':=[]) (StC.pure (.cons .im .nil)) (Y09 ?_)
   try simp only[Ex.t,Ex.b]
   exact Yw rfl (.tmp .nil)
  refine Ym (Ys ?_);have⟨g8,H⟩:=Y06 H;refine Yt 3 [5,0,1] [(5,.j (v2+1)),(0,sU t0),(1,sU t1)] ⟨g8,trivial⟩ (Y2 ?_);exact⟨v2+1,H,(StC.pure (.i3 .nil))⟩
 refine AW.exit<|Y0 (OpsW.sg 1 [4] [(4,.bool true)] ?_);refine Y2 ?_;obtain rfl:=X6 H;refine AW.recast (env':=[(4,.bool true)]) (h':=[]) (StC.pure (.cons .im .nil)) (Y09 ?_)
 try simp only[Ex.t,Ex.b]
 exact Yw rfl (.tmp .nil)
end Go.Proofs.YtfpcbalkioolmaaDoor
