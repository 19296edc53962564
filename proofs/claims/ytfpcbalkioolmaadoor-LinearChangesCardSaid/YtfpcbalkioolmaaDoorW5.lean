/- Own work. -/
import Derived.Test.YtfpcbalkioolmaaDoorW4
set_option linter.unusedSimpArgs false
set_option linter.unusedVariables false
set_option maxRecDepth 100000
namespace Go.Proofs.YtfpcbalkioolmaaDoor
open Go.Abs
def Y1r (t0:List Y4):Option ((List Int)×Int):=
 (Y5j t0).bind fun x1=>
 cond (!x1) (
  some ([],(90:Int))) (
  (f_linear_brackets).bind fun x3=>
  (Y5x (⟨t0,(0:Int),([]:List Int),([]:List Int),()⟩:Y3)).bind fun x4=>
  some (x4.cells_,(0:Int)))
section
variable (x4:Y3)
abbrev Z5p:Hp:=[(5040,rtA 0 33 1 (eI .u8) ([]:List Int)),(5041,rtA 0 33 1 (eI .u8) ([]:List Int))]
abbrev Z5q:Hp:=[(5040,rtA 1 33 1 (eI .u8) x4.level_),(5041,rtA 1 33 1 (eI .u8) x4.cells_)]
end
theorem Y3p{t0:List Y4}{r:(List Int)×Int}(H:Y1r t0=some r):QSpec Tryd.prog 11 [slA Y7 t0] (.tup [slA (eI .u8) r.1,.int .i64 r.2]):=by
 refine Y01 Tryd.func11 rfl (by simp[Tryd.ntmps11]) ?_;rw[Tryd.ntmps11];unfold Y1r at H;change AW _ _ _ [(0,slA Y7 t0)] [] _;refine Y0 (OpsW.sg 2 [0] [(0,slA Y7 t0)] ?_);refine Y2 (Y0g (Y0 (OpsW.sg 1 [5,0] [(5,slA Y7 t0),(0,slA Y7 t0)] ?_)));have⟨x1,hx1,H⟩:=Y0o H;refine Y1m rfl (.cons (.pur rfl) .nil) (f_formula_Valid_ok hx1) (OpsW.sg 1 [7,0] [(7,.bool (!x1)),(0,slA Y7 t0)] (Y2 (Yd (b:= !x1) H rfl (fun c2 H=> ?_) (fun c2 H=> ?_))))
 ·refine Y0 (OpsW.sg 2 [3,2] [(3,.j (90:Int)),(2,.im (.val (.slice none 0 0)))] ?_);refine Y2 ?_;obtain rfl:=X6 H;refine AW.recast (env':=[(2,sU []),(3,.j (90:Int))]) (h':=[]) (StC.pure (.cons .nil (.cons .im .nil))) (Y03 ?_)
  try simp only[Ex.t,Ex.b]
  exact Yw rfl (.tmp (.tmp .nil))
 refine Ym (Y0 (OpsW.sg 1 [8] [(8,slA Y7 t0)] ?_));have⟨x3,hx3,H⟩:=Y0o H;refine Y1m rfl .nil (f_linear_brackets_ok hx3) (OpsW.sg 1 [10] [(10,.agg [slA Y7 t0,.j (0:Int),.im (.val (.slice none 0 0)),.im (.val (.slice none 0 0)),.im (.mp (mapV Y0h))])] (OpsW.alloc' rfl rfl rfl 4 rfl (by kernel_rfl:zc Tryd.prog 58=some [.slice none 0 0,.j 0,.slice none 0 0,.slice none 0 0,.map none]) (by kernel_rfl) (Y4m rfl rfl rfl rfl trivial trivial rfl rfl rfl (by kernel_rfl) (Y0v (by kernel_rfl)) (X9 (by kernel_rfl)) ?_)));change OpsW _ _ _ _ _ [(4,⟨0,true,58,5,[slA Y7 t0,.j (0:Int),.im (.val (.slice none 0 0)),.im (.val (.slice none 0 0)),.im (.mp (mapV Y0h))]⟩),(4,⟨0,true,58,5,[.im (.val (.slice none 0 0)),.j (0:Int),.im (.val (.slice none 0 0)),.im (.val (.slice none 0 0)),.im (.val (.map none))]⟩)] _;refine OpsW.sg 0 [4] [(4,.ref 4 0 0)] (OpsW.rc [(4,.ref 4 0 0)] [(4,⟨0,true,58,5,[slA Y7 t0,.j (0:Int),.im (.val (.slice none 0 0)),.im (.val (.slice none 0 0)),.im (.mp (mapV Y0h))]⟩)] (StC.mk (phi [(4,some 4)]) (.o rfl (.i5 .nil) .nil) rfl (.cons (.r rfl) .nil)) ?_);refine Y2 (Y0 (OpsW.rc [(4,.ref 4 0 0)] ((4,⟨0,true,58,5,[slA Y7 t0,.j (0:Int),.rsl 5040 0 0 0,.rsl 5041 0 0 0,.im (.mp (mapV Y0h))]⟩)::Z5p) (StC.mk (phi [(4,some 4),(5040,none),(5041,none)]) (.o rfl (.i2 (.cons (.nilr rfl rfl rfl) (.cons (.nilr rfl rfl rfl) (.cons .im .nil)))) (.new rfl (.new rfl .nil))) rfl (.cons (.r rfl) .nil)) ?_))
 have⟨x4,hx4,H⟩:=Y0o H;refine Y16 ((4,⟨0,true,58,5,[slA Y7 t0,.j (0:Int),.rsl 5040 0 0 0,.rsl 5041 0 0 0,.im (.mp (mapV Y0h))]⟩)::Z5p) [] [(2010,⟨0,true,58,5,[slA Y7 t0,.j (0:Int),.rsl 3010 0 0 0,.rsl 3011 0 0 0,.im (.mp (mapV Y0h))]⟩),(3010,rtA 0 33 1 (eI .u8) ([]:List Int)),(3011,rtA 0 33 1 (eI .u8) ([]:List Int))] (phi [(2010,some 4),(3010,some 5040),(3011,some 5041)]) rfl (f_linear_writer_node_io hx4) (.cons (.r rfl) .nil) (.cons rfl rfl rfl rfl rfl (.i2 (.cons (.s rfl) (.cons (.s rfl) (.cons .im .nil)))) (.b (RnL.ims _) (.b (RnL.ims _) .nil))) (.tup []) ((4,⟨0,true,58,5,[slA Y7 x4.f_,.j x4.at_,.rsl 5040 1 0 x4.level_.length,.rsl 5041 1 0 x4.cells_.length,.im (.mp (mapV Y0h))]⟩)::(Z5q x4)) (phi [(4,some 2010),(5040,some 3010),(5041,some 3011)]) (.cons rfl rfl rfl rfl rfl (.i2 (.cons (.s rfl) (.cons (.s rfl) (.cons .im .nil)))) (.b (RnL.ims _) (.b (RnL.ims _) .nil))) (.tup .nil .nil) ?_;refine OpsW.sg 0 [4] [(4,.ref 4 0 0)] (OpsW.rc [(4,.ref 4 0 0)] [(4,⟨0,true,58,5,[slA Y7 x4.f_,.j x4.at_,.rsl 5040 0 0 x4.level_.length,.rsl 5041 0 0 x4.cells_.length,.im (.mp (mapV Y0h))]⟩),(5040,rtA 0 33 1 (eI .u8) x4.level_),(5041,rtA 0 33 1 (eI .u8) x4.cells_)] (StC.mk (phi [(4,some 4),(5040,some 5040),(5041,some 5041)]) (.o rfl (.i2 (.cons (.s rfl) (.cons (.s rfl) (.cons .im .nil)))) (.o rfl (CstL.ims _) (.o rfl (CstL.ims _) .nil))) rfl (.cons (.r rfl) .nil)) ?_)
 refine Y2 (Y0 (OpsW.sg 4 [3,2] [(3,.j (0:Int)),(2,.rsl 5041 0 0 x4.cells_.length)] ?_));refine OpsW.rc [(3,.j (0:Int)),(2,sU x4.cells_)] [] (StC.mk (phi []) .nil rfl (.cons .im (.cons (.frz rfl rfl rfl (frz_all (eI .u8) 1 (fun _=>rfl) x4.cells_) (Y0z (eI .u8) 1 (fun _=>rfl) x4.cells_) (phi_ne rfl)) .nil))) (Y2 ?_);obtain rfl:=X6 H;refine AW.recast (env':=[(2,sU x4.cells_),(3,.j (0:Int))]) (h':=[]) (StC.pure (.i2 .nil)) (Y03 ?_)
 try simp only[Ex.t,Ex.b]
 exact Yw rfl (.tmp (.tmp .nil))
def f_R01_Same_b1 (t0:List Int) (t1:List Int) (loop3:(Int)→Option Bool) (v2:Int):Option Bool:=
 cond (decide (v2<(t0.length:Int))) (
  G (0≤v2∧v2<(t0.length:Int))<|
  G (0≤v2∧v2<(t1.length:Int))<|
  cond ((t0.getD v2.toNat 0) !=(t1.getD v2.toNat 0)) (
   some false) (
   G (inR (v2+1))<|
   loop3 (v2+1))) (
  some true)
def Y5s (t0:List Int) (t1:List Int):Option Bool:=
 cond ((t0.length:Int) !=(t1.length:Int)) (
  some false) (
  iter (fun loop (s:Int)=>f_R01_Same_b1 t0 t1 loop s) 1000000 (0:Int))
section
variable (t0:List Int) (t1:List Int) (v2:Int)
abbrev Z76:Env:=[(19,.ipt (t0.flatMap (eI .u8)) (v2.toNat*1)),(18,.j v2),(17,sU t0),(14,.bool (decide (v2<(t0.length:Int)))),(0,sU t0),(1,sU t1),(5,.j v2)]
abbrev Z77:Env:=(23,.ipt (t1.flatMap (eI .u8)) (v2.toNat*1))::(22,.j v2)::(21,sU t1)::(20,.int .u8 (t0.getD v2.toNat 0))::(Z76 t0 t1 v2)
end
theorem f_R01_Same_ok{t0:List Int}{t1:List Int}{r:Bool}(H:Y5s t0 t1=some r):QSpec Tryd.prog 13 [slA (eI .u8) t0,slA (eI .u8) t1] (.bool r):=by
 refine Y01 Tryd.func13 rfl (by simp[Tryd.ntmps13]) ?_;rw[Tryd.ntmps13];unfold Y5s at H;change AW _ _ _ [(0,sU t0),(1,sU t1)] [] _;refine Y0 (OpsW.sg 1 [0,1] [(0,sU t0),(1,sU t1)] ?_);refine Y2 (Y0g (Y0 (OpsW.sg 5 [10,0,1] [(10,.bool ((t0.length:Int) !=(t1.length:Int))),(0,sU t0),(1,sU t1)] ?_)));refine Y2 (Yd (b:=(t0.length:Int) !=(t1.length:Int)) H rfl (fun c1 H=> ?_) (fun c1 H=> ?_))
 ·refine Y0 (OpsW.sg 1 [4] [(4,.bool false)] ?_);refine Y2 ?_;obtain rfl:=X6 H;refine AW.recast (env':=[(4,.bool false)]) (h':=[]) (StC.pure (.cons .im .nil)) (Y03 ?_)
  try simp only[Ex.t,Ex.b]
  exact Yw rfl (.tmp .nil)
 refine Ym (Y0g (Y0 (OpsW.sg 1 [5,0,1] [(5,.j (0:Int)),(0,sU t0),(1,sU t1)] ?_)));refine Y2 (Y0f ?_);refine Y4f (fun loop (s:Int)=>f_R01_Same_b1 t0 t1 loop s) r (fun(s:Int)=>[(0,sU t0),(1,sU t1),(5,.j s)]) (fun(s:Int)=>[]) ?_ 1000000 (0:Int) H (StC.pure (.i3 .nil));intro loop3 v2 H;unfold f_R01_Same_b1 at H;change AW _ _ _ [(0,sU t0),(1,sU t1),(5,.j v2)] [] _;refine Y0g (Y0 (OpsW.sg 4 [14,0,1,5] [(14,.bool (decide (v2<(t0.length:Int)))),(0,sU t0),(1,sU t1),(5,.j v2)] ?_));refine Y2 (Yd (b:=decide (v2<(t0.length:Int))) H rfl (fun c4 H=> ?_) (fun c4 H=> ?_))
 ·refine Ym (Y0g (Y0f (Y3b Tryd.checked.mixed (by kernel_rfl) ?_)));have⟨g5,H⟩:=Yx H;refine QOps.sz (N:=26) 3 (Z76 t0 t1 v2) ⟨g5,trivial⟩ (QOps.asU (.int .u8 (t0.getD v2.toNat 0)) rfl (T.load rfl trivial (by kernel_rfl) (Y5q (eI .u8) 1 (fun _=>rfl) t0 (0:Int) v2.toNat (ltN g5) (fun a=>.val (.int .u8 a)) (fun _=>rfl))) ?_);have⟨g6,H⟩:=Yx H;refine QOps.sz (N:=26) 3 (Z77 t0 t1 v2) ⟨g6,trivial⟩ (QOps.asU (.int .u8 (t1.getD v2.toNat 0)) rfl (T.load rfl trivial (by kernel_rfl) (Y5q (eI .u8) 1 (fun _=>rfl) t1 (0:Int) v2.toNat (ltN g6) (fun a=>.val (.int .u8 a)) (fun _=>rfl))) (QOps.sz (N:=26) 1 ((25,.bool ((t0.getD v2.toNat 0) !=(t1.getD v2.toNat 0)))::(24,.int .u8 (t1.getD v2.toNat 0))::(Z77 t0 t1 v2)) trivial ?_));refine QOps.nil (AW.trim [25,0,1,5] [(25,.bool ((t0.getD v2.toNat 0) !=(t1.getD v2.toNat 0))),(0,sU t0),(1,sU t1),(5,.j v2)] (by kernel_rfl) ?_);refine Yd (b:=(t0.getD v2.toNat 0) !=(t1.getD v2.toNat 0)) H rfl (fun c7 H=> ?_) (fun c7 H=> ?_)
  ·refine Y0 (OpsW.sg 1 [4] [(4,.bool false)] ?_);refine Y2 ?_;obtain rfl:=X6 H;refine AW.recast (env':=[(4,.bool false)]) (h':=[]) (StC.pure (.cons .im .nil)) (Y03 ?_)
   try simp only[Ex.t,Ex.b]
   exact Yw rfl (.tmp .nil)
  refine Ym (Yo ?_);have⟨g8,H⟩:=Yx H;refine Yq 3 [5,0,1] [(5,.j (v2+1)),(0,sU t0),(1,sU t1)] ⟨g8,trivial⟩ (Y2 ?_);exact⟨v2+1,H,(StC.pure (.i3 .nil))⟩
 refine AW.exit<|Y0 (OpsW.sg 1 [4] [(4,.bool true)] ?_);refine Y2 ?_;obtain rfl:=X6 H;refine AW.recast (env':=[(4,.bool true)]) (h':=[]) (StC.pure (.cons .im .nil)) (Y03 ?_)
 try simp only[Ex.t,Ex.b]
 exact Yw rfl (.tmp .nil)
def Y60 (t0:List Int) (t1:Int) (loop3:((List Int)×Int)→Option (List Int)) (v1:List Int) (v2:Int):Option (List Int):=
 cond (cond (decide (v2<(t0.length:Int))) (decide (v2<t1)) false) (
  G (0≤v2∧v2<(t0.length:Int))<|
  G (room 1 (v1.length+1))<|
  G (inR (v2+1))<|
  loop3 (v1++[Int.tmod (t0.getD v2.toNat 0) (64:Int)],v2+1)) (
  some v1)
def f_R01_Cells (t0:List Int) (t1:Int):Option (List Int):=
 iter (fun loop (s:(List Int)×Int)=>Y60 t0 t1 loop s.1 s.2) 1000000 (([]:List Int),(0:Int))
section
variable (t0:List Int) (t1:Int) (v1:List Int) (v2:Int)
abbrev Z79:=(v1++[Int.tmod (t0.getD v2.toNat 0) (64:Int)])
abbrev Z78:Env:=[(0,sU t0),(1,.j t1),(5,.rsl 5 0 0 v1.length),(6,.j v2)]
end
theorem f_R01_Cells_ok{t0:List Int}{t1:Int}{r:List Int}(H:f_R01_Cells t0 t1=some r):QSpec Tryd.prog 14 [slA (eI .u8) t0,.int .i64 t1] (slA (eI .u8) r):=by
 refine Y01 Tryd.func14 rfl (by simp[Tryd.ntmps14]) ?_;rw[Tryd.ntmps14];unfold f_R01_Cells at H;change AW _ _ _ [(0,sU t0),(1,.j t1)] [] _;refine Y0 (OpsW.sg 1 [0,1] [(0,sU t0),(1,.j t1)] ?_);refine Y2 (Y0 (Y5m (enc:=eI .u8) ([]:List Int) rfl rfl rfl 7 rfl E28 (fun _=>rfl) (by decide) trivial (by kernel_rfl) (by kernel_rfl) (by kernel_rfl) rfl ?_));refine OpsW.sg 1 [5,0,1] [(5,.rsl 7 0 0 (([]:List Int).length)),(0,sU t0),(1,.j t1)] (OpsW.rc [(5,.rsl 5 0 0 (([]:List Int).length)),(0,sU t0),(1,.j t1)] [(5,rtA 0 33 1 (eI .u8) ([]:List Int))] (StC.mk (phi [(5,some 7)]) (.o rfl (CstL.ims _) .nil) rfl (.cons (.s rfl) (.i2 .nil))) ?_);refine Y2 (Y0g (Y0 (OpsW.sg 1 [6,5,0,1] [(6,.j (0:Int)),(5,.rsl 5 0 0 (([]:List Int).length)),(0,sU t0),(1,.j t1)] ?_)));refine Y2 (Y0f ?_);refine Y4f (fun loop (s:(List Int)×Int)=>Y60 t0 t1 loop s.1 s.2) r (fun(s:(List Int)×Int)=>[(0,sU t0),(1,.j t1),(5,.rsl 5 0 0 s.1.length),(6,.j s.2)]) (fun(s:(List Int)×Int)=>[(5,rtA 0 33 1 (eI .u8) s.1)]) ?_ 1000000 (([]:List Int),(0:Int)) H (StC.mk (phi [(5,some 5)]) (.o rfl (CstL.ims _) .nil) rfl (.i2 (.cons (.s rfl) (.cons .im .nil))));intro loop3 s H;have⟨v1,v2⟩:=s;unfold Y60 at H;change AW _ _ _ (Z78 t0 t1 v1 v2) [(5,rtA 0 33 1 (eI .u8) v1)] _
 refine Y0g (Y0 (Yq 9 [16,0,1,5,6] ((16,.bool (cond (decide (v2<(t0.length:Int))) (decide (v2<t1)) false))::(Z78 t0 t1 v1 v2)) ⟨(fun h=>h),(fun h=>h),(fun h=>by first|exact h|(simpa using h)|grind),trivial⟩ ?_));refine Y2 (Yd (b:=cond (decide (v2<(t0.length:Int))) (decide (v2<t1)) false) H rfl (fun c4 H=> ?_) (fun c4 H=> ?_))
 ·refine Ym (Y0g (Y0f (Yo ?_)));have⟨g5,H⟩:=Yx H;refine Yq 4 [22,19,0,1,5,6] ((22,.ipt (t0.flatMap (eI .u8)) (v2.toNat*1))::(19,.rsl 5 0 0 v1.length)::(Z78 t0 t1 v1 v2)) ⟨g5,trivial⟩ (OpsW.asU (.int .u8 (t0.getD v2.toNat 0)) rfl rfl (T.load rfl trivial (by kernel_rfl) (Y5q (eI .u8) 1 (fun _=>rfl) t0 (0:Int) v2.toNat (ltN g5) (fun a=>.val (.int .u8 a)) (fun _=>rfl))) (Yq 1 [24,19,0,1,5,6] ((24,.int .u8 (Int.tmod (t0.getD v2.toNat 0) (64:Int)))::(19,.rsl 5 0 0 v1.length)::(Z78 t0 t1 v1 v2)) ⟨(by decide),trivial⟩ ?_));have⟨g6,H⟩:=Yx H;refine Y4x (enc:=eI .u8) [Int.tmod (t0.getD v2.toNat 0) (64:Int)] rfl rfl rfl (by decide) rfl rfl rfl (by simp) E28 (fun _=>rfl) (by decide) trivial (by kernel_rfl) (by kernel_rfl) (by kernel_rfl) rfl rfl rfl g6 (OpsW.sg 1 [5,0,1,6] [(5,.rsl 5 1 0 ((Z79 t0 v1 v2).length)),(0,sU t0),(1,.j t1),(6,.j v2)] (OpsW.rc [(5,.rsl 5 0 0 ((Z79 t0 v1 v2).length)),(0,sU t0),(1,.j t1),(6,.j v2)] [(5,rtA 0 33 1 (eI .u8) (Z79 t0 v1 v2))] (StC.mk (phi [(5,some 5)]) (.o rfl (CstL.ims _) .nil) rfl (.cons (.s rfl) (.i3 .nil))) ?_));refine Y2 (Yo ?_);have⟨g7,H⟩:=Yx H;refine Yq 3 [6,5,0,1] [(6,.j (v2+1)),(5,.rsl 5 0 0 ((Z79 t0 v1 v2).length)),(0,sU t0),(1,.j t1)] ⟨g7,trivial⟩ (Y2 ?_);exact⟨(v1++[Int.tmod (t0.getD v2.toNat 0) (64:Int)],v2+1),H,(StC.mk (phi [(5,some 5)]) (.o rfl (CstL.ims _) .nil) rfl (.i2 (.cons (.s rfl) (.cons .im .nil))))⟩
 refine AW.exit<|Y0 (OpsW.sg 2 [4] [(4,.rsl 5 0 0 v1.length)] ?_);refine OpsW.rc [(4,sU v1)] [] (StC.mk (phi []) .nil rfl (.cons (.frz rfl rfl rfl (frz_all (eI .u8) 1 (fun _=>rfl) v1) (Y0z (eI .u8) 1 (fun _=>rfl) v1) (phi_ne rfl)) .nil)) (Y2 ?_);obtain rfl:=X6 H;refine AW.recast (env':=[(4,sU v1)]) (h':=[]) (StC.pure (.cons .im .nil)) (Y03 ?_)
 try simp only[Ex.t,Ex.b]
 exact Yw rfl (.tmp .nil)
def f_R09_Same_b1 (t0:List Y4) (t1:List Y4) (loop3:(Int)→Option Bool) (v2:Int):Option Bool:=
 cond (decide (v2<(t0.length:Int))) (
  G (0≤v2∧v2<(t0.length:Int))<|
  G (0≤v2∧v2<(t1.length:Int))<|
  cond (xor true ([((t0.getD v2.toNat Yl).Op)==((t1.getD v2.toNat Yl).Op),((t0.getD v2.toNat Yl).N)==((t1.getD v2.toNat Yl).N)].all id)) (
   some false) (
   G (inR (v2+1))<|
   loop3 (v2+1))) (
  some true)
def f_R09_Same (t0:List Y4) (t1:List Y4):Option Bool:=
 cond ((t0.length:Int) !=(t1.length:Int)) (
  some false) (
  iter (fun loop (s:Int)=>f_R09_Same_b1 t0 t1 loop s) 1000000 (0:Int))
section
variable (t0:List Y4) (t1:List Y4) (v2:Int)
abbrev Z7o:=[((t0.getD v2.toNat Yl).Op)==((t1.getD v2.toNat Yl).Op),((t0.getD v2.toNat Yl).N)==((t1.getD v2.toNat Yl).N)].all id
abbrev Z7p:=t0.getD v2.toNat Yl
abbrev Z7q:=t1.getD v2.toNat Yl
abbrev Z7l:Env:=[(19,.ipt (t0.flatMap Y7) (v2.toNat*2)),(18,.j v2),(17,slA Y7 t0),(14,.bool (decide (v2<(t0.length:Int)))),(0,slA Y7 t0),(1,slA Y7 t1),(5,.j v2)]
abbrev Z7m:Env:=[(0,slA Y7 t0),(1,slA Y7 t1)]
abbrev Z7n:Env:=[(0,slA Y7 t0),(1,slA Y7 t1),(5,.j v2)]
end
theorem f_R09_Same_ok{t0:List Y4}{t1:List Y4}{r:Bool}(H:f_R09_Same t0 t1=some r):QSpec Tryd.prog 17 [slA Y7 t0,slA Y7 t1] (.bool r):=by
 refine Y01 Tryd.func17 rfl (by simp[Tryd.ntmps17]) ?_;rw[Tryd.ntmps17];unfold f_R09_Same at H;change AW _ _ _ (Z7m t0 t1) [] _;refine Y0 (OpsW.sg 1 [0,1] (Z7m t0 t1) ?_);refine Y2 (Y0g (Y0 (OpsW.sg 5 [10,0,1] ((10,.bool ((t0.length:Int) !=(t1.length:Int)))::(Z7m t0 t1)) ?_)));refine Y2 (Yd (b:=(t0.length:Int) !=(t1.length:Int)) H rfl (fun c1 H=> ?_) (fun c1 H=> ?_))
 ·refine Y0 (OpsW.sg 1 [4] [(4,.bool false)] ?_);refine Y2 ?_;obtain rfl:=X6 H;refine AW.recast (env':=[(4,.bool false)]) (h':=[]) (StC.pure (.cons .im .nil)) (Y03 ?_)
  try simp only[Ex.t,Ex.b]
  exact Yw rfl (.tmp .nil)
 refine Ym (Y0g (Y0 (OpsW.sg 1 [5,0,1] ((5,.j (0:Int))::(Z7m t0 t1)) ?_)));refine Y2 (Y0f ?_);refine Y4f (fun loop (s:Int)=>f_R09_Same_b1 t0 t1 loop s) r (fun(s:Int)=>[(0,slA Y7 t0),(1,slA Y7 t1),(5,.j s)]) (fun(s:Int)=>[]) ?_ 1000000 (0:Int) H (StC.pure (.i3 .nil));intro loop3 v2 H;unfold f_R09_Same_b1 at H;change AW _ _ _ (Z7n t0 t1 v2) [] _;refine Y0g (Y0 (OpsW.sg 4 [14,0,1,5] ((14,.bool (decide (v2<(t0.length:Int))))::(Z7n t0 t1 v2)) ?_));refine Y2 (Yd (b:=decide (v2<(t0.length:Int))) H rfl (fun c4 H=> ?_) (fun c4 H=> ?_))
 ·refine Ym (Y0g (Y0f (Y3b Tryd.checked.mixed (by kernel_rfl) ?_)));have⟨g5,H⟩:=Yx H;refine QOps.sz (N:=26) 3 (Z7l t0 t1 v2) ⟨g5,trivial⟩ (QOps.asU (.agg [.j ((Z7p t0 v2).Op),.j ((Z7p t0 v2).N)]) rfl (T.loadAgg (cs:=t0.flatMap Y7) (off:=v2.toNat*2) (ds:=Y7 (Z7p t0 v2)) rfl trivial (by kernel_rfl) (by have:=Y0z Y7 2 (fun _=>rfl) t0;have:=(ltN g5);first|omega|(simp only[Z7p] at*;omega)) (fm_elem Y7 2 (fun _=>rfl) t0 Yl v2.toNat (ltN g5))) ?_);have⟨g6,H⟩:=Yx H;refine QOps.sz (N:=26) 3 ((23,.ipt (t1.flatMap Y7) (v2.toNat*2))::(22,.j v2)::(21,slA Y7 t1)::(20,.agg [.j ((Z7p t0 v2).Op),.j ((Z7p t0 v2).N)])::(Z7l t0 t1 v2)) ⟨g6,trivial⟩ (QOps.asU (.agg [.j ((Z7q t1 v2).Op),.j ((Z7q t1 v2).N)]) rfl (T.loadAgg (cs:=t1.flatMap Y7) (off:=v2.toNat*2) (ds:=Y7 (Z7q t1 v2)) rfl trivial (by kernel_rfl) (by have:=Y0z Y7 2 (fun _=>rfl) t1;have:=(ltN g6);first|omega|(simp only[Z7o,Z7p,Z7q] at*;omega)) (fm_elem Y7 2 (fun _=>rfl) t1 Yl v2.toNat (ltN g6))) (QOps.quietU (.bool (xor true (Z7o t0 t1 v2))) rfl (Quiet.eqAgg [.j ((Z7p t0 v2).Op),.j ((Z7p t0 v2).N)] [.j ((Z7q t1 v2).Op),.j ((Z7q t1 v2).N)] [((Z7p t0 v2).Op)==((Z7q t1 v2).Op),((Z7p t0 v2).N)==((Z7q t1 v2).N)] true rfl rfl (by kernel_rfl) (by kernel_rfl) (gpoU rfl ⟨trivial,rfl,trivial,rfl⟩)) ?_));refine QOps.nil (AW.trim [25,0,1,5] ((25,.bool (xor true (Z7o t0 t1 v2)))::(Z7n t0 t1 v2)) (by kernel_rfl) ?_)
  refine Yd (b:=xor true (Z7o t0 t1 v2)) H rfl (fun c7 H=> ?_) (fun c7 H=> ?_)
  ·refine Y0 (OpsW.sg 1 [4] [(4,.bool false)] ?_);refine Y2 ?_;obtain rfl:=X6 H;refine AW.recast (env':=[(4,.bool false)]) (h':=[]) (StC.pure (.cons .im .nil)) (Y03 ?_)
   try simp only[Ex.t,Ex.b]
   exact Yw rfl (.tmp .nil)
  refine Ym (Yo ?_);have⟨g8,H⟩:=Yx H;refine Yq 3 [5,0,1] ((5,.j (v2+1))::(Z7m t0 t1)) ⟨g8,trivial⟩ (Y2 ?_);exact⟨v2+1,H,(StC.pure (.i3 .nil))⟩
 refine AW.exit<|Y0 (OpsW.sg 1 [4] [(4,.bool true)] ?_);refine Y2 ?_;obtain rfl:=X6 H;refine AW.recast (env':=[(4,.bool true)]) (h':=[]) (StC.pure (.cons .im .nil)) (Y03 ?_)
 try simp only[Ex.t,Ex.b]
 exact Yw rfl (.tmp .nil)
end Go.Proofs.YtfpcbalkioolmaaDoor
