/- Own work. -/
import Derived.Test.YtfpcbalkioolmaaDoorWA
import Derived.Test.YtfpcbalkioolmaaDoorLr15
set_option linter.unusedSimpArgs false
set_option linter.unusedVariables false
set_option maxRecDepth 100000
namespace Go.Proofs.YtfpcbalkioolmaaDoor
open Go.Abs
def f_L10_sanity:Option Bool:=
 (Y2w [(⟨(2:Int),(0:Int)⟩:Y1),(⟨(1:Int),(0:Int)⟩:Y1),(⟨(0:Int),(1:Int)⟩:Y1)]).bind fun x1=>
 (Y2w [(⟨(7:Int),(0:Int)⟩:Y1),(⟨(1:Int),(23:Int)⟩:Y1),(⟨(0:Int),(2:Int)⟩:Y1)]).bind fun x2=>
 (Y2w [(⟨(7:Int),(0:Int)⟩:Y1),(⟨(2:Int),(0:Int)⟩:Y1),(⟨(1:Int),(0:Int)⟩:Y1),(⟨(1:Int),(1:Int)⟩:Y1),(⟨(8:Int),(0:Int)⟩:Y1),(⟨(1:Int),(2:Int)⟩:Y1),(⟨(0:Int),(1:Int)⟩:Y1)]).bind fun x3=>
 (Y2w []).bind fun x4=>
 (Y4t [(48:Int),(1:Int),(44:Int)]).bind fun x5=>
 (Y4t [(60:Int),(26:Int),(1:Int)]).bind fun x6=>
 (f_R10_Nested (8:Int)).bind fun x7=>
 (Y4t x7).bind fun x8=>
 (Y4t [(48:Int),(1:Int),(0:Int),(54:Int),(0:Int),(60:Int),(26:Int)]).bind fun x9=>
 (cond (cond (cond (cond (cond (cond (cond (cond (cond (cond (cond (x1.2==(0:Int)) (x2.2==(0:Int)) false) (x3.2==(0:Int)) false) (x4.2==(90:Int)) false) (x5.2.2==(100:Int)) false) (x5.2.1==(3:Int)) false) (x6.2.2==(100:Int)) false) (x6.2.1==(2:Int)) false) (x8.2.2==(2:Int)) false) (x9.2.2==(0:Int)) false) (x9.2.1==(7:Int)) false) (Y6r x1.1 [(48:Int),(1:Int),(44:Int),(60:Int),(1:Int)]) (some false)).bind fun x10=>
 (cond (cond (cond (cond (cond (cond (cond (cond (cond (cond (cond (cond (x1.2==(0:Int)) (x2.2==(0:Int)) false) (x3.2==(0:Int)) false) (x4.2==(90:Int)) false) (x5.2.2==(100:Int)) false) (x5.2.1==(3:Int)) false) (x6.2.2==(100:Int)) false) (x6.2.1==(2:Int)) false) (x8.2.2==(2:Int)) false) (x9.2.2==(0:Int)) false) (x9.2.1==(7:Int)) false) x10 false) (Y6r x2.1 [(48:Int),(45:Int),(16:Int),(24:Int),(60:Int),(3:Int),(16:Int)]) (some false)).bind fun x11=>
 (cond (cond (cond (cond (cond (cond (cond (cond (cond (cond (cond (cond (cond (x1.2==(0:Int)) (x2.2==(0:Int)) false) (x3.2==(0:Int)) false) (x4.2==(90:Int)) false) (x5.2.2==(100:Int)) false) (x5.2.1==(3:Int)) false) (x6.2.2==(100:Int)) false) (x6.2.1==(2:Int)) false) (x8.2.2==(2:Int)) false) (x9.2.2==(0:Int)) false) (x9.2.1==(7:Int)) false) x10 false) x11 false) (Y6r x3.1 [(35:Int),(48:Int),(1:Int),(44:Int),(48:Int),(3:Int),(50:Int),(16:Int),(24:Int),(48:Int),(9:Int),(16:Int),(24:Int),(6:Int),(60:Int),(1:Int),(16:Int),(24:Int),(16:Int)]) (some false)).bind fun x12=>
 (cond (cond (cond (cond (cond (cond (cond (cond (cond (cond (cond (cond (cond (cond (x1.2==(0:Int)) (x2.2==(0:Int)) false) (x3.2==(0:Int)) false) (x4.2==(90:Int)) false) (x5.2.2==(100:Int)) false) (x5.2.1==(3:Int)) false) (x6.2.2==(100:Int)) false) (x6.2.1==(2:Int)) false) (x8.2.2==(2:Int)) false) (x9.2.2==(0:Int)) false) (x9.2.1==(7:Int)) false) x10 false) x11 false) x12 false) (Y8c x9.1 [(⟨(5:Int),(0:Int)⟩:Y1),(⟨(1:Int),(0:Int)⟩:Y1),(⟨(0:Int),(0:Int)⟩:Y1)]) (some false)).bind fun x13=>
 some (cond (cond (cond (cond (cond (cond (cond (cond (cond (cond (cond (cond (cond (cond (x1.2==(0:Int)) (x2.2==(0:Int)) false) (x3.2==(0:Int)) false) (x4.2==(90:Int)) false) (x5.2.2==(100:Int)) false) (x5.2.1==(3:Int)) false) (x6.2.2==(100:Int)) false) (x6.2.1==(2:Int)) false) (x8.2.2==(2:Int)) false) (x9.2.2==(0:Int)) false) (x9.2.1==(7:Int)) false) x10 false) x11 false) x12 false) x13 false)
def Y4x (t0:List Int):Option ((List Y1)×Bool×Bool):=
 (Y6h (⟨t0,(0:Int),false,false⟩:Y0) ([]:List Int) (1:Int) []).bind fun x1=>
 (Yv x1.2).bind fun x2=>
 cond x2 (
  some ([],false, !x1.2.Bad)) (
  some (x1.1,x1.2.At==(t0.length:Int),x1.2.At==(t0.length:Int)))
def f_R10_Read_k1 (v5:Int):Option ((List Y1)×Int×Int):=
 some ([],v5,(100:Int))
def f_R10_Read_b1 (t0:List Int) (loop8:(Int×Int)→Option ((List Y1)×Int×Int)) (v6:Int) (v7:Int):Option ((List Y1)×Int×Int):=
 cond (decide (v7≤(t0.length:Int))) (
  G (0≤v7∧v7≤(t0.length:Int))<|
  (Y4x (t0.take v7.toNat)).bind fun x11=>
  cond (!x11.2.2) (
   f_R10_Read_k1 v6) (
   G (inR (v7+(1:Int)))<|
   loop8 (v7,v7+(1:Int)))) (
  f_R10_Read_k1 v6)
def f_R10_Read (t0:List Int):Option ((List Y1)×Int×Int):=
 (Y4x t0).bind fun x1=>
 cond x1.2.1 (
  (Y4r x1.1).bind fun x3=>
  cond x3 (
   some (x1.1,(t0.length:Int),(0:Int))) (
   some ([],(0:Int),(2:Int)))) (
  iter (fun loop (s:Int×Int)=>f_R10_Read_b1 t0 loop s.1 s.2) 1000000 ((0:Int),(1:Int)))
def Y0j (x1:Bool) (x4:(List Int)×Int) (v9:List Int) (x17:List Int) (loop19:(Int)→Option Bool) (v18:Int):Option Bool:=
 cond (decide (v18<(3:Int))) (
  G (0≤v18∧v18<([x4.1,v9,x17].length:Int))<|
  (Y4t ([x4.1,v9,x17].getD v18.toNat [])).bind fun x22=>
  (f_R10_Read ([x4.1,v9,x17].getD v18.toNat [])).bind fun x23=>
  (Y8c x22.1 x23.1).bind fun x24=>
  cond (cond (cond (!x24) true (x22.2.1 !=x23.2.1)) true (x22.2.2 !=x23.2.2)) (
   some false) (
   G (inR (v18+(1:Int)))<|
   loop19 (v18+(1:Int)))) (
  some x1)
def Y25 (t1:List Int) (t2:List (List Int)) (x1:Bool) (x4:(List Int)×Int) (loop11:((List Int)×Int)→Option Bool) (v9:List Int) (v10:Int):Option Bool:=
 cond (cond (decide (v10<(t2.length:Int))) (decide (v10<(3:Int))) false) (
  G (0≤v10∧v10<(t2.length:Int))<|
  G ((v9.length:Int)≠0)<|
  G (0≤(Int.tmod (IntKind.wrap .i64 ((t2.getD v10.toNat (List.replicate 2 (0:Int))).getD 0 (0:Int))) (v9.length:Int))∧(Int.tmod (IntKind.wrap .i64 ((t2.getD v10.toNat (List.replicate 2 (0:Int))).getD 0 (0:Int))) (v9.length:Int))<(v9.length:Int))<|
  G (inR (v10+(1:Int)))<|
  loop11 (v9.set (Int.tmod (IntKind.wrap .i64 ((t2.getD v10.toNat (List.replicate 2 (0:Int))).getD 0 (0:Int))) (v9.length:Int)).toNat (Int.tmod ((t2.getD v10.toNat (List.replicate 2 (0:Int))).getD 1 (0:Int)) (64:Int)),v10+(1:Int))) (
  (f_R01_Cells t1 (14:Int)).bind fun x17=>
  iter (fun loop (s:Int)=>Y0j x1 x4 v9 x17 loop s) 1000000 (0:Int))
def Y3v (t0:List Int) (t1:List Int) (t2:List (List Int)):Option Bool:=
 (f_L10_sanity).bind fun x1=>
 (f_R09_Made t0).bind fun x2=>
 (Y2w x2).bind fun x3=>
 (f_R10_Write x2).bind fun x4=>
 (Y6r x3.1 x4.1).bind fun x5=>
 cond (cond (cond (cond (!x5) true (x3.2 !=x4.2)) true ((x4.1.length:Int)==(0:Int))) true (decide ((200:Int)<(x4.1.length:Int)))) (
  (Y6r x3.1 x4.1).bind fun x7=>
  some (cond (cond x7 (x3.2==x4.2) false) x1 false)) (
  G (room 1 (([]:List Int).length+x4.1.length))<|
  iter (fun loop (s:(List Int)×Int)=>Y25 t1 t2 x1 x4 loop s.1 s.2) 1000000 (([]:List Int)++x4.1,(0:Int)))
end Go.Proofs.YtfpcbalkioolmaaDoor
