/- Own work. -/
import Derived.Test.YtfpcbalkioolmaaDoorLibA
import Derived.Test.YtfpcbalkioolmaaDoorChecked
import Derived.Test.YtfpcbalkioolmaaDoorBrk
set_option linter.unusedSimpArgs false
set_option linter.unusedVariables false
set_option maxRecDepth 100000
namespace Go.Proofs.YtfpcbalkioolmaaDoor
open Go.Abs
def eA34 (x:List Int):List IV:=[.val (.int .u8 (x.getD 0 (0:Int))),.val (.int .u8 (x.getD 1 (0:Int)))]
structure Y1 where
 Op:Int
 N:Int
 deriving DecidableEq
def eS_Node (x:Y1):List IV:=[.val (.int .i64 x.Op),.val (.int .i64 x.N)]
def Yh:Y1:=⟨(0:Int),(0:Int)⟩
structure Y0 where
 L:List Int
 At:Int
 Short:Bool
 Bad:Bool
 deriving DecidableEq
def eS_reader (x:Y0):List IV:=[.sl (x.L.flatMap (eI .u8)) x.L.length,.val (.int .i64 x.At),.val (.bool x.Short),.val (.bool x.Bad)]
def zS_reader:Y0:=⟨[],(0:Int),false,false⟩
structure Y3 where
 f_:List Y1
 at_:Int
 level_:List Int
 cells_:List Int
 brackets_:Unit
 deriving DecidableEq
def eS_writer (x:Y3):List IV:=[.sl (x.f_.flatMap eS_Node) x.f_.length,.val (.int .i64 x.at_),.sl (x.level_.flatMap (eI .u8)) x.level_.length,.sl (x.cells_.flatMap (eI .u8)) x.cells_.length,.mp (mapV Y57)]
def zS_writer:Y3:=⟨[],(0:Int),[],[],()⟩
structure Yb where
 B:List Int
 At:Int
 deriving DecidableEq
def eS_maker (x:Yb):List IV:=[.sl (x.B.flatMap (eI .u8)) x.B.length,.val (.int .i64 x.At)]
def zS_maker:Yb:=⟨[],(0:Int)⟩
def f_formula_arity_k1:Option (Int×Bool):=
 some ((0:Int),false)
def Y52 (t0:Y1) (v5:Bool):Option (Int×Bool):=
 cond v5 (
  some ((1:Int),t0.N==(0:Int))) (
  cond (t0.Op==(12:Int)) (
   cond (cond (decide (t0.N<(2:Int))) true (decide ((5:Int)<t0.N))) (
    some ((0:Int),false)) (
    G (inR (t0.N+(1:Int)))<|
    some (t0.N+(1:Int),true))) (
   cond (t0.Op==(13:Int)) (
    cond (decide (t0.N<(0:Int))) (
     some ((0:Int),false)) (
     G (inR (Int.tdiv t0.N (8:Int)))<|
     G (inR ((Int.tdiv t0.N (8:Int))*(Int.tmod t0.N (8:Int))))<|
     some ((Int.tdiv t0.N (8:Int))*(Int.tmod t0.N (8:Int)),cond (cond (cond (decide ((1:Int)≤(Int.tdiv t0.N (8:Int)))) (decide ((Int.tdiv t0.N (8:Int))≤(4:Int))) false) (decide ((1:Int)≤(Int.tmod t0.N (8:Int)))) false) (decide ((Int.tmod t0.N (8:Int))≤(4:Int))) false))) (
    f_formula_arity_k1)))
def Y26 (t0:Y1) (v3:Bool):Option (Int×Bool):=
 cond v3 (
  some ((2:Int),t0.N==(0:Int))) (
  cond (t0.Op==(9:Int)) (
   Y52 t0 (t0.Op==(9:Int))) (
   cond (t0.Op==(10:Int)) (
    Y52 t0 (t0.Op==(10:Int))) (
    Y52 t0 (t0.Op==(11:Int)))))
def Y50 (t0:Y1):Option (Int×Bool):=
 cond (t0.Op==(0:Int)) (
  some ((0:Int),cond (decide ((0:Int)≤t0.N)) (decide (t0.N≤(99999:Int))) false)) (
  cond (t0.Op==(1:Int)) (
   some ((0:Int),cond (decide ((0:Int)≤t0.N)) (decide (t0.N≤(25:Int))) false)) (
   cond (t0.Op==(2:Int)) (
    Y26 t0 (t0.Op==(2:Int))) (
    cond (t0.Op==(3:Int)) (
     Y26 t0 (t0.Op==(3:Int))) (
     cond (t0.Op==(4:Int)) (
      Y26 t0 (t0.Op==(4:Int))) (
      cond (t0.Op==(5:Int)) (
       Y26 t0 (t0.Op==(5:Int))) (
       cond (t0.Op==(6:Int)) (
        Y26 t0 (t0.Op==(6:Int))) (
        cond (t0.Op==(7:Int)) (
         Y26 t0 (t0.Op==(7:Int))) (
         Y26 t0 (t0.Op==(8:Int))))))))))
def f_formula_precedence_k1:Option Int:=
 some (4:Int)
def Y6w (t0:Int) (v2:Bool):Option Int:=
 cond v2 (
  some (2:Int)) (
  cond (t0==(4:Int)) (
   some (3:Int)) (
   f_formula_precedence_k1))
def Y20 (t0:Int):Option Int:=
 cond (t0==(5:Int)) (
  some (1:Int)) (
  cond (t0==(2:Int)) (
   Y6w t0 (t0==(2:Int))) (
   Y6w t0 (t0==(3:Int))))
def f_formula_admits_k1:Option Bool:=
 some true
def Y5m (t0:Y1) (t1:Int) (t2:Y1) (v1:Bool):Option Bool:=
 cond v1 (
  cond (t1==(0:Int)) (
   (Y20 t2.Op).bind fun x4=>
   (Y20 t0.Op).bind fun x5=>
   some (decide (x5≤x4))) (
   (Y20 t2.Op).bind fun x6=>
   (Y20 t0.Op).bind fun x7=>
   some (decide (x7<x6)))) (
  cond (t0.Op==(12:Int)) (
   some (t2.Op==(0:Int))) (
   f_formula_admits_k1))
def Y5z (t0:Y1) (t1:Int) (t2:Y1):Option Bool:=
 cond (t0.Op==(2:Int)) (
  Y5m t0 t1 t2 (t0.Op==(2:Int))) (
  cond (t0.Op==(3:Int)) (
   Y5m t0 t1 t2 (t0.Op==(3:Int))) (
   cond (t0.Op==(4:Int)) (
    Y5m t0 t1 t2 (t0.Op==(4:Int))) (
    Y5m t0 t1 t2 (t0.Op==(5:Int)))))
def Y1v (ra0:(List Y1)→Int→Option (Int×Int×Bool)) (t0:List Y1) (t1:Int) (x3:Int×Bool) (loop9:(Int×Int×Int)→Option (Int×Int×Bool)) (v6:Int) (v7:Int) (v8:Int):Option (Int×Int×Bool):=
 cond (decide (v8<x3.1)) (
  G ((!(decide ((t0.length:Int)≤v6)))=true→(0≤v6∧v6<(t0.length:Int)))<|
  (cond (!(decide ((t0.length:Int)≤v6))) (Y5z (t0.getD t1.toNat Yh) v8 (t0.getD v6.toNat Yh)) (some false)).bind fun x12=>
  cond (cond (decide ((t0.length:Int)≤v6)) true (!x12)) (
   some ((0:Int),(0:Int),false)) (
   (ra0 t0 v6).bind fun x14=>
   cond (!x14.2.2) (
    some ((0:Int),(0:Int),false)) (
    G (inR (x14.2.1+(1:Int)))<|
    G (inR (v8+(1:Int)))<|
    loop9 (x14.1,(if(x14.2.1+(1:Int))>v7 then(x14.2.1+(1:Int)) else v7),v8+(1:Int))))) (
  some (v6,v7,true))
def Y7b (ra0:(List Y1)→Int→Option (Int×Int×Bool)) (t0:List Y1) (t1:Int):Option (Int×Int×Bool):=
 cond (decide ((t0.length:Int)≤t1)) (
  some ((0:Int),(0:Int),false)) (
  G (0≤t1∧t1<(t0.length:Int))<|
  (Y50 (t0.getD t1.toNat Yh)).bind fun x3=>
  cond (!x3.2) (
   some ((0:Int),(0:Int),false)) (
   G (inR (t1+(1:Int)))<|
   iter (fun loop (s:Int×Int×Int)=>Y1v ra0 t0 t1 x3 loop s.1 s.2.1 s.2.2) 1000000 (t1+(1:Int),(1:Int),(0:Int))))
def Y1u:Nat→(List Y1)→Int→Option (Int×Int×Bool)
 |0,_,_=>none
 |n+1,t0,t1=>Y7b (Y1u n) t0 t1
def Y6n (t0:List Y1) (t1:Int):Option (Int×Int×Bool):=Y1u 1000000 t0 t1
def Y7t (t0:List Y1):Option Int:=
 cond (decide ((60:Int)<(t0.length:Int))) (
  some (0:Int)) (
  (Y6n t0 (0:Int)).bind fun x2=>
  cond (cond (cond (!x2.2.2) true (x2.1 !=(t0.length:Int))) true (decide ((8:Int)<x2.2.1))) (
   some (0:Int)) (
   some x2.2.1))
def Y6o (t0:List Y1):Option Bool:=
 (Y7t t0).bind fun x1=>
 some (decide ((0:Int)<x1))
def Y88 (t0:Int):Option (List Int):=
 cond (t0==(2:Int)) (
  some [(44:Int)]) (
  cond (t0==(3:Int)) (
   some [(36:Int)]) (
   cond (t0==(4:Int)) (
    some [(33:Int)]) (
    some [(0:Int),(54:Int),(0:Int)])))
def f_linear_simple_k1:Option Bool:=
 some false
def Y36 (v1:Bool):Option Bool:=
 cond v1 (
  some true) (
  f_linear_simple_k1)
def Y7s (t0:Int):Option Bool:=
 cond (t0==(0:Int)) (
  Y36 (t0==(0:Int))) (
  cond (t0==(1:Int)) (
   Y36 (t0==(1:Int))) (
   cond (t0==(6:Int)) (
    Y36 (t0==(6:Int))) (
    cond (t0==(9:Int)) (
     Y36 (t0==(9:Int))) (
     cond (t0==(10:Int)) (
      Y36 (t0==(10:Int))) (
      cond (t0==(11:Int)) (
       Y36 (t0==(11:Int))) (
       cond (t0==(12:Int)) (
        Y36 (t0==(12:Int))) (
        Y36 (t0==(13:Int)))))))))
def Y5g (t0:Int):Option Int:=
 cond (t0==(7:Int)) (
  some (24:Int)) (
  some (6:Int))
def Y00 (t0:Y3) (t1:List Int):Option Y3:=
 G (room 1 (t0.cells_.length+t1.length))<|
 some (⟨t0.f_,t0.at_,t0.level_,t0.cells_++t1,()⟩:Y3)
def Y34 (t1:Int) (v1:Y3):Option Y3:=
 G (inR ((Int.tmod t1 (10:Int))+(9:Int)))<|
 G (0≤(Int.tmod ((Int.tmod t1 (10:Int))+(9:Int)) (10:Int))∧(Int.tmod ((Int.tmod t1 (10:Int))+(9:Int)) (10:Int))<(26:Int))<|
 (Y00 (⟨v1.f_,v1.at_,v1.level_,v1.cells_,()⟩:Y3) [Y8.getD (Int.tmod ((Int.tmod t1 (10:Int))+(9:Int)) (10:Int)).toNat (0:Int)]).bind fun x4=>
 some (⟨x4.f_,x4.at_,x4.level_,x4.cells_,()⟩:Y3)
def Y46 (ra1:Y3→Int→Option Y3) (t0:Y3) (t1:Int):Option Y3:=
 cond (decide ((10:Int)≤t1)) (
  G (inR (Int.tdiv t1 (10:Int)))<|
  (ra1 (⟨t0.f_,t0.at_,t0.level_,t0.cells_,()⟩:Y3) (Int.tdiv t1 (10:Int))).bind fun x7=>
  Y34 t1 (⟨x7.f_,x7.at_,x7.level_,x7.cells_,()⟩:Y3)) (
  Y34 t1 (⟨t0.f_,t0.at_,t0.level_,t0.cells_,()⟩:Y3))
def Y1g:Nat→Y3→Int→Option Y3
 |0,_,_=>none
 |n+1,t0,t1=>Y46 (Y1g n) t0 t1
def Y5q (t0:Y3) (t1:Int):Option Y3:=Y1g 1000000 t0 t1
def Y0r (t0:Y3):Option Y3:=
 G (room 1 (t0.cells_.length+t0.level_.length))<|
 some (⟨t0.f_,t0.at_,t0.level_,t0.cells_++t0.level_,()⟩:Y3)
def Y3u (ra2:Y3→Int→Option Y3) (ra3:Y3→Y1→Int→Option Y3) (t0:Y3) (v16:Y3) (v17:Bool):Option Y3:=
 cond v17 (
  (ra2 (⟨v16.f_,v16.at_,v16.level_,v16.cells_,()⟩:Y3) ((t0.f_.getD t0.at_.toNat Yh).Op)).bind fun x19=>
  some (⟨x19.f_,x19.at_,x19.level_,x19.cells_,()⟩:Y3)) (
  cond (((t0.f_.getD t0.at_.toNat Yh).Op)==(12:Int)) (
   G (inR (((t0.f_.getD t0.at_.toNat Yh).N)+(1:Int)))<|
   (ra3 (⟨v16.f_,v16.at_,v16.level_,v16.cells_,()⟩:Y3) (t0.f_.getD t0.at_.toNat Yh) (((t0.f_.getD t0.at_.toNat Yh).N)+(1:Int))).bind fun x22=>
   some (⟨x22.f_,x22.at_,x22.level_,x22.cells_,()⟩:Y3)) (
   cond (((t0.f_.getD t0.at_.toNat Yh).Op)==(13:Int)) (
    G (inR (Int.tdiv ((t0.f_.getD t0.at_.toNat Yh).N) (8:Int)))<|
    G (inR ((Int.tdiv ((t0.f_.getD t0.at_.toNat Yh).N) (8:Int))*(Int.tmod ((t0.f_.getD t0.at_.toNat Yh).N) (8:Int))))<|
    (ra3 (⟨v16.f_,v16.at_,v16.level_,v16.cells_,()⟩:Y3) (t0.f_.getD t0.at_.toNat Yh) ((Int.tdiv ((t0.f_.getD t0.at_.toNat Yh).N) (8:Int))*(Int.tmod ((t0.f_.getD t0.at_.toNat Yh).N) (8:Int)))).bind fun x26=>
    some (⟨x26.f_,x26.at_,x26.level_,x26.cells_,()⟩:Y3)) (
    cond (((t0.f_.getD t0.at_.toNat Yh).Op)==(6:Int)) (
     (ra3 (⟨v16.f_,v16.at_,v16.level_,v16.cells_,()⟩:Y3) (t0.f_.getD t0.at_.toNat Yh) (2:Int)).bind fun x28=>
     some (⟨x28.f_,x28.at_,x28.level_,x28.cells_,()⟩:Y3)) (
     (ra3 (⟨v16.f_,v16.at_,v16.level_,v16.cells_,()⟩:Y3) (t0.f_.getD t0.at_.toNat Yh) (1:Int)).bind fun x29=>
     some (⟨x29.f_,x29.at_,x29.level_,x29.cells_,()⟩:Y3)))))
def Y1y (ra4:Y3→Option Y3) (ra2:Y3→Int→Option Y3) (ra3:Y3→Y1→Int→Option Y3) (t0:Y3) (v9:Y3) (v10:Bool):Option Y3:=
 cond v10 (
  (ra4 (⟨v9.f_,v9.at_,v9.level_,v9.cells_,()⟩:Y3)).bind fun x12=>
  (Y88 ((t0.f_.getD t0.at_.toNat Yh).Op)).bind fun x13=>
  (Y00 (⟨x12.f_,x12.at_,x12.level_,x12.cells_,()⟩:Y3) x13).bind fun x14=>
  (ra4 (⟨x14.f_,x14.at_,x14.level_,x14.cells_,()⟩:Y3)).bind fun x15=>
  some (⟨x15.f_,x15.at_,x15.level_,x15.cells_,()⟩:Y3)) (
  cond (((t0.f_.getD t0.at_.toNat Yh).Op)==(7:Int)) (
   Y3u ra2 ra3 t0 (⟨v9.f_,v9.at_,v9.level_,v9.cells_,()⟩:Y3) (((t0.f_.getD t0.at_.toNat Yh).Op)==(7:Int))) (
   Y3u ra2 ra3 t0 (⟨v9.f_,v9.at_,v9.level_,v9.cells_,()⟩:Y3) (((t0.f_.getD t0.at_.toNat Yh).Op)==(8:Int))))
def Y4s (ra4:Y3→Option Y3) (ra2:Y3→Int→Option Y3) (ra3:Y3→Y1→Int→Option Y3) (t0:Y3):Option Y3:=
 G (0≤t0.at_∧t0.at_<(t0.f_.length:Int))<|
 G (inR (t0.at_+(1:Int)))<|
 cond (((t0.f_.getD t0.at_.toNat Yh).Op)==(0:Int)) (
  (Y00 (⟨t0.f_,t0.at_+(1:Int),t0.level_,t0.cells_,()⟩:Y3) [(60:Int)]).bind fun x4=>
  (Y5q (⟨x4.f_,x4.at_,x4.level_,x4.cells_,()⟩:Y3) ((t0.f_.getD t0.at_.toNat Yh).N)).bind fun x5=>
  some (⟨x5.f_,x5.at_,x5.level_,x5.cells_,()⟩:Y3)) (
  cond (((t0.f_.getD t0.at_.toNat Yh).Op)==(1:Int)) (
   G (0≤((t0.f_.getD t0.at_.toNat Yh).N)∧((t0.f_.getD t0.at_.toNat Yh).N)<(26:Int))<|
   (Y00 (⟨t0.f_,t0.at_+(1:Int),t0.level_,t0.cells_,()⟩:Y3) [(48:Int),Y8.getD ((t0.f_.getD t0.at_.toNat Yh).N).toNat (0:Int)]).bind fun x8=>
   some (⟨x8.f_,x8.at_,x8.level_,x8.cells_,()⟩:Y3)) (
   cond (((t0.f_.getD t0.at_.toNat Yh).Op)==(2:Int)) (
    Y1y ra4 ra2 ra3 t0 (⟨t0.f_,t0.at_+(1:Int),t0.level_,t0.cells_,()⟩:Y3) (((t0.f_.getD t0.at_.toNat Yh).Op)==(2:Int))) (
    cond (((t0.f_.getD t0.at_.toNat Yh).Op)==(3:Int)) (
     Y1y ra4 ra2 ra3 t0 (⟨t0.f_,t0.at_+(1:Int),t0.level_,t0.cells_,()⟩:Y3) (((t0.f_.getD t0.at_.toNat Yh).Op)==(3:Int))) (
     cond (((t0.f_.getD t0.at_.toNat Yh).Op)==(4:Int)) (
      Y1y ra4 ra2 ra3 t0 (⟨t0.f_,t0.at_+(1:Int),t0.level_,t0.cells_,()⟩:Y3) (((t0.f_.getD t0.at_.toNat Yh).Op)==(4:Int))) (
      Y1y ra4 ra2 ra3 t0 (⟨t0.f_,t0.at_+(1:Int),t0.level_,t0.cells_,()⟩:Y3) (((t0.f_.getD t0.at_.toNat Yh).Op)==(5:Int)))))))
def Y3e (ra4:Y3→Option Y3) (t1:Int) (v1:Y3):Option Y3:=
 (Y5g t1).bind fun x2=>
 G (room 1 (v1.level_.length+[x2].length))<|
 (Y00 (⟨v1.f_,v1.at_,v1.level_++[x2],v1.cells_,()⟩:Y3) [(16:Int)]).bind fun x4=>
 (Y0r (⟨x4.f_,x4.at_,x4.level_,x4.cells_,()⟩:Y3)).bind fun x5=>
 (ra4 (⟨x5.f_,x5.at_,x5.level_,x5.cells_,()⟩:Y3)).bind fun x6=>
 G (inR ((x6.level_.length:Int)-(1:Int)))<|
 G (0≤((x6.level_.length:Int)-(1:Int))∧((x6.level_.length:Int)-(1:Int))≤(x6.level_.length:Int))<|
 (Y00 (⟨x6.f_,x6.at_,x6.level_.take (((x6.level_.length:Int)-(1:Int)).toNat),x6.cells_,()⟩:Y3) [(16:Int)]).bind fun x9=>
 (Y0r (⟨x9.f_,x9.at_,x9.level_,x9.cells_,()⟩:Y3)).bind fun x10=>
 some (⟨x10.f_,x10.at_,x10.level_,x10.cells_,()⟩:Y3)
def Y4f (ra4:Y3→Option Y3) (ra2:Y3→Int→Option Y3) (ra3:Y3→Y1→Int→Option Y3) (t0:Y3) (t1:Int):Option Y3:=
 G (0≤t0.at_∧t0.at_<(t0.f_.length:Int))<|
 (Y7s ((t0.f_.getD t0.at_.toNat Yh).Op)).bind fun x12=>
 cond x12 (
  (ra4 (⟨t0.f_,t0.at_,t0.level_,t0.cells_,()⟩:Y3)).bind fun x14=>
  Y3e ra4 t1 (⟨x14.f_,x14.at_,x14.level_,x14.cells_,()⟩:Y3)) (
  (Y00 (⟨t0.f_,t0.at_,t0.level_,t0.cells_,()⟩:Y3) [(35:Int)]).bind fun x15=>
  (ra4 (⟨x15.f_,x15.at_,x15.level_,x15.cells_,()⟩:Y3)).bind fun x16=>
  (Y00 (⟨x16.f_,x16.at_,x16.level_,x16.cells_,()⟩:Y3) [(50:Int)]).bind fun x17=>
  Y3e ra4 t1 (⟨x17.f_,x17.at_,x17.level_,x17.cells_,()⟩:Y3))
def Y65 (loop6:(Y3×Y1×(List Int)×Int)→Option Y3) (v5:Int) (v8:Y3) (v9:Y1) (v10:List Int):Option Y3:=
 G (inR (v5+(1:Int)))<|
 loop6 ((⟨v8.f_,v8.at_,v8.level_,v8.cells_,()⟩:Y3),v9,[(v10.getD 0 (0:Int)),(v10.getD 1 (0:Int)),(v10.getD 2 (0:Int))],v5+(1:Int))
def Y1p (ra4:Y3→Option Y3) (loop6:(Y3×Y1×(List Int)×Int)→Option Y3) (v5:Int) (v12:Y3) (v13:Y1) (v14:List Int):Option Y3:=
 (ra4 (⟨v12.f_,v12.at_,v12.level_,v12.cells_,()⟩:Y3)).bind fun x15=>
 Y65 loop6 v5 (⟨x15.f_,x15.at_,x15.level_,x15.cells_,()⟩:Y3) v13 [(v14.getD 0 (0:Int)),(v14.getD 1 (0:Int)),(v14.getD 2 (0:Int))]
def Y2n (ra4:Y3→Option Y3) (loop6:(Y3×Y1×(List Int)×Int)→Option Y3) (v3:Y1) (v4:List Int) (v5:Int) (v17:Y3) (v18:Bool):Option Y3:=
 cond v18 (
  (Y00 (⟨v17.f_,v17.at_,v17.level_,v17.cells_,()⟩:Y3) [(51:Int)]).bind fun x20=>
  Y1p ra4 loop6 v5 (⟨x20.f_,x20.at_,x20.level_,x20.cells_,()⟩:Y3) v3 [(v4.getD 0 (0:Int)),(v4.getD 1 (0:Int)),(v4.getD 2 (0:Int))]) (
  (Y00 (⟨v17.f_,v17.at_,v17.level_,v17.cells_,()⟩:Y3) [(v4.getD 1 (0:Int))]).bind fun x21=>
  Y1p ra4 loop6 v5 (⟨x21.f_,x21.at_,x21.level_,x21.cells_,()⟩:Y3) v3 [(v4.getD 0 (0:Int)),(v4.getD 1 (0:Int)),(v4.getD 2 (0:Int))])
def Y0p (ra4:Y3→Option Y3) (t2:Int) (loop6:(Y3×Y1×(List Int)×Int)→Option Y3) (v2:Y3) (v3:Y1) (v4:List Int) (v5:Int):Option Y3:=
 cond (decide (v5<t2)) (
  cond (v5==(0:Int)) (
   Y1p ra4 loop6 v5 (⟨v2.f_,v2.at_,v2.level_,v2.cells_,()⟩:Y3) v3 [(v4.getD 0 (0:Int)),(v4.getD 1 (0:Int)),(v4.getD 2 (0:Int))]) (
   cond (cond (v3.Op==(12:Int)) (v5==v3.N) false) (
    Y2n ra4 loop6 v3 v4 v5 (⟨v2.f_,v2.at_,v2.level_,v2.cells_,()⟩:Y3) (cond (v3.Op==(12:Int)) (v5==v3.N) false)) (
    G ((v3.Op==(13:Int))=true→(Int.tmod v3.N (8:Int))≠0)<|
    Y2n ra4 loop6 v3 v4 v5 (⟨v2.f_,v2.at_,v2.level_,v2.cells_,()⟩:Y3) (cond (v3.Op==(13:Int)) ((Int.tmod v5 (Int.tmod v3.N (8:Int)))==(0:Int)) false)))) (
  (Y00 (⟨v2.f_,v2.at_,v2.level_,v2.cells_,()⟩:Y3) [(v4.getD 2 (0:Int))]).bind fun x24=>
  some (⟨x24.f_,x24.at_,x24.level_,x24.cells_,()⟩:Y3))
def Y35 (ra4:Y3→Option Y3) (ra2:Y3→Int→Option Y3) (ra3:Y3→Y1→Int→Option Y3) (t0:Y3) (t1:Y1) (t2:Int):Option Y3:=
 (Y00 (⟨t0.f_,t0.at_,t0.level_,t0.cells_,()⟩:Y3) [((Y71 Y57 t1.Op).getD 0 (0:Int))]).bind fun x1=>
 iter (fun loop (s:Y3×Y1×(List Int)×Int)=>Y0p ra4 t2 loop s.1 s.2.1 s.2.2.1 s.2.2.2) 1000000 ((⟨x1.f_,x1.at_,x1.level_,x1.cells_,()⟩:Y3),t1,[((Y71 Y57 t1.Op).getD 0 (0:Int)),((Y71 Y57 t1.Op).getD 1 (0:Int)),((Y71 Y57 t1.Op).getD 2 (0:Int))],(0:Int))
mutual
def Y0t:Nat→Y3→Option Y3
 |0,_=>none
 |n+1,t0=>Y4s (Y0t n) (Y0o n) (Y08 n) t0
def Y0o:Nat→Y3→Int→Option Y3
 |0,_,_=>none
 |n+1,t0,t1=>Y4f (Y0t n) (Y0o n) (Y08 n) t0 t1
def Y08:Nat→Y3→Y1→Int→Option Y3
 |0,_,_,_=>none
 |n+1,t0,t1,t2=>Y35 (Y0t n) (Y0o n) (Y08 n) t0 t1 t2
end
def Y6g (t0:Y3):Option Y3:=Y0t 1000000 t0
def Y2w (t0:List Y1):Option ((List Int)×Int):=
 (Y6o t0).bind fun x1=>
 cond (!x1) (
  some ([],(90:Int))) (
  (Y89).bind fun x3=>
  (Y6g (⟨t0,(0:Int),([]:List Int),([]:List Int),()⟩:Y3)).bind fun x4=>
  some (x4.cells_,(0:Int)))
def f_R10_Nested_b1 (t0:Int) (loop10:((List Int)×Int)→Option (List Int)) (v8:List Int) (v9:Int):Option (List Int):=
 cond (decide (v9<t0)) (
  G (room 1 (v8.length+1))<|
  G (inR (v9+(1:Int)))<|
  loop10 (v8++[(62:Int)],v9+(1:Int))) (
  some v8)
def f_R10_Nested_b2 (t0:Int) (loop3:((List Int)×Int)→Option (List Int)) (v1:List Int) (v2:Int):Option (List Int):=
 cond (decide (v2<t0)) (
  G (room 1 (v1.length+1))<|
  G (inR (v2+(1:Int)))<|
  loop3 (v1++[(55:Int)],v2+(1:Int))) (
  G (room 1 (v1.length+2))<|
  iter (fun loop (s:(List Int)×Int)=>f_R10_Nested_b1 t0 loop s.1 s.2) 1000000 (v1++[(48:Int),(1:Int)],(0:Int)))
def f_R10_Nested (t0:Int):Option (List Int):=
 iter (fun loop (s:(List Int)×Int)=>f_R10_Nested_b2 t0 loop s.1 s.2) 1000000 (([]:List Int),(0:Int))
def f_R01_Same_b1 (t0:List Int) (t1:List Int) (loop3:(Int)→Option Bool) (v2:Int):Option Bool:=
 cond (decide (v2<(t0.length:Int))) (
  G (0≤v2∧v2<(t0.length:Int))<|
  G (0≤v2∧v2<(t1.length:Int))<|
  cond ((t0.getD v2.toNat (0:Int)) !=(t1.getD v2.toNat (0:Int))) (
   some false) (
   G (inR (v2+(1:Int)))<|
   loop3 (v2+(1:Int)))) (
  some true)
def Y6r (t0:List Int) (t1:List Int):Option Bool:=
 cond ((t0.length:Int) !=(t1.length:Int)) (
  some false) (
  iter (fun loop (s:Int)=>f_R01_Same_b1 t0 t1 loop s) 1000000 (0:Int))
def Y70 (t0:List Y1) (t1:List Y1) (loop3:(Int)→Option Bool) (v2:Int):Option Bool:=
 cond (decide (v2<(t0.length:Int))) (
  G (0≤v2∧v2<(t0.length:Int))<|
  G (0≤v2∧v2<(t1.length:Int))<|
  cond (xor true ([((t0.getD v2.toNat Yh).Op)==((t1.getD v2.toNat Yh).Op),((t0.getD v2.toNat Yh).N)==((t1.getD v2.toNat Yh).N)].all id)) (
   some false) (
   G (inR (v2+(1:Int)))<|
   loop3 (v2+(1:Int)))) (
  some true)
def Y8c (t0:List Y1) (t1:List Y1):Option Bool:=
 cond ((t0.length:Int) !=(t1.length:Int)) (
  some false) (
  iter (fun loop (s:Int)=>Y70 t0 t1 loop s) 1000000 (0:Int))
def f_R09_Precedence_k1:Option Int:=
 some (4:Int)
def Y94 (t0:Int) (v2:Bool):Option Int:=
 cond v2 (
  some (2:Int)) (
  cond (t0==(4:Int)) (
   some (3:Int)) (
   f_R09_Precedence_k1))
def Y0m (t0:Int):Option Int:=
 cond (t0==(5:Int)) (
  some (1:Int)) (
  cond (t0==(2:Int)) (
   Y94 t0 (t0==(2:Int))) (
   Y94 t0 (t0==(3:Int))))
def Y6q (t1:List (List Y1)) (loop3:((List Y1)×Int)→Option (List Y1)) (v1:List Y1) (v2:Int):Option (List Y1):=
 cond (decide (v2<(t1.length:Int))) (
  G (0≤v2∧v2<(t1.length:Int))<|
  G (room 16 (v1.length+(t1.getD v2.toNat []).length))<|
  G (inR (v2+(1:Int)))<|
  loop3 (v1++(t1.getD v2.toNat []),v2+(1:Int))) (
  some v1)
def Y37 (t0:Y1) (t1:List (List Y1)):Option (List Y1):=
 iter (fun loop (s:(List Y1)×Int)=>Y6q t1 loop s.1 s.2) 1000000 ([t0],(0:Int))
def Y6e:Option Int:=
 some (-1:Int)
def Y77 (t0:Y1) (v8:Bool):Option Int:=
 cond v8 (
  cond (t0.N==(0:Int)) (
   some (1:Int)) (
   Y6e)) (
  cond (t0.Op==(12:Int)) (
   cond (cond (decide ((2:Int)≤t0.N)) (decide (t0.N≤(5:Int))) false) (
    G (inR (t0.N+(1:Int)))<|
    some (t0.N+(1:Int))) (
    Y6e)) (
   cond (t0.Op==(13:Int)) (
    G (inR (Int.tdiv t0.N (8:Int)))<|
    cond (cond (cond (cond (cond (decide ((0:Int)<t0.N)) (decide ((1:Int)≤(Int.tdiv t0.N (8:Int)))) false) (decide ((Int.tdiv t0.N (8:Int))≤(4:Int))) false) (decide ((1:Int)≤(Int.tmod t0.N (8:Int)))) false) (decide ((Int.tmod t0.N (8:Int))≤(4:Int))) false) (
     G (inR ((Int.tdiv t0.N (8:Int))*(Int.tmod t0.N (8:Int))))<|
     some ((Int.tdiv t0.N (8:Int))*(Int.tmod t0.N (8:Int)))) (
     Y6e)) (
    Y6e)))
def Y44 (t0:Y1) (v5:Bool):Option Int:=
 cond v5 (
  cond (t0.N==(0:Int)) (
   some (2:Int)) (
   Y6e)) (
  cond (t0.Op==(9:Int)) (
   Y77 t0 (t0.Op==(9:Int))) (
   cond (t0.Op==(10:Int)) (
    Y77 t0 (t0.Op==(10:Int))) (
    Y77 t0 (t0.Op==(11:Int)))))
def Y5n (t0:Y1):Option Int:=
 cond (t0.Op==(0:Int)) (
  cond (cond (decide ((0:Int)≤t0.N)) (decide (t0.N≤(99999:Int))) false) (
   some (0:Int)) (
   Y6e)) (
  cond (t0.Op==(1:Int)) (
   cond (cond (decide ((0:Int)≤t0.N)) (decide (t0.N≤(25:Int))) false) (
    some (0:Int)) (
    Y6e)) (
   cond (t0.Op==(2:Int)) (
    Y44 t0 (t0.Op==(2:Int))) (
    cond (t0.Op==(3:Int)) (
     Y44 t0 (t0.Op==(3:Int))) (
     cond (t0.Op==(4:Int)) (
      Y44 t0 (t0.Op==(4:Int))) (
      cond (t0.Op==(5:Int)) (
       Y44 t0 (t0.Op==(5:Int))) (
       cond (t0.Op==(6:Int)) (
        Y44 t0 (t0.Op==(6:Int))) (
        cond (t0.Op==(7:Int)) (
         Y44 t0 (t0.Op==(7:Int))) (
         Y44 t0 (t0.Op==(8:Int))))))))))
def f_R09_End_b1 (t0:List Y1) (loop3:(Int×Int)→Option Int) (v1:Int) (v2:Int):Option Int:=
 cond (decide ((0:Int)<v2)) (
  G ((!(cond (decide (v1<(0:Int))) true (decide ((t0.length:Int)≤v1))))=true→(0≤v1∧v1<(t0.length:Int)))<|
  (cond (!(cond (decide (v1<(0:Int))) true (decide ((t0.length:Int)≤v1)))) (Y5n (t0.getD v1.toNat Yh)) (some (0:Int))).bind fun x6=>
  cond (cond (cond (decide (v1<(0:Int))) true (decide ((t0.length:Int)≤v1))) true (decide (x6<(0:Int)))) (
   some (-1:Int)) (
   G (0≤v1∧v1<(t0.length:Int))<|
   (Y5n (t0.getD v1.toNat Yh)).bind fun x9=>
   G (inR (x9-(1:Int)))<|
   G (inR (v2+(x9-(1:Int))))<|
   G (inR (v1+(1:Int)))<|
   loop3 (v1+(1:Int),v2+(x9-(1:Int))))) (
  some v1)
def f_R09_End (t0:List Y1) (t1:Int):Option Int:=
 iter (fun loop (s:Int×Int)=>f_R09_End_b1 t0 loop s.1 s.2) 1000000 (t1,(1:Int))
def Y5i (t0:List Y1) (t1:Int) (loop5:((List Int)×Int×Int)→Option (List Int)) (v2:List Int) (v3:Int) (v4:Int):Option (List Int):=
 G (0≤t1∧t1<(t0.length:Int))<|
 (Y5n (t0.getD t1.toNat Yh)).bind fun x7=>
 cond (decide (v4<x7)) (
  G (room 8 (v2.length+1))<|
  (f_R09_End t0 v3).bind fun x10=>
  G (inR (v4+(1:Int)))<|
  loop5 (v2++[v3],x10,v4+(1:Int))) (
  some v2)
def Y3b (t0:List Y1) (t1:Int):Option (List Int):=
 G (inR (t1+(1:Int)))<|
 iter (fun loop (s:(List Int)×Int×Int)=>Y5i t0 t1 loop s.1 s.2.1 s.2.2) 1000000 (([]:List Int),t1+(1:Int),(0:Int))
def f_R09_sound_k1:Option Bool:=
 some true
def Y76 (t0:List Y1) (x1:List Int) (loop14:(Int)→Option Bool) (v13:Int):Option Bool:=
 cond (decide (v13<(x1.length:Int))) (
  G (0≤v13∧v13<(x1.length:Int))<|
  G (0≤(x1.getD v13.toNat (0:Int))∧(x1.getD v13.toNat (0:Int))<(t0.length:Int))<|
  cond (((t0.getD (x1.getD v13.toNat (0:Int)).toNat Yh).Op) !=(0:Int)) (
   some false) (
   G (inR (v13+(1:Int)))<|
   loop14 (v13+(1:Int)))) (
  f_R09_sound_k1)
def Y6d (t0:List Y1) (t1:Int) (x1:List Int) (v3:Bool):Option Bool:=
 cond v3 (
  (Y0m ((t0.getD t1.toNat Yh).Op)).bind fun x5=>
  G (0≤(0:Int)∧(0:Int)<(x1.length:Int))<|
  G (0≤(x1.getD (0:Int).toNat (0:Int))∧(x1.getD (0:Int).toNat (0:Int))<(t0.length:Int))<|
  (Y0m ((t0.getD (x1.getD (0:Int).toNat (0:Int)).toNat Yh).Op)).bind fun x8=>
  G ((decide (x5≤x8))=true→(0≤(1:Int)∧(1:Int)<(x1.length:Int)))<|
  G ((decide (x5≤x8))=true→(0≤(x1.getD (1:Int).toNat (0:Int))∧(x1.getD (1:Int).toNat (0:Int))<(t0.length:Int)))<|
  (cond (decide (x5≤x8)) (Y0m ((t0.getD (x1.getD (1:Int).toNat (0:Int)).toNat Yh).Op)) (some (0:Int))).bind fun x11=>
  some (cond (decide (x5≤x8)) (decide (x5<x11)) false)) (
  cond (((t0.getD t1.toNat Yh).Op)==(12:Int)) (
   iter (fun loop (s:Int)=>Y76 t0 x1 loop s) 1000000 (0:Int)) (
   f_R09_sound_k1))
def f_R09_sound (t0:List Y1) (t1:Int):Option Bool:=
 (Y3b t0 t1).bind fun x1=>
 G (0≤t1∧t1<(t0.length:Int))<|
 cond (((t0.getD t1.toNat Yh).Op)==(2:Int)) (
  Y6d t0 t1 x1 (((t0.getD t1.toNat Yh).Op)==(2:Int))) (
  cond (((t0.getD t1.toNat Yh).Op)==(3:Int)) (
   Y6d t0 t1 x1 (((t0.getD t1.toNat Yh).Op)==(3:Int))) (
   cond (((t0.getD t1.toNat Yh).Op)==(4:Int)) (
    Y6d t0 t1 x1 (((t0.getD t1.toNat Yh).Op)==(4:Int))) (
    Y6d t0 t1 x1 (((t0.getD t1.toNat Yh).Op)==(5:Int)))))
def Y8b (t0:List Y1) (loop4:(Int)→Option Bool) (v3:Int):Option Bool:=
 cond (decide (v3<(t0.length:Int))) (
  (f_R09_sound t0 v3).bind fun x6=>
  cond (!x6) (
   some false) (
   G (inR (v3+(1:Int)))<|
   loop4 (v3+(1:Int)))) (
  some true)
def f_R09_Tree (t0:List Y1):Option Bool:=
 (cond (!(cond ((t0.length:Int)==(0:Int)) true (decide ((200:Int)<(t0.length:Int))))) (f_R09_End t0 (0:Int)) (some (0:Int))).bind fun x1=>
 cond (cond (cond ((t0.length:Int)==(0:Int)) true (decide ((200:Int)<(t0.length:Int)))) true (x1 !=(t0.length:Int))) (
  some false) (
  iter (fun loop (s:Int)=>Y8b t0 loop s) 1000000 (0:Int))
def Y3p (ra5:(List Y1)→Int→Option Int) (t0:List Y1) (x1:List Int) (loop4:(Int×Int)→Option Int) (v2:Int) (v3:Int):Option Int:=
 cond (decide (v3<(x1.length:Int))) (
  G (0≤v3∧v3<(x1.length:Int))<|
  (ra5 t0 (x1.getD v3.toNat (0:Int))).bind fun x7=>
  G (inR (v3+(1:Int)))<|
  loop4 ((if x7>v2 then x7 else v2),v3+(1:Int))) (
  G (inR (v2+(1:Int)))<|
  some (v2+(1:Int)))
def f_R09_depth_body (ra5:(List Y1)→Int→Option Int) (t0:List Y1) (t1:Int):Option Int:=
 (Y3b t0 t1).bind fun x1=>
 iter (fun loop (s:Int×Int)=>Y3p ra5 t0 x1 loop s.1 s.2) 1000000 ((0:Int),(0:Int))
def Y3f:Nat→(List Y1)→Int→Option Int
 |0,_,_=>none
 |n+1,t0,t1=>f_R09_depth_body (Y3f n) t0 t1
def f_R09_depth (t0:List Y1) (t1:Int):Option Int:=Y3f 1000000 t0 t1
def Y7x (t0:List Y1):Option Int:=
 (f_R09_depth t0 (0:Int)).bind fun x1=>
 some x1
def Y4r (t0:List Y1):Option Bool:=
 (cond (decide ((t0.length:Int)≤(60:Int))) (f_R09_Tree t0) (some false)).bind fun x1=>
 (cond (cond (decide ((t0.length:Int)≤(60:Int))) x1 false) (Y7x t0) (some (0:Int))).bind fun x2=>
 some (cond (cond (decide ((t0.length:Int)≤(60:Int))) x1 false) (decide (x2≤(8:Int))) false)
def Y14 (t0:Yb):Option (Int×Yb):=
 cond (decide ((t0.B.length:Int)≤t0.At)) (
  some ((0:Int),t0)) (
  G (inR (t0.At+(1:Int)))<|
  G (inR ((t0.At+(1:Int))-(1:Int)))<|
  G (0≤((t0.At+(1:Int))-(1:Int))∧((t0.At+(1:Int))-(1:Int))<(t0.B.length:Int))<|
  some (IntKind.wrap .i64 (t0.B.getD ((t0.At+(1:Int))-(1:Int)).toNat (0:Int)),(⟨t0.B,t0.At+(1:Int)⟩:Yb)))
def Y2p (t0:Yb):Option ((List Y1)×Yb):=
 (Y14 t0).bind fun x1=>
 (Y14 x1.2).bind fun x2=>
 G (inR ((1:Int)+(Int.tmod x2.1 (3:Int))))<|
 G (inR (x1.1*((1:Int)+(Int.tmod x2.1 (3:Int)))))<|
 some ([(⟨(0:Int),x1.1*((1:Int)+(Int.tmod x2.1 (3:Int)))⟩:Y1)],x2.2)
def Y1h (v6:Yb) (v7:List Y1):Option ((List Y1)×Yb):=
 some (v7,v6)
def Y23 (x1:Int×Yb) (x36:Int×Yb) (loop41:(Yb×(List (List Y1))×Int)→Option ((List Y1)×Yb)) (v38:Yb) (v39:List (List Y1)) (v40:Int):Option ((List Y1)×Yb):=
 cond (decide (v40≤((2:Int)+(Int.tmod x36.1 (2:Int))))) (
  (Y2p v38).bind fun x43=>
  G (room 24 (v39.length+1))<|
  G (inR (v40+(1:Int)))<|
  loop41 (x43.2,v39++[x43.1],v40+(1:Int))) (
  (Y37 (⟨Int.tmod x1.1 (14:Int),(2:Int)+(Int.tmod x36.1 (2:Int))⟩:Y1) v39).bind fun x46=>
  Y1h v38 x46)
def Y3t (ra6:Yb→Int→Int→Option ((List (List Y1))×Yb)) (t1:Int) (x1:Int×Yb) (v29:Yb) (v30:Bool):Option ((List Y1)×Yb):=
 cond v30 (
  G (inR (t1-(1:Int)))<|
  (ra6 v29 (1:Int) (t1-(1:Int))).bind fun x33=>
  (Y37 (⟨Int.tmod x1.1 (14:Int),(0:Int)⟩:Y1) x33.1).bind fun x34=>
  Y1h x33.2 x34) (
  cond ((Int.tmod x1.1 (14:Int))==(12:Int)) (
   (Y14 v29).bind fun x36=>
   G (inR ((2:Int)+(Int.tmod x36.1 (2:Int))))<|
   iter (fun loop (s:Yb×(List (List Y1))×Int)=>Y23 x1 x36 loop s.1 s.2.1 s.2.2) 1000000 (x36.2,([]:List (List Y1)),(0:Int))) (
   (Y14 v29).bind fun x47=>
   G (inR ((1:Int)+(Int.tmod x47.1 (2:Int))))<|
   (Y14 x47.2).bind fun x49=>
   G (inR ((1:Int)+(Int.tmod x49.1 (2:Int))))<|
   G (inR ((8:Int)*((1:Int)+(Int.tmod x47.1 (2:Int)))))<|
   G (inR (((8:Int)*((1:Int)+(Int.tmod x47.1 (2:Int))))+((1:Int)+(Int.tmod x49.1 (2:Int)))))<|
   G (inR (((1:Int)+(Int.tmod x47.1 (2:Int)))*((1:Int)+(Int.tmod x49.1 (2:Int)))))<|
   G (inR (t1-(1:Int)))<|
   (ra6 x49.2 (((1:Int)+(Int.tmod x47.1 (2:Int)))*((1:Int)+(Int.tmod x49.1 (2:Int)))) (t1-(1:Int))).bind fun x55=>
   (Y37 (⟨Int.tmod x1.1 (14:Int),((8:Int)*((1:Int)+(Int.tmod x47.1 (2:Int))))+((1:Int)+(Int.tmod x49.1 (2:Int)))⟩:Y1) x55.1).bind fun x56=>
   Y1h x55.2 x56))
def Y3s (ra6:Yb→Int→Int→Option ((List (List Y1))×Yb)) (t1:Int) (x1:Int×Yb) (v23:Yb) (v24:Bool):Option ((List Y1)×Yb):=
 cond v24 (
  G (inR (t1-(1:Int)))<|
  (ra6 v23 (2:Int) (t1-(1:Int))).bind fun x27=>
  (Y37 (⟨Int.tmod x1.1 (14:Int),(0:Int)⟩:Y1) x27.1).bind fun x28=>
  Y1h x27.2 x28) (
  cond ((Int.tmod x1.1 (14:Int))==(9:Int)) (
   Y3t ra6 t1 x1 v23 ((Int.tmod x1.1 (14:Int))==(9:Int))) (
   cond ((Int.tmod x1.1 (14:Int))==(10:Int)) (
    Y3t ra6 t1 x1 v23 ((Int.tmod x1.1 (14:Int))==(10:Int))) (
    Y3t ra6 t1 x1 v23 ((Int.tmod x1.1 (14:Int))==(11:Int)))))
def Y2t (ra7:Yb→Int→Int→Option ((List Y1)×Yb)) (ra6:Yb→Int→Int→Option ((List (List Y1))×Yb)) (t1:Int) (t2:Int) (x1:Int×Yb) (v12:Yb) (v13:Bool):Option ((List Y1)×Yb):=
 cond v13 (
  (Y0m (Int.tmod x1.1 (14:Int))).bind fun x15=>
  G (inR (t1-(2:Int)))<|
  (ra7 v12 (t1-(2:Int)) x15).bind fun x17=>
  G (inR (x15+(1:Int)))<|
  (ra7 x17.2 (t1-(2:Int)) (x15+(1:Int))).bind fun x19=>
  (Y37 (⟨Int.tmod x1.1 (14:Int),(0:Int)⟩:Y1) [x17.1,x19.1]).bind fun x20=>
  cond (decide (x15<t2)) (
   (Y37 (⟨(10:Int),(0:Int)⟩:Y1) [x20]).bind fun x22=>
   Y1h x19.2 x22) (
   Y1h x19.2 x20)) (
  cond ((Int.tmod x1.1 (14:Int))==(6:Int)) (
   Y3s ra6 t1 x1 v12 ((Int.tmod x1.1 (14:Int))==(6:Int))) (
   cond ((Int.tmod x1.1 (14:Int))==(7:Int)) (
    Y3s ra6 t1 x1 v12 ((Int.tmod x1.1 (14:Int))==(7:Int))) (
    Y3s ra6 t1 x1 v12 ((Int.tmod x1.1 (14:Int))==(8:Int)))))
def Y66 (ra7:Yb→Int→Int→Option ((List Y1)×Yb)) (ra6:Yb→Int→Int→Option ((List (List Y1))×Yb)) (t0:Yb) (t1:Int) (t2:Int):Option ((List Y1)×Yb):=
 (Y14 t0).bind fun x1=>
 cond (cond (decide (t1<(2:Int))) true (cond (cond (decide (t1<(3:Int))) (decide ((Int.tmod x1.1 (14:Int))<(6:Int))) false) (decide ((1:Int)<(Int.tmod x1.1 (14:Int)))) false)) (
  cond ((Int.tmod (Int.tmod x1.1 (14:Int)) (2:Int))==(1:Int)) (
   (Y14 x1.2).bind fun x4=>
   some ([(⟨(1:Int),Int.tmod x4.1 (26:Int)⟩:Y1)],x4.2)) (
   (Y2p x1.2).bind fun x5=>
   some (x5.1,x5.2))) (
  cond ((Int.tmod x1.1 (14:Int))==(0:Int)) (
   (Y2p x1.2).bind fun x9=>
   some (x9.1,x9.2)) (
   cond ((Int.tmod x1.1 (14:Int))==(1:Int)) (
    (Y14 x1.2).bind fun x11=>
    some ([(⟨(1:Int),Int.tmod x11.1 (26:Int)⟩:Y1)],x11.2)) (
    cond ((Int.tmod x1.1 (14:Int))==(2:Int)) (
     Y2t ra7 ra6 t1 t2 x1 x1.2 ((Int.tmod x1.1 (14:Int))==(2:Int))) (
     cond ((Int.tmod x1.1 (14:Int))==(3:Int)) (
      Y2t ra7 ra6 t1 t2 x1 x1.2 ((Int.tmod x1.1 (14:Int))==(3:Int))) (
      cond ((Int.tmod x1.1 (14:Int))==(4:Int)) (
       Y2t ra7 ra6 t1 t2 x1 x1.2 ((Int.tmod x1.1 (14:Int))==(4:Int))) (
       Y2t ra7 ra6 t1 t2 x1 x1.2 ((Int.tmod x1.1 (14:Int))==(5:Int))))))))
def Y24 (ra7:Yb→Int→Int→Option ((List Y1)×Yb)) (t1:Int) (t2:Int) (loop4:(Yb×(List (List Y1))×Int)→Option ((List (List Y1))×Yb)) (v1:Yb) (v2:List (List Y1)) (v3:Int):Option ((List (List Y1))×Yb):=
 cond (decide (v3<t1)) (
  (ra7 v1 t2 (1:Int)).bind fun x6=>
  G (room 24 (v2.length+1))<|
  G (inR (v3+(1:Int)))<|
  loop4 (x6.2,v2++[x6.1],v3+(1:Int))) (
  some (v2,v1))
def Y7w (ra7:Yb→Int→Int→Option ((List Y1)×Yb)) (ra6:Yb→Int→Int→Option ((List (List Y1))×Yb)) (t0:Yb) (t1:Int) (t2:Int):Option ((List (List Y1))×Yb):=
 iter (fun loop (s:Yb×(List (List Y1))×Int)=>Y24 ra7 t1 t2 loop s.1 s.2.1 s.2.2) 1000000 (t0,([]:List (List Y1)),(0:Int))
mutual
def Y2o:Nat→Yb→Int→Int→Option ((List Y1)×Yb)
 |0,_,_,_=>none
 |n+1,t0,t1,t2=>Y66 (Y2o n) (Y49 n) t0 t1 t2
def Y49:Nat→Yb→Int→Int→Option ((List (List Y1))×Yb)
 |0,_,_,_=>none
 |n+1,t0,t1,t2=>Y7w (Y2o n) (Y49 n) t0 t1 t2
end
def Y8x (t0:Yb) (t1:Int) (t2:Int):Option ((List Y1)×Yb):=Y2o 1000000 t0 t1 t2
def f_R09_Made (t0:List Int):Option (List Y1):=
 G (0≤(if(40:Int)<(t0.length:Int) then(40:Int) else(t0.length:Int))∧(if(40:Int)<(t0.length:Int) then(40:Int) else(t0.length:Int))≤(t0.length:Int))<|
 (Y8x (⟨t0.take ((if(40:Int)<(t0.length:Int) then(40:Int) else(t0.length:Int)).toNat),(0:Int)⟩:Yb) (5:Int) (1:Int)).bind fun x2=>
 (Y4r x2.1).bind fun x3=>
 cond (!x3) (
  some [(⟨(1:Int),(0:Int)⟩:Y1)]) (
  some x2.1)
def Y4c (t0:Int):Option Int:=
 G (0≤t0∧t0<([(1:Int),(3:Int),(9:Int),(25:Int),(17:Int),(11:Int),(27:Int),(19:Int),(10:Int),(26:Int),(5:Int),(7:Int),(13:Int),(29:Int),(21:Int),(15:Int),(31:Int),(23:Int),(14:Int),(30:Int),(37:Int),(39:Int),(58:Int),(45:Int),(61:Int),(53:Int)].length:Int))<|
 some ([(1:Int),(3:Int),(9:Int),(25:Int),(17:Int),(11:Int),(27:Int),(19:Int),(10:Int),(26:Int),(5:Int),(7:Int),(13:Int),(29:Int),(21:Int),(15:Int),(31:Int),(23:Int),(14:Int),(30:Int),(37:Int),(39:Int),(58:Int),(45:Int),(61:Int),(53:Int)].getD t0.toNat (0:Int))
def f_R10_digit (t0:Int):Option Int:=
 G (inR (t0+(9:Int)))<|
 (Y4c (Int.tmod (t0+(9:Int)) (10:Int))).bind fun x2=>
 some x2
def f_R10_number_k1 (loop3:((List Int)×Int)→Option (List Int)) (v2:Int) (v5:List Int):Option (List Int):=
 G (inR (Int.tdiv v2 (10:Int)))<|
 loop3 (v5,Int.tdiv v2 (10:Int))
def Y7v (t0:Int) (loop3:((List Int)×Int)→Option (List Int)) (v1:List Int) (v2:Int):Option (List Int):=
 cond (decide ((0:Int)<v2)) (
  cond (cond (decide (v2≤t0)) true (v2==(1:Int))) (
   G (v2≠0)<|
   G (inR (Int.tdiv t0 v2))<|
   (f_R10_digit (Int.tmod (Int.tdiv t0 v2) (10:Int))).bind fun x10=>
   G (room 1 (v1.length+1))<|
   f_R10_number_k1 loop3 v2 (v1++[x10])) (
   f_R10_number_k1 loop3 v2 v1)) (
  some v1)
def Y9c (t0:Int):Option (List Int):=
 iter (fun loop (s:(List Int)×Int)=>Y7v t0 loop s.1 s.2) 1000000 ([(60:Int)],(10000:Int))
def Y4w (t0:Int):Option (List Int):=
 cond (t0==(2:Int)) (
  some [(44:Int)]) (
  cond (t0==(3:Int)) (
   some [(36:Int)]) (
   cond (t0==(4:Int)) (
    some [(33:Int)]) (
    some [(0:Int),(54:Int),(0:Int)])))
def Y5b (t0:Int):Option Bool:=
 some (cond (cond (cond (t0==(0:Int)) true (t0==(1:Int))) true (t0==(6:Int))) true (decide ((9:Int)≤t0)))
def f_R10_under_k1 (t0:List Int) (v1:Int):Option (List Int):=
 G (room 1 (([]:List Int).length+t0.length))<|
 G (room 1 ((([]:List Int)++t0).length+1))<|
 some ((([]:List Int)++t0)++[v1])
def Y47 (t0:List Int) (t1:Int):Option (List Int):=
 cond (t1==(8:Int)) (
  f_R10_under_k1 t0 (6:Int)) (
  f_R10_under_k1 t0 (24:Int))
def Y75 (t0:List Int):Option (List Int):=
 G (room 1 ([(16:Int)].length+t0.length))<|
 some ([(16:Int)]++t0)
def Y28 (t0:Int):Option (List Int):=
 cond (t0==(6:Int)) (
  some [(57:Int),(12:Int),(47:Int)]) (
  cond (t0==(9:Int)) (
   some [(28:Int),(0:Int),(59:Int)]) (
   cond (t0==(10:Int)) (
    some [(55:Int),(0:Int),(62:Int)]) (
    some [(42:Int),(0:Int),(46:Int)])))
def f_R10_write_body_k1 (loop10:((List Int)×(List Int)×Int)→Option (List Int)) (v9:Int) (v12:List Int) (v13:List Int):Option (List Int):=
 G (inR (v9+(1:Int)))<|
 loop10 (v12,[(v13.getD 0 (0:Int)),(v13.getD 1 (0:Int)),(v13.getD 2 (0:Int))],v9+(1:Int))
def Y6y (ra8:(List Y1)→Int→(List Int)→Option (List Int)) (t0:List Y1) (t2:List Int) (x2:List Int) (loop10:((List Int)×(List Int)×Int)→Option (List Int)) (v9:Int) (v15:List Int) (v16:List Int):Option (List Int):=
 G (0≤v9∧v9<(x2.length:Int))<|
 (ra8 t0 (x2.getD v9.toNat (0:Int)) t2).bind fun x18=>
 G (room 1 (v15.length+x18.length))<|
 f_R10_write_body_k1 loop10 v9 (v15++x18) [(v16.getD 0 (0:Int)),(v16.getD 1 (0:Int)),(v16.getD 2 (0:Int))]
def Y3o (ra8:(List Y1)→Int→(List Int)→Option (List Int)) (t0:List Y1) (t2:List Int) (x2:List Int) (loop10:((List Int)×(List Int)×Int)→Option (List Int)) (v7:List Int) (v8:List Int) (v9:Int):Option (List Int):=
 cond (decide (v9<(x2.length:Int))) (
  cond (decide ((0:Int)<v9)) (
   G (room 1 (v7.length+1))<|
   Y6y ra8 t0 t2 x2 loop10 v9 (v7++[(v8.getD 1 (0:Int))]) [(v8.getD 0 (0:Int)),(v8.getD 1 (0:Int)),(v8.getD 2 (0:Int))]) (
   Y6y ra8 t0 t2 x2 loop10 v9 v7 [(v8.getD 0 (0:Int)),(v8.getD 1 (0:Int)),(v8.getD 2 (0:Int))])) (
  G (room 1 (v7.length+1))<|
  some (v7++[(v8.getD 2 (0:Int))]))
def f_R10_write_body_k3 (ra8:(List Y1)→Int→(List Int)→Option (List Int)) (t0:List Y1) (t2:List Int) (x2:List Int) (v3:Y1) (v4:List Int):Option (List Int):=
 (Y28 v3.Op).bind fun x5=>
 G (room 1 (v4.length+1))<|
 iter (fun loop (s:(List Int)×(List Int)×Int)=>Y3o ra8 t0 t2 x2 loop s.1 s.2.1 s.2.2) 1000000 (v4++[(x5.getD 0 (0:Int))],[(x5.getD 0 (0:Int)),(x5.getD 1 (0:Int)),(x5.getD 2 (0:Int))],(0:Int))
def Y6x (ra8:(List Y1)→Int→(List Int)→Option (List Int)) (t0:List Y1) (t2:List Int) (x2:List Int) (v41:Y1) (v42:List Int):Option (List Int):=
 (Y47 t2 v41.Op).bind fun x43=>
 (Y75 x43).bind fun x44=>
 G (room 1 (v42.length+x44.length))<|
 G (0≤(1:Int)∧(1:Int)<(x2.length:Int))<|
 (Y47 t2 v41.Op).bind fun x47=>
 (ra8 t0 (x2.getD (1:Int).toNat (0:Int)) x47).bind fun x48=>
 G (room 1 ((v42++x44).length+x48.length))<|
 (Y75 t2).bind fun x50=>
 G (room 1 (((v42++x44)++x48).length+x50.length))<|
 some (((v42++x44)++x48)++x50)
def f_R10_write_body_k5 (loop63:((List Int)×Int)→Option (List Int)) (v62:Int) (v65:List Int):Option (List Int):=
 G (inR (v62+(1:Int)))<|
 loop63 (v65,v62+(1:Int))
def Y4o (ra8:(List Y1)→Int→(List Int)→Option (List Int)) (t0:List Y1) (t2:List Int) (x2:List Int) (loop63:((List Int)×Int)→Option (List Int)) (v62:Int) (v67:List Int):Option (List Int):=
 G (0≤v62∧v62<(x2.length:Int))<|
 (ra8 t0 (x2.getD v62.toNat (0:Int)) t2).bind fun x69=>
 G (room 1 (v67.length+x69.length))<|
 f_R10_write_body_k5 loop63 v62 (v67++x69)
def Y3n (ra8:(List Y1)→Int→(List Int)→Option (List Int)) (t0:List Y1) (t2:List Int) (x2:List Int) (loop63:((List Int)×Int)→Option (List Int)) (v61:List Int) (v62:Int):Option (List Int):=
 cond (decide (v62<(x2.length:Int))) (
  G (inR ((x2.length:Int)-(1:Int)))<|
  cond (v62==((x2.length:Int)-(1:Int))) (
   G (room 1 (v61.length+1))<|
   Y4o ra8 t0 t2 x2 loop63 v62 (v61++[(51:Int)])) (
   cond (decide ((0:Int)<v62)) (
    G (room 1 (v61.length+1))<|
    Y4o ra8 t0 t2 x2 loop63 v62 (v61++[(32:Int)])) (
    Y4o ra8 t0 t2 x2 loop63 v62 v61))) (
  G (room 1 (v61.length+1))<|
  some (v61++[(34:Int)]))
def f_R10_write_body_k7 (loop82:(Y1×(List Int)×Int)→Option (List Int)) (v81:Int) (v84:Y1) (v85:List Int):Option (List Int):=
 G (inR (v81+(1:Int)))<|
 loop82 (v84,v85,v81+(1:Int))
def Y4n (ra8:(List Y1)→Int→(List Int)→Option (List Int)) (t0:List Y1) (t2:List Int) (x2:List Int) (loop82:(Y1×(List Int)×Int)→Option (List Int)) (v81:Int) (v87:Y1) (v88:List Int):Option (List Int):=
 G (0≤v81∧v81<(x2.length:Int))<|
 (ra8 t0 (x2.getD v81.toNat (0:Int)) t2).bind fun x90=>
 G (room 1 (v88.length+x90.length))<|
 f_R10_write_body_k7 loop82 v81 v87 (v88++x90)
def Y3m (ra8:(List Y1)→Int→(List Int)→Option (List Int)) (t0:List Y1) (t2:List Int) (x2:List Int) (loop82:(Y1×(List Int)×Int)→Option (List Int)) (v79:Y1) (v80:List Int) (v81:Int):Option (List Int):=
 cond (decide (v81<(x2.length:Int))) (
  G ((decide ((0:Int)<v81))=true→(Int.tmod v79.N (8:Int))≠0)<|
  cond (cond (decide ((0:Int)<v81)) ((Int.tmod v81 (Int.tmod v79.N (8:Int)))==(0:Int)) false) (
   G (room 1 (v80.length+1))<|
   Y4n ra8 t0 t2 x2 loop82 v81 v79 (v80++[(51:Int)])) (
   cond (decide ((0:Int)<v81)) (
    G (room 1 (v80.length+1))<|
    Y4n ra8 t0 t2 x2 loop82 v81 v79 (v80++[(32:Int)])) (
    Y4n ra8 t0 t2 x2 loop82 v81 v79 v80))) (
  G (room 1 (v80.length+1))<|
  some (v80++[(43:Int)]))
def Y4m (ra8:(List Y1)→Int→(List Int)→Option (List Int)) (t0:List Y1) (t1:Int) (t2:List Int) (x2:List Int) (v37:Bool):Option (List Int):=
 cond v37 (
  G (0≤(0:Int)∧(0:Int)<(x2.length:Int))<|
  (ra8 t0 (x2.getD (0:Int).toNat (0:Int)) t2).bind fun x40=>
  G (0≤(x2.getD (0:Int).toNat (0:Int))∧(x2.getD (0:Int).toNat (0:Int))<(t0.length:Int))<|
  (Y5b ((t0.getD (x2.getD (0:Int).toNat (0:Int)).toNat Yh).Op)).bind fun x53=>
  cond x53 (
   G (room 1 (([]:List Int).length+x40.length))<|
   Y6x ra8 t0 t2 x2 (t0.getD t1.toNat Yh) (([]:List Int)++x40)) (
   G (room 1 (([]:List Int).length+1))<|
   G (room 1 ((([]:List Int)++[(35:Int)]).length+x40.length))<|
   G (room 1 (((([]:List Int)++[(35:Int)])++x40).length+1))<|
   Y6x ra8 t0 t2 x2 (t0.getD t1.toNat Yh) (((([]:List Int)++[(35:Int)])++x40)++[(50:Int)]))) (
  cond (((t0.getD t1.toNat Yh).Op)==(12:Int)) (
   G (room 1 (([]:List Int).length+1))<|
   iter (fun loop (s:(List Int)×Int)=>Y3n ra8 t0 t2 x2 loop s.1 s.2) 1000000 (([]:List Int)++[(56:Int)],(0:Int))) (
   cond (((t0.getD t1.toNat Yh).Op)==(13:Int)) (
    G (room 1 (([]:List Int).length+1))<|
    iter (fun loop (s:Y1×(List Int)×Int)=>Y3m ra8 t0 t2 x2 loop s.1 s.2.1 s.2.2) 1000000 ((t0.getD t1.toNat Yh),([]:List Int)++[(41:Int)],(0:Int))) (
    f_R10_write_body_k3 ra8 t0 t2 x2 (t0.getD t1.toNat Yh) ([]:List Int))))
def Y2h (ra8:(List Y1)→Int→(List Int)→Option (List Int)) (t0:List Y1) (t1:Int) (t2:List Int) (x2:List Int) (v27:Bool):Option (List Int):=
 cond v27 (
  G (0≤(0:Int)∧(0:Int)<(x2.length:Int))<|
  (ra8 t0 (x2.getD (0:Int).toNat (0:Int)) t2).bind fun x30=>
  G (room 1 (([]:List Int).length+x30.length))<|
  (Y4w ((t0.getD t1.toNat Yh).Op)).bind fun x32=>
  G (room 1 ((([]:List Int)++x30).length+x32.length))<|
  G (0≤(1:Int)∧(1:Int)<(x2.length:Int))<|
  (ra8 t0 (x2.getD (1:Int).toNat (0:Int)) t2).bind fun x35=>
  G (room 1 (((([]:List Int)++x30)++x32).length+x35.length))<|
  some (((([]:List Int)++x30)++x32)++x35)) (
  cond (((t0.getD t1.toNat Yh).Op)==(7:Int)) (
   Y4m ra8 t0 t1 t2 x2 (((t0.getD t1.toNat Yh).Op)==(7:Int))) (
   Y4m ra8 t0 t1 t2 x2 (((t0.getD t1.toNat Yh).Op)==(8:Int))))
def Y8w (ra8:(List Y1)→Int→(List Int)→Option (List Int)) (t0:List Y1) (t1:Int) (t2:List Int):Option (List Int):=
 G (0≤t1∧t1<(t0.length:Int))<|
 (Y3b t0 t1).bind fun x2=>
 cond (((t0.getD t1.toNat Yh).Op)==(0:Int)) (
  (Y9c ((t0.getD t1.toNat Yh).N)).bind fun x24=>
  some x24) (
  cond (((t0.getD t1.toNat Yh).Op)==(1:Int)) (
   (Y4c ((t0.getD t1.toNat Yh).N)).bind fun x26=>
   some [(48:Int),x26]) (
   cond (((t0.getD t1.toNat Yh).Op)==(2:Int)) (
    Y2h ra8 t0 t1 t2 x2 (((t0.getD t1.toNat Yh).Op)==(2:Int))) (
    cond (((t0.getD t1.toNat Yh).Op)==(3:Int)) (
     Y2h ra8 t0 t1 t2 x2 (((t0.getD t1.toNat Yh).Op)==(3:Int))) (
     cond (((t0.getD t1.toNat Yh).Op)==(4:Int)) (
      Y2h ra8 t0 t1 t2 x2 (((t0.getD t1.toNat Yh).Op)==(4:Int))) (
      Y2h ra8 t0 t1 t2 x2 (((t0.getD t1.toNat Yh).Op)==(5:Int)))))))
def Y8a:Nat→(List Y1)→Int→(List Int)→Option (List Int)
 |0,_,_,_=>none
 |n+1,t0,t1,t2=>Y8w (Y8a n) t0 t1 t2
def f_R10_write (t0:List Y1) (t1:Int) (t2:List Int):Option (List Int):=Y8a 1000000 t0 t1 t2
def f_R10_Write (t0:List Y1):Option ((List Int)×Int):=
 (Y4r t0).bind fun x1=>
 cond (!x1) (
  some ([],(90:Int))) (
  (f_R10_write t0 (0:Int) ([]:List Int)).bind fun x3=>
  some (x3,(0:Int)))
def f_R01_Cells_b1 (t0:List Int) (t1:Int) (loop3:((List Int)×Int)→Option (List Int)) (v1:List Int) (v2:Int):Option (List Int):=
 cond (cond (decide (v2<(t0.length:Int))) (decide (v2<t1)) false) (
  G (0≤v2∧v2<(t0.length:Int))<|
  G (room 1 (v1.length+1))<|
  G (inR (v2+(1:Int)))<|
  loop3 (v1++[Int.tmod (t0.getD v2.toNat (0:Int)) (64:Int)],v2+(1:Int))) (
  some v1)
def f_R01_Cells (t0:List Int) (t1:Int):Option (List Int):=
 iter (fun loop (s:(List Int)×Int)=>f_R01_Cells_b1 t0 t1 loop s.1 s.2) 1000000 (([]:List Int),(0:Int))
def Yv (t0:Y0):Option Bool:=
 some (cond t0.Short true t0.Bad)
def Yr (t0:Y0):Option Int:=
 (Yv t0).bind fun x1=>
 cond (cond x1 true (decide ((t0.L.length:Int)≤t0.At))) (
  some (64:Int)) (
  G (0≤t0.At∧t0.At<(t0.L.length:Int))<|
  some (t0.L.getD t0.At.toNat (0:Int)))
def f_R10_value_b1 (t0:Int) (t1:Int) (loop2:(Int)→Option Int) (v1:Int):Option Int:=
 cond (decide (v1<t1)) (
  (Y4c v1).bind fun x4=>
  cond (x4==t0) (
   some v1) (
   G (inR (v1+(1:Int)))<|
   loop2 (v1+(1:Int)))) (
  some (-1:Int))
def Y6z (t0:Int) (t1:Int):Option Int:=
 iter (fun loop (s:Int)=>f_R10_value_b1 t0 t1 loop s) 1000000 (0:Int)
def Y29 (t0:Int) (t1:Int) (t2:List Y1):Option (List Y1):=
 G (room 16 ([(⟨t0,t1⟩:Y1)].length+t2.length))<|
 some ([(⟨t0,t1⟩:Y1)]++t2)
def Y5s (t0:Y0) (t1:Int) (t2:List Int) (loop2:(Int)→Option (Bool×Bool)) (v1:Int):Option (Bool×Bool):=
 cond (decide (v1<(t2.length:Int))) (
  G (inR (t1+v1))<|
  cond (decide ((t0.L.length:Int)≤(t1+v1))) (
   some (false,true)) (
   G (0≤(t1+v1)∧(t1+v1)<(t0.L.length:Int))<|
   G (0≤v1∧v1<(t2.length:Int))<|
   cond ((t0.L.getD (t1+v1).toNat (0:Int)) !=(t2.getD v1.toNat (0:Int))) (
    some (false,false)) (
    G (inR (v1+(1:Int)))<|
    loop2 (v1+(1:Int))))) (
  some (true,false))
def Y4p (t0:Y0) (t1:Int) (t2:List Int):Option (Bool×Bool):=
 iter (fun loop (s:Int)=>Y5s t0 t1 t2 loop s) 1000000 (0:Int)
def Y1q (t0:Y0) (t1:List Int):Option (Bool×Bool):=
 (Y75 t1).bind fun x1=>
 (Y4p t0 t0.At x1).bind fun x2=>
 G (inR (t0.At+(1:Int)))<|
 G (inR ((t0.At+(1:Int))+(t1.length:Int)))<|
 G ((cond x2.1 (decide (((t0.At+(1:Int))+(t1.length:Int))<(t0.L.length:Int))) false)=true→(0≤((t0.At+(1:Int))+(t1.length:Int))∧((t0.At+(1:Int))+(t1.length:Int))<(t0.L.length:Int)))<|
 G (((cond x2.1 (decide (((t0.At+(1:Int))+(t1.length:Int))<(t0.L.length:Int))) false)&&(!((t0.L.getD ((t0.At+(1:Int))+(t1.length:Int)).toNat (0:Int))==(24:Int))))=true→(0≤((t0.At+(1:Int))+(t1.length:Int))∧((t0.At+(1:Int))+(t1.length:Int))<(t0.L.length:Int)))<|
 cond (cond (cond x2.1 (decide (((t0.At+(1:Int))+(t1.length:Int))<(t0.L.length:Int))) false) (cond ((t0.L.getD ((t0.At+(1:Int))+(t1.length:Int)).toNat (0:Int))==(24:Int)) true ((t0.L.getD ((t0.At+(1:Int))+(t1.length:Int)).toNat (0:Int))==(6:Int))) false) (
  some (false,false)) (
  some (x2.1,x2.2))
def Y5h (t0:Y0):Option Int:=
 (Yr t0).bind fun x1=>
 cond (x1==(44:Int)) (
  some (2:Int)) (
  cond (x1==(36:Int)) (
   some (3:Int)) (
   cond (x1==(33:Int)) (
    some (4:Int)) (
    cond (x1==(0:Int)) (
     some (5:Int)) (
     some (-1:Int)))))
def Yg (t0:Y0) (t1:Int):Option Y0:=
 (Yv t0).bind fun x1=>
 cond x1 (
  some t0) (
  cond (decide ((t0.L.length:Int)≤t0.At)) (
   some (⟨t0.L,t0.At,true,t0.Bad⟩:Y0)) (
   G (0≤t0.At∧t0.At<(t0.L.length:Int))<|
   G (inR (t0.At+(1:Int)))<|
   some (⟨t0.L,t0.At+(1:Int),t0.Short,(t0.L.getD t0.At.toNat (0:Int)) !=t1⟩:Y0)))
def Y4q (t0:Y0) (t1:List Int):Option Y0:=
 (Y1q t0 t1).bind fun x1=>
 G (inR ((1:Int)+(t1.length:Int)))<|
 G (inR (t0.At+((1:Int)+(t1.length:Int))))<|
 some (⟨t0.L,t0.At+((1:Int)+(t1.length:Int)),x1.2,cond (!x1.1) (!x1.2) false⟩:Y0)
def Y5r (v2:Int) (v4:Y0):Option ((List Y1)×Y0):=
 (Y29 (0:Int) v2 []).bind fun x5=>
 some (x5,v4)
def Y4j (v1:Y0) (v2:Int) (v3:Int):Option ((List Y1)×Y0):=
 (cond (v3==(0:Int)) (Yv v1) (some false)).bind fun x6=>
 cond (cond (v3==(0:Int)) (!x6) false) (
  Y5r v2 (⟨v1.L,v1.At,decide ((v1.L.length:Int)≤v1.At), !(decide ((v1.L.length:Int)≤v1.At))⟩:Y0)) (
  Y5r v2 v1)
def Y3a (loop11:(Y0×Int×Int)→Option ((List Y1)×Y0)) (v8:Y0) (v9:Int) (v10:Int):Option ((List Y1)×Y0):=
 cond (cond (decide (v10<(5:Int))) (cond (v10==(0:Int)) true (decide ((0:Int)<v9))) false) (
  (Yr v8).bind fun x13=>
  (Y6z x13 (10:Int)).bind fun x14=>
  cond (decide (x14<(0:Int))) (
   Y4j v8 v9 v10) (
   G (inR ((10:Int)*v9))<|
   G (inR (x14+(1:Int)))<|
   G (inR (((10:Int)*v9)+(Int.tmod (x14+(1:Int)) (10:Int))))<|
   G (inR (v10+(1:Int)))<|
   G (inR (v8.At+(1:Int)))<|
   loop11 ((⟨v8.L,v8.At+(1:Int),v8.Short,v8.Bad⟩:Y0),((10:Int)*v9)+(Int.tmod (x14+(1:Int)) (10:Int)),v10+(1:Int)))) (
  Y4j v8 v9 v10)
def Y0i (t0:Y0):Option ((List Y1)×Y0):=
 iter (fun loop (s:Y0×Int×Int)=>Y3a loop s.1 s.2.1 s.2.2) 1000000 (t0,(0:Int),(0:Int))
def Y7f (v2:Y0) (v3:List Y1):Option ((List Y1)×Y0):=
 some (v3,v2)
def Y0v (ra9:Y0→(List Int)→Int→(List (List Int))→Option ((List Y1)×Y0)) (t1:List Int) (t3:List (List Int)) (loop6:(Y0×(List Y1))→Option ((List Y1)×Y0)) (x9:Int) (x12:List Int) (loop16:(Y0×(List Y1)×Int)→Option ((List Y1)×Y0)) (v13:Y0) (v14:List Y1) (v15:Int):Option ((List Y1)×Y0):=
 cond (decide (v15<(x12.length:Int))) (
  G (0≤v15∧v15<(x12.length:Int))<|
  (Yg v13 (x12.getD v15.toNat (0:Int))).bind fun x19=>
  G (inR (v15+(1:Int)))<|
  loop16 (x19,v14,v15+(1:Int))) (
  (Y0m x9).bind fun x21=>
  G (inR (x21+(1:Int)))<|
  (ra9 v13 t1 (x21+(1:Int)) t3).bind fun x23=>
  G (room 16 (v14.length+x23.1.length))<|
  (Y29 x9 (0:Int) (v14++x23.1)).bind fun x25=>
  loop6 (x23.2,x25))
def Yt (ra9:Y0→(List Int)→Int→(List (List Int))→Option ((List Y1)×Y0)) (t1:List Int) (t2:Int) (t3:List (List Int)) (loop6:(Y0×(List Y1))→Option ((List Y1)×Y0)) (v4:Y0) (v5:List Y1):Option ((List Y1)×Y0):=
 (Yv v4).bind fun x7=>
 cond (!x7) (
  (Y5h v4).bind fun x9=>
  (cond (!(decide (x9<(0:Int)))) (Y0m x9) (some (0:Int))).bind fun x10=>
  cond (cond (decide (x9<(0:Int))) true (decide (x10<t2))) (
   Y7f v4 v5) (
   (Y4w x9).bind fun x12=>
   iter (fun loop (s:Y0×(List Y1)×Int)=>Y0v ra9 t1 t3 loop6 x9 x12 loop s.1 s.2.1 s.2.2) 1000000 (v4,v5,(0:Int)))) (
  Y7f v4 v5)
def Y4v (ra9:Y0→(List Int)→Int→(List (List Int))→Option ((List Y1)×Y0)) (ra10:Y0→(List Int)→(List (List Int))→Option ((List Y1)×Y0)) (ra11:Y0→(List Int)→Option ((List Y1)×Bool×Y0)) (ra12:Y0→Option ((List Y1)×Y0)) (ra13:Y0→(List Int)→Option ((List Y1)×Y0)) (ra14:Y0→(List Int)→Int→Bool→Option ((List Y1)×Int×Y0)) (t0:Y0) (t1:List Int) (t2:Int) (t3:List (List Int)):Option ((List Y1)×Y0):=
 (ra10 t0 t1 t3).bind fun x1=>
 iter (fun loop (s:Y0×(List Y1))=>Yt ra9 t1 t2 t3 loop s.1 s.2) 1000000 (x1.2,x1.1)
def Y7e (v6:Y0) (v7:List Y1):Option ((List Y1)×Y0):=
 some (v7,v6)
def Y7d (v10:List Y1) (v29:Y0) (v30:Bool):Option ((List Y1)×Y0):=
 some (v10,(⟨v29.L,v29.At,v30, !v30⟩:Y0))
def Y0u (ra9:Y0→(List Int)→Int→(List (List Int))→Option ((List Y1)×Y0)) (t1:List Int) (t2:List (List Int)) (x1:(List Y1)×Bool×Y0) (loop13:(Y0×(List Y1)×Bool×Int)→Option ((List Y1)×Y0)) (v9:Y0) (v10:List Y1) (v11:Bool) (v12:Int):Option ((List Y1)×Y0):=
 cond (decide (v12<(2:Int))) (
  G (inR ((7:Int)+v12))<|
  (Y47 t1 ((7:Int)+v12)).bind fun x16=>
  (Y1q v9 x16).bind fun x17=>
  cond x17.1 (
   G (inR ((2:Int)+(t1.length:Int)))<|
   G (inR (v9.At+((2:Int)+(t1.length:Int))))<|
   (Y47 t1 ((7:Int)+v12)).bind fun x21=>
   (ra9 (⟨v9.L,v9.At+((2:Int)+(t1.length:Int)),v9.Short,v9.Bad⟩:Y0) x21 (1:Int) [t1]).bind fun x22=>
   (Yv x22.2).bind fun x23=>
   cond x23 (
    some (v10,x22.2)) (
    (Y4q x22.2 t1).bind fun x25=>
    G (room 16 (v10.length+x22.1.length))<|
    (Y29 ((7:Int)+v12) (0:Int) (v10++x22.1)).bind fun x27=>
    some (x27,x25))) (
   G (inR (v12+(1:Int)))<|
   loop13 (v9,v10,cond v11 true x17.2,v12+(1:Int)))) (
  cond (cond (decide ((0:Int)<(t2.length:Int))) (!x1.2.1) false) (
   G (0≤(0:Int)∧(0:Int)<(t2.length:Int))<|
   (Y1q v9 (t2.getD (0:Int).toNat [])).bind fun x33=>
   cond x33.1 (
    some (v10,v9)) (
    Y7d v10 v9 (cond v11 true x33.2))) (
   Y7d v10 v9 v11))
def Y4u (ra9:Y0→(List Int)→Int→(List (List Int))→Option ((List Y1)×Y0)) (ra10:Y0→(List Int)→(List (List Int))→Option ((List Y1)×Y0)) (ra11:Y0→(List Int)→Option ((List Y1)×Bool×Y0)) (ra12:Y0→Option ((List Y1)×Y0)) (ra13:Y0→(List Int)→Option ((List Y1)×Y0)) (ra14:Y0→(List Int)→Int→Bool→Option ((List Y1)×Int×Y0)) (t0:Y0) (t1:List Int) (t2:List (List Int)):Option ((List Y1)×Y0):=
 (ra11 t0 t1).bind fun x1=>
 (Yv x1.2.2).bind fun x2=>
 cond x2 (
  some (x1.1,x1.2.2)) (
  (Yr x1.2.2).bind fun x4=>
  cond (x4 !=(16:Int)) (
   cond x1.2.1 (
    Y7e (⟨x1.2.2.L,x1.2.2.At,decide ((x1.2.2.L.length:Int)≤x1.2.2.At), !(decide ((x1.2.2.L.length:Int)≤x1.2.2.At))⟩:Y0) x1.1) (
    Y7e x1.2.2 x1.1)) (
   iter (fun loop (s:Y0×(List Y1)×Bool×Int)=>Y0u ra9 t1 t2 x1 loop s.1 s.2.1 s.2.2.1 s.2.2.2) 1000000 (x1.2.2,x1.1,false,(0:Int))))
def Y2u (x10:Int) (v11:Y0):Option ((List Y1)×Bool×Y0):=
 G (inR (v11.At+(1:Int)))<|
 (Y29 (1:Int) x10 []).bind fun x13=>
 some (x13,false,(⟨v11.L,v11.At+(1:Int),v11.Short,v11.Bad⟩:Y0))
def Y0d (v21:Y0) (v22:List Y1):Option ((List Y1)×Bool×Y0):=
 (Yg v21 (50:Int)).bind fun x23=>
 some (v22,true,x23)
def Y48 (v29:Int) (v36:Y0) (v37:List Int) (v38:List Y1):Option ((List Y1)×Bool×Y0):=
 (Yg v36 (v37.getD 2 (0:Int))).bind fun x39=>
 (Y29 ([(6:Int),(9:Int),(10:Int),(11:Int)].getD v29.toNat (0:Int)) (0:Int) v38).bind fun x40=>
 some (x40,false,x39)
def Y03 (ra9:Y0→(List Int)→Int→(List (List Int))→Option ((List Y1)×Y0)) (t1:List Int) (x2:Int) (loop30:(Y0×Int)→Option ((List Y1)×Bool×Y0)) (v28:Y0) (v29:Int):Option ((List Y1)×Bool×Y0):=
 cond (decide (v29<([(6:Int),(9:Int),(10:Int),(11:Int)].length:Int))) (
  G (0≤v29∧v29<([(6:Int),(9:Int),(10:Int),(11:Int)].length:Int))<|
  (Y28 ([(6:Int),(9:Int),(10:Int),(11:Int)].getD v29.toNat (0:Int))).bind fun x33=>
  cond ((x33.getD 0 (0:Int))==x2) (
   (ra9 v28 t1 (1:Int) []).bind fun x35=>
   cond (([(6:Int),(9:Int),(10:Int),(11:Int)].getD v29.toNat (0:Int))==(6:Int)) (
    (Yg x35.2 (x33.getD 1 (0:Int))).bind fun x42=>
    (ra9 x42 t1 (1:Int) []).bind fun x43=>
    G (room 16 (x35.1.length+x43.1.length))<|
    Y48 v29 x43.2 [(x33.getD 0 (0:Int)),(x33.getD 1 (0:Int)),(x33.getD 2 (0:Int))] (x35.1++x43.1)) (
    Y48 v29 x35.2 [(x33.getD 0 (0:Int)),(x33.getD 1 (0:Int)),(x33.getD 2 (0:Int))] x35.1)) (
   G (inR (v29+(1:Int)))<|
   loop30 (v28,v29+(1:Int)))) (
  some ([],false,(⟨v28.L,v28.At,v28.Short,true⟩:Y0)))
def Y1e (ra9:Y0→(List Int)→Int→(List (List Int))→Option ((List Y1)×Y0)) (ra12:Y0→Option ((List Y1)×Y0)) (ra13:Y0→(List Int)→Option ((List Y1)×Y0)) (t1:List Int) (v1:Y0):Option ((List Y1)×Bool×Y0):=
 (Yr v1).bind fun x2=>
 (Yv v1).bind fun x3=>
 cond x3 (
  some ([],false,v1)) (
  G (inR (v1.At+(1:Int)))<|
  cond (x2==(60:Int)) (
   (Y0i (⟨v1.L,v1.At+(1:Int),v1.Short,v1.Bad⟩:Y0)).bind fun x7=>
   some (x7.1,false,x7.2)) (
   cond (x2==(48:Int)) (
    (Yr (⟨v1.L,v1.At+(1:Int),v1.Short,v1.Bad⟩:Y0)).bind fun x9=>
    (Y6z x9 (26:Int)).bind fun x10=>
    cond (decide (x10<(0:Int))) (
     Y2u x10 (⟨v1.L,v1.At+(1:Int),decide ((v1.L.length:Int)≤(v1.At+(1:Int))), !(decide ((v1.L.length:Int)≤(v1.At+(1:Int))))⟩:Y0)) (
     Y2u x10 (⟨v1.L,v1.At+(1:Int),v1.Short,v1.Bad⟩:Y0))) (
    cond (x2==(56:Int)) (
     (ra12 (⟨v1.L,v1.At+(1:Int),v1.Short,v1.Bad⟩:Y0)).bind fun x16=>
     some (x16.1,false,x16.2)) (
     cond (x2==(41:Int)) (
      (ra13 (⟨v1.L,v1.At+(1:Int),v1.Short,v1.Bad⟩:Y0) t1).bind fun x18=>
      some (x18.1,false,x18.2)) (
      cond (x2==(35:Int)) (
       (ra9 (⟨v1.L,v1.At+(1:Int),v1.Short,v1.Bad⟩:Y0) t1 (1:Int) []).bind fun x20=>
       (Yr x20.2).bind fun x24=>
       G ((x24==(50:Int))=true→(0≤(0:Int)∧(0:Int)<(x20.1.length:Int)))<|
       (cond (x24==(50:Int)) (Y5b ((x20.1.getD (0:Int).toNat Yh).Op)) (some false)).bind fun x26=>
       cond (cond (x24==(50:Int)) x26 false) (
        Y0d (⟨x20.2.L,x20.2.At,x20.2.Short,true⟩:Y0) x20.1) (
        Y0d x20.2 x20.1)) (
       iter (fun loop (s:Y0×Int)=>Y03 ra9 t1 x2 loop s.1 s.2) 1000000 ((⟨v1.L,v1.At+(1:Int),v1.Short,v1.Bad⟩:Y0),(0:Int))))))))
def Y3r (ra9:Y0→(List Int)→Int→(List (List Int))→Option ((List Y1)×Y0)) (ra10:Y0→(List Int)→(List (List Int))→Option ((List Y1)×Y0)) (ra11:Y0→(List Int)→Option ((List Y1)×Bool×Y0)) (ra12:Y0→Option ((List Y1)×Y0)) (ra13:Y0→(List Int)→Option ((List Y1)×Y0)) (ra14:Y0→(List Int)→Int→Bool→Option ((List Y1)×Int×Y0)) (t0:Y0) (t1:List Int):Option ((List Y1)×Bool×Y0):=
 (Yv t0).bind fun x46=>
 cond (cond (!x46) (decide ((t0.L.length:Int)≤t0.At)) false) (
  Y1e ra9 ra12 ra13 t1 (⟨t0.L,t0.At,true,t0.Bad⟩:Y0)) (
  Y1e ra9 ra12 ra13 t1 t0)
def Y21 (x1:(List Y1)×Int×Y0) (v2:Y0) (v3:List Y1):Option ((List Y1)×Y0):=
 (Yg v2 (51:Int)).bind fun x4=>
 (Yg x4 (60:Int)).bind fun x5=>
 (Y0i x5).bind fun x6=>
 G (room 16 (v3.length+x6.1.length))<|
 (Yg x6.2 (34:Int)).bind fun x8=>
 (Y29 (12:Int) x1.2.1 (v3++x6.1)).bind fun x9=>
 some (x9,x8)
def Y7u (ra9:Y0→(List Int)→Int→(List (List Int))→Option ((List Y1)×Y0)) (ra10:Y0→(List Int)→(List (List Int))→Option ((List Y1)×Y0)) (ra11:Y0→(List Int)→Option ((List Y1)×Bool×Y0)) (ra12:Y0→Option ((List Y1)×Y0)) (ra13:Y0→(List Int)→Option ((List Y1)×Y0)) (ra14:Y0→(List Int)→Int→Bool→Option ((List Y1)×Int×Y0)) (t0:Y0):Option ((List Y1)×Y0):=
 (ra14 t0 [] (5:Int) true).bind fun x1=>
 cond (decide (x1.2.1<(2:Int))) (
  (Yg x1.2.2 (32:Int)).bind fun x11=>
  Y21 x1 x11 x1.1) (
  Y21 x1 x1.2.2 x1.1)
def Y22 (loop5:(Y0×(List Y1)×Int)→Option ((List Y1)×Y0)) (v4:Int) (x9:(List Y1)×Int×Y0) (v10:Y0) (v11:List Y1):Option ((List Y1)×Y0):=
 G (room 16 (v11.length+x9.1.length))<|
 G (inR (v4+(1:Int)))<|
 loop5 (v10,v11++x9.1,v4+(1:Int))
def Y09 (ra14:Y0→(List Int)→Int→Bool→Option ((List Y1)×Int×Y0)) (t1:List Int) (x1:(List Y1)×Int×Y0) (loop5:(Y0×(List Y1)×Int)→Option ((List Y1)×Y0)) (v2:Y0) (v3:List Y1) (v4:Int):Option ((List Y1)×Y0):=
 (Yr v2).bind fun x6=>
 cond (cond (x6==(51:Int)) (decide (v4<(4:Int))) false) (
  G (inR (v2.At+(1:Int)))<|
  (ra14 (⟨v2.L,v2.At+(1:Int),v2.Short,v2.Bad⟩:Y0) t1 x1.2.1 false).bind fun x9=>
  cond (decide (x9.2.1<x1.2.1)) (
   (Yg x9.2.2 (32:Int)).bind fun x15=>
   Y22 loop5 v4 x9 x15 v3) (
   Y22 loop5 v4 x9 x9.2.2 v3)) (
  (Yg v2 (43:Int)).bind fun x16=>
  G (inR ((8:Int)*v4))<|
  G (inR (((8:Int)*v4)+x1.2.1))<|
  (Y29 (13:Int) (((8:Int)*v4)+x1.2.1) v3).bind fun x19=>
  some (x19,x16))
def Y6p (ra9:Y0→(List Int)→Int→(List (List Int))→Option ((List Y1)×Y0)) (ra10:Y0→(List Int)→(List (List Int))→Option ((List Y1)×Y0)) (ra11:Y0→(List Int)→Option ((List Y1)×Bool×Y0)) (ra12:Y0→Option ((List Y1)×Y0)) (ra13:Y0→(List Int)→Option ((List Y1)×Y0)) (ra14:Y0→(List Int)→Int→Bool→Option ((List Y1)×Int×Y0)) (t0:Y0) (t1:List Int):Option ((List Y1)×Y0):=
 (ra14 t0 t1 (4:Int) false).bind fun x1=>
 iter (fun loop (s:Y0×(List Y1)×Int)=>Y09 ra14 t1 x1 loop s.1 s.2.1 s.2.2) 1000000 (x1.2.2,x1.1,(1:Int))
def Y6c (loop4:(Y0×(List Y1)×Int)→Option ((List Y1)×Int×Y0)) (v3:Int) (v5:Y0) (v6:List Y1):Option ((List Y1)×Int×Y0):=
 G (inR (v3+(1:Int)))<|
 loop4 (v5,v6,v3+(1:Int))
def Y1w (t2:Int) (loop4:(Y0×(List Y1)×Int)→Option ((List Y1)×Int×Y0)) (v3:Int) (v8:Y0) (v9:List Y1):Option ((List Y1)×Int×Y0):=
 (Yr v8).bind fun x10=>
 cond (cond (x10 !=(32:Int)) true (v3==t2)) (
  some (v9,v3,v8)) (
  G (inR (v8.At+(1:Int)))<|
  Y6c loop4 v3 (⟨v8.L,v8.At+(1:Int),v8.Short,v8.Bad⟩:Y0) v9)
def Y0e (ra9:Y0→(List Int)→Int→(List (List Int))→Option ((List Y1)×Y0)) (t1:List Int) (t2:Int) (t3:Bool) (loop4:(Y0×(List Y1)×Int)→Option ((List Y1)×Int×Y0)) (v1:Y0) (v2:List Y1) (v3:Int):Option ((List Y1)×Int×Y0):=
 cond t3 (
  (Yg v1 (60:Int)).bind fun x14=>
  (Y0i x14).bind fun x15=>
  G (room 16 (v2.length+x15.1.length))<|
  Y1w t2 loop4 v3 x15.2 (v2++x15.1)) (
  (ra9 v1 t1 (1:Int) []).bind fun x17=>
  G (room 16 (v2.length+x17.1.length))<|
  Y1w t2 loop4 v3 x17.2 (v2++x17.1))
def Y4k (ra9:Y0→(List Int)→Int→(List (List Int))→Option ((List Y1)×Y0)) (ra10:Y0→(List Int)→(List (List Int))→Option ((List Y1)×Y0)) (ra11:Y0→(List Int)→Option ((List Y1)×Bool×Y0)) (ra12:Y0→Option ((List Y1)×Y0)) (ra13:Y0→(List Int)→Option ((List Y1)×Y0)) (ra14:Y0→(List Int)→Int→Bool→Option ((List Y1)×Int×Y0)) (t0:Y0) (t1:List Int) (t2:Int) (t3:Bool):Option ((List Y1)×Int×Y0):=
 iter (fun loop (s:Y0×(List Y1)×Int)=>Y0e ra9 t1 t2 t3 loop s.1 s.2.1 s.2.2) 1000000 (t0,([]:List Y1),(1:Int))
mutual
def Y7:Nat→Y0→(List Int)→Int→(List (List Int))→Option ((List Y1)×Y0)
 |0,_,_,_,_=>none
 |n+1,t0,t1,t2,t3=>Y4v (Y7 n) (Yx n) (Yp n) (Y0a n) (Yz n) (Yl n) t0 t1 t2 t3
def Yx:Nat→Y0→(List Int)→(List (List Int))→Option ((List Y1)×Y0)
 |0,_,_,_=>none
 |n+1,t0,t1,t2=>Y4u (Y7 n) (Yx n) (Yp n) (Y0a n) (Yz n) (Yl n) t0 t1 t2
def Yp:Nat→Y0→(List Int)→Option ((List Y1)×Bool×Y0)
 |0,_,_=>none
 |n+1,t0,t1=>Y3r (Y7 n) (Yx n) (Yp n) (Y0a n) (Yz n) (Yl n) t0 t1
def Y0a:Nat→Y0→Option ((List Y1)×Y0)
 |0,_=>none
 |n+1,t0=>Y7u (Y7 n) (Yx n) (Yp n) (Y0a n) (Yz n) (Yl n) t0
def Yz:Nat→Y0→(List Int)→Option ((List Y1)×Y0)
 |0,_,_=>none
 |n+1,t0,t1=>Y6p (Y7 n) (Yx n) (Yp n) (Y0a n) (Yz n) (Yl n) t0 t1
def Yl:Nat→Y0→(List Int)→Int→Bool→Option ((List Y1)×Int×Y0)
 |0,_,_,_,_=>none
 |n+1,t0,t1,t2,t3=>Y4k (Y7 n) (Yx n) (Yp n) (Y0a n) (Yz n) (Yl n) t0 t1 t2 t3
end
def Y6h (t0:Y0) (t1:List Int) (t2:Int) (t3:List (List Int)):Option ((List Y1)×Y0):=Y7 1000000 t0 t1 t2 t3
end Go.Proofs.YtfpcbalkioolmaaDoor
