/- Own work. -/
import Derived.Test.YtkgfbpbndmklnaaDoorW2
set_option linter.unusedSimpArgs false
set_option linter.unusedVariables false
set_option maxRecDepth 100000
namespace Go.Proofs.YtkgfbpbndmklnaaDoor
open Go.Abs
def Y4t (ra4:Int→Option ByteArray) (t0:Int):Option ByteArray:=
 cond (decide (t0<10)) (
  G (inR (48+t0))<|
  some (Y3x [IntKind.wrap .u8 (48+t0)])) (
  G (inR (Int.tdiv t0 (10:Int)))<|
  (ra4 (Int.tdiv t0 (10:Int))).bind fun x4=>
  G (inR ((48:Int)+(Int.tmod t0 (10:Int))))<|
  G (x4.size+(Y3x [IntKind.wrap .u8 ((48:Int)+(Int.tmod t0 (10:Int)))]).size≤9223372036854775807)<|
  some (x4++(Y3x [IntKind.wrap .u8 ((48:Int)+(Int.tmod t0 (10:Int)))])))
section
variable (t0:Int)
abbrev Z48:=((48:Int)+(Int.tmod t0 (10:Int)))
abbrev Z49:=Y3x [IntKind.wrap .u8 (Z48 t0)]
abbrev Z4a:=Y3x [IntKind.wrap .u8 (48+t0)]
abbrev Z47:Env:=[(11,.j (Int.tdiv t0 (10:Int))),(10,.j t0),(4,.bool (decide (t0<10))),(0,.j t0)]
end
theorem f_R09_Digits_body_ok{ra4:Int→Option ByteArray}(hra4:∀(t0:Int) (r:ByteArray),ra4 t0=some r→QSpec Tryd.prog 57 [.int .i64 t0] (.string r)){t0:Int}{r:ByteArray}(H:Y4t ra4 t0=some r):QSpec Tryd.prog 57 [.int .i64 t0] (.string r):=by
 refine Yv Tryd.func57 rfl (by simp[Tryd.ntmps57]) ?_;rw[Tryd.ntmps57];unfold Y4t at H;change AW _ _ _ [(0,.j t0)] [] _;refine Y0 (OpsW.sg 1 [0] [(0,.j t0)] ?_);refine Y4 (Y0a (Y0 (OpsW.sg 2 [4,0] [(4,.bool (decide (t0<10))),(0,.j t0)] ?_)));refine Y4 (Yd (b:=decide (t0<10)) H rfl (fun c1 H=> ?_) (fun c1 H=> ?_))
 ·refine Y0 ?_;have⟨g2,H⟩:=Yh H;refine OpsW.sz 3 [7] [(7,.int .u8 (IntKind.wrap .u8 (48+t0)))] ⟨g2,trivial⟩ (OpsW.buildTI (enc:=eI .u8) [IntKind.wrap .u8 (48+t0)] rfl rfl rfl E24 (fun _=>rfl) (by decide) ⟨trivial,by kernel_rfl,by kernel_rfl,by kernel_rfl,rfl⟩ (OpsW.quietU (.string (Z4a t0)) rfl rfl (Quiet.toStr (e:=5) [IntKind.wrap .u8 (48+t0)] rfl (by kernel_rfl) (by kernel_rfl) (by kernel_rfl) (gpoU rfl ⟨trivial,SlV.im,SrcA.typed (enc:=eI .u8) (fun _=>rfl) (by kernel_rfl) [IntKind.wrap .u8 (48+t0)]⟩)) (OpsW.sg 1 [2] [(2,.string (Z4a t0))] (Y4 ?_))));obtain rfl:=X8 H;refine AW.recast (env':=[(2,.string (Z4a t0))]) (h':=[]) (StC.pure (.cons .im .nil)) (Y00 ?_)
  try simp only[Ex.t,Ex.b]
  exact Done.eq rfl (.tmp .nil)
 refine Yi (Y3a Tryd.checked.mixed (by kernel_rfl) ?_);have⟨g3,H⟩:=Yh H;refine QOps.sz (N:=20) 2 (Z47 t0) ⟨(by decide),g3,trivial⟩ ?_;have⟨x4,hx4,H⟩:=Y0b H;refine QOps.qcall rfl (by kernel_rfl) rfl (Yz trivial) (.cons (.pur rfl) .nil) (hra4 _ _ hx4) rfl ?_;have⟨g5,H⟩:=Yh H;refine QOps.sz (N:=20) 4 ((16,.int .u8 (IntKind.wrap .u8 (Z48 t0)))::(15,.j (Z48 t0))::(14,.j (Int.tmod t0 (10:Int)))::(13,.j t0)::(12,.string x4)::(Z47 t0)) ⟨(by decide),g5,trivial⟩ (QOps.buildTI (enc:=eI .u8) [IntKind.wrap .u8 (Z48 t0)] rfl rfl E24 (fun _=>rfl) (by decide) ⟨trivial,by kernel_rfl,by kernel_rfl,by kernel_rfl,rfl⟩ (QOps.quietU (.string (Z49 t0)) rfl (Quiet.toStr (e:=5) [IntKind.wrap .u8 (Z48 t0)] rfl (by kernel_rfl) (by kernel_rfl) (by kernel_rfl) (gpoU rfl ⟨trivial,SlV.im,SrcA.typed (enc:=eI .u8) (fun _=>rfl) (by kernel_rfl) [IntKind.wrap .u8 (Z48 t0)]⟩)) ?_));have⟨g6,H⟩:=Yh H;refine QOps.sz (N:=20) 2 ((2,.string (x4++(Z49 t0)))::(19,.string (x4++(Z49 t0)))::(18,.string (Z49 t0))::(17,sU [IntKind.wrap .u8 (Z48 t0)])::(16,.int .u8 (IntKind.wrap .u8 (Z48 t0)))::(15,.j (Z48 t0))::(14,.j (Int.tmod t0 (10:Int)))::(13,.j t0)::(12,.string x4)::(Z47 t0)) ⟨g6,trivial⟩<|QOps.nil (AW.trim [2] [(2,.string (x4++(Z49 t0)))] (by kernel_rfl) ?_);obtain rfl:=X8 H;refine AW.recast (env':=[(2,.string (x4++(Z49 t0)))]) (h':=[]) (StC.pure (.cons .im .nil)) (Y00 ?_)
 try simp only[Ex.t,Ex.b]
 exact Done.eq rfl (.tmp .nil)
def Y3w:Nat→Int→Option ByteArray
 |0,_=>none
 |n+1,t0=>Y4t (Y3w n) t0
theorem f_R09_Digits_all:∀n:Nat,(∀(t0:Int) (r:ByteArray),Y3w n t0=some r→QSpec Tryd.prog 57 [.int .i64 t0] (.string r))∧True
 |0=>by
  refine⟨?_,trivial⟩
  ·intro t0 r H;rw[Y3w] at H;cases H
 |n+1=>by
  have ih:=f_R09_Digits_all n;refine⟨?_,trivial⟩
  ·intro t0 r H;rw[Y3w] at H;exact f_R09_Digits_body_ok ih.1 H
def f_R09_Digits (t0:Int):Option ByteArray:=Y3w 1000000 t0
theorem f_R09_Digits_ok{t0:Int}{r:ByteArray}(H:f_R09_Digits t0=some r):QSpec Tryd.prog 57 [.int .i64 t0] (.string r):=
 (f_R09_Digits_all 1000000).1 t0 r H
def f_R09_names:Option ((List ByteArray)×(List Int)):=
 some ([(⟨#[102,114,97,99]⟩:ByteArray),(⟨#[112,111,119]⟩:ByteArray),(⟨#[105,100,120]⟩:ByteArray),(⟨#[114,111,111,116]⟩:ByteArray),(⟨#[99,97,110,99,101,108]⟩:ByteArray),(⟨#[115,117,109]⟩:ByteArray),(⟨#[109,97,116,114,105,120]⟩:ByteArray)],[(6:Int),(7:Int),(8:Int),(9:Int),(11:Int),(12:Int),(13:Int)])
section
abbrev Z4b:Nat×AV:=(0,slA eS [(⟨#[102,114,97,99]⟩:ByteArray),(⟨#[112,111,119]⟩:ByteArray),(⟨#[105,100,120]⟩:ByteArray),(⟨#[114,111,111,116]⟩:ByteArray),(⟨#[99,97,110,99,101,108]⟩:ByteArray),(⟨#[115,117,109]⟩:ByteArray),(⟨#[109,97,116,114,105,120]⟩:ByteArray)])
abbrev Z4c:Nat×AV:=(1,slA (eI .i64) [(6:Int),(7:Int),(8:Int),(9:Int),(11:Int),(12:Int),(13:Int)])
end
theorem f_R09_names_ok{r:(List ByteArray)×(List Int)}(H:f_R09_names=some r):QSpec Tryd.prog 80 [] (.tup [slA eS r.1,slA (eI .i64) r.2]):=by
 refine Yv Tryd.func80 rfl (by simp[Tryd.ntmps80]) ?_;rw[Tryd.ntmps80];unfold f_R09_names at H;change AW _ _ _ [] [] _;refine Y0 (OpsW.sg 2 [] [] ?_);refine Y4 (Y0 (OpsW.buildTI (enc:=eS) [(⟨#[102,114,97,99]⟩:ByteArray),(⟨#[112,111,119]⟩:ByteArray),(⟨#[105,100,120]⟩:ByteArray),(⟨#[114,111,111,116]⟩:ByteArray),(⟨#[99,97,110,99,101,108]⟩:ByteArray),(⟨#[115,117,109]⟩:ByteArray),(⟨#[109,97,116,114,105,120]⟩:ByteArray)] rfl rfl rfl E89 (fun _=>rfl) (by decide) ⟨trivial,by kernel_rfl,by kernel_rfl,by kernel_rfl,rfl⟩ ?_));refine OpsW.buildTI (enc:=eI .i64) [(6:Int),(7:Int),(8:Int),(9:Int),(11:Int),(12:Int),(13:Int)] rfl rfl rfl E42 (fun _=>rfl) (by decide) ⟨trivial,by kernel_rfl,by kernel_rfl,by kernel_rfl,rfl⟩ (OpsW.sg 2 [1,0] [Z4c,Z4b] (Y4 ?_));obtain rfl:=X8 H;refine AW.recast (env':=[Z4b,Z4c]) (h':=[]) (StC.pure (.i2 .nil)) (Y00 ?_)
 try simp only[Ex.t,Ex.b]
 exact Done.eq rfl (.tmp (.tmp .nil))
def f_R09_name_b1 (t0:Int) (x1:(List ByteArray)×(List Int)) (loop3:(Int)→Option ByteArray) (v2:Int):Option ByteArray:=
 cond (decide (v2<(x1.2.length:Int))) (
  G (0≤v2∧v2<(x1.2.length:Int))<|
  cond ((x1.2.getD v2.toNat 0)==t0) (
   G (0≤v2∧v2<(x1.1.length:Int))<|
   some (x1.1.getD v2.toNat ByteArray.empty)) (
   G (inR (v2+1))<|
   loop3 (v2+1))) (
  some (⟨#[]⟩:ByteArray))
def f_R09_name (t0:Int):Option ByteArray:=
 (f_R09_names).bind fun x1=>
 iter (fun loop (s:Int)=>f_R09_name_b1 t0 x1 loop s) 1000000 (0:Int)
section
variable (t0:Int) (v2:Int) (x1:(List ByteArray)×(List Int))
abbrev Z4d:Env:=[(0,.j t0),(3,slA eS x1.1),(4,slA (eI .i64) x1.2),(5,.j v2)]
end
theorem f_R09_name_ok{t0:Int}{r:ByteArray}(H:f_R09_name t0=some r):QSpec Tryd.prog 58 [.int .i64 t0] (.string r):=by
 refine Yv Tryd.func58 rfl (by simp[Tryd.ntmps58]) ?_;rw[Tryd.ntmps58];unfold f_R09_name at H;change AW _ _ _ [(0,.j t0)] [] _;refine Y0 (OpsW.sg 1 [0] [(0,.j t0)] ?_);refine Y4 (Y0 ?_);have⟨x1,hx1,H⟩:=Y0b H;refine Y0w rfl .nil (f_R09_names_ok hx1) (OpsW.sg 5 [4,3,0] [(4,slA (eI .i64) x1.2),(3,slA eS x1.1),(0,.j t0)] ?_);refine Y4 (Y0a (Y0 (OpsW.sg 1 [5,4,3,0] [(5,.j (0:Int)),(4,slA (eI .i64) x1.2),(3,slA eS x1.1),(0,.j t0)] ?_)));refine Y4 (Y04 ?_);refine Y3v (fun loop (s:Int)=>f_R09_name_b1 t0 x1 loop s) r (fun(s:Int)=>[(0,.j t0),(3,slA eS x1.1),(4,slA (eI .i64) x1.2),(5,.j s)]) (fun(s:Int)=>[]) ?_ 1000000 (0:Int) H (StC.pure (.i4 .nil));intro loop3 v2 H;unfold f_R09_name_b1 at H;change AW _ _ _ (Z4d t0 v2 x1) [] _;refine Y0a (Y0 (OpsW.sg 4 [13,0,3,4,5] ((13,.bool (decide (v2<(x1.2.length:Int))))::(Z4d t0 v2 x1)) ?_));refine Y4 (Yd (b:=decide (v2<(x1.2.length:Int))) H rfl (fun c4 H=> ?_) (fun c4 H=> ?_))
 ·refine Yi (Y0a (Y04 (Y0 ?_)));have⟨g5,H⟩:=Yh H;refine OpsW.sz 3 [18,0,3,4,5] ((18,.ipt (x1.2.flatMap (eI .i64)) (v2.toNat*1))::(Z4d t0 v2 x1)) ⟨g5,trivial⟩ (OpsW.asU (.j (x1.2.getD v2.toNat 0)) rfl rfl (T.load rfl trivial (by kernel_rfl) (Y5k (eI .i64) 1 (fun _=>rfl) x1.2 (0:Int) v2.toNat (ltN g5) (fun a=>.val (.j a)) (fun _=>rfl))) (OpsW.sg 2 [21,0,3,4,5] ((21,.bool ((x1.2.getD v2.toNat 0)==t0))::(Z4d t0 v2 x1)) (Y4 (Yd (b:=(x1.2.getD v2.toNat 0)==t0) H rfl (fun c6 H=> ?_) (fun c6 H=> ?_)))))
  ·refine Y0 ?_;have⟨g7,H⟩:=Yh H;refine OpsW.sz 3 [24] [(24,.ipt (x1.1.flatMap eS) (v2.toNat*1))] ⟨g7,trivial⟩ (OpsW.asU (.string (x1.1.getD v2.toNat ByteArray.empty)) rfl rfl (T.load rfl trivial (by kernel_rfl) (Y5k eS 1 (fun _=>rfl) x1.1 ByteArray.empty v2.toNat (ltN g7) (fun a=>.val (.string a)) (fun _=>rfl))) (OpsW.sg 1 [2] [(2,.string (x1.1.getD v2.toNat ByteArray.empty))] (Y4 ?_)));obtain rfl:=X8 H;refine AW.recast (env':=[(2,.string (x1.1.getD v2.toNat ByteArray.empty))]) (h':=[]) (StC.pure (.cons .im .nil)) (Y00 ?_)
   try simp only[Ex.t,Ex.b]
   exact Done.eq rfl (.tmp .nil)
  refine Yi (Ys ?_);have⟨g8,H⟩:=Yh H;refine OpsW.sz 3 [5,0,3,4] [(5,.j (v2+1)),(0,.j t0),(3,slA eS x1.1),(4,slA (eI .i64) x1.2)] ⟨g8,trivial⟩ (Y4 ?_);exact⟨v2+1,H,(StC.pure (.i4 .nil))⟩
 refine AW.exit<|Y0 (OpsW.sg 1 [2] [(2,.string (⟨#[]⟩:ByteArray))] ?_);refine Y4 ?_;obtain rfl:=X8 H;refine AW.recast (env':=[(2,.string (⟨#[]⟩:ByteArray))]) (h':=[]) (StC.pure (.cons .im .nil)) (Y00 ?_)
 try simp only[Ex.t,Ex.b]
 exact Done.eq rfl (.tmp .nil)
def Y5l (loop7:(ByteArray×Int)→Option ByteArray) (v6:Int) (v9:ByteArray):Option ByteArray:=
 G (inR (v6+1))<|
 loop7 (v9,v6+1)
def Y3m (ra5:(List Y2)→Int→Option ByteArray) (t0:List Y2) (x1:List Int) (loop7:(ByteArray×Int)→Option ByteArray) (v6:Int) (v11:ByteArray):Option ByteArray:=
 G (0≤v6∧v6<(x1.length:Int))<|
 (ra5 t0 (x1.getD v6.toNat 0)).bind fun x13=>
 G (v11.size+x13.size≤9223372036854775807)<|
 Y5l loop7 v6 (v11++x13)
def Y3l (ra5:(List Y2)→Int→Option ByteArray) (t0:List Y2) (x1:List Int) (loop7:(ByteArray×Int)→Option ByteArray) (v5:ByteArray) (v6:Int) (v16:ByteArray):Option ByteArray:=
 G (v5.size+v16.size≤9223372036854775807)<|
 Y3m ra5 t0 x1 loop7 v6 (v5++v16)
def Y3n (ra5:(List Y2)→Int→Option ByteArray) (t0:List Y2) (t1:Int) (x1:List Int) (loop7:(ByteArray×Int)→Option ByteArray) (v5:ByteArray) (v6:Int):Option ByteArray:=
 cond (decide (v6<(x1.length:Int))) (
  cond (decide (0<v6)) (
   G ((((t0.getD t1.toNat Yf).Op)==12)=true→inR ((x1.length:Int)-1))<|
   G (((!(cond (((t0.getD t1.toNat Yf).Op)==12) (v6==((x1.length:Int)-1)) false))&&(((t0.getD t1.toNat Yf).Op)==13))=true→(Int.tmod ((t0.getD t1.toNat Yf).N) (8:Int))≠0)<|
   cond (cond (cond (((t0.getD t1.toNat Yf).Op)==12) (v6==((x1.length:Int)-1)) false) true (cond (((t0.getD t1.toNat Yf).Op)==13) ((Int.tmod v6 (Int.tmod ((t0.getD t1.toNat Yf).N) (8:Int)))==0) false)) (
    Y3l ra5 t0 x1 loop7 v5 v6 (⟨#[59]⟩:ByteArray)) (
    Y3l ra5 t0 x1 loop7 v5 v6 (⟨#[44]⟩:ByteArray))) (
   Y3m ra5 t0 x1 loop7 v6 v5)) (
  G (v5.size+(⟨#[41]⟩:ByteArray).size≤9223372036854775807)<|
  some (v5++(⟨#[41]⟩:ByteArray)))
def Y4h (ra5:(List Y2)→Int→Option ByteArray) (t0:List Y2) (t1:Int) (x1:List Int):Option ByteArray:=
 (f_R09_name ((t0.getD t1.toNat Yf).Op)).bind fun x3=>
 G (x3.size+(⟨#[40]⟩:ByteArray).size≤9223372036854775807)<|
 iter (fun loop (s:ByteArray×Int)=>Y3n ra5 t0 t1 x1 loop s.1 s.2) 1000000 (x3++(⟨#[40]⟩:ByteArray),(0:Int))
def Y1f (ra5:(List Y2)→Int→Option ByteArray) (t0:List Y2) (t1:Int) (x1:List Int) (v26:Bool):Option ByteArray:=
 cond v26 (
  G (0≤((t0.getD t1.toNat Yf).Op)∧((t0.getD t1.toNat Yf).Op)<([(⟨#[]⟩:ByteArray),(⟨#[]⟩:ByteArray),(⟨#[43]⟩:ByteArray),(⟨#[45]⟩:ByteArray),(⟨#[42]⟩:ByteArray),(⟨#[61]⟩:ByteArray)].length:Int))<|
  G (0≤(0:Int)∧(0:Int)<(x1.length:Int))<|
  (ra5 t0 (x1.getD (0:Int).toNat (0:Int))).bind fun x30=>
  G (x30.size+([(⟨#[]⟩:ByteArray),(⟨#[]⟩:ByteArray),(⟨#[43]⟩:ByteArray),(⟨#[45]⟩:ByteArray),(⟨#[42]⟩:ByteArray),(⟨#[61]⟩:ByteArray)].getD ((t0.getD t1.toNat Yf).Op).toNat ByteArray.empty).size≤9223372036854775807)<|
  G (0≤(1:Int)∧(1:Int)<(x1.length:Int))<|
  (ra5 t0 (x1.getD (1:Int).toNat (0:Int))).bind fun x33=>
  G ((x30++([(⟨#[]⟩:ByteArray),(⟨#[]⟩:ByteArray),(⟨#[43]⟩:ByteArray),(⟨#[45]⟩:ByteArray),(⟨#[42]⟩:ByteArray),(⟨#[61]⟩:ByteArray)].getD ((t0.getD t1.toNat Yf).Op).toNat ByteArray.empty)).size+x33.size≤9223372036854775807)<|
  some ((x30++([(⟨#[]⟩:ByteArray),(⟨#[]⟩:ByteArray),(⟨#[43]⟩:ByteArray),(⟨#[45]⟩:ByteArray),(⟨#[42]⟩:ByteArray),(⟨#[61]⟩:ByteArray)].getD ((t0.getD t1.toNat Yf).Op).toNat ByteArray.empty))++x33)) (
  Y4h ra5 t0 t1 x1)
def f_R09_text_body (ra5:(List Y2)→Int→Option ByteArray) (t0:List Y2) (t1:Int):Option ByteArray:=
 (Y4l t0 t1).bind fun x1=>
 G (0≤t1∧t1<(t0.length:Int))<|
 cond (((t0.getD t1.toNat Yf).Op)==0) (
  (f_R09_Digits ((t0.getD t1.toNat Yf).N)).bind fun x23=>
  some x23) (
  cond (((t0.getD t1.toNat Yf).Op)==1) (
   G (inR (97+((t0.getD t1.toNat Yf).N)))<|
   some (Y3x [IntKind.wrap .u8 (97+((t0.getD t1.toNat Yf).N))])) (
   cond (((t0.getD t1.toNat Yf).Op)==2) (
    Y1f ra5 t0 t1 x1 (((t0.getD t1.toNat Yf).Op)==2)) (
    cond (((t0.getD t1.toNat Yf).Op)==3) (
     Y1f ra5 t0 t1 x1 (((t0.getD t1.toNat Yf).Op)==3)) (
     cond (((t0.getD t1.toNat Yf).Op)==4) (
      Y1f ra5 t0 t1 x1 (((t0.getD t1.toNat Yf).Op)==4)) (
      Y1f ra5 t0 t1 x1 (((t0.getD t1.toNat Yf).Op)==5))))))
section
variable (t0:List Y2) (t1:Int) (v6:Int) (x1:List Int)
abbrev Z4k:=([(⟨#[]⟩:ByteArray),(⟨#[]⟩:ByteArray),(⟨#[43]⟩:ByteArray),(⟨#[45]⟩:ByteArray),(⟨#[42]⟩:ByteArray),(⟨#[61]⟩:ByteArray)].getD ((t0.getD t1.toNat Yf).Op).toNat ByteArray.empty)
abbrev Z4l:=t0.getD t1.toNat Yf
abbrev Z4m:Nat×AV:=(5,slA (eI .i64) x1)
abbrev Z4n:Nat×AV:=(0,slA Y5 t0)
abbrev Z4o:Nat×AV:=(6,.ref 6 0 0)
abbrev Z4p:=(Z4l t0 t1).Op
abbrev Z4q:List AV:=[.j (Z4p t0 t1),.j ((Z4l t0 t1).N)]
abbrev Z4r:Nat×AV:=(45,.ipt (x1.flatMap (eI .i64)) ((0:Int).toNat*1))
abbrev Z4s:=Y3x [IntKind.wrap .u8 (97+((Z4l t0 t1).N))]
abbrev Z4t:=(cond ((Z4p t0 t1)==13) ((Int.tmod v6 (Int.tmod ((Z4l t0 t1).N) (8:Int)))==0) false)
abbrev Z4u:=(⟨#[]⟩:ByteArray)
abbrev Z4v:=(x1.getD (0:Int).toNat (0:Int))
abbrev Z4e:Hp:=[(6,⟨0,true,26,2,(Z4q t0 t1)⟩)]
abbrev Z4f:Env:=[(19,.j (Z4p t0 t1)),(Z4m x1),Z4o,(Z4n t0)]
abbrev Z4g:Env:=[(Z4n t0),(Z4m x1),Z4o]
abbrev Z4h:Env:=[(16,.ipt (t0.flatMap Y5) (t1.toNat*2)),(15,.j t1),(14,slA Y5 t0),(13,slA (eI .i64) x1),(12,.j t1),(11,slA Y5 t0),(Z4n t0),(1,.j t1)]
abbrev Z4i:Env:=[(Z4n t0),(Z4m x1)]
abbrev Z4j:Env:=[(Z4m x1),Z4o,(Z4n t0)]
end
theorem f_R09_text_body_ok{ra5:(List Y2)→Int→Option ByteArray}(hra5:∀(t0:List Y2) (t1:Int) (r:ByteArray),ra5 t0 t1=some r→QSpec Tryd.prog 48 [slA Y5 t0,.int .i64 t1] (.string r)){t0:List Y2}{t1:Int}{r:ByteArray}(H:f_R09_text_body ra5 t0 t1=some r):QSpec Tryd.prog 48 [slA Y5 t0,.int .i64 t1] (.string r):=by
 refine Yv Tryd.func48 rfl (by simp[Tryd.ntmps48]) ?_;rw[Tryd.ntmps48];unfold f_R09_text_body at H;change AW _ _ _ [(Z4n t0),(1,.j t1)] [] _;refine Y0 (OpsW.sg 1 [0,1] [(Z4n t0),(1,.j t1)] ?_);refine Y4 (AW.drawGSeq 9 [(7,6)] Tryd.checked.mixed (by kernel_rfl) (by kernel_rfl) ?_);refine DOps.q 7 (by kernel_rfl)<|QOps.sz (N:=104) 2 [(12,.j t1),(11,slA Y5 t0),(Z4n t0),(1,.j t1)] trivial ?_;have⟨x1,hx1,H⟩:=Y0b H;refine QOps.qcall rfl (by kernel_rfl) rfl (Yz trivial) (.cons (.pur rfl) (.cons (.pur rfl) .nil)) (f_R09_Operands_ok hx1) rfl ?_;have⟨g2,H⟩:=Yh H;refine QOps.sz (N:=104) 3 (Z4h t0 t1 x1) ⟨g2,trivial⟩ (QOps.asU (.agg (Z4q t0 t1)) rfl (T.loadAgg (cs:=t0.flatMap Y5) (off:=t1.toNat*2) (ds:=Y5 (Z4l t0 t1)) rfl trivial (by kernel_rfl) (by have:=Y1n Y5 2 (fun _=>rfl) t0;have:=(ltN g2);first|omega|(simp only[Z4l,Z4p] at*;omega)) (fm_elem Y5 2 (fun _=>rfl) t0 Yf t1.toNat (ltN g2))) ?_);refine QOps.nil (DOps.e 6 rfl rfl rfl (by exact fun g hg hb=>RStep.alloc rfl 6 (hg.trans rfl) (by kernel_rfl:zc Tryd.prog 26=some [.j 0,.j 0]) (by kernel_rfl)) ?_);refine DOps.q 1 (by kernel_rfl)<|QOps.sz (N:=104) 1 ((Z4m x1)::Z4o::(17,.agg (Z4q t0 t1))::(Z4h t0 t1 x1)) trivial<|QOps.nil (DOps.nil ?_);refine OpsW.sg 0 [5,6,17,0] [(Z4m x1),Z4o,(17,.agg (Z4q t0 t1)),(Z4n t0)] (Y3r rfl rfl rfl rfl trivial trivial rfl rfl rfl (by kernel_rfl) (Y0o (by kernel_rfl)) (Xb (by kernel_rfl)) ?_)
 change OpsW _ _ _ _ _ [(6,⟨0,true,26,2,(Z4q t0 t1)⟩),(6,⟨0,true,26,2,[.j (0:Int),.j (0:Int)]⟩)] _;refine OpsW.sg 0 [5,6,0] (Z4j t0 x1) (OpsW.rc (Z4j t0 x1) (Z4e t0 t1) (StC.mk (phi [(6,some 6)]) (.o rfl (.i2 .nil) .nil) rfl (.cons .im (.cons (.r rfl) (.cons .im .nil)))) (Y4 ?_));refine Y3d (fun(y:Unit)=>Y4h ra5 t0 t1 x1) r (fun(y:Unit)=>(Z4g t0 x1)) (fun(y:Unit)=>(Z4e t0 t1)) ?_ ?_
 ·refine Y0 (OpsW.sg 2 [19,5,6,0] (Z4f t0 t1 x1) ?_);refine Y4 (Y04 (Y0 (OpsW.sg 2 [20,19,5,6,0] ((20,.bool ((Z4p t0 t1)==0))::(Z4f t0 t1 x1)) ?_)));refine Y4 (Yd (b:=(Z4p t0 t1)==0) H rfl (fun c22 H=> ?_) (fun c22 H=> ?_))
  ·refine Y0 (OpsW.sg 2 [23] [(23,.j ((Z4l t0 t1).N))] ?_);have⟨x23,hx23,H⟩:=Y0b H;refine Y0w rfl (.cons (.pur rfl) .nil) (f_R09_Digits_ok hx23) (OpsW.sg 1 [4] [(4,.string x23)] (Y4 ?_));obtain rfl:=X8 H;refine AW.recast (env':=[(4,.string x23)]) (h':=[]) (StC.pure (.cons .im .nil)) (Y00 ?_)
   try simp only[Ex.t,Ex.b]
   exact Done.eq rfl (.tmp .nil)
  refine Y0 (OpsW.sg 2 [25,19,5,6,0] ((25,.bool ((Z4p t0 t1)==1))::(Z4f t0 t1 x1)) ?_);refine Y4 (Yd (b:=(Z4p t0 t1)==1) H rfl (fun c24 H=> ?_) (fun c24 H=> ?_))
  ·refine Y0 ?_;have⟨g25,H⟩:=Yh H;refine OpsW.sz 4 [30] [(30,.int .u8 (IntKind.wrap .u8 (97+((Z4l t0 t1).N))))] ⟨g25,trivial⟩ (OpsW.buildTI (enc:=eI .u8) [IntKind.wrap .u8 (97+((Z4l t0 t1).N))] rfl rfl rfl E24 (fun _=>rfl) (by decide) ⟨trivial,by kernel_rfl,by kernel_rfl,by kernel_rfl,rfl⟩ (OpsW.quietU (.string (Z4s t0 t1)) rfl rfl (Quiet.toStr (e:=5) [IntKind.wrap .u8 (97+((Z4l t0 t1).N))] rfl (by kernel_rfl) (by kernel_rfl) (by kernel_rfl) (gpoU rfl ⟨trivial,SlV.im,SrcA.typed (enc:=eI .u8) (fun _=>rfl) (by kernel_rfl) [IntKind.wrap .u8 (97+((Z4l t0 t1).N))]⟩)) (OpsW.sg 1 [4] [(4,.string (Z4s t0 t1))] (Y4 ?_))));obtain rfl:=X8 H;refine AW.recast (env':=[(4,.string (Z4s t0 t1))]) (h':=[]) (StC.pure (.cons .im .nil)) (Y00 ?_)
   try simp only[Ex.t,Ex.b]
   exact Done.eq rfl (.tmp .nil)
  refine Y3d (fun(y:Bool)=>Y1f ra5 t0 t1 x1 y) r (fun(y:Bool)=>[(Z4n t0),(Z4m x1),Z4o,(33,.bool y)]) (fun(y:Bool)=>(Z4e t0 t1)) ?_ ?_
  ·refine Y0 (OpsW.sg 2 [33,19,5,6,0] ((33,.bool ((Z4p t0 t1)==2))::(Z4f t0 t1 x1)) ?_);refine Y4 (Yd (b:=(Z4p t0 t1)==2) H rfl (fun c35 H=> ?_) (fun c35 H=> ?_))
   ·refine Yi ?_;exact⟨(Z4p t0 t1)==2,H,(StC.mk (phi [(6,some 6)]) (.o rfl (.i2 .nil) .nil) rfl (.i2 (.cons (.r rfl) (.cons .im .nil))))⟩
   refine Y0 (OpsW.sg 2 [33,19,5,6,0] ((33,.bool ((Z4p t0 t1)==3))::(Z4f t0 t1 x1)) ?_);refine Y4 (Yd (b:=(Z4p t0 t1)==3) H rfl (fun c36 H=> ?_) (fun c36 H=> ?_))
   ·refine Yi ?_;exact⟨(Z4p t0 t1)==3,H,(StC.mk (phi [(6,some 6)]) (.o rfl (.i2 .nil) .nil) rfl (.i2 (.cons (.r rfl) (.cons .im .nil))))⟩
   refine Y0 (OpsW.sg 2 [33,19,5,6,0] ((33,.bool ((Z4p t0 t1)==4))::(Z4f t0 t1 x1)) ?_);refine Y4 (Yd (b:=(Z4p t0 t1)==4) H rfl (fun c37 H=> ?_) (fun c37 H=> ?_))
   ·refine Yi ?_;exact⟨(Z4p t0 t1)==4,H,(StC.mk (phi [(6,some 6)]) (.o rfl (.i2 .nil) .nil) rfl (.i2 (.cons (.r rfl) (.cons .im .nil))))⟩
   refine Ys (OpsW.sg 2 [33,5,6,0] ((33,.bool ((Z4p t0 t1)==5))::(Z4j t0 x1)) ?_);refine Y4 ?_;exact⟨(Z4p t0 t1)==5,H,(StC.mk (phi [(6,some 6)]) (.o rfl (.i2 .nil) .nil) rfl (.i2 (.cons (.r rfl) (.cons .im .nil))))⟩
  intro v26 H;unfold Y1f at H;change AW _ _ _ [(Z4n t0),(Z4m x1),Z4o,(33,.bool v26)] (Z4e t0 t1) _;refine Yd (b:=v26) H rfl (fun c27 H=> ?_) (fun c27 H=> ?_)
  ·refine Y0 (OpsW.buildTI (enc:=eS) [Z4u,Z4u,(⟨#[43]⟩:ByteArray),(⟨#[45]⟩:ByteArray),(⟨#[42]⟩:ByteArray),(⟨#[61]⟩:ByteArray)] rfl rfl rfl E89 (fun _=>rfl) (by decide) ⟨trivial,by kernel_rfl,by kernel_rfl,by kernel_rfl,rfl⟩ ?_);have⟨g28,H⟩:=Yh H;refine OpsW.sz 3 [41,0,5] ((41,.ipt ([Z4u,Z4u,(⟨#[43]⟩:ByteArray),(⟨#[45]⟩:ByteArray),(⟨#[42]⟩:ByteArray),(⟨#[61]⟩:ByteArray)].flatMap eS) ((Z4p t0 t1).toNat*1))::(Z4i t0 x1)) ⟨g28,trivial⟩ (OpsW.asU (.string (Z4k t0 t1)) rfl rfl (T.load rfl trivial (by kernel_rfl) (Y5k eS 1 (fun _=>rfl) [Z4u,Z4u,(⟨#[43]⟩:ByteArray),(⟨#[45]⟩:ByteArray),(⟨#[42]⟩:ByteArray),(⟨#[61]⟩:ByteArray)] ByteArray.empty (Z4p t0 t1).toNat (ltN g28) (fun a=>.val (.string a)) (fun _=>rfl))) (OpsW.sg 1 [7,0,5] ((7,.string (Z4k t0 t1))::(Z4i t0 x1)) ?_));refine Y4 (Y3a Tryd.checked.mixed (by kernel_rfl) ?_);have⟨g29,H⟩:=Yh H;refine QOps.sz (N:=104) 3 ((Z4r x1)::(44,slA (eI .i64) x1)::(43,slA Y5 t0)::(7,.string (Z4k t0 t1))::(Z4i t0 x1)) ⟨g29,trivial⟩ (QOps.asU (.j (Z4v x1)) rfl (T.load rfl trivial (by kernel_rfl) (Y5k (eI .i64) 1 (fun _=>rfl) x1 (0:Int) (0:Int).toNat (ltN g29) (fun a=>.val (.j a)) (fun _=>rfl))) ?_);have⟨x30,hx30,H⟩:=Y0b H;refine QOps.qcall rfl (by kernel_rfl) rfl (Yz trivial) (.cons (.pur rfl) (.cons (.pur rfl) .nil)) (hra5 _ _ _ hx30) rfl ?_;have⟨g31,H⟩:=Yh H;have⟨g32,H⟩:=Yh H
   refine QOps.sz (N:=104) 5 ((52,.ipt (x1.flatMap (eI .i64)) ((1:Int).toNat*1))::(51,slA (eI .i64) x1)::(50,slA Y5 t0)::(49,.string (x30++(Z4k t0 t1)))::(48,.string (Z4k t0 t1))::(47,.string x30)::(46,.j (Z4v x1))::(Z4r x1)::(44,slA (eI .i64) x1)::(43,slA Y5 t0)::(7,.string (Z4k t0 t1))::(Z4i t0 x1)) ⟨g31,g32,trivial⟩ (QOps.asU (.j (x1.getD (1:Int).toNat (0:Int))) rfl (T.load rfl trivial (by kernel_rfl) (Y5k (eI .i64) 1 (fun _=>rfl) x1 (0:Int) (1:Int).toNat (ltN g32) (fun a=>.val (.j a)) (fun _=>rfl))) ?_);have⟨x33,hx33,H⟩:=Y0b H;refine QOps.qcall rfl (by kernel_rfl) rfl (Yz trivial) (.cons (.pur rfl) (.cons (.pur rfl) .nil)) (hra5 _ _ _ hx33) rfl ?_;have⟨g34,H⟩:=Yh H;refine QOps.sz (N:=104) 2 ((4,.string ((x30++(Z4k t0 t1))++x33))::(55,.string ((x30++(Z4k t0 t1))++x33))::(54,.string x33)::(53,.j (x1.getD (1:Int).toNat (0:Int)))::(52,.ipt (x1.flatMap (eI .i64)) ((1:Int).toNat*1))::(51,slA (eI .i64) x1)::(50,slA Y5 t0)::(49,.string (x30++(Z4k t0 t1)))::(48,.string (Z4k t0 t1))::(47,.string x30)::(46,.j (Z4v x1))::(Z4r x1)::(44,slA (eI .i64) x1)::(43,slA Y5 t0)::(7,.string (Z4k t0 t1))::(Z4i t0 x1)) ⟨g34,trivial⟩ ?_;refine QOps.nil (AW.trim [4] [(4,.string ((x30++(Z4k t0 t1))++x33))] (by kernel_rfl) ?_);obtain rfl:=X8 H;refine AW.recast (env':=[(4,.string ((x30++(Z4k t0 t1))++x33))]) (h':=[]) (StC.pure (.cons .im .nil)) (Y00 ?_)
   try simp only[Ex.t,Ex.b]
   exact Done.eq rfl (.tmp .nil)
  refine Yi ?_;exact⟨(),H,(StC.mk (phi [(6,some 6)]) (.o rfl (.i2 .nil) .nil) rfl (.i2 (.cons (.r rfl) .nil)))⟩
 rintro⟨⟩ H;unfold Y4h at H;change AW _ _ _ (Z4g t0 x1) (Z4e t0 t1) _;refine Y0 (OpsW.sg 2 [57,0,5,6] ((57,.j (Z4p t0 t1))::(Z4g t0 x1)) ?_);have⟨x3,hx3,H⟩:=Y0b H;refine Y0w rfl (.cons (.pur rfl) .nil) (f_R09_name_ok hx3) ?_;have⟨g4,H⟩:=Yh H;refine OpsW.sz 2 [8,0,5,6] ((8,.string (x3++(⟨#[40]⟩:ByteArray)))::(Z4g t0 x1)) ⟨g4,trivial⟩<|Y4 (Y0a (Y0 (OpsW.sg 1 [9,8,0,5,6] ((9,.j (0:Int))::(8,.string (x3++(⟨#[40]⟩:ByteArray)))::(Z4g t0 x1)) ?_)));refine Y4 (Y04 ?_);refine Y3v (fun loop (s:ByteArray×Int)=>Y3n ra5 t0 t1 x1 loop s.1 s.2) r (fun(s:ByteArray×Int)=>[(Z4n t0),(Z4m x1),Z4o,(8,.string s.1),(9,.j s.2)]) (fun(s:ByteArray×Int)=>(Z4e t0 t1)) ?_ 1000000 (x3++(⟨#[40]⟩:ByteArray),(0:Int)) H (StC.mk (phi [(6,some 6)]) (.o rfl (.i2 .nil) .nil) rfl (.i2 (.cons (.r rfl) (.i2 .nil))));intro loop7 s H;have⟨v5,v6⟩:=s;unfold Y3n at H;change AW _ _ _ [(Z4n t0),(Z4m x1),Z4o,(8,.string v5),(9,.j v6)] (Z4e t0 t1) _;refine Y0a (Y0 (OpsW.sg 4 [63,0,5,6,8,9] [(63,.bool (decide (v6<(x1.length:Int)))),(Z4n t0),(Z4m x1),Z4o,(8,.string v5),(9,.j v6)] ?_));refine Y4 (Yd (b:=decide (v6<(x1.length:Int))) H rfl (fun c8 H=> ?_) (fun c8 H=> ?_))
 ·refine Yi<|Y3d (fun(y:ByteArray)=>Y5l loop7 v6 y) r (fun(y:ByteArray)=>[(Z4n t0),(Z4m x1),Z4o,(8,.string y),(9,.j v6)]) (fun(y:ByteArray)=>(Z4e t0 t1)) ?_ ?_
  ·refine Y04<|Y3d (fun(y:ByteArray)=>Y3m ra5 t0 x1 loop7 v6 y) r (fun(y:ByteArray)=>[(Z4n t0),(Z4m x1),Z4o,(8,.string y),(9,.j v6)]) (fun(y:ByteArray)=>(Z4e t0 t1)) ?_ ?_
   ·refine Y0 (OpsW.sg 2 [67,0,5,6,8,9] [(67,.bool (decide (0<v6))),(Z4n t0),(Z4m x1),Z4o,(8,.string v5),(9,.j v6)] ?_);refine Y4 (Yd (b:=decide (0<v6)) H rfl (fun c15 H=> ?_) (fun c15 H=> ?_))
    ·refine Y0 (OpsW.sg 1 [10,0,5,6,8,9] [(10,.string (⟨#[44]⟩:ByteArray)),(Z4n t0),(Z4m x1),Z4o,(8,.string v5),(9,.j v6)] ?_);refine Y4<|Y3d (fun(y:ByteArray)=>Y3l ra5 t0 x1 loop7 v5 v6 y) r (fun(y:ByteArray)=>[(Z4n t0),(Z4m x1),Z4o,(8,.string v5),(9,.j v6),(10,.string y)]) (fun(y:ByteArray)=>(Z4e t0 t1)) ?_ ?_
     ·refine Y0 ?_;have⟨g18,H⟩:=Yh H;have⟨g19,H⟩:=Yh H;refine OpsW.sz 23 [90,10,0,5,6,8,9] [(90,.bool (cond (cond ((Z4p t0 t1)==12) (v6==((x1.length:Int)-1)) false) true (Z4t t0 t1 v6))),(10,.string (⟨#[44]⟩:ByteArray)),(Z4n t0),(Z4m x1),Z4o,(8,.string v5),(9,.j v6)] ⟨(fun h=>h),(fun h=>h),g18,(fun h=>h),(fun h=>h),(fun h=>by first|exact h|(simpa using h)|grind),(fun h=>h),(fun h=>h),(fun h=>h),(fun h=>h),(fun h=>h),(fun _=>by decide),(fun h=>h),(fun h=>h),g19,(fun h=>h),(fun h=>h),(fun h0 h=>by first|exact h|(simp[h0,h];done)|(simp at h0 h⊢;simp[h0,h];done)|(simp_all;done)|grind),(fun h=>by first|exact h|(simpa using h)|grind),trivial⟩ (Y4 (Yd (b:=cond (cond ((Z4p t0 t1)==12) (v6==((x1.length:Int)-1)) false) true (Z4t t0 t1 v6)) H rfl (fun c20 H=> ?_) (fun c20 H=> ?_)))
      ·refine Ys (OpsW.sg 1 [10,0,5,6,8,9] [(10,.string (⟨#[59]⟩:ByteArray)),(Z4n t0),(Z4m x1),Z4o,(8,.string v5),(9,.j v6)] ?_);refine Y4 ?_;exact⟨(⟨#[59]⟩:ByteArray),H,(StC.mk (phi [(6,some 6)]) (.o rfl (.i2 .nil) .nil) rfl (.i2 (.cons (.r rfl) (.i3 .nil))))⟩
      refine Yi ?_;exact⟨(⟨#[44]⟩:ByteArray),H,(StC.mk (phi [(6,some 6)]) (.o rfl (.i2 .nil) .nil) rfl (.i2 (.cons (.r rfl) (.i3 .nil))))⟩
     intro v16 H;unfold Y3l at H;change AW _ _ _ [(Z4n t0),(Z4m x1),Z4o,(8,.string v5),(9,.j v6),(10,.string v16)] (Z4e t0 t1) _;refine Ys ?_;have⟨g17,H⟩:=Yh H;refine OpsW.sz 4 [8,0,5,6,9] [(8,.string (v5++v16)),(Z4n t0),(Z4m x1),Z4o,(9,.j v6)] ⟨g17,trivial⟩ (Y4 ?_);exact⟨v5++v16,H,(StC.mk (phi [(6,some 6)]) (.o rfl (.i2 .nil) .nil) rfl (.i2 (.cons (.r rfl) (.i2 .nil))))⟩
    refine Yi ?_;exact⟨v5,H,(StC.mk (phi [(6,some 6)]) (.o rfl (.i2 .nil) .nil) rfl (.i2 (.cons (.r rfl) (.i2 .nil))))⟩
   intro v11 H;unfold Y3m at H;change AW _ _ _ [(Z4n t0),(Z4m x1),Z4o,(8,.string v11),(9,.j v6)] (Z4e t0 t1) _;refine Ys ?_;have⟨g12,H⟩:=Yh H;refine OpsW.sz 5 [98,95,94,0,5,6,8,9] [(98,.ipt (x1.flatMap (eI .i64)) (v6.toNat*1)),(95,slA Y5 t0),(94,.string v11),(Z4n t0),(Z4m x1),Z4o,(8,.string v11),(9,.j v6)] ⟨g12,trivial⟩ (OpsW.asU (.j (x1.getD v6.toNat 0)) rfl rfl (T.load rfl trivial (by kernel_rfl) (Y5k (eI .i64) 1 (fun _=>rfl) x1 (0:Int) v6.toNat (ltN g12) (fun a=>.val (.j a)) (fun _=>rfl))) ?_);have⟨x13,hx13,H⟩:=Y0b H;refine Y0w rfl (.cons (.pur rfl) (.cons (.pur rfl) .nil)) (hra5 _ _ _ hx13) ?_;have⟨g14,H⟩:=Yh H;refine OpsW.sz 2 [8,0,5,6,9] [(8,.string (v11++x13)),(Z4n t0),(Z4m x1),Z4o,(9,.j v6)] ⟨g14,trivial⟩ (Y4 ?_);exact⟨v11++x13,H,(StC.mk (phi [(6,some 6)]) (.o rfl (.i2 .nil) .nil) rfl (.i2 (.cons (.r rfl) (.i2 .nil))))⟩
  intro v9 H;unfold Y5l at H;change AW _ _ _ [(Z4n t0),(Z4m x1),Z4o,(8,.string v9),(9,.j v6)] (Z4e t0 t1) _;refine Ys ?_;have⟨g10,H⟩:=Yh H;refine OpsW.sz 3 [9,0,5,6,8] [(9,.j (v6+1)),(Z4n t0),(Z4m x1),Z4o,(8,.string v9)] ⟨g10,trivial⟩ (Y4 ?_);exact⟨(v9,v6+1),H,(StC.mk (phi [(6,some 6)]) (.o rfl (.i2 .nil) .nil) rfl (.i2 (.cons (.r rfl) (.i2 .nil))))⟩
 refine AW.exit (Y0 ?_);have⟨g21,H⟩:=Yh H;refine OpsW.sz 3 [4] [(4,.string (v5++(⟨#[41]⟩:ByteArray)))] ⟨g21,trivial⟩ (Y4 ?_);obtain rfl:=X8 H;refine AW.recast (env':=[(4,.string (v5++(⟨#[41]⟩:ByteArray)))]) (h':=[]) (StC.pure (.cons .im .nil)) (Y00 ?_)
 try simp only[Ex.t,Ex.b]
 exact Done.eq rfl (.tmp .nil)
def Y34:Nat→(List Y2)→Int→Option ByteArray
 |0,_,_=>none
 |n+1,t0,t1=>f_R09_text_body (Y34 n) t0 t1
theorem f_R09_text_all:∀n:Nat,(∀(t0:List Y2) (t1:Int) (r:ByteArray),Y34 n t0 t1=some r→QSpec Tryd.prog 48 [slA Y5 t0,.int .i64 t1] (.string r))∧True
 |0=>by
  refine⟨?_,trivial⟩
  ·intro t0 t1 r H;rw[Y34] at H;cases H
 |n+1=>by
  have ih:=f_R09_text_all n;refine⟨?_,trivial⟩
  ·intro t0 t1 r H;rw[Y34] at H;exact f_R09_text_body_ok ih.1 H
def f_R09_text (t0:List Y2) (t1:Int):Option ByteArray:=Y34 1000000 t0 t1
theorem f_R09_text_ok{t0:List Y2}{t1:Int}{r:ByteArray}(H:f_R09_text t0 t1=some r):QSpec Tryd.prog 48 [slA Y5 t0,.int .i64 t1] (.string r):=
 (f_R09_text_all 1000000).1 t0 t1 r H
def f_R09_Text (t0:List Y2):Option ByteArray:=
 (f_R09_text t0 (0:Int)).bind fun x1=>
 some x1
theorem f_R09_Text_ok{t0:List Y2}{r:ByteArray}(H:f_R09_Text t0=some r):QSpec Tryd.prog 30 [slA Y5 t0] (.string r):=by
 refine Yv Tryd.func30 rfl (by simp[Tryd.ntmps30]) ?_;rw[Tryd.ntmps30];unfold f_R09_Text at H;change AW _ _ _ [(0,slA Y5 t0)] [] _;refine Y0 (OpsW.sg 1 [0] [(0,slA Y5 t0)] ?_);refine Y4 (Y0 (OpsW.sg 1 [3] [(3,slA Y5 t0)] ?_));have⟨x1,hx1,H⟩:=Y0b H;refine Y0w rfl (.cons (.pur rfl) (.cons (.pur rfl) .nil)) (f_R09_text_ok hx1) (OpsW.sg 1 [2] [(2,.string x1)] (Y4 ?_));obtain rfl:=X8 H;refine AW.recast (env':=[(2,.string x1)]) (h':=[]) (StC.pure (.cons .im .nil)) (Y00 ?_)
 try simp only[Ex.t,Ex.b]
 exact Done.eq rfl (.tmp .nil)
def f_R09_Print (t0:List Y2):Option ByteArray:=
 (Y44 t0).bind fun x1=>
 cond (!x1) (
  some (⟨#[]⟩:ByteArray)) (
  (f_R09_Text t0).bind fun x3=>
  some x3)
theorem f_R09_Print_ok{t0:List Y2}{r:ByteArray}(H:f_R09_Print t0=some r):QSpec Tryd.prog 15 [slA Y5 t0] (.string r):=by
 refine Yv Tryd.func15 rfl (by simp[Tryd.ntmps15]) ?_;rw[Tryd.ntmps15];unfold f_R09_Print at H;change AW _ _ _ [(0,slA Y5 t0)] [] _;refine Y0 (OpsW.sg 1 [0] [(0,slA Y5 t0)] ?_);refine Y4 (Y0a (Y0 (OpsW.sg 1 [3,0] [(3,slA Y5 t0),(0,slA Y5 t0)] ?_)));have⟨x1,hx1,H⟩:=Y0b H;refine Y0w rfl (.cons (.pur rfl) .nil) (f_R09_Valid_ok hx1) (OpsW.sg 1 [5,0] [(5,.bool (!x1)),(0,slA Y5 t0)] (Y4 (Yd (b:= !x1) H rfl (fun c2 H=> ?_) (fun c2 H=> ?_))))
 ·refine Y0 (OpsW.sg 1 [2] [(2,.string (⟨#[]⟩:ByteArray))] ?_);refine Y4 ?_;obtain rfl:=X8 H;refine AW.recast (env':=[(2,.string (⟨#[]⟩:ByteArray))]) (h':=[]) (StC.pure (.cons .im .nil)) (Y00 ?_)
  try simp only[Ex.t,Ex.b]
  exact Done.eq rfl (.tmp .nil)
 refine Yi (Y0 (OpsW.sg 1 [6] [(6,slA Y5 t0)] ?_));have⟨x3,hx3,H⟩:=Y0b H;refine Y0w rfl (.cons (.pur rfl) .nil) (f_R09_Text_ok hx3) (OpsW.sg 1 [2] [(2,.string x3)] (Y4 ?_));obtain rfl:=X8 H;refine AW.recast (env':=[(2,.string x3)]) (h':=[]) (StC.pure (.cons .im .nil)) (Y00 ?_)
 try simp only[Ex.t,Ex.b]
 exact Done.eq rfl (.tmp .nil)
def Y4j (t0:List Y2) (t1:List Y2) (loop3:(Int)→Option Bool) (v2:Int):Option Bool:=
 cond (decide (v2<(t0.length:Int))) (
  G (0≤v2∧v2<(t0.length:Int))<|
  G (0≤v2∧v2<(t1.length:Int))<|
  cond (xor true ([((t0.getD v2.toNat Yf).Op)==((t1.getD v2.toNat Yf).Op),((t0.getD v2.toNat Yf).N)==((t1.getD v2.toNat Yf).N)].all id)) (
   some false) (
   G (inR (v2+1))<|
   loop3 (v2+1))) (
  some true)
def f_R09_Same (t0:List Y2) (t1:List Y2):Option Bool:=
 cond ((t0.length:Int) !=(t1.length:Int)) (
  some false) (
  iter (fun loop (s:Int)=>Y4j t0 t1 loop s) 1000000 (0:Int))
section
variable (t0:List Y2) (t1:List Y2) (v2:Int)
abbrev Z5e:=[((t0.getD v2.toNat Yf).Op)==((t1.getD v2.toNat Yf).Op),((t0.getD v2.toNat Yf).N)==((t1.getD v2.toNat Yf).N)].all id
abbrev Z5f:=t0.getD v2.toNat Yf
abbrev Z5g:=t1.getD v2.toNat Yf
abbrev Z5b:Env:=[(19,.ipt (t0.flatMap Y5) (v2.toNat*2)),(18,.j v2),(17,slA Y5 t0),(14,.bool (decide (v2<(t0.length:Int)))),(0,slA Y5 t0),(1,slA Y5 t1),(5,.j v2)]
abbrev Z5c:Env:=[(0,slA Y5 t0),(1,slA Y5 t1)]
abbrev Z5d:Env:=[(0,slA Y5 t0),(1,slA Y5 t1),(5,.j v2)]
end
theorem f_R09_Same_ok{t0:List Y2}{t1:List Y2}{r:Bool}(H:f_R09_Same t0 t1=some r):QSpec Tryd.prog 17 [slA Y5 t0,slA Y5 t1] (.bool r):=by
 refine Yv Tryd.func17 rfl (by simp[Tryd.ntmps17]) ?_;rw[Tryd.ntmps17];unfold f_R09_Same at H;change AW _ _ _ (Z5c t0 t1) [] _;refine Y0 (OpsW.sg 1 [0,1] (Z5c t0 t1) ?_);refine Y4 (Y0a (Y0 (OpsW.sg 5 [10,0,1] ((10,.bool ((t0.length:Int) !=(t1.length:Int)))::(Z5c t0 t1)) ?_)));refine Y4 (Yd (b:=(t0.length:Int) !=(t1.length:Int)) H rfl (fun c1 H=> ?_) (fun c1 H=> ?_))
 ·refine Y0 (OpsW.sg 1 [4] [(4,.bool false)] ?_);refine Y4 ?_;obtain rfl:=X8 H;refine AW.recast (env':=[(4,.bool false)]) (h':=[]) (StC.pure (.cons .im .nil)) (Y00 ?_)
  try simp only[Ex.t,Ex.b]
  exact Done.eq rfl (.tmp .nil)
 refine Yi (Y0a (Y0 (OpsW.sg 1 [5,0,1] ((5,.j (0:Int))::(Z5c t0 t1)) ?_)));refine Y4 (Y04 ?_);refine Y3v (fun loop (s:Int)=>Y4j t0 t1 loop s) r (fun(s:Int)=>[(0,slA Y5 t0),(1,slA Y5 t1),(5,.j s)]) (fun(s:Int)=>[]) ?_ 1000000 (0:Int) H (StC.pure (.i3 .nil));intro loop3 v2 H;unfold Y4j at H;change AW _ _ _ (Z5d t0 t1 v2) [] _;refine Y0a (Y0 (OpsW.sg 4 [14,0,1,5] ((14,.bool (decide (v2<(t0.length:Int))))::(Z5d t0 t1 v2)) ?_));refine Y4 (Yd (b:=decide (v2<(t0.length:Int))) H rfl (fun c4 H=> ?_) (fun c4 H=> ?_))
 ·refine Yi (Y0a (Y04 (Y3a Tryd.checked.mixed (by kernel_rfl) ?_)));have⟨g5,H⟩:=Yh H;refine QOps.sz (N:=26) 3 (Z5b t0 t1 v2) ⟨g5,trivial⟩ (QOps.asU (.agg [.j ((Z5f t0 v2).Op),.j ((Z5f t0 v2).N)]) rfl (T.loadAgg (cs:=t0.flatMap Y5) (off:=v2.toNat*2) (ds:=Y5 (Z5f t0 v2)) rfl trivial (by kernel_rfl) (by have:=Y1n Y5 2 (fun _=>rfl) t0;have:=(ltN g5);first|omega|(simp only[Z5f] at*;omega)) (fm_elem Y5 2 (fun _=>rfl) t0 Yf v2.toNat (ltN g5))) ?_);have⟨g6,H⟩:=Yh H;refine QOps.sz (N:=26) 3 ((23,.ipt (t1.flatMap Y5) (v2.toNat*2))::(22,.j v2)::(21,slA Y5 t1)::(20,.agg [.j ((Z5f t0 v2).Op),.j ((Z5f t0 v2).N)])::(Z5b t0 t1 v2)) ⟨g6,trivial⟩ (QOps.asU (.agg [.j ((Z5g t1 v2).Op),.j ((Z5g t1 v2).N)]) rfl (T.loadAgg (cs:=t1.flatMap Y5) (off:=v2.toNat*2) (ds:=Y5 (Z5g t1 v2)) rfl trivial (by kernel_rfl) (by have:=Y1n Y5 2 (fun _=>rfl) t1;have:=(ltN g6);first|omega|(simp only[Z5e,Z5f,Z5g] at*;omega)) (fm_elem Y5 2 (fun _=>rfl) t1 Yf v2.toNat (ltN g6))) (QOps.quietU (.bool (xor true (Z5e t0 t1 v2))) rfl (Quiet.eqAgg [.j ((Z5f t0 v2).Op),.j ((Z5f t0 v2).N)] [.j ((Z5g t1 v2).Op),.j ((Z5g t1 v2).N)] [((Z5f t0 v2).Op)==((Z5g t1 v2).Op),((Z5f t0 v2).N)==((Z5g t1 v2).N)] true rfl rfl (by kernel_rfl) (by kernel_rfl) (gpoU rfl ⟨trivial,rfl,trivial,rfl⟩)) ?_));refine QOps.nil (AW.trim [25,0,1,5] ((25,.bool (xor true (Z5e t0 t1 v2)))::(Z5d t0 t1 v2)) (by kernel_rfl) ?_)
  refine Yd (b:=xor true (Z5e t0 t1 v2)) H rfl (fun c7 H=> ?_) (fun c7 H=> ?_)
  ·refine Y0 (OpsW.sg 1 [4] [(4,.bool false)] ?_);refine Y4 ?_;obtain rfl:=X8 H;refine AW.recast (env':=[(4,.bool false)]) (h':=[]) (StC.pure (.cons .im .nil)) (Y00 ?_)
   try simp only[Ex.t,Ex.b]
   exact Done.eq rfl (.tmp .nil)
  refine Yi (Ys ?_);have⟨g8,H⟩:=Yh H;refine OpsW.sz 3 [5,0,1] ((5,.j (v2+1))::(Z5c t0 t1)) ⟨g8,trivial⟩ (Y4 ?_);exact⟨v2+1,H,(StC.pure (.i3 .nil))⟩
 refine AW.exit<|Y0 (OpsW.sg 1 [4] [(4,.bool true)] ?_);refine Y4 ?_;obtain rfl:=X8 H;refine AW.recast (env':=[(4,.bool true)]) (h':=[]) (StC.pure (.cons .im .nil)) (Y00 ?_)
 try simp only[Ex.t,Ex.b]
 exact Done.eq rfl (.tmp .nil)
def Yp (t0:Y1):Option Int:=
 cond (decide (t0.At<(t0.S.size:Int))) (
  G (0≤t0.At∧t0.At<(t0.S.size:Int))<|
  some (bAt t0.S t0.At)) (
  some (0:Int))
section
variable (t0:Y1)
abbrev Z5p:=[t0].flatMap eS_parser
abbrev Z5q:Nat×AV:=(12,.bool (decide (t0.At<(t0.S.size:Int))))
abbrev Z5l:Env:=[(15,.ipt (Z5p t0) (0+0)),(14,.ipt (Z5p t0) 0),(13,.ipt (Z5p t0) 0),(Z5q t0),(0,.ipt (Z5p t0) 0)]
abbrev Z5m:Env:=[(5,.ipt (Z5p t0) (0+1)),(4,.ipt (Z5p t0) 0),(3,.ipt (Z5p t0) 0),(0,.ipt (Z5p t0) 0)]
abbrev Z5n:Env:=(9,.ipt (Z5p t0) (0+0))::(8,.ipt (Z5p t0) 0)::(7,.ipt (Z5p t0) 0)::(6,.j t0.At)::(Z5m t0)
abbrev Z5o:Env:=[(0,.ipt (Z5p t0) 0)]
end
theorem Y0i{t0:Y1}{r:Int}(H:Yp t0=some r):QSpec Tryd.prog 54 [.ipt ([t0].flatMap eS_parser) 0] (.int .u8 r):=by
 refine Yv Tryd.func54 rfl (by simp[Tryd.ntmps54]) ?_;rw[Tryd.ntmps54];unfold Yp at H;change AW _ _ _ (Z5o t0) [] _;refine Y0 (OpsW.sg 1 [0] (Z5o t0) ?_);refine Y4 (Y0a (Y3a Tryd.checked.mixed (by kernel_rfl) ?_));refine QOps.sz (N:=22) 1 ((3,.ipt (Z5p t0) 0)::(Z5o t0)) trivial (QOps.quietU (.ipt (Z5p t0) 0) rfl (Y60 rfl (gpoU rfl ⟨trivial,rfl⟩)) (QOps.sz (N:=22) 1 (Z5m t0) trivial (QOps.asU (.j t0.At) rfl (T.load rfl trivial (by kernel_rfl) (fm_cell eS_parser 3 (fun _=>rfl) [t0] zS_parser (0:Int).toNat (ltN (by simp)) 1 (fun a=>.val (.j a.At)) (fun _=>rfl))) (QOps.sz (N:=22) 1 ((7,.ipt (Z5p t0) 0)::(6,.j t0.At)::(Z5m t0)) trivial (QOps.quietU (.ipt (Z5p t0) 0) rfl (Y60 rfl (gpoU rfl ⟨trivial,rfl⟩)) (QOps.sz (N:=22) 1 (Z5n t0) trivial (QOps.asU (.string t0.S) rfl (T.load rfl trivial (by kernel_rfl) (fm_cell eS_parser 3 (fun _=>rfl) [t0] zS_parser (0:Int).toNat (ltN (by simp)) 0 (fun a=>.val (.string a.S)) (fun _=>rfl))) (QOps.sz (N:=22) 2 ((Z5q t0)::(11,.j (t0.S.size:Int))::(10,.string t0.S)::(Z5n t0)) trivial ?_))))))));refine QOps.nil (AW.trim [12,0] ((Z5q t0)::(Z5o t0)) (by kernel_rfl) ?_);refine Yd (b:=decide (t0.At<(t0.S.size:Int))) H rfl (fun c1 H=> ?_) (fun c1 H=> ?_)
 ·refine Y3a Tryd.checked.mixed (by kernel_rfl) ?_;refine QOps.sz (N:=22) 1 ((13,.ipt (Z5p t0) 0)::(Z5q t0)::(Z5o t0)) trivial (QOps.quietU (.ipt (Z5p t0) 0) rfl (Y60 rfl (gpoU rfl ⟨trivial,rfl⟩)) (QOps.sz (N:=22) 1 (Z5l t0) trivial (QOps.asU (.string t0.S) rfl (T.load rfl trivial (by kernel_rfl) (fm_cell eS_parser 3 (fun _=>rfl) [t0] zS_parser (0:Int).toNat (ltN (by simp)) 0 (fun a=>.val (.string a.S)) (fun _=>rfl))) (QOps.sz (N:=22) 1 ((17,.ipt (Z5p t0) 0)::(16,.string t0.S)::(Z5l t0)) trivial (QOps.quietU (.ipt (Z5p t0) 0) rfl (Y60 rfl (gpoU rfl ⟨trivial,rfl⟩)) (QOps.sz (N:=22) 1 ((19,.ipt (Z5p t0) (0+1))::(18,.ipt (Z5p t0) 0)::(17,.ipt (Z5p t0) 0)::(16,.string t0.S)::(Z5l t0)) trivial (QOps.asU (.j t0.At) rfl (T.load rfl trivial (by kernel_rfl) (fm_cell eS_parser 3 (fun _=>rfl) [t0] zS_parser (0:Int).toNat (ltN (by simp)) 1 (fun a=>.val (.j a.At)) (fun _=>rfl))) ?_)))))));have⟨g2,H⟩:=Yh H;refine QOps.sz (N:=22) 2 ((2,.int .u8 (bAt t0.S t0.At))::(21,.int .u8 (bAt t0.S t0.At))::(20,.j t0.At)::(19,.ipt (Z5p t0) (0+1))::(18,.ipt (Z5p t0) 0)::(17,.ipt (Z5p t0) 0)::(16,.string t0.S)::(Z5l t0)) ⟨g2,trivial⟩<|QOps.nil (AW.trim [2] [(2,.int .u8 (bAt t0.S t0.At))] (by kernel_rfl) ?_);obtain rfl:=X8 H;refine AW.recast (env':=[(2,.int .u8 (bAt t0.S t0.At))]) (h':=[]) (StC.pure (.cons .im .nil)) (Y00 ?_)
  try simp only[Ex.t,Ex.b]
  exact Done.eq rfl (.tmp .nil)
 refine Yi (Y0 (OpsW.sg 1 [2] [(2,.int .u8 0)] ?_));refine Y4 ?_;obtain rfl:=X8 H;refine AW.recast (env':=[(2,.int .u8 0)]) (h':=[]) (StC.pure (.cons .im .nil)) (Y00 ?_)
 try simp only[Ex.t,Ex.b]
 exact Done.eq rfl (.tmp .nil)
def Y5x (t0:Int):Option Bool:=
 some (cond (decide (48≤t0)) (decide (t0≤57)) false)
theorem f_R09_digit_ok{t0:Int}{r:Bool}(H:Y5x t0=some r):QSpec Tryd.prog 71 [.int .u8 t0] (.bool r):=by
 refine Yv Tryd.func71 rfl (by simp[Tryd.ntmps71]) ?_;rw[Tryd.ntmps71];unfold Y5x at H;change AW _ _ _ [(0,.int .u8 t0)] [] _;refine Y0 (OpsW.sg 1 [0] [(0,.int .u8 t0)] ?_);refine Y4 (Y0 (OpsW.sz 7 [2] [(2,.bool (cond (decide (48≤t0)) (decide (t0≤57)) false))] ⟨(fun h=>h),(fun h=>by first|exact h|(simpa using h)|grind),trivial⟩ ?_));refine Y4 ?_;obtain rfl:=X8 H;refine AW.recast (env':=[(2,.bool (cond (decide (48≤t0)) (decide (t0≤57)) false))]) (h':=[]) (StC.pure (.cons .im .nil)) (Y00 ?_)
 try simp only[Ex.t,Ex.b]
 exact Done.eq rfl (.tmp .nil)
def Y5w (t0:Int):Option Bool:=
 some (cond (decide (97≤t0)) (decide (t0≤122)) false)
theorem f_R09_letter_ok{t0:Int}{r:Bool}(H:Y5w t0=some r):QSpec Tryd.prog 74 [.int .u8 t0] (.bool r):=by
 refine Yv Tryd.func74 rfl (by simp[Tryd.ntmps74]) ?_;rw[Tryd.ntmps74];unfold Y5w at H;change AW _ _ _ [(0,.int .u8 t0)] [] _;refine Y0 (OpsW.sg 1 [0] [(0,.int .u8 t0)] ?_);refine Y4 (Y0 (OpsW.sz 7 [2] [(2,.bool (cond (decide (97≤t0)) (decide (t0≤122)) false))] ⟨(fun h=>h),(fun h=>by first|exact h|(simpa using h)|grind),trivial⟩ ?_));refine Y4 ?_;obtain rfl:=X8 H;refine AW.recast (env':=[(2,.bool (cond (decide (97≤t0)) (decide (t0≤122)) false))]) (h':=[]) (StC.pure (.cons .im .nil)) (Y00 ?_)
 try simp only[Ex.t,Ex.b]
 exact Done.eq rfl (.tmp .nil)
def Y4s (t0:ByteArray) (t1:ByteArray) (loop2:(Int)→Option Int) (v1:Int):Option Int:=
 G ((cond (decide (v1<(t0.size:Int))) (decide (v1<(t1.size:Int))) false)=true→(0≤v1∧v1<(t0.size:Int)))<|
 G ((cond (decide (v1<(t0.size:Int))) (decide (v1<(t1.size:Int))) false)=true→(0≤v1∧v1<(t1.size:Int)))<|
 cond (cond (cond (decide (v1<(t0.size:Int))) (decide (v1<(t1.size:Int))) false) ((bAt t0 v1)==(bAt t1 v1)) false) (
  G (inR (v1+1))<|
  loop2 (v1+1)) (
  some v1)
def f_R09_common (t0:ByteArray) (t1:ByteArray):Option Int:=
 iter (fun loop (s:Int)=>Y4s t0 t1 loop s) 1000000 (0:Int)
section
variable (t0:ByteArray) (t1:ByteArray) (v1:Int)
abbrev Z5r:=(cond (decide (v1<(t0.size:Int))) (decide (v1<(t1.size:Int))) false)
abbrev Z5s:=(decide (v1<(t0.size:Int)))
end
theorem f_R09_common_ok{t0:ByteArray}{t1:ByteArray}{r:Int}(H:f_R09_common t0 t1=some r):QSpec Tryd.prog 81 [.string t0,.string t1] (.int .i64 r):=by
 refine Yv Tryd.func81 rfl (by simp[Tryd.ntmps81]) ?_;rw[Tryd.ntmps81];unfold f_R09_common at H;change AW _ _ _ [(0,.string t0),(1,.string t1)] [] _;refine Y0 (OpsW.sg 1 [0,1] [(0,.string t0),(1,.string t1)] ?_);refine Y4 (Y0 (OpsW.sg 1 [5,0,1] [(5,.j (0:Int)),(0,.string t0),(1,.string t1)] ?_));refine Y4 (Y0a (Y04 ?_));refine Y3v (fun loop (s:Int)=>Y4s t0 t1 loop s) r (fun(s:Int)=>[(0,.string t0),(1,.string t1),(5,.j s)]) (fun(s:Int)=>[]) ?_ 1000000 (0:Int) H (StC.pure (.i3 .nil));intro loop2 v1 H;unfold Y4s at H;change AW _ _ _ [(0,.string t0),(1,.string t1),(5,.j v1)] [] _;refine Y0a (Y3a Tryd.checked.mixed (by kernel_rfl) ?_);have⟨g3,H⟩:=Yh H;have⟨g4,H⟩:=Yh H
 refine QOps.sz (N:=28) 19 [(24,.bool (cond (Z5r t0 t1 v1) ((bAt t0 v1)==(bAt t1 v1)) false)),(23,.cnd (Z5r t0 t1 v1) (.bool ((bAt t0 v1)==(bAt t1 v1)))),(22,.cnd (Z5r t0 t1 v1) (.int .u8 (bAt t1 v1))),(21,.cnd (Z5r t0 t1 v1) (.j v1)),(20,.cnd (Z5r t0 t1 v1) (.string t1)),(19,.cnd (Z5r t0 t1 v1) (.int .u8 (bAt t0 v1))),(18,.cnd (Z5r t0 t1 v1) (.j v1)),(17,.cnd (Z5r t0 t1 v1) (.string t0)),(16,.bool (Z5r t0 t1 v1)),(15,.bool (Z5r t0 t1 v1)),(14,.cnd (Z5s t0 v1) (.bool (decide (v1<(t1.size:Int))))),(13,.cnd (Z5s t0 v1) (.j (t1.size:Int))),(12,.cnd (Z5s t0 v1) (.string t1)),(11,.cnd (Z5s t0 v1) (.j v1)),(10,.bool (Z5s t0 v1)),(9,.bool (Z5s t0 v1)),(8,.j (t0.size:Int)),(7,.string t0),(6,.j v1),(0,.string t0),(1,.string t1),(5,.j v1)] ⟨(fun h=>h),(fun h=>h),(fun h=>h),(fun h=>by first|exact h|(simpa using h)|grind),(fun h=>h),(fun h=>h),g3,(fun h=>h),(fun h=>h),g4,(fun h=>h),(fun h=>h),(fun h=>by first|exact h|(simpa using h)|grind),trivial⟩ ?_;refine QOps.nil (AW.trim [24,0,1,5] [(24,.bool (cond (Z5r t0 t1 v1) ((bAt t0 v1)==(bAt t1 v1)) false)),(0,.string t0),(1,.string t1),(5,.j v1)] (by kernel_rfl) ?_);refine Yd (b:=cond (Z5r t0 t1 v1) ((bAt t0 v1)==(bAt t1 v1)) false) H rfl (fun c5 H=> ?_) (fun c5 H=> ?_)
 ·refine Yi (Y04 (Ys ?_));have⟨g6,H⟩:=Yh H;refine OpsW.sz 3 [5,0,1] [(5,.j (v1+1)),(0,.string t0),(1,.string t1)] ⟨g6,trivial⟩ (Y4 ?_);exact⟨v1+1,H,(StC.pure (.i3 .nil))⟩
 refine AW.exit<|Y0 (OpsW.sg 2 [4] [(4,.j v1)] ?_);refine Y4 ?_;obtain rfl:=X8 H;refine AW.recast (env':=[(4,.j v1)]) (h':=[]) (StC.pure (.cons .im .nil)) (Y00 ?_)
 try simp only[Ex.t,Ex.b]
 exact Done.eq rfl (.tmp .nil)
def Y69 (t0:Int):Option Int:=
 cond (t0==43) (
  some (2:Int)) (
  cond (t0==45) (
   some (3:Int)) (
   cond (t0==42) (
    some (4:Int)) (
    cond (t0==61) (
     some (5:Int)) (
     some (-1:Int)))))
theorem f_R09_operator_ok{t0:Int}{r:Int}(H:Y69 t0=some r):QSpec Tryd.prog 53 [.int .u8 t0] (.int .i64 r):=by
 refine Yv Tryd.func53 rfl (by simp[Tryd.ntmps53]) ?_;rw[Tryd.ntmps53];unfold Y69 at H;change AW _ _ _ [(0,.int .u8 t0)] [] _;refine Y0 (OpsW.sg 1 [0] [(0,.int .u8 t0)] ?_);refine Y4 (Y0a (Y0 (OpsW.sg 1 [3] [(3,.int .u8 t0)] ?_)));refine Y4 (Y04 (Y0 (OpsW.sg 2 [4,3] [(4,.bool (t0==43)),(3,.int .u8 t0)] ?_)));refine Y4 (Yd (b:=t0==43) H rfl (fun c1 H=> ?_) (fun c1 H=> ?_))
 ·refine Y0 (OpsW.sg 1 [2] [(2,.j (2:Int))] ?_);refine Y4 ?_;obtain rfl:=X8 H;refine AW.recast (env':=[(2,.j (2:Int))]) (h':=[]) (StC.pure (.cons .im .nil)) (Y00 ?_)
  try simp only[Ex.t,Ex.b]
  exact Done.eq rfl (.tmp .nil)
 refine Y0 (OpsW.sg 2 [6,3] [(6,.bool (t0==45)),(3,.int .u8 t0)] ?_);refine Y4 (Yd (b:=t0==45) H rfl (fun c2 H=> ?_) (fun c2 H=> ?_))
 ·refine Y0 (OpsW.sg 1 [2] [(2,.j (3:Int))] ?_);refine Y4 ?_;obtain rfl:=X8 H;refine AW.recast (env':=[(2,.j (3:Int))]) (h':=[]) (StC.pure (.cons .im .nil)) (Y00 ?_)
  try simp only[Ex.t,Ex.b]
  exact Done.eq rfl (.tmp .nil)
 refine Y0 (OpsW.sg 2 [8,3] [(8,.bool (t0==42)),(3,.int .u8 t0)] ?_);refine Y4 (Yd (b:=t0==42) H rfl (fun c3 H=> ?_) (fun c3 H=> ?_))
 ·refine Y0 (OpsW.sg 1 [2] [(2,.j (4:Int))] ?_);refine Y4 ?_;obtain rfl:=X8 H;refine AW.recast (env':=[(2,.j (4:Int))]) (h':=[]) (StC.pure (.cons .im .nil)) (Y00 ?_)
  try simp only[Ex.t,Ex.b]
  exact Done.eq rfl (.tmp .nil)
 refine Y0 (OpsW.sg 2 [10] [(10,.bool (t0==61))] ?_);refine Y4 (Yd (b:=t0==61) H rfl (fun c4 H=> ?_) (fun c4 H=> ?_))
 ·refine Y0 (OpsW.sg 1 [2] [(2,.j (5:Int))] ?_);refine Y4 ?_;obtain rfl:=X8 H;refine AW.recast (env':=[(2,.j (5:Int))]) (h':=[]) (StC.pure (.cons .im .nil)) (Y00 ?_)
  try simp only[Ex.t,Ex.b]
  exact Done.eq rfl (.tmp .nil)
 refine Yi (Y0 (OpsW.sg 1 [2] [(2,.j (-1:Int))] ?_));refine Y4 ?_;obtain rfl:=X8 H;refine AW.recast (env':=[(2,.j (-1:Int))]) (h':=[]) (StC.pure (.cons .im .nil)) (Y00 ?_)
 try simp only[Ex.t,Ex.b]
 exact Done.eq rfl (.tmp .nil)
end Go.Proofs.YtkgfbpbndmklnaaDoor
