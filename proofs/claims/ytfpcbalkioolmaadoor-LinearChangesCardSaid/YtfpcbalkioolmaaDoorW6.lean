/- Own work. -/
import Derived.Test.YtfpcbalkioolmaaDoorW5
import Derived.Test.YtfpcbalkioolmaaDoorLr15
import Derived.Test.YtfpcbalkioolmaaDoorW7
set_option linter.unusedSimpArgs false
set_option linter.unusedVariables false
set_option maxRecDepth 100000
namespace Go.Proofs.YtfpcbalkioolmaaDoor
open Go.Abs
def Y2f (loop13:(Int)→Option Bool) (v12:Int):Option Bool:=
 G (inR (v12+1))<|
 loop13 (v12+1)
def Y1f (t1:List Int) (x1:Bool) (x3:(List Int)×Int) (x8:List Int) (loop13:(Int)→Option Bool) (v12:Int):Option Bool:=
 cond (decide (v12<2)) (
  G (0≤v12∧v12<([(([]:List Int)++x3.1).set (Int.tmod (IntKind.wrap .i64 (t1.getD 0 0)) (x3.1.length:Int)).toNat (Int.tmod (t1.getD 1 0) (64:Int)),(([]:List Int)++x3.1)++x8].length:Int))<|
  (Y3g ([(([]:List Int)++x3.1).set (Int.tmod (IntKind.wrap .i64 (t1.getD 0 0)) (x3.1.length:Int)).toNat (Int.tmod (t1.getD 1 0) (64:Int)),(([]:List Int)++x3.1)++x8].getD v12.toNat [])).bind fun x17=>
  G ((x17.2.2==100)=true→(0≤v12∧v12<2))<|
  cond (cond (cond (cond (x17.2.2==100) (decide (([Int.tmod (IntKind.wrap .i64 (t1.getD 0 0)) (x3.1.length:Int),(x3.1.length:Int)].getD v12.toNat 0)≤x17.2.1)) false) (decide (x17.2.1≤(([(([]:List Int)++x3.1).set (Int.tmod (IntKind.wrap .i64 (t1.getD 0 0)) (x3.1.length:Int)).toNat (Int.tmod (t1.getD 1 0) (64:Int)),(([]:List Int)++x3.1)++x8].getD v12.toNat []).length:Int))) false) true (cond (x17.2.2==2) (x17.2.1==0) false)) (
   Y2f loop13 v12) (
   (Y1r x17.1).bind fun x20=>
   (cond (!(cond (x17.2.2 !=0) true (x20.2 !=0))) (Y5s x20.1 ([(([]:List Int)++x3.1).set (Int.tmod (IntKind.wrap .i64 (t1.getD 0 0)) (x3.1.length:Int)).toNat (Int.tmod (t1.getD 1 0) (64:Int)),(([]:List Int)++x3.1)++x8].getD v12.toNat [])) (some false)).bind fun x21=>
   cond (cond (cond (x17.2.2 !=0) true (x20.2 !=0)) true (!x21)) (
    some false) (
    Y2f loop13 v12))) (
  some x1)
def Y4v (t0:List Int) (t1:List Int) (t2:List Int):Option Bool:=
 (f_L10_sanity).bind fun x1=>
 (f_R09_Made t0).bind fun x2=>
 (Y1r x2).bind fun x3=>
 cond (cond (x3.2 !=0) true ((x3.1.length:Int)==0)) (
  some false) (
  G ((x3.1.length:Int)≠0)<|
  G (room 1 (([]:List Int).length+x3.1.length))<|
  G (0≤(Int.tmod (IntKind.wrap .i64 (t1.getD 0 0)) (x3.1.length:Int))∧(Int.tmod (IntKind.wrap .i64 (t1.getD 0 0)) (x3.1.length:Int))<((([]:List Int)++x3.1).length:Int))<|
  (f_R01_Cells t2 (5:Int)).bind fun x8=>
  G (room 1 ((([]:List Int)++x3.1).length+x8.length))<|
  G ((List.replicate 2 (0:Int)).length=2)<|
  G ([Int.tmod (IntKind.wrap .i64 (t1.getD 0 0)) (x3.1.length:Int),(x3.1.length:Int)].length=2)<|
  iter (fun loop (s:Int)=>Y1f t1 x1 x3 x8 loop s) 1000000 (0:Int))
section
variable (t1:List Int) (t2:List Int) (v12:Int) (x1:Bool) (x3:(List Int)×Int) (x8:List Int)
abbrev Z83:=(Int.tmod (IntKind.wrap .i64 (t1.getD 0 0)) (x3.1.length:Int))
abbrev Z84:=(([]:List Int)++x3.1)
abbrev Z85:=(Int.tmod (t1.getD 1 0) (64:Int))
abbrev Z86:=([Int.tmod (IntKind.wrap .i64 (t1.getD 0 0)) (x3.1.length:Int),(x3.1.length:Int)].getD v12.toNat 0)
abbrev Z87:=[(Z84 x3).set (Z83 t1 x3).toNat (Z85 t1),(Z84 x3)++x8].getD v12.toNat []
abbrev Z88:Nat×AV:=(13,sC [(Z84 x3).set (Z83 t1 x3).toNat (Z85 t1),(Z84 x3)++x8])
abbrev Z89:=(Z84 x3).set (Z83 t1 x3).toNat (Z85 t1)
abbrev Z8a:=[(Z84 x3).set (Z83 t1 x3).toNat (Z85 t1),(Z84 x3)++x8].flatMap (eL (eI .u8))
abbrev Z8b:List AV:=[.int .u8 (t1.getD 0 0),.int .u8 (t1.getD 1 0)]
abbrev Z8c:=(x3.1.length:Int)
abbrev Z7v:Env:=[(7,.bool x1),(Z88 t1 x3 x8),(14,.ref 14 0 0),(15,.j v12)]
abbrev Z7w:Env:=[(11,sU (Z89 t1 x3)),(10,.j (Z83 t1 x3)),(8,sU x3.1),(7,.bool x1),(2,sU t2)]
abbrev Z7x:Env:=[(Z88 t1 x3 x8),(7,.bool x1)]
abbrev Z7y:Hp:=[(14,⟨0,true,43,2,([Int.tmod (IntKind.wrap .i64 (t1.getD 0 0)) (Z8c x3),(Z8c x3)].flatMap (eI .i64)).map .im⟩)]
abbrev Z7z:Env:=[(11,sU (Z89 t1 x3)),(10,.j (Z83 t1 x3)),(8,sU x3.1),(7,.bool x1)]
abbrev Z80:Env:=[(10,.j (Z83 t1 x3)),(8,sU x3.1),(7,.bool x1),(4,.ref 4 0 0),(2,sU t2)]
abbrev Z81:Env:=[(11,.rsl 11 0 0 ((Z89 t1 x3).length)),(10,.j (Z83 t1 x3)),(8,sU x3.1),(7,.bool x1),(2,sU t2)]
abbrev Z82:Env:=[(10,.j (Z83 t1 x3)),(8,sU x3.1),(7,.bool x1)]
end
theorem f_L10_LinearChanges_ok{t0:List Int}{t1:List Int}{t2:List Int}{r:Bool}(H:Y4v t0 t1 t2=some r):QSpec Tryd.prog 6 [slA (eI .u8) t0,.agg [.int .u8 (t1.getD 0 0),.int .u8 (t1.getD 1 0)],slA (eI .u8) t2] (.bool r):=by
 refine Y01 Tryd.func6 rfl (by simp[Tryd.ntmps6]) ?_;rw[Tryd.ntmps6];unfold Y4v at H;change AW _ _ _ [(0,sU t0),(1,.agg (Z8b t1)),(2,sU t2)] [] _;refine Y0 (OpsW.box rfl rfl rfl 4 rfl (Y0v (by kernel_rfl)) ?_);change OpsW _ _ _ _ _ [(4,⟨0,true,34,2,(Z8b t1)⟩)] _;refine OpsW.sg 1 [4,0,2] [(4,.ref 4 0 0),(0,sU t0),(2,sU t2)]<|Y2 (Y0 ?_);have⟨x1,hx1,H⟩:=Y0o H;refine Y1m rfl .nil (f_L10_sanity_ok hx1) (OpsW.sg 1 [7,4,0,2] [(7,.bool x1),(4,.ref 4 0 0),(0,sU t0),(2,sU t2)] ?_);refine Y2 (Y0 (OpsW.sg 1 [23,7,4,2] [(23,sU t0),(7,.bool x1),(4,.ref 4 0 0),(2,sU t2)] ?_));have⟨x2,hx2,H⟩:=Y0o H;refine Y1m rfl (.cons (.pur rfl) .nil) (f_R09_Made_ok hx2) ?_;have⟨x3,hx3,H⟩:=Y0o H;refine Y1m rfl (.cons (.pur rfl) .nil) (Y3p hx3) (OpsW.sg 5 [9,8,7,4,2] [(9,.j x3.2),(8,sU x3.1),(7,.bool x1),(4,.ref 4 0 0),(2,sU t2)] ?_);refine Y2 (Y0g (Y0 (Yq 7 [34,8,7,4,2] [(34,.bool (cond (x3.2 !=0) true ((Z8c x3)==0))),(8,sU x3.1),(7,.bool x1),(4,.ref 4 0 0),(2,sU t2)] ⟨(fun h=>h),(fun h=>h),(fun h=>by first|exact h|(simpa using h)|grind),trivial⟩ ?_)));refine Y2 (Yd (b:=cond (x3.2 !=0) true ((Z8c x3)==0)) H rfl (fun c4 H=> ?_) (fun c4 H=> ?_))
 ·refine Y0 (OpsW.sg 1 [6] [(6,.bool false)] ?_);refine Y2 ?_;obtain rfl:=X6 H;refine AW.recast (env':=[(6,.bool false)]) (h':=[]) (StC.pure (.cons .im .nil)) (Y03 ?_)
  try simp only[Ex.t,Ex.b]
  exact Yw rfl (.tmp .nil)
 refine Ym (Y0 ?_);have⟨g5,H⟩:=Yx H;refine Yq 7 [10,8,7,4,2] (Z80 t1 t2 x1 x3) ⟨(by decide),g5,trivial⟩<|Y2 (Y0 (Y5m (enc:=eI .u8) ([]:List Int) rfl rfl rfl 41 rfl E28 (fun _=>rfl) (by decide) trivial (by kernel_rfl) (by kernel_rfl) (by kernel_rfl) rfl ?_));refine OpsW.sg 1 [42,41,10,8,7,4,2] ((42,sU x3.1)::(41,.rsl 41 0 0 (([]:List Int).length))::(Z80 t1 t2 x1 x3)) ?_;have⟨g6,H⟩:=Yx H;refine Y5n (enc:=eI .u8) (ys:=x3.1) rfl rfl rfl E28 (fun _=>rfl) rfl rfl trivial (SrcA.typed (enc:=eI .u8) (fun _=>rfl) (by kernel_rfl) x3.1) rfl g6 (OpsW.sg 1 [11,10,8,7,4,2] ((11,.rsl 41 1 0 ((Z84 x3).length))::(Z80 t1 t2 x1 x3)) (OpsW.rc ((11,.rsl 11 0 0 ((Z84 x3).length))::(Z80 t1 t2 x1 x3)) [(4,⟨0,true,34,2,(Z8b t1)⟩),(11,rtA 0 33 1 (eI .u8) (Z84 x3))] (StC.mk (phi [(4,some 4),(11,some 41)]) (.o rfl (.i2 .nil) (.o rfl (CstL.ims _) .nil)) rfl (.cons (.s rfl) (.i3 (.cons (.r rfl) (.cons .im .nil))))) ?_));refine Y2 (Y0 ?_);have⟨g7,H⟩:=Yx H
 refine Yq 6 [49,48,11,10,8,7,2] [(49,.ref 11 0 (0+(Z83 t1 x3).toNat*1)),(48,.int .u8 (Z85 t1)),(11,.rsl 11 0 0 ((Z84 x3).length)),(10,.j (Z83 t1 x3)),(8,sU x3.1),(7,.bool x1),(2,sU t2)] ⟨(by decide),(by decide),g7,trivial⟩ (OpsW.storeT (enc:=eI .u8) (k:=1) (0:Int) (Z85 t1) [.val (.int .u8 (Z85 t1))] (Z83 t1 x3).toNat 0 rfl rfl rfl (by exact congrArg (AV.ref 11 0) (by first|omega|rfl|(simp;omega))) trivial trivial rfl (fun _=>rfl) rfl (by kernel_rfl) (Y0v (by kernel_rfl)) (ltN g7) (X9 (by kernel_rfl)) rfl (OpsW.weaken ((49,.ref 11 0 (0+(Z83 t1 x3).toNat*1))::(48,.int .u8 (Z85 t1))::(Z81 t1 t2 x1 x3)) (Env.le_of_eq (by first|(simp only[List.length_set,List.length_reverse];done)|(simp only[Z83,Z84,Z85,Z89,Z8b,Z7w,Z80,Z81];simp only[List.length_set,List.length_reverse]))) (OpsW.sg 0 [11,10,8,7,2] (Z81 t1 t2 x1 x3) (OpsW.rc (Z7w t1 t2 x1 x3) [] (StC.mk (phi []) .nil rfl (.cons (.frz rfl rfl rfl (frz_all (eI .u8) 1 (fun _=>rfl) (Z89 t1 x3)) (Y0z (eI .u8) 1 (fun _=>rfl) (Z89 t1 x3)) (phi_ne rfl)) (.i4 .nil))) ?_))));refine Y2 (Y0 (Y5m (enc:=eI .u8) ([]:List Int) rfl rfl rfl 50 rfl E28 (fun _=>rfl) (by decide) trivial (by kernel_rfl) (by kernel_rfl) (by kernel_rfl) rfl ?_))
 refine OpsW.sg 1 [51,50,11,10,8,7,2] ((51,sU x3.1)::(50,.rsl 50 0 0 (([]:List Int).length))::(Z7w t1 t2 x1 x3)) (Y5n (enc:=eI .u8) (ys:=x3.1) rfl rfl rfl E28 (fun _=>rfl) rfl rfl trivial (SrcA.typed (enc:=eI .u8) (fun _=>rfl) (by kernel_rfl) x3.1) rfl g6 (OpsW.sg 1 [12,11,10,8,7,2] ((12,.rsl 50 1 0 ((Z84 x3).length))::(Z7w t1 t2 x1 x3)) (OpsW.rc ((12,.rsl 12 0 0 ((Z84 x3).length))::(Z7w t1 t2 x1 x3)) [(12,rtA 0 33 1 (eI .u8) (Z84 x3))] (StC.mk (phi [(12,some 50)]) (.o rfl (CstL.ims _) .nil) rfl (.cons (.s rfl) (.i5 .nil))) ?_)));refine Y2 (Y0 (OpsW.sg 2 [54,53,12,11,10,8,7] ((54,sU t2)::(53,.rsl 12 0 0 ((Z84 x3).length))::(12,.rsl 12 0 0 ((Z84 x3).length))::(Z7z t1 x1 x3)) ?_));have⟨x8,hx8,H⟩:=Y0o H;refine Y1m rfl (.cons (.pur rfl) (.cons (.pur rfl) .nil)) (f_R01_Cells_ok hx8) ?_;have⟨g9,H⟩:=Yx H;refine Y5n (enc:=eI .u8) (ys:=x8) rfl rfl rfl E28 (fun _=>rfl) rfl rfl trivial (SrcA.typed (enc:=eI .u8) (fun _=>rfl) (by kernel_rfl) x8) rfl g9 (OpsW.sg 1 [12,11,10,8,7] ((12,.rsl 12 1 0 (((Z84 x3)++x8).length))::(Z7z t1 x1 x3)) (OpsW.rc ((12,sU ((Z84 x3)++x8))::(Z7z t1 x1 x3)) [] (StC.mk (phi []) .nil rfl (.cons (.frz rfl rfl rfl (frz_all (eI .u8) 1 (fun _=>rfl) ((Z84 x3)++x8)) (Y0z (eI .u8) 1 (fun _=>rfl) ((Z84 x3)++x8)) (phi_ne rfl)) (.i4 .nil))) ?_));refine Y2 (Y0 (OpsW.sg 2 [58,57,10,8,7] ((58,sU ((Z84 x3)++x8))::(57,sU (Z89 t1 x3))::(Z82 t1 x1 x3)) ?_))
 refine OpsW.buildTI (enc:=eL (eI .u8)) [(Z84 x3).set (Z83 t1 x3).toNat (Z85 t1),(Z84 x3)++x8] rfl rfl rfl E36 (fun _=>rfl) (by decide) ⟨trivial,by kernel_rfl,by kernel_rfl,by kernel_rfl,rfl⟩ (OpsW.sg 1 [13,10,8,7] ((Z88 t1 x3 x8)::(Z82 t1 x1 x3)) ?_);refine Y2 (Y0 (OpsW.sg 4 [63,13,7] ((63,.agg [.j (Z83 t1 x3),.j (Z8c x3)])::(Z7x t1 x1 x3 x8)) ?_));refine OpsW.allocT (z:=(zc Tryd.prog 43).getD []) (enc:=eI .i64) (0:Int) 2 2 rfl rfl rfl 14 rfl (by kernel_rfl) (by kernel_rfl) (by kernel_rfl) (by kernel_rfl) ?_;have⟨g10,H⟩:=Yx H;have⟨g11,H⟩:=Yx H;refine OpsW.storeW (enc:=eI .i64) (k:=1) (n:=2) rfl rfl rfl rfl trivial trivial rfl rfl rfl (fun _=>rfl) rfl (by kernel_rfl) g11 (arr_len (eI .i64) 1 (fun _=>rfl) (List.replicate 2 (0:Int)) g10 rfl) (fun _=>rfl) (OpsW.sg 0 [14,13,7] ((14,.ref 14 0 0)::(Z7x t1 x1 x3 x8)) (OpsW.rc ((14,.ref 14 0 0)::(Z7x t1 x1 x3 x8)) (Z7y t1 x3) (StC.mk (phi [(14,some 14)]) (.o rfl (CstL.ims _) .nil) rfl (.cons (.r rfl) (.i2 .nil))) ?_));refine Y2 (Y0g (Y0 (OpsW.sg 1 [15,14,13,7] ((15,.j (0:Int))::(14,.ref 14 0 0)::(Z7x t1 x1 x3 x8)) ?_)));refine Y2 (Y0f ?_);refine Y4f (fun loop (s:Int)=>Y1f t1 x1 x3 x8 loop s) r (fun(s:Int)=>[(7,.bool x1),(Z88 t1 x3 x8),(14,.ref 14 0 0),(15,.j s)]) (fun(s:Int)=>(Z7y t1 x3)) ?_ 1000000 (0:Int) H (StC.mk (phi [(14,some 14)]) (.o rfl (CstL.ims _) .nil) rfl (.i2 (.cons (.r rfl) (.cons .im .nil))));intro loop13 v12 H
 unfold Y1f at H;change AW _ _ _ (Z7v t1 v12 x1 x3 x8) (Z7y t1 x3) _;refine Y0g (Y0 (OpsW.sg 2 [65,7,13,14,15] ((65,.bool (decide (v12<2)))::(Z7v t1 v12 x1 x3 x8)) ?_));refine Y2 (Yd (b:=decide (v12<2)) H rfl (fun c14 H=> ?_) (fun c14 H=> ?_))
 ·refine Ym<|Y20 (fun(y:Unit)=>Y2f loop13 v12) r (fun(y:Unit)=>(Z7v t1 v12 x1 x3 x8)) (fun(y:Unit)=>(Z7y t1 x3)) ?_ ?_
  ·refine Y0f (Y0 ?_);have⟨g16,H⟩:=Yx H;refine Yq 3 [71,7,13,14,15] ((71,.ipt (Z8a t1 x3 x8) (v12.toNat*1))::(Z7v t1 v12 x1 x3 x8)) ⟨g16,trivial⟩ (OpsW.asU (sU (Z87 t1 v12 x3 x8)) rfl rfl (T.load rfl trivial (by kernel_rfl) (Y5q (eL (eI .u8)) 1 (fun _=>rfl) [(Z84 x3).set (Z83 t1 x3).toNat (Z85 t1),(Z84 x3)++x8] [] v12.toNat (ltN g16) (fun a=>.sl (a.flatMap (eI .u8)) a.length) (fun _=>rfl))) ?_);have⟨x17,hx17,H⟩:=Y0o H;refine Y1m rfl (.cons (.pur rfl) .nil) (Y4z hx17) (OpsW.sg 7 [18,17,16,7,13,14,15] ((18,.j x17.2.2)::(17,.j x17.2.1)::(16,slA Y7 x17.1)::(Z7v t1 v12 x1 x3 x8)) ?_);refine Y2 (Y0g (Y0 ?_));have⟨g18,H⟩:=Yx H
   refine Yq 6 [82,80,79,18,17,16,7,13,14,15] ((82,.cnd (x17.2.2==100) (.ref 14 0 (0+v12.toNat*1)))::(80,.cnd (x17.2.2==100) (.j x17.2.1))::(79,.bool (x17.2.2==100))::(18,.j x17.2.2)::(17,.j x17.2.1)::(16,slA Y7 x17.1)::(Z7v t1 v12 x1 x3 x8)) ⟨(fun h=>h),g18,trivial⟩ (OpsW.asG (c:=x17.2.2==100) (.j (Z86 t1 v12 x3)) rfl rfl rfl rfl (fun hc=>T.loadR rfl hc (by kernel_rfl) rfl rfl rfl (rt_cell (eI .i64) 1 (fun _=>rfl) [Int.tmod (IntKind.wrap .i64 (t1.getD 0 0)) (Z8c x3),(Z8c x3)] (0:Int) v12.toNat (ltA (n:=2) (g18 hc) ((fun _=>g11) hc)) 0 (fun a=>.val (.j a)) (fun _=>rfl) (by first|omega|(simp only[Z83,Z84,Z85,Z86,Z87,Z8a,Z8c];omega)))) (Yq 7 [90,87,86,18,17,16,7,13,14,15] ((90,.cnd (cond (x17.2.2==100) (decide ((Z86 t1 v12 x3)≤x17.2.1)) false) (.ipt (Z8a t1 x3 x8) (v12.toNat*1)))::(87,.cnd (cond (x17.2.2==100) (decide ((Z86 t1 v12 x3)≤x17.2.1)) false) (.j x17.2.1))::(86,.bool (cond (x17.2.2==100) (decide ((Z86 t1 v12 x3)≤x17.2.1)) false))::(18,.j x17.2.2)::(17,.j x17.2.1)::(16,slA Y7 x17.1)::(Z7v t1 v12 x1 x3 x8)) ⟨(fun h=>h),(fun h=>h),(fun h=>by first|exact h|(simpa using h)|grind),(fun h=>h),(fun h=>h),(fun _=>g16),trivial⟩ (OpsW.asG (c:=cond (x17.2.2==100) (decide ((Z86 t1 v12 x3)≤x17.2.1)) false) (sU (Z87 t1 v12 x3 x8)) rfl rfl rfl rfl (fun hc=>T.load rfl hc (by kernel_rfl) (Y5q (eL (eI .u8)) 1 (fun _=>rfl) [(Z84 x3).set (Z83 t1 x3).toNat (Z85 t1),(Z84 x3)++x8] [] v12.toNat (ltN g16) (fun a=>.sl (a.flatMap (eI .u8)) a.length) (fun _=>rfl))) (Yq 11 [102,18,16,7,13,14,15] ((102,.bool (cond (cond (cond (x17.2.2==100) (decide ((Z86 t1 v12 x3)≤x17.2.1)) false) (decide (x17.2.1≤((Z87 t1 v12 x3 x8).length:Int))) false) true (cond (x17.2.2==2) (x17.2.1==0) false)))::(18,.j x17.2.2)::(16,slA Y7 x17.1)::(Z7v t1 v12 x1 x3 x8)) ⟨(fun h=>h),(fun h=>h),(fun h=>h),(fun h=>by first|exact h|(simpa using h)|grind),(fun h=>h),(fun h=>h),(fun h=>h),(fun h=>h),(fun h0 h=>by first|exact h|(simp[h0,h];done)|(simp at h0 h⊢;simp[h0,h];done)|(simp_all;done)|grind),(fun h=>by first|exact h|(simpa using h)|grind),trivial⟩ (Y2 (Yd (b:=cond (cond (cond (x17.2.2==100) (decide ((Z86 t1 v12 x3)≤x17.2.1)) false) (decide (x17.2.1≤((Z87 t1 v12 x3 x8).length:Int))) false) true (cond (x17.2.2==2) (x17.2.1==0) false)) H rfl (fun c19 H=> ?_) (fun c19 H=> ?_)))))))
   ·refine AW.exit ?_;exact⟨(),H,(StC.mk (phi [(14,some 14)]) (.o rfl (CstL.ims _) .nil) rfl (.i2 (.cons (.r rfl) (.cons .im .nil))))⟩
   refine Ym (Y0 (OpsW.sg 1 [104,18,7,13,14,15] ((104,slA Y7 x17.1)::(18,.j x17.2.2)::(Z7v t1 v12 x1 x3 x8)) ?_));have⟨x20,hx20,H⟩:=Y0o H;refine Y1m rfl (.cons (.pur rfl) .nil) (Y3p hx20) (OpsW.sg 5 [20,19,18,7,13,14,15] ((20,.j x20.2)::(19,sU x20.1)::(18,.j x17.2.2)::(Z7v t1 v12 x1 x3 x8)) ?_);refine Y2 (Y0 (Yq 11 [118,115,114,7,13,14,15] ((118,.cnd (!(cond (x17.2.2 !=0) true (x20.2 !=0))) (.ipt (Z8a t1 x3 x8) (v12.toNat*1)))::(115,.cnd (!(cond (x17.2.2 !=0) true (x20.2 !=0))) (sU x20.1))::(114,.bool (cond (x17.2.2 !=0) true (x20.2 !=0)))::(Z7v t1 v12 x1 x3 x8)) ⟨(fun h=>h),(fun h=>by first|exact h|(simpa using h)|grind),(fun h=>h),(fun h=>h),(fun _=>g16),trivial⟩ ?_));refine OpsW.asG (c:= !(cond (x17.2.2 !=0) true (x20.2 !=0))) (sU (Z87 t1 v12 x3 x8)) rfl rfl rfl rfl (fun hc=>T.load rfl hc (by kernel_rfl) (Y5q (eL (eI .u8)) 1 (fun _=>rfl) [(Z84 x3).set (Z83 t1 x3).toNat (Z85 t1),(Z84 x3)++x8] [] v12.toNat (ltN g16) (fun a=>.sl (a.flatMap (eI .u8)) a.length) (fun _=>rfl))) ?_;have⟨x21,hx21,H⟩:=Y0o H
   refine OpsW.gcall (c:= !(cond (x17.2.2 !=0) true (x20.2 !=0))) (r:=.bool x21) [] rfl (by kernel_rfl) rfl rfl rfl rfl (fun hc=>⟨Y0r ⟨hc,hc,trivial⟩,(.cons (.pur rfl) (.cons (.pur rfl) .nil)),f_R01_Same_ok (condT hc hx21),.inl ⟨rfl,rfl⟩⟩) (Yq 2 [122,7,13,14,15] ((122,.bool (cond (cond (x17.2.2 !=0) true (x20.2 !=0)) true (!x21)))::(Z7v t1 v12 x1 x3 x8)) ⟨(fun h=>h),(fun h=>by first|exact h|(simpa using h)|grind),trivial⟩ (Y2 (Yd (b:=cond (cond (x17.2.2 !=0) true (x20.2 !=0)) true (!x21)) H rfl (fun c22 H=> ?_) (fun c22 H=> ?_))))
   ·refine Y0 (OpsW.sg 1 [6] [(6,.bool false)] ?_);refine Y2 ?_;obtain rfl:=X6 H;refine AW.recast (env':=[(6,.bool false)]) (h':=[]) (StC.pure (.cons .im .nil)) (Y03 ?_)
    try simp only[Ex.t,Ex.b]
    exact Yw rfl (.tmp .nil)
   refine Ym ?_;exact⟨(),H,(StC.mk (phi [(14,some 14)]) (.o rfl (CstL.ims _) .nil) rfl (.i2 (.cons (.r rfl) (.cons .im .nil))))⟩
  rintro⟨⟩ H;unfold Y2f at H;change AW _ _ _ (Z7v t1 v12 x1 x3 x8) (Z7y t1 x3) _;refine Yo ?_;have⟨g15,H⟩:=Yx H;refine Yq 3 [15,7,13,14] [(15,.j (v12+1)),(7,.bool x1),(Z88 t1 x3 x8),(14,.ref 14 0 0)] ⟨g15,trivial⟩ (Y2 ?_);exact⟨v12+1,H,(StC.mk (phi [(14,some 14)]) (.o rfl (CstL.ims _) .nil) rfl (.i2 (.cons (.r rfl) (.cons .im .nil))))⟩
 refine AW.exit<|Y0 (OpsW.sg 2 [6] [(6,.bool x1)] ?_);refine Y2 ?_;obtain rfl:=X6 H;refine AW.recast (env':=[(6,.bool x1)]) (h':=[]) (StC.pure (.cons .im .nil)) (Y03 ?_)
 try simp only[Ex.t,Ex.b]
 exact Yw rfl (.tmp .nil)
end Go.Proofs.YtfpcbalkioolmaaDoor
