/- Own work. -/
import Derived.Test.YtkgfbpbndmklnaaDoorW3
set_option linter.unusedSimpArgs false
set_option linter.unusedVariables false
set_option maxRecDepth 100000
namespace Go.Proofs.YtkgfbpbndmklnaaDoor
open Go.Abs
abbrev bxp (x:Y1):Nat×Rt:=(2020,⟨0,true,68,3,[.string x.S,.int .i64 x.At,.bool x.Bad]⟩)
abbrev ph1:=phi [(2020,some 2020)]
def Y27 (t0:Y1) (loop3:(Y1×Int)→Option ((List Y5)×Y1)) (v1:Y1) (v2:Int):Option ((List Y5)×Y1):=
 (Yn v1).bind fun x4=>
 (Y5i x4).bind fun x5=>
 cond (cond (cond x5 (cond (v1.At==t0.At) true (decide (0<v2))) false) (decide (v2≤9999)) false) (
  G (inR (10*v2))<|
  (Yn v1).bind fun x8=>
  G (inR ((10*v2)+(IntKind.wrap .i64 (IntKind.wrap .u8 (x8-48)))))<|
  G (inR (v1.At+1))<|
  loop3 ((⟨v1.S,v1.At+1,v1.Bad⟩:Y1),(10*v2)+(IntKind.wrap .i64 (IntKind.wrap .u8 (x8-48))))) (
  (cond (!(cond v1.Bad true (v1.At==t0.At))) (Yn v1) (some (0:Int))).bind fun x11=>
  (cond (!(cond v1.Bad true (v1.At==t0.At))) (Y5i x11) (some false)).bind fun x12=>
  some ([(⟨(0:Int),v2⟩:Y5)],(⟨v1.S,v1.At,cond (cond v1.Bad true (v1.At==t0.At)) true x12⟩:Y1)))
def Y1r (t0:Y1):Option ((List Y5)×Y1):=
 iter (fun loop (s:Y1×Int)=>Y27 t0 loop s.1 s.2) 1000000 (t0,(0:Int))
section
variable (t0:Y1) (v1:Y1) (v2:Int) (x8:Int) (x12:Bool)
abbrev Z5x:=cond v1.Bad true (v1.At==t0.At)
abbrev Z5y:Nat×AV:=(0,.ref 2020 0 0)
abbrev Z5t:Env:=[(3,.j ((10*v2)+(IntKind.wrap .i64 (IntKind.wrap .u8 (x8-48))))),Z5y,(4,.j t0.At)]
abbrev Z5u:Env:=[Z5y,(3,.j v2),(4,.j t0.At)]
abbrev Z5v:Hp:=[bxp v1]
abbrev Z5w:Hp:=[(2020,⟨0,true,68,3,[.string v1.S,.j v1.At,.bool (cond (Z5x t0 v1) true x12)]⟩)]
end
theorem Y3r{t0:Y1}{r:(List Y5)×Y1}(H:Y1r t0=some r):Abs.Spec Tryd.prog 72 [.ref 2020 0 0] [bxp t0] (fun x h=>x=slA Y4 r.1∧h=[bxp r.2]):=by
 refine Yw Tryd.func72 rfl (by simp[Tryd.ntmps72]) ?_;rw[Tryd.ntmps72];unfold Y1r at H;change AW _ _ _ [Z5y] [bxp t0] _;refine Y5r<|Y0 (OpsW.sg 1 [0] [Z5y] ?_);refine Y2 (Y28 Tryd.checked.mixed (by kernel_rfl) ?_);refine QOps.sz (N:=65) 1 [(5,.ref 2020 0 0),Z5y] trivial (QOps.quietU (.ref 2020 0 0) rfl (Quiet.nilCheck rfl (gpoU rfl ⟨trivial,rfl,rfl⟩)) (QOps.sz (N:=65) 4 [(4,.j t0.At),(3,.j (0:Int)),(8,.j t0.At),(7,.ref 2020 0 1),(6,.ref 2020 0 0),(5,.ref 2020 0 0),Z5y] trivial ?_));refine QOps.nil (AW.trim [4,3,0] [(4,.j t0.At),(3,.j (0:Int)),Z5y] (by kernel_rfl) ?_);refine Y05 (Y04 ?_);refine Y40 (fun loop (s:Y1×Int)=>Y27 t0 loop s.1 s.2) r (fun(s:Y1×Int)=>[Z5y,(3,.j s.2),(4,.j t0.At)]) (fun(s:Y1×Int)=>[bxp s.1]) ?_ 1000000 (t0,(0:Int)) H (StC.mk ph1 (.o rfl (.i3 .nil) .nil) rfl (.cons (.r rfl) (.i2 .nil)));intro loop3 s H;have⟨v1,v2⟩:=s;unfold Y27 at H;change AW _ _ _ (Z5u t0 v2) (Z5v v1) _;refine Y05 (Y0 (OpsW.sg 1 [9,0,3,4] ((9,.ref 2020 0 0)::(Z5u t0 v2)) ?_));have⟨x4,hx4,H⟩:=Y0y H;refine OpsW.bcall (r:=.int .u8 x4) [2020] rfl (by kernel_rfl) rfl rfl (Ys trivial) (.cons (ArgS.box (by simp) rfl rfl rfl rfl) .nil) (Y0f hx4) rfl ?_;have⟨x5,hx5,H⟩:=Y0y H
 refine Y20 rfl (.cons (.pur rfl) .nil) (f_R09_digit_ok hx5) (OpsW.sg 2 [13,12,0,3,4] ((13,.cnd x5 (.ref 2020 0 0))::(12,.bool x5)::(Z5u t0 v2)) (Y65 (c:=x5) (.ref 2020 0 0) rfl rfl rfl rfl (Quiet.nilCheck rfl (gpoG (c:=x5) rfl rfl rfl (fun hc=>⟨hc,rfl,rfl⟩))) (OpsW.sz 13 [27,0,3,4] ((27,.bool (cond (cond x5 (cond (v1.At==t0.At) true (decide (0<v2))) false) (decide (v2≤9999)) false))::(Z5u t0 v2)) ⟨id,id,id,id,id,id,id,(by grind),(by grind),id,(by grind),trivial⟩ (Y2 (Yc (b:=cond (cond x5 (cond (v1.At==t0.At) true (decide (0<v2))) false) (decide (v2≤9999)) false) H rfl (fun c6 H=> ?_) (fun c6 H=> ?_))))))
 ·refine Yh (Y04 (Y0 ?_));have⟨g7,H⟩:=Y00 H;refine OpsW.sz 3 [30,29,0,3,4] ((30,.ref 2020 0 0)::(29,.j (10*v2))::(Z5u t0 v2)) ⟨g7,trivial⟩ ?_;have⟨x8,hx8,H⟩:=Y0y H;refine OpsW.bcall (r:=.int .u8 x8) [2020] rfl (by kernel_rfl) rfl rfl (Ys trivial) (.cons (ArgS.box (by simp) rfl rfl rfl rfl) .nil) (Y0f hx8) rfl ?_;have⟨g9,H⟩:=Y00 H;refine OpsW.sz 4 [3,0,4] (Z5t t0 v2 x8) ⟨g9,trivial⟩<|Y2 (Yz (OpsW.sg 1 [35,3,0,4] ((35,.ref 2020 0 0)::(Z5t t0 v2 x8)) ?_));refine Y0s rfl rfl rfl ?_;have⟨g10,H⟩:=Y00 H;refine OpsW.sz 3 [39,35,3,0,4] ((39,.j (v1.At+1))::(35,.ref 2020 0 0)::(Z5t t0 v2 x8)) ⟨g10,trivial⟩ (Y0s rfl rfl rfl (OpsW.sg 1 [41,39,3,0,4] ((41,.ref 2020 0 1)::(39,.j (v1.At+1))::(Z5t t0 v2 x8)) (Y1d rfl rfl rfl rfl trivial trivial rfl rfl rfl (by kernel_rfl) (Yx (by kernel_rfl)) (X9 (by kernel_rfl)) ?_)));change OpsW _ _ _ _ _ ((2020,⟨0,true,68,3,[.string v1.S,.j (v1.At+1),.bool v1.Bad]⟩)::(Z5v v1)) _;refine OpsW.sg 0 [3,0,4] (Z5t t0 v2 x8) (OpsW.rc (Z5t t0 v2 x8) [(2020,⟨0,true,68,3,[.string v1.S,.j (v1.At+1),.bool v1.Bad]⟩)] (StC.mk ph1 (.o rfl (.i3 .nil) .nil) rfl (.cons .im (.cons (.r rfl) (.cons .im .nil)))) (Y2 ?_));exact⟨((⟨v1.S,v1.At+1,v1.Bad⟩:Y1),(10*v2)+(IntKind.wrap .i64 (IntKind.wrap .u8 (x8-48)))),H,(StC.mk ph1 (.o rfl (.i3 .nil) .nil) rfl (.cons (.r rfl) (.i2 .nil)))⟩
 refine AW.exit<|Y0 (OpsW.sg 2 [43,42,0,3,4] ((43,.ref 2020 0 0)::(42,.ref 2020 0 0)::(Z5u t0 v2)) ?_);refine Y0s rfl rfl rfl (OpsW.sg 4 [48,47,42,0,3,4] ((48,.cnd (!v1.Bad) (.ref 2020 0 0))::(47,.bool v1.Bad)::(42,.ref 2020 0 0)::(Z5u t0 v2)) (Y65 (c:= !v1.Bad) (.ref 2020 0 0) rfl rfl rfl rfl (Quiet.nilCheck rfl (gpoG (c:= !v1.Bad) rfl rfl rfl (fun hc=>⟨hc,rfl,rfl⟩))) (OpsW.sz 7 [56,55,42,3] [(56,.cnd (!(Z5x t0 v1)) (.ref 2020 0 0)),(55,.bool (Z5x t0 v1)),(42,.ref 2020 0 0),(3,.j v2)] ⟨id,id,id,id,(by grind),trivial⟩ ?_)));have⟨x11,hx11,H⟩:=Y0y H;refine OpsW.gcall (c:= !(Z5x t0 v1)) (r:=.int .u8 x11) [2020] rfl (by kernel_rfl) rfl rfl rfl rfl (fun hc=>⟨Ys ⟨hc,trivial⟩,(.cons (ArgS.box (by simp) rfl rfl rfl rfl) .nil),Y0f (condT hc hx11),.inr rfl⟩) ?_;have⟨x12,hx12,H⟩:=Y0y H;refine OpsW.gcall (c:= !(Z5x t0 v1)) (r:=.bool x12) [] rfl (by kernel_rfl) rfl rfl rfl rfl (fun hc=>⟨Ys ⟨hc,trivial⟩,(.cons (.pur rfl) .nil),f_R09_digit_ok (condT hc hx12),.inl ⟨rfl,rfl⟩⟩) (OpsW.sz 1 [59,42,3] [(59,.bool (cond (Z5x t0 v1) true x12)),(42,.ref 2020 0 0),(3,.j v2)] ⟨(by grind),trivial⟩ (Y0s rfl rfl rfl (OpsW.sg 1 [61,59,3] [(61,.ref 2020 0 2),(59,.bool (cond (Z5x t0 v1) true x12)),(3,.j v2)] (Y1d rfl rfl rfl rfl trivial trivial rfl rfl rfl (by kernel_rfl) (Yx (by kernel_rfl)) (X9 (by kernel_rfl)) ?_))))
 change OpsW _ _ _ _ _ ((2020,⟨0,true,68,3,[.string v1.S,.j v1.At,.bool (cond (Z5x t0 v1) true x12)]⟩)::(Z5v v1)) _;refine OpsW.sg 0 [3] [(3,.j v2)] (OpsW.rc [(3,.j v2)] (Z5w t0 v1 x12) (StC.mk ph1 (.o rfl (.i3 .nil) .nil) rfl (.cons .im .nil)) ?_);refine Y2 (Y0 (OpsW.sg 2 [63] [(63,.agg [.j (0:Int),.j v2])] ?_));refine OpsW.buildTI (enc:=Y4) [(⟨(0:Int),v2⟩:Y5)] rfl rfl rfl E23 (fun _=>rfl) (by decide) ⟨trivial,by kernel_rfl,by kernel_rfl,by kernel_rfl,rfl⟩ (OpsW.sg 1 [2] [(2,slA Y4 [(⟨(0:Int),v2⟩:Y5)])] (Y2 ?_));obtain rfl:=X6 H;refine Yp ?_;show ∃en' hp',StC _ _ en' hp'∧Done _ _ _ .ret en' hp';refine⟨[(2,slA Y4 [(⟨(0:Int),v2⟩:Y5)])],(Z5w t0 v1 x12),(StC.mk ph1 (.o rfl (.i3 .nil) .nil) rfl (.cons .im .nil)), ?_⟩;refine Y32 rfl (.tmp .nil) ?_;exact⟨by kernel_rfl,by kernel_rfl⟩
def Y0c (t0:Y1) (t1:Int):Option Y1:=
 (cond (!t0.Bad) (Yn t0) (some (0:Int))).bind fun x1=>
 cond (cond (!t0.Bad) (x1==t1) false) (
  G (inR (t0.At+1))<|
  some (⟨t0.S,t0.At+1,t0.Bad⟩:Y1)) (
  some (⟨t0.S,t0.At,true⟩:Y1))
section
variable (t0:Y1)
abbrev Z5z:Hp:=[bxp t0]
abbrev Z60:Hp:=[(2020,⟨0,true,68,3,[.string t0.S,.j (t0.At+1),.bool t0.Bad]⟩)]
end
theorem Y2q{t0:Y1}{t1:Int}{r:Y1}(H:Y0c t0 t1=some r):Abs.Spec Tryd.prog 73 [.ref 2020 0 0,.int .u8 t1] [bxp t0] (fun x h=>x= .tup []∧h=[bxp r]):=by
 refine Yw Tryd.func73 rfl (by simp[Tryd.ntmps73]) ?_;rw[Tryd.ntmps73];unfold Y0c at H;change AW _ _ _ [(0,.ref 2020 0 0),(1,.int .u8 t1)] (Z5z t0) _;refine Y5r<|Y05 (Y0 (OpsW.sg 1 [4,0,1] [(4,.ref 2020 0 0),(0,.ref 2020 0 0),(1,.int .u8 t1)] ?_));refine Y0s rfl rfl rfl (OpsW.sg 5 [10,9,0,1] [(10,.cnd (!t0.Bad) (.ref 2020 0 0)),(9,.bool (!t0.Bad)),(0,.ref 2020 0 0),(1,.int .u8 t1)] ?_);have⟨x1,hx1,H⟩:=Y0y H;refine OpsW.gcall (c:= !t0.Bad) (r:=.int .u8 x1) [2020] rfl (by kernel_rfl) rfl rfl rfl rfl (fun hc=>⟨Ys ⟨hc,trivial⟩,(.cons (ArgS.box (by simp) rfl rfl rfl rfl) .nil),Y0f (condT hc hx1),.inr rfl⟩) (OpsW.sz 3 [14,0] [(14,.bool (cond (!t0.Bad) (x1==t1) false)),(0,.ref 2020 0 0)] ⟨id,id,(by grind),trivial⟩ (Y2 (Yc (b:=cond (!t0.Bad) (x1==t1) false) H rfl (fun c2 H=> ?_) (fun c2 H=> ?_))))
 ·refine Y0 (OpsW.sg 1 [15] [(15,.ref 2020 0 0)] ?_);refine Y0s rfl rfl rfl ?_;have⟨g3,H⟩:=Y00 H;refine OpsW.sz 3 [19,15] [(19,.j (t0.At+1)),(15,.ref 2020 0 0)] ⟨g3,trivial⟩ (Y0s rfl rfl rfl (OpsW.sg 1 [21,19] [(21,.ref 2020 0 1),(19,.j (t0.At+1))] (Y1d rfl rfl rfl rfl trivial trivial rfl rfl rfl (by kernel_rfl) (Yx (by kernel_rfl)) (X9 (by kernel_rfl)) ?_)));change OpsW _ _ _ _ _ ((2020,⟨0,true,68,3,[.string t0.S,.j (t0.At+1),.bool t0.Bad]⟩)::(Z5z t0)) _;refine OpsW.sg 0 [] [] (OpsW.rc [] (Z60 t0) (StC.mk ph1 (.o rfl (.i3 .nil) .nil) rfl .nil) (Y2 ?_));obtain rfl:=X6 H;refine Yp ?_;show ∃en' hp',StC _ _ en' hp'∧Done _ _ _ .ret en' hp';refine⟨[],(Z60 t0),(StC.mk ph1 (.o rfl (.i3 .nil) .nil) rfl .nil), ?_⟩;refine Y32 rfl .nil ?_;exact⟨by kernel_rfl,by kernel_rfl⟩
 refine Yh (Yz (OpsW.sg 1 [22] [(22,.ref 2020 0 0)] ?_));refine Y0s rfl rfl rfl (OpsW.sg 1 [24] [(24,.ref 2020 0 2)] (Y1d rfl rfl rfl rfl trivial trivial rfl rfl rfl (by kernel_rfl) (Yx (by kernel_rfl)) (X9 (by kernel_rfl)) ?_));change OpsW _ _ _ _ _ ((2020,⟨0,true,68,3,[.string t0.S,.j t0.At,.bool true]⟩)::(Z5z t0)) _;refine OpsW.sg 0 [] [] (OpsW.rc [] [(2020,⟨0,true,68,3,[.string t0.S,.j t0.At,.bool true]⟩)] (StC.mk ph1 (.o rfl (.i3 .nil) .nil) rfl .nil) (Y2 ?_));obtain rfl:=X6 H;show ∃en' hp',StC _ _ en' hp'∧Done _ _ _ .normal en' hp';refine⟨[],[(2020,⟨0,true,68,3,[.string t0.S,.j t0.At,.bool true]⟩)],(StC.mk ph1 (.o rfl (.i3 .nil) .nil) rfl .nil), ?_⟩;refine Done.genN rfl .nil ?_;exact⟨by kernel_rfl,by kernel_rfl⟩
def Y2p (v1:Y1) (v2:Int) (x12:(List ByteArray)×(List Int)) (loop16:(Y1×Int×Int)→Option (Int×Y1)) (v13:Y1) (v14:Int) (v15:Int):Option (Int×Y1):=
 cond (decide (v15<(x12.1.length:Int))) (
  G (0≤v15∧v15<(x12.1.length:Int))<|
  cond ((v1.S.extract v1.At.toNat v2.toNat).toList==(x12.1.getD v15.toNat ByteArray.empty).toList) (
   G (0≤v15∧v15<(x12.2.length:Int))<|
   some (x12.2.getD v15.toNat 0,(⟨v13.S,v2,v13.Bad⟩:Y1))) (
   (f_R09_common (v1.S.extract v1.At.toNat v2.toNat) (x12.1.getD v15.toNat ByteArray.empty)).bind fun x21=>
   G (inR (v15+1))<|
   loop16 (v13,(if x21>v14 then x21 else v14),v15+1))) (
  G (inR (v13.At+v14))<|
  some ((1:Int),(⟨v13.S,v13.At+v14,true⟩:Y1)))
def Y2o (loop3:(Y1×Int)→Option (Int×Y1)) (v1:Y1) (v2:Int):Option (Int×Y1):=
 G ((decide (v2<(v1.S.size:Int)))=true→(0≤v2∧v2<(v1.S.size:Int)))<|
 (cond (decide (v2<(v1.S.size:Int))) (Y5h (bAt v1.S v2)) (some false)).bind fun x5=>
 cond (cond (decide (v2<(v1.S.size:Int))) x5 false) (
  G (inR (v2+1))<|
  loop3 (v1,v2+1)) (
  G (inR (v1.At+1))<|
  cond (cond (cond (v2==(v1.At+1)) (decide (v2<(v1.S.size:Int))) false) true (cond (v2==(v1.S.size:Int)) (v2==(v1.At+1)) false)) (
   some ((1:Int),v1)) (
   G (0≤v2∧v2≤(v1.S.size:Int))<|
   G (0≤v1.At∧v1.At≤(v2.toNat:Int))<|
   (f_R09_names).bind fun x12=>
   iter (fun loop (s:Y1×Int×Int)=>Y2p v1 v2 x12 loop s.1 s.2.1 s.2.2) 1000000 (v1,(1:Int),(0:Int))))
def Y3i (t0:Y1):Option (Int×Y1):=
 iter (fun loop (s:Y1×Int)=>Y2o loop s.1 s.2) 1000000 (t0,t0.At)
section
variable (v1:Y1) (v2:Int) (v13:Y1) (v15:Int) (x12:(List ByteArray)×(List Int))
abbrev Z67:=(cond (v2==(v1.At+1)) (decide (v2<(v1.S.size:Int))) false)
abbrev Z68:=v1.S.extract v1.At.toNat v2.toNat
abbrev Z69:Nat×AV:=(0,.ref 2020 0 0)
abbrev Z6a:=(v1.S.size:Int)
abbrev Z6b:Nat×AV:=(7,slA (eI .i64) x12.2)
abbrev Z6c:=x12.1.getD v15.toNat ByteArray.empty
abbrev Z6d:=decide (v2<(Z6a v1))
abbrev Z61:Env:=[(64,.bool (cond (Z67 v1 v2) true (cond (v2==(Z6a v1)) (v2==(v1.At+1)) false))),Z69,(3,.j v2)]
abbrev Z62:Env:=[Z69,(3,.j v2)]
abbrev Z63:Env:=[(6,slA eS x12.1),(Z6b x12),(8,.j v15)]
abbrev Z64:Hp:=[bxp v13]
abbrev Z65:Env:=[Z69]
abbrev Z66:Env:=(47,.bool (Z67 v1 v2))::(Z62 v2)
end
theorem f_R09_parser_word_io{t0:Y1}{r:Int×Y1}(H:Y3i t0=some r):Abs.Spec Tryd.prog 75 [.ref 2020 0 0] [bxp t0] (fun x h=>x= .int .i64 r.1∧h=[bxp r.2]):=by
 refine Yw Tryd.func75 rfl (by simp[Tryd.ntmps75]) ?_;rw[Tryd.ntmps75];unfold Y3i at H;change AW _ _ _ Z65 [bxp t0] _;refine Y5r<|Y0 (OpsW.sg 1 [0] Z65 ?_);refine Y2 (Y0 (OpsW.sg 1 [9,0] ((9,.ref 2020 0 0)::Z65) ?_));refine Y0s rfl rfl rfl (OpsW.sg 3 [3,0] ((3,.j t0.At)::Z65) ?_);refine Y2 (Y05 (Y04 ?_));refine Y40 (fun loop (s:Y1×Int)=>Y2o loop s.1 s.2) r (fun(s:Y1×Int)=>[Z69,(3,.j s.2)]) (fun(s:Y1×Int)=>[bxp s.1]) ?_ 1000000 (t0,t0.At) H (StC.mk ph1 (.o rfl (.i3 .nil) .nil) rfl (.cons (.r rfl) (.cons .im .nil)));intro loop3 s H;have⟨v1,v2⟩:=s;unfold Y2o at H;change AW _ _ _ (Z62 v2) [bxp v1] _;refine Y05 (Y0 (OpsW.sg 2 [14,13,0,3] ((14,.ref 2020 0 0)::(13,.j v2)::(Z62 v2)) ?_));refine Y0s rfl rfl rfl (OpsW.sg 6 [21,20,0,3] ((21,.cnd (Z6d v1 v2) (.ref 2020 0 0))::(20,.bool (Z6d v1 v2))::(Z62 v2)) (Y65 (c:=decide (v2<(Z6a v1))) (.ref 2020 0 0) rfl rfl rfl rfl (Quiet.nilCheck rfl (gpoG (c:=decide (v2<(Z6a v1))) rfl rfl rfl (fun hc=>⟨hc,rfl,rfl⟩))) ?_));have⟨g4,H⟩:=Y00 H;refine OpsW.sz 4 [26,20,0,3] ((26,.cnd (Z6d v1 v2) (.int .u8 (bAt v1.S v2)))::(20,.bool (Z6d v1 v2))::(Z62 v2)) ⟨id,id,id,id,g4,trivial⟩ ?_;have⟨x5,hx5,H⟩:=Y0y H
 refine OpsW.gcall (c:=decide (v2<(Z6a v1))) (r:=.bool x5) [] rfl (by kernel_rfl) rfl rfl rfl rfl (fun hc=>⟨Ys ⟨hc,trivial⟩,(.cons (.pur rfl) .nil),f_R09_letter_ok (condT hc hx5),.inl ⟨rfl,rfl⟩⟩) (OpsW.sz 1 [28,0,3] ((28,.bool (cond (Z6d v1 v2) x5 false))::(Z62 v2)) ⟨(by grind),trivial⟩ (Y2 (Yc (b:=cond (Z6d v1 v2) x5 false) H rfl (fun c6 H=> ?_) (fun c6 H=> ?_))))
 ·refine Yh (Y04 (Yz ?_));have⟨g7,H⟩:=Y00 H;refine OpsW.sz 3 [3,0] ((3,.j (v2+1))::Z65) ⟨g7,trivial⟩ (Y2 ?_);exact⟨(v1,v2+1),H,(StC.mk ph1 (.o rfl (.i3 .nil) .nil) rfl (.cons (.r rfl) (.cons .im .nil)))⟩
 refine AW.exit<|Y05 (Y0 (OpsW.sg 2 [32,31,0,3] ((32,.ref 2020 0 0)::(31,.j v2)::(Z62 v2)) ?_));refine Y0s rfl rfl rfl ?_;have⟨g8,H⟩:=Y00 H
 refine OpsW.sz 7 [40,39,38,0,3] ((40,.cnd (v2==(v1.At+1)) (.ref 2020 0 0))::(39,.cnd (v2==(v1.At+1)) (.j v2))::(38,.bool (v2==(v1.At+1)))::(Z62 v2)) ⟨g8,trivial⟩ (Y65 (c:=v2==(v1.At+1)) (.ref 2020 0 0) rfl rfl rfl rfl (Quiet.nilCheck rfl (gpoG (c:=v2==(v1.At+1)) rfl rfl rfl (fun hc=>⟨hc,rfl,rfl⟩))) (OpsW.sz 8 [49,48,47,0,3] ((49,.cnd (!(Z67 v1 v2)) (.ref 2020 0 0))::(48,.cnd (!(Z67 v1 v2)) (.j v2))::(Z66 v1 v2)) ⟨id,id,id,id,id,(by grind),trivial⟩ (Y65 (c:= !(Z67 v1 v2)) (.ref 2020 0 0) rfl rfl rfl rfl (Quiet.nilCheck rfl (gpoG (c:= !(Z67 v1 v2)) rfl rfl rfl (fun hc=>⟨hc,rfl,rfl⟩))) (OpsW.sz 7 [57,56,55,47,0,3] ((57,.cnd ((!(Z67 v1 v2))&&(v2==(Z6a v1))) (.ref 2020 0 0))::(56,.cnd ((!(Z67 v1 v2))&&(v2==(Z6a v1))) (.j v2))::(55,.cnd (!(Z67 v1 v2)) (.bool (v2==(Z6a v1))))::(Z66 v1 v2)) ⟨id,id,id,id,id,id,trivial⟩ (Y65 (c:=(!(Z67 v1 v2))&&(v2==(Z6a v1))) (.ref 2020 0 0) rfl rfl rfl rfl (Quiet.nilCheck rfl (gpoG (c:=(!(Z67 v1 v2))&&(v2==(Z6a v1))) rfl rfl rfl (fun hc=>⟨hc,rfl,rfl⟩))) (OpsW.sz 6 [64,0,3] (Z61 v1 v2) ⟨id,id,id,(fun _=>g8),id,id,id,(by grind),(by grind),trivial⟩ (Y2 (Yc (b:=cond (Z67 v1 v2) true (cond (v2==(Z6a v1)) (v2==(v1.At+1)) false)) H rfl (fun c9 H=> ?_) (fun c9 H=> ?_)))))))))
 ·refine Y0 (OpsW.sg 1 [2] [(2,.j (1:Int))] ?_);refine Y2 ?_;obtain rfl:=X6 H;refine Yp ?_;show ∃en' hp',StC _ _ en' hp'∧Done _ _ _ .ret en' hp';refine⟨[(2,.j (1:Int))],[bxp v1],(StC.mk ph1 (.o rfl (.i3 .nil) .nil) rfl (.cons .im .nil)), ?_⟩;refine Y32 rfl (.tmp .nil) ?_;exact⟨by kernel_rfl,by kernel_rfl⟩
 refine Yh (Y28 Tryd.checked.mixed (by kernel_rfl) ?_);refine QOps.sz (N:=118) 1 ((65,.ref 2020 0 0)::(Z61 v1 v2)) trivial (QOps.quietU (.ref 2020 0 0) rfl (Quiet.nilCheck rfl (gpoU rfl ⟨trivial,rfl,rfl⟩)) (QOps.sz (N:=118) 3 ((69,.ref 2020 0 0)::(68,.string v1.S)::(67,.ref 2020 0 0)::(66,.ref 2020 0 0)::(65,.ref 2020 0 0)::(Z61 v1 v2)) trivial (QOps.quietU (.ref 2020 0 0) rfl (Quiet.nilCheck rfl (gpoU rfl ⟨trivial,rfl,rfl⟩)) ?_)));have⟨g10,H⟩:=Y00 H;have⟨g11,H⟩:=Y00 H;refine QOps.sz (N:=118) 6 ((5,.j (1:Int))::(4,.string (Z68 v1 v2))::(74,.string (Z68 v1 v2))::(73,.j v2)::(72,.j v1.At)::(71,.ref 2020 0 1)::(70,.ref 2020 0 0)::(69,.ref 2020 0 0)::(68,.string v1.S)::(67,.ref 2020 0 0)::(66,.ref 2020 0 0)::(65,.ref 2020 0 0)::(Z61 v1 v2)) ⟨g10,g11,trivial⟩<|QOps.nil (AW.trim [5,4,0,3] ((5,.j (1:Int))::(4,.string (Z68 v1 v2))::(Z62 v2)) (by kernel_rfl) ?_);refine Y0 ?_;have⟨x12,hx12,H⟩:=Y0y H;refine Y20 rfl .nil (f_R09_names_ok hx12) (OpsW.sg 5 [7,6,5,4,0,3] ((Z6b x12)::(6,slA eS x12.1)::(5,.j (1:Int))::(4,.string (Z68 v1 v2))::(Z62 v2)) ?_);refine Y2 (Y05 (Y0 (OpsW.sg 1 [8,7,6,5,4,0,3] ((8,.j (0:Int))::(Z6b x12)::(6,slA eS x12.1)::(5,.j (1:Int))::(4,.string (Z68 v1 v2))::(Z62 v2)) ?_)));refine Y2 (Y04 ?_)
 refine Y40 (fun loop (s:Y1×Int×Int)=>Y2p v1 v2 x12 loop s.1 s.2.1 s.2.2) r (fun(s:Y1×Int×Int)=>[Z69,(3,.j v2),(4,.string (Z68 v1 v2)),(5,.j s.2.1),(6,slA eS x12.1),(Z6b x12),(8,.j s.2.2)]) (fun(s:Y1×Int×Int)=>[bxp s.1]) ?_ 1000000 (v1,(1:Int),(0:Int)) H (StC.mk ph1 (.o rfl (.i3 .nil) .nil) rfl (.cons (.r rfl) (.i6 .nil)));intro loop16 s H;have⟨v13,v14,v15⟩:=s;unfold Y2p at H;change AW _ _ _ (Z69::(3,.j v2)::(4,.string (Z68 v1 v2))::(5,.j v14)::(Z63 v15 x12)) (Z64 v13) _;refine Y05 (Y0 (OpsW.sg 4 [82,0,3,4,5,6,7,8] ((82,.bool (decide (v15<(x12.1.length:Int))))::Z69::(3,.j v2)::(4,.string (Z68 v1 v2))::(5,.j v14)::(Z63 v15 x12)) ?_));refine Y2 (Yc (b:=decide (v15<(x12.1.length:Int))) H rfl (fun c17 H=> ?_) (fun c17 H=> ?_))
 ·refine Yh (Y05 (Y04 (Y05 (Y0 ?_))));have⟨g18,H⟩:=Y00 H;refine OpsW.sz 4 [88,85,0,3,4,5,6,7,8] ((88,.ipt (x12.1.flatMap eS) (v15.toNat*1))::(85,.string (Z68 v1 v2))::Z69::(3,.j v2)::(4,.string (Z68 v1 v2))::(5,.j v14)::(Z63 v15 x12)) ⟨g18,trivial⟩ (OpsW.asU (.string (Z6c v15 x12)) rfl rfl (T.load rfl trivial (by kernel_rfl) (fm_cell0 eS 1 (fun _=>rfl) x12.1 ByteArray.empty v15.toNat (ltN g18) (fun a=>.val (.string a)) (fun _=>rfl))) (OpsW.sg 1 [90,0,3,4,5,6,7,8] ((90,.bool ((Z68 v1 v2).toList==(Z6c v15 x12).toList))::Z69::(3,.j v2)::(4,.string (Z68 v1 v2))::(5,.j v14)::(Z63 v15 x12)) (Y2 (Yc (b:=(Z68 v1 v2).toList==(Z6c v15 x12).toList) H rfl (fun c19 H=> ?_) (fun c19 H=> ?_)))))
  ·refine Y0 (OpsW.sg 2 [92,91,7,8] [(92,.j v2),(91,.ref 2020 0 0),(Z6b x12),(8,.j v15)] ?_);refine Y0s rfl rfl rfl (OpsW.sg 1 [94,92,7,8] [(94,.ref 2020 0 1),(92,.j v2),(Z6b x12),(8,.j v15)] (Y1d rfl rfl rfl rfl trivial trivial rfl rfl rfl (by kernel_rfl) (Yx (by kernel_rfl)) (X9 (by kernel_rfl)) ?_));change OpsW _ _ _ _ _ ((2020,⟨0,true,68,3,[.string v13.S,.j v2,.bool v13.Bad]⟩)::(Z64 v13)) _;refine OpsW.sg 0 [7,8] [(Z6b x12),(8,.j v15)] (OpsW.rc [(Z6b x12),(8,.j v15)] [(2020,⟨0,true,68,3,[.string v13.S,.j v2,.bool v13.Bad]⟩)] (StC.mk ph1 (.o rfl (.i3 .nil) .nil) rfl (.i2 .nil)) ?_);refine Y2 (Y0 ?_);have⟨g20,H⟩:=Y00 H;refine OpsW.sz 3 [97] [(97,.ipt (x12.2.flatMap (eI .i64)) (v15.toNat*1))] ⟨g20,trivial⟩ (OpsW.asU (.j (x12.2.getD v15.toNat 0)) rfl rfl (T.load rfl trivial (by kernel_rfl) (fm_cell0 (eI .i64) 1 (fun _=>rfl) x12.2 (0:Int) v15.toNat (ltN g20) (fun a=>.val (.j a)) (fun _=>rfl))) (OpsW.sg 1 [2] [(2,.j (x12.2.getD v15.toNat 0))] (Y2 ?_)));obtain rfl:=X6 H;refine Yp ?_;show ∃en' hp',StC _ _ en' hp'∧Done _ _ _ .ret en' hp';refine⟨[(2,.j (x12.2.getD v15.toNat 0))],[(2020,⟨0,true,68,3,[.string v13.S,.j v2,.bool v13.Bad]⟩)],(StC.mk ph1 (.o rfl (.i3 .nil) .nil) rfl (.cons .im .nil)), ?_⟩;refine Y32 rfl (.tmp .nil) ?_;exact⟨by kernel_rfl,by kernel_rfl⟩
  refine Yh (Yz (OpsW.sz 5 [103,100,99,0,3,4,5,6,7,8] ((103,.ipt (x12.1.flatMap eS) (v15.toNat*1))::(100,.string (Z68 v1 v2))::(99,.j v14)::Z69::(3,.j v2)::(4,.string (Z68 v1 v2))::(5,.j v14)::(Z63 v15 x12)) ⟨g18,trivial⟩ ?_));refine OpsW.asU (.string (Z6c v15 x12)) rfl rfl (T.load rfl trivial (by kernel_rfl) (fm_cell0 eS 1 (fun _=>rfl) x12.1 ByteArray.empty v15.toNat (ltN g18) (fun a=>.val (.string a)) (fun _=>rfl))) ?_;have⟨x21,hx21,H⟩:=Y0y H;refine Y20 rfl (.cons (.pur rfl) (.cons (.pur rfl) .nil)) (f_R09_common_ok hx21) (OpsW.sg 2 [5,0,3,4,6,7,8] ((5,.j (if x21>v14 then x21 else v14))::Z69::(3,.j v2)::(4,.string (Z68 v1 v2))::(Z63 v15 x12)) ?_);refine Y2 (Yz ?_);have⟨g22,H⟩:=Y00 H;refine OpsW.sz 3 [8,5,0,3,4,6,7] [(8,.j (v15+1)),(5,.j (if x21>v14 then x21 else v14)),Z69,(3,.j v2),(4,.string (Z68 v1 v2)),(6,slA eS x12.1),(Z6b x12)] ⟨g22,trivial⟩ (Y2 ?_);exact⟨(v13,(if x21>v14 then x21 else v14),v15+1),H,(StC.mk ph1 (.o rfl (.i3 .nil) .nil) rfl (.cons (.r rfl) (.i6 .nil)))⟩
 refine AW.exit<|Y0 (OpsW.sg 1 [107,0,5] [(107,.ref 2020 0 0),Z69,(5,.j v14)] ?_);refine Y0s rfl rfl rfl ?_;have⟨g23,H⟩:=Y00 H;refine OpsW.sz 4 [112,107,0] ((112,.j (v13.At+v14))::(107,.ref 2020 0 0)::Z65) ⟨g23,trivial⟩ (Y0s rfl rfl rfl (OpsW.sg 1 [114,112,0] ((114,.ref 2020 0 1)::(112,.j (v13.At+v14))::Z65) (Y1d rfl rfl rfl rfl trivial trivial rfl rfl rfl (by kernel_rfl) (Yx (by kernel_rfl)) (X9 (by kernel_rfl)) ?_)));change OpsW _ _ _ _ _ ((2020,⟨0,true,68,3,[.string v13.S,.j (v13.At+v14),.bool v13.Bad]⟩)::(Z64 v13)) _;refine OpsW.sg 0 [0] Z65 (OpsW.rc Z65 [(2020,⟨0,true,68,3,[.string v13.S,.j (v13.At+v14),.bool v13.Bad]⟩)] (StC.mk ph1 (.o rfl (.i3 .nil) .nil) rfl (.cons (.r rfl) .nil)) ?_);refine Y2 (Y0 (OpsW.sg 1 [115] [(115,.ref 2020 0 0)] ?_));refine Y0s rfl rfl rfl (OpsW.sg 1 [117] [(117,.ref 2020 0 2)] (Y1d rfl rfl rfl rfl trivial trivial rfl rfl rfl (by kernel_rfl) (Yx (by kernel_rfl)) (X9 (by kernel_rfl)) ?_));change OpsW _ _ _ _ _ [(2020,⟨0,true,68,3,[.string v13.S,.j (v13.At+v14),.bool true]⟩),(2020,⟨0,true,68,3,[.string v13.S,.j (v13.At+v14),.bool v13.Bad]⟩)] _;refine OpsW.sg 0 [] [] (OpsW.rc [] [(2020,⟨0,true,68,3,[.string v13.S,.j (v13.At+v14),.bool true]⟩)] (StC.mk ph1 (.o rfl (.i3 .nil) .nil) rfl .nil) ?_);refine Y2 (Y0 (OpsW.sg 1 [2] [(2,.j (1:Int))] ?_));refine Y2 ?_;obtain rfl:=X6 H;refine Yp ?_;show ∃en' hp',StC _ _ en' hp'∧Done _ _ _ .ret en' hp'
 refine⟨[(2,.j (1:Int))],[(2020,⟨0,true,68,3,[.string v13.S,.j (v13.At+v14),.bool true]⟩)],(StC.mk ph1 (.o rfl (.i3 .nil) .nil) rfl (.cons .im .nil)), ?_⟩;refine Y32 rfl (.tmp .nil) ?_;exact⟨by kernel_rfl,by kernel_rfl⟩
def Y2e (v3:List (List Y5)) (v12:Y1) (v13:List (List Y5)):Option ((List Y5)×Y1):=
 (Y1l (⟨(12:Int),(v3.length:Int)⟩:Y5) v13).bind fun x14=>
 some (x14,v12)
def Y1b (loop4:(Y1×(List (List Y5)))→Option ((List Y5)×Y1)) (v2:Y1) (v3:List (List Y5)):Option ((List Y5)×Y1):=
 (cond (((!v2.Bad)&&(!(decide ((v3.length:Int)<2))))&&(decide ((v3.length:Int)<5))) (Yn v2) (some (0:Int))).bind fun x5=>
 cond (cond (!v2.Bad) (cond (decide ((v3.length:Int)<2)) true (cond (decide ((v3.length:Int)<5)) (x5==44) false)) false) (
  (Y0c v2 (44:Int)).bind fun x7=>
  cond (!x7.Bad) (
   (Y1r x7).bind fun x9=>
   G (room 24 (v3.length+1))<|
   loop4 (x9.2,v3++[x9.1])) (
   loop4 (x7,v3))) (
  (Y0c v2 (59:Int)).bind fun x11=>
  cond (!x11.Bad) (
   (Y1r x11).bind fun x16=>
   G (room 24 (v3.length+1))<|
   Y2e v3 x16.2 (v3++[x16.1])) (
   Y2e v3 x11 v3))
def Y39 (t0:Y1):Option ((List Y5)×Y1):=
 (Y1r t0).bind fun x1=>
 iter (fun loop (s:Y1×(List (List Y5)))=>Y1b loop s.1 s.2) 1000000 (x1.2,[x1.1])
section
variable (t0:Y1) (v2:Y1) (v3:List (List Y5)) (x1:((List Y5)×Y1)) (x7:Y1) (x9:((List Y5)×Y1)) (x11:Y1) (x16:((List Y5)×Y1))
abbrev Z6s:=(v3.length:Int)
abbrev Z6t:=List (List Y5)
abbrev Z6u:=decide ((Z6s v3)<2)
abbrev Z6f:Hp:=[(3,rtA 0 23 1 (eL Y4) v3)]
abbrev Z6v:Hp:=bxp x11::(Z6f v3)
abbrev Z6w:Hp:=bxp x7::(Z6f v3)
abbrev Z6x:=decide ((Z6s v3)<5)
abbrev Z6e:Env:=[(0,.ref 2020 0 0),(3,.rsl 3 0 0 v3.length)]
abbrev Z6g:Env:=[(50,.ref 2020 0 0),(49,.rsl 3 0 0 v3.length),(4,.j (Z6s v3)),(3,.rsl 3 0 0 v3.length)]
abbrev Z6h:Hp:=[bxp v2]
abbrev Z6i:Hp:=[bxp x11]
abbrev Z6j:Hp:=[bxp t0]
abbrev Z6k:Hp:=[bxp x7]
abbrev Z6l:Env:=(4,.j (Z6s v3))::(Z6e v3)
abbrev Z6m:Env:=(36,.ref 2020 0 0)::(35,.rsl 3 0 0 v3.length)::(Z6e v3)
abbrev Z6n:Hp:=[bxp x1.2]
abbrev Z6o:Hp:=bxp v2::(Z6f v3)
abbrev Z6p:Env:=[(0,.ref 2020 0 0)]
abbrev Z6q:Hp:=[bxp x16.2]
abbrev Z6r:Hp:=[bxp x9.2]
end
theorem f_R09_parser_total_io{t0:Y1}{r:(List Y5)×Y1}(H:Y39 t0=some r):Abs.Spec Tryd.prog 76 [.ref 2020 0 0] [bxp t0] (fun x h=>x=slA Y4 r.1∧h=[bxp r.2]):=by
 refine Yw Tryd.func76 rfl (by simp[Tryd.ntmps76]) ?_;rw[Tryd.ntmps76];unfold Y39 at H;change AW _ _ _ Z6p (Z6j t0) _;refine Y5r<|Y0 (OpsW.sg 1 [0] Z6p ?_);refine Y2 (Y0 (OpsW.sg 1 [5,0] ((5,.ref 2020 0 0)::Z6p) ?_));refine OpsW.rc ((5,.ref 2020 0 0)::Z6p) (Z6j t0) (StC.mk ph1 (.o rfl (.i3 .nil) .nil) rfl (.cons (.r rfl) (.cons (.r rfl) .nil))) ?_;have⟨x1,hx1,H⟩:=Y0y H;refine Y2v (Z6j t0) [] (Z6j t0) ph1 rfl (Y3r hx1) (.cons (.r rfl) .nil) (.b (.i3 .nil) .nil) (slA Y4 x1.1) (Z6n x1) ph1 (.b (.i3 .nil) .nil) (.cons .im .nil) ?_;refine OpsW.buildT (enc:=eL Y4) [x1.1] rfl rfl rfl 7 rfl E77 (fun _=>rfl) (by decide) trivial (by kernel_rfl) (by kernel_rfl) (by kernel_rfl) rfl (OpsW.sg 1 [3,0] ((3,.rsl 7 0 0 ([x1.1].length))::Z6p) (OpsW.rc ((3,.rsl 3 0 0 ([x1.1].length))::Z6p) ((3,rtA 0 23 1 (eL Y4) [x1.1])::(Z6n x1)) (StC.mk (phi [(3,some 7),(2020,some 2020)]) (.o rfl (CstL.ims _) (.o rfl (.i3 .nil) .nil)) rfl (.cons (.s rfl) (.cons (.r rfl) .nil))) ?_));refine Y2 (Y05 (Y04 ?_));refine Y40 (fun loop (s:Y1×Z6t)=>Y1b loop s.1 s.2) r (fun(s:Y1×Z6t)=>[(0,.ref 2020 0 0),(3,.rsl 3 0 0 s.2.length)]) (fun(s:Y1×Z6t)=>[bxp s.1,(3,rtA 0 23 1 (eL Y4) s.2)]) ?_ 1000000 (x1.2,[x1.1]) H (StC.mk (phi [(2020,some 2020),(3,some 3)]) (.o rfl (.i3 .nil) (.o rfl (CstL.ims _) .nil)) rfl (.cons (.r rfl) (.cons (.s rfl) .nil)));intro loop4 s H;have⟨v2,v3⟩:=s;unfold Y1b at H;change AW _ _ _ (Z6e v3) (Z6o v2 v3) _
 refine Y05 (Y0 (OpsW.sg 1 [8,0,3] ((8,.ref 2020 0 0)::(Z6e v3)) ?_));refine Y0s rfl rfl rfl (OpsW.sz 13 [22,21,17,13,0,3] ((22,.cnd (((!v2.Bad)&&(!(Z6u v3)))&&(Z6x v3)) (.ref 2020 0 0))::(21,.cnd ((!v2.Bad)&&(!(Z6u v3))) (.bool (Z6x v3)))::(17,.cnd (!v2.Bad) (.bool (Z6u v3)))::(13,.bool (!v2.Bad))::(Z6e v3)) ⟨id,id,id,id,id,id,trivial⟩ ?_);have⟨x5,hx5,H⟩:=Y0y H;refine OpsW.gcall (c:=((!v2.Bad)&&(!(Z6u v3)))&&(Z6x v3)) (r:=.int .u8 x5) [2020] rfl (by kernel_rfl) rfl rfl rfl rfl (fun hc=>⟨Ys ⟨hc,trivial⟩,(.cons (ArgS.box (by simp) rfl rfl rfl rfl) .nil),Y0f (condT hc hx5),.inr rfl⟩) (OpsW.sz 4 [27,0,3] ((27,.bool (cond (!v2.Bad) (cond (Z6u v3) true (cond (Z6x v3) (x5==44) false)) false))::(Z6e v3)) ⟨id,id,(by grind),id,(by grind),(by grind),trivial⟩ (Y2 (Yc (b:=cond (!v2.Bad) (cond (Z6u v3) true (cond (Z6x v3) (x5==44) false)) false) H rfl (fun c6 H=> ?_) (fun c6 H=> ?_))))
 ·refine Yh (Y04 (Y0 (OpsW.sg 1 [28,0,3] ((28,.ref 2020 0 0)::(Z6e v3)) ?_)));refine OpsW.rc ((28,.ref 2020 0 0)::(Z6e v3)) (Z6o v2 v3) (StC.mk (phi [(2020,some 2020),(3,some 3)]) (.o rfl (.i3 .nil) (.o rfl (CstL.ims _) .nil)) rfl (.cons (.r rfl) (.cons (.r rfl) (.cons (.s rfl) .nil)))) ?_;have⟨x7,hx7,H⟩:=Y0y H;refine Y2v (Z6h v2) (Z6f v3) (Z6h v2) ph1 rfl (Y2q hx7) (.cons (.r rfl) (.cons .im .nil)) (.b (.i3 .nil) .nil) (.tup []) (Z6k x7) ph1 (.b (.i3 .nil) .nil) (.tup .nil .nil)<|OpsW.sg 0 [0,3] (Z6e v3) (OpsW.rc (Z6e v3) ((3,rtA 0 23 1 (eL Y4) v3)::(Z6k x7)) (StC.mk (phi [(3,some 3),(2020,some 2020)]) (.o rfl (CstL.ims _) (.o rfl (.i3 .nil) .nil)) rfl (.cons (.r rfl) (.cons (.s rfl) .nil))) ?_);refine Y2 (Y0 (OpsW.sg 1 [30,0,3] ((30,.ref 2020 0 0)::(Z6e v3)) ?_));refine Y0s rfl rfl rfl (OpsW.sg 3 [34,0,3] ((34,.bool (!x7.Bad))::(Z6e v3)) (Y2 (Yc (b:= !x7.Bad) H rfl (fun c8 H=> ?_) (fun c8 H=> ?_))))
  ·refine Yz (OpsW.sg 2 [36,35,0,3] (Z6m v3) ?_);refine OpsW.rc (Z6m v3) (Z6w v3 x7) (StC.mk (phi [(2020,some 2020),(3,some 3)]) (.o rfl (.i3 .nil) (.o rfl (CstL.ims _) .nil)) rfl (.cons (.r rfl) (.cons (.s rfl) (.cons (.r rfl) (.cons (.s rfl) .nil))))) ?_;have⟨x9,hx9,H⟩:=Y0y H;refine Y2v (Z6k x7) (Z6f v3) (Z6k x7) ph1 rfl (Y3r hx9) (.cons (.r rfl) .nil) (.b (.i3 .nil) .nil) (slA Y4 x9.1) (Z6r x9) ph1 (.b (.i3 .nil) .nil) (.cons .im .nil) ?_;have⟨g10,H⟩:=Y00 H;refine Y5q (enc:=eL Y4) [x9.1] rfl rfl rfl (by decide) rfl rfl rfl (by simp) E77 (fun _=>rfl) (by decide) trivial (by kernel_rfl) (by kernel_rfl) (by kernel_rfl) rfl rfl rfl g10 (OpsW.sg 1 [3,0] ((3,.rsl 3 1 0 ((v3++[x9.1]).length))::Z6p) (OpsW.rc ((3,.rsl 3 0 0 ((v3++[x9.1]).length))::Z6p) ((3,rtA 0 23 1 (eL Y4) (v3++[x9.1]))::(Z6r x9)) (StC.mk (phi [(3,some 3),(2020,some 2020)]) (.o rfl (CstL.ims _) (.o rfl (.i3 .nil) .nil)) rfl (.cons (.s rfl) (.cons (.r rfl) .nil))) (Y2 ?_)));exact⟨(x9.2,v3++[x9.1]),H,(StC.mk (phi [(2020,some 2020),(3,some 3)]) (.o rfl (.i3 .nil) (.o rfl (CstL.ims _) .nil)) rfl (.cons (.r rfl) (.cons (.s rfl) .nil)))⟩
  refine Yh ?_;exact⟨(x7,v3),H,(StC.mk (phi [(2020,some 2020),(3,some 3)]) (.o rfl (.i3 .nil) (.o rfl (CstL.ims _) .nil)) rfl (.cons (.r rfl) (.cons (.s rfl) .nil)))⟩
 refine AW.exit<|Y0 (OpsW.sg 3 [4,0,3] (Z6l v3) ?_);refine Y2 (Y0 (OpsW.sg 1 [42,4,0,3] ((42,.ref 2020 0 0)::(Z6l v3)) ?_));refine OpsW.rc ((42,.ref 2020 0 0)::(Z6l v3)) (Z6o v2 v3) (StC.mk (phi [(2020,some 2020),(3,some 3)]) (.o rfl (.i3 .nil) (.o rfl (CstL.ims _) .nil)) rfl (.cons (.r rfl) (.cons .im (.cons (.r rfl) (.cons (.s rfl) .nil))))) ?_;have⟨x11,hx11,H⟩:=Y0y H;refine Y2v (Z6h v2) (Z6f v3) (Z6h v2) ph1 rfl (Y2q hx11) (.cons (.r rfl) (.cons .im .nil)) (.b (.i3 .nil) .nil) (.tup []) (Z6i x11) ph1 (.b (.i3 .nil) .nil) (.tup .nil .nil)<|OpsW.sg 0 [4,0,3] (Z6l v3) (OpsW.rc (Z6l v3) ((3,rtA 0 23 1 (eL Y4) v3)::(Z6i x11)) (StC.mk (phi [(3,some 3),(2020,some 2020)]) (.o rfl (CstL.ims _) (.o rfl (.i3 .nil) .nil)) rfl (.cons .im (.cons (.r rfl) (.cons (.s rfl) .nil)))) (Y2 ?_));refine Y33 (fun(y:Y1×Z6t)=>Y2e v3 y.1 y.2) r (fun(y:Y1×Z6t)=>[(3,slA (eL Y4) y.2),(4,.j (Z6s v3))]) (fun(y:Y1×Z6t)=>[bxp y.1]) ?_ ?_
 ·refine Y0 (OpsW.sg 1 [44,4,0,3] ((44,.ref 2020 0 0)::(Z6l v3)) ?_);refine Y0s rfl rfl rfl (OpsW.sg 3 [48,4,0,3] ((48,.bool (!x11.Bad))::(Z6l v3)) (Y2 (Yc (b:= !x11.Bad) H rfl (fun c15 H=> ?_) (fun c15 H=> ?_))))
  ·refine Yz (OpsW.sg 2 [50,49,4,3] (Z6g v3) ?_);refine OpsW.rc (Z6g v3) (Z6v v3 x11) (StC.mk (phi [(2020,some 2020),(3,some 3)]) (.o rfl (.i3 .nil) (.o rfl (CstL.ims _) .nil)) rfl (.cons (.r rfl) (.cons (.s rfl) (.cons .im (.cons (.s rfl) .nil))))) ?_;have⟨x16,hx16,H⟩:=Y0y H;refine Y2v (Z6i x11) (Z6f v3) (Z6i x11) ph1 rfl (Y3r hx16) (.cons (.r rfl) .nil) (.b (.i3 .nil) .nil) (slA Y4 x16.1) (Z6q x16) ph1 (.b (.i3 .nil) .nil) (.cons .im .nil) ?_;have⟨g17,H⟩:=Y00 H;refine Y5q (enc:=eL Y4) [x16.1] rfl rfl rfl (by decide) rfl rfl rfl (by simp) E77 (fun _=>rfl) (by decide) trivial (by kernel_rfl) (by kernel_rfl) (by kernel_rfl) rfl rfl rfl g17 (OpsW.sg 1 [3,4] [(3,.rsl 3 1 0 ((v3++[x16.1]).length)),(4,.j (Z6s v3))] (OpsW.rc [(3,slA (eL Y4) (v3++[x16.1])),(4,.j (Z6s v3))] (Z6q x16) (StC.mk ph1 (.o rfl (.i3 .nil) .nil) rfl (.cons (.frz rfl rfl rfl (frz_all (eL Y4) 1 (fun _=>rfl) (v3++[x16.1])) (Y18 (eL Y4) 1 (fun _=>rfl) (v3++[x16.1])) (phi_ne rfl)) (.cons .im .nil))) (Y2 ?_)));exact⟨(x16.2,v3++[x16.1]),H,(StC.mk ph1 (.o rfl (.i3 .nil) .nil) rfl (.i2 .nil))⟩
  refine Yh ?_;exact⟨(x11,v3),H,(StC.mk ph1 (.o rfl (.i3 .nil) .nil) rfl (.cons (.frz rfl rfl rfl (frz_all (eL Y4) 1 (fun _=>rfl) v3) (Y18 (eL Y4) 1 (fun _=>rfl) v3) (phi_ne rfl)) (.cons .im .nil)))⟩
 rintro⟨v12,v13⟩ H;unfold Y2e at H;change AW _ _ _ [(3,slA (eL Y4) v13),(4,.j (Z6s v3))] [bxp v12] _;refine Y0 (OpsW.sg 3 [56,55] [(56,slA (eL Y4) v13),(55,.agg [.j (12:Int),.j (Z6s v3)])] ?_);have⟨x14,hx14,H⟩:=Y0y H;refine Y20 rfl (.cons (.pur rfl) (.cons (.pur rfl) .nil)) (Y4e hx14) (OpsW.sg 1 [2] [(2,slA Y4 x14)] (Y2 ?_));obtain rfl:=X6 H;refine Yp ?_;show ∃en' hp',StC _ _ en' hp'∧Done _ _ _ .ret en' hp';refine⟨[(2,slA Y4 x14)],[bxp v12],(StC.mk ph1 (.o rfl (.i3 .nil) .nil) rfl (.cons .im .nil)), ?_⟩;refine Y32 rfl (.tmp .nil) ?_;exact⟨by kernel_rfl,by kernel_rfl⟩
def Y1y (v2:Y1) (v3:List Y5):Option ((List Y5)×Y1):=
 some (v3,v2)
def Y08 (ra5:Y1→Int→Option ((List Y5)×Y1)) (t1:Int) (loop6:(Y1×(List Y5))→Option ((List Y5)×Y1)) (v4:Y1) (v5:List Y5):Option ((List Y5)×Y1):=
 cond (!v4.Bad) (
  (Yn v4).bind fun x8=>
  (Y5y x8).bind fun x9=>
  (cond (!(decide (x9<0))) (Y1u x9) (some (0:Int))).bind fun x10=>
  cond (cond (decide (x9<0)) true (decide (x10<t1))) (
   Y1y v4 v5) (
   G (inR (v4.At+1))<|
   (Y1u x9).bind fun x13=>
   G (inR (x13+1))<|
   (ra5 (⟨v4.S,v4.At+1,v4.Bad⟩:Y1) (x13+1)).bind fun x15=>
   (Y1l (⟨x9,(0:Int)⟩:Y5) [v5,x15.1]).bind fun x16=>
   loop6 (x15.2,x16))) (
  Y1y v4 v5)
def Y1o (ra5:Y1→Int→Option ((List Y5)×Y1)) (ra6:Y1→Option ((List Y5)×Y1)) (ra7:Y1→Option ((List Y5)×Y1)) (ra8:Y1→Int→Int→Option ((List (List Y5))×Y1)) (t0:Y1) (t1:Int):Option ((List Y5)×Y1):=
 (ra6 t0).bind fun x1=>
 iter (fun loop (s:Y1×(List Y5))=>Y08 ra5 t1 loop s.1 s.2) 1000000 (x1.2,x1.1)
section
variable (t0:Y1) (t1:Int) (v4:Y1) (v5:List Y5) (x9:Int)
abbrev Z6y:Env:=[(0,.ref 2020 0 0),(1,.j t1),(5,slA Y4 v5)]
abbrev Z6z:Hp:=[bxp t0]
abbrev Z70:Env:=(35,.ref 2020 0 0)::(34,slA Y4 v5)::(33,.agg [.j x9,.j (0:Int)])::(Z6y t1 v5)
abbrev Z71:Hp:=[(2020,⟨0,true,68,3,[.string v4.S,.j (v4.At+1),.bool v4.Bad]⟩)]
abbrev Z72:Env:=[(0,.ref 2020 0 0),(1,.j t1)]
end
theorem f_R09_parser_expression_body_io{ra5:Y1→Int→Option ((List Y5)×Y1)}{ra6:Y1→Option ((List Y5)×Y1)}{ra7:Y1→Option ((List Y5)×Y1)}{ra8:Y1→Int→Int→Option ((List (List Y5))×Y1)}(hra5:∀(t0:Y1) (t1:Int) (r:(List Y5)×Y1),ra5 t0 t1=some r→Abs.Spec Tryd.prog 34 [.ref 2020 0 0,.int .i64 t1] [bxp t0] (fun x h=>x=slA Y4 r.1∧h=[bxp r.2]))(hra6:∀(t0:Y1) (r:(List Y5)×Y1),ra6 t0=some r→Abs.Spec Tryd.prog 52 [.ref 2020 0 0] [bxp t0] (fun x h=>x=slA Y4 r.1∧h=[bxp r.2]))(hra7:∀(t0:Y1) (r:(List Y5)×Y1),ra7 t0=some r→Abs.Spec Tryd.prog 77 [.ref 2020 0 0] [bxp t0] (fun x h=>x=slA Y4 r.1∧h=[bxp r.2]))(hra8:∀(t0:Y1) (t1:Int) (t2:Int) (r:(List (List Y5))×Y1),ra8 t0 t1 t2=some r→Abs.Spec Tryd.prog 78 [.ref 2020 0 0,.int .i64 t1,.int .i64 t2] [bxp t0] (fun x h=>x= .rsl 1000 0 0 r.1.length∧h=[(1000,rtA 0 23 1 (eL Y4) r.1),bxp r.2])){t0:Y1}{t1:Int}{r:(List Y5)×Y1}(H:Y1o ra5 ra6 ra7 ra8 t0 t1=some r):Abs.Spec Tryd.prog 34 [.ref 2020 0 0,.int .i64 t1] [bxp t0] (fun x h=>x=slA Y4 r.1∧h=[bxp r.2]):=by
 refine Yw Tryd.func34 rfl (by simp[Tryd.ntmps34]) ?_;rw[Tryd.ntmps34];unfold Y1o at H;change AW _ _ _ (Z72 t1) (Z6z t0) _;refine Y5r<|Y0 (OpsW.sg 1 [0,1] (Z72 t1) ?_);refine Y2 (Y0 (OpsW.sg 1 [7,0,1] ((7,.ref 2020 0 0)::(Z72 t1)) ?_));refine OpsW.rc ((7,.ref 2020 0 0)::(Z72 t1)) (Z6z t0) (StC.mk ph1 (.o rfl (.i3 .nil) .nil) rfl (.cons (.r rfl) (.cons (.r rfl) (.cons .im .nil)))) ?_;have⟨x1,hx1,H⟩:=Y0y H;refine Y2v (Z6z t0) [] (Z6z t0) ph1 rfl (hra6 _ _ hx1) (.cons (.r rfl) .nil) (.b (.i3 .nil) .nil) (slA Y4 x1.1) [bxp x1.2] ph1 (.b (.i3 .nil) .nil) (.cons .im .nil)<|OpsW.sg 1 [5,0,1] ((5,slA Y4 x1.1)::(Z72 t1)) (Y2 ?_);refine Y33 (fun(y:Y1×(List Y5))=>Y1y y.1 y.2) r (fun(y:Y1×(List Y5))=>[(5,slA Y4 y.2)]) (fun(y:Y1×(List Y5))=>[bxp y.1]) ?_ ?_
 ·refine Y04<|Y40 (fun loop (s:Y1×(List Y5))=>Y08 ra5 t1 loop s.1 s.2) r (fun(s:Y1×(List Y5))=>[(0,.ref 2020 0 0),(1,.j t1),(5,slA Y4 s.2)]) (fun(s:Y1×(List Y5))=>[bxp s.1]) ?_ 1000000 (x1.2,x1.1) H (StC.mk ph1 (.o rfl (.i3 .nil) .nil) rfl (.cons (.r rfl) (.i2 .nil)));intro loop6 s H;have⟨v4,v5⟩:=s;unfold Y08 at H;change AW _ _ _ (Z6y t1 v5) [bxp v4] _;refine Y05 (Y0 (OpsW.sg 1 [9,0,1,5] ((9,.ref 2020 0 0)::(Z6y t1 v5)) ?_));refine Y0s rfl rfl rfl (OpsW.sg 3 [13,0,1,5] ((13,.bool (!v4.Bad))::(Z6y t1 v5)) (Y2 (Yc (b:= !v4.Bad) H rfl (fun c7 H=> ?_) (fun c7 H=> ?_))))
  ·refine Yh (Y04 (Y0 (OpsW.sg 1 [14,0,1,5] ((14,.ref 2020 0 0)::(Z6y t1 v5)) ?_)));have⟨x8,hx8,H⟩:=Y0y H;refine OpsW.bcall (r:=.int .u8 x8) [2020] rfl (by kernel_rfl) rfl rfl (Ys trivial) (.cons (ArgS.box (by simp) rfl rfl rfl rfl) .nil) (Y0f hx8) rfl ?_;have⟨x9,hx9,H⟩:=Y0y H;refine Y20 rfl (.cons (.pur rfl) .nil) (f_R09_operator_ok hx9) (OpsW.sg 1 [6,0,1,5] ((6,.j x9)::(Z6y t1 v5)) ?_);refine Y2 (Y05 (Y0 (OpsW.sg 4 [20,19,6,0,1,5] ((20,.cnd (!(decide (x9<0))) (.j x9))::(19,.bool (decide (x9<0)))::(6,.j x9)::(Z6y t1 v5)) ?_)));have⟨x10,hx10,H⟩:=Y0y H;refine OpsW.gcall (c:= !(decide (x9<0))) (r:=.j x10) [] rfl (by kernel_rfl) rfl rfl rfl rfl (fun hc=>⟨Ys ⟨hc,trivial⟩,(.cons (.pur rfl) .nil),Y3m (condT hc hx10),.inl ⟨rfl,rfl⟩⟩) (OpsW.sz 3 [24,6,0,1,5] ((24,.bool (cond (decide (x9<0)) true (decide (x10<t1))))::(6,.j x9)::(Z6y t1 v5)) ⟨id,id,(by grind),trivial⟩ (Y2 (Yc (b:=cond (decide (x9<0)) true (decide (x10<t1))) H rfl (fun c11 H=> ?_) (fun c11 H=> ?_))))
   ·refine AW.exit ?_;exact⟨(v4,v5),H,(StC.mk ph1 (.o rfl (.i3 .nil) .nil) rfl (.cons .im .nil))⟩
   refine Yh (Y0 (OpsW.sg 1 [25,6,0,1,5] ((25,.ref 2020 0 0)::(6,.j x9)::(Z6y t1 v5)) ?_));refine Y0s rfl rfl rfl ?_;have⟨g12,H⟩:=Y00 H;refine OpsW.sz 3 [29,25,6,0,1,5] ((29,.j (v4.At+1))::(25,.ref 2020 0 0)::(6,.j x9)::(Z6y t1 v5)) ⟨g12,trivial⟩ (Y0s rfl rfl rfl (OpsW.sg 1 [31,29,6,0,1,5] ((31,.ref 2020 0 1)::(29,.j (v4.At+1))::(6,.j x9)::(Z6y t1 v5)) (Y1d rfl rfl rfl rfl trivial trivial rfl rfl rfl (by kernel_rfl) (Yx (by kernel_rfl)) (X9 (by kernel_rfl)) ?_)));change OpsW _ _ _ _ _ [(2020,⟨0,true,68,3,[.string v4.S,.j (v4.At+1),.bool v4.Bad]⟩),bxp v4] _;refine OpsW.sg 0 [6,0,1,5] ((6,.j x9)::(Z6y t1 v5)) (OpsW.rc ((6,.j x9)::(Z6y t1 v5)) (Z71 v4) (StC.mk ph1 (.o rfl (.i3 .nil) .nil) rfl (.cons .im (.cons (.r rfl) (.i2 .nil)))) ?_);refine Y2 (Yz (OpsW.sg 5 [36,35,34,33,0,1,5] ((36,.j x9)::(Z70 t1 v5 x9)) ?_));have⟨x13,hx13,H⟩:=Y0y H;refine Y20 rfl (.cons (.pur rfl) .nil) (Y3m hx13) ?_;have⟨g14,H⟩:=Y00 H;refine OpsW.sz 1 [38,35,34,33,0,1,5] ((38,.j (x13+1))::(Z70 t1 v5 x9)) ⟨g14,trivial⟩ ?_;have⟨x15,hx15,H⟩:=Y0y H;refine Y2v (Z71 v4) [] (Z71 v4) ph1 rfl (hra5 _ _ _ hx15) (.cons (.r rfl) (.cons .im .nil)) (.b (.i3 .nil) .nil) (slA Y4 x15.1) [bxp x15.2] ph1 (.b (.i3 .nil) .nil) (.cons .im .nil)<|OpsW.buildTI (enc:=eL Y4) [v5,x15.1] rfl rfl rfl E77 (fun _=>rfl) (by decide) ⟨trivial,by kernel_rfl,by kernel_rfl,by kernel_rfl,rfl⟩ ?_;have⟨x16,hx16,H⟩:=Y0y H
   refine Y20 rfl (.cons (.pur rfl) (.cons (.pur rfl) .nil)) (Y4e hx16) (OpsW.sg 1 [5,0,1] ((5,slA Y4 x16)::(Z72 t1)) (OpsW.rc ((5,slA Y4 x16)::(Z72 t1)) [bxp x15.2] (StC.mk ph1 (.o rfl (.i3 .nil) .nil) rfl (.cons .im (.cons (.r rfl) (.cons .im .nil)))) (Y2 ?_)));exact⟨(x15.2,x16),H,(StC.mk ph1 (.o rfl (.i3 .nil) .nil) rfl (.cons (.r rfl) (.i2 .nil)))⟩
  refine AW.exit ?_;exact⟨(v4,v5),H,(StC.mk ph1 (.o rfl (.i3 .nil) .nil) rfl (.cons .im .nil))⟩
 rintro⟨v2,v3⟩ H;unfold Y1y at H;change AW _ _ _ [(5,slA Y4 v3)] [bxp v2] _;refine Y0 (OpsW.sg 2 [4] [(4,slA Y4 v3)] ?_);refine Y2 ?_;obtain rfl:=X6 H;refine Yp ?_;show ∃en' hp',StC _ _ en' hp'∧Done _ _ _ .ret en' hp';refine⟨[(4,slA Y4 v3)],[bxp v2],(StC.mk ph1 (.o rfl (.i3 .nil) .nil) rfl (.cons .im .nil)), ?_⟩;refine Y32 rfl (.tmp .nil) ?_;exact⟨by kernel_rfl,by kernel_rfl⟩
def Y0k (v22:Y1) (v23:List Y5):Option ((List Y5)×Y1):=
 (Y0c v22 (41:Int)).bind fun x24=>
 some (v23,x24)
def Y09 (ra8:Y1→Int→Int→Option ((List (List Y5))×Y1)) (x14:Int×Y1) (v29:Y1) (v30:Bool):Option ((List Y5)×Y1):=
 cond v30 (
  (ra8 v29 (1:Int) (1:Int)).bind fun x32=>
  (Y1l (⟨x14.1,(0:Int)⟩:Y5) x32.1).bind fun x33=>
  Y0k x32.2 x33) (
  (ra8 v29 (2:Int) (2:Int)).bind fun x34=>
  (Y1l (⟨x14.1,(0:Int)⟩:Y5) x34.1).bind fun x35=>
  Y0k x34.2 x35)
def Y3s (ra5:Y1→Int→Option ((List Y5)×Y1)) (ra6:Y1→Option ((List Y5)×Y1)) (ra7:Y1→Option ((List Y5)×Y1)) (ra8:Y1→Int→Int→Option ((List (List Y5))×Y1)) (t0:Y1):Option ((List Y5)×Y1):=
 (Yn t0).bind fun x1=>
 (Y5i x1).bind fun x2=>
 cond x2 (
  (Y1r t0).bind fun x4=>
  some (x4.1,x4.2)) (
  (Yn t0).bind fun x5=>
  cond (x5==40) (
   G (inR (t0.At+1))<|
   (ra5 (⟨t0.S,t0.At+1,t0.Bad⟩:Y1) (1:Int)).bind fun x8=>
   (Y0c x8.2 (41:Int)).bind fun x9=>
   (Y1l (⟨(10:Int),(0:Int)⟩:Y5) [x8.1]).bind fun x10=>
   some (x10,x9)) (
   (Yn t0).bind fun x11=>
   (Y5h x11).bind fun x12=>
   cond (!x12) (
    some ([],(⟨t0.S,t0.At,true⟩:Y1))) (
    (Y3i t0).bind fun x14=>
    cond x14.2.Bad (
     some ([],x14.2)) (
     cond (x14.1==1) (
      G (inR (x14.2.At+1))<|
      G (inR ((x14.2.At+1)-1))<|
      G (0≤((x14.2.At+1)-1)∧((x14.2.At+1)-1)<(x14.2.S.size:Int))<|
      some ([(⟨(1:Int),IntKind.wrap .i64 (IntKind.wrap .u8 ((bAt x14.2.S ((x14.2.At+1)-1))-97))⟩:Y5)],(⟨x14.2.S,x14.2.At+1,x14.2.Bad⟩:Y1))) (
      (Y0c x14.2 (40:Int)).bind fun x20=>
      cond x20.Bad (
       some ([],x20)) (
       cond (x14.1==12) (
        (Y39 x20).bind fun x26=>
        Y0k x26.2 x26.1) (
        cond (x14.1==13) (
         (ra7 x20).bind fun x28=>
         Y0k x28.2 x28.1) (
         cond (x14.1==9) (
          Y09 ra8 x14 x20 (x14.1==9)) (
          Y09 ra8 x14 x20 (x14.1==11))))))))))
section
variable (t0:Y1) (v22:Y1) (v29:Y1) (x4:((List Y5)×Y1)) (x9:Y1) (x14:Int×Y1) (x20:Y1) (x24:Y1) (x26:((List Y5)×Y1))
abbrev Z7k:=(x14.2.At+1)-1
abbrev Z73:Env:=[(0,.ref 2020 0 0)]
abbrev Z74:Hp:=[bxp x20]
abbrev Z75:Hp:=[bxp t0]
abbrev Z76:Hp:=[bxp x14.2]
abbrev Z77:Hp:=[bxp v29]
abbrev Z78:Hp:=[(2020,⟨0,true,68,3,[.string t0.S,.j (t0.At+1),.bool t0.Bad]⟩)]
abbrev Z79:Hp:=[bxp v22]
abbrev Z7a:Env:=(91,.ref 2020 0 0)::(90,.agg [.j x14.1,.j (0:Int)])::Z73
abbrev Z7b:Env:=(75,.ref 2020 0 0)::(74,.agg [.j x14.1,.j (0:Int)])::Z73
abbrev Z7c:Hp:=[bxp x4.2]
abbrev Z7d:Env:=(53,.ref 2020 0 0)::(52,.ref 2020 0 0)::(51,.ref 2020 0 0)::Z73
abbrev Z7e:Hp:=[bxp x24]
abbrev Z7f:Hp:=[bxp x9]
abbrev Z7g:Env:=(65,.ref 2020 0 0)::(4,.j x14.1)::Z73
abbrev Z7h:Hp:=[(2020,⟨0,true,68,3,[.string x14.2.S,.j (x14.2.At+1),.bool x14.2.Bad]⟩)]
abbrev Z7i:Hp:=[bxp x26.2]
abbrev Z7j:Env:=(72,.j x14.1)::(4,.j x14.1)::Z73
end
theorem f_R09_parser_atom_body_io{ra5:Y1→Int→Option ((List Y5)×Y1)}{ra6:Y1→Option ((List Y5)×Y1)}{ra7:Y1→Option ((List Y5)×Y1)}{ra8:Y1→Int→Int→Option ((List (List Y5))×Y1)}(hra5:∀(t0:Y1) (t1:Int) (r:(List Y5)×Y1),ra5 t0 t1=some r→Abs.Spec Tryd.prog 34 [.ref 2020 0 0,.int .i64 t1] [bxp t0] (fun x h=>x=slA Y4 r.1∧h=[bxp r.2]))(hra6:∀(t0:Y1) (r:(List Y5)×Y1),ra6 t0=some r→Abs.Spec Tryd.prog 52 [.ref 2020 0 0] [bxp t0] (fun x h=>x=slA Y4 r.1∧h=[bxp r.2]))(hra7:∀(t0:Y1) (r:(List Y5)×Y1),ra7 t0=some r→Abs.Spec Tryd.prog 77 [.ref 2020 0 0] [bxp t0] (fun x h=>x=slA Y4 r.1∧h=[bxp r.2]))(hra8:∀(t0:Y1) (t1:Int) (t2:Int) (r:(List (List Y5))×Y1),ra8 t0 t1 t2=some r→Abs.Spec Tryd.prog 78 [.ref 2020 0 0,.int .i64 t1,.int .i64 t2] [bxp t0] (fun x h=>x= .rsl 1000 0 0 r.1.length∧h=[(1000,rtA 0 23 1 (eL Y4) r.1),bxp r.2])){t0:Y1}{r:(List Y5)×Y1}(H:Y3s ra5 ra6 ra7 ra8 t0=some r):Abs.Spec Tryd.prog 52 [.ref 2020 0 0] [bxp t0] (fun x h=>x=slA Y4 r.1∧h=[bxp r.2]):=by
 refine Yw Tryd.func52 rfl (by simp[Tryd.ntmps52]) ?_;rw[Tryd.ntmps52];unfold Y3s at H;change AW _ _ _ Z73 (Z75 t0) _;refine Y5r<|Y0 (OpsW.sg 1 [0] Z73 ?_);refine Y2 (Y05 (Y0 (OpsW.sg 1 [6,0] ((6,.ref 2020 0 0)::Z73) ?_)));have⟨x1,hx1,H⟩:=Y0y H;refine OpsW.bcall (r:=.int .u8 x1) [2020] rfl (by kernel_rfl) rfl rfl (Ys trivial) (.cons (ArgS.box (by simp) rfl rfl rfl rfl) .nil) (Y0f hx1) rfl ?_;have⟨x2,hx2,H⟩:=Y0y H;refine Y20 rfl (.cons (.pur rfl) .nil) (f_R09_digit_ok hx2) (OpsW.sg 0 [8,0] ((8,.bool x2)::Z73) (Y2 (Yc (b:=x2) H rfl (fun c3 H=> ?_) (fun c3 H=> ?_))))
 ·refine Y0 (OpsW.sg 1 [9] [(9,.ref 2020 0 0)] ?_);refine OpsW.rc [(9,.ref 2020 0 0)] (Z75 t0) (StC.mk ph1 (.o rfl (.i3 .nil) .nil) rfl (.cons (.r rfl) .nil)) ?_;have⟨x4,hx4,H⟩:=Y0y H;refine Y2v (Z75 t0) [] (Z75 t0) ph1 rfl (Y3r hx4) (.cons (.r rfl) .nil) (.b (.i3 .nil) .nil) (slA Y4 x4.1) (Z7c x4) ph1 (.b (.i3 .nil) .nil) (.cons .im .nil)<|OpsW.sg 1 [2] [(2,slA Y4 x4.1)] (Y2 ?_);obtain rfl:=X6 H;refine Yp ?_;show ∃en' hp',StC _ _ en' hp'∧Done _ _ _ .ret en' hp';refine⟨[(2,slA Y4 x4.1)],(Z7c x4),(StC.mk ph1 (.o rfl (.i3 .nil) .nil) rfl (.cons .im .nil)), ?_⟩;refine Y32 rfl (.tmp .nil) ?_;exact⟨by kernel_rfl,by kernel_rfl⟩
 refine Yh (Y05 (Y0 (OpsW.sg 1 [11,0] ((11,.ref 2020 0 0)::Z73) ?_)));have⟨x5,hx5,H⟩:=Y0y H;refine OpsW.bcall (r:=.int .u8 x5) [2020] rfl (by kernel_rfl) rfl rfl (Ys trivial) (.cons (ArgS.box (by simp) rfl rfl rfl rfl) .nil) (Y0f hx5) rfl (OpsW.sg 1 [13,0] ((13,.bool (x5==40))::Z73) (Y2 (Yc (b:=x5==40) H rfl (fun c6 H=> ?_) (fun c6 H=> ?_))))
 ·refine Y0 (OpsW.sg 1 [14,0] ((14,.ref 2020 0 0)::Z73) ?_);refine Y0s rfl rfl rfl ?_;have⟨g7,H⟩:=Y00 H;refine OpsW.sz 3 [18,14,0] ((18,.j (t0.At+1))::(14,.ref 2020 0 0)::Z73) ⟨g7,trivial⟩ (Y0s rfl rfl rfl (OpsW.sg 1 [20,18,0] ((20,.ref 2020 0 1)::(18,.j (t0.At+1))::Z73) (Y1d rfl rfl rfl rfl trivial trivial rfl rfl rfl (by kernel_rfl) (Yx (by kernel_rfl)) (X9 (by kernel_rfl)) ?_)));change OpsW _ _ _ _ _ ((2020,⟨0,true,68,3,[.string t0.S,.j (t0.At+1),.bool t0.Bad]⟩)::(Z75 t0)) _;refine OpsW.sg 0 [0] Z73 (OpsW.rc Z73 (Z78 t0) (StC.mk ph1 (.o rfl (.i3 .nil) .nil) rfl (.cons (.r rfl) .nil)) ?_);refine Y2 (Y0 (OpsW.sg 1 [21,0] ((21,.ref 2020 0 0)::Z73) ?_));have⟨x8,hx8,H⟩:=Y0y H;refine Y2v (Z78 t0) [] (Z78 t0) ph1 rfl (hra5 _ _ _ hx8) (.cons (.r rfl) (.cons .im .nil)) (.b (.i3 .nil) .nil) (slA Y4 x8.1) [bxp x8.2] ph1 (.b (.i3 .nil) .nil) (.cons .im .nil)<|OpsW.sg 1 [3,0] ((3,slA Y4 x8.1)::Z73)<|Y2 (Y0 (OpsW.sg 1 [23,3] [(23,.ref 2020 0 0),(3,slA Y4 x8.1)] ?_));have⟨x9,hx9,H⟩:=Y0y H;refine Y2v [bxp x8.2] [] [bxp x8.2] ph1 rfl (Y2q hx9) (.cons (.r rfl) (.cons .im .nil)) (.b (.i3 .nil) .nil) (.tup []) (Z7f x9) ph1 (.b (.i3 .nil) .nil) (.tup .nil .nil)<|OpsW.sg 0 [3] [(3,slA Y4 x8.1)]<|Y2 (Y0 (OpsW.sg 2 [26,25] [(26,slA Y4 x8.1),(25,.agg [.j (10:Int),.j (0:Int)])] ?_))
  refine OpsW.buildTI (enc:=eL Y4) [x8.1] rfl rfl rfl E77 (fun _=>rfl) (by decide) ⟨trivial,by kernel_rfl,by kernel_rfl,by kernel_rfl,rfl⟩ ?_;have⟨x10,hx10,H⟩:=Y0y H;refine Y20 rfl (.cons (.pur rfl) (.cons (.pur rfl) .nil)) (Y4e hx10) (OpsW.sg 1 [2] [(2,slA Y4 x10)] (Y2 ?_));obtain rfl:=X6 H;refine Yp ?_;show ∃en' hp',StC _ _ en' hp'∧Done _ _ _ .ret en' hp';refine⟨[(2,slA Y4 x10)],(Z7f x9),(StC.mk ph1 (.o rfl (.i3 .nil) .nil) rfl (.cons .im .nil)), ?_⟩;refine Y32 rfl (.tmp .nil) ?_;exact⟨by kernel_rfl,by kernel_rfl⟩
 refine Yh (Y05 (Y0 (OpsW.sg 1 [29,0] ((29,.ref 2020 0 0)::Z73) ?_)));have⟨x11,hx11,H⟩:=Y0y H;refine OpsW.bcall (r:=.int .u8 x11) [2020] rfl (by kernel_rfl) rfl rfl (Ys trivial) (.cons (ArgS.box (by simp) rfl rfl rfl rfl) .nil) (Y0f hx11) rfl ?_;have⟨x12,hx12,H⟩:=Y0y H;refine Y20 rfl (.cons (.pur rfl) .nil) (f_R09_letter_ok hx12) (OpsW.sg 1 [32,0] ((32,.bool (!x12))::Z73) (Y2 (Yc (b:= !x12) H rfl (fun c13 H=> ?_) (fun c13 H=> ?_))))
 ·refine Y0 (OpsW.sg 1 [33] [(33,.ref 2020 0 0)] ?_);refine Y0s rfl rfl rfl (OpsW.sg 1 [35] [(35,.ref 2020 0 2)] (Y1d rfl rfl rfl rfl trivial trivial rfl rfl rfl (by kernel_rfl) (Yx (by kernel_rfl)) (X9 (by kernel_rfl)) ?_));change OpsW _ _ _ _ _ ((2020,⟨0,true,68,3,[.string t0.S,.j t0.At,.bool true]⟩)::(Z75 t0)) _;refine OpsW.sg 0 [] [] (OpsW.rc [] [(2020,⟨0,true,68,3,[.string t0.S,.j t0.At,.bool true]⟩)] (StC.mk ph1 (.o rfl (.i3 .nil) .nil) rfl .nil) ?_);refine Y2 (Y0 (OpsW.sg 1 [2] [(2,.im (.val (.slice none 0 0)))] ?_));refine Y2 ?_;obtain rfl:=X6 H;refine Yp ?_;show ∃en' hp',StC _ _ en' hp'∧Done _ _ _ .ret en' hp';refine⟨[(2,slA Y4 [])],[(2020,⟨0,true,68,3,[.string t0.S,.j t0.At,.bool true]⟩)],(StC.mk ph1 (.o rfl (.i3 .nil) .nil) rfl (.cons .nil .nil)), ?_⟩;refine Y32 rfl (.tmp .nil) ?_;exact⟨by kernel_rfl,by kernel_rfl⟩
 refine Yh (Y0 (OpsW.sg 1 [36,0] ((36,.ref 2020 0 0)::Z73) ?_));refine OpsW.rc ((36,.ref 2020 0 0)::Z73) (Z75 t0) (StC.mk ph1 (.o rfl (.i3 .nil) .nil) rfl (.cons (.r rfl) (.cons (.r rfl) .nil))) ?_;have⟨x14,hx14,H⟩:=Y0y H;refine Y2v (Z75 t0) [] (Z75 t0) ph1 rfl (f_R09_parser_word_io hx14) (.cons (.r rfl) .nil) (.b (.i3 .nil) .nil) (.j x14.1) (Z76 x14) ph1 (.b (.i3 .nil) .nil) (.cons .im .nil)<|OpsW.sg 1 [4,0] ((4,.j x14.1)::Z73)<|Y2 (Y05 (Y0 (OpsW.sg 1 [38,4,0] ((38,.ref 2020 0 0)::(4,.j x14.1)::Z73) ?_)));refine Y0s rfl rfl rfl (OpsW.sg 2 [41,4,0] ((41,.bool x14.2.Bad)::(4,.j x14.1)::Z73) (Y2 (Yc (b:=x14.2.Bad) H rfl (fun c15 H=> ?_) (fun c15 H=> ?_))))
 ·refine Y0 (OpsW.sg 1 [2] [(2,.im (.val (.slice none 0 0)))] ?_);refine Y2 ?_;obtain rfl:=X6 H;refine Yp ?_;show ∃en' hp',StC _ _ en' hp'∧Done _ _ _ .ret en' hp';refine⟨[(2,slA Y4 [])],(Z76 x14),(StC.mk ph1 (.o rfl (.i3 .nil) .nil) rfl (.cons .nil .nil)), ?_⟩;refine Y32 rfl (.tmp .nil) ?_;exact⟨by kernel_rfl,by kernel_rfl⟩
 refine Yh (Y05 (Y0 (OpsW.sg 2 [43,4,0] ((43,.bool (x14.1==1))::(4,.j x14.1)::Z73) ?_)));refine Y2 (Yc (b:=x14.1==1) H rfl (fun c16 H=> ?_) (fun c16 H=> ?_))
 ·refine Y0 (OpsW.sg 1 [44,0] ((44,.ref 2020 0 0)::Z73) ?_);refine Y0s rfl rfl rfl ?_;have⟨g17,H⟩:=Y00 H;refine OpsW.sz 3 [48,44,0] ((48,.j (x14.2.At+1))::(44,.ref 2020 0 0)::Z73) ⟨g17,trivial⟩ (Y0s rfl rfl rfl (OpsW.sg 1 [50,48,0] ((50,.ref 2020 0 1)::(48,.j (x14.2.At+1))::Z73) (Y1d rfl rfl rfl rfl trivial trivial rfl rfl rfl (by kernel_rfl) (Yx (by kernel_rfl)) (X9 (by kernel_rfl)) ?_)));change OpsW _ _ _ _ _ ((2020,⟨0,true,68,3,[.string x14.2.S,.j (x14.2.At+1),.bool x14.2.Bad]⟩)::(Z76 x14)) _;refine OpsW.sg 0 [0] Z73 (OpsW.rc Z73 (Z7h x14) (StC.mk ph1 (.o rfl (.i3 .nil) .nil) rfl (.cons (.r rfl) .nil)) ?_);refine Y2 (Y28 Tryd.checked.mixed (by kernel_rfl) ?_);refine QOps.sz (N:=97) 1 ((51,.ref 2020 0 0)::Z73) trivial (QOps.quietU (.ref 2020 0 0) rfl (Quiet.nilCheck rfl (gpoU rfl ⟨trivial,rfl,rfl⟩)) (QOps.sz (N:=97) 3 ((55,.ref 2020 0 0)::(54,.string x14.2.S)::Z7d) trivial (QOps.quietU (.ref 2020 0 0) rfl (Quiet.nilCheck rfl (gpoU rfl ⟨trivial,rfl,rfl⟩)) ?_)));have⟨g18,H⟩:=Y00 H;have⟨g19,H⟩:=Y00 H
  refine QOps.sz (N:=97) 7 ((63,.agg [.j (1:Int),.j (IntKind.wrap .i64 (IntKind.wrap .u8 ((bAt x14.2.S (Z7k x14))-97)))])::(62,.j (IntKind.wrap .i64 (IntKind.wrap .u8 ((bAt x14.2.S (Z7k x14))-97))))::(61,.int .u8 (IntKind.wrap .u8 ((bAt x14.2.S (Z7k x14))-97)))::(60,.int .u8 (bAt x14.2.S (Z7k x14)))::(59,.j (Z7k x14))::(58,.j (x14.2.At+1))::(57,.ref 2020 0 1)::(56,.ref 2020 0 0)::(55,.ref 2020 0 0)::(54,.string x14.2.S)::Z7d) ⟨g18,g19,trivial⟩ (QOps.buildTI (enc:=Y4) [(⟨(1:Int),IntKind.wrap .i64 (IntKind.wrap .u8 ((bAt x14.2.S (Z7k x14))-97))⟩:Y5)] rfl rfl E23 (fun _=>rfl) (by decide) ⟨trivial,by kernel_rfl,by kernel_rfl,by kernel_rfl,rfl⟩ (QOps.sz (N:=97) 1 ((2,slA Y4 [(⟨(1:Int),IntKind.wrap .i64 (IntKind.wrap .u8 ((bAt x14.2.S (Z7k x14))-97))⟩:Y5)])::(64,slA Y4 [(⟨(1:Int),IntKind.wrap .i64 (IntKind.wrap .u8 ((bAt x14.2.S (Z7k x14))-97))⟩:Y5)])::(63,.agg [.j (1:Int),.j (IntKind.wrap .i64 (IntKind.wrap .u8 ((bAt x14.2.S (Z7k x14))-97)))])::(62,.j (IntKind.wrap .i64 (IntKind.wrap .u8 ((bAt x14.2.S (Z7k x14))-97))))::(61,.int .u8 (IntKind.wrap .u8 ((bAt x14.2.S (Z7k x14))-97)))::(60,.int .u8 (bAt x14.2.S (Z7k x14)))::(59,.j (Z7k x14))::(58,.j (x14.2.At+1))::(57,.ref 2020 0 1)::(56,.ref 2020 0 0)::(55,.ref 2020 0 0)::(54,.string x14.2.S)::Z7d) trivial ?_))
  refine QOps.nil (AW.trim [2] [(2,slA Y4 [(⟨(1:Int),IntKind.wrap .i64 (IntKind.wrap .u8 ((bAt x14.2.S (Z7k x14))-97))⟩:Y5)])] (by kernel_rfl) ?_);obtain rfl:=X6 H;refine Yp ?_;show ∃en' hp',StC _ _ en' hp'∧Done _ _ _ .ret en' hp';refine⟨[(2,slA Y4 [(⟨(1:Int),IntKind.wrap .i64 (IntKind.wrap .u8 ((bAt x14.2.S (Z7k x14))-97))⟩:Y5)])],(Z7h x14),(StC.mk ph1 (.o rfl (.i3 .nil) .nil) rfl (.cons .im .nil)), ?_⟩;refine Y32 rfl (.tmp .nil) ?_;exact⟨by kernel_rfl,by kernel_rfl⟩
 refine Yh (Y0 (OpsW.sg 1 [65,4,0] (Z7g x14) ?_));refine OpsW.rc (Z7g x14) (Z76 x14) (StC.mk ph1 (.o rfl (.i3 .nil) .nil) rfl (.cons (.r rfl) (.cons .im (.cons (.r rfl) .nil)))) ?_;have⟨x20,hx20,H⟩:=Y0y H;refine Y2v (Z76 x14) [] (Z76 x14) ph1 rfl (Y2q hx20) (.cons (.r rfl) (.cons .im .nil)) (.b (.i3 .nil) .nil) (.tup []) (Z74 x20) ph1 (.b (.i3 .nil) .nil) (.tup .nil .nil)<|OpsW.sg 0 [4,0] ((4,.j x14.1)::Z73)<|Y2 (Y05 (Y0 (OpsW.sg 1 [67,4,0] ((67,.ref 2020 0 0)::(4,.j x14.1)::Z73) ?_)));refine Y0s rfl rfl rfl (OpsW.sg 2 [70,4,0] ((70,.bool x20.Bad)::(4,.j x14.1)::Z73) (Y2 (Yc (b:=x20.Bad) H rfl (fun c21 H=> ?_) (fun c21 H=> ?_))))
 ·refine Y0 (OpsW.sg 1 [2] [(2,.im (.val (.slice none 0 0)))] ?_);refine Y2 ?_;obtain rfl:=X6 H;refine Yp ?_;show ∃en' hp',StC _ _ en' hp'∧Done _ _ _ .ret en' hp';refine⟨[(2,slA Y4 [])],(Z74 x20),(StC.mk ph1 (.o rfl (.i3 .nil) .nil) rfl (.cons .nil .nil)), ?_⟩;refine Y32 rfl (.tmp .nil) ?_;exact⟨by kernel_rfl,by kernel_rfl⟩
 refine Yh (Y0 (OpsW.buildTI (enc:=Y4) ([]:List Y5) rfl rfl rfl E23 (fun _=>rfl) (by decide) ⟨trivial,by kernel_rfl,by kernel_rfl,by kernel_rfl,rfl⟩ ?_));refine OpsW.sg 1 [4,0] ((4,.j x14.1)::Z73) (Y2 ?_);refine Y33 (fun(y:Y1×(List Y5))=>Y0k y.1 y.2) r (fun(y:Y1×(List Y5))=>[(0,.ref 2020 0 0),(5,slA Y4 y.2)]) (fun(y:Y1×(List Y5))=>[bxp y.1]) ?_ ?_
 ·refine Y0 (OpsW.sg 1 [72,4,0] (Z7j x14) ?_);refine Y2 (Y04 (Y0 (OpsW.sg 2 [78,72,4,0] ((78,.bool (x14.1==12))::(Z7j x14)) ?_)));refine Y2 (Yc (b:=x14.1==12) H rfl (fun c25 H=> ?_) (fun c25 H=> ?_))
  ·refine Yz (OpsW.sg 1 [80,0] ((80,.ref 2020 0 0)::Z73) ?_);refine OpsW.rc ((80,.ref 2020 0 0)::Z73) (Z74 x20) (StC.mk ph1 (.o rfl (.i3 .nil) .nil) rfl (.cons (.r rfl) (.cons (.r rfl) .nil))) ?_;have⟨x26,hx26,H⟩:=Y0y H;refine Y2v (Z74 x20) [] (Z74 x20) ph1 rfl (f_R09_parser_total_io hx26) (.cons (.r rfl) .nil) (.b (.i3 .nil) .nil) (slA Y4 x26.1) (Z7i x26) ph1 (.b (.i3 .nil) .nil) (.cons .im .nil)<|OpsW.sg 1 [5,0] ((5,slA Y4 x26.1)::Z73) (Y2 ?_);exact⟨(x26.2,x26.1),H,(StC.mk ph1 (.o rfl (.i3 .nil) .nil) rfl (.cons (.r rfl) (.cons .im .nil)))⟩
  refine Y0 (OpsW.sg 2 [82,72,4,0] ((82,.bool (x14.1==13))::(Z7j x14)) ?_);refine Y2 (Yc (b:=x14.1==13) H rfl (fun c27 H=> ?_) (fun c27 H=> ?_))
  ·refine Yz (OpsW.sg 1 [84,0] ((84,.ref 2020 0 0)::Z73) ?_);refine OpsW.rc ((84,.ref 2020 0 0)::Z73) (Z74 x20) (StC.mk ph1 (.o rfl (.i3 .nil) .nil) rfl (.cons (.r rfl) (.cons (.r rfl) .nil))) ?_;have⟨x28,hx28,H⟩:=Y0y H;refine Y2v (Z74 x20) [] (Z74 x20) ph1 rfl (hra7 _ _ hx28) (.cons (.r rfl) .nil) (.b (.i3 .nil) .nil) (slA Y4 x28.1) [bxp x28.2] ph1 (.b (.i3 .nil) .nil) (.cons .im .nil)<|OpsW.sg 1 [5,0] ((5,slA Y4 x28.1)::Z73) (Y2 ?_);exact⟨(x28.2,x28.1),H,(StC.mk ph1 (.o rfl (.i3 .nil) .nil) rfl (.cons (.r rfl) (.cons .im .nil)))⟩
  refine Y33 (fun(y:Y1×Bool)=>Y09 ra8 x14 y.1 y.2) r (fun(y:Y1×Bool)=>[(0,.ref 2020 0 0),(4,.j x14.1),(86,.bool y.2)]) (fun(y:Y1×Bool)=>[bxp y.1]) ?_ ?_
  ·refine Y0 (OpsW.sg 2 [86,72,4,0] ((86,.bool (x14.1==9))::(Z7j x14)) ?_);refine Y2 (Yc (b:=x14.1==9) H rfl (fun c36 H=> ?_) (fun c36 H=> ?_))
   ·refine Yh ?_;exact⟨(x20,x14.1==9),H,(StC.mk ph1 (.o rfl (.i3 .nil) .nil) rfl (.cons (.r rfl) (.i2 .nil)))⟩
   refine Yz (OpsW.sg 2 [86,4,0] ((86,.bool (x14.1==11))::(4,.j x14.1)::Z73) ?_);refine Y2 ?_;exact⟨(x20,x14.1==11),H,(StC.mk ph1 (.o rfl (.i3 .nil) .nil) rfl (.cons (.r rfl) (.i2 .nil)))⟩
  rintro⟨v29,v30⟩ H;unfold Y09 at H;change AW _ _ _ [(0,.ref 2020 0 0),(4,.j x14.1),(86,.bool v30)] (Z77 v29) _;refine Yc (b:=v30) H rfl (fun c31 H=> ?_) (fun c31 H=> ?_)
  ·refine Yz (OpsW.sg 3 [91,90,0] (Z7a x14) ?_);have⟨x32,hx32,H⟩:=Y0y H;refine Y2v (Z77 v29) [] (Z77 v29) ph1 rfl (hra8 _ _ _ _ hx32) (.cons (.r rfl) (.i2 .nil)) (.b (.i3 .nil) .nil) (.rsl 600 0 0 x32.1.length) [(600,rtA 0 23 1 (eL Y4) x32.1),bxp x32.2] (phi [(600,some 1000),(2020,some 2020)]) (.b (RnL.ims _) (.b (.i3 .nil) .nil)) (.cons (.s rfl) .nil) ?_;refine OpsW.rc ((92,slA (eL Y4) x32.1)::(Z7a x14)) [bxp x32.2] (StC.mk ph1 (.o rfl (.i3 .nil) .nil) rfl (.cons (.frz rfl rfl rfl (frz_all (eL Y4) 1 (fun _=>rfl) x32.1) (Y18 (eL Y4) 1 (fun _=>rfl) x32.1) (phi_ne rfl)) (.cons (.r rfl) (.cons (.agg (.i2 .nil)) (.cons (.r rfl) .nil))))) ?_;have⟨x33,hx33,H⟩:=Y0y H;refine Y20 rfl (.cons (.pur rfl) (.cons (.pur rfl) .nil)) (Y4e hx33) (OpsW.sg 1 [5,0] ((5,slA Y4 x33)::Z73) (Y2 ?_));exact⟨(x32.2,x33),H,(StC.mk ph1 (.o rfl (.i3 .nil) .nil) rfl (.cons (.r rfl) (.cons .im .nil)))⟩
  refine Yz (OpsW.sg 3 [75,74,0] (Z7b x14) ?_);have⟨x34,hx34,H⟩:=Y0y H;refine Y2v (Z77 v29) [] (Z77 v29) ph1 rfl (hra8 _ _ _ _ hx34) (.cons (.r rfl) (.i2 .nil)) (.b (.i3 .nil) .nil) (.rsl 600 0 0 x34.1.length) [(600,rtA 0 23 1 (eL Y4) x34.1),bxp x34.2] (phi [(600,some 1000),(2020,some 2020)]) (.b (RnL.ims _) (.b (.i3 .nil) .nil)) (.cons (.s rfl) .nil) ?_;refine OpsW.rc ((76,slA (eL Y4) x34.1)::(Z7b x14)) [bxp x34.2] (StC.mk ph1 (.o rfl (.i3 .nil) .nil) rfl (.cons (.frz rfl rfl rfl (frz_all (eL Y4) 1 (fun _=>rfl) x34.1) (Y18 (eL Y4) 1 (fun _=>rfl) x34.1) (phi_ne rfl)) (.cons (.r rfl) (.cons (.agg (.i2 .nil)) (.cons (.r rfl) .nil))))) ?_;have⟨x35,hx35,H⟩:=Y0y H;refine Y20 rfl (.cons (.pur rfl) (.cons (.pur rfl) .nil)) (Y4e hx35) (OpsW.sg 1 [5,0] ((5,slA Y4 x35)::Z73) (Y2 ?_));exact⟨(x34.2,x35),H,(StC.mk ph1 (.o rfl (.i3 .nil) .nil) rfl (.cons (.r rfl) (.cons .im .nil)))⟩
 rintro⟨v22,v23⟩ H;unfold Y0k at H;change AW _ _ _ [(0,.ref 2020 0 0),(5,slA Y4 v23)] (Z79 v22) _;refine Y0 (OpsW.sg 1 [94,5] [(94,.ref 2020 0 0),(5,slA Y4 v23)] ?_);have⟨x24,hx24,H⟩:=Y0y H;refine Y2v (Z79 v22) [] (Z79 v22) ph1 rfl (Y2q hx24) (.cons (.r rfl) (.cons .im .nil)) (.b (.i3 .nil) .nil) (.tup []) (Z7e x24) ph1 (.b (.i3 .nil) .nil) (.tup .nil .nil)<|OpsW.sg 0 [5] [(5,slA Y4 v23)]<|Y2 (Y0 (OpsW.sg 2 [2] [(2,slA Y4 v23)] ?_));refine Y2 ?_;obtain rfl:=X6 H;refine Yp ?_;show ∃en' hp',StC _ _ en' hp'∧Done _ _ _ .ret en' hp';refine⟨[(2,slA Y4 v23)],(Z7e x24),(StC.mk ph1 (.o rfl (.i3 .nil) .nil) rfl (.cons .im .nil)), ?_⟩;refine Y32 rfl (.tmp .nil) ?_;exact⟨by kernel_rfl,by kernel_rfl⟩
def Y19 (ra8:Y1→Int→Int→Option ((List (List Y5))×Y1)) (x1:(List (List Y5))×Y1) (loop5:(Y1×(List (List Y5))×Int)→Option ((List Y5)×Y1)) (v2:Y1) (v3:List (List Y5)) (v4:Int):Option ((List Y5)×Y1):=
 (cond (cond (!v2.Bad) (decide (v4<4)) false) (Yn v2) (some (0:Int))).bind fun x6=>
 cond (cond (cond (!v2.Bad) (decide (v4<4)) false) (x6==59) false) (
  G (inR (v2.At+1))<|
  (ra8 (⟨v2.S,v2.At+1,v2.Bad⟩:Y1) (x1.1.length:Int) (x1.1.length:Int)).bind fun x9=>
  G (room 24 (v3.length+x9.1.length))<|
  G (inR (v4+1))<|
  loop5 (x9.2,v3++x9.1,v4+1)) (
  G (inR (8*v4))<|
  G (inR ((8*v4)+(x1.1.length:Int)))<|
  (Y1l (⟨(13:Int),(8*v4)+(x1.1.length:Int)⟩:Y5) v3).bind fun x14=>
  some (x14,v2))
def Y2f (ra5:Y1→Int→Option ((List Y5)×Y1)) (ra6:Y1→Option ((List Y5)×Y1)) (ra7:Y1→Option ((List Y5)×Y1)) (ra8:Y1→Int→Int→Option ((List (List Y5))×Y1)) (t0:Y1):Option ((List Y5)×Y1):=
 (ra8 t0 (1:Int) (4:Int)).bind fun x1=>
 iter (fun loop (s:Y1×(List (List Y5))×Int)=>Y19 ra8 x1 loop s.1 s.2.1 s.2.2) 1000000 (x1.2,x1.1,(1:Int))
section
variable (t0:Y1) (v2:Y1) (v3:List (List Y5)) (v4:Int) (x1:(List (List Y5))×Y1)
abbrev Z7s:Nat×AV:=(0,.ref 2020 0 0)
abbrev Z7t:=(x1.1.length:Int)
abbrev Z7u:=cond (!v2.Bad) (decide (v4<4)) false
abbrev Z7l:Env:=[Z7s,(3,.rsl 3 0 0 v3.length),(4,.j (Z7t x1)),(5,.j v4)]
abbrev Z7m:Env:=(34,.j (Z7t x1))::(33,.j (Z7t x1))::(32,.ref 2020 0 0)::(31,.rsl 3 0 0 v3.length)::(Z7l v3 v4 x1)
abbrev Z7n:Hp:=[bxp t0]
abbrev Z7o:Hp:=[(2020,⟨0,true,68,3,[.string v2.S,.j (v2.At+1),.bool v2.Bad]⟩)]
abbrev Z7p:Hp:=[bxp x1.2]
abbrev Z7q:Hp:=[(3,rtA 0 23 1 (eL Y4) v3)]
abbrev Z7r:Env:=[(6,.ref 2020 0 0),Z7s]
end
theorem f_R09_parser_matrix_body_io{ra5:Y1→Int→Option ((List Y5)×Y1)}{ra6:Y1→Option ((List Y5)×Y1)}{ra7:Y1→Option ((List Y5)×Y1)}{ra8:Y1→Int→Int→Option ((List (List Y5))×Y1)}(hra5:∀(t0:Y1) (t1:Int) (r:(List Y5)×Y1),ra5 t0 t1=some r→Abs.Spec Tryd.prog 34 [.ref 2020 0 0,.int .i64 t1] [bxp t0] (fun x h=>x=slA Y4 r.1∧h=[bxp r.2]))(hra6:∀(t0:Y1) (r:(List Y5)×Y1),ra6 t0=some r→Abs.Spec Tryd.prog 52 [.ref 2020 0 0] [bxp t0] (fun x h=>x=slA Y4 r.1∧h=[bxp r.2]))(hra7:∀(t0:Y1) (r:(List Y5)×Y1),ra7 t0=some r→Abs.Spec Tryd.prog 77 [.ref 2020 0 0] [bxp t0] (fun x h=>x=slA Y4 r.1∧h=[bxp r.2]))(hra8:∀(t0:Y1) (t1:Int) (t2:Int) (r:(List (List Y5))×Y1),ra8 t0 t1 t2=some r→Abs.Spec Tryd.prog 78 [.ref 2020 0 0,.int .i64 t1,.int .i64 t2] [bxp t0] (fun x h=>x= .rsl 1000 0 0 r.1.length∧h=[(1000,rtA 0 23 1 (eL Y4) r.1),bxp r.2])){t0:Y1}{r:(List Y5)×Y1}(H:Y2f ra5 ra6 ra7 ra8 t0=some r):Abs.Spec Tryd.prog 77 [.ref 2020 0 0] [bxp t0] (fun x h=>x=slA Y4 r.1∧h=[bxp r.2]):=by
 refine Yw Tryd.func77 rfl (by simp[Tryd.ntmps77]) ?_;rw[Tryd.ntmps77];unfold Y2f at H;change AW _ _ _ [Z7s] (Z7n t0) _;refine Y5r<|Y0 (OpsW.sg 1 [0] [Z7s] ?_);refine Y2 (Y0 (OpsW.sg 1 [6,0] Z7r ?_));refine OpsW.rc Z7r (Z7n t0) (StC.mk ph1 (.o rfl (.i3 .nil) .nil) rfl (.cons (.r rfl) (.cons (.r rfl) .nil))) ?_;have⟨x1,hx1,H⟩:=Y0y H;refine Y2v (Z7n t0) [] (Z7n t0) ph1 rfl (hra8 _ _ _ _ hx1) (.cons (.r rfl) (.i2 .nil)) (.b (.i3 .nil) .nil) (.rsl 600 0 0 x1.1.length) ((600,rtA 0 23 1 (eL Y4) x1.1)::(Z7p x1)) (phi [(600,some 1000),(2020,some 2020)]) (.b (RnL.ims _) (.b (.i3 .nil) .nil)) (.cons (.s rfl) .nil) ?_;refine OpsW.sg 1 [3,0] [(3,.rsl 600 0 0 x1.1.length),Z7s] (OpsW.rc [(3,.rsl 3 0 0 x1.1.length),Z7s] ((3,rtA 0 23 1 (eL Y4) x1.1)::(Z7p x1)) (StC.mk (phi [(3,some 600),(2020,some 2020)]) (.o rfl (CstL.ims _) (.o rfl (.i3 .nil) .nil)) rfl (.cons (.s rfl) (.cons (.r rfl) .nil))) ?_);refine Y2 (Y0 (OpsW.sg 4 [5,4,3,0] [(5,.j (1:Int)),(4,.j (Z7t x1)),(3,.rsl 3 0 0 x1.1.length),Z7s] ?_));refine Y2 (Y05 (Y04 ?_))
 refine Y40 (fun loop (s:Y1×(List (List Y5))×Int)=>Y19 ra8 x1 loop s.1 s.2.1 s.2.2) r (fun(s:Y1×(List (List Y5))×Int)=>[Z7s,(3,.rsl 3 0 0 s.2.1.length),(4,.j (Z7t x1)),(5,.j s.2.2)]) (fun(s:Y1×(List (List Y5))×Int)=>[bxp s.1,(3,rtA 0 23 1 (eL Y4) s.2.1)]) ?_ 1000000 (x1.2,x1.1,(1:Int)) H (StC.mk (phi [(2020,some 2020),(3,some 3)]) (.o rfl (.i3 .nil) (.o rfl (CstL.ims _) .nil)) rfl (.cons (.r rfl) (.cons (.s rfl) (.i2 .nil))));intro loop5 s H;have⟨v2,v3,v4⟩:=s;unfold Y19 at H;change AW _ _ _ (Z7l v3 v4 x1) (bxp v2::(Z7q v3)) _;refine Y05 (Y0 (OpsW.sg 1 [10,0,3,4,5] ((10,.ref 2020 0 0)::(Z7l v3 v4 x1)) ?_));refine Y0s rfl rfl rfl (OpsW.sz 9 [20,19,0,3,4,5] ((20,.cnd (Z7u v2 v4) (.ref 2020 0 0))::(19,.bool (Z7u v2 v4))::(Z7l v3 v4 x1)) ⟨id,(by grind),trivial⟩ ?_);have⟨x6,hx6,H⟩:=Y0y H;refine OpsW.gcall (c:=cond (!v2.Bad) (decide (v4<4)) false) (r:=.int .u8 x6) [2020] rfl (by kernel_rfl) rfl rfl rfl rfl (fun hc=>⟨Ys ⟨hc,trivial⟩,(.cons (ArgS.box (by simp) rfl rfl rfl rfl) .nil),Y0f (condT hc hx6),.inr rfl⟩) (OpsW.sz 2 [23,0,3,4,5] ((23,.bool (cond (Z7u v2 v4) (x6==59) false))::(Z7l v3 v4 x1)) ⟨id,(by grind),trivial⟩ (Y2 (Yc (b:=cond (Z7u v2 v4) (x6==59) false) H rfl (fun c7 H=> ?_) (fun c7 H=> ?_))))
 ·refine Yh (Y04 (Y0 (OpsW.sg 1 [24,0,3,4,5] ((24,.ref 2020 0 0)::(Z7l v3 v4 x1)) ?_)));refine Y0s rfl rfl rfl ?_;have⟨g8,H⟩:=Y00 H;refine OpsW.sz 3 [28,24,0,3,4,5] ((28,.j (v2.At+1))::(24,.ref 2020 0 0)::(Z7l v3 v4 x1)) ⟨g8,trivial⟩ (Y0s rfl rfl rfl (OpsW.sg 1 [30,28,0,3,4,5] ((30,.ref 2020 0 1)::(28,.j (v2.At+1))::(Z7l v3 v4 x1)) (Y1d rfl rfl rfl rfl trivial trivial rfl rfl rfl (by kernel_rfl) (Yx (by kernel_rfl)) (X9 (by kernel_rfl)) ?_)));change OpsW _ _ _ _ _ ((2020,⟨0,true,68,3,[.string v2.S,.j (v2.At+1),.bool v2.Bad]⟩)::bxp v2::(Z7q v3)) _;refine OpsW.sg 0 [0,3,4,5] (Z7l v3 v4 x1) (OpsW.rc (Z7l v3 v4 x1) ((3,rtA 0 23 1 (eL Y4) v3)::(Z7o v2)) (StC.mk (phi [(3,some 3),(2020,some 2020)]) (.o rfl (CstL.ims _) (.o rfl (.i3 .nil) .nil)) rfl (.cons (.r rfl) (.cons (.s rfl) (.i2 .nil)))) ?_);refine Y2 (Y0 (OpsW.sg 4 [34,33,32,31,0,3,4,5] (Z7m v3 v4 x1) ?_));refine OpsW.rc (Z7m v3 v4 x1) ((2020,⟨0,true,68,3,[.string v2.S,.j (v2.At+1),.bool v2.Bad]⟩)::(Z7q v3)) (StC.mk (phi [(2020,some 2020),(3,some 3)]) (.o rfl (.i3 .nil) (.o rfl (CstL.ims _) .nil)) rfl (.i2 (.cons (.r rfl) (.cons (.s rfl) (.cons (.r rfl) (.cons (.s rfl) (.i2 .nil))))))) ?_;have⟨x9,hx9,H⟩:=Y0y H
  refine Y2v (Z7o v2) (Z7q v3) (Z7o v2) ph1 rfl (hra8 _ _ _ _ hx9) (.cons (.r rfl) (.i2 .nil)) (.b (.i3 .nil) .nil) (.rsl 600 0 0 x9.1.length) [(600,rtA 0 23 1 (eL Y4) x9.1),bxp x9.2] (phi [(600,some 1000),(2020,some 2020)]) (.b (RnL.ims _) (.b (.i3 .nil) .nil)) (.cons (.s rfl) .nil) ?_;have⟨g10,H⟩:=Y00 H;refine Y6a (enc:=eL Y4) (ys:=x9.1) rfl rfl rfl E77 (fun _=>rfl) rfl rfl trivial (SrcA.rootF (enc:=eL Y4) (fun _=>rfl) (by kernel_rfl) rfl) rfl g10 (OpsW.sg 1 [3,0,4,5] [(3,.rsl 3 1 0 ((v3++x9.1).length)),Z7s,(4,.j (Z7t x1)),(5,.j v4)] (OpsW.rc [(3,.rsl 3 0 0 ((v3++x9.1).length)),Z7s,(4,.j (Z7t x1)),(5,.j v4)] [(3,rtA 0 23 1 (eL Y4) (v3++x9.1)),bxp x9.2] (StC.mk (phi [(3,some 3),(2020,some 2020)]) (.o rfl (CstL.ims _) (.o rfl (.i3 .nil) .nil)) rfl (.cons (.s rfl) (.cons (.r rfl) (.i2 .nil)))) ?_));refine Y2 (Yz ?_);have⟨g11,H⟩:=Y00 H;refine OpsW.sz 3 [5,3,0,4] [(5,.j (v4+1)),(3,.rsl 3 0 0 ((v3++x9.1).length)),Z7s,(4,.j (Z7t x1))] ⟨g11,trivial⟩ (Y2 ?_);exact⟨(x9.2,v3++x9.1,v4+1),H,(StC.mk (phi [(2020,some 2020),(3,some 3)]) (.o rfl (.i3 .nil) (.o rfl (CstL.ims _) .nil)) rfl (.cons (.r rfl) (.cons (.s rfl) (.i2 .nil))))⟩
 refine AW.exit (Y0 ?_);have⟨g12,H⟩:=Y00 H;have⟨g13,H⟩:=Y00 H;refine OpsW.sz 6 [44,43] [(44,.rsl 3 0 0 v3.length),(43,.agg [.j (13:Int),.j ((8*v4)+(Z7t x1))])] ⟨g12,g13,trivial⟩ (OpsW.rc [(44,slA (eL Y4) v3),(43,.agg [.j (13:Int),.j ((8*v4)+(Z7t x1))])] [bxp v2] (StC.mk ph1 (.o rfl (.i3 .nil) .nil) rfl (.cons (.frz rfl rfl rfl (frz_all (eL Y4) 1 (fun _=>rfl) v3) (Y18 (eL Y4) 1 (fun _=>rfl) v3) (phi_ne rfl)) (.cons (.agg (.i2 .nil)) .nil))) ?_);have⟨x14,hx14,H⟩:=Y0y H;refine Y20 rfl (.cons (.pur rfl) (.cons (.pur rfl) .nil)) (Y4e hx14) (OpsW.sg 1 [2] [(2,slA Y4 x14)] (Y2 ?_));obtain rfl:=X6 H;refine Yp ?_;show ∃en' hp',StC _ _ en' hp'∧Done _ _ _ .ret en' hp';refine⟨[(2,slA Y4 x14)],[bxp v2],(StC.mk ph1 (.o rfl (.i3 .nil) .nil) rfl (.cons .im .nil)), ?_⟩;refine Y32 rfl (.tmp .nil) ?_;exact⟨by kernel_rfl,by kernel_rfl⟩
def Y0j (ra5:Y1→Int→Option ((List Y5)×Y1)) (t1:Int) (t2:Int) (loop4:(Y1×(List (List Y5)))→Option ((List (List Y5))×Y1)) (v2:Y1) (v3:List (List Y5)):Option ((List (List Y5))×Y1):=
 (cond (((!v2.Bad)&&(!(decide ((v3.length:Int)<t1))))&&(decide ((v3.length:Int)<t2))) (Yn v2) (some (0:Int))).bind fun x5=>
 cond (cond (!v2.Bad) (cond (decide ((v3.length:Int)<t1)) true (cond (decide ((v3.length:Int)<t2)) (x5==44) false)) false) (
  (Y0c v2 (44:Int)).bind fun x7=>
  cond (!x7.Bad) (
   (ra5 x7 (1:Int)).bind fun x9=>
   G (room 24 (v3.length+1))<|
   loop4 (x9.2,v3++[x9.1])) (
   loop4 (x7,v3))) (
  some (v3,v2))
def Y54 (ra5:Y1→Int→Option ((List Y5)×Y1)) (ra6:Y1→Option ((List Y5)×Y1)) (ra7:Y1→Option ((List Y5)×Y1)) (ra8:Y1→Int→Int→Option ((List (List Y5))×Y1)) (t0:Y1) (t1:Int) (t2:Int):Option ((List (List Y5))×Y1):=
 (ra5 t0 (1:Int)).bind fun x1=>
 iter (fun loop (s:Y1×(List (List Y5)))=>Y0j ra5 t1 t2 loop s.1 s.2) 1000000 (x1.2,[x1.1])
section
variable (t0:Y1) (t1:Int) (t2:Int) (v2:Y1) (v3:List (List Y5)) (x7:Y1)
abbrev Z82:=(decide ((v3.length:Int)<t1))
abbrev Z83:=(decide ((v3.length:Int)<t2))
abbrev Z7z:Hp:=[(7,rtA 0 23 1 (eL Y4) v3)]
abbrev Z84:Hp:=bxp v2::(Z7z v3)
abbrev Z85:Hp:=bxp x7::(Z7z v3)
abbrev Z7v:Env:=[(0,.ref 2020 0 0),(1,.j t1),(2,.j t2),(7,.rsl 7 0 0 v3.length)]
abbrev Z7w:Env:=[(0,.ref 2020 0 0),(1,.j t1),(2,.j t2)]
abbrev Z7x:Hp:=[bxp t0]
abbrev Z7y:Hp:=[bxp x7]
abbrev Z80:Hp:=[bxp v2]
abbrev Z81:Env:=(41,.ref 2020 0 0)::(40,.rsl 7 0 0 v3.length)::(Z7v t1 t2 v3)
end
theorem f_R09_parser_list_body_io{ra5:Y1→Int→Option ((List Y5)×Y1)}{ra6:Y1→Option ((List Y5)×Y1)}{ra7:Y1→Option ((List Y5)×Y1)}{ra8:Y1→Int→Int→Option ((List (List Y5))×Y1)}(hra5:∀(t0:Y1) (t1:Int) (r:(List Y5)×Y1),ra5 t0 t1=some r→Abs.Spec Tryd.prog 34 [.ref 2020 0 0,.int .i64 t1] [bxp t0] (fun x h=>x=slA Y4 r.1∧h=[bxp r.2]))(hra6:∀(t0:Y1) (r:(List Y5)×Y1),ra6 t0=some r→Abs.Spec Tryd.prog 52 [.ref 2020 0 0] [bxp t0] (fun x h=>x=slA Y4 r.1∧h=[bxp r.2]))(hra7:∀(t0:Y1) (r:(List Y5)×Y1),ra7 t0=some r→Abs.Spec Tryd.prog 77 [.ref 2020 0 0] [bxp t0] (fun x h=>x=slA Y4 r.1∧h=[bxp r.2]))(hra8:∀(t0:Y1) (t1:Int) (t2:Int) (r:(List (List Y5))×Y1),ra8 t0 t1 t2=some r→Abs.Spec Tryd.prog 78 [.ref 2020 0 0,.int .i64 t1,.int .i64 t2] [bxp t0] (fun x h=>x= .rsl 1000 0 0 r.1.length∧h=[(1000,rtA 0 23 1 (eL Y4) r.1),bxp r.2])){t0:Y1}{t1:Int}{t2:Int}{r:(List (List Y5))×Y1}(H:Y54 ra5 ra6 ra7 ra8 t0 t1 t2=some r):Abs.Spec Tryd.prog 78 [.ref 2020 0 0,.int .i64 t1,.int .i64 t2] [bxp t0] (fun x h=>x= .rsl 1000 0 0 r.1.length∧h=[(1000,rtA 0 23 1 (eL Y4) r.1),bxp r.2]):=by
 refine Yw Tryd.func78 rfl (by simp[Tryd.ntmps78]) ?_;rw[Tryd.ntmps78];unfold Y54 at H;change AW _ _ _ (Z7w t1 t2) (Z7x t0) _;refine Y5r<|Y0 (OpsW.sg 1 [0,1,2] (Z7w t1 t2) ?_);refine Y2 (Y0 (OpsW.sg 1 [8,0,1,2] ((8,.ref 2020 0 0)::(Z7w t1 t2)) ?_));refine OpsW.rc ((8,.ref 2020 0 0)::(Z7w t1 t2)) (Z7x t0) (StC.mk ph1 (.o rfl (.i3 .nil) .nil) rfl (.cons (.r rfl) (.cons (.r rfl) (.i2 .nil)))) ?_;have⟨x1,hx1,H⟩:=Y0y H;refine Y2v (Z7x t0) [] (Z7x t0) ph1 rfl (hra5 _ _ _ hx1) (.cons (.r rfl) (.cons .im .nil)) (.b (.i3 .nil) .nil) (slA Y4 x1.1) [bxp x1.2] ph1 (.b (.i3 .nil) .nil) (.cons .im .nil) ?_;refine OpsW.buildT (enc:=eL Y4) [x1.1] rfl rfl rfl 10 rfl E77 (fun _=>rfl) (by decide) trivial (by kernel_rfl) (by kernel_rfl) (by kernel_rfl) rfl (OpsW.sg 1 [7,0,1,2] ((7,.rsl 10 0 0 ([x1.1].length))::(Z7w t1 t2)) (OpsW.rc ((7,.rsl 7 0 0 ([x1.1].length))::(Z7w t1 t2)) [(7,rtA 0 23 1 (eL Y4) [x1.1]),bxp x1.2] (StC.mk (phi [(7,some 10),(2020,some 2020)]) (.o rfl (CstL.ims _) (.o rfl (.i3 .nil) .nil)) rfl (.cons (.s rfl) (.cons (.r rfl) (.i2 .nil)))) ?_));refine Y2 (Y05 (Y04 ?_))
 refine Y40 (fun loop (s:Y1×(List (List Y5)))=>Y0j ra5 t1 t2 loop s.1 s.2) r (fun(s:Y1×(List (List Y5)))=>[(0,.ref 2020 0 0),(1,.j t1),(2,.j t2),(7,.rsl 7 0 0 s.2.length)]) (fun(s:Y1×(List (List Y5)))=>[bxp s.1,(7,rtA 0 23 1 (eL Y4) s.2)]) ?_ 1000000 (x1.2,[x1.1]) H (StC.mk (phi [(2020,some 2020),(7,some 7)]) (.o rfl (.i3 .nil) (.o rfl (CstL.ims _) .nil)) rfl (.cons (.r rfl) (.i2 (.cons (.s rfl) .nil))));intro loop4 s H;have⟨v2,v3⟩:=s;unfold Y0j at H;change AW _ _ _ (Z7v t1 t2 v3) (Z84 v2 v3) _;refine Y05 (Y0 (OpsW.sg 1 [11,0,1,2,7] ((11,.ref 2020 0 0)::(Z7v t1 t2 v3)) ?_));refine Y0s rfl rfl rfl (OpsW.sz 15 [27,26,21,16,0,1,2,7] ((27,.cnd (((!v2.Bad)&&(!(Z82 t1 v3)))&&(Z83 t2 v3)) (.ref 2020 0 0))::(26,.cnd ((!v2.Bad)&&(!(Z82 t1 v3))) (.bool (Z83 t2 v3)))::(21,.cnd (!v2.Bad) (.bool (Z82 t1 v3)))::(16,.bool (!v2.Bad))::(Z7v t1 t2 v3)) ⟨id,id,id,id,id,id,id,id,trivial⟩ ?_);have⟨x5,hx5,H⟩:=Y0y H
 refine OpsW.gcall (c:=((!v2.Bad)&&(!(Z82 t1 v3)))&&(Z83 t2 v3)) (r:=.int .u8 x5) [2020] rfl (by kernel_rfl) rfl rfl rfl rfl (fun hc=>⟨Ys ⟨hc,trivial⟩,(.cons (ArgS.box (by simp) rfl rfl rfl rfl) .nil),Y0f (condT hc hx5),.inr rfl⟩) (OpsW.sz 4 [32,0,1,2,7] ((32,.bool (cond (!v2.Bad) (cond (Z82 t1 v3) true (cond (Z83 t2 v3) (x5==44) false)) false))::(Z7v t1 t2 v3)) ⟨id,id,(by grind),id,(by grind),(by grind),trivial⟩ (Y2 (Yc (b:=cond (!v2.Bad) (cond (Z82 t1 v3) true (cond (Z83 t2 v3) (x5==44) false)) false) H rfl (fun c6 H=> ?_) (fun c6 H=> ?_))))
 ·refine Yh (Y04 (Y0 (OpsW.sg 1 [33,0,1,2,7] ((33,.ref 2020 0 0)::(Z7v t1 t2 v3)) ?_)));refine OpsW.rc ((33,.ref 2020 0 0)::(Z7v t1 t2 v3)) (Z84 v2 v3) (StC.mk (phi [(2020,some 2020),(7,some 7)]) (.o rfl (.i3 .nil) (.o rfl (CstL.ims _) .nil)) rfl (.cons (.r rfl) (.cons (.r rfl) (.i2 (.cons (.s rfl) .nil))))) ?_;have⟨x7,hx7,H⟩:=Y0y H;refine Y2v (Z80 v2) (Z7z v3) (Z80 v2) ph1 rfl (Y2q hx7) (.cons (.r rfl) (.cons .im .nil)) (.b (.i3 .nil) .nil) (.tup []) (Z7y x7) ph1 (.b (.i3 .nil) .nil) (.tup .nil .nil)<|OpsW.sg 0 [0,1,2,7] (Z7v t1 t2 v3) (OpsW.rc (Z7v t1 t2 v3) ((7,rtA 0 23 1 (eL Y4) v3)::(Z7y x7)) (StC.mk (phi [(7,some 7),(2020,some 2020)]) (.o rfl (CstL.ims _) (.o rfl (.i3 .nil) .nil)) rfl (.cons (.r rfl) (.i2 (.cons (.s rfl) .nil)))) ?_);refine Y2 (Y0 (OpsW.sg 1 [35,0,1,2,7] ((35,.ref 2020 0 0)::(Z7v t1 t2 v3)) ?_));refine Y0s rfl rfl rfl (OpsW.sg 3 [39,0,1,2,7] ((39,.bool (!x7.Bad))::(Z7v t1 t2 v3)) (Y2 (Yc (b:= !x7.Bad) H rfl (fun c8 H=> ?_) (fun c8 H=> ?_))))
  ·refine Yz (OpsW.sg 2 [41,40,0,1,2,7] (Z81 t1 t2 v3) ?_);refine OpsW.rc (Z81 t1 t2 v3) (Z85 v3 x7) (StC.mk (phi [(2020,some 2020),(7,some 7)]) (.o rfl (.i3 .nil) (.o rfl (CstL.ims _) .nil)) rfl (.cons (.r rfl) (.cons (.s rfl) (.cons (.r rfl) (.i2 (.cons (.s rfl) .nil)))))) ?_;have⟨x9,hx9,H⟩:=Y0y H;refine Y2v (Z7y x7) (Z7z v3) (Z7y x7) ph1 rfl (hra5 _ _ _ hx9) (.cons (.r rfl) (.cons .im .nil)) (.b (.i3 .nil) .nil) (slA Y4 x9.1) [bxp x9.2] ph1 (.b (.i3 .nil) .nil) (.cons .im .nil) ?_;have⟨g10,H⟩:=Y00 H;refine Y5q (enc:=eL Y4) [x9.1] rfl rfl rfl (by decide) rfl rfl rfl (by simp) E77 (fun _=>rfl) (by decide) trivial (by kernel_rfl) (by kernel_rfl) (by kernel_rfl) rfl rfl rfl g10 (OpsW.sg 1 [7,0,1,2] ((7,.rsl 7 1 0 ((v3++[x9.1]).length))::(Z7w t1 t2)) (OpsW.rc ((7,.rsl 7 0 0 ((v3++[x9.1]).length))::(Z7w t1 t2)) [(7,rtA 0 23 1 (eL Y4) (v3++[x9.1])),bxp x9.2] (StC.mk (phi [(7,some 7),(2020,some 2020)]) (.o rfl (CstL.ims _) (.o rfl (.i3 .nil) .nil)) rfl (.cons (.s rfl) (.cons (.r rfl) (.i2 .nil)))) (Y2 ?_)));exact⟨(x9.2,v3++[x9.1]),H,(StC.mk (phi [(2020,some 2020),(7,some 7)]) (.o rfl (.i3 .nil) (.o rfl (CstL.ims _) .nil)) rfl (.cons (.r rfl) (.i2 (.cons (.s rfl) .nil))))⟩
  refine Yh ?_;exact⟨(x7,v3),H,(StC.mk (phi [(2020,some 2020),(7,some 7)]) (.o rfl (.i3 .nil) (.o rfl (CstL.ims _) .nil)) rfl (.cons (.r rfl) (.i2 (.cons (.s rfl) .nil))))⟩
 refine AW.exit<|Y0 (OpsW.sg 2 [6] [(6,.rsl 7 0 0 v3.length)] ?_);refine Y2 ?_;obtain rfl:=X6 H;refine Yp ?_;show ∃en' hp',StC _ _ en' hp'∧Done _ _ _ .ret en' hp';refine⟨[(6,.rsl 1000 0 0 v3.length)],((1000,rtA 0 23 1 (eL Y4) v3)::(Z80 v2)),(StC.mk (phi [(1000,some 7),(2020,some 2020)]) (.o rfl (CstL.ims _) (.o rfl (.i3 .nil) .nil)) rfl (.cons (.s rfl) .nil)), ?_⟩;refine Y32 rfl (.tmp .nil) ?_;exact⟨by kernel_rfl,by kernel_rfl⟩
mutual
def Y03:Nat→Y1→Int→Option ((List Y5)×Y1)
 |0,_,_=>none
 |n+1,t0,t1=>Y1o (Y03 n) (Y12 n) (Y0i n) (Y11 n) t0 t1
def Y12:Nat→Y1→Option ((List Y5)×Y1)
 |0,_=>none
 |n+1,t0=>Y3s (Y03 n) (Y12 n) (Y0i n) (Y11 n) t0
def Y0i:Nat→Y1→Option ((List Y5)×Y1)
 |0,_=>none
 |n+1,t0=>Y2f (Y03 n) (Y12 n) (Y0i n) (Y11 n) t0
def Y11:Nat→Y1→Int→Int→Option ((List (List Y5))×Y1)
 |0,_,_,_=>none
 |n+1,t0,t1,t2=>Y54 (Y03 n) (Y12 n) (Y0i n) (Y11 n) t0 t1 t2
end
theorem Y5g:∀n:Nat,(∀(t0:Y1) (t1:Int) (r:(List Y5)×Y1),Y03 n t0 t1=some r→Abs.Spec Tryd.prog 34 [.ref 2020 0 0,.int .i64 t1] [bxp t0] (fun x h=>x=slA Y4 r.1∧h=[bxp r.2]))∧(∀(t0:Y1) (r:(List Y5)×Y1),Y12 n t0=some r→Abs.Spec Tryd.prog 52 [.ref 2020 0 0] [bxp t0] (fun x h=>x=slA Y4 r.1∧h=[bxp r.2]))∧(∀(t0:Y1) (r:(List Y5)×Y1),Y0i n t0=some r→Abs.Spec Tryd.prog 77 [.ref 2020 0 0] [bxp t0] (fun x h=>x=slA Y4 r.1∧h=[bxp r.2]))∧(∀(t0:Y1) (t1:Int) (t2:Int) (r:(List (List Y5))×Y1),Y11 n t0 t1 t2=some r→Abs.Spec Tryd.prog 78 [.ref 2020 0 0,.int .i64 t1,.int .i64 t2] [bxp t0] (fun x h=>x= .rsl 1000 0 0 r.1.length∧h=[(1000,rtA 0 23 1 (eL Y4) r.1),bxp r.2]))∧True
 |0=>by
  refine⟨?_, ?_, ?_, ?_,trivial⟩
  ·intro t0 t1 r H;rw[Y03] at H;cases H
  ·intro t0 r H;rw[Y12] at H;cases H
  ·intro t0 r H;rw[Y0i] at H;cases H
  ·intro t0 t1 t2 r H;rw[Y11] at H;cases H
 |n+1=>by
  have ih:=Y5g n;refine⟨?_, ?_, ?_, ?_,trivial⟩
  ·intro t0 t1 r H;rw[Y03] at H;exact f_R09_parser_expression_body_io ih.1 ih.2.1 ih.2.2.1 ih.2.2.2.1 H
  ·intro t0 r H;rw[Y12] at H;exact f_R09_parser_atom_body_io ih.1 ih.2.1 ih.2.2.1 ih.2.2.2.1 H
  ·intro t0 r H;rw[Y0i] at H;exact f_R09_parser_matrix_body_io ih.1 ih.2.1 ih.2.2.1 ih.2.2.2.1 H
  ·intro t0 t1 t2 r H;rw[Y11] at H;exact f_R09_parser_list_body_io ih.1 ih.2.1 ih.2.2.1 ih.2.2.2.1 H
def Y4k (t0:Y1) (t1:Int):Option ((List Y5)×Y1):=Y03 1000000 t0 t1
theorem f_R09_parser_expression_io{t0:Y1}{t1:Int}{r:(List Y5)×Y1}(H:Y4k t0 t1=some r):Abs.Spec Tryd.prog 34 [.ref 2020 0 0,.int .i64 t1] [bxp t0] (fun x h=>x=slA Y4 r.1∧h=[bxp r.2]):=
 (Y5g 1000000).1 t0 t1 r H
end Go.Proofs.YtkgfbpbndmklnaaDoor
