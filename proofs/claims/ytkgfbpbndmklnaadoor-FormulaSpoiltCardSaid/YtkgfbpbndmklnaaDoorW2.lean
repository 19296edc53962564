/- Own work. -/
import Derived.Test.YtkgfbpbndmklnaaDoorW1
import Derived.Test.YtkgfbpbndmklnaaDoorPrP
set_option linter.unusedSimpArgs false
set_option linter.unusedVariables false
set_option maxRecDepth 100000
namespace Go.Proofs.YtkgfbpbndmklnaaDoor
open Go.Abs
def Y06 (v6:Ya) (v7:List Y2):Option ((List Y2)×Ya):=
 some (v7,v6)
def Y0t (x1:Int×Ya) (x36:Int×Ya) (loop41:(Ya×(List (List Y2))×Int)→Option ((List Y2)×Ya)) (v38:Ya) (v39:List (List Y2)) (v40:Int):Option ((List Y2)×Ya):=
 cond (decide (v40≤((2:Int)+(Int.tmod x36.1 (2:Int))))) (
  (Y2h v38).bind fun x43=>
  G (room 24 (v39.length+1))<|
  G (inR (v40+1))<|
  loop41 (x43.2,v39++[x43.1],v40+1)) (
  (Y05 (⟨Int.tmod x1.1 (14:Int),(2:Int)+(Int.tmod x36.1 (2:Int))⟩:Y2) v39).bind fun x46=>
  Y06 v38 x46)
def Y1d (ra1:Ya→Int→Int→Option ((List (List Y2))×Ya)) (t1:Int) (x1:Int×Ya) (v29:Ya) (v30:Bool):Option ((List Y2)×Ya):=
 cond v30 (
  G (inR (t1-1))<|
  (ra1 v29 (1:Int) (t1-1)).bind fun x33=>
  (Y05 (⟨Int.tmod x1.1 (14:Int),(0:Int)⟩:Y2) x33.1).bind fun x34=>
  Y06 x33.2 x34) (
  cond ((Int.tmod x1.1 (14:Int))==12) (
   (Y12 v29).bind fun x36=>
   G (inR ((2:Int)+(Int.tmod x36.1 (2:Int))))<|
   iter (fun loop (s:Ya×(List (List Y2))×Int)=>Y0t x1 x36 loop s.1 s.2.1 s.2.2) 1000000 (x36.2,([]:List (List Y2)),(0:Int))) (
   (Y12 v29).bind fun x47=>
   G (inR ((1:Int)+(Int.tmod x47.1 (2:Int))))<|
   (Y12 x47.2).bind fun x49=>
   G (inR ((1:Int)+(Int.tmod x49.1 (2:Int))))<|
   G (inR (8*((1:Int)+(Int.tmod x47.1 (2:Int)))))<|
   G (inR ((8*((1:Int)+(Int.tmod x47.1 (2:Int))))+((1:Int)+(Int.tmod x49.1 (2:Int)))))<|
   G (inR (((1:Int)+(Int.tmod x47.1 (2:Int)))*((1:Int)+(Int.tmod x49.1 (2:Int)))))<|
   G (inR (t1-1))<|
   (ra1 x49.2 (((1:Int)+(Int.tmod x47.1 (2:Int)))*((1:Int)+(Int.tmod x49.1 (2:Int)))) (t1-1)).bind fun x55=>
   (Y05 (⟨Int.tmod x1.1 (14:Int),(8*((1:Int)+(Int.tmod x47.1 (2:Int))))+((1:Int)+(Int.tmod x49.1 (2:Int)))⟩:Y2) x55.1).bind fun x56=>
   Y06 x55.2 x56))
def Y1c (ra1:Ya→Int→Int→Option ((List (List Y2))×Ya)) (t1:Int) (x1:Int×Ya) (v23:Ya) (v24:Bool):Option ((List Y2)×Ya):=
 cond v24 (
  G (inR (t1-1))<|
  (ra1 v23 (2:Int) (t1-1)).bind fun x27=>
  (Y05 (⟨Int.tmod x1.1 (14:Int),(0:Int)⟩:Y2) x27.1).bind fun x28=>
  Y06 x27.2 x28) (
  cond ((Int.tmod x1.1 (14:Int))==9) (
   Y1d ra1 t1 x1 v23 ((Int.tmod x1.1 (14:Int))==9)) (
   cond ((Int.tmod x1.1 (14:Int))==10) (
    Y1d ra1 t1 x1 v23 ((Int.tmod x1.1 (14:Int))==10)) (
    Y1d ra1 t1 x1 v23 ((Int.tmod x1.1 (14:Int))==11))))
def Y0s (ra2:Ya→Int→Int→Option ((List Y2)×Ya)) (ra1:Ya→Int→Int→Option ((List (List Y2))×Ya)) (t1:Int) (t2:Int) (x1:Int×Ya) (v12:Ya) (v13:Bool):Option ((List Y2)×Ya):=
 cond v13 (
  (Y1q (Int.tmod x1.1 (14:Int))).bind fun x15=>
  G (inR (t1-2))<|
  (ra2 v12 (t1-2) x15).bind fun x17=>
  G (inR (x15+1))<|
  (ra2 x17.2 (t1-2) (x15+1)).bind fun x19=>
  (Y05 (⟨Int.tmod x1.1 (14:Int),(0:Int)⟩:Y2) [x17.1,x19.1]).bind fun x20=>
  cond (decide (x15<t2)) (
   (Y05 (⟨(10:Int),(0:Int)⟩:Y2) [x20]).bind fun x22=>
   Y06 x19.2 x22) (
   Y06 x19.2 x20)) (
  cond ((Int.tmod x1.1 (14:Int))==6) (
   Y1c ra1 t1 x1 v12 ((Int.tmod x1.1 (14:Int))==6)) (
   cond ((Int.tmod x1.1 (14:Int))==7) (
    Y1c ra1 t1 x1 v12 ((Int.tmod x1.1 (14:Int))==7)) (
    Y1c ra1 t1 x1 v12 ((Int.tmod x1.1 (14:Int))==8))))
def Y3f (ra2:Ya→Int→Int→Option ((List Y2)×Ya)) (ra1:Ya→Int→Int→Option ((List (List Y2))×Ya)) (t0:Ya) (t1:Int) (t2:Int):Option ((List Y2)×Ya):=
 (Y12 t0).bind fun x1=>
 cond (cond (decide (t1<2)) true (cond (cond (decide (t1<3)) (decide ((Int.tmod x1.1 (14:Int))<6)) false) (decide ((1:Int)<(Int.tmod x1.1 (14:Int)))) false)) (
  cond ((Int.tmod (Int.tmod x1.1 (14:Int)) (2:Int))==1) (
   (Y12 x1.2).bind fun x4=>
   some ([(⟨(1:Int),Int.tmod x4.1 (26:Int)⟩:Y2)],x4.2)) (
   (Y2h x1.2).bind fun x5=>
   some (x5.1,x5.2))) (
  cond ((Int.tmod x1.1 (14:Int))==0) (
   (Y2h x1.2).bind fun x9=>
   some (x9.1,x9.2)) (
   cond ((Int.tmod x1.1 (14:Int))==1) (
    (Y12 x1.2).bind fun x11=>
    some ([(⟨(1:Int),Int.tmod x11.1 (26:Int)⟩:Y2)],x11.2)) (
    cond ((Int.tmod x1.1 (14:Int))==2) (
     Y0s ra2 ra1 t1 t2 x1 x1.2 ((Int.tmod x1.1 (14:Int))==2)) (
     cond ((Int.tmod x1.1 (14:Int))==3) (
      Y0s ra2 ra1 t1 t2 x1 x1.2 ((Int.tmod x1.1 (14:Int))==3)) (
      cond ((Int.tmod x1.1 (14:Int))==4) (
       Y0s ra2 ra1 t1 t2 x1 x1.2 ((Int.tmod x1.1 (14:Int))==4)) (
       Y0s ra2 ra1 t1 t2 x1 x1.2 ((Int.tmod x1.1 (14:Int))==5)))))))
section
variable (t0:Ya) (t1:Int) (t2:Int) (v12:Ya) (v23:Ya) (v29:Ya) (v38:Ya) (v39:List (List Y2)) (v40:Int) (x1:Int×Ya) (x4:(Int×Ya)) (x5:((List Y2)×Ya)) (x9:((List Y2)×Ya)) (x11:(Int×Ya)) (x15:Int) (x36:Int×Ya) (x47:(Int×Ya)) (x49:(Int×Ya))
abbrev Z24:=(Int.tmod x1.1 (14:Int))
abbrev Z25:=((2:Int)+(Int.tmod x36.1 (2:Int)))
abbrev Z26:Nat×AV:=(0,.ref 2000 0 0)
abbrev Z27:=((1:Int)+(Int.tmod x47.1 (2:Int)))
abbrev Z28:=([]:List (List Y2))
abbrev Z29:Nat×AV:=(7,.j (Z24 x1))
abbrev Z2a:=((1:Int)+(Int.tmod x49.1 (2:Int)))
abbrev Z2b:=(cond (cond (decide (t1<3)) (decide ((Z24 x1)<6)) false) (decide ((1:Int)<(Z24 x1))) false)
abbrev Z17:Env:=[(43,.j (Z24 x1)),(Z29 x1),Z26,(1,.j t1),(2,.j t2)]
abbrev Z18:Hp:=[bxm x1.2]
abbrev Z19:Env:=[(63,.j (t1-1)),(61,.j ((Z27 x47)*(Z2a x49))),(58,.ref 2000 0 0),(57,.agg [.j (Z24 x1),.j ((8*(Z27 x47))+(Z2a x49))])]
abbrev Z1a:Env:=[Z26,(Z29 x1),(10,.j (Z25 x36)),(11,.rsl 11 0 0 v39.length),(12,.j v40)]
abbrev Z1b:Env:=[Z26,(1,.j t1),(Z29 x1),(43,.j (Z24 x1))]
abbrev Z1c:Env:=[(Z29 x1)]
abbrev Z1d:Hp:=[bxm v29]
abbrev Z1e:Env:=[Z26,(1,.j t1),(2,.j t2)]
abbrev Z1f:Env:=(89,.j x15)::(88,.j (t1-2))::(86,.ref 2000 0 0)::(85,.agg [.j (Z24 x1),.j (0:Int)])::(9,.j x15)::(Z1e t1 t2)
abbrev Z1g:Env:=(48,.ref 2000 0 0)::(47,.j (Z27 x47))::Z26::(1,.j t1)::(Z1c x1)
abbrev Z1h:Env:=[(114,.j (t1-1)),(112,.ref 2000 0 0),(111,.agg [.j (Z24 x1),.j (0:Int)])]
abbrev Z1i:Env:=[(125,.j (t1-1)),(123,.ref 2000 0 0),(122,.agg [.j (Z24 x1),.j (0:Int)])]
abbrev Z1j:Hp:=[bxm x47.2]
abbrev Z1k:Hp:=[bxm x49.2]
abbrev Z1l:Hp:=[bxm t0]
abbrev Z1m:Env:=(10,.j (Z25 x36))::Z26::(Z1c x1)
abbrev Z1n:Env:=[(85,.agg [.j (Z24 x1),.j (0:Int)]),(9,.j x15),(2,.j t2)]
abbrev Z1o:Hp:=[bxm x11.2]
abbrev Z1p:Hp:=[bxm x4.2]
abbrev Z1q:Env:=[(6,slA Y5 [(⟨(1:Int),Int.tmod x4.1 (26:Int)⟩:Y2)])]
abbrev Z1r:Env:=[(6,slA Y5 [(⟨(1:Int),Int.tmod x11.1 (26:Int)⟩:Y2)])]
abbrev Z1s:Hp:=[bxm v12]
abbrev Z1t:Hp:=[bxm v23]
abbrev Z1u:Hp:=[bxm v38]
abbrev Z1v:Env:=Z26::(1,.j t1)::(Z1c x1)
abbrev Z1w:Env:=[Z26,(Z29 x1),(10,.j (Z25 x36)),(12,.j v40)]
abbrev Z1x:Env:=(141,.ref 2000 0 0)::(140,.rsl 11 0 0 v39.length)::(Z1a v39 v40 x1 x36)
abbrev Z1y:Hp:=[bxm x36.2]
abbrev Z1z:Hp:=[bxm x5.2]
abbrev Z20:Hp:=[bxm x9.2]
abbrev Z21:Env:=(130,.ref 2000 0 0)::Z26::(Z1c x1)
abbrev Z22:Env:=[(147,.agg [.j (Z24 x1),.j (Z25 x36)])]
abbrev Z23:Hp:=[(11,rtA 0 23 1 (eL Y5) v39)]
end
theorem f_R09_maker_tree_body_io{ra2:Ya→Int→Int→Option ((List Y2)×Ya)}{ra1:Ya→Int→Int→Option ((List (List Y2))×Ya)}(hra2:∀(t0:Ya) (t1:Int) (t2:Int) (r:(List Y2)×Ya),ra2 t0 t1 t2=some r→Abs.Spec Tryd.prog 27 [.ref 2000 0 0,.int .i64 t1,.int .i64 t2] [bxm t0] (fun x h=>x=slA Y5 r.1∧h=[bxm r.2]))(hra1:∀(t0:Ya) (t1:Int) (t2:Int) (r:(List (List Y2))×Ya),ra1 t0 t1 t2=some r→Abs.Spec Tryd.prog 42 [.ref 2000 0 0,.int .i64 t1,.int .i64 t2] [bxm t0] (fun x h=>x=slA (eL Y5) r.1∧h=[bxm r.2])){t0:Ya}{t1:Int}{t2:Int}{r:(List Y2)×Ya}(H:Y3f ra2 ra1 t0 t1 t2=some r):Abs.Spec Tryd.prog 27 [.ref 2000 0 0,.int .i64 t1,.int .i64 t2] [bxm t0] (fun x h=>x=slA Y5 r.1∧h=[bxm r.2]):=by
 refine Yv Tryd.func27 rfl (by simp[Tryd.ntmps27]) ?_;rw[Tryd.ntmps27];unfold Y3f at H;change AW _ _ _ (Z1e t1 t2) (Z1l t0) _;refine Y4f<|Y0 (OpsW.sg 1 [0,1,2] (Z1e t1 t2) ?_);refine Y4 (Y0 (OpsW.sg 1 [15,0,1,2] ((15,.ref 2000 0 0)::(Z1e t1 t2)) ?_));refine OpsW.rc ((15,.ref 2000 0 0)::(Z1e t1 t2)) (Z1l t0) (StC.mk phm (.o rfl (.i2 .nil) .nil) rfl (.cons (.r rfl) (.cons (.r rfl) (.i2 .nil)))) ?_;have⟨x1,hx1,H⟩:=Y0b H;refine Y1e (Z1l t0) [] (Z1l t0) phm rfl (Y23 hx1) (.cons (.r rfl) .nil) (.b (.i2 .nil) .nil) (.j x1.1) (Z18 x1) phm (.b (.i2 .nil) .nil) (.cons .im .nil)<|OpsW.sz 2 [7,0,1,2] ((Z29 x1)::(Z1e t1 t2)) ⟨(by decide),trivial⟩ ?_;refine Y4 (Y0a (Y0 (OpsW.sz 14 [31,7,0,1,2] ((31,.bool (cond (decide (t1<2)) true (Z2b t1 x1)))::(Z29 x1)::(Z1e t1 t2)) ⟨(fun h=>h),(fun h=>h),(fun h=>h),(fun h=>h),(fun h0 h=>by first|exact h|(simp[h0,h];done)|(simp at h0 h⊢;simp[h0,h];done)|(simp_all;done)|grind),(fun h=>h),(fun h=>h),(fun h=>h),(fun h0 h=>by first|exact h|(simp[h0,h];done)|(simp at h0 h⊢;simp[h0,h];done)|(simp_all;done)|grind),(fun h=>by first|exact h|(simpa using h)|grind),trivial⟩ ?_)));refine Y4 (Yd (b:=cond (decide (t1<2)) true (Z2b t1 x1)) H rfl (fun c2 H=> ?_) (fun c2 H=> ?_))
 ·refine Y0a (Y0 (OpsW.sz 3 [34,0] [(34,.bool ((Int.tmod (Z24 x1) (2:Int))==1)),Z26] ⟨(by decide),trivial⟩ ?_));refine Y4 (Yd (b:=(Int.tmod (Z24 x1) (2:Int))==1) H rfl (fun c3 H=> ?_) (fun c3 H=> ?_))
  ·refine Y0 (OpsW.sg 1 [35] [(35,.ref 2000 0 0)] ?_);have⟨x4,hx4,H⟩:=Y0b H;refine Y1e (Z18 x1) [] (Z18 x1) phm rfl (Y23 hx4) (.cons (.r rfl) .nil) (.b (.i2 .nil) .nil) (.j x4.1) (Z1p x4) phm (.b (.i2 .nil) .nil) (.cons .im .nil) ?_;refine OpsW.sz 2 [38] [(38,.agg [.j (1:Int),.j (Int.tmod x4.1 (26:Int))])] ⟨(by decide),trivial⟩ (OpsW.buildTI (enc:=Y5) [(⟨(1:Int),Int.tmod x4.1 (26:Int)⟩:Y2)] rfl rfl rfl E23 (fun _=>rfl) (by decide) ⟨trivial,by kernel_rfl,by kernel_rfl,by kernel_rfl,rfl⟩ (OpsW.sg 1 [6] (Z1q x4) (OpsW.rc (Z1q x4) (Z1p x4) (StC.mk phm (.o rfl (.i2 .nil) .nil) rfl (.cons .im .nil)) (Y4 ?_))));obtain rfl:=X8 H;refine Y00 ?_;show ∃en' hp',StC _ _ en' hp'∧Done _ _ _ .ret en' hp';refine⟨(Z1q x4),(Z1p x4),(StC.mk phm (.o rfl (.i2 .nil) .nil) rfl (.cons .im .nil)), ?_⟩;refine Y1r rfl (.tmp .nil) ?_;exact⟨by kernel_rfl,by kernel_rfl⟩
  refine Yi (Y0 (OpsW.sg 1 [40] [(40,.ref 2000 0 0)] ?_));have⟨x5,hx5,H⟩:=Y0b H;refine Y1e (Z18 x1) [] (Z18 x1) phm rfl (Y5v hx5) (.cons (.r rfl) .nil) (.b (.i2 .nil) .nil) (slA Y5 x5.1) (Z1z x5) phm (.b (.i2 .nil) .nil) (.cons .im .nil)<|OpsW.sg 1 [6] [(6,slA Y5 x5.1)] (Y4 ?_);obtain rfl:=X8 H;refine Y00 ?_;show ∃en' hp',StC _ _ en' hp'∧Done _ _ _ .ret en' hp';refine⟨[(6,slA Y5 x5.1)],(Z1z x5),(StC.mk phm (.o rfl (.i2 .nil) .nil) rfl (.cons .im .nil)), ?_⟩;refine Y1r rfl (.tmp .nil) ?_;exact⟨by kernel_rfl,by kernel_rfl⟩
 refine Yi (Y0 (OpsW.buildTI (enc:=Y5) ([]:List Y2) rfl rfl rfl E23 (fun _=>rfl) (by decide) ⟨trivial,by kernel_rfl,by kernel_rfl,by kernel_rfl,rfl⟩ ?_));refine OpsW.sg 1 [7,0,1,2] ((Z29 x1)::(Z1e t1 t2)) (Y4 ?_);refine Y3d (fun(y:Ya×(List Y2))=>Y06 y.1 y.2) r (fun(y:Ya×(List Y2))=>[(8,slA Y5 y.2)]) (fun(y:Ya×(List Y2))=>[bxm y.1]) ?_ ?_
 ·refine Y0 (OpsW.sg 1 [43,7,0,1,2] (Z17 t1 t2 x1) ?_);refine Y4 (Y04 (Y0 (OpsW.sg 2 [66,43,7,0,1,2] ((66,.bool ((Z24 x1)==0))::(Z17 t1 t2 x1)) ?_)));refine Y4 (Yd (b:=(Z24 x1)==0) H rfl (fun c8 H=> ?_) (fun c8 H=> ?_))
  ·refine Y0 (OpsW.sg 1 [68] [(68,.ref 2000 0 0)] ?_);have⟨x9,hx9,H⟩:=Y0b H;refine Y1e (Z18 x1) [] (Z18 x1) phm rfl (Y5v hx9) (.cons (.r rfl) .nil) (.b (.i2 .nil) .nil) (slA Y5 x9.1) (Z20 x9) phm (.b (.i2 .nil) .nil) (.cons .im .nil)<|OpsW.sg 1 [6] [(6,slA Y5 x9.1)] (Y4 ?_);obtain rfl:=X8 H;refine Y00 ?_;show ∃en' hp',StC _ _ en' hp'∧Done _ _ _ .ret en' hp';refine⟨[(6,slA Y5 x9.1)],(Z20 x9),(StC.mk phm (.o rfl (.i2 .nil) .nil) rfl (.cons .im .nil)), ?_⟩;refine Y1r rfl (.tmp .nil) ?_;exact⟨by kernel_rfl,by kernel_rfl⟩
  refine Y0 (OpsW.sg 2 [70,43,7,0,1,2] ((70,.bool ((Z24 x1)==1))::(Z17 t1 t2 x1)) ?_);refine Y4 (Yd (b:=(Z24 x1)==1) H rfl (fun c10 H=> ?_) (fun c10 H=> ?_))
  ·refine Y0 (OpsW.sg 1 [72] [(72,.ref 2000 0 0)] ?_);have⟨x11,hx11,H⟩:=Y0b H;refine Y1e (Z18 x1) [] (Z18 x1) phm rfl (Y23 hx11) (.cons (.r rfl) .nil) (.b (.i2 .nil) .nil) (.j x11.1) (Z1o x11) phm (.b (.i2 .nil) .nil) (.cons .im .nil) ?_;refine OpsW.sz 2 [75] [(75,.agg [.j (1:Int),.j (Int.tmod x11.1 (26:Int))])] ⟨(by decide),trivial⟩ (OpsW.buildTI (enc:=Y5) [(⟨(1:Int),Int.tmod x11.1 (26:Int)⟩:Y2)] rfl rfl rfl E23 (fun _=>rfl) (by decide) ⟨trivial,by kernel_rfl,by kernel_rfl,by kernel_rfl,rfl⟩ (OpsW.sg 1 [6] (Z1r x11) (OpsW.rc (Z1r x11) (Z1o x11) (StC.mk phm (.o rfl (.i2 .nil) .nil) rfl (.cons .im .nil)) (Y4 ?_))));obtain rfl:=X8 H;refine Y00 ?_;show ∃en' hp',StC _ _ en' hp'∧Done _ _ _ .ret en' hp';refine⟨(Z1r x11),(Z1o x11),(StC.mk phm (.o rfl (.i2 .nil) .nil) rfl (.cons .im .nil)), ?_⟩;refine Y1r rfl (.tmp .nil) ?_;exact⟨by kernel_rfl,by kernel_rfl⟩
  refine Y3d (fun(y:Ya×Bool)=>Y0s ra2 ra1 t1 t2 x1 y.1 y.2) r (fun(y:Ya×Bool)=>[Z26,(1,.j t1),(2,.j t2),(Z29 x1),(43,.j (Z24 x1)),(77,.bool y.2)]) (fun(y:Ya×Bool)=>[bxm y.1]) ?_ ?_
  ·refine Y0 (OpsW.sg 2 [77,43,7,0,1,2] ((77,.bool ((Z24 x1)==2))::(Z17 t1 t2 x1)) ?_);refine Y4 (Yd (b:=(Z24 x1)==2) H rfl (fun c61 H=> ?_) (fun c61 H=> ?_))
   ·refine Yi ?_;exact⟨(x1.2,(Z24 x1)==2),H,(StC.mk phm (.o rfl (.i2 .nil) .nil) rfl (.cons (.r rfl) (.i5 .nil)))⟩
   refine Y0 (OpsW.sg 2 [77,43,7,0,1,2] ((77,.bool ((Z24 x1)==3))::(Z17 t1 t2 x1)) ?_);refine Y4 (Yd (b:=(Z24 x1)==3) H rfl (fun c62 H=> ?_) (fun c62 H=> ?_))
   ·refine Yi ?_;exact⟨(x1.2,(Z24 x1)==3),H,(StC.mk phm (.o rfl (.i2 .nil) .nil) rfl (.cons (.r rfl) (.i5 .nil)))⟩
   refine Y0 (OpsW.sg 2 [77,43,7,0,1,2] ((77,.bool ((Z24 x1)==4))::(Z17 t1 t2 x1)) ?_);refine Y4 (Yd (b:=(Z24 x1)==4) H rfl (fun c63 H=> ?_) (fun c63 H=> ?_))
   ·refine Yi ?_;exact⟨(x1.2,(Z24 x1)==4),H,(StC.mk phm (.o rfl (.i2 .nil) .nil) rfl (.cons (.r rfl) (.i5 .nil)))⟩
   refine Ys (OpsW.sg 2 [77,43,7,0,1,2] ((77,.bool ((Z24 x1)==5))::(Z17 t1 t2 x1)) ?_);refine Y4 ?_;exact⟨(x1.2,(Z24 x1)==5),H,(StC.mk phm (.o rfl (.i2 .nil) .nil) rfl (.cons (.r rfl) (.i5 .nil)))⟩
  rintro⟨v12,v13⟩ H;unfold Y0s at H;change AW _ _ _ [Z26,(1,.j t1),(2,.j t2),(Z29 x1),(43,.j (Z24 x1)),(77,.bool v13)] (Z1s v12) _;refine Yd (b:=v13) H rfl (fun c14 H=> ?_) (fun c14 H=> ?_)
  ·refine Y0 (OpsW.sg 1 [82,0,1,2,7] ((82,.j (Z24 x1))::Z26::(1,.j t1)::(2,.j t2)::(Z1c x1)) ?_);have⟨x15,hx15,H⟩:=Y0b H;refine Y0w rfl (.cons (.pur rfl) .nil) (Y35 hx15) (OpsW.sg 1 [9,0,1,2,7] ((9,.j x15)::Z26::(1,.j t1)::(2,.j t2)::(Z1c x1)) ?_);refine Y4 (Y0 ?_);have⟨g16,H⟩:=Yh H;refine OpsW.sz 6 [89,88,86,85,9,0,1,2] (Z1f t1 t2 x1 x15) ⟨g16,trivial⟩ ?_;have⟨x17,hx17,H⟩:=Y0b H;refine Y1e (Z1s v12) [] (Z1s v12) phm rfl (hra2 _ _ _ _ hx17) (.cons (.r rfl) (.i2 .nil)) (.b (.i2 .nil) .nil) (slA Y5 x17.1) [bxm x17.2] phm (.b (.i2 .nil) .nil) (.cons .im .nil) ?_;have⟨g18,H⟩:=Yh H;refine OpsW.sz 5 [95,93,91,90,85,9,2] ((95,.j (x15+1))::(93,.j (t1-2))::(91,.ref 2000 0 0)::(90,slA Y5 x17.1)::(Z1n t2 x1 x15)) ⟨g16,g18,trivial⟩ ?_;have⟨x19,hx19,H⟩:=Y0b H;refine Y1e [bxm x17.2] [] [bxm x17.2] phm rfl (hra2 _ _ _ _ hx19) (.cons (.r rfl) (.i2 .nil)) (.b (.i2 .nil) .nil) (slA Y5 x19.1) [bxm x19.2] phm (.b (.i2 .nil) .nil) (.cons .im .nil)<|OpsW.buildTI (enc:=eL Y5) [x17.1,x19.1] rfl rfl rfl E77 (fun _=>rfl) (by decide) ⟨trivial,by kernel_rfl,by kernel_rfl,by kernel_rfl,rfl⟩ ?_;have⟨x20,hx20,H⟩:=Y0b H;refine Y0w rfl (.cons (.pur rfl) (.cons (.pur rfl) .nil)) (Y1p hx20) (OpsW.sg 1 [8,9,2] [(8,slA Y5 x20),(9,.j x15),(2,.j t2)] (OpsW.rc [(8,slA Y5 x20),(9,.j x15),(2,.j t2)] [bxm x19.2] (StC.mk phm (.o rfl (.i2 .nil) .nil) rfl (.i3 .nil)) ?_))
   refine Y4 (Y0 (OpsW.sg 3 [101,8] [(101,.bool (decide (x15<t2))),(8,slA Y5 x20)] ?_));refine Y4 (Yd (b:=decide (x15<t2)) H rfl (fun c21 H=> ?_) (fun c21 H=> ?_))
   ·refine Ys (OpsW.sg 2 [103,102,8] [(103,slA Y5 x20),(102,.agg [.j (10:Int),.j (0:Int)]),(8,slA Y5 x20)] ?_);refine OpsW.buildTI (enc:=eL Y5) [x20] rfl rfl rfl E77 (fun _=>rfl) (by decide) ⟨trivial,by kernel_rfl,by kernel_rfl,by kernel_rfl,rfl⟩ ?_;have⟨x22,hx22,H⟩:=Y0b H;refine Y0w rfl (.cons (.pur rfl) (.cons (.pur rfl) .nil)) (Y1p hx22) (OpsW.sg 1 [8] [(8,slA Y5 x22)] (Y4 ?_));exact⟨(x19.2,x22),H,(StC.mk phm (.o rfl (.i2 .nil) .nil) rfl (.cons .im .nil))⟩
   refine Yi ?_;exact⟨(x19.2,x20),H,(StC.mk phm (.o rfl (.i2 .nil) .nil) rfl (.cons .im .nil))⟩
  refine Y3d (fun(y:Ya×Bool)=>Y1c ra1 t1 x1 y.1 y.2) r (fun(y:Ya×Bool)=>[Z26,(1,.j t1),(Z29 x1),(43,.j (Z24 x1)),(106,.bool y.2)]) (fun(y:Ya×Bool)=>[bxm y.1]) ?_ ?_
  ·refine Y0 (OpsW.sg 2 [106,0,1,7,43] ((106,.bool ((Z24 x1)==6))::(Z1b t1 x1)) ?_);refine Y4 (Yd (b:=(Z24 x1)==6) H rfl (fun c59 H=> ?_) (fun c59 H=> ?_))
   ·refine Yi ?_;exact⟨(v12,(Z24 x1)==6),H,(StC.mk phm (.o rfl (.i2 .nil) .nil) rfl (.cons (.r rfl) (.i4 .nil)))⟩
   refine Y0 (OpsW.sg 2 [106,0,1,7,43] ((106,.bool ((Z24 x1)==7))::(Z1b t1 x1)) ?_);refine Y4 (Yd (b:=(Z24 x1)==7) H rfl (fun c60 H=> ?_) (fun c60 H=> ?_))
   ·refine Yi ?_;exact⟨(v12,(Z24 x1)==7),H,(StC.mk phm (.o rfl (.i2 .nil) .nil) rfl (.cons (.r rfl) (.i4 .nil)))⟩
   refine Ys (OpsW.sg 2 [106,0,1,7,43] ((106,.bool ((Z24 x1)==8))::(Z1b t1 x1)) ?_);refine Y4 ?_;exact⟨(v12,(Z24 x1)==8),H,(StC.mk phm (.o rfl (.i2 .nil) .nil) rfl (.cons (.r rfl) (.i4 .nil)))⟩
  rintro⟨v23,v24⟩ H;unfold Y1c at H;change AW _ _ _ [Z26,(1,.j t1),(Z29 x1),(43,.j (Z24 x1)),(106,.bool v24)] (Z1t v23) _;refine Yd (b:=v24) H rfl (fun c25 H=> ?_) (fun c25 H=> ?_)
  ·refine Ys ?_;have⟨g26,H⟩:=Yh H;refine OpsW.sz 5 [114,112,111] (Z1h t1 x1) ⟨g26,trivial⟩ ?_;have⟨x27,hx27,H⟩:=Y0b H;refine Y1e (Z1t v23) [] (Z1t v23) phm rfl (hra1 _ _ _ _ hx27) (.cons (.r rfl) (.i2 .nil)) (.b (.i2 .nil) .nil) (slA (eL Y5) x27.1) [bxm x27.2] phm (.b (.i2 .nil) .nil) (.cons .im .nil) ?_;have⟨x28,hx28,H⟩:=Y0b H;refine Y0w rfl (.cons (.pur rfl) (.cons (.pur rfl) .nil)) (Y1p hx28) (OpsW.sg 1 [8] [(8,slA Y5 x28)] (Y4 ?_));exact⟨(x27.2,x28),H,(StC.mk phm (.o rfl (.i2 .nil) .nil) rfl (.cons .im .nil))⟩
  refine Y3d (fun(y:Ya×Bool)=>Y1d ra1 t1 x1 y.1 y.2) r (fun(y:Ya×Bool)=>[Z26,(1,.j t1),(Z29 x1),(43,.j (Z24 x1)),(117,.bool y.2)]) (fun(y:Ya×Bool)=>[bxm y.1]) ?_ ?_
  ·refine Y0 (OpsW.sg 2 [117,0,1,7,43] ((117,.bool ((Z24 x1)==9))::(Z1b t1 x1)) ?_);refine Y4 (Yd (b:=(Z24 x1)==9) H rfl (fun c57 H=> ?_) (fun c57 H=> ?_))
   ·refine Yi ?_;exact⟨(v23,(Z24 x1)==9),H,(StC.mk phm (.o rfl (.i2 .nil) .nil) rfl (.cons (.r rfl) (.i4 .nil)))⟩
   refine Y0 (OpsW.sg 2 [117,0,1,7,43] ((117,.bool ((Z24 x1)==10))::(Z1b t1 x1)) ?_);refine Y4 (Yd (b:=(Z24 x1)==10) H rfl (fun c58 H=> ?_) (fun c58 H=> ?_))
   ·refine Yi ?_;exact⟨(v23,(Z24 x1)==10),H,(StC.mk phm (.o rfl (.i2 .nil) .nil) rfl (.cons (.r rfl) (.i4 .nil)))⟩
   refine Ys (OpsW.sg 2 [117,0,1,7,43] ((117,.bool ((Z24 x1)==11))::(Z1b t1 x1)) ?_);refine Y4 ?_;exact⟨(v23,(Z24 x1)==11),H,(StC.mk phm (.o rfl (.i2 .nil) .nil) rfl (.cons (.r rfl) (.i4 .nil)))⟩
  rintro⟨v29,v30⟩ H;unfold Y1d at H;change AW _ _ _ [Z26,(1,.j t1),(Z29 x1),(43,.j (Z24 x1)),(117,.bool v30)] (Z1d v29) _;refine Yd (b:=v30) H rfl (fun c31 H=> ?_) (fun c31 H=> ?_)
  ·refine Ys ?_;have⟨g32,H⟩:=Yh H;refine OpsW.sz 5 [125,123,122] (Z1i t1 x1) ⟨g32,trivial⟩ ?_;have⟨x33,hx33,H⟩:=Y0b H;refine Y1e (Z1d v29) [] (Z1d v29) phm rfl (hra1 _ _ _ _ hx33) (.cons (.r rfl) (.i2 .nil)) (.b (.i2 .nil) .nil) (slA (eL Y5) x33.1) [bxm x33.2] phm (.b (.i2 .nil) .nil) (.cons .im .nil) ?_;have⟨x34,hx34,H⟩:=Y0b H;refine Y0w rfl (.cons (.pur rfl) (.cons (.pur rfl) .nil)) (Y1p hx34) (OpsW.sg 1 [8] [(8,slA Y5 x34)] (Y4 ?_));exact⟨(x33.2,x34),H,(StC.mk phm (.o rfl (.i2 .nil) .nil) rfl (.cons .im .nil))⟩
  refine Y0 (OpsW.sg 2 [128,0,1,7] ((128,.bool ((Z24 x1)==12))::(Z1v t1 x1)) ?_);refine Y4 (Yd (b:=(Z24 x1)==12) H rfl (fun c35 H=> ?_) (fun c35 H=> ?_))
  ·refine Y0 (OpsW.sg 1 [130,0,7] (Z21 x1) ?_);have⟨x36,hx36,H⟩:=Y0b H;refine Y1e (Z1d v29) [] (Z1d v29) phm rfl (Y23 hx36) (.cons (.r rfl) .nil) (.b (.i2 .nil) .nil) (.j x36.1) (Z1y x36) phm (.b (.i2 .nil) .nil) (.cons .im .nil) ?_;have⟨g37,H⟩:=Yh H;refine OpsW.sz 2 [133,0,7] ((133,.j (Z25 x36))::Z26::(Z1c x1)) ⟨(by decide),g37,trivial⟩ (OpsW.buildT (enc:=eL Y5) Z28 rfl rfl rfl 134 rfl E77 (fun _=>rfl) (by decide) trivial (by kernel_rfl) (by kernel_rfl) (by kernel_rfl) rfl (OpsW.sg 2 [11,10,0,7] ((11,.rsl 134 0 0 (Z28.length))::(Z1m x1 x36)) (OpsW.rc ((11,.rsl 11 0 0 (Z28.length))::(Z1m x1 x36)) ((11,rtA 0 23 1 (eL Y5) Z28)::(Z1y x36)) (StC.mk (phi [(11,some 134),(2000,some 2000)]) (.o rfl (CstL.ims _) (.o rfl (.i2 .nil) .nil)) rfl (.cons (.s rfl) (.cons .im (.cons (.r rfl) (.cons .im .nil))))) ?_)));refine Y4 (Y0a (Y0 (OpsW.sg 1 [12,11,10,0,7] ((12,.j (0:Int))::(11,.rsl 11 0 0 (Z28.length))::(Z1m x1 x36)) ?_)));refine Y4 (Y04 ?_);refine Y3v (fun loop (s:Ya×(List (List Y2))×Int)=>Y0t x1 x36 loop s.1 s.2.1 s.2.2) r (fun(s:Ya×(List (List Y2))×Int)=>[Z26,(Z29 x1),(10,.j (Z25 x36)),(11,.rsl 11 0 0 s.2.1.length),(12,.j s.2.2)]) (fun(s:Ya×(List (List Y2))×Int)=>[bxm s.1,(11,rtA 0 23 1 (eL Y5) s.2.1)]) ?_ 1000000 (x36.2,Z28,(0:Int)) H (StC.mk (phi [(2000,some 2000),(11,some 11)]) (.o rfl (.i2 .nil) (.o rfl (CstL.ims _) .nil)) rfl (.cons (.r rfl) (.i2 (.cons (.s rfl) (.cons .im .nil)))))
   intro loop41 s H;have⟨v38,v39,v40⟩:=s;unfold Y0t at H;change AW _ _ _ (Z1a v39 v40 x1 x36) (bxm v38::(Z23 v39)) _;refine Y0a (Y0 (OpsW.sg 3 [137,0,7,10,11,12] ((137,.bool (decide (v40≤(Z25 x36))))::(Z1a v39 v40 x1 x36)) ?_));refine Y4 (Yd (b:=decide (v40≤(Z25 x36))) H rfl (fun c42 H=> ?_) (fun c42 H=> ?_))
   ·refine Yi (Y0a (Y04 (Ys (OpsW.sg 2 [141,140,0,7,10,11,12] (Z1x v39 v40 x1 x36) ?_))));have⟨x43,hx43,H⟩:=Y0b H;refine Y1e (Z1u v38) (Z23 v39) (Z1u v38) phm rfl (Y5v hx43) (.cons (.r rfl) .nil) (.b (.i2 .nil) .nil) (slA Y5 x43.1) [bxm x43.2] phm (.b (.i2 .nil) .nil) (.cons .im .nil) ?_;have⟨g44,H⟩:=Yh H;refine Y64 (enc:=eL Y5) [x43.1] rfl rfl rfl (by decide) rfl rfl rfl (by simp) E77 (fun _=>rfl) (by decide) trivial (by kernel_rfl) (by kernel_rfl) (by kernel_rfl) rfl rfl rfl g44 (OpsW.sg 1 [11,0,7,10,12] ((11,.rsl 11 1 0 ((v39++[x43.1]).length))::(Z1w v40 x1 x36)) (OpsW.rc ((11,.rsl 11 0 0 ((v39++[x43.1]).length))::(Z1w v40 x1 x36)) [(11,rtA 0 23 1 (eL Y5) (v39++[x43.1])),bxm x43.2] (StC.mk (phi [(11,some 11),(2000,some 2000)]) (.o rfl (CstL.ims _) (.o rfl (.i2 .nil) .nil)) rfl (.cons (.s rfl) (.cons (.r rfl) (.i3 .nil)))) ?_));refine Y4 (Ys ?_);have⟨g45,H⟩:=Yh H;refine OpsW.sz 3 [12,11,0,7,10] [(12,.j (v40+1)),(11,.rsl 11 0 0 ((v39++[x43.1]).length)),Z26,(Z29 x1),(10,.j (Z25 x36))] ⟨g45,trivial⟩ (Y4 ?_);exact⟨(x43.2,v39++[x43.1],v40+1),H,(StC.mk (phi [(2000,some 2000),(11,some 11)]) (.o rfl (.i2 .nil) (.o rfl (CstL.ims _) .nil)) rfl (.cons (.r rfl) (.i2 (.cons (.s rfl) (.cons .im .nil)))))⟩
   refine AW.exit<|Ys (OpsW.sg 4 [148,147] ((148,.rsl 11 0 0 v39.length)::(Z22 x1 x36)) ?_);refine OpsW.rc ((148,slA (eL Y5) v39)::(Z22 x1 x36)) (Z1u v38) (StC.mk phm (.o rfl (.i2 .nil) .nil) rfl (.cons (.frz rfl rfl rfl (frz_all (eL Y5) 1 (fun _=>rfl) v39) (Y1n (eL Y5) 1 (fun _=>rfl) v39) (phi_ne rfl)) (.cons (.agg (.i2 .nil)) .nil))) ?_;have⟨x46,hx46,H⟩:=Y0b H;refine Y0w rfl (.cons (.pur rfl) (.cons (.pur rfl) .nil)) (Y1p hx46) (OpsW.sg 1 [8] [(8,slA Y5 x46)] (Y4 ?_));exact⟨(v38,x46),H,(StC.mk phm (.o rfl (.i2 .nil) .nil) rfl (.cons .im .nil))⟩
  refine Y0 (OpsW.sg 1 [44,0,1,7] ((44,.ref 2000 0 0)::(Z1v t1 x1)) ?_);have⟨x47,hx47,H⟩:=Y0b H;refine Y1e (Z1d v29) [] (Z1d v29) phm rfl (Y23 hx47) (.cons (.r rfl) .nil) (.b (.i2 .nil) .nil) (.j x47.1) (Z1j x47) phm (.b (.i2 .nil) .nil) (.cons .im .nil) ?_;have⟨g48,H⟩:=Yh H;refine OpsW.sz 3 [48,47,0,1,7] (Z1g t1 x1 x47) ⟨(by decide),g48,trivial⟩ ?_;have⟨x49,hx49,H⟩:=Y0b H;refine Y1e (Z1j x47) [] (Z1j x47) phm rfl (Y23 hx49) (.cons (.r rfl) .nil) (.b (.i2 .nil) .nil) (.j x49.1) (Z1k x49) phm (.b (.i2 .nil) .nil) (.cons .im .nil) ?_;have⟨g50,H⟩:=Yh H;refine OpsW.sz 4 [14,13,0,1,7] ((14,.j (Z2a x49))::(13,.j (Z27 x47))::(Z1v t1 x1)) ⟨(by decide),g50,trivial⟩<|Y4 (Ys ?_);have⟨g51,H⟩:=Yh H;have⟨g52,H⟩:=Yh H;have⟨g53,H⟩:=Yh H;have⟨g54,H⟩:=Yh H;refine OpsW.sz 12 [63,61,58,57] (Z19 t1 x1 x47 x49) ⟨g51,g52,g53,g54,trivial⟩ ?_;have⟨x55,hx55,H⟩:=Y0b H;refine Y1e (Z1k x49) [] (Z1k x49) phm rfl (hra1 _ _ _ _ hx55) (.cons (.r rfl) (.i2 .nil)) (.b (.i2 .nil) .nil) (slA (eL Y5) x55.1) [bxm x55.2] phm (.b (.i2 .nil) .nil) (.cons .im .nil) ?_;have⟨x56,hx56,H⟩:=Y0b H;refine Y0w rfl (.cons (.pur rfl) (.cons (.pur rfl) .nil)) (Y1p hx56) (OpsW.sg 1 [8] [(8,slA Y5 x56)] (Y4 ?_));exact⟨(x55.2,x56),H,(StC.mk phm (.o rfl (.i2 .nil) .nil) rfl (.cons .im .nil))⟩
 rintro⟨v6,v7⟩ H;unfold Y06 at H;change AW _ _ _ [(8,slA Y5 v7)] [bxm v6] _;refine Y0 (OpsW.sg 2 [6] [(6,slA Y5 v7)] ?_);refine Y4 ?_;obtain rfl:=X8 H;refine Y00 ?_;show ∃en' hp',StC _ _ en' hp'∧Done _ _ _ .ret en' hp';refine⟨[(6,slA Y5 v7)],[bxm v6],(StC.mk phm (.o rfl (.i2 .nil) .nil) rfl (.cons .im .nil)), ?_⟩;refine Y1r rfl (.tmp .nil) ?_;exact⟨by kernel_rfl,by kernel_rfl⟩
def Y0u (ra2:Ya→Int→Int→Option ((List Y2)×Ya)) (t1:Int) (t2:Int) (loop4:(Ya×(List (List Y2))×Int)→Option ((List (List Y2))×Ya)) (v1:Ya) (v2:List (List Y2)) (v3:Int):Option ((List (List Y2))×Ya):=
 cond (decide (v3<t1)) (
  (ra2 v1 t2 (1:Int)).bind fun x6=>
  G (room 24 (v2.length+1))<|
  G (inR (v3+1))<|
  loop4 (x6.2,v2++[x6.1],v3+1)) (
  some (v2,v1))
def Y4i (ra2:Ya→Int→Int→Option ((List Y2)×Ya)) (ra1:Ya→Int→Int→Option ((List (List Y2))×Ya)) (t0:Ya) (t1:Int) (t2:Int):Option ((List (List Y2))×Ya):=
 iter (fun loop (s:Ya×(List (List Y2))×Int)=>Y0u ra2 t1 t2 loop s.1 s.2.1 s.2.2) 1000000 (t0,([]:List (List Y2)),(0:Int))
section
variable (t1:Int) (t2:Int) (v1:Ya) (v2:List (List Y2)) (v3:Int)
abbrev Z2h:=([]:List (List Y2))
abbrev Z2i:Nat×AV:=(0,.ref 2000 0 0)
abbrev Z2d:Env:=[(17,.j t2),(16,.ref 2000 0 0),(15,.rsl 7 0 0 v2.length),Z2i,(1,.j t1),(2,.j t2),(7,.rsl 7 0 0 v2.length),(8,.j v3)]
abbrev Z2e:Env:=[Z2i,(1,.j t1),(2,.j t2)]
abbrev Z2f:Hp:=[bxm v1]
abbrev Z2g:Hp:=[(7,rtA 0 23 1 (eL Y5) v2)]
end
theorem f_R09_maker_some_body_io{ra2:Ya→Int→Int→Option ((List Y2)×Ya)}{ra1:Ya→Int→Int→Option ((List (List Y2))×Ya)}(hra2:∀(t0:Ya) (t1:Int) (t2:Int) (r:(List Y2)×Ya),ra2 t0 t1 t2=some r→Abs.Spec Tryd.prog 27 [.ref 2000 0 0,.int .i64 t1,.int .i64 t2] [bxm t0] (fun x h=>x=slA Y5 r.1∧h=[bxm r.2]))(hra1:∀(t0:Ya) (t1:Int) (t2:Int) (r:(List (List Y2))×Ya),ra1 t0 t1 t2=some r→Abs.Spec Tryd.prog 42 [.ref 2000 0 0,.int .i64 t1,.int .i64 t2] [bxm t0] (fun x h=>x=slA (eL Y5) r.1∧h=[bxm r.2])){t0:Ya}{t1:Int}{t2:Int}{r:(List (List Y2))×Ya}(H:Y4i ra2 ra1 t0 t1 t2=some r):Abs.Spec Tryd.prog 42 [.ref 2000 0 0,.int .i64 t1,.int .i64 t2] [bxm t0] (fun x h=>x=slA (eL Y5) r.1∧h=[bxm r.2]):=by
 refine Yv Tryd.func42 rfl (by simp[Tryd.ntmps42]) ?_;rw[Tryd.ntmps42];unfold Y4i at H;change AW _ _ _ (Z2e t1 t2) [bxm t0] _;refine Y4f<|Y0 (OpsW.sg 1 [0,1,2] (Z2e t1 t2) ?_);refine Y4 (Y0 (OpsW.buildT (enc:=eL Y5) Z2h rfl rfl rfl 9 rfl E77 (fun _=>rfl) (by decide) trivial (by kernel_rfl) (by kernel_rfl) (by kernel_rfl) rfl ?_));refine OpsW.sg 1 [7,0,1,2] ((7,.rsl 9 0 0 (Z2h.length))::(Z2e t1 t2)) (OpsW.rc ((7,.rsl 7 0 0 (Z2h.length))::(Z2e t1 t2)) [(7,rtA 0 23 1 (eL Y5) Z2h),bxm t0] (StC.mk (phi [(7,some 9),(2000,some 2000)]) (.o rfl (CstL.ims _) (.o rfl (.i2 .nil) .nil)) rfl (.cons (.s rfl) (.cons (.r rfl) (.i2 .nil)))) ?_);refine Y4 (Y0a (Y0 (OpsW.sg 1 [8,7,0,1,2] ((8,.j (0:Int))::(7,.rsl 7 0 0 (Z2h.length))::(Z2e t1 t2)) ?_)));refine Y4 (Y04 ?_);refine Y3v (fun loop (s:Ya×(List (List Y2))×Int)=>Y0u ra2 t1 t2 loop s.1 s.2.1 s.2.2) r (fun(s:Ya×(List (List Y2))×Int)=>[Z2i,(1,.j t1),(2,.j t2),(7,.rsl 7 0 0 s.2.1.length),(8,.j s.2.2)]) (fun(s:Ya×(List (List Y2))×Int)=>[bxm s.1,(7,rtA 0 23 1 (eL Y5) s.2.1)]) ?_ 1000000 (t0,Z2h,(0:Int)) H (StC.mk (phi [(2000,some 2000),(7,some 7)]) (.o rfl (.i2 .nil) (.o rfl (CstL.ims _) .nil)) rfl (.cons (.r rfl) (.i2 (.cons (.s rfl) (.cons .im .nil)))));intro loop4 s H;have⟨v1,v2,v3⟩:=s;unfold Y0u at H;change AW _ _ _ [Z2i,(1,.j t1),(2,.j t2),(7,.rsl 7 0 0 v2.length),(8,.j v3)] (bxm v1::(Z2g v2)) _
 refine Y0a (Y0 (OpsW.sg 3 [12,0,1,2,7,8] [(12,.bool (decide (v3<t1))),Z2i,(1,.j t1),(2,.j t2),(7,.rsl 7 0 0 v2.length),(8,.j v3)] ?_));refine Y4 (Yd (b:=decide (v3<t1)) H rfl (fun c5 H=> ?_) (fun c5 H=> ?_))
 ·refine Yi (Y0a (Y04 (Ys (OpsW.sg 3 [17,16,15,0,1,2,7,8] (Z2d t1 t2 v2 v3) ?_))));have⟨x6,hx6,H⟩:=Y0b H;refine Y1e (Z2f v1) (Z2g v2) (Z2f v1) phm rfl (hra2 _ _ _ _ hx6) (.cons (.r rfl) (.i2 .nil)) (.b (.i2 .nil) .nil) (slA Y5 x6.1) [bxm x6.2] phm (.b (.i2 .nil) .nil) (.cons .im .nil) ?_;have⟨g7,H⟩:=Yh H;refine Y64 (enc:=eL Y5) [x6.1] rfl rfl rfl (by decide) rfl rfl rfl (by simp) E77 (fun _=>rfl) (by decide) trivial (by kernel_rfl) (by kernel_rfl) (by kernel_rfl) rfl rfl rfl g7 (OpsW.sg 1 [7,0,1,2,8] [(7,.rsl 7 1 0 ((v2++[x6.1]).length)),Z2i,(1,.j t1),(2,.j t2),(8,.j v3)] (OpsW.rc [(7,.rsl 7 0 0 ((v2++[x6.1]).length)),Z2i,(1,.j t1),(2,.j t2),(8,.j v3)] [(7,rtA 0 23 1 (eL Y5) (v2++[x6.1])),bxm x6.2] (StC.mk (phi [(7,some 7),(2000,some 2000)]) (.o rfl (CstL.ims _) (.o rfl (.i2 .nil) .nil)) rfl (.cons (.s rfl) (.cons (.r rfl) (.i3 .nil)))) ?_));refine Y4 (Ys ?_);have⟨g8,H⟩:=Yh H;refine OpsW.sz 3 [8,7,0,1,2] ((8,.j (v3+1))::(7,.rsl 7 0 0 ((v2++[x6.1]).length))::(Z2e t1 t2)) ⟨g8,trivial⟩ (Y4 ?_);exact⟨(x6.2,v2++[x6.1],v3+1),H,(StC.mk (phi [(2000,some 2000),(7,some 7)]) (.o rfl (.i2 .nil) (.o rfl (CstL.ims _) .nil)) rfl (.cons (.r rfl) (.i2 (.cons (.s rfl) (.cons .im .nil)))))⟩
 refine AW.exit<|Y0 (OpsW.sg 2 [6] [(6,.rsl 7 0 0 v2.length)] ?_);refine OpsW.rc [(6,slA (eL Y5) v2)] (Z2f v1) (StC.mk phm (.o rfl (.i2 .nil) .nil) rfl (.cons (.frz rfl rfl rfl (frz_all (eL Y5) 1 (fun _=>rfl) v2) (Y1n (eL Y5) 1 (fun _=>rfl) v2) (phi_ne rfl)) .nil)) (Y4 ?_);obtain rfl:=X8 H;refine Y00 ?_;show ∃en' hp',StC _ _ en' hp'∧Done _ _ _ .ret en' hp';refine⟨[(6,slA (eL Y5) v2)],(Z2f v1),(StC.mk phm (.o rfl (.i2 .nil) .nil) rfl (.cons .im .nil)), ?_⟩;refine Y1r rfl (.tmp .nil) ?_;exact⟨by kernel_rfl,by kernel_rfl⟩
mutual
def Y1x:Nat→Ya→Int→Int→Option ((List Y2)×Ya)
 |0,_,_,_=>none
 |n+1,t0,t1,t2=>Y3f (Y1x n) (Y2y n) t0 t1 t2
def Y2y:Nat→Ya→Int→Int→Option ((List (List Y2))×Ya)
 |0,_,_,_=>none
 |n+1,t0,t1,t2=>Y4i (Y1x n) (Y2y n) t0 t1 t2
end
theorem f_R09_maker_tree_all:∀n:Nat,(∀(t0:Ya) (t1:Int) (t2:Int) (r:(List Y2)×Ya),Y1x n t0 t1 t2=some r→Abs.Spec Tryd.prog 27 [.ref 2000 0 0,.int .i64 t1,.int .i64 t2] [bxm t0] (fun x h=>x=slA Y5 r.1∧h=[bxm r.2]))∧(∀(t0:Ya) (t1:Int) (t2:Int) (r:(List (List Y2))×Ya),Y2y n t0 t1 t2=some r→Abs.Spec Tryd.prog 42 [.ref 2000 0 0,.int .i64 t1,.int .i64 t2] [bxm t0] (fun x h=>x=slA (eL Y5) r.1∧h=[bxm r.2]))∧True
 |0=>by
  refine⟨?_, ?_,trivial⟩
  ·intro t0 t1 t2 r H;rw[Y1x] at H;cases H
  ·intro t0 t1 t2 r H;rw[Y2y] at H;cases H
 |n+1=>by
  have ih:=f_R09_maker_tree_all n;refine⟨?_, ?_,trivial⟩
  ·intro t0 t1 t2 r H;rw[Y1x] at H;exact f_R09_maker_tree_body_io ih.1 ih.2.1 H
  ·intro t0 t1 t2 r H;rw[Y2y] at H;exact f_R09_maker_some_body_io ih.1 ih.2.1 H
def f_R09_maker_tree (t0:Ya) (t1:Int) (t2:Int):Option ((List Y2)×Ya):=Y1x 1000000 t0 t1 t2
theorem f_R09_maker_tree_io{t0:Ya}{t1:Int}{t2:Int}{r:(List Y2)×Ya}(H:f_R09_maker_tree t0 t1 t2=some r):Abs.Spec Tryd.prog 27 [.ref 2000 0 0,.int .i64 t1,.int .i64 t2] [bxm t0] (fun x h=>x=slA Y5 r.1∧h=[bxm r.2]):=
 (f_R09_maker_tree_all 1000000).1 t0 t1 t2 r H
def f_R09_Made (t0:List Int):Option (List Y2):=
 G (0≤(if(40:Int)<(t0.length:Int) then(40:Int) else(t0.length:Int))∧(if(40:Int)<(t0.length:Int) then(40:Int) else(t0.length:Int))≤(t0.length:Int))<|
 (f_R09_maker_tree (⟨t0.take ((if(40:Int)<(t0.length:Int) then(40:Int) else(t0.length:Int)).toNat),(0:Int)⟩:Ya) (5:Int) (1:Int)).bind fun x2=>
 (Y44 x2.1).bind fun x3=>
 cond (!x3) (
  some [(⟨(1:Int),(0:Int)⟩:Y2)]) (
  some x2.1)
section
variable (t0:List Int)
abbrev Z2k:=(t0.take ((if(40:Int)<(t0.length:Int) then(40:Int) else(t0.length:Int)).toNat))
abbrev Z2l:=(⟨(1:Int),(0:Int)⟩:Y2)
abbrev Z2j:Hp:=[(3,⟨0,true,51,2,[sU (Z2k t0),.j (0:Int)]⟩)]
end
theorem f_R09_Made_ok{t0:List Int}{r:List Y2}(H:f_R09_Made t0=some r):QSpec Tryd.prog 11 [slA (eI .u8) t0] (slA Y5 r):=by
 refine Yv Tryd.func11 rfl (by simp[Tryd.ntmps11]) ?_;rw[Tryd.ntmps11];unfold f_R09_Made at H;change AW _ _ _ [(0,sU t0)] [] _;refine Y0 (OpsW.sg 1 [0] [(0,sU t0)] ?_);refine Y4 (Y0 (OpsW.sg 4 [8,5] [(8,.j (if(40:Int)<(t0.length:Int) then(40:Int) else(t0.length:Int))),(5,sU t0)] ?_));have⟨g1,H⟩:=Yh H;refine OpsW.asU (sU (Z2k t0)) rfl rfl (T.slice' rfl trivial trivial trivial (by kernel_rfl) (by kernel_rfl) g1 trivial (sl_hi (eI .u8) 1 (fun _=>rfl) t0 (if(40:Int)<(t0.length:Int) then(40:Int) else(t0.length:Int)) g1)) (OpsW.sg 1 [10] [(10,.agg [sU (Z2k t0),.j (0:Int)])] (OpsW.box rfl rfl rfl 11 rfl (Y0o (by kernel_rfl)) ?_));change OpsW _ _ _ _ _ [(11,⟨0,true,51,2,[sU (Z2k t0),.j (0:Int)]⟩)] _;refine OpsW.sg 1 [3] [(3,.ref 11 0 0)] (OpsW.rc [(3,.ref 3 0 0)] (Z2j t0) (StC.mk (phi [(3,some 11)]) (.o rfl (.i2 .nil) .nil) rfl (.cons (.r rfl) .nil)) ?_);refine Y4 (Y0 (OpsW.sg 1 [12] [(12,.ref 3 0 0)] ?_));have⟨x2,hx2,H⟩:=Y0b H;refine Y1e (Z2j t0) [] [(2000,⟨0,true,51,2,[sU (Z2k t0),.j (0:Int)]⟩)] (phi [(2000,some 3)]) rfl (f_R09_maker_tree_io hx2) (.cons (.r rfl) (.i2 .nil)) (.b (.i2 .nil) .nil) (slA Y5 x2.1) [(3,⟨0,true,51,2,[sU x2.2.B,.j x2.2.At]⟩)] (phi [(3,some 2000)]) (.b (.i2 .nil) .nil) (.cons .im .nil)<|OpsW.sg 1 [4] [(4,slA Y5 x2.1)] (OpsW.rc [(4,slA Y5 x2.1)] [] (StC.pure (.cons .im .nil)) ?_);refine Y4 (Y0a (Y0 (OpsW.sg 1 [14,4] [(14,slA Y5 x2.1),(4,slA Y5 x2.1)] ?_)))
 have⟨x3,hx3,H⟩:=Y0b H;refine Y0w rfl (.cons (.pur rfl) .nil) (f_R09_Valid_ok hx3) (OpsW.sg 1 [16,4] [(16,.bool (!x3)),(4,slA Y5 x2.1)] (Y4 (Yd (b:= !x3) H rfl (fun c4 H=> ?_) (fun c4 H=> ?_))))
 ·refine Y0 (OpsW.sg 1 [17] [(17,.agg [.j (1:Int),.j (0:Int)])] ?_);refine OpsW.buildTI (enc:=Y5) [Z2l] rfl rfl rfl E23 (fun _=>rfl) (by decide) ⟨trivial,by kernel_rfl,by kernel_rfl,by kernel_rfl,rfl⟩ (OpsW.sg 1 [2] [(2,slA Y5 [Z2l])] (Y4 ?_));obtain rfl:=X8 H;refine AW.recast (env':=[(2,slA Y5 [Z2l])]) (h':=[]) (StC.pure (.cons .im .nil)) (Y00 ?_)
  try simp only[Ex.t,Ex.b]
  exact Done.eq rfl (.tmp .nil)
 refine Yi (Y0 (OpsW.sg 2 [2] [(2,slA Y5 x2.1)] ?_));refine Y4 ?_;obtain rfl:=X8 H;refine AW.recast (env':=[(2,slA Y5 x2.1)]) (h':=[]) (StC.pure (.cons .im .nil)) (Y00 ?_)
 try simp only[Ex.t,Ex.b]
 exact Done.eq rfl (.tmp .nil)
def f_formula_arity_k1:Option (Int×Bool):=
 some ((0:Int),false)
def Y2g (t0:Y2) (v5:Bool):Option (Int×Bool):=
 cond v5 (
  some ((1:Int),t0.N==0)) (
  cond (t0.Op==12) (
   cond (cond (decide (t0.N<2)) true (decide (5<t0.N))) (
    some ((0:Int),false)) (
    G (inR (t0.N+1))<|
    some (t0.N+1,true))) (
   cond (t0.Op==13) (
    cond (decide (t0.N<0)) (
     some ((0:Int),false)) (
     G (inR (Int.tdiv t0.N (8:Int)))<|
     G (inR ((Int.tdiv t0.N (8:Int))*(Int.tmod t0.N (8:Int))))<|
     some ((Int.tdiv t0.N (8:Int))*(Int.tmod t0.N (8:Int)),cond (cond (cond (decide ((1:Int)≤(Int.tdiv t0.N (8:Int)))) (decide ((Int.tdiv t0.N (8:Int))≤4)) false) (decide ((1:Int)≤(Int.tmod t0.N (8:Int)))) false) (decide ((Int.tmod t0.N (8:Int))≤4)) false))) (
    f_formula_arity_k1)))
def Y0p (t0:Y2) (v3:Bool):Option (Int×Bool):=
 cond v3 (
  some ((2:Int),t0.N==0)) (
  cond (t0.Op==9) (
   Y2g t0 (t0.Op==9)) (
   cond (t0.Op==10) (
    Y2g t0 (t0.Op==10)) (
    Y2g t0 (t0.Op==11))))
def Y2x (t0:Y2):Option (Int×Bool):=
 cond (t0.Op==0) (
  some ((0:Int),cond (decide (0≤t0.N)) (decide (t0.N≤99999)) false)) (
  cond (t0.Op==1) (
   some ((0:Int),cond (decide (0≤t0.N)) (decide (t0.N≤25)) false)) (
   cond (t0.Op==2) (
    Y0p t0 (t0.Op==2)) (
    cond (t0.Op==3) (
     Y0p t0 (t0.Op==3)) (
     cond (t0.Op==4) (
      Y0p t0 (t0.Op==4)) (
      cond (t0.Op==5) (
       Y0p t0 (t0.Op==5)) (
       cond (t0.Op==6) (
        Y0p t0 (t0.Op==6)) (
        cond (t0.Op==7) (
         Y0p t0 (t0.Op==7)) (
         Y0p t0 (t0.Op==8)))))))))
def f_formula_precedence_k1:Option Int:=
 some (4:Int)
def Y50 (t0:Int) (v2:Bool):Option Int:=
 cond v2 (
  some (2:Int)) (
  cond (t0==4) (
   some (3:Int)) (
   f_formula_precedence_k1))
def Y2z (t0:Int):Option Int:=
 cond (t0==5) (
  some (1:Int)) (
  cond (t0==2) (
   Y50 t0 (t0==2)) (
   Y50 t0 (t0==3)))
def f_formula_admits_k1:Option Bool:=
 some true
def Y42 (t0:Y2) (t1:Int) (t2:Y2) (v1:Bool):Option Bool:=
 cond v1 (
  cond (t1==0) (
   (Y2z t2.Op).bind fun x4=>
   (Y2z t0.Op).bind fun x5=>
   some (decide (x5≤x4))) (
   (Y2z t2.Op).bind fun x6=>
   (Y2z t0.Op).bind fun x7=>
   some (decide (x7<x6)))) (
  cond (t0.Op==12) (
   some (t2.Op==0)) (
   f_formula_admits_k1))
def f_formula_admits (t0:Y2) (t1:Int) (t2:Y2):Option Bool:=
 cond (t0.Op==2) (
  Y42 t0 t1 t2 (t0.Op==2)) (
  cond (t0.Op==3) (
   Y42 t0 t1 t2 (t0.Op==3)) (
   cond (t0.Op==4) (
    Y42 t0 t1 t2 (t0.Op==4)) (
    Y42 t0 t1 t2 (t0.Op==5))))
def Y01 (ra3:(List Y2)→Int→Option (Int×Int×Bool)) (t0:List Y2) (t1:Int) (x3:Int×Bool) (loop9:(Int×Int×Int)→Option (Int×Int×Bool)) (v6:Int) (v7:Int) (v8:Int):Option (Int×Int×Bool):=
 cond (decide (v8<x3.1)) (
  G ((!(decide ((t0.length:Int)≤v6)))=true→(0≤v6∧v6<(t0.length:Int)))<|
  (cond (!(decide ((t0.length:Int)≤v6))) (f_formula_admits (t0.getD t1.toNat Yf) v8 (t0.getD v6.toNat Yf)) (some false)).bind fun x12=>
  cond (cond (decide ((t0.length:Int)≤v6)) true (!x12)) (
   some ((0:Int),(0:Int),false)) (
   (ra3 t0 v6).bind fun x14=>
   cond (!x14.2.2) (
    some ((0:Int),(0:Int),false)) (
    G (inR (x14.2.1+1))<|
    G (inR (v8+1))<|
    loop9 (x14.1,(if(x14.2.1+1)>v7 then(x14.2.1+1) else v7),v8+1)))) (
  some (v6,v7,true))
def Y48 (ra3:(List Y2)→Int→Option (Int×Int×Bool)) (t0:List Y2) (t1:Int):Option (Int×Int×Bool):=
 cond (decide ((t0.length:Int)≤t1)) (
  some ((0:Int),(0:Int),false)) (
  G (0≤t1∧t1<(t0.length:Int))<|
  (Y2x (t0.getD t1.toNat Yf)).bind fun x3=>
  cond (!x3.2) (
   some ((0:Int),(0:Int),false)) (
   G (inR (t1+1))<|
   iter (fun loop (s:Int×Int×Int)=>Y01 ra3 t0 t1 x3 loop s.1 s.2.1 s.2.2) 1000000 (t1+1,(1:Int),(0:Int))))
def Yx:Nat→(List Y2)→Int→Option (Int×Int×Bool)
 |0,_,_=>none
 |n+1,t0,t1=>Y48 (Yx n) t0 t1
def Y63 (t0:List Y2) (t1:Int):Option (Int×Int×Bool):=Yx 1000000 t0 t1
def f_formula_Depth (t0:List Y2):Option Int:=
 cond (decide ((60:Int)<(t0.length:Int))) (
  some (0:Int)) (
  (Y63 t0 (0:Int)).bind fun x2=>
  cond (cond (cond (!x2.2.2) true (x2.1 !=(t0.length:Int))) true (decide (8<x2.2.1))) (
   some (0:Int)) (
   some x2.2.1))
def Y5t (t0:List Y2):Option Bool:=
 (f_formula_Depth t0).bind fun x1=>
 some (decide (0<x1))
end Go.Proofs.YtkgfbpbndmklnaaDoor
