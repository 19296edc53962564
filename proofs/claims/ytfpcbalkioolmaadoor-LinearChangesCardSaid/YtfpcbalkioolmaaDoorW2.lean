/- Own work. -/
import Derived.Test.YtfpcbalkioolmaaDoorW1
set_option linter.unusedSimpArgs false
set_option linter.unusedVariables false
set_option maxRecDepth 100000
namespace Go.Proofs.YtfpcbalkioolmaaDoor
open Go.Abs
def Y0a (v6:Yb) (v7:List Y4):Option ((List Y4)×Yb):=
 some (v7,v6)
def Y14 (x1:Int×Yb) (x36:Int×Yb) (loop41:(Yb×(List (List Y4))×Int)→Option ((List Y4)×Yb)) (v38:Yb) (v39:List (List Y4)) (v40:Int):Option ((List Y4)×Yb):=
 cond (decide (v40≤((2:Int)+(Int.tmod x36.1 (2:Int))))) (
  (Y2e v38).bind fun x43=>
  G (room 24 (v39.length+1))<|
  G (inR (v40+1))<|
  loop41 (x43.2,v39++[x43.1],v40+1)) (
  (Y2q (⟨Int.tmod x1.1 (14:Int),(2:Int)+(Int.tmod x36.1 (2:Int))⟩:Y4) v39).bind fun x46=>
  Y0a v38 x46)
def Y1i (ra1:Yb→Int→Int→Option ((List (List Y4))×Yb)) (t1:Int) (x1:Int×Yb) (v29:Yb) (v30:Bool):Option ((List Y4)×Yb):=
 cond v30 (
  G (inR (t1-1))<|
  (ra1 v29 (1:Int) (t1-1)).bind fun x33=>
  (Y2q (⟨Int.tmod x1.1 (14:Int),(0:Int)⟩:Y4) x33.1).bind fun x34=>
  Y0a x33.2 x34) (
  cond ((Int.tmod x1.1 (14:Int))==12) (
   (Y1c v29).bind fun x36=>
   G (inR ((2:Int)+(Int.tmod x36.1 (2:Int))))<|
   iter (fun loop (s:Yb×(List (List Y4))×Int)=>Y14 x1 x36 loop s.1 s.2.1 s.2.2) 1000000 (x36.2,([]:List (List Y4)),(0:Int))) (
   (Y1c v29).bind fun x47=>
   G (inR ((1:Int)+(Int.tmod x47.1 (2:Int))))<|
   (Y1c x47.2).bind fun x49=>
   G (inR ((1:Int)+(Int.tmod x49.1 (2:Int))))<|
   G (inR (8*((1:Int)+(Int.tmod x47.1 (2:Int)))))<|
   G (inR ((8*((1:Int)+(Int.tmod x47.1 (2:Int))))+((1:Int)+(Int.tmod x49.1 (2:Int)))))<|
   G (inR (((1:Int)+(Int.tmod x47.1 (2:Int)))*((1:Int)+(Int.tmod x49.1 (2:Int)))))<|
   G (inR (t1-1))<|
   (ra1 x49.2 (((1:Int)+(Int.tmod x47.1 (2:Int)))*((1:Int)+(Int.tmod x49.1 (2:Int)))) (t1-1)).bind fun x55=>
   (Y2q (⟨Int.tmod x1.1 (14:Int),(8*((1:Int)+(Int.tmod x47.1 (2:Int))))+((1:Int)+(Int.tmod x49.1 (2:Int)))⟩:Y4) x55.1).bind fun x56=>
   Y0a x55.2 x56))
def Y1h (ra1:Yb→Int→Int→Option ((List (List Y4))×Yb)) (t1:Int) (x1:Int×Yb) (v23:Yb) (v24:Bool):Option ((List Y4)×Yb):=
 cond v24 (
  G (inR (t1-1))<|
  (ra1 v23 (2:Int) (t1-1)).bind fun x27=>
  (Y2q (⟨Int.tmod x1.1 (14:Int),(0:Int)⟩:Y4) x27.1).bind fun x28=>
  Y0a x27.2 x28) (
  cond ((Int.tmod x1.1 (14:Int))==9) (
   Y1i ra1 t1 x1 v23 ((Int.tmod x1.1 (14:Int))==9)) (
   cond ((Int.tmod x1.1 (14:Int))==10) (
    Y1i ra1 t1 x1 v23 ((Int.tmod x1.1 (14:Int))==10)) (
    Y1i ra1 t1 x1 v23 ((Int.tmod x1.1 (14:Int))==11))))
def Y13 (ra2:Yb→Int→Int→Option ((List Y4)×Yb)) (ra1:Yb→Int→Int→Option ((List (List Y4))×Yb)) (t1:Int) (t2:Int) (x1:Int×Yb) (v12:Yb) (v13:Bool):Option ((List Y4)×Yb):=
 cond v13 (
  (Y30 (Int.tmod x1.1 (14:Int))).bind fun x15=>
  G (inR (t1-2))<|
  (ra2 v12 (t1-2) x15).bind fun x17=>
  G (inR (x15+1))<|
  (ra2 x17.2 (t1-2) (x15+1)).bind fun x19=>
  (Y2q (⟨Int.tmod x1.1 (14:Int),(0:Int)⟩:Y4) [x17.1,x19.1]).bind fun x20=>
  cond (decide (x15<t2)) (
   (Y2q (⟨(10:Int),(0:Int)⟩:Y4) [x20]).bind fun x22=>
   Y0a x19.2 x22) (
   Y0a x19.2 x20)) (
  cond ((Int.tmod x1.1 (14:Int))==6) (
   Y1h ra1 t1 x1 v12 ((Int.tmod x1.1 (14:Int))==6)) (
   cond ((Int.tmod x1.1 (14:Int))==7) (
    Y1h ra1 t1 x1 v12 ((Int.tmod x1.1 (14:Int))==7)) (
    Y1h ra1 t1 x1 v12 ((Int.tmod x1.1 (14:Int))==8))))
def Y37 (ra2:Yb→Int→Int→Option ((List Y4)×Yb)) (ra1:Yb→Int→Int→Option ((List (List Y4))×Yb)) (t0:Yb) (t1:Int) (t2:Int):Option ((List Y4)×Yb):=
 (Y1c t0).bind fun x1=>
 cond (cond (decide (t1<2)) true (cond (cond (decide (t1<3)) (decide ((Int.tmod x1.1 (14:Int))<6)) false) (decide ((1:Int)<(Int.tmod x1.1 (14:Int)))) false)) (
  cond ((Int.tmod (Int.tmod x1.1 (14:Int)) (2:Int))==1) (
   (Y1c x1.2).bind fun x4=>
   some ([(⟨(1:Int),Int.tmod x4.1 (26:Int)⟩:Y4)],x4.2)) (
   (Y2e x1.2).bind fun x5=>
   some (x5.1,x5.2))) (
  cond ((Int.tmod x1.1 (14:Int))==0) (
   (Y2e x1.2).bind fun x9=>
   some (x9.1,x9.2)) (
   cond ((Int.tmod x1.1 (14:Int))==1) (
    (Y1c x1.2).bind fun x11=>
    some ([(⟨(1:Int),Int.tmod x11.1 (26:Int)⟩:Y4)],x11.2)) (
    cond ((Int.tmod x1.1 (14:Int))==2) (
     Y13 ra2 ra1 t1 t2 x1 x1.2 ((Int.tmod x1.1 (14:Int))==2)) (
     cond ((Int.tmod x1.1 (14:Int))==3) (
      Y13 ra2 ra1 t1 t2 x1 x1.2 ((Int.tmod x1.1 (14:Int))==3)) (
      cond ((Int.tmod x1.1 (14:Int))==4) (
       Y13 ra2 ra1 t1 t2 x1 x1.2 ((Int.tmod x1.1 (14:Int))==4)) (
       Y13 ra2 ra1 t1 t2 x1 x1.2 ((Int.tmod x1.1 (14:Int))==5)))))))
section
variable (t0:Yb) (t1:Int) (t2:Int) (v12:Yb) (v23:Yb) (v29:Yb) (v38:Yb) (v39:List (List Y4)) (v40:Int) (x1:Int×Yb) (x4:(Int×Yb)) (x5:((List Y4)×Yb)) (x9:((List Y4)×Yb)) (x11:(Int×Yb)) (x15:Int) (x36:Int×Yb) (x47:(Int×Yb)) (x49:(Int×Yb))
abbrev Z24:=(Int.tmod x1.1 (14:Int))
abbrev Z25:=((2:Int)+(Int.tmod x36.1 (2:Int)))
abbrev Z26:Nat×AV:=(0,.ref 2000 0 0)
abbrev Z27:=((1:Int)+(Int.tmod x47.1 (2:Int)))
abbrev Z28:=([]:List (List Y4))
abbrev Z29:Nat×AV:=(7,.j (Z24 x1))
abbrev Z2a:=((1:Int)+(Int.tmod x49.1 (2:Int)))
abbrev Z2b:=(cond (cond (decide (t1<3)) (decide ((Z24 x1)<6)) false) (decide ((1:Int)<(Z24 x1))) false)
abbrev Z17:Env:=[(43,.j (Z24 x1)),(Z29 x1),Z26,(1,.j t1),(2,.j t2)]
abbrev Z18:Hp:=[bxm x1.2]
abbrev Z19:Env:=[(63,.j (t1-1)),(61,.j ((Z27 x47)*(Z2a x49))),(58,.ref 2000 0 0),(57,.agg [.j (Z24 x1),.j ((8*(Z27 x47))+(Z2a x49))])]
abbrev Z1a:Env:=[Z26,(Z29 x1),(10,.j (Z25 x36)),(11,.rsl 11 0 0 v39.length),(12,.j v40)]
abbrev Z1b:Env:=[Z26,(1,.j t1),(Z29 x1),(43,.j (Z24 x1))]
abbrev Z1c:Env:=[(Z29 x1)]
abbrev Z1d:Hp:=[bxm v29]
abbrev Z1e:Env:=[Z26,(1,.j t1),(2,.j t2)]
abbrev Z1f:Env:=(89,.j x15)::(88,.j (t1-2))::(86,.ref 2000 0 0)::(85,.agg [.j (Z24 x1),.j (0:Int)])::(9,.j x15)::(Z1e t1 t2)
abbrev Z1g:Env:=(48,.ref 2000 0 0)::(47,.j (Z27 x47))::Z26::(1,.j t1)::(Z1c x1)
abbrev Z1h:Env:=[(114,.j (t1-1)),(112,.ref 2000 0 0),(111,.agg [.j (Z24 x1),.j (0:Int)])]
abbrev Z1i:Env:=[(125,.j (t1-1)),(123,.ref 2000 0 0),(122,.agg [.j (Z24 x1),.j (0:Int)])]
abbrev Z1j:Hp:=[bxm x47.2]
abbrev Z1k:Hp:=[bxm x49.2]
abbrev Z1l:Hp:=[bxm t0]
abbrev Z1m:Env:=(10,.j (Z25 x36))::Z26::(Z1c x1)
abbrev Z1n:Env:=[(85,.agg [.j (Z24 x1),.j (0:Int)]),(9,.j x15),(2,.j t2)]
abbrev Z1o:Hp:=[bxm x11.2]
abbrev Z1p:Hp:=[bxm x4.2]
abbrev Z1q:Env:=[(6,slA Y7 [(⟨(1:Int),Int.tmod x4.1 (26:Int)⟩:Y4)])]
abbrev Z1r:Env:=[(6,slA Y7 [(⟨(1:Int),Int.tmod x11.1 (26:Int)⟩:Y4)])]
abbrev Z1s:Hp:=[bxm v12]
abbrev Z1t:Hp:=[bxm v23]
abbrev Z1u:Hp:=[bxm v38]
abbrev Z1v:Env:=Z26::(1,.j t1)::(Z1c x1)
abbrev Z1w:Env:=[Z26,(Z29 x1),(10,.j (Z25 x36)),(12,.j v40)]
abbrev Z1x:Env:=(141,.ref 2000 0 0)::(140,.rsl 11 0 0 v39.length)::(Z1a v39 v40 x1 x36)
abbrev Z1y:Hp:=[bxm x36.2]
abbrev Z1z:Hp:=[bxm x5.2]
abbrev Z20:Hp:=[bxm x9.2]
abbrev Z21:Env:=(130,.ref 2000 0 0)::Z26::(Z1c x1)
abbrev Z22:Env:=[(147,.agg [.j (Z24 x1),.j (Z25 x36)])]
abbrev Z23:Hp:=[(11,rtA 0 26 1 (eL Y7) v39)]
end
theorem f_R09_maker_tree_body_io{ra2:Yb→Int→Int→Option ((List Y4)×Yb)}{ra1:Yb→Int→Int→Option ((List (List Y4))×Yb)}(hra2:∀(t0:Yb) (t1:Int) (t2:Int) (r:(List Y4)×Yb),ra2 t0 t1 t2=some r→Abs.Spec Tryd.prog 21 [.ref 2000 0 0,.int .i64 t1,.int .i64 t2] [bxm t0] (fun x h=>x=slA Y7 r.1∧h=[bxm r.2]))(hra1:∀(t0:Yb) (t1:Int) (t2:Int) (r:(List (List Y4))×Yb),ra1 t0 t1 t2=some r→Abs.Spec Tryd.prog 38 [.ref 2000 0 0,.int .i64 t1,.int .i64 t2] [bxm t0] (fun x h=>x=slA (eL Y7) r.1∧h=[bxm r.2])){t0:Yb}{t1:Int}{t2:Int}{r:(List Y4)×Yb}(H:Y37 ra2 ra1 t0 t1 t2=some r):Abs.Spec Tryd.prog 21 [.ref 2000 0 0,.int .i64 t1,.int .i64 t2] [bxm t0] (fun x h=>x=slA Y7 r.1∧h=[bxm r.2]):=by
 refine Y01 Tryd.func21 rfl (by simp[Tryd.ntmps21]) ?_;rw[Tryd.ntmps21];unfold Y37 at H;change AW _ _ _ (Z1e t1 t2) (Z1l t0) _;refine Y56<|Y0 (OpsW.sg 1 [0,1,2] (Z1e t1 t2) ?_);refine Y2 (Y0 (OpsW.sg 1 [15,0,1,2] ((15,.ref 2000 0 0)::(Z1e t1 t2)) ?_));refine OpsW.rc ((15,.ref 2000 0 0)::(Z1e t1 t2)) (Z1l t0) (StC.mk phm (.o rfl (.i2 .nil) .nil) rfl (.cons (.r rfl) (.cons (.r rfl) (.i2 .nil)))) ?_;have⟨x1,hx1,H⟩:=Y0o H;refine Y16 (Z1l t0) [] (Z1l t0) phm rfl (Y22 hx1) (.cons (.r rfl) .nil) (.b (.i2 .nil) .nil) (.j x1.1) (Z18 x1) phm (.b (.i2 .nil) .nil) (.cons .im .nil)<|Yq 2 [7,0,1,2] ((Z29 x1)::(Z1e t1 t2)) ⟨(by decide),trivial⟩ ?_;refine Y2 (Y0g (Y0 (Yq 14 [31,7,0,1,2] ((31,.bool (cond (decide (t1<2)) true (Z2b t1 x1)))::(Z29 x1)::(Z1e t1 t2)) ⟨(fun h=>h),(fun h=>h),(fun h=>h),(fun h=>h),(fun h0 h=>by first|exact h|(simp[h0,h];done)|(simp at h0 h⊢;simp[h0,h];done)|(simp_all;done)|grind),(fun h=>h),(fun h=>h),(fun h=>h),(fun h0 h=>by first|exact h|(simp[h0,h];done)|(simp at h0 h⊢;simp[h0,h];done)|(simp_all;done)|grind),(fun h=>by first|exact h|(simpa using h)|grind),trivial⟩ ?_)));refine Y2 (Yd (b:=cond (decide (t1<2)) true (Z2b t1 x1)) H rfl (fun c2 H=> ?_) (fun c2 H=> ?_))
 ·refine Y0g (Y0 (Yq 3 [34,0] [(34,.bool ((Int.tmod (Z24 x1) (2:Int))==1)),Z26] ⟨(by decide),trivial⟩ ?_));refine Y2 (Yd (b:=(Int.tmod (Z24 x1) (2:Int))==1) H rfl (fun c3 H=> ?_) (fun c3 H=> ?_))
  ·refine Y0 (OpsW.sg 1 [35] [(35,.ref 2000 0 0)] ?_);have⟨x4,hx4,H⟩:=Y0o H;refine Y16 (Z18 x1) [] (Z18 x1) phm rfl (Y22 hx4) (.cons (.r rfl) .nil) (.b (.i2 .nil) .nil) (.j x4.1) (Z1p x4) phm (.b (.i2 .nil) .nil) (.cons .im .nil) ?_;refine Yq 2 [38] [(38,.agg [.j (1:Int),.j (Int.tmod x4.1 (26:Int))])] ⟨(by decide),trivial⟩ (OpsW.buildTI (enc:=Y7) [(⟨(1:Int),Int.tmod x4.1 (26:Int)⟩:Y4)] rfl rfl rfl E26 (fun _=>rfl) (by decide) ⟨trivial,by kernel_rfl,by kernel_rfl,by kernel_rfl,rfl⟩ (OpsW.sg 1 [6] (Z1q x4) (OpsW.rc (Z1q x4) (Z1p x4) (StC.mk phm (.o rfl (.i2 .nil) .nil) rfl (.cons .im .nil)) (Y2 ?_))));obtain rfl:=X6 H;refine Y03 ?_;show ∃en' hp',StC _ _ en' hp'∧Done _ _ _ .ret en' hp';refine⟨(Z1q x4),(Z1p x4),(StC.mk phm (.o rfl (.i2 .nil) .nil) rfl (.cons .im .nil)), ?_⟩;refine Y5t rfl (.tmp .nil) ?_;exact⟨by kernel_rfl,by kernel_rfl⟩
  refine Ym (Y0 (OpsW.sg 1 [40] [(40,.ref 2000 0 0)] ?_));have⟨x5,hx5,H⟩:=Y0o H;refine Y16 (Z18 x1) [] (Z18 x1) phm rfl (Y5k hx5) (.cons (.r rfl) .nil) (.b (.i2 .nil) .nil) (slA Y7 x5.1) (Z1z x5) phm (.b (.i2 .nil) .nil) (.cons .im .nil)<|OpsW.sg 1 [6] [(6,slA Y7 x5.1)] (Y2 ?_);obtain rfl:=X6 H;refine Y03 ?_;show ∃en' hp',StC _ _ en' hp'∧Done _ _ _ .ret en' hp';refine⟨[(6,slA Y7 x5.1)],(Z1z x5),(StC.mk phm (.o rfl (.i2 .nil) .nil) rfl (.cons .im .nil)), ?_⟩;refine Y5t rfl (.tmp .nil) ?_;exact⟨by kernel_rfl,by kernel_rfl⟩
 refine Ym (Y0 (OpsW.buildTI (enc:=Y7) ([]:List Y4) rfl rfl rfl E26 (fun _=>rfl) (by decide) ⟨trivial,by kernel_rfl,by kernel_rfl,by kernel_rfl,rfl⟩ ?_));refine OpsW.sg 1 [7,0,1,2] ((Z29 x1)::(Z1e t1 t2)) (Y2 ?_);refine Y20 (fun(y:Yb×(List Y4))=>Y0a y.1 y.2) r (fun(y:Yb×(List Y4))=>[(8,slA Y7 y.2)]) (fun(y:Yb×(List Y4))=>[bxm y.1]) ?_ ?_
 ·refine Y0 (OpsW.sg 1 [43,7,0,1,2] (Z17 t1 t2 x1) ?_);refine Y2 (Y0f (Y0 (OpsW.sg 2 [66,43,7,0,1,2] ((66,.bool ((Z24 x1)==0))::(Z17 t1 t2 x1)) ?_)));refine Y2 (Yd (b:=(Z24 x1)==0) H rfl (fun c8 H=> ?_) (fun c8 H=> ?_))
  ·refine Y0 (OpsW.sg 1 [68] [(68,.ref 2000 0 0)] ?_);have⟨x9,hx9,H⟩:=Y0o H;refine Y16 (Z18 x1) [] (Z18 x1) phm rfl (Y5k hx9) (.cons (.r rfl) .nil) (.b (.i2 .nil) .nil) (slA Y7 x9.1) (Z20 x9) phm (.b (.i2 .nil) .nil) (.cons .im .nil)<|OpsW.sg 1 [6] [(6,slA Y7 x9.1)] (Y2 ?_);obtain rfl:=X6 H;refine Y03 ?_;show ∃en' hp',StC _ _ en' hp'∧Done _ _ _ .ret en' hp';refine⟨[(6,slA Y7 x9.1)],(Z20 x9),(StC.mk phm (.o rfl (.i2 .nil) .nil) rfl (.cons .im .nil)), ?_⟩;refine Y5t rfl (.tmp .nil) ?_;exact⟨by kernel_rfl,by kernel_rfl⟩
  refine Y0 (OpsW.sg 2 [70,43,7,0,1,2] ((70,.bool ((Z24 x1)==1))::(Z17 t1 t2 x1)) ?_);refine Y2 (Yd (b:=(Z24 x1)==1) H rfl (fun c10 H=> ?_) (fun c10 H=> ?_))
  ·refine Y0 (OpsW.sg 1 [72] [(72,.ref 2000 0 0)] ?_);have⟨x11,hx11,H⟩:=Y0o H;refine Y16 (Z18 x1) [] (Z18 x1) phm rfl (Y22 hx11) (.cons (.r rfl) .nil) (.b (.i2 .nil) .nil) (.j x11.1) (Z1o x11) phm (.b (.i2 .nil) .nil) (.cons .im .nil) ?_;refine Yq 2 [75] [(75,.agg [.j (1:Int),.j (Int.tmod x11.1 (26:Int))])] ⟨(by decide),trivial⟩ (OpsW.buildTI (enc:=Y7) [(⟨(1:Int),Int.tmod x11.1 (26:Int)⟩:Y4)] rfl rfl rfl E26 (fun _=>rfl) (by decide) ⟨trivial,by kernel_rfl,by kernel_rfl,by kernel_rfl,rfl⟩ (OpsW.sg 1 [6] (Z1r x11) (OpsW.rc (Z1r x11) (Z1o x11) (StC.mk phm (.o rfl (.i2 .nil) .nil) rfl (.cons .im .nil)) (Y2 ?_))));obtain rfl:=X6 H;refine Y03 ?_;show ∃en' hp',StC _ _ en' hp'∧Done _ _ _ .ret en' hp';refine⟨(Z1r x11),(Z1o x11),(StC.mk phm (.o rfl (.i2 .nil) .nil) rfl (.cons .im .nil)), ?_⟩;refine Y5t rfl (.tmp .nil) ?_;exact⟨by kernel_rfl,by kernel_rfl⟩
  refine Y20 (fun(y:Yb×Bool)=>Y13 ra2 ra1 t1 t2 x1 y.1 y.2) r (fun(y:Yb×Bool)=>[Z26,(1,.j t1),(2,.j t2),(Z29 x1),(43,.j (Z24 x1)),(77,.bool y.2)]) (fun(y:Yb×Bool)=>[bxm y.1]) ?_ ?_
  ·refine Y0 (OpsW.sg 2 [77,43,7,0,1,2] ((77,.bool ((Z24 x1)==2))::(Z17 t1 t2 x1)) ?_);refine Y2 (Yd (b:=(Z24 x1)==2) H rfl (fun c61 H=> ?_) (fun c61 H=> ?_))
   ·refine Ym ?_;exact⟨(x1.2,(Z24 x1)==2),H,(StC.mk phm (.o rfl (.i2 .nil) .nil) rfl (.cons (.r rfl) (.i5 .nil)))⟩
   refine Y0 (OpsW.sg 2 [77,43,7,0,1,2] ((77,.bool ((Z24 x1)==3))::(Z17 t1 t2 x1)) ?_);refine Y2 (Yd (b:=(Z24 x1)==3) H rfl (fun c62 H=> ?_) (fun c62 H=> ?_))
   ·refine Ym ?_;exact⟨(x1.2,(Z24 x1)==3),H,(StC.mk phm (.o rfl (.i2 .nil) .nil) rfl (.cons (.r rfl) (.i5 .nil)))⟩
   refine Y0 (OpsW.sg 2 [77,43,7,0,1,2] ((77,.bool ((Z24 x1)==4))::(Z17 t1 t2 x1)) ?_);refine Y2 (Yd (b:=(Z24 x1)==4) H rfl (fun c63 H=> ?_) (fun c63 H=> ?_))
   ·refine Ym ?_;exact⟨(x1.2,(Z24 x1)==4),H,(StC.mk phm (.o rfl (.i2 .nil) .nil) rfl (.cons (.r rfl) (.i5 .nil)))⟩
   refine Yo (OpsW.sg 2 [77,43,7,0,1,2] ((77,.bool ((Z24 x1)==5))::(Z17 t1 t2 x1)) ?_);refine Y2 ?_;exact⟨(x1.2,(Z24 x1)==5),H,(StC.mk phm (.o rfl (.i2 .nil) .nil) rfl (.cons (.r rfl) (.i5 .nil)))⟩
  rintro⟨v12,v13⟩ H;unfold Y13 at H;change AW _ _ _ [Z26,(1,.j t1),(2,.j t2),(Z29 x1),(43,.j (Z24 x1)),(77,.bool v13)] (Z1s v12) _;refine Yd (b:=v13) H rfl (fun c14 H=> ?_) (fun c14 H=> ?_)
  ·refine Y0 (OpsW.sg 1 [82,0,1,2,7] ((82,.j (Z24 x1))::Z26::(1,.j t1)::(2,.j t2)::(Z1c x1)) ?_);have⟨x15,hx15,H⟩:=Y0o H;refine Y1m rfl (.cons (.pur rfl) .nil) (Y4s hx15) (OpsW.sg 1 [9,0,1,2,7] ((9,.j x15)::Z26::(1,.j t1)::(2,.j t2)::(Z1c x1)) ?_);refine Y2 (Y0 ?_);have⟨g16,H⟩:=Yx H;refine Yq 6 [89,88,86,85,9,0,1,2] (Z1f t1 t2 x1 x15) ⟨g16,trivial⟩ ?_;have⟨x17,hx17,H⟩:=Y0o H;refine Y16 (Z1s v12) [] (Z1s v12) phm rfl (hra2 _ _ _ _ hx17) (.cons (.r rfl) (.i2 .nil)) (.b (.i2 .nil) .nil) (slA Y7 x17.1) [bxm x17.2] phm (.b (.i2 .nil) .nil) (.cons .im .nil) ?_;have⟨g18,H⟩:=Yx H;refine Yq 5 [95,93,91,90,85,9,2] ((95,.j (x15+1))::(93,.j (t1-2))::(91,.ref 2000 0 0)::(90,slA Y7 x17.1)::(Z1n t2 x1 x15)) ⟨g16,g18,trivial⟩ ?_;have⟨x19,hx19,H⟩:=Y0o H;refine Y16 [bxm x17.2] [] [bxm x17.2] phm rfl (hra2 _ _ _ _ hx19) (.cons (.r rfl) (.i2 .nil)) (.b (.i2 .nil) .nil) (slA Y7 x19.1) [bxm x19.2] phm (.b (.i2 .nil) .nil) (.cons .im .nil)<|OpsW.buildTI (enc:=eL Y7) [x17.1,x19.1] rfl rfl rfl E78 (fun _=>rfl) (by decide) ⟨trivial,by kernel_rfl,by kernel_rfl,by kernel_rfl,rfl⟩ ?_;have⟨x20,hx20,H⟩:=Y0o H;refine Y1m rfl (.cons (.pur rfl) (.cons (.pur rfl) .nil)) (Y4j hx20) (OpsW.sg 1 [8,9,2] [(8,slA Y7 x20),(9,.j x15),(2,.j t2)] (OpsW.rc [(8,slA Y7 x20),(9,.j x15),(2,.j t2)] [bxm x19.2] (StC.mk phm (.o rfl (.i2 .nil) .nil) rfl (.i3 .nil)) ?_))
   refine Y2 (Y0 (OpsW.sg 3 [101,8] [(101,.bool (decide (x15<t2))),(8,slA Y7 x20)] ?_));refine Y2 (Yd (b:=decide (x15<t2)) H rfl (fun c21 H=> ?_) (fun c21 H=> ?_))
   ·refine Yo (OpsW.sg 2 [103,102,8] [(103,slA Y7 x20),(102,.agg [.j (10:Int),.j (0:Int)]),(8,slA Y7 x20)] ?_);refine OpsW.buildTI (enc:=eL Y7) [x20] rfl rfl rfl E78 (fun _=>rfl) (by decide) ⟨trivial,by kernel_rfl,by kernel_rfl,by kernel_rfl,rfl⟩ ?_;have⟨x22,hx22,H⟩:=Y0o H;refine Y1m rfl (.cons (.pur rfl) (.cons (.pur rfl) .nil)) (Y4j hx22) (OpsW.sg 1 [8] [(8,slA Y7 x22)] (Y2 ?_));exact⟨(x19.2,x22),H,(StC.mk phm (.o rfl (.i2 .nil) .nil) rfl (.cons .im .nil))⟩
   refine Ym ?_;exact⟨(x19.2,x20),H,(StC.mk phm (.o rfl (.i2 .nil) .nil) rfl (.cons .im .nil))⟩
  refine Y20 (fun(y:Yb×Bool)=>Y1h ra1 t1 x1 y.1 y.2) r (fun(y:Yb×Bool)=>[Z26,(1,.j t1),(Z29 x1),(43,.j (Z24 x1)),(106,.bool y.2)]) (fun(y:Yb×Bool)=>[bxm y.1]) ?_ ?_
  ·refine Y0 (OpsW.sg 2 [106,0,1,7,43] ((106,.bool ((Z24 x1)==6))::(Z1b t1 x1)) ?_);refine Y2 (Yd (b:=(Z24 x1)==6) H rfl (fun c59 H=> ?_) (fun c59 H=> ?_))
   ·refine Ym ?_;exact⟨(v12,(Z24 x1)==6),H,(StC.mk phm (.o rfl (.i2 .nil) .nil) rfl (.cons (.r rfl) (.i4 .nil)))⟩
   refine Y0 (OpsW.sg 2 [106,0,1,7,43] ((106,.bool ((Z24 x1)==7))::(Z1b t1 x1)) ?_);refine Y2 (Yd (b:=(Z24 x1)==7) H rfl (fun c60 H=> ?_) (fun c60 H=> ?_))
   ·refine Ym ?_;exact⟨(v12,(Z24 x1)==7),H,(StC.mk phm (.o rfl (.i2 .nil) .nil) rfl (.cons (.r rfl) (.i4 .nil)))⟩
   refine Yo (OpsW.sg 2 [106,0,1,7,43] ((106,.bool ((Z24 x1)==8))::(Z1b t1 x1)) ?_);refine Y2 ?_;exact⟨(v12,(Z24 x1)==8),H,(StC.mk phm (.o rfl (.i2 .nil) .nil) rfl (.cons (.r rfl) (.i4 .nil)))⟩
  rintro⟨v23,v24⟩ H;unfold Y1h at H;change AW _ _ _ [Z26,(1,.j t1),(Z29 x1),(43,.j (Z24 x1)),(106,.bool v24)] (Z1t v23) _;refine Yd (b:=v24) H rfl (fun c25 H=> ?_) (fun c25 H=> ?_)
  ·refine Yo ?_;have⟨g26,H⟩:=Yx H;refine Yq 5 [114,112,111] (Z1h t1 x1) ⟨g26,trivial⟩ ?_;have⟨x27,hx27,H⟩:=Y0o H;refine Y16 (Z1t v23) [] (Z1t v23) phm rfl (hra1 _ _ _ _ hx27) (.cons (.r rfl) (.i2 .nil)) (.b (.i2 .nil) .nil) (slA (eL Y7) x27.1) [bxm x27.2] phm (.b (.i2 .nil) .nil) (.cons .im .nil) ?_;have⟨x28,hx28,H⟩:=Y0o H;refine Y1m rfl (.cons (.pur rfl) (.cons (.pur rfl) .nil)) (Y4j hx28) (OpsW.sg 1 [8] [(8,slA Y7 x28)] (Y2 ?_));exact⟨(x27.2,x28),H,(StC.mk phm (.o rfl (.i2 .nil) .nil) rfl (.cons .im .nil))⟩
  refine Y20 (fun(y:Yb×Bool)=>Y1i ra1 t1 x1 y.1 y.2) r (fun(y:Yb×Bool)=>[Z26,(1,.j t1),(Z29 x1),(43,.j (Z24 x1)),(117,.bool y.2)]) (fun(y:Yb×Bool)=>[bxm y.1]) ?_ ?_
  ·refine Y0 (OpsW.sg 2 [117,0,1,7,43] ((117,.bool ((Z24 x1)==9))::(Z1b t1 x1)) ?_);refine Y2 (Yd (b:=(Z24 x1)==9) H rfl (fun c57 H=> ?_) (fun c57 H=> ?_))
   ·refine Ym ?_;exact⟨(v23,(Z24 x1)==9),H,(StC.mk phm (.o rfl (.i2 .nil) .nil) rfl (.cons (.r rfl) (.i4 .nil)))⟩
   refine Y0 (OpsW.sg 2 [117,0,1,7,43] ((117,.bool ((Z24 x1)==10))::(Z1b t1 x1)) ?_);refine Y2 (Yd (b:=(Z24 x1)==10) H rfl (fun c58 H=> ?_) (fun c58 H=> ?_))
   ·refine Ym ?_;exact⟨(v23,(Z24 x1)==10),H,(StC.mk phm (.o rfl (.i2 .nil) .nil) rfl (.cons (.r rfl) (.i4 .nil)))⟩
   refine Yo (OpsW.sg 2 [117,0,1,7,43] ((117,.bool ((Z24 x1)==11))::(Z1b t1 x1)) ?_);refine Y2 ?_;exact⟨(v23,(Z24 x1)==11),H,(StC.mk phm (.o rfl (.i2 .nil) .nil) rfl (.cons (.r rfl) (.i4 .nil)))⟩
  rintro⟨v29,v30⟩ H;unfold Y1i at H;change AW _ _ _ [Z26,(1,.j t1),(Z29 x1),(43,.j (Z24 x1)),(117,.bool v30)] (Z1d v29) _;refine Yd (b:=v30) H rfl (fun c31 H=> ?_) (fun c31 H=> ?_)
  ·refine Yo ?_;have⟨g32,H⟩:=Yx H;refine Yq 5 [125,123,122] (Z1i t1 x1) ⟨g32,trivial⟩ ?_;have⟨x33,hx33,H⟩:=Y0o H;refine Y16 (Z1d v29) [] (Z1d v29) phm rfl (hra1 _ _ _ _ hx33) (.cons (.r rfl) (.i2 .nil)) (.b (.i2 .nil) .nil) (slA (eL Y7) x33.1) [bxm x33.2] phm (.b (.i2 .nil) .nil) (.cons .im .nil) ?_;have⟨x34,hx34,H⟩:=Y0o H;refine Y1m rfl (.cons (.pur rfl) (.cons (.pur rfl) .nil)) (Y4j hx34) (OpsW.sg 1 [8] [(8,slA Y7 x34)] (Y2 ?_));exact⟨(x33.2,x34),H,(StC.mk phm (.o rfl (.i2 .nil) .nil) rfl (.cons .im .nil))⟩
  refine Y0 (OpsW.sg 2 [128,0,1,7] ((128,.bool ((Z24 x1)==12))::(Z1v t1 x1)) ?_);refine Y2 (Yd (b:=(Z24 x1)==12) H rfl (fun c35 H=> ?_) (fun c35 H=> ?_))
  ·refine Y0 (OpsW.sg 1 [130,0,7] (Z21 x1) ?_);have⟨x36,hx36,H⟩:=Y0o H;refine Y16 (Z1d v29) [] (Z1d v29) phm rfl (Y22 hx36) (.cons (.r rfl) .nil) (.b (.i2 .nil) .nil) (.j x36.1) (Z1y x36) phm (.b (.i2 .nil) .nil) (.cons .im .nil) ?_;have⟨g37,H⟩:=Yx H;refine Yq 2 [133,0,7] ((133,.j (Z25 x36))::Z26::(Z1c x1)) ⟨(by decide),g37,trivial⟩ (Y5m (enc:=eL Y7) Z28 rfl rfl rfl 134 rfl E78 (fun _=>rfl) (by decide) trivial (by kernel_rfl) (by kernel_rfl) (by kernel_rfl) rfl (OpsW.sg 2 [11,10,0,7] ((11,.rsl 134 0 0 (Z28.length))::(Z1m x1 x36)) (OpsW.rc ((11,.rsl 11 0 0 (Z28.length))::(Z1m x1 x36)) ((11,rtA 0 26 1 (eL Y7) Z28)::(Z1y x36)) (StC.mk (phi [(11,some 134),(2000,some 2000)]) (.o rfl (CstL.ims _) (.o rfl (.i2 .nil) .nil)) rfl (.cons (.s rfl) (.cons .im (.cons (.r rfl) (.cons .im .nil))))) ?_)));refine Y2 (Y0g (Y0 (OpsW.sg 1 [12,11,10,0,7] ((12,.j (0:Int))::(11,.rsl 11 0 0 (Z28.length))::(Z1m x1 x36)) ?_)));refine Y2 (Y0f ?_);refine Y4f (fun loop (s:Yb×(List (List Y4))×Int)=>Y14 x1 x36 loop s.1 s.2.1 s.2.2) r (fun(s:Yb×(List (List Y4))×Int)=>[Z26,(Z29 x1),(10,.j (Z25 x36)),(11,.rsl 11 0 0 s.2.1.length),(12,.j s.2.2)]) (fun(s:Yb×(List (List Y4))×Int)=>[bxm s.1,(11,rtA 0 26 1 (eL Y7) s.2.1)]) ?_ 1000000 (x36.2,Z28,(0:Int)) H (StC.mk (phi [(2000,some 2000),(11,some 11)]) (.o rfl (.i2 .nil) (.o rfl (CstL.ims _) .nil)) rfl (.cons (.r rfl) (.i2 (.cons (.s rfl) (.cons .im .nil)))))
   intro loop41 s H;have⟨v38,v39,v40⟩:=s;unfold Y14 at H;change AW _ _ _ (Z1a v39 v40 x1 x36) (bxm v38::(Z23 v39)) _;refine Y0g (Y0 (OpsW.sg 3 [137,0,7,10,11,12] ((137,.bool (decide (v40≤(Z25 x36))))::(Z1a v39 v40 x1 x36)) ?_));refine Y2 (Yd (b:=decide (v40≤(Z25 x36))) H rfl (fun c42 H=> ?_) (fun c42 H=> ?_))
   ·refine Ym (Y0g (Y0f (Yo (OpsW.sg 2 [141,140,0,7,10,11,12] (Z1x v39 v40 x1 x36) ?_))));have⟨x43,hx43,H⟩:=Y0o H;refine Y16 (Z1u v38) (Z23 v39) (Z1u v38) phm rfl (Y5k hx43) (.cons (.r rfl) .nil) (.b (.i2 .nil) .nil) (slA Y7 x43.1) [bxm x43.2] phm (.b (.i2 .nil) .nil) (.cons .im .nil) ?_;have⟨g44,H⟩:=Yx H;refine Y4x (enc:=eL Y7) [x43.1] rfl rfl rfl (by decide) rfl rfl rfl (by simp) E78 (fun _=>rfl) (by decide) trivial (by kernel_rfl) (by kernel_rfl) (by kernel_rfl) rfl rfl rfl g44 (OpsW.sg 1 [11,0,7,10,12] ((11,.rsl 11 1 0 ((v39++[x43.1]).length))::(Z1w v40 x1 x36)) (OpsW.rc ((11,.rsl 11 0 0 ((v39++[x43.1]).length))::(Z1w v40 x1 x36)) [(11,rtA 0 26 1 (eL Y7) (v39++[x43.1])),bxm x43.2] (StC.mk (phi [(11,some 11),(2000,some 2000)]) (.o rfl (CstL.ims _) (.o rfl (.i2 .nil) .nil)) rfl (.cons (.s rfl) (.cons (.r rfl) (.i3 .nil)))) ?_));refine Y2 (Yo ?_);have⟨g45,H⟩:=Yx H;refine Yq 3 [12,11,0,7,10] [(12,.j (v40+1)),(11,.rsl 11 0 0 ((v39++[x43.1]).length)),Z26,(Z29 x1),(10,.j (Z25 x36))] ⟨g45,trivial⟩ (Y2 ?_);exact⟨(x43.2,v39++[x43.1],v40+1),H,(StC.mk (phi [(2000,some 2000),(11,some 11)]) (.o rfl (.i2 .nil) (.o rfl (CstL.ims _) .nil)) rfl (.cons (.r rfl) (.i2 (.cons (.s rfl) (.cons .im .nil)))))⟩
   refine AW.exit<|Yo (OpsW.sg 4 [148,147] ((148,.rsl 11 0 0 v39.length)::(Z22 x1 x36)) ?_);refine OpsW.rc ((148,slA (eL Y7) v39)::(Z22 x1 x36)) (Z1u v38) (StC.mk phm (.o rfl (.i2 .nil) .nil) rfl (.cons (.frz rfl rfl rfl (frz_all (eL Y7) 1 (fun _=>rfl) v39) (Y0z (eL Y7) 1 (fun _=>rfl) v39) (phi_ne rfl)) (.cons (.agg (.i2 .nil)) .nil))) ?_;have⟨x46,hx46,H⟩:=Y0o H;refine Y1m rfl (.cons (.pur rfl) (.cons (.pur rfl) .nil)) (Y4j hx46) (OpsW.sg 1 [8] [(8,slA Y7 x46)] (Y2 ?_));exact⟨(v38,x46),H,(StC.mk phm (.o rfl (.i2 .nil) .nil) rfl (.cons .im .nil))⟩
  refine Y0 (OpsW.sg 1 [44,0,1,7] ((44,.ref 2000 0 0)::(Z1v t1 x1)) ?_);have⟨x47,hx47,H⟩:=Y0o H;refine Y16 (Z1d v29) [] (Z1d v29) phm rfl (Y22 hx47) (.cons (.r rfl) .nil) (.b (.i2 .nil) .nil) (.j x47.1) (Z1j x47) phm (.b (.i2 .nil) .nil) (.cons .im .nil) ?_;have⟨g48,H⟩:=Yx H;refine Yq 3 [48,47,0,1,7] (Z1g t1 x1 x47) ⟨(by decide),g48,trivial⟩ ?_;have⟨x49,hx49,H⟩:=Y0o H;refine Y16 (Z1j x47) [] (Z1j x47) phm rfl (Y22 hx49) (.cons (.r rfl) .nil) (.b (.i2 .nil) .nil) (.j x49.1) (Z1k x49) phm (.b (.i2 .nil) .nil) (.cons .im .nil) ?_;have⟨g50,H⟩:=Yx H;refine Yq 4 [14,13,0,1,7] ((14,.j (Z2a x49))::(13,.j (Z27 x47))::(Z1v t1 x1)) ⟨(by decide),g50,trivial⟩<|Y2 (Yo ?_);have⟨g51,H⟩:=Yx H;have⟨g52,H⟩:=Yx H;have⟨g53,H⟩:=Yx H;have⟨g54,H⟩:=Yx H;refine Yq 12 [63,61,58,57] (Z19 t1 x1 x47 x49) ⟨g51,g52,g53,g54,trivial⟩ ?_;have⟨x55,hx55,H⟩:=Y0o H;refine Y16 (Z1k x49) [] (Z1k x49) phm rfl (hra1 _ _ _ _ hx55) (.cons (.r rfl) (.i2 .nil)) (.b (.i2 .nil) .nil) (slA (eL Y7) x55.1) [bxm x55.2] phm (.b (.i2 .nil) .nil) (.cons .im .nil) ?_;have⟨x56,hx56,H⟩:=Y0o H;refine Y1m rfl (.cons (.pur rfl) (.cons (.pur rfl) .nil)) (Y4j hx56) (OpsW.sg 1 [8] [(8,slA Y7 x56)] (Y2 ?_));exact⟨(x55.2,x56),H,(StC.mk phm (.o rfl (.i2 .nil) .nil) rfl (.cons .im .nil))⟩
 rintro⟨v6,v7⟩ H;unfold Y0a at H;change AW _ _ _ [(8,slA Y7 v7)] [bxm v6] _;refine Y0 (OpsW.sg 2 [6] [(6,slA Y7 v7)] ?_);refine Y2 ?_;obtain rfl:=X6 H;refine Y03 ?_;show ∃en' hp',StC _ _ en' hp'∧Done _ _ _ .ret en' hp';refine⟨[(6,slA Y7 v7)],[bxm v6],(StC.mk phm (.o rfl (.i2 .nil) .nil) rfl (.cons .im .nil)), ?_⟩;refine Y5t rfl (.tmp .nil) ?_;exact⟨by kernel_rfl,by kernel_rfl⟩
def Y15 (ra2:Yb→Int→Int→Option ((List Y4)×Yb)) (t1:Int) (t2:Int) (loop4:(Yb×(List (List Y4))×Int)→Option ((List (List Y4))×Yb)) (v1:Yb) (v2:List (List Y4)) (v3:Int):Option ((List (List Y4))×Yb):=
 cond (decide (v3<t1)) (
  (ra2 v1 t2 (1:Int)).bind fun x6=>
  G (room 24 (v2.length+1))<|
  G (inR (v3+1))<|
  loop4 (x6.2,v2++[x6.1],v3+1)) (
  some (v2,v1))
def Y46 (ra2:Yb→Int→Int→Option ((List Y4)×Yb)) (ra1:Yb→Int→Int→Option ((List (List Y4))×Yb)) (t0:Yb) (t1:Int) (t2:Int):Option ((List (List Y4))×Yb):=
 iter (fun loop (s:Yb×(List (List Y4))×Int)=>Y15 ra2 t1 t2 loop s.1 s.2.1 s.2.2) 1000000 (t0,([]:List (List Y4)),(0:Int))
section
variable (t1:Int) (t2:Int) (v1:Yb) (v2:List (List Y4)) (v3:Int)
abbrev Z2h:=([]:List (List Y4))
abbrev Z2i:Nat×AV:=(0,.ref 2000 0 0)
abbrev Z2d:Env:=[(17,.j t2),(16,.ref 2000 0 0),(15,.rsl 7 0 0 v2.length),Z2i,(1,.j t1),(2,.j t2),(7,.rsl 7 0 0 v2.length),(8,.j v3)]
abbrev Z2e:Env:=[Z2i,(1,.j t1),(2,.j t2)]
abbrev Z2f:Hp:=[bxm v1]
abbrev Z2g:Hp:=[(7,rtA 0 26 1 (eL Y7) v2)]
end
theorem f_R09_maker_some_body_io{ra2:Yb→Int→Int→Option ((List Y4)×Yb)}{ra1:Yb→Int→Int→Option ((List (List Y4))×Yb)}(hra2:∀(t0:Yb) (t1:Int) (t2:Int) (r:(List Y4)×Yb),ra2 t0 t1 t2=some r→Abs.Spec Tryd.prog 21 [.ref 2000 0 0,.int .i64 t1,.int .i64 t2] [bxm t0] (fun x h=>x=slA Y7 r.1∧h=[bxm r.2]))(hra1:∀(t0:Yb) (t1:Int) (t2:Int) (r:(List (List Y4))×Yb),ra1 t0 t1 t2=some r→Abs.Spec Tryd.prog 38 [.ref 2000 0 0,.int .i64 t1,.int .i64 t2] [bxm t0] (fun x h=>x=slA (eL Y7) r.1∧h=[bxm r.2])){t0:Yb}{t1:Int}{t2:Int}{r:(List (List Y4))×Yb}(H:Y46 ra2 ra1 t0 t1 t2=some r):Abs.Spec Tryd.prog 38 [.ref 2000 0 0,.int .i64 t1,.int .i64 t2] [bxm t0] (fun x h=>x=slA (eL Y7) r.1∧h=[bxm r.2]):=by
 refine Y01 Tryd.func38 rfl (by simp[Tryd.ntmps38]) ?_;rw[Tryd.ntmps38];unfold Y46 at H;change AW _ _ _ (Z2e t1 t2) [bxm t0] _;refine Y56<|Y0 (OpsW.sg 1 [0,1,2] (Z2e t1 t2) ?_);refine Y2 (Y0 (Y5m (enc:=eL Y7) Z2h rfl rfl rfl 9 rfl E78 (fun _=>rfl) (by decide) trivial (by kernel_rfl) (by kernel_rfl) (by kernel_rfl) rfl ?_));refine OpsW.sg 1 [7,0,1,2] ((7,.rsl 9 0 0 (Z2h.length))::(Z2e t1 t2)) (OpsW.rc ((7,.rsl 7 0 0 (Z2h.length))::(Z2e t1 t2)) [(7,rtA 0 26 1 (eL Y7) Z2h),bxm t0] (StC.mk (phi [(7,some 9),(2000,some 2000)]) (.o rfl (CstL.ims _) (.o rfl (.i2 .nil) .nil)) rfl (.cons (.s rfl) (.cons (.r rfl) (.i2 .nil)))) ?_);refine Y2 (Y0g (Y0 (OpsW.sg 1 [8,7,0,1,2] ((8,.j (0:Int))::(7,.rsl 7 0 0 (Z2h.length))::(Z2e t1 t2)) ?_)));refine Y2 (Y0f ?_);refine Y4f (fun loop (s:Yb×(List (List Y4))×Int)=>Y15 ra2 t1 t2 loop s.1 s.2.1 s.2.2) r (fun(s:Yb×(List (List Y4))×Int)=>[Z2i,(1,.j t1),(2,.j t2),(7,.rsl 7 0 0 s.2.1.length),(8,.j s.2.2)]) (fun(s:Yb×(List (List Y4))×Int)=>[bxm s.1,(7,rtA 0 26 1 (eL Y7) s.2.1)]) ?_ 1000000 (t0,Z2h,(0:Int)) H (StC.mk (phi [(2000,some 2000),(7,some 7)]) (.o rfl (.i2 .nil) (.o rfl (CstL.ims _) .nil)) rfl (.cons (.r rfl) (.i2 (.cons (.s rfl) (.cons .im .nil)))));intro loop4 s H;have⟨v1,v2,v3⟩:=s;unfold Y15 at H;change AW _ _ _ [Z2i,(1,.j t1),(2,.j t2),(7,.rsl 7 0 0 v2.length),(8,.j v3)] (bxm v1::(Z2g v2)) _
 refine Y0g (Y0 (OpsW.sg 3 [12,0,1,2,7,8] [(12,.bool (decide (v3<t1))),Z2i,(1,.j t1),(2,.j t2),(7,.rsl 7 0 0 v2.length),(8,.j v3)] ?_));refine Y2 (Yd (b:=decide (v3<t1)) H rfl (fun c5 H=> ?_) (fun c5 H=> ?_))
 ·refine Ym (Y0g (Y0f (Yo (OpsW.sg 3 [17,16,15,0,1,2,7,8] (Z2d t1 t2 v2 v3) ?_))));have⟨x6,hx6,H⟩:=Y0o H;refine Y16 (Z2f v1) (Z2g v2) (Z2f v1) phm rfl (hra2 _ _ _ _ hx6) (.cons (.r rfl) (.i2 .nil)) (.b (.i2 .nil) .nil) (slA Y7 x6.1) [bxm x6.2] phm (.b (.i2 .nil) .nil) (.cons .im .nil) ?_;have⟨g7,H⟩:=Yx H;refine Y4x (enc:=eL Y7) [x6.1] rfl rfl rfl (by decide) rfl rfl rfl (by simp) E78 (fun _=>rfl) (by decide) trivial (by kernel_rfl) (by kernel_rfl) (by kernel_rfl) rfl rfl rfl g7 (OpsW.sg 1 [7,0,1,2,8] [(7,.rsl 7 1 0 ((v2++[x6.1]).length)),Z2i,(1,.j t1),(2,.j t2),(8,.j v3)] (OpsW.rc [(7,.rsl 7 0 0 ((v2++[x6.1]).length)),Z2i,(1,.j t1),(2,.j t2),(8,.j v3)] [(7,rtA 0 26 1 (eL Y7) (v2++[x6.1])),bxm x6.2] (StC.mk (phi [(7,some 7),(2000,some 2000)]) (.o rfl (CstL.ims _) (.o rfl (.i2 .nil) .nil)) rfl (.cons (.s rfl) (.cons (.r rfl) (.i3 .nil)))) ?_));refine Y2 (Yo ?_);have⟨g8,H⟩:=Yx H;refine Yq 3 [8,7,0,1,2] ((8,.j (v3+1))::(7,.rsl 7 0 0 ((v2++[x6.1]).length))::(Z2e t1 t2)) ⟨g8,trivial⟩ (Y2 ?_);exact⟨(x6.2,v2++[x6.1],v3+1),H,(StC.mk (phi [(2000,some 2000),(7,some 7)]) (.o rfl (.i2 .nil) (.o rfl (CstL.ims _) .nil)) rfl (.cons (.r rfl) (.i2 (.cons (.s rfl) (.cons .im .nil)))))⟩
 refine AW.exit<|Y0 (OpsW.sg 2 [6] [(6,.rsl 7 0 0 v2.length)] ?_);refine OpsW.rc [(6,slA (eL Y7) v2)] (Z2f v1) (StC.mk phm (.o rfl (.i2 .nil) .nil) rfl (.cons (.frz rfl rfl rfl (frz_all (eL Y7) 1 (fun _=>rfl) v2) (Y0z (eL Y7) 1 (fun _=>rfl) v2) (phi_ne rfl)) .nil)) (Y2 ?_);obtain rfl:=X6 H;refine Y03 ?_;show ∃en' hp',StC _ _ en' hp'∧Done _ _ _ .ret en' hp';refine⟨[(6,slA (eL Y7) v2)],(Z2f v1),(StC.mk phm (.o rfl (.i2 .nil) .nil) rfl (.cons .im .nil)), ?_⟩;refine Y5t rfl (.tmp .nil) ?_;exact⟨by kernel_rfl,by kernel_rfl⟩
mutual
def Y1y:Nat→Yb→Int→Int→Option ((List Y4)×Yb)
 |0,_,_,_=>none
 |n+1,t0,t1,t2=>Y37 (Y1y n) (Y2y n) t0 t1 t2
def Y2y:Nat→Yb→Int→Int→Option ((List (List Y4))×Yb)
 |0,_,_,_=>none
 |n+1,t0,t1,t2=>Y46 (Y1y n) (Y2y n) t0 t1 t2
end
theorem f_R09_maker_tree_all:∀n:Nat,(∀(t0:Yb) (t1:Int) (t2:Int) (r:(List Y4)×Yb),Y1y n t0 t1 t2=some r→Abs.Spec Tryd.prog 21 [.ref 2000 0 0,.int .i64 t1,.int .i64 t2] [bxm t0] (fun x h=>x=slA Y7 r.1∧h=[bxm r.2]))∧(∀(t0:Yb) (t1:Int) (t2:Int) (r:(List (List Y4))×Yb),Y2y n t0 t1 t2=some r→Abs.Spec Tryd.prog 38 [.ref 2000 0 0,.int .i64 t1,.int .i64 t2] [bxm t0] (fun x h=>x=slA (eL Y7) r.1∧h=[bxm r.2]))∧True
 |0=>by
  refine⟨?_, ?_,trivial⟩
  ·intro t0 t1 t2 r H;rw[Y1y] at H;cases H
  ·intro t0 t1 t2 r H;rw[Y2y] at H;cases H
 |n+1=>by
  have ih:=f_R09_maker_tree_all n;refine⟨?_, ?_,trivial⟩
  ·intro t0 t1 t2 r H;rw[Y1y] at H;exact f_R09_maker_tree_body_io ih.1 ih.2.1 H
  ·intro t0 t1 t2 r H;rw[Y2y] at H;exact f_R09_maker_some_body_io ih.1 ih.2.1 H
def f_R09_maker_tree (t0:Yb) (t1:Int) (t2:Int):Option ((List Y4)×Yb):=Y1y 1000000 t0 t1 t2
theorem f_R09_maker_tree_io{t0:Yb}{t1:Int}{t2:Int}{r:(List Y4)×Yb}(H:f_R09_maker_tree t0 t1 t2=some r):Abs.Spec Tryd.prog 21 [.ref 2000 0 0,.int .i64 t1,.int .i64 t2] [bxm t0] (fun x h=>x=slA Y7 r.1∧h=[bxm r.2]):=
 (f_R09_maker_tree_all 1000000).1 t0 t1 t2 r H
def f_R09_Made (t0:List Int):Option (List Y4):=
 G (0≤(if(40:Int)<(t0.length:Int) then(40:Int) else(t0.length:Int))∧(if(40:Int)<(t0.length:Int) then(40:Int) else(t0.length:Int))≤(t0.length:Int))<|
 (f_R09_maker_tree (⟨t0.take ((if(40:Int)<(t0.length:Int) then(40:Int) else(t0.length:Int)).toNat),(0:Int)⟩:Yb) (5:Int) (1:Int)).bind fun x2=>
 (f_R09_Valid x2.1).bind fun x3=>
 cond (!x3) (
  some [(⟨(1:Int),(0:Int)⟩:Y4)]) (
  some x2.1)
section
variable (t0:List Int)
abbrev Z2k:=(t0.take ((if(40:Int)<(t0.length:Int) then(40:Int) else(t0.length:Int)).toNat))
abbrev Z2l:=(⟨(1:Int),(0:Int)⟩:Y4)
abbrev Z2j:Hp:=[(3,⟨0,true,53,2,[sU (Z2k t0),.j (0:Int)]⟩)]
end
theorem f_R09_Made_ok{t0:List Int}{r:List Y4}(H:f_R09_Made t0=some r):QSpec Tryd.prog 10 [slA (eI .u8) t0] (slA Y7 r):=by
 refine Y01 Tryd.func10 rfl (by simp[Tryd.ntmps10]) ?_;rw[Tryd.ntmps10];unfold f_R09_Made at H;change AW _ _ _ [(0,sU t0)] [] _;refine Y0 (OpsW.sg 1 [0] [(0,sU t0)] ?_);refine Y2 (Y0 (OpsW.sg 4 [8,5] [(8,.j (if(40:Int)<(t0.length:Int) then(40:Int) else(t0.length:Int))),(5,sU t0)] ?_));have⟨g1,H⟩:=Yx H;refine OpsW.asU (sU (Z2k t0)) rfl rfl (T.slice' rfl trivial trivial trivial (by kernel_rfl) (by kernel_rfl) g1 trivial (sl_hi (eI .u8) 1 (fun _=>rfl) t0 (if(40:Int)<(t0.length:Int) then(40:Int) else(t0.length:Int)) g1)) (OpsW.sg 1 [10] [(10,.agg [sU (Z2k t0),.j (0:Int)])] (OpsW.box rfl rfl rfl 11 rfl (Y0v (by kernel_rfl)) ?_));change OpsW _ _ _ _ _ [(11,⟨0,true,53,2,[sU (Z2k t0),.j (0:Int)]⟩)] _;refine OpsW.sg 1 [3] [(3,.ref 11 0 0)] (OpsW.rc [(3,.ref 3 0 0)] (Z2j t0) (StC.mk (phi [(3,some 11)]) (.o rfl (.i2 .nil) .nil) rfl (.cons (.r rfl) .nil)) ?_);refine Y2 (Y0 (OpsW.sg 1 [12] [(12,.ref 3 0 0)] ?_));have⟨x2,hx2,H⟩:=Y0o H;refine Y16 (Z2j t0) [] [(2000,⟨0,true,53,2,[sU (Z2k t0),.j (0:Int)]⟩)] (phi [(2000,some 3)]) rfl (f_R09_maker_tree_io hx2) (.cons (.r rfl) (.i2 .nil)) (.b (.i2 .nil) .nil) (slA Y7 x2.1) [(3,⟨0,true,53,2,[sU x2.2.B,.j x2.2.At]⟩)] (phi [(3,some 2000)]) (.b (.i2 .nil) .nil) (.cons .im .nil)<|OpsW.sg 1 [4] [(4,slA Y7 x2.1)] (OpsW.rc [(4,slA Y7 x2.1)] [] (StC.pure (.cons .im .nil)) ?_);refine Y2 (Y0g (Y0 (OpsW.sg 1 [14,4] [(14,slA Y7 x2.1),(4,slA Y7 x2.1)] ?_)))
 have⟨x3,hx3,H⟩:=Y0o H;refine Y1m rfl (.cons (.pur rfl) .nil) (f_R09_Valid_ok hx3) (OpsW.sg 1 [16,4] [(16,.bool (!x3)),(4,slA Y7 x2.1)] (Y2 (Yd (b:= !x3) H rfl (fun c4 H=> ?_) (fun c4 H=> ?_))))
 ·refine Y0 (OpsW.sg 1 [17] [(17,.agg [.j (1:Int),.j (0:Int)])] ?_);refine OpsW.buildTI (enc:=Y7) [Z2l] rfl rfl rfl E26 (fun _=>rfl) (by decide) ⟨trivial,by kernel_rfl,by kernel_rfl,by kernel_rfl,rfl⟩ (OpsW.sg 1 [2] [(2,slA Y7 [Z2l])] (Y2 ?_));obtain rfl:=X6 H;refine AW.recast (env':=[(2,slA Y7 [Z2l])]) (h':=[]) (StC.pure (.cons .im .nil)) (Y03 ?_)
  try simp only[Ex.t,Ex.b]
  exact Yw rfl (.tmp .nil)
 refine Ym (Y0 (OpsW.sg 2 [2] [(2,slA Y7 x2.1)] ?_));refine Y2 ?_;obtain rfl:=X6 H;refine AW.recast (env':=[(2,slA Y7 x2.1)]) (h':=[]) (StC.pure (.cons .im .nil)) (Y03 ?_)
 try simp only[Ex.t,Ex.b]
 exact Yw rfl (.tmp .nil)
def f_formula_arity_k1:Option (Int×Bool):=
 some ((0:Int),false)
def Y2d (t0:Y4) (v5:Bool):Option (Int×Bool):=
 cond v5 (
  some ((1:Int),t0.N==0)) (
  cond (t0.Op==12) (
   cond (cond (decide (t0.N<2)) true (decide (5<t0.N))) (
    some ((0:Int),false)) (
    G (inR (t0.N+1))<|
    some (t0.N+1,true))) (
   cond (t0.Op==13) (
    cond (decide (t0.N<0)) (
     some ((0:Int),false)) (
     G (inR (Int.tdiv t0.N (8:Int)))<|
     G (inR ((Int.tdiv t0.N (8:Int))*(Int.tmod t0.N (8:Int))))<|
     some ((Int.tdiv t0.N (8:Int))*(Int.tmod t0.N (8:Int)),cond (cond (cond (decide ((1:Int)≤(Int.tdiv t0.N (8:Int)))) (decide ((Int.tdiv t0.N (8:Int))≤4)) false) (decide ((1:Int)≤(Int.tmod t0.N (8:Int)))) false) (decide ((Int.tmod t0.N (8:Int))≤4)) false))) (
    f_formula_arity_k1)))
def Y0w (t0:Y4) (v3:Bool):Option (Int×Bool):=
 cond v3 (
  some ((2:Int),t0.N==0)) (
  cond (t0.Op==9) (
   Y2d t0 (t0.Op==9)) (
   cond (t0.Op==10) (
    Y2d t0 (t0.Op==10)) (
    Y2d t0 (t0.Op==11))))
def Y3t (t0:Y4):Option (Int×Bool):=
 cond (t0.Op==0) (
  some ((0:Int),cond (decide (0≤t0.N)) (decide (t0.N≤99999)) false)) (
  cond (t0.Op==1) (
   some ((0:Int),cond (decide (0≤t0.N)) (decide (t0.N≤25)) false)) (
   cond (t0.Op==2) (
    Y0w t0 (t0.Op==2)) (
    cond (t0.Op==3) (
     Y0w t0 (t0.Op==3)) (
     cond (t0.Op==4) (
      Y0w t0 (t0.Op==4)) (
      cond (t0.Op==5) (
       Y0w t0 (t0.Op==5)) (
       cond (t0.Op==6) (
        Y0w t0 (t0.Op==6)) (
        cond (t0.Op==7) (
         Y0w t0 (t0.Op==7)) (
         Y0w t0 (t0.Op==8)))))))))
section
variable (t0:Y4)
abbrev Z2o:=(cond (cond (cond (decide ((1:Int)≤(Int.tdiv t0.N (8:Int)))) (decide ((Int.tdiv t0.N (8:Int))≤4)) false) (decide ((1:Int)≤(Int.tmod t0.N (8:Int)))) false) (decide ((Int.tmod t0.N (8:Int))≤4)) false)
abbrev Z2p:=decide (0≤t0.N)
abbrev Z2q:Nat×AV:=(1,.ref 1 0 0)
abbrev Z2r:Nat×AV:=(2,.j (0:Int))
abbrev Z2s:=cond (Z2p t0) (decide (t0.N≤99999)) false
abbrev Z2t:=cond (Z2p t0) (decide (t0.N≤25)) false
abbrev Z2u:=(Int.tmod t0.N (8:Int))
abbrev Z2v:=(Int.tdiv t0.N (8:Int))
abbrev Z2w:Nat×AV:=(3,.bool (t0.N==0))
abbrev Z2m:Env:=[(7,.j t0.Op),Z2q]
abbrev Z2n:Hp:=[(1,⟨0,true,50,2,[.j t0.Op,.j t0.N]⟩)]
end
theorem f_formula_arity_ok{t0:Y4}{r:Int×Bool}(H:Y3t t0=some r):QSpec Tryd.prog 83 [.agg [.int .i64 t0.Op,.int .i64 t0.N]] (.tup [.int .i64 r.1,.bool r.2]):=by
 refine Y01 Tryd.func83 rfl (by simp[Tryd.ntmps83]) ?_;rw[Tryd.ntmps83];unfold Y3t at H;change AW _ _ _ [(0,.agg [.j t0.Op,.j t0.N])] [] _;refine Y0 (OpsW.box rfl rfl rfl 1 rfl (Y0v (by kernel_rfl)) ?_);change OpsW _ _ _ _ _ (Z2n t0) _;refine OpsW.sg 2 [1] [Z2q] (Y2 ?_);refine Y20 (fun(y:Unit)=>f_formula_arity_k1) r (fun(y:Unit)=>[]) (fun(y:Unit)=>[]) ?_ ?_
 ·refine Y0 (OpsW.sg 2 [7,1] (Z2m t0) ?_);refine Y2 (Y0f (Y0 (OpsW.sg 2 [8,7,1] ((8,.bool (t0.Op==0))::(Z2m t0)) ?_)));refine Y2 (Yd (b:=t0.Op==0) H rfl (fun c1 H=> ?_) (fun c1 H=> ?_))
  ·refine Y3b Tryd.checked.mixed (by kernel_rfl)<|QOps.sz (N:=87) 10 ((3,.bool (Z2s t0))::Z2r::(17,.bool (Z2s t0))::(16,.cnd (Z2p t0) (.bool (decide (t0.N≤99999))))::(15,.cnd (Z2p t0) (.j t0.N))::(14,.cnd (Z2p t0) (.ref 1 0 1))::(13,.bool (Z2p t0))::(12,.bool (Z2p t0))::(11,.j t0.N)::(10,.ref 1 0 1)::(8,.bool (t0.Op==0))::(Z2m t0)) ⟨(fun h=>h),(fun h=>h),(fun h=>by first|exact h|(simpa using h)|grind),trivial⟩ ?_;refine QOps.nil (AW.trim [3,2] [(3,.bool (Z2s t0)),Z2r] (by kernel_rfl) ?_);obtain rfl:=X6 H;refine AW.recast (env':=[Z2r,(3,.bool (Z2s t0))]) (h':=[]) (StC.pure (.i2 .nil)) (Y03 ?_)
   try simp only[Ex.t,Ex.b]
   exact Yw rfl (.tmp (.tmp .nil))
  refine Y0 (OpsW.sg 2 [18,7,1] ((18,.bool (t0.Op==1))::(Z2m t0)) ?_);refine Y2 (Yd (b:=t0.Op==1) H rfl (fun c2 H=> ?_) (fun c2 H=> ?_))
  ·refine Y3b Tryd.checked.mixed (by kernel_rfl)<|QOps.sz (N:=87) 10 ((3,.bool (Z2t t0))::Z2r::(27,.bool (Z2t t0))::(26,.cnd (Z2p t0) (.bool (decide (t0.N≤25))))::(25,.cnd (Z2p t0) (.j t0.N))::(24,.cnd (Z2p t0) (.ref 1 0 1))::(23,.bool (Z2p t0))::(22,.bool (Z2p t0))::(21,.j t0.N)::(20,.ref 1 0 1)::(18,.bool (t0.Op==1))::(Z2m t0)) ⟨(fun h=>h),(fun h=>h),(fun h=>by first|exact h|(simpa using h)|grind),trivial⟩ ?_;refine QOps.nil (AW.trim [3,2] [(3,.bool (Z2t t0)),Z2r] (by kernel_rfl) ?_);obtain rfl:=X6 H;refine AW.recast (env':=[Z2r,(3,.bool (Z2t t0))]) (h':=[]) (StC.pure (.i2 .nil)) (Y03 ?_)
   try simp only[Ex.t,Ex.b]
   exact Yw rfl (.tmp (.tmp .nil))
  refine Y20 (fun(y:Bool)=>Y0w t0 y) r (fun(y:Bool)=>[Z2q,(7,.j t0.Op),(28,.bool y)]) (fun(y:Bool)=>(Z2n t0)) ?_ ?_
  ·refine Y0 (OpsW.sg 2 [28,7,1] ((28,.bool (t0.Op==2))::(Z2m t0)) ?_);refine Y2 (Yd (b:=t0.Op==2) H rfl (fun c16 H=> ?_) (fun c16 H=> ?_))
   ·refine Ym ?_;exact⟨t0.Op==2,H,(StC.mk (phi [(1,some 1)]) (.o rfl (.i2 .nil) .nil) rfl (.cons (.r rfl) (.i2 .nil)))⟩
   refine Y0 (OpsW.sg 2 [28,7,1] ((28,.bool (t0.Op==3))::(Z2m t0)) ?_);refine Y2 (Yd (b:=t0.Op==3) H rfl (fun c17 H=> ?_) (fun c17 H=> ?_))
   ·refine Ym ?_;exact⟨t0.Op==3,H,(StC.mk (phi [(1,some 1)]) (.o rfl (.i2 .nil) .nil) rfl (.cons (.r rfl) (.i2 .nil)))⟩
   refine Y0 (OpsW.sg 2 [28,7,1] ((28,.bool (t0.Op==4))::(Z2m t0)) ?_);refine Y2 (Yd (b:=t0.Op==4) H rfl (fun c18 H=> ?_) (fun c18 H=> ?_))
   ·refine Ym ?_;exact⟨t0.Op==4,H,(StC.mk (phi [(1,some 1)]) (.o rfl (.i2 .nil) .nil) rfl (.cons (.r rfl) (.i2 .nil)))⟩
   refine Y0 (OpsW.sg 2 [28,7,1] ((28,.bool (t0.Op==5))::(Z2m t0)) ?_);refine Y2 (Yd (b:=t0.Op==5) H rfl (fun c19 H=> ?_) (fun c19 H=> ?_))
   ·refine Ym ?_;exact⟨t0.Op==5,H,(StC.mk (phi [(1,some 1)]) (.o rfl (.i2 .nil) .nil) rfl (.cons (.r rfl) (.i2 .nil)))⟩
   refine Y0 (OpsW.sg 2 [28,7,1] ((28,.bool (t0.Op==6))::(Z2m t0)) ?_);refine Y2 (Yd (b:=t0.Op==6) H rfl (fun c20 H=> ?_) (fun c20 H=> ?_))
   ·refine Ym ?_;exact⟨t0.Op==6,H,(StC.mk (phi [(1,some 1)]) (.o rfl (.i2 .nil) .nil) rfl (.cons (.r rfl) (.i2 .nil)))⟩
   refine Y0 (OpsW.sg 2 [28,7,1] ((28,.bool (t0.Op==7))::(Z2m t0)) ?_);refine Y2 (Yd (b:=t0.Op==7) H rfl (fun c21 H=> ?_) (fun c21 H=> ?_))
   ·refine Ym ?_;exact⟨t0.Op==7,H,(StC.mk (phi [(1,some 1)]) (.o rfl (.i2 .nil) .nil) rfl (.cons (.r rfl) (.i2 .nil)))⟩
   refine Yo (OpsW.sg 2 [28,7,1] ((28,.bool (t0.Op==8))::(Z2m t0)) ?_);refine Y2 ?_;exact⟨t0.Op==8,H,(StC.mk (phi [(1,some 1)]) (.o rfl (.i2 .nil) .nil) rfl (.cons (.r rfl) (.i2 .nil)))⟩
  intro v3 H;unfold Y0w at H;change AW _ _ _ [Z2q,(7,.j t0.Op),(28,.bool v3)] (Z2n t0) _;refine Yd (b:=v3) H rfl (fun c4 H=> ?_) (fun c4 H=> ?_)
  ·refine Y3b Tryd.checked.mixed (by kernel_rfl)<|QOps.sz (N:=87) 5 [(Z2w t0),(2,.j (2:Int)),(38,.bool (t0.N==0)),(37,.j t0.N),(36,.ref 1 0 1),Z2q,(7,.j t0.Op),(28,.bool v3)] trivial<|QOps.nil (AW.trim [3,2] [(Z2w t0),(2,.j (2:Int))] (by kernel_rfl) ?_);obtain rfl:=X6 H;refine AW.recast (env':=[(2,.j (2:Int)),(Z2w t0)]) (h':=[]) (StC.pure (.i2 .nil)) (Y03 ?_)
   try simp only[Ex.t,Ex.b]
   exact Yw rfl (.tmp (.tmp .nil))
  refine Y20 (fun(y:Bool)=>Y2d t0 y) r (fun(y:Bool)=>[Z2q,(7,.j t0.Op),(39,.bool y)]) (fun(y:Bool)=>(Z2n t0)) ?_ ?_
  ·refine Y0 (OpsW.sg 2 [39,1,7] [(39,.bool (t0.Op==9)),Z2q,(7,.j t0.Op)] ?_);refine Y2 (Yd (b:=t0.Op==9) H rfl (fun c14 H=> ?_) (fun c14 H=> ?_))
   ·refine Ym ?_;exact⟨t0.Op==9,H,(StC.mk (phi [(1,some 1)]) (.o rfl (.i2 .nil) .nil) rfl (.cons (.r rfl) (.i2 .nil)))⟩
   refine Y0 (OpsW.sg 2 [39,1,7] [(39,.bool (t0.Op==10)),Z2q,(7,.j t0.Op)] ?_);refine Y2 (Yd (b:=t0.Op==10) H rfl (fun c15 H=> ?_) (fun c15 H=> ?_))
   ·refine Ym ?_;exact⟨t0.Op==10,H,(StC.mk (phi [(1,some 1)]) (.o rfl (.i2 .nil) .nil) rfl (.cons (.r rfl) (.i2 .nil)))⟩
   refine Yo (OpsW.sg 2 [39,1,7] [(39,.bool (t0.Op==11)),Z2q,(7,.j t0.Op)] ?_);refine Y2 ?_;exact⟨t0.Op==11,H,(StC.mk (phi [(1,some 1)]) (.o rfl (.i2 .nil) .nil) rfl (.cons (.r rfl) (.i2 .nil)))⟩
  intro v5 H;unfold Y2d at H;change AW _ _ _ [Z2q,(7,.j t0.Op),(39,.bool v5)] (Z2n t0) _;refine Yd (b:=v5) H rfl (fun c6 H=> ?_) (fun c6 H=> ?_)
  ·refine Y3b Tryd.checked.mixed (by kernel_rfl)<|QOps.sz (N:=87) 5 [(Z2w t0),(2,.j (1:Int)),(45,.bool (t0.N==0)),(44,.j t0.N),(43,.ref 1 0 1),Z2q,(7,.j t0.Op),(39,.bool v5)] trivial<|QOps.nil (AW.trim [3,2] [(Z2w t0),(2,.j (1:Int))] (by kernel_rfl) ?_);obtain rfl:=X6 H;refine AW.recast (env':=[(2,.j (1:Int)),(Z2w t0)]) (h':=[]) (StC.pure (.i2 .nil)) (Y03 ?_)
   try simp only[Ex.t,Ex.b]
   exact Yw rfl (.tmp (.tmp .nil))
  refine Y0 (OpsW.sg 2 [46,1,7] [(46,.bool (t0.Op==12)),Z2q,(7,.j t0.Op)] ?_);refine Y2 (Yd (b:=t0.Op==12) H rfl (fun c7 H=> ?_) (fun c7 H=> ?_))
  ·refine Y0g (Y0 (Yq 8 [55,1] [(55,.bool (cond (decide (t0.N<2)) true (decide (5<t0.N)))),Z2q] ⟨(fun h=>h),(fun h=>h),(fun h=>by first|exact h|(simpa using h)|grind),trivial⟩ ?_));refine Y2 (Yd (b:=cond (decide (t0.N<2)) true (decide (5<t0.N))) H rfl (fun c8 H=> ?_) (fun c8 H=> ?_))
   ·refine Y0 (OpsW.sg 2 [3,2] [(3,.bool false),Z2r] ?_);refine Y2 ?_;obtain rfl:=X6 H;refine AW.recast (env':=[Z2r,(3,.bool false)]) (h':=[]) (StC.pure (.i2 .nil)) (Y03 ?_)
    try simp only[Ex.t,Ex.b]
    exact Yw rfl (.tmp (.tmp .nil))
   refine Ym (Y0 ?_);have⟨g9,H⟩:=Yx H;refine Yq 5 [3,2] [(3,.bool true),(2,.j (t0.N+1))] ⟨g9,trivial⟩ (Y2 ?_);obtain rfl:=X6 H;refine AW.recast (env':=[(2,.j (t0.N+1)),(3,.bool true)]) (h':=[]) (StC.pure (.i2 .nil)) (Y03 ?_)
   try simp only[Ex.t,Ex.b]
   exact Yw rfl (.tmp (.tmp .nil))
  refine Y0 (OpsW.sg 2 [59,1] [(59,.bool (t0.Op==13)),Z2q] ?_);refine Y2 (Yd (b:=t0.Op==13) H rfl (fun c10 H=> ?_) (fun c10 H=> ?_))
  ·refine Y0g (Y0 (OpsW.sg 3 [63,1] [(63,.bool (decide (t0.N<0))),Z2q] ?_));refine Y2 (Yd (b:=decide (t0.N<0)) H rfl (fun c11 H=> ?_) (fun c11 H=> ?_))
   ·refine Y0 (OpsW.sg 2 [3,2] [(3,.bool false),Z2r] ?_);refine Y2 ?_;obtain rfl:=X6 H;refine AW.recast (env':=[Z2r,(3,.bool false)]) (h':=[]) (StC.pure (.i2 .nil)) (Y03 ?_)
    try simp only[Ex.t,Ex.b]
    exact Yw rfl (.tmp (.tmp .nil))
   refine Ym (Y3b Tryd.checked.mixed (by kernel_rfl) ?_);have⟨g12,H⟩:=Yx H;refine QOps.sz (N:=87) 8 [(5,.j (Z2u t0)),(4,.j (Z2v t0)),(69,.j (Z2u t0)),(68,.j t0.N),(67,.ref 1 0 1),(66,.j (Z2v t0)),(65,.j t0.N),(64,.ref 1 0 1),(63,.bool (decide (t0.N<0))),Z2q] ⟨(by decide),g12,(by decide),trivial⟩<|QOps.nil (AW.trim [5,4] [(5,.j (Z2u t0)),(4,.j (Z2v t0))] (by kernel_rfl) ?_);refine Y0 ?_;have⟨g13,H⟩:=Yx H;refine Yq 19 [3,2] [(3,.bool (Z2o t0)),(2,.j ((Z2v t0)*(Z2u t0)))] ⟨g13,(fun h=>h),(fun h=>by first|exact h|(simpa using h)|grind),(fun h=>h),(fun h=>by first|exact h|(simpa using h)|grind),(fun h=>h),(fun h=>by first|exact h|(simpa using h)|grind),trivial⟩ (Y2 ?_);obtain rfl:=X6 H;refine AW.recast (env':=[(2,.j ((Z2v t0)*(Z2u t0))),(3,.bool (Z2o t0))]) (h':=[]) (StC.pure (.i2 .nil)) (Y03 ?_)
   try simp only[Ex.t,Ex.b]
   exact Yw rfl (.tmp (.tmp .nil))
  refine Ym ?_;exact⟨(),H,(StC.pure .nil)⟩
 rintro⟨⟩ H;unfold f_formula_arity_k1 at H;change AW _ _ _ [] [] _;refine Y0 (OpsW.sg 2 [3,2] [(3,.bool false),Z2r] ?_);refine Y2 ?_;obtain rfl:=X6 H;refine AW.recast (env':=[Z2r,(3,.bool false)]) (h':=[]) (StC.pure (.i2 .nil)) (Y03 ?_)
 try simp only[Ex.t,Ex.b]
 exact Yw rfl (.tmp (.tmp .nil))
def Y3i:Option Int:=
 some (4:Int)
def Y2x (t0:Int) (v2:Bool):Option Int:=
 cond v2 (
  some (2:Int)) (
  cond (t0==4) (
   some (3:Int)) (
   Y3i))
def Y1t (t0:Int):Option Int:=
 cond (t0==5) (
  some (1:Int)) (
  cond (t0==2) (
   Y2x t0 (t0==2)) (
   Y2x t0 (t0==3)))
theorem Y3h{t0:Int}{r:Int}(H:Y1t t0=some r):QSpec Tryd.prog 89 [.int .i64 t0] (.int .i64 r):=by
 refine Y01 Tryd.func89 rfl (by simp[Tryd.ntmps89]) ?_;rw[Tryd.ntmps89];unfold Y1t at H;change AW _ _ _ [(0,.j t0)] [] _;refine Y0 (OpsW.sg 1 [0] [(0,.j t0)] ?_);refine Y2<|Y20 (fun(y:Unit)=>Y3i) r (fun(y:Unit)=>[]) (fun(y:Unit)=>[]) ?_ ?_
 ·refine Y0 (OpsW.sg 1 [3] [(3,.j t0)] ?_);refine Y2 (Y0f (Y0 (OpsW.sg 2 [4,3] [(4,.bool (t0==5)),(3,.j t0)] ?_)));refine Y2 (Yd (b:=t0==5) H rfl (fun c1 H=> ?_) (fun c1 H=> ?_))
  ·refine Y0 (OpsW.sg 1 [2] [(2,.j (1:Int))] ?_);refine Y2 ?_;obtain rfl:=X6 H;refine AW.recast (env':=[(2,.j (1:Int))]) (h':=[]) (StC.pure (.cons .im .nil)) (Y03 ?_)
   try simp only[Ex.t,Ex.b]
   exact Yw rfl (.tmp .nil)
  refine Y20 (fun(y:Bool)=>Y2x t0 y) r (fun(y:Bool)=>[(3,.j t0),(6,.bool y)]) (fun(y:Bool)=>[]) ?_ ?_
  ·refine Y0 (OpsW.sg 2 [6,3] [(6,.bool (t0==2)),(3,.j t0)] ?_);refine Y2 (Yd (b:=t0==2) H rfl (fun c5 H=> ?_) (fun c5 H=> ?_))
   ·refine Ym ?_;exact⟨t0==2,H,(StC.pure (.i2 .nil))⟩
   refine Yo (OpsW.sg 2 [6,3] [(6,.bool (t0==3)),(3,.j t0)] ?_);refine Y2 ?_;exact⟨t0==3,H,(StC.pure (.i2 .nil))⟩
  intro v2 H;unfold Y2x at H;change AW _ _ _ [(3,.j t0),(6,.bool v2)] [] _;refine Yd (b:=v2) H rfl (fun c3 H=> ?_) (fun c3 H=> ?_)
  ·refine Y0 (OpsW.sg 1 [2] [(2,.j (2:Int))] ?_);refine Y2 ?_;obtain rfl:=X6 H;refine AW.recast (env':=[(2,.j (2:Int))]) (h':=[]) (StC.pure (.cons .im .nil)) (Y03 ?_)
   try simp only[Ex.t,Ex.b]
   exact Yw rfl (.tmp .nil)
  refine Y0 (OpsW.sg 2 [9] [(9,.bool (t0==4))] ?_);refine Y2 (Yd (b:=t0==4) H rfl (fun c4 H=> ?_) (fun c4 H=> ?_))
  ·refine Y0 (OpsW.sg 1 [2] [(2,.j (3:Int))] ?_);refine Y2 ?_;obtain rfl:=X6 H;refine AW.recast (env':=[(2,.j (3:Int))]) (h':=[]) (StC.pure (.cons .im .nil)) (Y03 ?_)
   try simp only[Ex.t,Ex.b]
   exact Yw rfl (.tmp .nil)
  refine Ym ?_;exact⟨(),H,(StC.pure .nil)⟩
 rintro⟨⟩ H;unfold Y3i at H;change AW _ _ _ [] [] _;refine Y0 (OpsW.sg 1 [2] [(2,.j (4:Int))] ?_);refine Y2 ?_;obtain rfl:=X6 H;refine AW.recast (env':=[(2,.j (4:Int))]) (h':=[]) (StC.pure (.cons .im .nil)) (Y03 ?_)
 try simp only[Ex.t,Ex.b]
 exact Yw rfl (.tmp .nil)
def Y4q:Option Bool:=
 some true
def Y2n (t0:Y4) (t1:Int) (t2:Y4) (v1:Bool):Option Bool:=
 cond v1 (
  cond (t1==0) (
   (Y1t t2.Op).bind fun x4=>
   (Y1t t0.Op).bind fun x5=>
   some (decide (x5≤x4))) (
   (Y1t t2.Op).bind fun x6=>
   (Y1t t0.Op).bind fun x7=>
   some (decide (x7<x6)))) (
  cond (t0.Op==12) (
   some (t2.Op==0)) (
   Y4q))
def Y50 (t0:Y4) (t1:Int) (t2:Y4):Option Bool:=
 cond (t0.Op==2) (
  Y2n t0 t1 t2 (t0.Op==2)) (
  cond (t0.Op==3) (
   Y2n t0 t1 t2 (t0.Op==3)) (
   cond (t0.Op==4) (
    Y2n t0 t1 t2 (t0.Op==4)) (
    Y2n t0 t1 t2 (t0.Op==5))))
section
variable (t0:Y4) (t1:Int) (t2:Y4)
abbrev Z2x:Env:=[(15,.bool (t1==0)),(3,.ref 3 0 0),(5,.ref 5 0 0)]
abbrev Z2y:Env:=[(5,.ref 5 0 0),(3,.ref 3 0 0),(1,.j t1)]
abbrev Z2z:Hp:=[(3,⟨0,true,50,2,[.j t0.Op,.j t0.N]⟩),(5,⟨0,true,50,2,[.j t2.Op,.j t2.N]⟩)]
end
theorem f_formula_admits_ok{t0:Y4}{t1:Int}{t2:Y4}{r:Bool}(H:Y50 t0 t1 t2=some r):QSpec Tryd.prog 84 [.agg [.int .i64 t0.Op,.int .i64 t0.N],.int .i64 t1,.agg [.int .i64 t2.Op,.int .i64 t2.N]] (.bool r):=by
 refine Y01 Tryd.func84 rfl (by simp[Tryd.ntmps84]) ?_;rw[Tryd.ntmps84];unfold Y50 at H;change AW _ _ _ [(0,.agg [.j t0.Op,.j t0.N]),(1,.j t1),(2,.agg [.j t2.Op,.j t2.N])] [] _;refine Y0 (OpsW.box rfl rfl rfl 3 rfl (Y0v (by kernel_rfl)) ?_);change OpsW _ _ _ _ _ [(3,⟨0,true,50,2,[.j t0.Op,.j t0.N]⟩)] _;refine OpsW.box rfl rfl rfl 5 rfl (Y0v (by kernel_rfl)) ?_;change OpsW _ _ _ _ _ [(5,⟨0,true,50,2,[.j t2.Op,.j t2.N]⟩),(3,⟨0,true,50,2,[.j t0.Op,.j t0.N]⟩)] _;refine OpsW.sg 1 [5,3,1] (Z2y t1) (OpsW.rc (Z2y t1) (Z2z t0 t2) (StC.mk (phi [(3,some 3),(5,some 5)]) (.o rfl (.i2 .nil) (.o rfl (.i2 .nil) .nil)) rfl (.cons (.r rfl) (.cons (.r rfl) (.cons .im .nil)))) (Y2 ?_));refine Y20 (fun(y:Unit)=>Y4q) r (fun(y:Unit)=>[]) (fun(y:Unit)=>[]) ?_ ?_
 ·refine Y0 (OpsW.sg 2 [8,5,3,1] ((8,.j t0.Op)::(Z2y t1)) ?_);refine Y2 (Y0f ?_);refine Y20 (fun(y:Bool)=>Y2n t0 t1 t2 y) r (fun(y:Bool)=>[(1,.j t1),(3,.ref 3 0 0),(5,.ref 5 0 0),(8,.j t0.Op),(9,.bool y)]) (fun(y:Bool)=>(Z2z t0 t2)) ?_ ?_
  ·refine Y0 (OpsW.sg 2 [9,8,5,3,1] ((9,.bool (t0.Op==2))::(8,.j t0.Op)::(Z2y t1)) ?_);refine Y2 (Yd (b:=t0.Op==2) H rfl (fun c9 H=> ?_) (fun c9 H=> ?_))
   ·refine Ym ?_;exact⟨t0.Op==2,H,(StC.mk (phi [(3,some 3),(5,some 5)]) (.o rfl (.i2 .nil) (.o rfl (.i2 .nil) .nil)) rfl (.cons .im (.cons (.r rfl) (.cons (.r rfl) (.i2 .nil)))))⟩
   refine Y0 (OpsW.sg 2 [9,8,5,3,1] ((9,.bool (t0.Op==3))::(8,.j t0.Op)::(Z2y t1)) ?_);refine Y2 (Yd (b:=t0.Op==3) H rfl (fun c10 H=> ?_) (fun c10 H=> ?_))
   ·refine Ym ?_;exact⟨t0.Op==3,H,(StC.mk (phi [(3,some 3),(5,some 5)]) (.o rfl (.i2 .nil) (.o rfl (.i2 .nil) .nil)) rfl (.cons .im (.cons (.r rfl) (.cons (.r rfl) (.i2 .nil)))))⟩
   refine Y0 (OpsW.sg 2 [9,8,5,3,1] ((9,.bool (t0.Op==4))::(8,.j t0.Op)::(Z2y t1)) ?_);refine Y2 (Yd (b:=t0.Op==4) H rfl (fun c11 H=> ?_) (fun c11 H=> ?_))
   ·refine Ym ?_;exact⟨t0.Op==4,H,(StC.mk (phi [(3,some 3),(5,some 5)]) (.o rfl (.i2 .nil) (.o rfl (.i2 .nil) .nil)) rfl (.cons .im (.cons (.r rfl) (.cons (.r rfl) (.i2 .nil)))))⟩
   refine Yo (OpsW.sg 2 [9,8,5,3,1] ((9,.bool (t0.Op==5))::(8,.j t0.Op)::(Z2y t1)) ?_);refine Y2 ?_;exact⟨t0.Op==5,H,(StC.mk (phi [(3,some 3),(5,some 5)]) (.o rfl (.i2 .nil) (.o rfl (.i2 .nil) .nil)) rfl (.cons .im (.cons (.r rfl) (.cons (.r rfl) (.i2 .nil)))))⟩
  intro v1 H;unfold Y2n at H;change AW _ _ _ [(1,.j t1),(3,.ref 3 0 0),(5,.ref 5 0 0),(8,.j t0.Op),(9,.bool v1)] (Z2z t0 t2) _;refine Yd (b:=v1) H rfl (fun c2 H=> ?_) (fun c2 H=> ?_)
  ·refine Y0g (Y0 (OpsW.sg 2 [15,3,5] (Z2x t1) ?_));refine Y2 (Yd (b:=t1==0) H rfl (fun c3 H=> ?_) (fun c3 H=> ?_))
   ·refine Y3b Tryd.checked.mixed (by kernel_rfl)<|QOps.sz (N:=35) 2 ((17,.j t2.Op)::(16,.ref 5 0 0)::(Z2x t1)) trivial ?_;have⟨x4,hx4,H⟩:=Y0o H;refine QOps.qcall rfl (by kernel_rfl) rfl (Y0r trivial) (.cons (.pur rfl) .nil) (Y3h hx4) rfl (QOps.sz (N:=35) 2 ((20,.j t0.Op)::(19,.ref 3 0 0)::(18,.j x4)::(17,.j t2.Op)::(16,.ref 5 0 0)::(Z2x t1)) trivial ?_);have⟨x5,hx5,H⟩:=Y0o H;refine QOps.qcall rfl (by kernel_rfl) rfl (Y0r trivial) (.cons (.pur rfl) .nil) (Y3h hx5) rfl (QOps.sz (N:=35) 2 ((6,.bool (decide (x5≤x4)))::(22,.bool (decide (x5≤x4)))::(21,.j x5)::(20,.j t0.Op)::(19,.ref 3 0 0)::(18,.j x4)::(17,.j t2.Op)::(16,.ref 5 0 0)::(Z2x t1)) trivial ?_);refine QOps.nil (AW.trim [6] [(6,.bool (decide (x5≤x4)))] (by kernel_rfl) ?_);obtain rfl:=X6 H;refine AW.recast (env':=[(6,.bool (decide (x5≤x4)))]) (h':=[]) (StC.pure (.cons .im .nil)) (Y03 ?_)
    try simp only[Ex.t,Ex.b]
    exact Yw rfl (.tmp .nil)
   refine Ym (Y3b Tryd.checked.mixed (by kernel_rfl) ?_);refine QOps.sz (N:=35) 2 ((24,.j t2.Op)::(23,.ref 5 0 0)::(Z2x t1)) trivial ?_;have⟨x6,hx6,H⟩:=Y0o H;refine QOps.qcall rfl (by kernel_rfl) rfl (Y0r trivial) (.cons (.pur rfl) .nil) (Y3h hx6) rfl (QOps.sz (N:=35) 2 ((27,.j t0.Op)::(26,.ref 3 0 0)::(25,.j x6)::(24,.j t2.Op)::(23,.ref 5 0 0)::(Z2x t1)) trivial ?_);have⟨x7,hx7,H⟩:=Y0o H;refine QOps.qcall rfl (by kernel_rfl) rfl (Y0r trivial) (.cons (.pur rfl) .nil) (Y3h hx7) rfl (QOps.sz (N:=35) 2 ((6,.bool (decide (x7<x6)))::(29,.bool (decide (x7<x6)))::(28,.j x7)::(27,.j t0.Op)::(26,.ref 3 0 0)::(25,.j x6)::(24,.j t2.Op)::(23,.ref 5 0 0)::(Z2x t1)) trivial ?_);refine QOps.nil (AW.trim [6] [(6,.bool (decide (x7<x6)))] (by kernel_rfl) ?_);obtain rfl:=X6 H;refine AW.recast (env':=[(6,.bool (decide (x7<x6)))]) (h':=[]) (StC.pure (.cons .im .nil)) (Y03 ?_)
   try simp only[Ex.t,Ex.b]
   exact Yw rfl (.tmp .nil)
  refine Y0 (OpsW.sg 2 [30,5] [(30,.bool (t0.Op==12)),(5,.ref 5 0 0)] ?_);refine Y2 (Yd (b:=t0.Op==12) H rfl (fun c8 H=> ?_) (fun c8 H=> ?_))
  ·refine Y0 (OpsW.sg 4 [6] [(6,.bool (t2.Op==0))] ?_);refine Y2 ?_;obtain rfl:=X6 H;refine AW.recast (env':=[(6,.bool (t2.Op==0))]) (h':=[]) (StC.pure (.cons .im .nil)) (Y03 ?_)
   try simp only[Ex.t,Ex.b]
   exact Yw rfl (.tmp .nil)
  refine Ym ?_;exact⟨(),H,(StC.pure .nil)⟩
 rintro⟨⟩ H;unfold Y4q at H;change AW _ _ _ [] [] _;refine Y0 (OpsW.sg 1 [6] [(6,.bool true)] ?_);refine Y2 ?_;obtain rfl:=X6 H;refine AW.recast (env':=[(6,.bool true)]) (h':=[]) (StC.pure (.cons .im .nil)) (Y03 ?_)
 try simp only[Ex.t,Ex.b]
 exact Yw rfl (.tmp .nil)
def Y0t (ra3:(List Y4)→Int→Option (Int×Int×Bool)) (t0:List Y4) (t1:Int) (x3:Int×Bool) (loop9:(Int×Int×Int)→Option (Int×Int×Bool)) (v6:Int) (v7:Int) (v8:Int):Option (Int×Int×Bool):=
 cond (decide (v8<x3.1)) (
  G ((!(decide ((t0.length:Int)≤v6)))=true→(0≤v6∧v6<(t0.length:Int)))<|
  (cond (!(decide ((t0.length:Int)≤v6))) (Y50 (t0.getD t1.toNat Yl) v8 (t0.getD v6.toNat Yl)) (some false)).bind fun x12=>
  cond (cond (decide ((t0.length:Int)≤v6)) true (!x12)) (
   some ((0:Int),(0:Int),false)) (
   (ra3 t0 v6).bind fun x14=>
   cond (!x14.2.2) (
    some ((0:Int),(0:Int),false)) (
    G (inR (x14.2.1+1))<|
    G (inR (v8+1))<|
    loop9 (x14.1,(if(x14.2.1+1)>v7 then(x14.2.1+1) else v7),v8+1)))) (
  some (v6,v7,true))
def Y40 (ra3:(List Y4)→Int→Option (Int×Int×Bool)) (t0:List Y4) (t1:Int):Option (Int×Int×Bool):=
 cond (decide ((t0.length:Int)≤t1)) (
  some ((0:Int),(0:Int),false)) (
  G (0≤t1∧t1<(t0.length:Int))<|
  (Y3t (t0.getD t1.toNat Yl)).bind fun x3=>
  cond (!x3.2) (
   some ((0:Int),(0:Int),false)) (
   G (inR (t1+1))<|
   iter (fun loop (s:Int×Int×Int)=>Y0t ra3 t0 t1 x3 loop s.1 s.2.1 s.2.2) 1000000 (t1+1,(1:Int),(0:Int))))
section
variable (t0:List Y4) (t1:Int) (v6:Int) (v7:Int) (v8:Int) (x3:Int×Bool)
abbrev Z37:=(decide ((t0.length:Int)≤v6))
abbrev Z38:List AV:=[.j ((t0.getD t1.toNat Yl).Op),.j ((t0.getD t1.toNat Yl).N)]
abbrev Z39:=t0.getD v6.toNat Yl
abbrev Z30:Env:=[(42,.cnd (!(Z37 t0 v6)) (.ipt (t0.flatMap Y7) (t1.toNat*2))),(41,.cnd (!(Z37 t0 v6)) (.j t1)),(40,.cnd (!(Z37 t0 v6)) (slA Y7 t0)),(39,.bool (Z37 t0 v6)),(38,.bool (Z37 t0 v6)),(37,.j (t0.length:Int)),(36,slA Y7 t0),(35,.j v6),(11,.j v8),(0,slA Y7 t0),(1,.j t1),(9,.j v6),(10,.j v7),(31,.j x3.1),(32,.j v8)]
abbrev Z31:Env:=(47,.cnd (!(Z37 t0 v6)) (.ipt (t0.flatMap Y7) (v6.toNat*2)))::(46,.cnd (!(Z37 t0 v6)) (.j v6))::(45,.cnd (!(Z37 t0 v6)) (slA Y7 t0))::(44,.cnd (!(Z37 t0 v6)) (.j v8))::(43,.cnd (!(Z37 t0 v6)) (.agg (Z38 t0 t1)))::(Z30 t0 t1 v6 v7 v8 x3)
abbrev Z32:Env:=[(0,slA Y7 t0),(1,.j t1),(9,.j v6),(10,.j v7),(31,.j x3.1),(32,.j v8)]
abbrev Z33:Env:=[(6,.bool false),(5,.j (0:Int)),(4,.j (0:Int))]
abbrev Z34:Env:=[(4,.j (0:Int)),(5,.j (0:Int)),(6,.bool false)]
abbrev Z35:Env:=[(0,slA Y7 t0),(1,.j t1)]
abbrev Z36:Env:=[(0,slA Y7 t0),(1,.j t1),(10,.j v7),(31,.j x3.1),(32,.j v8)]
end
theorem f_formula_measure_body_ok{ra3:(List Y4)→Int→Option (Int×Int×Bool)}(hra3:∀(t0:List Y4) (t1:Int) (r:Int×Int×Bool),ra3 t0 t1=some r→QSpec Tryd.prog 73 [slA Y7 t0,.int .i64 t1] (.tup [.int .i64 r.1,.int .i64 r.2.1,.bool r.2.2])){t0:List Y4}{t1:Int}{r:Int×Int×Bool}(H:Y40 ra3 t0 t1=some r):QSpec Tryd.prog 73 [slA Y7 t0,.int .i64 t1] (.tup [.int .i64 r.1,.int .i64 r.2.1,.bool r.2.2]):=by
 refine Y01 Tryd.func73 rfl (by simp[Tryd.ntmps73]) ?_;rw[Tryd.ntmps73];unfold Y40 at H;change AW _ _ _ (Z35 t0 t1) [] _;refine Y0 (OpsW.sg 3 [0,1] (Z35 t0 t1) ?_);refine Y2 (Y0g (Y0 (OpsW.sg 4 [18,0,1] ((18,.bool (decide ((t0.length:Int)≤t1)))::(Z35 t0 t1)) ?_)));refine Y2 (Yd (b:=decide ((t0.length:Int)≤t1)) H rfl (fun c1 H=> ?_) (fun c1 H=> ?_))
 ·refine Y0 (OpsW.sg 3 [6,5,4] Z33 ?_);refine Y2 ?_;obtain rfl:=X6 H;refine AW.recast (env':=Z34) (h':=[]) (StC.pure (.i3 .nil)) (Y03 ?_)
  try simp only[Ex.t,Ex.b]
  exact Yw rfl (.tmp (.tmp (.tmp .nil)))
 refine Ym (Y0 ?_);have⟨g2,H⟩:=Yx H;refine Yq 3 [22,0,1] ((22,.ipt (t0.flatMap Y7) (t1.toNat*2))::(Z35 t0 t1)) ⟨g2,trivial⟩ (OpsW.asU (.agg (Z38 t0 t1)) rfl rfl (T.loadAgg (cs:=t0.flatMap Y7) (off:=t1.toNat*2) (ds:=Y7 (t0.getD t1.toNat Yl)) rfl trivial (by kernel_rfl) (by have:=Y0z Y7 2 (fun _=>rfl) t0;have:=(ltN g2);omega) (fm_elem Y7 2 (fun _=>rfl) t0 Yl t1.toNat (ltN g2))) ?_);have⟨x3,hx3,H⟩:=Y0o H;refine Y1m rfl (.cons (.pur rfl) .nil) (f_formula_arity_ok hx3) (OpsW.sg 5 [8,7,0,1] ((8,.bool x3.2)::(7,.j x3.1)::(Z35 t0 t1)) ?_);refine Y2 (Y0g (Y0 (OpsW.sg 2 [28,7,0,1] ((28,.bool (!x3.2))::(7,.j x3.1)::(Z35 t0 t1)) ?_)));refine Y2 (Yd (b:= !x3.2) H rfl (fun c4 H=> ?_) (fun c4 H=> ?_))
 ·refine Y0 (OpsW.sg 3 [6,5,4] Z33 ?_);refine Y2 ?_;obtain rfl:=X6 H;refine AW.recast (env':=Z34) (h':=[]) (StC.pure (.i3 .nil)) (Y03 ?_)
  try simp only[Ex.t,Ex.b]
  exact Yw rfl (.tmp (.tmp (.tmp .nil)))
 refine Ym (Y0 ?_);have⟨g5,H⟩:=Yx H;refine Yq 4 [10,9,7,0,1] ((10,.j (1:Int))::(9,.j (t1+1))::(7,.j x3.1)::(Z35 t0 t1)) ⟨g5,trivial⟩<|Y2 (Y0g (Y0 (OpsW.sg 2 [32,31,10,9,0,1] ((32,.j (0:Int))::(31,.j x3.1)::(10,.j (1:Int))::(9,.j (t1+1))::(Z35 t0 t1)) ?_)));refine Y2 (Y0f ?_);refine Y4f (fun loop (s:Int×Int×Int)=>Y0t ra3 t0 t1 x3 loop s.1 s.2.1 s.2.2) r (fun(s:Int×Int×Int)=>[(0,slA Y7 t0),(1,.j t1),(9,.j s.1),(10,.j s.2.1),(31,.j x3.1),(32,.j s.2.2)]) (fun(s:Int×Int×Int)=>[]) ?_ 1000000 (t1+1,(1:Int),(0:Int)) H (StC.pure (.i6 .nil));intro loop9 s H;have⟨v6,v7,v8⟩:=s;unfold Y0t at H;change AW _ _ _ (Z32 t0 t1 v6 v7 v8 x3) [] _;refine Y0 (OpsW.sg 1 [33,0,1,9,10,31,32] ((33,.bool (decide (v8<x3.1)))::(Z32 t0 t1 v6 v7 v8 x3)) ?_);refine Y2 (Y0g (Yd (b:=decide (v8<x3.1)) H rfl (fun c10 H=> ?_) (fun c10 H=> ?_)))
 ·refine Ym (Y0g (Y0f (Y0 (OpsW.sg 2 [11,0,1,9,10,31,32] ((11,.j v8)::(Z32 t0 t1 v6 v7 v8 x3)) ?_))));refine Y2 (Y0g (Y3b Tryd.checked.mixed (by kernel_rfl) ?_));refine QOps.sz (N:=69) 8 (Z30 t0 t1 v6 v7 v8 x3) ⟨(fun h=>h),(fun h=>h),(fun _=>g2),trivial⟩ (QOps.asG (c:= !(Z37 t0 v6)) (.agg (Z38 t0 t1)) rfl rfl rfl (fun hc=>T.loadAgg (cs:=t0.flatMap Y7) (off:=t1.toNat*2) (ds:=Y7 (t0.getD t1.toNat Yl)) rfl hc (by kernel_rfl) (by have:=Y0z Y7 2 (fun _=>rfl) t0;have:=(ltN g2);first|omega|(simp only[Z37] at*;omega)) (fm_elem Y7 2 (fun _=>rfl) t0 Yl t1.toNat (ltN g2))) ?_);have⟨g11,H⟩:=Yx H;refine QOps.sz (N:=69) 4 (Z31 t0 t1 v6 v7 v8 x3) ⟨(fun h=>h),(fun h=>h),g11,trivial⟩ (QOps.asG (c:= !(Z37 t0 v6)) (.agg [.j ((Z39 t0 v6).Op),.j ((Z39 t0 v6).N)]) rfl rfl rfl (fun hc=>T.loadAgg (cs:=t0.flatMap Y7) (off:=v6.toNat*2) (ds:=Y7 (Z39 t0 v6)) rfl hc (by kernel_rfl) (by have:=Y0z Y7 2 (fun _=>rfl) t0;have:=(ltN (g11 hc));first|omega|(simp only[Z37,Z39] at*;omega)) (fm_elem Y7 2 (fun _=>rfl) t0 Yl v6.toNat (ltN (g11 hc)))) ?_);have⟨x12,hx12,H⟩:=Y0o H
  refine QOps.gcall (c:= !(Z37 t0 v6)) (r:=.bool x12) [] rfl (by kernel_rfl) rfl rfl rfl (fun hc=>⟨Y0r ⟨hc,hc,hc,trivial⟩,(.cons (.pur rfl) (.cons (.pur rfl) (.cons (.pur rfl) .nil))),f_formula_admits_ok (condT hc hx12),.inl ⟨rfl,rfl⟩⟩) (QOps.sz (N:=69) 2 ((51,.bool (cond (Z37 t0 v6) true (!x12)))::(50,.cnd (!(Z37 t0 v6)) (.bool (!x12)))::(49,.cnd (!(Z37 t0 v6)) (.bool x12))::(48,.cnd (!(Z37 t0 v6)) (.agg [.j ((Z39 t0 v6).Op),.j ((Z39 t0 v6).N)]))::(Z31 t0 t1 v6 v7 v8 x3)) ⟨(fun h=>h),(fun h=>by first|exact h|(simpa using h)|grind),trivial⟩ ?_);refine QOps.nil (AW.trim [51,0,1,9,10,31,32] ((51,.bool (cond (Z37 t0 v6) true (!x12)))::(Z32 t0 t1 v6 v7 v8 x3)) (by kernel_rfl) ?_);refine Yd (b:=cond (Z37 t0 v6) true (!x12)) H rfl (fun c13 H=> ?_) (fun c13 H=> ?_)
  ·refine Y0 (OpsW.sg 3 [6,5,4] Z33 ?_);refine Y2 ?_;obtain rfl:=X6 H;refine AW.recast (env':=Z34) (h':=[]) (StC.pure (.i3 .nil)) (Y03 ?_)
   try simp only[Ex.t,Ex.b]
   exact Yw rfl (.tmp (.tmp (.tmp .nil)))
  refine Ym (Y0 (OpsW.sg 2 [54,53,0,1,10,31,32] ((54,.j v6)::(53,slA Y7 t0)::(Z36 t0 t1 v7 v8 x3)) ?_));have⟨x14,hx14,H⟩:=Y0o H;refine Y1m rfl (.cons (.pur rfl) (.cons (.pur rfl) .nil)) (hra3 _ _ _ hx14) (OpsW.sg 7 [14,13,12,0,1,10,31,32] ((14,.bool x14.2.2)::(13,.j x14.2.1)::(12,.j x14.1)::(Z36 t0 t1 v7 v8 x3)) ?_);refine Y2 (Y0g (Y0 (OpsW.sg 2 [60,13,12,0,1,10,31,32] ((60,.bool (!x14.2.2))::(13,.j x14.2.1)::(12,.j x14.1)::(Z36 t0 t1 v7 v8 x3)) ?_)));refine Y2 (Yd (b:= !x14.2.2) H rfl (fun c15 H=> ?_) (fun c15 H=> ?_))
  ·refine Y0 (OpsW.sg 3 [6,5,4] Z33 ?_);refine Y2 ?_;obtain rfl:=X6 H;refine AW.recast (env':=Z34) (h':=[]) (StC.pure (.i3 .nil)) (Y03 ?_)
   try simp only[Ex.t,Ex.b]
   exact Yw rfl (.tmp (.tmp (.tmp .nil)))
  refine Ym (Yo ?_);have⟨g16,H⟩:=Yx H;refine Yq 7 [10,9,0,1,31,32] [(10,.j (if(x14.2.1+1)>v7 then(x14.2.1+1) else v7)),(9,.j x14.1),(0,slA Y7 t0),(1,.j t1),(31,.j x3.1),(32,.j v8)] ⟨g16,trivial⟩<|Y2 (Yo ?_);have⟨g17,H⟩:=Yx H;refine Yq 2 [32,10,9,0,1,31] [(32,.j (v8+1)),(10,.j (if(x14.2.1+1)>v7 then(x14.2.1+1) else v7)),(9,.j x14.1),(0,slA Y7 t0),(1,.j t1),(31,.j x3.1)] ⟨g17,trivial⟩ (Y2 ?_);exact⟨(x14.1,(if(x14.2.1+1)>v7 then(x14.2.1+1) else v7),v8+1),H,(StC.pure (.i6 .nil))⟩
 refine AW.exit<|Y0 (OpsW.sg 5 [6,5,4] [(6,.bool true),(5,.j v7),(4,.j v6)] ?_);refine Y2 ?_;obtain rfl:=X6 H;refine AW.recast (env':=[(4,.j v6),(5,.j v7),(6,.bool true)]) (h':=[]) (StC.pure (.i3 .nil)) (Y03 ?_)
 try simp only[Ex.t,Ex.b]
 exact Yw rfl (.tmp (.tmp (.tmp .nil)))
def Y10:Nat→(List Y4)→Int→Option (Int×Int×Bool)
 |0,_,_=>none
 |n+1,t0,t1=>Y40 (Y10 n) t0 t1
theorem f_formula_measure_all:∀n:Nat,(∀(t0:List Y4) (t1:Int) (r:Int×Int×Bool),Y10 n t0 t1=some r→QSpec Tryd.prog 73 [slA Y7 t0,.int .i64 t1] (.tup [.int .i64 r.1,.int .i64 r.2.1,.bool r.2.2]))∧True
 |0=>by
  refine⟨?_,trivial⟩
  ·intro t0 t1 r H;rw[Y10] at H;cases H
 |n+1=>by
  have ih:=f_formula_measure_all n;refine⟨?_,trivial⟩
  ·intro t0 t1 r H;rw[Y10] at H;exact f_formula_measure_body_ok ih.1 H
def Y5r (t0:List Y4) (t1:Int):Option (Int×Int×Bool):=Y10 1000000 t0 t1
theorem f_formula_measure_ok{t0:List Y4}{t1:Int}{r:Int×Int×Bool}(H:Y5r t0 t1=some r):QSpec Tryd.prog 73 [slA Y7 t0,.int .i64 t1] (.tup [.int .i64 r.1,.int .i64 r.2.1,.bool r.2.2]):=
 (f_formula_measure_all 1000000).1 t0 t1 r H
def f_formula_Depth (t0:List Y4):Option Int:=
 cond (decide ((60:Int)<(t0.length:Int))) (
  some (0:Int)) (
  (Y5r t0 (0:Int)).bind fun x2=>
  cond (cond (cond (!x2.2.2) true (x2.1 !=(t0.length:Int))) true (decide (8<x2.2.1))) (
   some (0:Int)) (
   some x2.2.1))
theorem f_formula_Depth_ok{t0:List Y4}{r:Int}(H:f_formula_Depth t0=some r):QSpec Tryd.prog 39 [slA Y7 t0] (.int .i64 r):=by
 refine Y01 Tryd.func39 rfl (by simp[Tryd.ntmps39]) ?_;rw[Tryd.ntmps39];unfold f_formula_Depth at H;change AW _ _ _ [(0,slA Y7 t0)] [] _;refine Y0 (OpsW.sg 1 [0] [(0,slA Y7 t0)] ?_);refine Y2 (Y0g (Y0 (OpsW.sg 3 [8,0] [(8,.bool (decide ((60:Int)<(t0.length:Int)))),(0,slA Y7 t0)] ?_)));refine Y2 (Yd (b:=decide ((60:Int)<(t0.length:Int))) H rfl (fun c1 H=> ?_) (fun c1 H=> ?_))
 ·refine Y0 (OpsW.sg 1 [2] [(2,.j (0:Int))] ?_);refine Y2 ?_;obtain rfl:=X6 H;refine AW.recast (env':=[(2,.j (0:Int))]) (h':=[]) (StC.pure (.cons .im .nil)) (Y03 ?_)
  try simp only[Ex.t,Ex.b]
  exact Yw rfl (.tmp .nil)
 refine Ym (Y0 (OpsW.sg 1 [10,0] [(10,slA Y7 t0),(0,slA Y7 t0)] ?_));have⟨x2,hx2,H⟩:=Y0o H;refine Y1m rfl (.cons (.pur rfl) (.cons (.pur rfl) .nil)) (f_formula_measure_ok hx2) (OpsW.sg 7 [5,4,3,0] [(5,.bool x2.2.2),(4,.j x2.2.1),(3,.j x2.1),(0,slA Y7 t0)] ?_);refine Y2 (Y0g (Y0 (Yq 12 [26,4] [(26,.bool (cond (cond (!x2.2.2) true (x2.1 !=(t0.length:Int))) true (decide (8<x2.2.1)))),(4,.j x2.2.1)] ⟨(fun h=>h),(fun h=>h),(fun h=>h),(fun h=>by first|exact h|(simpa using h)|grind),(fun h=>h),(fun h=>by first|exact h|(simpa using h)|grind),trivial⟩ ?_)));refine Y2 (Yd (b:=cond (cond (!x2.2.2) true (x2.1 !=(t0.length:Int))) true (decide (8<x2.2.1))) H rfl (fun c3 H=> ?_) (fun c3 H=> ?_))
 ·refine Y0 (OpsW.sg 1 [2] [(2,.j (0:Int))] ?_);refine Y2 ?_;obtain rfl:=X6 H;refine AW.recast (env':=[(2,.j (0:Int))]) (h':=[]) (StC.pure (.cons .im .nil)) (Y03 ?_)
  try simp only[Ex.t,Ex.b]
  exact Yw rfl (.tmp .nil)
 refine Ym (Y0 (OpsW.sg 2 [2] [(2,.j x2.2.1)] ?_));refine Y2 ?_;obtain rfl:=X6 H;refine AW.recast (env':=[(2,.j x2.2.1)]) (h':=[]) (StC.pure (.cons .im .nil)) (Y03 ?_)
 try simp only[Ex.t,Ex.b]
 exact Yw rfl (.tmp .nil)
def Y5j (t0:List Y4):Option Bool:=
 (f_formula_Depth t0).bind fun x1=>
 some (decide (0<x1))
theorem f_formula_Valid_ok{t0:List Y4}{r:Bool}(H:Y5j t0=some r):QSpec Tryd.prog 22 [slA Y7 t0] (.bool r):=by
 refine Y01 Tryd.func22 rfl (by simp[Tryd.ntmps22]) ?_;rw[Tryd.ntmps22];unfold Y5j at H;change AW _ _ _ [(0,slA Y7 t0)] [] _;refine Y0 (OpsW.sg 1 [0] [(0,slA Y7 t0)] ?_);refine Y2 (Y0 (OpsW.sg 1 [3] [(3,slA Y7 t0)] ?_));have⟨x1,hx1,H⟩:=Y0o H;refine Y1m rfl (.cons (.pur rfl) .nil) (f_formula_Depth_ok hx1) (OpsW.sg 2 [2] [(2,.bool (decide (0<x1)))] (Y2 ?_));obtain rfl:=X6 H;refine AW.recast (env':=[(2,.bool (decide (0<x1)))]) (h':=[]) (StC.pure (.cons .im .nil)) (Y03 ?_)
 try simp only[Ex.t,Ex.b]
 exact Yw rfl (.tmp .nil)
def f_linear_sign (t0:Int):Option (List Int):=
 cond (t0==2) (
  some [(44:Int)]) (
  cond (t0==3) (
   some [(36:Int)]) (
   cond (t0==4) (
    some [(33:Int)]) (
    some [(0:Int),(54:Int),(0:Int)])))
theorem f_linear_sign_ok{t0:Int}{r:List Int}(H:f_linear_sign t0=some r):QSpec Tryd.prog 42 [.int .i64 t0] (slA (eI .u8) r):=by
 refine Y01 Tryd.func42 rfl (by simp[Tryd.ntmps42]) ?_;rw[Tryd.ntmps42];unfold f_linear_sign at H;change AW _ _ _ [(0,.j t0)] [] _;refine Y0 (OpsW.sg 1 [0] [(0,.j t0)] ?_);refine Y2 (Y0g (Y0 (OpsW.sg 1 [3] [(3,.j t0)] ?_)));refine Y2 (Y0f (Y0 (OpsW.sg 2 [4,3] [(4,.bool (t0==2)),(3,.j t0)] ?_)));refine Y2 (Yd (b:=t0==2) H rfl (fun c1 H=> ?_) (fun c1 H=> ?_))
 ·refine Y0 (OpsW.buildTI (enc:=eI .u8) [(44:Int)] rfl rfl rfl E28 (fun _=>rfl) (by decide) ⟨trivial,by kernel_rfl,by kernel_rfl,by kernel_rfl,rfl⟩ ?_);refine OpsW.sg 1 [2] [(2,sU [(44:Int)])] (Y2 ?_);obtain rfl:=X6 H;refine AW.recast (env':=[(2,sU [(44:Int)])]) (h':=[]) (StC.pure (.cons .im .nil)) (Y03 ?_)
  try simp only[Ex.t,Ex.b]
  exact Yw rfl (.tmp .nil)
 refine Y0 (OpsW.sg 2 [7,3] [(7,.bool (t0==3)),(3,.j t0)] ?_);refine Y2 (Yd (b:=t0==3) H rfl (fun c2 H=> ?_) (fun c2 H=> ?_))
 ·refine Y0 (OpsW.buildTI (enc:=eI .u8) [(36:Int)] rfl rfl rfl E28 (fun _=>rfl) (by decide) ⟨trivial,by kernel_rfl,by kernel_rfl,by kernel_rfl,rfl⟩ ?_);refine OpsW.sg 1 [2] [(2,sU [(36:Int)])] (Y2 ?_);obtain rfl:=X6 H;refine AW.recast (env':=[(2,sU [(36:Int)])]) (h':=[]) (StC.pure (.cons .im .nil)) (Y03 ?_)
  try simp only[Ex.t,Ex.b]
  exact Yw rfl (.tmp .nil)
 refine Y0 (OpsW.sg 2 [10] [(10,.bool (t0==4))] ?_);refine Y2 (Yd (b:=t0==4) H rfl (fun c3 H=> ?_) (fun c3 H=> ?_))
 ·refine Y0 (OpsW.buildTI (enc:=eI .u8) [(33:Int)] rfl rfl rfl E28 (fun _=>rfl) (by decide) ⟨trivial,by kernel_rfl,by kernel_rfl,by kernel_rfl,rfl⟩ ?_);refine OpsW.sg 1 [2] [(2,sU [(33:Int)])] (Y2 ?_);obtain rfl:=X6 H;refine AW.recast (env':=[(2,sU [(33:Int)])]) (h':=[]) (StC.pure (.cons .im .nil)) (Y03 ?_)
  try simp only[Ex.t,Ex.b]
  exact Yw rfl (.tmp .nil)
 refine Ym (Y0 (OpsW.buildTI (enc:=eI .u8) [(0:Int),(54:Int),(0:Int)] rfl rfl rfl E28 (fun _=>rfl) (by decide) ⟨trivial,by kernel_rfl,by kernel_rfl,by kernel_rfl,rfl⟩ ?_));refine OpsW.sg 1 [2] [(2,sU [(0:Int),(54:Int),(0:Int)])] (Y2 ?_);obtain rfl:=X6 H;refine AW.recast (env':=[(2,sU [(0:Int),(54:Int),(0:Int)])]) (h':=[]) (StC.pure (.cons .im .nil)) (Y03 ?_)
 try simp only[Ex.t,Ex.b]
 exact Yw rfl (.tmp .nil)
def f_linear_simple_k1:Option Bool:=
 some false
def Y1j (v1:Bool):Option Bool:=
 cond v1 (
  some true) (
  f_linear_simple_k1)
def f_linear_simple (t0:Int):Option Bool:=
 cond (t0==0) (
  Y1j (t0==0)) (
  cond (t0==1) (
   Y1j (t0==1)) (
   cond (t0==6) (
    Y1j (t0==6)) (
    cond (t0==9) (
     Y1j (t0==9)) (
     cond (t0==10) (
      Y1j (t0==10)) (
      cond (t0==11) (
       Y1j (t0==11)) (
       cond (t0==12) (
        Y1j (t0==12)) (
        Y1j (t0==13))))))))
theorem f_linear_simple_ok{t0:Int}{r:Bool}(H:f_linear_simple t0=some r):QSpec Tryd.prog 74 [.int .i64 t0] (.bool r):=by
 refine Y01 Tryd.func74 rfl (by simp[Tryd.ntmps74]) ?_;rw[Tryd.ntmps74];unfold f_linear_simple at H;change AW _ _ _ [(0,.j t0)] [] _;refine Y0 (OpsW.sg 1 [0] [(0,.j t0)] ?_);refine Y2<|Y20 (fun(y:Unit)=>f_linear_simple_k1) r (fun(y:Unit)=>[]) (fun(y:Unit)=>[]) ?_ ?_
 ·refine Y0 (OpsW.sg 1 [3] [(3,.j t0)] ?_);refine Y2 (Y0f ?_);refine Y20 (fun(y:Bool)=>Y1j y) r (fun(y:Bool)=>[(4,.bool y)]) (fun(y:Bool)=>[]) ?_ ?_
  ·refine Y0 (OpsW.sg 2 [4,3] [(4,.bool (t0==0)),(3,.j t0)] ?_);refine Y2 (Yd (b:=t0==0) H rfl (fun c3 H=> ?_) (fun c3 H=> ?_))
   ·refine Ym ?_;exact⟨t0==0,H,(StC.pure (.cons .im .nil))⟩
   refine Y0 (OpsW.sg 2 [4,3] [(4,.bool (t0==1)),(3,.j t0)] ?_);refine Y2 (Yd (b:=t0==1) H rfl (fun c4 H=> ?_) (fun c4 H=> ?_))
   ·refine Ym ?_;exact⟨t0==1,H,(StC.pure (.cons .im .nil))⟩
   refine Y0 (OpsW.sg 2 [4,3] [(4,.bool (t0==6)),(3,.j t0)] ?_);refine Y2 (Yd (b:=t0==6) H rfl (fun c5 H=> ?_) (fun c5 H=> ?_))
   ·refine Ym ?_;exact⟨t0==6,H,(StC.pure (.cons .im .nil))⟩
   refine Y0 (OpsW.sg 2 [4,3] [(4,.bool (t0==9)),(3,.j t0)] ?_);refine Y2 (Yd (b:=t0==9) H rfl (fun c6 H=> ?_) (fun c6 H=> ?_))
   ·refine Ym ?_;exact⟨t0==9,H,(StC.pure (.cons .im .nil))⟩
   refine Y0 (OpsW.sg 2 [4,3] [(4,.bool (t0==10)),(3,.j t0)] ?_);refine Y2 (Yd (b:=t0==10) H rfl (fun c7 H=> ?_) (fun c7 H=> ?_))
   ·refine Ym ?_;exact⟨t0==10,H,(StC.pure (.cons .im .nil))⟩
   refine Y0 (OpsW.sg 2 [4,3] [(4,.bool (t0==11)),(3,.j t0)] ?_);refine Y2 (Yd (b:=t0==11) H rfl (fun c8 H=> ?_) (fun c8 H=> ?_))
   ·refine Ym ?_;exact⟨t0==11,H,(StC.pure (.cons .im .nil))⟩
   refine Y0 (OpsW.sg 2 [4,3] [(4,.bool (t0==12)),(3,.j t0)] ?_);refine Y2 (Yd (b:=t0==12) H rfl (fun c9 H=> ?_) (fun c9 H=> ?_))
   ·refine Ym ?_;exact⟨t0==12,H,(StC.pure (.cons .im .nil))⟩
   refine Yo (OpsW.sg 2 [4] [(4,.bool (t0==13))] ?_);refine Y2 ?_;exact⟨t0==13,H,(StC.pure (.cons .im .nil))⟩
  intro v1 H;unfold Y1j at H;change AW _ _ _ [(4,.bool v1)] [] _;refine Yd (b:=v1) H rfl (fun c2 H=> ?_) (fun c2 H=> ?_)
  ·refine Y0 (OpsW.sg 1 [2] [(2,.bool true)] ?_);refine Y2 ?_;obtain rfl:=X6 H;refine AW.recast (env':=[(2,.bool true)]) (h':=[]) (StC.pure (.cons .im .nil)) (Y03 ?_)
   try simp only[Ex.t,Ex.b]
   exact Yw rfl (.tmp .nil)
  refine Ym ?_;exact⟨(),H,(StC.pure .nil)⟩
 rintro⟨⟩ H;unfold f_linear_simple_k1 at H;change AW _ _ _ [] [] _;refine Y0 (OpsW.sg 1 [2] [(2,.bool false)] ?_);refine Y2 ?_;obtain rfl:=X6 H;refine AW.recast (env':=[(2,.bool false)]) (h':=[]) (StC.pure (.cons .im .nil)) (Y03 ?_)
 try simp only[Ex.t,Ex.b]
 exact Yw rfl (.tmp .nil)
def Y4i (t0:Int):Option Int:=
 cond (t0==7) (
  some (24:Int)) (
  some (6:Int))
theorem f_linear_exponent_ok{t0:Int}{r:Int}(H:Y4i t0=some r):QSpec Tryd.prog 75 [.int .i64 t0] (.int .u8 r):=by
 refine Y01 Tryd.func75 rfl (by simp[Tryd.ntmps75]) ?_;rw[Tryd.ntmps75];unfold Y4i at H;change AW _ _ _ [(0,.j t0)] [] _;refine Y0 (OpsW.sg 1 [0] [(0,.j t0)] ?_);refine Y2 (Y0g (Y0 (OpsW.sg 2 [4] [(4,.bool (t0==7))] ?_)));refine Y2 (Yd (b:=t0==7) H rfl (fun c1 H=> ?_) (fun c1 H=> ?_))
 ·refine Y0 (OpsW.sg 1 [2] [(2,.int .u8 24)] ?_);refine Y2 ?_;obtain rfl:=X6 H;refine AW.recast (env':=[(2,.int .u8 24)]) (h':=[]) (StC.pure (.cons .im .nil)) (Y03 ?_)
  try simp only[Ex.t,Ex.b]
  exact Yw rfl (.tmp .nil)
 refine Ym (Y0 (OpsW.sg 1 [2] [(2,.int .u8 6)] ?_));refine Y2 ?_;obtain rfl:=X6 H;refine AW.recast (env':=[(2,.int .u8 6)]) (h':=[]) (StC.pure (.cons .im .nil)) (Y03 ?_)
 try simp only[Ex.t,Ex.b]
 exact Yw rfl (.tmp .nil)
def Yy (t0:Y3) (t1:List Int):Option Y3:=
 G (room 1 (t0.cells_.length+t1.length))<|
 some (⟨t0.f_,t0.at_,t0.level_,t0.cells_++t1,()⟩:Y3)
section
variable (t0:Y3)
abbrev Z3a:Hp:=[bxl 0 t0,bxc 0 t0]
end
theorem Y06{t0:Y3}{t1:List Int}{r:Y3}(H:Yy t0 t1=some r):Abs.Spec Tryd.prog 40 [.ref 2010 0 0,slA (eI .u8) t1] (bxh 0 t0) (fun x h=>x= .tup []∧h=(bxh 1 r)):=by
 refine Y01 Tryd.func40 rfl (by simp[Tryd.ntmps40]) ?_;rw[Tryd.ntmps40];unfold Yy at H;change AW _ _ _ [(0,.ref 2010 0 0),(1,sU t1)] (bxw 0 t0::(Z3a t0)) _;refine Y56<|Yo (OpsW.sg 2 [5,4,1] [(5,.ref 2010 0 0),(4,.ref 2010 0 0),(1,sU t1)] ?_);refine OpsW.nC rfl rfl rfl (OpsW.sg 3 [9,8,4] [(9,sU t1),(8,.rsl 3011 0 0 t0.cells_.length),(4,.ref 2010 0 0)] ?_);have⟨g1,H⟩:=Yx H;refine Y5n (enc:=eI .u8) (ys:=t1) rfl rfl rfl E28 (fun _=>rfl) rfl rfl trivial (SrcA.typed (enc:=eI .u8) (fun _=>rfl) (by kernel_rfl) t1) rfl g1 (OpsW.nC rfl rfl rfl (OpsW.sg 1 [12,10] [(12,.ref 2010 0 3),(10,.rsl 3011 1 0 ((t0.cells_++t1).length))] (Y4m rfl rfl rfl rfl trivial trivial rfl rfl rfl (by kernel_rfl) (Y0v (by kernel_rfl)) (X9 (by kernel_rfl)) ?_)));change OpsW _ _ _ _ _ ((2010,⟨0,true,58,5,[slA Y7 t0.f_,.j t0.at_,.rsl 3010 0 0 t0.level_.length,.rsl 3011 1 0 ((t0.cells_++t1).length),.im (.mp (mapV Y0h))]⟩)::(3011,rtA 1 33 1 (eI .u8) (t0.cells_++t1))::bxw 0 t0::(Z3a t0)) _;refine OpsW.sg 0 [] [] (OpsW.rc [] [(2010,⟨0,true,58,5,[slA Y7 t0.f_,.j t0.at_,.rsl 3010 0 0 t0.level_.length,.rsl 3011 0 0 ((t0.cells_++t1).length),.im (.mp (mapV Y0h))]⟩),bxl 0 t0,(3011,rtA 0 33 1 (eI .u8) (t0.cells_++t1))] (StC.mk ph3 (.o rfl (.i2 (.cons (.s rfl) (.cons (.s rfl) (.cons .im .nil)))) (.o rfl (CstL.ims _) (.o rfl (CstL.ims _) .nil))) rfl .nil) (Y2 ?_));obtain rfl:=X6 H;show ∃en' hp',StC _ _ en' hp'∧Done _ _ _ .normal en' hp'
 refine⟨[],[(2010,⟨0,true,58,5,[slA Y7 t0.f_,.j t0.at_,.rsl 3010 1 0 t0.level_.length,.rsl 3011 1 0 ((t0.cells_++t1).length),.im (.mp (mapV Y0h))]⟩),bxl 1 t0,(3011,rtA 1 33 1 (eI .u8) (t0.cells_++t1))],(StC.mk ph3 (.o rfl (.i2 (.cons (.s rfl) (.cons (.s rfl) (.cons .im .nil)))) (.o rfl (CstL.ims _) (.o rfl (CstL.ims _) .nil))) rfl .nil), ?_⟩;refine Y4o rfl .nil ?_;exact⟨by kernel_rfl,by kernel_rfl⟩
end Go.Proofs.YtfpcbalkioolmaaDoor
