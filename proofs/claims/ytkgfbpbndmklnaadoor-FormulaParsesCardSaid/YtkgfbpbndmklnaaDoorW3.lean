/- Own work. -/
import Derived.Test.YtkgfbpbndmklnaaDoorW2
set_option linter.unusedSimpArgs false
set_option linter.unusedVariables false
set_option maxRecDepth 100000
namespace Go.Proofs.YtkgfbpbndmklnaaDoor
open Go.Abs
def Y24 (loop23:(Yf×Y5×Int)→Option Yf) (v22:Int) (v25:Yf) (v26:Y5):Option Yf:=
 G (inR (v22+1))<|
 loop23 (v25,v26,v22+1)
def Y0p (ra2:Yf→Option Yf) (loop23:(Yf×Y5×Int)→Option Yf) (v22:Int) (v28:Yf) (v29:Y5):Option Yf:=
 (ra2 v28).bind fun x30=>
 Y24 loop23 v22 x30 v29
def Y0q (ra2:Yf→Option Yf) (x19:Int×Bool) (loop23:(Yf×Y5×Int)→Option Yf) (v20:Yf) (v21:Y5) (v22:Int):Option Yf:=
 cond (decide (v22<x19.1)) (
  cond (decide (0<v22)) (
   (Y3k v21 v22).bind fun x32=>
   G (room 1 (v20.text_.length+[x32].length))<|
   Y0p ra2 loop23 v22 (⟨v20.f_,v20.at_,v20.text_++[x32]⟩:Yf) v21) (
   Y0p ra2 loop23 v22 v20 v21)) (
  G (room 1 (v20.text_.length+1))<|
  some (⟨v20.f_,v20.at_,v20.text_++[(41:Int)]⟩:Yf))
def Yr (ra2:Yf→Option Yf) (t0:Yf) (v9:Yf) (v10:Bool):Option Yf:=
 cond v10 (
  (ra2 v9).bind fun x12=>
  (f_formula_sign ((t0.f_.getD t0.at_.toNat Yd).Op)).bind fun x13=>
  G (room 1 (x12.text_.length+[x13].length))<|
  (ra2 (⟨x12.f_,x12.at_,x12.text_++[x13]⟩:Yf)).bind fun x15=>
  some x15) (
  (f_formula_name ((t0.f_.getD t0.at_.toNat Yd).Op)).bind fun x16=>
  G (room 1 (v9.text_.length+x16.size))<|
  G (room 1 ((v9.text_++(bytesOf x16)).length+1))<|
  (Y35 (t0.f_.getD t0.at_.toNat Yd)).bind fun x19=>
  iter (fun loop (s:Yf×Y5×Int)=>Y0q ra2 x19 loop s.1 s.2.1 s.2.2) 1000000 ((⟨v9.f_,v9.at_,(v9.text_++(bytesOf x16))++[(40:Int)]⟩:Yf),(t0.f_.getD t0.at_.toNat Yd),(0:Int)))
def Y2m (ra2:Yf→Option Yf) (t0:Yf):Option Yf:=
 G (0≤t0.at_∧t0.at_<(t0.f_.length:Int))<|
 G (inR (t0.at_+1))<|
 cond (((t0.f_.getD t0.at_.toNat Yd).Op)==0) (
  G (0≤((t0.f_.getD t0.at_.toNat Yd).N)∧((t0.f_.getD t0.at_.toNat Yd).N)≤99999)<|
  G (room 1 (t0.text_.length+5))<|
  some (⟨t0.f_,t0.at_+1,t0.text_++decs 5 ((t0.f_.getD t0.at_.toNat Yd).N).toNat⟩:Yf)) (
  cond (((t0.f_.getD t0.at_.toNat Yd).Op)==1) (
   G (inR (97+((t0.f_.getD t0.at_.toNat Yd).N)))<|
   G (room 1 (t0.text_.length+[IntKind.wrap .u8 (97+((t0.f_.getD t0.at_.toNat Yd).N))].length))<|
   some (⟨t0.f_,t0.at_+1,t0.text_++[IntKind.wrap .u8 (97+((t0.f_.getD t0.at_.toNat Yd).N))]⟩:Yf)) (
   cond (((t0.f_.getD t0.at_.toNat Yd).Op)==2) (
    Yr ra2 t0 (⟨t0.f_,t0.at_+1,t0.text_⟩:Yf) (((t0.f_.getD t0.at_.toNat Yd).Op)==2)) (
    cond (((t0.f_.getD t0.at_.toNat Yd).Op)==3) (
     Yr ra2 t0 (⟨t0.f_,t0.at_+1,t0.text_⟩:Yf) (((t0.f_.getD t0.at_.toNat Yd).Op)==3)) (
     cond (((t0.f_.getD t0.at_.toNat Yd).Op)==4) (
      Yr ra2 t0 (⟨t0.f_,t0.at_+1,t0.text_⟩:Yf) (((t0.f_.getD t0.at_.toNat Yd).Op)==4)) (
      Yr ra2 t0 (⟨t0.f_,t0.at_+1,t0.text_⟩:Yf) (((t0.f_.getD t0.at_.toNat Yd).Op)==5))))))
section
variable (t0:Yf) (v9:Yf) (v10:Bool) (v20:Yf) (v21:Y5) (v22:Int) (v28:Yf) (v29:Y5) (x16:ByteArray) (x19:Int×Bool)
abbrev Z3v:=t0.f_.getD t0.at_.toNat Yd
abbrev Z3w:=t0.text_++[IntKind.wrap .u8 (97+((Z3v t0).N))]
abbrev Z3x:List AV:=[.j ((Z3v t0).Op),.j ((Z3v t0).N)]
abbrev Z3y:=v9.text_++(bytesOf x16)
abbrev Z3z:Nat×AV:=(0,.ref 2010 0 0)
abbrev Z40:=(⟨t0.f_,t0.at_+1,t0.text_⟩:Yf)
abbrev Z41:=(v20.text_++[(41:Int)])
abbrev Z42:Nat×AV:=(2,.ref 2 0 0)
abbrev Z43:=((Z3y v9 x16)++[(40:Int)])
abbrev Z3b:Env:=[Z3z,Z42,(50,.j x19.1),(51,.j v22)]
abbrev Z3c:Env:=[(24,.j ((Z3v t0).Op)),Z42,Z3z]
abbrev Z3d:Env:=[Z3z,Z42]
abbrev Z3e:Hp:=[(2,⟨0,true,26,2,(Z3x t0)⟩)]
abbrev Z3f:Hp:=[(2,⟨0,true,26,2,(Z3x t0)⟩),(2010,⟨0,true,54,3,[slA Y4 t0.f_,.j (t0.at_+1),.rsl 3010 0 0 t0.text_.length]⟩),(3010,rtA 0 5 1 (eI .u8) t0.text_)]
abbrev Z3g:Hp:=[(2010,⟨0,true,54,3,[slA Y4 t0.f_,.j t0.at_,.rsl 3010 0 0 t0.text_.length]⟩),(3010,rtA 0 5 1 (eI .u8) t0.text_)]
abbrev Z3h:Hp:=[(2010,⟨0,true,54,3,[slA Y4 v20.f_,.j v20.at_,.rsl 3010 0 0 v20.text_.length]⟩),(3010,rtA 0 5 1 (eI .u8) v20.text_),(2,⟨0,true,26,2,[.j v21.Op,.j v21.N]⟩)]
abbrev Z3i:Hp:=[(2,⟨0,true,26,2,(Z3x t0)⟩),(2010,⟨0,true,54,3,[slA Y4 v9.f_,.j v9.at_,.rsl 3010 0 0 ((Z3y v9 x16).length)]⟩),(3010,rtA 0 5 1 (eI .u8) (Z3y v9 x16))]
abbrev Z3j:Hp:=[(2010,⟨0,true,54,3,[slA Y4 v28.f_,.j v28.at_,.rsl 3010 0 0 v28.text_.length]⟩),(3010,rtA 0 5 1 (eI .u8) v28.text_)]
abbrev Z3k:Hp:=[(2010,⟨0,true,54,3,[slA Y4 v9.f_,.j v9.at_,.rsl 3010 0 0 v9.text_.length]⟩),(3010,rtA 0 5 1 (eI .u8) v9.text_)]
abbrev Z3l:Env:=[Z42,Z3z]
abbrev Z3m:Hp:=(2010,⟨0,true,54,3,[slA Y4 v9.f_,.j v9.at_,.rsl 3010 0 0 v9.text_.length]⟩)::(3010,rtA 0 5 1 (eI .u8) v9.text_)::(Z3e t0)
abbrev Z3n:Env:=[(10,.ref 2010 0 0),(9,slA Y4 t0.f_),(8,.ref 2010 0 0),(7,.ref 2010 0 0),(6,.ref 2010 0 0),Z3z]
abbrev Z3o:Env:=(80,.bool (((Z3v t0).Op)==0))::(Z3c t0)
abbrev Z3p:Env:=(92,.bool (((Z3v t0).Op)==1))::(Z3c t0)
abbrev Z3q:Hp:=(2,⟨0,true,26,2,(Z3x t0)⟩)::(Z3g t0)
abbrev Z3r:Hp:=[(2,⟨0,true,26,2,[.j v29.Op,.j v29.N]⟩)]
abbrev Z3s:Env:=[(26,.ref 2010 0 0),(25,.ref 2010 0 0),Z3z,Z42,(107,.bool v10)]
abbrev Z3t:Env:=(57,.ref 2010 0 0)::(56,.ref 2010 0 0)::(55,.bool (decide (0<v22)))::(5,.j v22)::(Z3b v22 x19)
abbrev Z3u:Env:=[Z3z]
end
theorem f_formula_printer_node_body_io{ra2:Yf→Option Yf}(hra2:∀(t0:Yf) (r:Yf),ra2 t0=some r→Abs.Spec Tryd.prog 29 [.ref 2010 0 0] [(2010,⟨0,true,54,3,[slA Y4 t0.f_,.int .i64 t0.at_,.rsl 3010 0 0 t0.text_.length]⟩),(3010,rtA 0 5 1 (eI .u8) t0.text_)] (fun x h=>x= .tup []∧h=[(2010,⟨0,true,54,3,[slA Y4 r.f_,.int .i64 r.at_,.rsl 3010 1 0 r.text_.length]⟩),(3010,rtA 1 5 1 (eI .u8) r.text_)])){t0:Yf}{r:Yf}(H:Y2m ra2 t0=some r):Abs.Spec Tryd.prog 29 [.ref 2010 0 0] [(2010,⟨0,true,54,3,[slA Y4 t0.f_,.int .i64 t0.at_,.rsl 3010 0 0 t0.text_.length]⟩),(3010,rtA 0 5 1 (eI .u8) t0.text_)] (fun x h=>x= .tup []∧h=[(2010,⟨0,true,54,3,[slA Y4 r.f_,.int .i64 r.at_,.rsl 3010 1 0 r.text_.length]⟩),(3010,rtA 1 5 1 (eI .u8) r.text_)]):=by
 refine Yw Tryd.func29 rfl (by simp[Tryd.ntmps29]) ?_;rw[Tryd.ntmps29];unfold Y2m at H;change AW _ _ _ Z3u (Z3g t0) _;refine Y5r (AW.drawGSeq 11 [(10,2)] Tryd.checked.mixed (by kernel_rfl) (by kernel_rfl) ?_);refine DOps.q 10 (by kernel_rfl)<|QOps.sz (N:=128) 1 ((6,.ref 2010 0 0)::Z3u) trivial (QOps.quietU (.ref 2010 0 0) rfl (Quiet.nilCheck rfl (gpoU rfl ⟨trivial,rfl,rfl⟩)) (QOps.sz (N:=128) 3 (Z3n t0) trivial (QOps.quietU (.ref 2010 0 0) rfl (Quiet.nilCheck rfl (gpoU rfl ⟨trivial,rfl,rfl⟩)) ?_)));have⟨g1,H⟩:=Y00 H;refine QOps.sz (N:=128) 3 ((14,.ipt (t0.f_.flatMap Y4) (t0.at_.toNat*2))::(13,.j t0.at_)::(12,.ref 2010 0 1)::(11,.ref 2010 0 0)::(Z3n t0)) ⟨g1,trivial⟩ (QOps.asU (.agg (Z3x t0)) rfl (T.loadAgg (cs:=t0.f_.flatMap Y4) (off:=t0.at_.toNat*2) (ds:=Y4 (Z3v t0)) rfl trivial (by kernel_rfl) (by have:=Y18 Y4 2 (fun _=>rfl) t0.f_;have:=(ltN g1);first|omega|(simp only[Z3v] at*;omega)) (fm_elem Y4 2 (fun _=>rfl) t0.f_ Yd t0.at_.toNat (ltN g1))) ?_);refine QOps.nil (DOps.e 2 rfl rfl rfl (by exact fun g hg hb=>RStep.alloc rfl 2 (hg.trans rfl) (by kernel_rfl:zc Tryd.prog 26=some [.j 0,.j 0]) (by kernel_rfl)) ?_);refine DOps.nil<|OpsW.sg 0 [2,15,0] (Z42::(15,.agg (Z3x t0))::Z3u) (Y1d rfl rfl rfl rfl trivial trivial rfl rfl rfl (by kernel_rfl) (Yx (by kernel_rfl)) (X9 (by kernel_rfl)) ?_)
 change OpsW _ _ _ _ _ ((2,⟨0,true,26,2,(Z3x t0)⟩)::(2,⟨0,true,26,2,[.j (0:Int),.j (0:Int)]⟩)::(Z3g t0)) _;refine OpsW.sg 0 [2,0] Z3l (OpsW.rc Z3l (Z3q t0) (StC.mk (phi [(2,some 2),(2010,some 2010),(3010,some 3010)]) (.o rfl (.i2 .nil) (.o rfl (.i2 (.cons (.s rfl) .nil)) (.o rfl (CstL.ims _) .nil))) rfl (.cons (.r rfl) (.cons (.r rfl) .nil))) ?_);refine Y2 (Y0 (OpsW.sg 1 [16,2,0] ((16,.ref 2010 0 0)::Z3l) ?_));refine Y0s rfl rfl rfl ?_;have⟨g2,H⟩:=Y00 H;refine OpsW.sz 3 [20,16,2,0] ((20,.j (t0.at_+1))::(16,.ref 2010 0 0)::Z3l) ⟨g2,trivial⟩ (Y0s rfl rfl rfl (OpsW.sg 1 [22,20,2,0] ((22,.ref 2010 0 1)::(20,.j (t0.at_+1))::Z3l) (Y1d rfl rfl rfl rfl trivial trivial rfl rfl rfl (by kernel_rfl) (Yx (by kernel_rfl)) (X9 (by kernel_rfl)) ?_)));change OpsW _ _ _ _ _ ((2010,⟨0,true,54,3,[slA Y4 t0.f_,.j (t0.at_+1),.rsl 3010 0 0 t0.text_.length]⟩)::(Z3q t0)) _;refine OpsW.sg 0 [2,0] Z3l (OpsW.rc Z3l (Z3f t0) (StC.mk (phi [(2,some 2),(2010,some 2010),(3010,some 3010)]) (.o rfl (.i2 .nil) (.o rfl (.i2 (.cons (.s rfl) .nil)) (.o rfl (CstL.ims _) .nil))) rfl (.cons (.r rfl) (.cons (.r rfl) .nil))) ?_);refine Y2 (Y0 (OpsW.sg 2 [24,2,0] (Z3c t0) ?_));refine Y2 (Y04 (Y0 (OpsW.sg 2 [80,24,2,0] (Z3o t0) ?_)));refine Y2 (Yc (b:=((Z3v t0).Op)==0) H rfl (fun c3 H=> ?_) (fun c3 H=> ?_))
 ·refine AW.drawP 7 [0,1] Tryd.checked.mixed (by kernel_rfl) (by kernel_rfl)<|QOps.sz (N:=128) 2 ((83,.ref 2010 0 0)::(82,.ref 2010 0 0)::(Z3o t0)) trivial (QOps.quietU (.ref 2010 0 0) rfl (Quiet.nilCheck rfl (gpoU rfl ⟨trivial,rfl,rfl⟩)) (QOps.sz (N:=128) 4 ((88,.j ((Z3v t0).N))::(87,.ref 2 0 1)::(86,.rsl 3010 0 0 t0.text_.length)::(85,.ref 2010 0 2)::(84,.ref 2010 0 0)::(83,.ref 2010 0 0)::(82,.ref 2010 0 0)::(Z3o t0)) trivial ?_));refine QOps.nil (OpsW.sg 0 [88,86,82] [(88,.j ((Z3v t0).N)),(86,.rsl 3010 0 0 t0.text_.length),(82,.ref 2010 0 0)] ?_);have⟨g4,H⟩:=Y00 H;have⟨g5,H⟩:=Y00 H;refine OpsW.rstep rfl rfl (RStep.appendInt (l:=t0.text_) (n:=(Z3v t0).N) rfl rfl rfl rfl rfl g4 g5) (Y0s rfl rfl rfl (OpsW.sg 1 [91,89] [(91,.ref 2010 0 2),(89,.rsl 3010 1 0 ((t0.text_++decs 5 ((Z3v t0).N).toNat).length))] (Y1d rfl rfl rfl rfl trivial trivial rfl rfl rfl (by kernel_rfl) (Yx (by kernel_rfl)) (X9 (by kernel_rfl)) ?_)));change OpsW _ _ _ _ _ ((2010,⟨0,true,54,3,[slA Y4 t0.f_,.j (t0.at_+1),.rsl 3010 1 0 ((t0.text_++decs 5 ((Z3v t0).N).toNat).length)]⟩)::(3010,rtA 1 5 1 (eI .u8) (t0.text_++decs 5 ((Z3v t0).N).toNat))::(Z3f t0)) _
  refine OpsW.sg 0 [] [] (OpsW.rc [] [(2010,⟨0,true,54,3,[slA Y4 t0.f_,.j (t0.at_+1),.rsl 3010 0 0 ((t0.text_++decs 5 ((Z3v t0).N).toNat).length)]⟩),(3010,rtA 0 5 1 (eI .u8) (t0.text_++decs 5 ((Z3v t0).N).toNat))] (StC.mk (phi [(2010,some 2010),(3010,some 3010)]) (.o rfl (.i2 (.cons (.s rfl) .nil)) (.o rfl (CstL.ims _) .nil)) rfl .nil) (Y2 ?_));obtain rfl:=X6 H;show ∃en' hp',StC _ _ en' hp'∧Done _ _ _ .normal en' hp';refine⟨[],[(2010,⟨0,true,54,3,[slA Y4 t0.f_,.j (t0.at_+1),.rsl 3010 1 0 ((t0.text_++decs 5 ((Z3v t0).N).toNat).length)]⟩),(3010,rtA 1 5 1 (eI .u8) (t0.text_++decs 5 ((Z3v t0).N).toNat))],(StC.mk (phi [(2010,some 2010),(3010,some 3010)]) (.o rfl (.i2 (.cons (.s rfl) .nil)) (.o rfl (CstL.ims _) .nil)) rfl .nil), ?_⟩;refine Done.genN rfl .nil ?_;exact⟨by kernel_rfl,by kernel_rfl⟩
 refine Y0 (OpsW.sg 2 [92,24,2,0] (Z3p t0) ?_);refine Y2 (Yc (b:=((Z3v t0).Op)==1) H rfl (fun c6 H=> ?_) (fun c6 H=> ?_))
 ·refine AW.drawP 10 [0,1] Tryd.checked.mixed (by kernel_rfl) (by kernel_rfl)<|QOps.sz (N:=128) 2 ((95,.ref 2010 0 0)::(94,.ref 2010 0 0)::(Z3p t0)) trivial (QOps.quietU (.ref 2010 0 0) rfl (Quiet.nilCheck rfl (gpoU rfl ⟨trivial,rfl,rfl⟩)) ?_);have⟨g7,H⟩:=Y00 H;refine QOps.sz (N:=128) 6 ((102,.int .u8 (IntKind.wrap .u8 (97+((Z3v t0).N))))::(101,.j (97+((Z3v t0).N)))::(100,.j ((Z3v t0).N))::(99,.ref 2 0 1)::(98,.rsl 3010 0 0 t0.text_.length)::(97,.ref 2010 0 2)::(96,.ref 2010 0 0)::(95,.ref 2010 0 0)::(94,.ref 2010 0 0)::(Z3p t0)) ⟨g7,trivial⟩ (QOps.buildTI (enc:=eI .u8) [IntKind.wrap .u8 (97+((Z3v t0).N))] rfl rfl E24 (fun _=>rfl) (by decide) ⟨trivial,by kernel_rfl,by kernel_rfl,by kernel_rfl,rfl⟩ ?_);refine QOps.nil (OpsW.sg 0 [103,98,94] [(103,sU [IntKind.wrap .u8 (97+((Z3v t0).N))]),(98,.rsl 3010 0 0 t0.text_.length),(94,.ref 2010 0 0)] ?_);have⟨g8,H⟩:=Y00 H;refine Y6a (enc:=eI .u8) (ys:=[IntKind.wrap .u8 (97+((Z3v t0).N))]) rfl rfl rfl E24 (fun _=>rfl) rfl rfl trivial (SrcA.typed (enc:=eI .u8) (fun _=>rfl) (by kernel_rfl) [IntKind.wrap .u8 (97+((Z3v t0).N))]) rfl g8 (Y0s rfl rfl rfl (OpsW.sg 1 [106,104] [(106,.ref 2010 0 2),(104,.rsl 3010 1 0 ((Z3w t0).length))] (Y1d rfl rfl rfl rfl trivial trivial rfl rfl rfl (by kernel_rfl) (Yx (by kernel_rfl)) (X9 (by kernel_rfl)) ?_)))
  change OpsW _ _ _ _ _ ((2010,⟨0,true,54,3,[slA Y4 t0.f_,.j (t0.at_+1),.rsl 3010 1 0 ((Z3w t0).length)]⟩)::(3010,rtA 1 5 1 (eI .u8) (Z3w t0))::(Z3f t0)) _;refine OpsW.sg 0 [] [] (OpsW.rc [] [(2010,⟨0,true,54,3,[slA Y4 t0.f_,.j (t0.at_+1),.rsl 3010 0 0 ((Z3w t0).length)]⟩),(3010,rtA 0 5 1 (eI .u8) (Z3w t0))] (StC.mk (phi [(2010,some 2010),(3010,some 3010)]) (.o rfl (.i2 (.cons (.s rfl) .nil)) (.o rfl (CstL.ims _) .nil)) rfl .nil) (Y2 ?_));obtain rfl:=X6 H;show ∃en' hp',StC _ _ en' hp'∧Done _ _ _ .normal en' hp';refine⟨[],[(2010,⟨0,true,54,3,[slA Y4 t0.f_,.j (t0.at_+1),.rsl 3010 1 0 ((Z3w t0).length)]⟩),(3010,rtA 1 5 1 (eI .u8) (Z3w t0))],(StC.mk (phi [(2010,some 2010),(3010,some 3010)]) (.o rfl (.i2 (.cons (.s rfl) .nil)) (.o rfl (CstL.ims _) .nil)) rfl .nil), ?_⟩;refine Done.genN rfl .nil ?_;exact⟨by kernel_rfl,by kernel_rfl⟩
 refine Y33 (fun(y:Yf×Bool)=>Yr ra2 t0 y.1 y.2) r (fun(y:Yf×Bool)=>[Z3z,Z42,(107,.bool y.2)]) (fun(y:Yf×Bool)=>((2010,⟨0,true,54,3,[slA Y4 y.1.f_,.j y.1.at_,.rsl 3010 0 0 y.1.text_.length]⟩)::(3010,rtA 0 5 1 (eI .u8) y.1.text_)::(Z3e t0))) ?_ ?_
 ·refine Y0 (OpsW.sg 2 [107,24,2,0] ((107,.bool (((Z3v t0).Op)==2))::(Z3c t0)) ?_);refine Y2 (Yc (b:=((Z3v t0).Op)==2) H rfl (fun c35 H=> ?_) (fun c35 H=> ?_))
  ·refine Yh ?_;exact⟨((Z40 t0),((Z3v t0).Op)==2),H,(StC.mk (phi [(2010,some 2010),(3010,some 3010),(2,some 2)]) (.o rfl (.i2 (.cons (.s rfl) .nil)) (.o rfl (CstL.ims _) (.o rfl (.i2 .nil) .nil))) rfl (.cons (.r rfl) (.cons (.r rfl) (.cons .im .nil))))⟩
  refine Y0 (OpsW.sg 2 [107,24,2,0] ((107,.bool (((Z3v t0).Op)==3))::(Z3c t0)) ?_);refine Y2 (Yc (b:=((Z3v t0).Op)==3) H rfl (fun c36 H=> ?_) (fun c36 H=> ?_))
  ·refine Yh ?_;exact⟨((Z40 t0),((Z3v t0).Op)==3),H,(StC.mk (phi [(2010,some 2010),(3010,some 3010),(2,some 2)]) (.o rfl (.i2 (.cons (.s rfl) .nil)) (.o rfl (CstL.ims _) (.o rfl (.i2 .nil) .nil))) rfl (.cons (.r rfl) (.cons (.r rfl) (.cons .im .nil))))⟩
  refine Y0 (OpsW.sg 2 [107,24,2,0] ((107,.bool (((Z3v t0).Op)==4))::(Z3c t0)) ?_);refine Y2 (Yc (b:=((Z3v t0).Op)==4) H rfl (fun c37 H=> ?_) (fun c37 H=> ?_))
  ·refine Yh ?_;exact⟨((Z40 t0),((Z3v t0).Op)==4),H,(StC.mk (phi [(2010,some 2010),(3010,some 3010),(2,some 2)]) (.o rfl (.i2 (.cons (.s rfl) .nil)) (.o rfl (CstL.ims _) (.o rfl (.i2 .nil) .nil))) rfl (.cons (.r rfl) (.cons (.r rfl) (.cons .im .nil))))⟩
  refine Yz (OpsW.sg 2 [107,2,0] ((107,.bool (((Z3v t0).Op)==5))::Z3l) ?_);refine Y2 ?_;exact⟨((Z40 t0),((Z3v t0).Op)==5),H,(StC.mk (phi [(2010,some 2010),(3010,some 3010),(2,some 2)]) (.o rfl (.i2 (.cons (.s rfl) .nil)) (.o rfl (CstL.ims _) (.o rfl (.i2 .nil) .nil))) rfl (.cons (.r rfl) (.cons (.r rfl) (.cons .im .nil))))⟩
 rintro⟨v9,v10⟩ H;unfold Yr at H;change AW _ _ _ [Z3z,Z42,(107,.bool v10)] (Z3m t0 v9) _;refine Yc (b:=v10) H rfl (fun c11 H=> ?_) (fun c11 H=> ?_)
 ·refine Y0 (OpsW.sg 1 [112,0,2] ((112,.ref 2010 0 0)::Z3d) ?_);have⟨x12,hx12,H⟩:=Y0y H;refine Y2v (Z3k v9) (Z3e t0) (Z3k v9) (phi [(2010,some 2010),(3010,some 3010)]) rfl (hra2 _ _ hx12) (.cons (.r rfl) .nil) (.cons rfl rfl rfl rfl rfl (.i2 (.cons (.s rfl) .nil)) (.b (RnL.ims _) .nil)) (.tup []) [(2010,⟨0,true,54,3,[slA Y4 x12.f_,.j x12.at_,.rsl 3010 1 0 x12.text_.length]⟩),(3010,rtA 1 5 1 (eI .u8) x12.text_)] (phi [(2010,some 2010),(3010,some 3010)]) (.cons rfl rfl rfl rfl rfl (.i2 (.cons (.s rfl) .nil)) (.b (RnL.ims _) .nil)) (.tup .nil .nil) ?_;refine OpsW.sg 0 [0,2] Z3d (OpsW.rc Z3d [(2,⟨0,true,26,2,(Z3x t0)⟩),(2010,⟨0,true,54,3,[slA Y4 x12.f_,.j x12.at_,.rsl 3010 0 0 x12.text_.length]⟩),(3010,rtA 0 5 1 (eI .u8) x12.text_)] (StC.mk (phi [(2,some 2),(2010,some 2010),(3010,some 3010)]) (.o rfl (.i2 .nil) (.o rfl (.i2 (.cons (.s rfl) .nil)) (.o rfl (CstL.ims _) .nil))) rfl (.cons (.r rfl) (.cons (.r rfl) .nil))) ?_);refine Y2 (AW.drawPSeq 9 [0,1] Tryd.checked.mixed (by kernel_rfl) (by kernel_rfl) ?_);refine QOps.sz (N:=128) 2 ((115,.ref 2010 0 0)::(114,.ref 2010 0 0)::Z3d) trivial (QOps.quietU (.ref 2010 0 0) rfl (Quiet.nilCheck rfl (gpoU rfl ⟨trivial,rfl,rfl⟩)) (QOps.sz (N:=128) 4 ((120,.j ((Z3v t0).Op))::(119,.ref 2 0 0)::(118,.rsl 3010 0 0 x12.text_.length)::(117,.ref 2010 0 2)::(116,.ref 2010 0 0)::(115,.ref 2010 0 0)::(114,.ref 2010 0 0)::Z3d) trivial ?_));have⟨x13,hx13,H⟩:=Y0y H
  refine QOps.qcall rfl (by kernel_rfl) rfl (Ys trivial) (.cons (.pur rfl) .nil) (f_formula_sign_ok hx13) rfl (QOps.buildTI (enc:=eI .u8) [x13] rfl rfl E24 (fun _=>rfl) (by decide) ⟨trivial,by kernel_rfl,by kernel_rfl,by kernel_rfl,rfl⟩ ?_);refine QOps.nil (OpsW.sg 0 [122,118,114,0] ((122,sU [x13])::(118,.rsl 3010 0 0 x12.text_.length)::(114,.ref 2010 0 0)::Z3u) ?_);have⟨g14,H⟩:=Y00 H;refine Y6a (enc:=eI .u8) (ys:=[x13]) rfl rfl rfl E24 (fun _=>rfl) rfl rfl trivial (SrcA.typed (enc:=eI .u8) (fun _=>rfl) (by kernel_rfl) [x13]) rfl g14 (Y0s rfl rfl rfl (OpsW.sg 1 [125,123,0] ((125,.ref 2010 0 2)::(123,.rsl 3010 1 0 ((x12.text_++[x13]).length))::Z3u) (Y1d rfl rfl rfl rfl trivial trivial rfl rfl rfl (by kernel_rfl) (Yx (by kernel_rfl)) (X9 (by kernel_rfl)) ?_)));change OpsW _ _ _ _ _ [(2010,⟨0,true,54,3,[slA Y4 x12.f_,.j x12.at_,.rsl 3010 1 0 ((x12.text_++[x13]).length)]⟩),(3010,rtA 1 5 1 (eI .u8) (x12.text_++[x13])),(2,⟨0,true,26,2,(Z3x t0)⟩),(2010,⟨0,true,54,3,[slA Y4 x12.f_,.j x12.at_,.rsl 3010 0 0 x12.text_.length]⟩),(3010,rtA 0 5 1 (eI .u8) x12.text_)] _;refine OpsW.sg 0 [0] Z3u (OpsW.rc Z3u [(2010,⟨0,true,54,3,[slA Y4 x12.f_,.j x12.at_,.rsl 3010 0 0 ((x12.text_++[x13]).length)]⟩),(3010,rtA 0 5 1 (eI .u8) (x12.text_++[x13]))] (StC.mk (phi [(2010,some 2010),(3010,some 3010)]) (.o rfl (.i2 (.cons (.s rfl) .nil)) (.o rfl (CstL.ims _) .nil)) rfl (.cons (.r rfl) .nil)) ?_)
  refine Y2 (Yz (OpsW.sg 1 [126] [(126,.ref 2010 0 0)] ?_));have⟨x15,hx15,H⟩:=Y0y H;refine Y2v [(2010,⟨0,true,54,3,[slA Y4 x12.f_,.j x12.at_,.rsl 3010 0 0 ((x12.text_++[x13]).length)]⟩),(3010,rtA 0 5 1 (eI .u8) (x12.text_++[x13]))] [] [(2010,⟨0,true,54,3,[slA Y4 x12.f_,.j x12.at_,.rsl 3010 0 0 ((x12.text_++[x13]).length)]⟩),(3010,rtA 0 5 1 (eI .u8) (x12.text_++[x13]))] (phi [(2010,some 2010),(3010,some 3010)]) rfl (hra2 _ _ hx15) (.cons (.r rfl) .nil) (.cons rfl rfl rfl rfl rfl (.i2 (.cons (.s rfl) .nil)) (.b (RnL.ims _) .nil)) (.tup []) [(2010,⟨0,true,54,3,[slA Y4 x15.f_,.j x15.at_,.rsl 3010 1 0 x15.text_.length]⟩),(3010,rtA 1 5 1 (eI .u8) x15.text_)] (phi [(2010,some 2010),(3010,some 3010)]) (.cons rfl rfl rfl rfl rfl (.i2 (.cons (.s rfl) .nil)) (.b (RnL.ims _) .nil)) (.tup .nil .nil) ?_;refine OpsW.sg 0 [] [] (OpsW.rc [] [(2010,⟨0,true,54,3,[slA Y4 x15.f_,.j x15.at_,.rsl 3010 0 0 x15.text_.length]⟩),(3010,rtA 0 5 1 (eI .u8) x15.text_)] (StC.mk (phi [(2010,some 2010),(3010,some 3010)]) (.o rfl (.i2 (.cons (.s rfl) .nil)) (.o rfl (CstL.ims _) .nil)) rfl .nil) (Y2 ?_));obtain rfl:=X6 H;show ∃en' hp',StC _ _ en' hp'∧Done _ _ _ .normal en' hp';refine⟨[],[(2010,⟨0,true,54,3,[slA Y4 x15.f_,.j x15.at_,.rsl 3010 1 0 x15.text_.length]⟩),(3010,rtA 1 5 1 (eI .u8) x15.text_)],(StC.mk (phi [(2010,some 2010),(3010,some 3010)]) (.o rfl (.i2 (.cons (.s rfl) .nil)) (.o rfl (CstL.ims _) .nil)) rfl .nil), ?_⟩
  refine Done.genN rfl .nil ?_;exact⟨by kernel_rfl,by kernel_rfl⟩
 refine AW.drawPSeq 8 [0,1] Tryd.checked.mixed (by kernel_rfl) (by kernel_rfl) (QOps.sz (N:=128) 2 (Z3s v10) trivial (QOps.quietU (.ref 2010 0 0) rfl (Quiet.nilCheck rfl (gpoU rfl ⟨trivial,rfl,rfl⟩)) (QOps.sz (N:=128) 4 ((31,.j ((Z3v t0).Op))::(30,.ref 2 0 0)::(29,.rsl 3010 0 0 v9.text_.length)::(28,.ref 2010 0 2)::(27,.ref 2010 0 0)::(Z3s v10)) trivial ?_)));have⟨x16,hx16,H⟩:=Y0y H;refine QOps.qcall rfl (by kernel_rfl) rfl (Ys trivial) (.cons (.pur rfl) .nil) (f_formula_name_ok hx16) rfl<|QOps.nil (OpsW.sg 0 [32,29,25,0,2] ((32,.string x16)::(29,.rsl 3010 0 0 v9.text_.length)::(25,.ref 2010 0 0)::Z3d) ?_);have⟨g17,H⟩:=Y00 H;refine Y6a (enc:=eI .u8) (ys:=bytesOf x16) rfl rfl rfl E24 (fun _=>rfl) rfl rfl trivial (SrcA.strT (by kernel_rfl) x16) (bytesOf_len _).symm g17 (Y0s rfl rfl rfl (OpsW.sg 1 [35,33,0,2] ((35,.ref 2010 0 2)::(33,.rsl 3010 1 0 ((Z3y v9 x16).length))::Z3d) (Y1d rfl rfl rfl rfl trivial trivial rfl rfl rfl (by kernel_rfl) (Yx (by kernel_rfl)) (X9 (by kernel_rfl)) ?_)));change OpsW _ _ _ _ _ ((2010,⟨0,true,54,3,[slA Y4 v9.f_,.j v9.at_,.rsl 3010 1 0 ((Z3y v9 x16).length)]⟩)::(3010,rtA 1 5 1 (eI .u8) (Z3y v9 x16))::(Z3m t0 v9)) _;refine OpsW.sg 0 [0,2] Z3d (OpsW.rc Z3d (Z3i t0 v9 x16) (StC.mk (phi [(2,some 2),(2010,some 2010),(3010,some 3010)]) (.o rfl (.i2 .nil) (.o rfl (.i2 (.cons (.s rfl) .nil)) (.o rfl (CstL.ims _) .nil))) rfl (.cons (.r rfl) (.cons (.r rfl) .nil))) ?_)
 refine Y2 (Y0 (OpsW.sg 2 [37,36,0,2] ((37,.ref 2010 0 0)::(36,.ref 2010 0 0)::Z3d) ?_));refine Y0s rfl rfl rfl (OpsW.sg 2 [40,36,0,2] ((40,.rsl 3010 0 0 ((Z3y v9 x16).length))::(36,.ref 2010 0 0)::Z3d) ?_);have⟨g18,H⟩:=Y00 H;refine Y5q (enc:=eI .u8) [(40:Int)] rfl rfl rfl (by decide) rfl rfl rfl (by simp) E24 (fun _=>rfl) (by decide) trivial (by kernel_rfl) (by kernel_rfl) (by kernel_rfl) rfl rfl rfl g18 (Y0s rfl rfl rfl (OpsW.sg 1 [44,42,0,2] ((44,.ref 2010 0 2)::(42,.rsl 3010 1 0 ((Z43 v9 x16).length))::Z3d) (Y1d rfl rfl rfl rfl trivial trivial rfl rfl rfl (by kernel_rfl) (Yx (by kernel_rfl)) (X9 (by kernel_rfl)) ?_)));change OpsW _ _ _ _ _ ((2010,⟨0,true,54,3,[slA Y4 v9.f_,.j v9.at_,.rsl 3010 1 0 ((Z43 v9 x16).length)]⟩)::(3010,rtA 1 5 1 (eI .u8) (Z43 v9 x16))::(Z3i t0 v9 x16)) _;refine OpsW.sg 0 [0,2] Z3d (OpsW.rc Z3d [(2,⟨0,true,26,2,(Z3x t0)⟩),(2010,⟨0,true,54,3,[slA Y4 v9.f_,.j v9.at_,.rsl 3010 0 0 ((Z43 v9 x16).length)]⟩),(3010,rtA 0 5 1 (eI .u8) (Z43 v9 x16))] (StC.mk (phi [(2,some 2),(2010,some 2010),(3010,some 3010)]) (.o rfl (.i2 .nil) (.o rfl (.i2 (.cons (.s rfl) .nil)) (.o rfl (CstL.ims _) .nil))) rfl (.cons (.r rfl) (.cons (.r rfl) .nil))) ?_);refine Y2 (Y0 (OpsW.sg 1 [46,0,2] ((46,.agg (Z3x t0))::Z3d) ?_));have⟨x19,hx19,H⟩:=Y0y H;refine Y20 rfl (.cons (.pur rfl) .nil) (f_formula_arity_ok hx19) (OpsW.sg 5 [3,0,2] ((3,.j x19.1)::Z3d) ?_)
 refine Y2 (Y05 (Y0 (OpsW.sg 2 [51,50,0,2] ((51,.j (0:Int))::(50,.j x19.1)::Z3d) ?_)));refine Y2 (Y04 ?_);refine Y40 (fun loop (s:Yf×Y5×Int)=>Y0q ra2 x19 loop s.1 s.2.1 s.2.2) r (fun(s:Yf×Y5×Int)=>[Z3z,Z42,(50,.j x19.1),(51,.j s.2.2)]) (fun(s:Yf×Y5×Int)=>[(2010,⟨0,true,54,3,[slA Y4 s.1.f_,.j s.1.at_,.rsl 3010 0 0 s.1.text_.length]⟩),(3010,rtA 0 5 1 (eI .u8) s.1.text_),(2,⟨0,true,26,2,[.j s.2.1.Op,.j s.2.1.N]⟩)]) ?_ 1000000 ((⟨v9.f_,v9.at_,(Z3y v9 x16)++[(40:Int)]⟩:Yf),(Z3v t0),(0:Int)) H (StC.mk (phi [(2010,some 2010),(3010,some 3010),(2,some 2)]) (.o rfl (.i2 (.cons (.s rfl) .nil)) (.o rfl (CstL.ims _) (.o rfl (.i2 .nil) .nil))) rfl (.cons (.r rfl) (.cons (.r rfl) (.i2 .nil))));intro loop23 s H;have⟨v20,v21,v22⟩:=s;unfold Y0q at H;change AW _ _ _ (Z3b v22 x19) (Z3h v20 v21) _;refine Y0 (OpsW.sg 1 [52,0,2,50,51] ((52,.bool (decide (v22<x19.1)))::(Z3b v22 x19)) ?_);refine Y2 (Y05 (Yc (b:=decide (v22<x19.1)) H rfl (fun c24 H=> ?_) (fun c24 H=> ?_)))
 ·refine Yh<|Y33 (fun(y:Yf×Y5)=>Y24 loop23 v22 y.1 y.2) r (fun(y:Yf×Y5)=>(Z3b v22 x19)) (fun(y:Yf×Y5)=>[(2010,⟨0,true,54,3,[slA Y4 y.1.f_,.j y.1.at_,.rsl 3010 0 0 y.1.text_.length]⟩),(3010,rtA 0 5 1 (eI .u8) y.1.text_),(2,⟨0,true,26,2,[.j y.2.Op,.j y.2.N]⟩)]) ?_ ?_
  ·refine Y04 (Y0 (OpsW.sg 2 [5,0,2,50,51] ((5,.j v22)::(Z3b v22 x19)) ?_));refine Y2<|Y33 (fun(y:Yf×Y5)=>Y0p ra2 loop23 v22 y.1 y.2) r (fun(y:Yf×Y5)=>(Z3b v22 x19)) (fun(y:Yf×Y5)=>[(2010,⟨0,true,54,3,[slA Y4 y.1.f_,.j y.1.at_,.rsl 3010 0 0 y.1.text_.length]⟩),(3010,rtA 0 5 1 (eI .u8) y.1.text_),(2,⟨0,true,26,2,[.j y.2.Op,.j y.2.N]⟩)]) ?_ ?_
   ·refine Y0 (OpsW.sg 2 [55,5,0,2,50,51] ((55,.bool (decide (0<v22)))::(5,.j v22)::(Z3b v22 x19)) ?_);refine Y2 (Yc (b:=decide (0<v22)) H rfl (fun c31 H=> ?_) (fun c31 H=> ?_))
    ·refine AW.drawP 9 [0,1,6] Tryd.checked.mixed (by kernel_rfl) (by kernel_rfl)<|QOps.sz (N:=128) 2 (Z3t v22 x19) trivial (QOps.quietU (.ref 2010 0 0) rfl (Quiet.nilCheck rfl (gpoU rfl ⟨trivial,rfl,rfl⟩)) (QOps.sz (N:=128) 4 ((62,.j v22)::(61,.agg [.j v21.Op,.j v21.N])::(60,.rsl 3010 0 0 v20.text_.length)::(59,.ref 2010 0 2)::(58,.ref 2010 0 0)::(Z3t v22 x19)) trivial ?_));have⟨x32,hx32,H⟩:=Y0y H;refine QOps.qcall rfl (by kernel_rfl) rfl (Ys trivial) (.cons (.pur rfl) (.cons (.pur rfl) .nil)) (f_formula_separator_ok hx32) rfl (QOps.buildTI (enc:=eI .u8) [x32] rfl rfl E24 (fun _=>rfl) (by decide) ⟨trivial,by kernel_rfl,by kernel_rfl,by kernel_rfl,rfl⟩ ?_);refine QOps.nil (OpsW.sg 0 [64,60,56,0,2,50,51] ((64,sU [x32])::(60,.rsl 3010 0 0 v20.text_.length)::(56,.ref 2010 0 0)::(Z3b v22 x19)) ?_);have⟨g33,H⟩:=Y00 H;refine Y6a (enc:=eI .u8) (ys:=[x32]) rfl rfl rfl E24 (fun _=>rfl) rfl rfl trivial (SrcA.typed (enc:=eI .u8) (fun _=>rfl) (by kernel_rfl) [x32]) rfl g33 (Y0s rfl rfl rfl (OpsW.sg 1 [67,65,0,2,50,51] ((67,.ref 2010 0 2)::(65,.rsl 3010 1 0 ((v20.text_++[x32]).length))::(Z3b v22 x19)) (Y1d rfl rfl rfl rfl trivial trivial rfl rfl rfl (by kernel_rfl) (Yx (by kernel_rfl)) (X9 (by kernel_rfl)) ?_)));change OpsW _ _ _ _ _ ((2010,⟨0,true,54,3,[slA Y4 v20.f_,.j v20.at_,.rsl 3010 1 0 ((v20.text_++[x32]).length)]⟩)::(3010,rtA 1 5 1 (eI .u8) (v20.text_++[x32]))::(Z3h v20 v21)) _
     refine OpsW.sg 0 [0,2,50,51] (Z3b v22 x19) (OpsW.rc (Z3b v22 x19) [(2,⟨0,true,26,2,[.j v21.Op,.j v21.N]⟩),(2010,⟨0,true,54,3,[slA Y4 v20.f_,.j v20.at_,.rsl 3010 0 0 ((v20.text_++[x32]).length)]⟩),(3010,rtA 0 5 1 (eI .u8) (v20.text_++[x32]))] (StC.mk (phi [(2,some 2),(2010,some 2010),(3010,some 3010)]) (.o rfl (.i2 .nil) (.o rfl (.i2 (.cons (.s rfl) .nil)) (.o rfl (CstL.ims _) .nil))) rfl (.cons (.r rfl) (.cons (.r rfl) (.i2 .nil)))) (Y2 ?_));exact⟨((⟨v20.f_,v20.at_,v20.text_++[x32]⟩:Yf),v21),H,(StC.mk (phi [(2010,some 2010),(3010,some 3010),(2,some 2)]) (.o rfl (.i2 (.cons (.s rfl) .nil)) (.o rfl (CstL.ims _) (.o rfl (.i2 .nil) .nil))) rfl (.cons (.r rfl) (.cons (.r rfl) (.i2 .nil))))⟩
    refine Yh ?_;exact⟨(v20,v21),H,(StC.mk (phi [(2010,some 2010),(3010,some 3010),(2,some 2)]) (.o rfl (.i2 (.cons (.s rfl) .nil)) (.o rfl (CstL.ims _) (.o rfl (.i2 .nil) .nil))) rfl (.cons (.r rfl) (.cons (.r rfl) (.i2 .nil))))⟩
   rintro⟨v28,v29⟩ H;unfold Y0p at H;change AW _ _ _ (Z3b v22 x19) ((2010,⟨0,true,54,3,[slA Y4 v28.f_,.j v28.at_,.rsl 3010 0 0 v28.text_.length]⟩)::(3010,rtA 0 5 1 (eI .u8) v28.text_)::(Z3r v29)) _;refine Yz (OpsW.sg 1 [68,0,2,50,51] ((68,.ref 2010 0 0)::(Z3b v22 x19)) ?_);have⟨x30,hx30,H⟩:=Y0y H;refine Y2v (Z3j v28) (Z3r v29) (Z3j v28) (phi [(2010,some 2010),(3010,some 3010)]) rfl (hra2 _ _ hx30) (.cons (.r rfl) .nil) (.cons rfl rfl rfl rfl rfl (.i2 (.cons (.s rfl) .nil)) (.b (RnL.ims _) .nil)) (.tup []) [(2010,⟨0,true,54,3,[slA Y4 x30.f_,.j x30.at_,.rsl 3010 1 0 x30.text_.length]⟩),(3010,rtA 1 5 1 (eI .u8) x30.text_)] (phi [(2010,some 2010),(3010,some 3010)]) (.cons rfl rfl rfl rfl rfl (.i2 (.cons (.s rfl) .nil)) (.b (RnL.ims _) .nil)) (.tup .nil .nil) ?_;refine OpsW.sg 0 [0,2,50,51] (Z3b v22 x19) (OpsW.rc (Z3b v22 x19) [(2,⟨0,true,26,2,[.j v29.Op,.j v29.N]⟩),(2010,⟨0,true,54,3,[slA Y4 x30.f_,.j x30.at_,.rsl 3010 0 0 x30.text_.length]⟩),(3010,rtA 0 5 1 (eI .u8) x30.text_)] (StC.mk (phi [(2,some 2),(2010,some 2010),(3010,some 3010)]) (.o rfl (.i2 .nil) (.o rfl (.i2 (.cons (.s rfl) .nil)) (.o rfl (CstL.ims _) .nil))) rfl (.cons (.r rfl) (.cons (.r rfl) (.i2 .nil)))) (Y2 ?_));exact⟨(x30,v29),H,(StC.mk (phi [(2010,some 2010),(3010,some 3010),(2,some 2)]) (.o rfl (.i2 (.cons (.s rfl) .nil)) (.o rfl (CstL.ims _) (.o rfl (.i2 .nil) .nil))) rfl (.cons (.r rfl) (.cons (.r rfl) (.i2 .nil))))⟩
  rintro⟨v25,v26⟩ H;unfold Y24 at H;change AW _ _ _ (Z3b v22 x19) [(2010,⟨0,true,54,3,[slA Y4 v25.f_,.j v25.at_,.rsl 3010 0 0 v25.text_.length]⟩),(3010,rtA 0 5 1 (eI .u8) v25.text_),(2,⟨0,true,26,2,[.j v26.Op,.j v26.N]⟩)] _;refine Yz ?_;have⟨g27,H⟩:=Y00 H;refine OpsW.sz 2 [51,0,2,50] [(51,.j (v22+1)),Z3z,Z42,(50,.j x19.1)] ⟨g27,trivial⟩ (Y2 ?_);exact⟨(v25,v26,v22+1),H,(StC.mk (phi [(2010,some 2010),(3010,some 3010),(2,some 2)]) (.o rfl (.i2 (.cons (.s rfl) .nil)) (.o rfl (CstL.ims _) (.o rfl (.i2 .nil) .nil))) rfl (.cons (.r rfl) (.cons (.r rfl) (.i2 .nil))))⟩
 refine AW.exit<|Yz (OpsW.sg 2 [72,71] [(72,.ref 2010 0 0),(71,.ref 2010 0 0)] ?_);refine Y0s rfl rfl rfl (OpsW.sg 2 [75,71] [(75,.rsl 3010 0 0 v20.text_.length),(71,.ref 2010 0 0)] ?_);have⟨g34,H⟩:=Y00 H;refine Y5q (enc:=eI .u8) [(41:Int)] rfl rfl rfl (by decide) rfl rfl rfl (by simp) E24 (fun _=>rfl) (by decide) trivial (by kernel_rfl) (by kernel_rfl) (by kernel_rfl) rfl rfl rfl g34 (Y0s rfl rfl rfl (OpsW.sg 1 [79,77] [(79,.ref 2010 0 2),(77,.rsl 3010 1 0 ((Z41 v20).length))] (Y1d rfl rfl rfl rfl trivial trivial rfl rfl rfl (by kernel_rfl) (Yx (by kernel_rfl)) (X9 (by kernel_rfl)) ?_)));change OpsW _ _ _ _ _ ((2010,⟨0,true,54,3,[slA Y4 v20.f_,.j v20.at_,.rsl 3010 1 0 ((Z41 v20).length)]⟩)::(3010,rtA 1 5 1 (eI .u8) (Z41 v20))::(Z3h v20 v21)) _;refine OpsW.sg 0 [] [] (OpsW.rc [] [(2010,⟨0,true,54,3,[slA Y4 v20.f_,.j v20.at_,.rsl 3010 0 0 ((Z41 v20).length)]⟩),(3010,rtA 0 5 1 (eI .u8) (Z41 v20))] (StC.mk (phi [(2010,some 2010),(3010,some 3010)]) (.o rfl (.i2 (.cons (.s rfl) .nil)) (.o rfl (CstL.ims _) .nil)) rfl .nil) (Y2 ?_));obtain rfl:=X6 H;show ∃en' hp',StC _ _ en' hp'∧Done _ _ _ .normal en' hp';refine⟨[],[(2010,⟨0,true,54,3,[slA Y4 v20.f_,.j v20.at_,.rsl 3010 1 0 ((Z41 v20).length)]⟩),(3010,rtA 1 5 1 (eI .u8) (Z41 v20))],(StC.mk (phi [(2010,some 2010),(3010,some 3010)]) (.o rfl (.i2 (.cons (.s rfl) .nil)) (.o rfl (CstL.ims _) .nil)) rfl .nil), ?_⟩;refine Done.genN rfl .nil ?_
 exact⟨by kernel_rfl,by kernel_rfl⟩
def Y02:Nat→Yf→Option Yf
 |0,_=>none
 |n+1,t0=>Y2m (Y02 n) t0
theorem Y5t:∀n:Nat,(∀(t0:Yf) (r:Yf),Y02 n t0=some r→Abs.Spec Tryd.prog 29 [.ref 2010 0 0] [(2010,⟨0,true,54,3,[slA Y4 t0.f_,.int .i64 t0.at_,.rsl 3010 0 0 t0.text_.length]⟩),(3010,rtA 0 5 1 (eI .u8) t0.text_)] (fun x h=>x= .tup []∧h=[(2010,⟨0,true,54,3,[slA Y4 r.f_,.int .i64 r.at_,.rsl 3010 1 0 r.text_.length]⟩),(3010,rtA 1 5 1 (eI .u8) r.text_)]))∧True
 |0=>by
  refine⟨?_,trivial⟩
  ·intro t0 r H;rw[Y02] at H;cases H
 |n+1=>by
  have ih:=Y5t n;refine⟨?_,trivial⟩
  ·intro t0 r H;rw[Y02] at H;exact f_formula_printer_node_body_io ih.1 H
def Y53 (t0:Yf):Option Yf:=Y02 1000000 t0
theorem f_formula_printer_node_io{t0:Yf}{r:Yf}(H:Y53 t0=some r):Abs.Spec Tryd.prog 29 [.ref 2010 0 0] [(2010,⟨0,true,54,3,[slA Y4 t0.f_,.int .i64 t0.at_,.rsl 3010 0 0 t0.text_.length]⟩),(3010,rtA 0 5 1 (eI .u8) t0.text_)] (fun x h=>x= .tup []∧h=[(2010,⟨0,true,54,3,[slA Y4 r.f_,.int .i64 r.at_,.rsl 3010 1 0 r.text_.length]⟩),(3010,rtA 1 5 1 (eI .u8) r.text_)]):=
 (Y5t 1000000).1 t0 r H
def Y5f (t0:List Y5):Option ByteArray:=
 (Y4d t0).bind fun x1=>
 cond (!x1) (
  some (⟨#[]⟩:ByteArray)) (
  (Y53 (⟨t0,(0:Int),([]:List Int)⟩:Yf)).bind fun x3=>
  some (strOf x3.text_))
section
variable (t0:List Y5) (x3:Yf)
abbrev Z46:List AV:=[slA Y4 t0,.j (0:Int),.im (.val (.slice none 0 0))]
abbrev Z44:Hp:=[(3,⟨0,true,54,3,[slA Y4 t0,.j (0:Int),.rsl 5030 0 0 0]⟩),(5030,rtA 0 5 1 (eI .u8) ([]:List Int))]
abbrev Z45:Hp:=[(3,⟨0,true,54,3,[slA Y4 x3.f_,.j x3.at_,.rsl 5030 1 0 x3.text_.length]⟩),(5030,rtA 1 5 1 (eI .u8) x3.text_)]
end
theorem f_formula_Print_ok{t0:List Y5}{r:ByteArray}(H:Y5f t0=some r):QSpec Tryd.prog 14 [slA Y4 t0] (.string r):=by
 refine Yw Tryd.func14 rfl (by simp[Tryd.ntmps14]) ?_;rw[Tryd.ntmps14];unfold Y5f at H;change AW _ _ _ [(0,slA Y4 t0)] [] _;refine Y0 (OpsW.sg 1 [0] [(0,slA Y4 t0)] ?_);refine Y2 (Y05 (Y0 (OpsW.sg 1 [4,0] [(4,slA Y4 t0),(0,slA Y4 t0)] ?_)));have⟨x1,hx1,H⟩:=Y0y H;refine Y20 rfl (.cons (.pur rfl) .nil) (f_formula_Valid_ok hx1) (OpsW.sg 1 [6,0] [(6,.bool (!x1)),(0,slA Y4 t0)] (Y2 (Yc (b:= !x1) H rfl (fun c2 H=> ?_) (fun c2 H=> ?_))))
 ·refine Y0 (OpsW.sg 1 [2] [(2,.string (⟨#[]⟩:ByteArray))] ?_);refine Y2 ?_;obtain rfl:=X6 H;refine AW.recast (env':=[(2,.string (⟨#[]⟩:ByteArray))]) (h':=[]) (StC.pure (.cons .im .nil)) (Yp ?_)
  try simp only[Ex.t,Ex.b]
  exact Done.eq rfl (.tmp .nil)
 refine Yh (Y0 (OpsW.sg 2 [8] [(8,.agg (Z46 t0))] ?_));refine OpsW.alloc' rfl rfl rfl 3 rfl (by kernel_rfl:zc Tryd.prog 54=some [.slice none 0 0,.j 0,.slice none 0 0]) (by kernel_rfl) (Y1d rfl rfl rfl rfl trivial trivial rfl rfl rfl (by kernel_rfl) (Yx (by kernel_rfl)) (X9 (by kernel_rfl)) ?_);change OpsW _ _ _ _ _ [(3,⟨0,true,54,3,(Z46 t0)⟩),(3,⟨0,true,54,3,[.im (.val (.slice none 0 0)),.j (0:Int),.im (.val (.slice none 0 0))]⟩)] _;refine OpsW.sg 0 [3] [(3,.ref 3 0 0)] (OpsW.rc [(3,.ref 3 0 0)] [(3,⟨0,true,54,3,(Z46 t0)⟩)] (StC.mk (phi [(3,some 3)]) (.o rfl (.i3 .nil) .nil) rfl (.cons (.r rfl) .nil)) ?_);refine Y2 (Y0 (OpsW.rc [(3,.ref 3 0 0)] (Z44 t0) (StC.mk (phi [(3,some 3),(5030,none)]) (.o rfl (.i2 (.cons (.nilr rfl rfl rfl) .nil)) (.new rfl .nil)) rfl (.cons (.r rfl) .nil)) ?_));have⟨x3,hx3,H⟩:=Y0y H;refine Y2v (Z44 t0) [] [(2010,⟨0,true,54,3,[slA Y4 t0,.j (0:Int),.rsl 3010 0 0 0]⟩),(3010,rtA 0 5 1 (eI .u8) ([]:List Int))] (phi [(2010,some 3),(3010,some 5030)]) rfl (f_formula_printer_node_io hx3) (.cons (.r rfl) .nil) (.cons rfl rfl rfl rfl rfl (.i2 (.cons (.s rfl) .nil)) (.b (RnL.ims _) .nil)) (.tup []) (Z45 x3) (phi [(3,some 2010),(5030,some 3010)]) (.cons rfl rfl rfl rfl rfl (.i2 (.cons (.s rfl) .nil)) (.b (RnL.ims _) .nil)) (.tup .nil .nil) ?_
 refine OpsW.sg 0 [3] [(3,.ref 3 0 0)] (OpsW.rc [(3,.ref 3 0 0)] [(3,⟨0,true,54,3,[slA Y4 x3.f_,.j x3.at_,.rsl 5030 0 0 x3.text_.length]⟩),(5030,rtA 0 5 1 (eI .u8) x3.text_)] (StC.mk (phi [(3,some 3),(5030,some 5030)]) (.o rfl (.i2 (.cons (.s rfl) .nil)) (.o rfl (CstL.ims _) .nil)) rfl (.cons (.r rfl) .nil)) ?_);refine Y2 (Y0 (OpsW.sg 2 [11] [(11,.rsl 5030 0 0 x3.text_.length)] ?_));refine OpsW.quietU (.string (strOf x3.text_)) rfl rfl (Quiet.toStr (e:=5) x3.text_ rfl (by kernel_rfl) (by kernel_rfl) (by kernel_rfl) (gpoU rfl ⟨trivial,SlV.rsl rfl rfl,SrcA.rootF (enc:=eI .u8) (fun _=>rfl) (by kernel_rfl) rfl⟩)) (OpsW.sg 1 [2] [(2,.string (strOf x3.text_))] (Y2 ?_));obtain rfl:=X6 H;refine AW.recast (env':=[(2,.string (strOf x3.text_))]) (h':=[]) (StC.pure (.cons .im .nil)) (Yp ?_)
 try simp only[Ex.t,Ex.b]
 exact Done.eq rfl (.tmp .nil)
def f_R09_Digits_body (ra3:Int→Option ByteArray) (t0:Int):Option ByteArray:=
 cond (decide (t0<10)) (
  G (inR (48+t0))<|
  some (strOf [IntKind.wrap .u8 (48+t0)])) (
  G (inR (Int.tdiv t0 (10:Int)))<|
  (ra3 (Int.tdiv t0 (10:Int))).bind fun x4=>
  G (inR ((48:Int)+(Int.tmod t0 (10:Int))))<|
  G (x4.size+(strOf [IntKind.wrap .u8 ((48:Int)+(Int.tmod t0 (10:Int)))]).size≤9223372036854775807)<|
  some (x4++(strOf [IntKind.wrap .u8 ((48:Int)+(Int.tmod t0 (10:Int)))])))
def Y5z:Nat→Int→Option ByteArray
 |0,_=>none
 |n+1,t0=>f_R09_Digits_body (Y5z n) t0
def f_R09_Digits (t0:Int):Option ByteArray:=Y5z 1000000 t0
def f_R09_names:Option ((List ByteArray)×(List Int)):=
 some ([(⟨#[102,114,97,99]⟩:ByteArray),(⟨#[112,111,119]⟩:ByteArray),(⟨#[105,100,120]⟩:ByteArray),(⟨#[114,111,111,116]⟩:ByteArray),(⟨#[99,97,110,99,101,108]⟩:ByteArray),(⟨#[115,117,109]⟩:ByteArray),(⟨#[109,97,116,114,105,120]⟩:ByteArray)],[(6:Int),(7:Int),(8:Int),(9:Int),(11:Int),(12:Int),(13:Int)])
section
abbrev Z4b:Nat×AV:=(0,slA eS [(⟨#[102,114,97,99]⟩:ByteArray),(⟨#[112,111,119]⟩:ByteArray),(⟨#[105,100,120]⟩:ByteArray),(⟨#[114,111,111,116]⟩:ByteArray),(⟨#[99,97,110,99,101,108]⟩:ByteArray),(⟨#[115,117,109]⟩:ByteArray),(⟨#[109,97,116,114,105,120]⟩:ByteArray)])
abbrev Z4c:Nat×AV:=(1,slA (eI .i64) [(6:Int),(7:Int),(8:Int),(9:Int),(11:Int),(12:Int),(13:Int)])
end
theorem f_R09_names_ok{r:(List ByteArray)×(List Int)}(H:f_R09_names=some r):QSpec Tryd.prog 80 [] (.tup [slA eS r.1,slA (eI .i64) r.2]):=by
 refine Yw Tryd.func80 rfl (by simp[Tryd.ntmps80]) ?_;rw[Tryd.ntmps80];unfold f_R09_names at H;change AW _ _ _ [] [] _;refine Y0 (OpsW.sg 2 [] [] ?_);refine Y2 (Y0 (OpsW.buildTI (enc:=eS) [(⟨#[102,114,97,99]⟩:ByteArray),(⟨#[112,111,119]⟩:ByteArray),(⟨#[105,100,120]⟩:ByteArray),(⟨#[114,111,111,116]⟩:ByteArray),(⟨#[99,97,110,99,101,108]⟩:ByteArray),(⟨#[115,117,109]⟩:ByteArray),(⟨#[109,97,116,114,105,120]⟩:ByteArray)] rfl rfl rfl E89 (fun _=>rfl) (by decide) ⟨trivial,by kernel_rfl,by kernel_rfl,by kernel_rfl,rfl⟩ ?_));refine OpsW.buildTI (enc:=eI .i64) [(6:Int),(7:Int),(8:Int),(9:Int),(11:Int),(12:Int),(13:Int)] rfl rfl rfl E42 (fun _=>rfl) (by decide) ⟨trivial,by kernel_rfl,by kernel_rfl,by kernel_rfl,rfl⟩ (OpsW.sg 2 [1,0] [Z4c,Z4b] (Y2 ?_));obtain rfl:=X6 H;refine AW.recast (env':=[Z4b,Z4c]) (h':=[]) (StC.pure (.i2 .nil)) (Yp ?_)
 try simp only[Ex.t,Ex.b]
 exact Done.eq rfl (.tmp (.tmp .nil))
def f_R09_name_b1 (t0:Int) (x1:(List ByteArray)×(List Int)) (loop3:(Int)→Option ByteArray) (v2:Int):Option ByteArray:=
 cond (decide (v2<(x1.2.length:Int))) (
  G (0≤v2∧v2<(x1.2.length:Int))<|
  cond ((x1.2.getD v2.toNat 0)==t0) (
   G (0≤v2∧v2<(x1.1.length:Int))<|
   some (x1.1.getD v2.toNat ByteArray.empty)) (
   G (inR (v2+1))<|
   loop3 (v2+1))) (
  some (⟨#[]⟩:ByteArray))
def f_R09_name (t0:Int):Option ByteArray:=
 (f_R09_names).bind fun x1=>
 iter (fun loop (s:Int)=>f_R09_name_b1 t0 x1 loop s) 1000000 (0:Int)
def f_R09_text_body_k1 (loop7:(ByteArray×Int)→Option ByteArray) (v6:Int) (v9:ByteArray):Option ByteArray:=
 G (inR (v6+1))<|
 loop7 (v9,v6+1)
def Y57 (ra4:(List Y5)→Int→Option ByteArray) (t0:List Y5) (x1:List Int) (loop7:(ByteArray×Int)→Option ByteArray) (v6:Int) (v11:ByteArray):Option ByteArray:=
 G (0≤v6∧v6<(x1.length:Int))<|
 (ra4 t0 (x1.getD v6.toNat 0)).bind fun x13=>
 G (v11.size+x13.size≤9223372036854775807)<|
 f_R09_text_body_k1 loop7 v6 (v11++x13)
def Y56 (ra4:(List Y5)→Int→Option ByteArray) (t0:List Y5) (x1:List Int) (loop7:(ByteArray×Int)→Option ByteArray) (v5:ByteArray) (v6:Int) (v16:ByteArray):Option ByteArray:=
 G (v5.size+v16.size≤9223372036854775807)<|
 Y57 ra4 t0 x1 loop7 v6 (v5++v16)
def Y58 (ra4:(List Y5)→Int→Option ByteArray) (t0:List Y5) (t1:Int) (x1:List Int) (loop7:(ByteArray×Int)→Option ByteArray) (v5:ByteArray) (v6:Int):Option ByteArray:=
 cond (decide (v6<(x1.length:Int))) (
  cond (decide (0<v6)) (
   G ((((t0.getD t1.toNat Yd).Op)==12)=true→inR ((x1.length:Int)-1))<|
   G (((!(cond (((t0.getD t1.toNat Yd).Op)==12) (v6==((x1.length:Int)-1)) false))&&(((t0.getD t1.toNat Yd).Op)==13))=true→(Int.tmod ((t0.getD t1.toNat Yd).N) (8:Int))≠0)<|
   cond (cond (cond (((t0.getD t1.toNat Yd).Op)==12) (v6==((x1.length:Int)-1)) false) true (cond (((t0.getD t1.toNat Yd).Op)==13) ((Int.tmod v6 (Int.tmod ((t0.getD t1.toNat Yd).N) (8:Int)))==0) false)) (
    Y56 ra4 t0 x1 loop7 v5 v6 (⟨#[59]⟩:ByteArray)) (
    Y56 ra4 t0 x1 loop7 v5 v6 (⟨#[44]⟩:ByteArray))) (
   Y57 ra4 t0 x1 loop7 v6 v5)) (
  G (v5.size+(⟨#[41]⟩:ByteArray).size≤9223372036854775807)<|
  some (v5++(⟨#[41]⟩:ByteArray)))
def f_R09_text_body_k4 (ra4:(List Y5)→Int→Option ByteArray) (t0:List Y5) (t1:Int) (x1:List Int):Option ByteArray:=
 (f_R09_name ((t0.getD t1.toNat Yd).Op)).bind fun x3=>
 G (x3.size+(⟨#[40]⟩:ByteArray).size≤9223372036854775807)<|
 iter (fun loop (s:ByteArray×Int)=>Y58 ra4 t0 t1 x1 loop s.1 s.2) 1000000 (x3++(⟨#[40]⟩:ByteArray),(0:Int))
def Y26 (ra4:(List Y5)→Int→Option ByteArray) (t0:List Y5) (t1:Int) (x1:List Int) (v26:Bool):Option ByteArray:=
 cond v26 (
  G (0≤((t0.getD t1.toNat Yd).Op)∧((t0.getD t1.toNat Yd).Op)<([(⟨#[]⟩:ByteArray),(⟨#[]⟩:ByteArray),(⟨#[43]⟩:ByteArray),(⟨#[45]⟩:ByteArray),(⟨#[42]⟩:ByteArray),(⟨#[61]⟩:ByteArray)].length:Int))<|
  G (0≤(0:Int)∧(0:Int)<(x1.length:Int))<|
  (ra4 t0 (x1.getD (0:Int).toNat (0:Int))).bind fun x30=>
  G (x30.size+([(⟨#[]⟩:ByteArray),(⟨#[]⟩:ByteArray),(⟨#[43]⟩:ByteArray),(⟨#[45]⟩:ByteArray),(⟨#[42]⟩:ByteArray),(⟨#[61]⟩:ByteArray)].getD ((t0.getD t1.toNat Yd).Op).toNat ByteArray.empty).size≤9223372036854775807)<|
  G (0≤(1:Int)∧(1:Int)<(x1.length:Int))<|
  (ra4 t0 (x1.getD (1:Int).toNat (0:Int))).bind fun x33=>
  G ((x30++([(⟨#[]⟩:ByteArray),(⟨#[]⟩:ByteArray),(⟨#[43]⟩:ByteArray),(⟨#[45]⟩:ByteArray),(⟨#[42]⟩:ByteArray),(⟨#[61]⟩:ByteArray)].getD ((t0.getD t1.toNat Yd).Op).toNat ByteArray.empty)).size+x33.size≤9223372036854775807)<|
  some ((x30++([(⟨#[]⟩:ByteArray),(⟨#[]⟩:ByteArray),(⟨#[43]⟩:ByteArray),(⟨#[45]⟩:ByteArray),(⟨#[42]⟩:ByteArray),(⟨#[61]⟩:ByteArray)].getD ((t0.getD t1.toNat Yd).Op).toNat ByteArray.empty))++x33)) (
  f_R09_text_body_k4 ra4 t0 t1 x1)
def f_R09_text_body (ra4:(List Y5)→Int→Option ByteArray) (t0:List Y5) (t1:Int):Option ByteArray:=
 (Y42 t0 t1).bind fun x1=>
 G (0≤t1∧t1<(t0.length:Int))<|
 cond (((t0.getD t1.toNat Yd).Op)==0) (
  (f_R09_Digits ((t0.getD t1.toNat Yd).N)).bind fun x23=>
  some x23) (
  cond (((t0.getD t1.toNat Yd).Op)==1) (
   G (inR (97+((t0.getD t1.toNat Yd).N)))<|
   some (strOf [IntKind.wrap .u8 (97+((t0.getD t1.toNat Yd).N))])) (
   cond (((t0.getD t1.toNat Yd).Op)==2) (
    Y26 ra4 t0 t1 x1 (((t0.getD t1.toNat Yd).Op)==2)) (
    cond (((t0.getD t1.toNat Yd).Op)==3) (
     Y26 ra4 t0 t1 x1 (((t0.getD t1.toNat Yd).Op)==3)) (
     cond (((t0.getD t1.toNat Yd).Op)==4) (
      Y26 ra4 t0 t1 x1 (((t0.getD t1.toNat Yd).Op)==4)) (
      Y26 ra4 t0 t1 x1 (((t0.getD t1.toNat Yd).Op)==5))))))
def Y3y:Nat→(List Y5)→Int→Option ByteArray
 |0,_,_=>none
 |n+1,t0,t1=>f_R09_text_body (Y3y n) t0 t1
def f_R09_text (t0:List Y5) (t1:Int):Option ByteArray:=Y3y 1000000 t0 t1
def f_R09_Text (t0:List Y5):Option ByteArray:=
 (f_R09_text t0 (0:Int)).bind fun x1=>
 some x1
def Y3z (t0:List Y5) (t1:List Y5) (loop3:(Int)→Option Bool) (v2:Int):Option Bool:=
 cond (decide (v2<(t0.length:Int))) (
  G (0≤v2∧v2<(t0.length:Int))<|
  G (0≤v2∧v2<(t1.length:Int))<|
  cond (xor true ([((t0.getD v2.toNat Yd).Op)==((t1.getD v2.toNat Yd).Op),((t0.getD v2.toNat Yd).N)==((t1.getD v2.toNat Yd).N)].all id)) (
   some false) (
   G (inR (v2+1))<|
   loop3 (v2+1))) (
  some true)
def f_R09_Same (t0:List Y5) (t1:List Y5):Option Bool:=
 cond ((t0.length:Int) !=(t1.length:Int)) (
  some false) (
  iter (fun loop (s:Int)=>Y3z t0 t1 loop s) 1000000 (0:Int))
section
variable (t0:List Y5) (t1:List Y5) (v2:Int)
abbrev Z5e:=[((t0.getD v2.toNat Yd).Op)==((t1.getD v2.toNat Yd).Op),((t0.getD v2.toNat Yd).N)==((t1.getD v2.toNat Yd).N)].all id
abbrev Z5f:=t0.getD v2.toNat Yd
abbrev Z5g:=t1.getD v2.toNat Yd
abbrev Z5b:Env:=[(19,.ipt (t0.flatMap Y4) (v2.toNat*2)),(18,.j v2),(17,slA Y4 t0),(14,.bool (decide (v2<(t0.length:Int)))),(0,slA Y4 t0),(1,slA Y4 t1),(5,.j v2)]
abbrev Z5c:Env:=[(0,slA Y4 t0),(1,slA Y4 t1)]
abbrev Z5d:Env:=[(0,slA Y4 t0),(1,slA Y4 t1),(5,.j v2)]
end
theorem f_R09_Same_ok{t0:List Y5}{t1:List Y5}{r:Bool}(H:f_R09_Same t0 t1=some r):QSpec Tryd.prog 17 [slA Y4 t0,slA Y4 t1] (.bool r):=by
 refine Yw Tryd.func17 rfl (by simp[Tryd.ntmps17]) ?_;rw[Tryd.ntmps17];unfold f_R09_Same at H;change AW _ _ _ (Z5c t0 t1) [] _;refine Y0 (OpsW.sg 1 [0,1] (Z5c t0 t1) ?_);refine Y2 (Y05 (Y0 (OpsW.sg 5 [10,0,1] ((10,.bool ((t0.length:Int) !=(t1.length:Int)))::(Z5c t0 t1)) ?_)));refine Y2 (Yc (b:=(t0.length:Int) !=(t1.length:Int)) H rfl (fun c1 H=> ?_) (fun c1 H=> ?_))
 ·refine Y0 (OpsW.sg 1 [4] [(4,.bool false)] ?_);refine Y2 ?_;obtain rfl:=X6 H;refine AW.recast (env':=[(4,.bool false)]) (h':=[]) (StC.pure (.cons .im .nil)) (Yp ?_)
  try simp only[Ex.t,Ex.b]
  exact Done.eq rfl (.tmp .nil)
 refine Yh (Y05 (Y0 (OpsW.sg 1 [5,0,1] ((5,.j (0:Int))::(Z5c t0 t1)) ?_)));refine Y2 (Y04 ?_);refine Y40 (fun loop (s:Int)=>Y3z t0 t1 loop s) r (fun(s:Int)=>[(0,slA Y4 t0),(1,slA Y4 t1),(5,.j s)]) (fun(s:Int)=>[]) ?_ 1000000 (0:Int) H (StC.pure (.i3 .nil));intro loop3 v2 H;unfold Y3z at H;change AW _ _ _ (Z5d t0 t1 v2) [] _;refine Y05 (Y0 (OpsW.sg 4 [14,0,1,5] ((14,.bool (decide (v2<(t0.length:Int))))::(Z5d t0 t1 v2)) ?_));refine Y2 (Yc (b:=decide (v2<(t0.length:Int))) H rfl (fun c4 H=> ?_) (fun c4 H=> ?_))
 ·refine Yh (Y05 (Y04 (Y28 Tryd.checked.mixed (by kernel_rfl) ?_)));have⟨g5,H⟩:=Y00 H;refine QOps.sz (N:=26) 3 (Z5b t0 t1 v2) ⟨g5,trivial⟩ (QOps.asU (.agg [.j ((Z5f t0 v2).Op),.j ((Z5f t0 v2).N)]) rfl (T.loadAgg (cs:=t0.flatMap Y4) (off:=v2.toNat*2) (ds:=Y4 (Z5f t0 v2)) rfl trivial (by kernel_rfl) (by have:=Y18 Y4 2 (fun _=>rfl) t0;have:=(ltN g5);first|omega|(simp only[Z5f] at*;omega)) (fm_elem Y4 2 (fun _=>rfl) t0 Yd v2.toNat (ltN g5))) ?_);have⟨g6,H⟩:=Y00 H;refine QOps.sz (N:=26) 3 ((23,.ipt (t1.flatMap Y4) (v2.toNat*2))::(22,.j v2)::(21,slA Y4 t1)::(20,.agg [.j ((Z5f t0 v2).Op),.j ((Z5f t0 v2).N)])::(Z5b t0 t1 v2)) ⟨g6,trivial⟩ (QOps.asU (.agg [.j ((Z5g t1 v2).Op),.j ((Z5g t1 v2).N)]) rfl (T.loadAgg (cs:=t1.flatMap Y4) (off:=v2.toNat*2) (ds:=Y4 (Z5g t1 v2)) rfl trivial (by kernel_rfl) (by have:=Y18 Y4 2 (fun _=>rfl) t1;have:=(ltN g6);first|omega|(simp only[Z5e,Z5f,Z5g] at*;omega)) (fm_elem Y4 2 (fun _=>rfl) t1 Yd v2.toNat (ltN g6))) (QOps.quietU (.bool (xor true (Z5e t0 t1 v2))) rfl (Quiet.eqAgg [.j ((Z5f t0 v2).Op),.j ((Z5f t0 v2).N)] [.j ((Z5g t1 v2).Op),.j ((Z5g t1 v2).N)] [((Z5f t0 v2).Op)==((Z5g t1 v2).Op),((Z5f t0 v2).N)==((Z5g t1 v2).N)] true rfl rfl (by kernel_rfl) (by kernel_rfl) (gpoU rfl ⟨trivial,rfl,trivial,rfl⟩)) ?_));refine QOps.nil (AW.trim [25,0,1,5] ((25,.bool (xor true (Z5e t0 t1 v2)))::(Z5d t0 t1 v2)) (by kernel_rfl) ?_)
  refine Yc (b:=xor true (Z5e t0 t1 v2)) H rfl (fun c7 H=> ?_) (fun c7 H=> ?_)
  ·refine Y0 (OpsW.sg 1 [4] [(4,.bool false)] ?_);refine Y2 ?_;obtain rfl:=X6 H;refine AW.recast (env':=[(4,.bool false)]) (h':=[]) (StC.pure (.cons .im .nil)) (Yp ?_)
   try simp only[Ex.t,Ex.b]
   exact Done.eq rfl (.tmp .nil)
  refine Yh (Yz ?_);have⟨g8,H⟩:=Y00 H;refine OpsW.sz 3 [5,0,1] ((5,.j (v2+1))::(Z5c t0 t1)) ⟨g8,trivial⟩ (Y2 ?_);exact⟨v2+1,H,(StC.pure (.i3 .nil))⟩
 refine AW.exit<|Y0 (OpsW.sg 1 [4] [(4,.bool true)] ?_);refine Y2 ?_;obtain rfl:=X6 H;refine AW.recast (env':=[(4,.bool true)]) (h':=[]) (StC.pure (.cons .im .nil)) (Yp ?_)
 try simp only[Ex.t,Ex.b]
 exact Done.eq rfl (.tmp .nil)
def Yn (t0:Y1):Option Int:=
 cond (decide (t0.At<(t0.S.size:Int))) (
  G (0≤t0.At∧t0.At<(t0.S.size:Int))<|
  some (bAt t0.S t0.At)) (
  some (0:Int))
section
variable (t0:Y1)
abbrev Z5p:=[t0].flatMap eS_parser
abbrev Z5q:Nat×AV:=(12,.bool (decide (t0.At<(t0.S.size:Int))))
abbrev Z5l:Env:=[(15,.ipt (Z5p t0) (0+0)),(14,.ipt (Z5p t0) 0),(13,.ipt (Z5p t0) 0),(Z5q t0),(0,.ipt (Z5p t0) 0)]
abbrev Z5m:Env:=[(5,.ipt (Z5p t0) (0+1)),(4,.ipt (Z5p t0) 0),(3,.ipt (Z5p t0) 0),(0,.ipt (Z5p t0) 0)]
abbrev Z5n:Env:=(9,.ipt (Z5p t0) (0+0))::(8,.ipt (Z5p t0) 0)::(7,.ipt (Z5p t0) 0)::(6,.j t0.At)::(Z5m t0)
abbrev Z5o:Env:=[(0,.ipt (Z5p t0) 0)]
end
theorem Y0f{t0:Y1}{r:Int}(H:Yn t0=some r):QSpec Tryd.prog 54 [.ipt ([t0].flatMap eS_parser) 0] (.int .u8 r):=by
 refine Yw Tryd.func54 rfl (by simp[Tryd.ntmps54]) ?_;rw[Tryd.ntmps54];unfold Yn at H;change AW _ _ _ (Z5o t0) [] _;refine Y0 (OpsW.sg 1 [0] (Z5o t0) ?_);refine Y2 (Y05 (Y28 Tryd.checked.mixed (by kernel_rfl) ?_));refine QOps.sz (N:=22) 1 ((3,.ipt (Z5p t0) 0)::(Z5o t0)) trivial (QOps.quietU (.ipt (Z5p t0) 0) rfl (Y5l rfl (gpoU rfl ⟨trivial,rfl⟩)) (QOps.sz (N:=22) 1 (Z5m t0) trivial (QOps.asU (.j t0.At) rfl (T.load rfl trivial (by kernel_rfl) (fm_cell eS_parser 3 (fun _=>rfl) [t0] zS_parser (0:Int).toNat (ltN (by simp)) 1 (fun a=>.val (.j a.At)) (fun _=>rfl))) (QOps.sz (N:=22) 1 ((7,.ipt (Z5p t0) 0)::(6,.j t0.At)::(Z5m t0)) trivial (QOps.quietU (.ipt (Z5p t0) 0) rfl (Y5l rfl (gpoU rfl ⟨trivial,rfl⟩)) (QOps.sz (N:=22) 1 (Z5n t0) trivial (QOps.asU (.string t0.S) rfl (T.load rfl trivial (by kernel_rfl) (fm_cell eS_parser 3 (fun _=>rfl) [t0] zS_parser (0:Int).toNat (ltN (by simp)) 0 (fun a=>.val (.string a.S)) (fun _=>rfl))) (QOps.sz (N:=22) 2 ((Z5q t0)::(11,.j (t0.S.size:Int))::(10,.string t0.S)::(Z5n t0)) trivial ?_))))))));refine QOps.nil (AW.trim [12,0] ((Z5q t0)::(Z5o t0)) (by kernel_rfl) ?_);refine Yc (b:=decide (t0.At<(t0.S.size:Int))) H rfl (fun c1 H=> ?_) (fun c1 H=> ?_)
 ·refine Y28 Tryd.checked.mixed (by kernel_rfl) ?_;refine QOps.sz (N:=22) 1 ((13,.ipt (Z5p t0) 0)::(Z5q t0)::(Z5o t0)) trivial (QOps.quietU (.ipt (Z5p t0) 0) rfl (Y5l rfl (gpoU rfl ⟨trivial,rfl⟩)) (QOps.sz (N:=22) 1 (Z5l t0) trivial (QOps.asU (.string t0.S) rfl (T.load rfl trivial (by kernel_rfl) (fm_cell eS_parser 3 (fun _=>rfl) [t0] zS_parser (0:Int).toNat (ltN (by simp)) 0 (fun a=>.val (.string a.S)) (fun _=>rfl))) (QOps.sz (N:=22) 1 ((17,.ipt (Z5p t0) 0)::(16,.string t0.S)::(Z5l t0)) trivial (QOps.quietU (.ipt (Z5p t0) 0) rfl (Y5l rfl (gpoU rfl ⟨trivial,rfl⟩)) (QOps.sz (N:=22) 1 ((19,.ipt (Z5p t0) (0+1))::(18,.ipt (Z5p t0) 0)::(17,.ipt (Z5p t0) 0)::(16,.string t0.S)::(Z5l t0)) trivial (QOps.asU (.j t0.At) rfl (T.load rfl trivial (by kernel_rfl) (fm_cell eS_parser 3 (fun _=>rfl) [t0] zS_parser (0:Int).toNat (ltN (by simp)) 1 (fun a=>.val (.j a.At)) (fun _=>rfl))) ?_)))))));have⟨g2,H⟩:=Y00 H;refine QOps.sz (N:=22) 2 ((2,.int .u8 (bAt t0.S t0.At))::(21,.int .u8 (bAt t0.S t0.At))::(20,.j t0.At)::(19,.ipt (Z5p t0) (0+1))::(18,.ipt (Z5p t0) 0)::(17,.ipt (Z5p t0) 0)::(16,.string t0.S)::(Z5l t0)) ⟨g2,trivial⟩<|QOps.nil (AW.trim [2] [(2,.int .u8 (bAt t0.S t0.At))] (by kernel_rfl) ?_);obtain rfl:=X6 H;refine AW.recast (env':=[(2,.int .u8 (bAt t0.S t0.At))]) (h':=[]) (StC.pure (.cons .im .nil)) (Yp ?_)
  try simp only[Ex.t,Ex.b]
  exact Done.eq rfl (.tmp .nil)
 refine Yh (Y0 (OpsW.sg 1 [2] [(2,.int .u8 0)] ?_));refine Y2 ?_;obtain rfl:=X6 H;refine AW.recast (env':=[(2,.int .u8 0)]) (h':=[]) (StC.pure (.cons .im .nil)) (Yp ?_)
 try simp only[Ex.t,Ex.b]
 exact Done.eq rfl (.tmp .nil)
def Y5i (t0:Int):Option Bool:=
 some (cond (decide (48≤t0)) (decide (t0≤57)) false)
theorem f_R09_digit_ok{t0:Int}{r:Bool}(H:Y5i t0=some r):QSpec Tryd.prog 71 [.int .u8 t0] (.bool r):=by
 refine Yw Tryd.func71 rfl (by simp[Tryd.ntmps71]) ?_;rw[Tryd.ntmps71];unfold Y5i at H;change AW _ _ _ [(0,.int .u8 t0)] [] _;refine Y0 (OpsW.sg 1 [0] [(0,.int .u8 t0)] ?_);refine Y2 (Y0 (OpsW.sz 7 [2] [(2,.bool (cond (decide (48≤t0)) (decide (t0≤57)) false))] ⟨id,(by grind),trivial⟩ ?_));refine Y2 ?_;obtain rfl:=X6 H;refine AW.recast (env':=[(2,.bool (cond (decide (48≤t0)) (decide (t0≤57)) false))]) (h':=[]) (StC.pure (.cons .im .nil)) (Yp ?_)
 try simp only[Ex.t,Ex.b]
 exact Done.eq rfl (.tmp .nil)
def Y5h (t0:Int):Option Bool:=
 some (cond (decide (97≤t0)) (decide (t0≤122)) false)
theorem f_R09_letter_ok{t0:Int}{r:Bool}(H:Y5h t0=some r):QSpec Tryd.prog 74 [.int .u8 t0] (.bool r):=by
 refine Yw Tryd.func74 rfl (by simp[Tryd.ntmps74]) ?_;rw[Tryd.ntmps74];unfold Y5h at H;change AW _ _ _ [(0,.int .u8 t0)] [] _;refine Y0 (OpsW.sg 1 [0] [(0,.int .u8 t0)] ?_);refine Y2 (Y0 (OpsW.sz 7 [2] [(2,.bool (cond (decide (97≤t0)) (decide (t0≤122)) false))] ⟨id,(by grind),trivial⟩ ?_));refine Y2 ?_;obtain rfl:=X6 H;refine AW.recast (env':=[(2,.bool (cond (decide (97≤t0)) (decide (t0≤122)) false))]) (h':=[]) (StC.pure (.cons .im .nil)) (Yp ?_)
 try simp only[Ex.t,Ex.b]
 exact Done.eq rfl (.tmp .nil)
def Y4f (t0:ByteArray) (t1:ByteArray) (loop2:(Int)→Option Int) (v1:Int):Option Int:=
 G ((cond (decide (v1<(t0.size:Int))) (decide (v1<(t1.size:Int))) false)=true→(0≤v1∧v1<(t0.size:Int)))<|
 G ((cond (decide (v1<(t0.size:Int))) (decide (v1<(t1.size:Int))) false)=true→(0≤v1∧v1<(t1.size:Int)))<|
 cond (cond (cond (decide (v1<(t0.size:Int))) (decide (v1<(t1.size:Int))) false) ((bAt t0 v1)==(bAt t1 v1)) false) (
  G (inR (v1+1))<|
  loop2 (v1+1)) (
  some v1)
def f_R09_common (t0:ByteArray) (t1:ByteArray):Option Int:=
 iter (fun loop (s:Int)=>Y4f t0 t1 loop s) 1000000 (0:Int)
section
variable (t0:ByteArray) (t1:ByteArray) (v1:Int)
abbrev Z5r:=(cond (decide (v1<(t0.size:Int))) (decide (v1<(t1.size:Int))) false)
abbrev Z5s:=(decide (v1<(t0.size:Int)))
end
theorem f_R09_common_ok{t0:ByteArray}{t1:ByteArray}{r:Int}(H:f_R09_common t0 t1=some r):QSpec Tryd.prog 81 [.string t0,.string t1] (.int .i64 r):=by
 refine Yw Tryd.func81 rfl (by simp[Tryd.ntmps81]) ?_;rw[Tryd.ntmps81];unfold f_R09_common at H;change AW _ _ _ [(0,.string t0),(1,.string t1)] [] _;refine Y0 (OpsW.sg 1 [0,1] [(0,.string t0),(1,.string t1)] ?_);refine Y2 (Y0 (OpsW.sg 1 [5,0,1] [(5,.j (0:Int)),(0,.string t0),(1,.string t1)] ?_));refine Y2 (Y05 (Y04 ?_));refine Y40 (fun loop (s:Int)=>Y4f t0 t1 loop s) r (fun(s:Int)=>[(0,.string t0),(1,.string t1),(5,.j s)]) (fun(s:Int)=>[]) ?_ 1000000 (0:Int) H (StC.pure (.i3 .nil));intro loop2 v1 H;unfold Y4f at H;change AW _ _ _ [(0,.string t0),(1,.string t1),(5,.j v1)] [] _;refine Y05 (Y28 Tryd.checked.mixed (by kernel_rfl) ?_);have⟨g3,H⟩:=Y00 H;have⟨g4,H⟩:=Y00 H
 refine QOps.sz (N:=28) 19 [(24,.bool (cond (Z5r t0 t1 v1) ((bAt t0 v1)==(bAt t1 v1)) false)),(23,.cnd (Z5r t0 t1 v1) (.bool ((bAt t0 v1)==(bAt t1 v1)))),(22,.cnd (Z5r t0 t1 v1) (.int .u8 (bAt t1 v1))),(21,.cnd (Z5r t0 t1 v1) (.j v1)),(20,.cnd (Z5r t0 t1 v1) (.string t1)),(19,.cnd (Z5r t0 t1 v1) (.int .u8 (bAt t0 v1))),(18,.cnd (Z5r t0 t1 v1) (.j v1)),(17,.cnd (Z5r t0 t1 v1) (.string t0)),(16,.bool (Z5r t0 t1 v1)),(15,.bool (Z5r t0 t1 v1)),(14,.cnd (Z5s t0 v1) (.bool (decide (v1<(t1.size:Int))))),(13,.cnd (Z5s t0 v1) (.j (t1.size:Int))),(12,.cnd (Z5s t0 v1) (.string t1)),(11,.cnd (Z5s t0 v1) (.j v1)),(10,.bool (Z5s t0 v1)),(9,.bool (Z5s t0 v1)),(8,.j (t0.size:Int)),(7,.string t0),(6,.j v1),(0,.string t0),(1,.string t1),(5,.j v1)] ⟨id,id,id,(by grind),id,id,g3,id,id,g4,id,id,(by grind),trivial⟩ ?_;refine QOps.nil (AW.trim [24,0,1,5] [(24,.bool (cond (Z5r t0 t1 v1) ((bAt t0 v1)==(bAt t1 v1)) false)),(0,.string t0),(1,.string t1),(5,.j v1)] (by kernel_rfl) ?_);refine Yc (b:=cond (Z5r t0 t1 v1) ((bAt t0 v1)==(bAt t1 v1)) false) H rfl (fun c5 H=> ?_) (fun c5 H=> ?_)
 ·refine Yh (Y04 (Yz ?_));have⟨g6,H⟩:=Y00 H;refine OpsW.sz 3 [5,0,1] [(5,.j (v1+1)),(0,.string t0),(1,.string t1)] ⟨g6,trivial⟩ (Y2 ?_);exact⟨v1+1,H,(StC.pure (.i3 .nil))⟩
 refine AW.exit<|Y0 (OpsW.sg 2 [4] [(4,.j v1)] ?_);refine Y2 ?_;obtain rfl:=X6 H;refine AW.recast (env':=[(4,.j v1)]) (h':=[]) (StC.pure (.cons .im .nil)) (Yp ?_)
 try simp only[Ex.t,Ex.b]
 exact Done.eq rfl (.tmp .nil)
def Y5y (t0:Int):Option Int:=
 cond (t0==43) (
  some (2:Int)) (
  cond (t0==45) (
   some (3:Int)) (
   cond (t0==42) (
    some (4:Int)) (
    cond (t0==61) (
     some (5:Int)) (
     some (-1:Int)))))
theorem f_R09_operator_ok{t0:Int}{r:Int}(H:Y5y t0=some r):QSpec Tryd.prog 53 [.int .u8 t0] (.int .i64 r):=by
 refine Yw Tryd.func53 rfl (by simp[Tryd.ntmps53]) ?_;rw[Tryd.ntmps53];unfold Y5y at H;change AW _ _ _ [(0,.int .u8 t0)] [] _;refine Y0 (OpsW.sg 1 [0] [(0,.int .u8 t0)] ?_);refine Y2 (Y05 (Y0 (OpsW.sg 1 [3] [(3,.int .u8 t0)] ?_)));refine Y2 (Y04 (Y0 (OpsW.sg 2 [4,3] [(4,.bool (t0==43)),(3,.int .u8 t0)] ?_)));refine Y2 (Yc (b:=t0==43) H rfl (fun c1 H=> ?_) (fun c1 H=> ?_))
 ·refine Y0 (OpsW.sg 1 [2] [(2,.j (2:Int))] ?_);refine Y2 ?_;obtain rfl:=X6 H;refine AW.recast (env':=[(2,.j (2:Int))]) (h':=[]) (StC.pure (.cons .im .nil)) (Yp ?_)
  try simp only[Ex.t,Ex.b]
  exact Done.eq rfl (.tmp .nil)
 refine Y0 (OpsW.sg 2 [6,3] [(6,.bool (t0==45)),(3,.int .u8 t0)] ?_);refine Y2 (Yc (b:=t0==45) H rfl (fun c2 H=> ?_) (fun c2 H=> ?_))
 ·refine Y0 (OpsW.sg 1 [2] [(2,.j (3:Int))] ?_);refine Y2 ?_;obtain rfl:=X6 H;refine AW.recast (env':=[(2,.j (3:Int))]) (h':=[]) (StC.pure (.cons .im .nil)) (Yp ?_)
  try simp only[Ex.t,Ex.b]
  exact Done.eq rfl (.tmp .nil)
 refine Y0 (OpsW.sg 2 [8,3] [(8,.bool (t0==42)),(3,.int .u8 t0)] ?_);refine Y2 (Yc (b:=t0==42) H rfl (fun c3 H=> ?_) (fun c3 H=> ?_))
 ·refine Y0 (OpsW.sg 1 [2] [(2,.j (4:Int))] ?_);refine Y2 ?_;obtain rfl:=X6 H;refine AW.recast (env':=[(2,.j (4:Int))]) (h':=[]) (StC.pure (.cons .im .nil)) (Yp ?_)
  try simp only[Ex.t,Ex.b]
  exact Done.eq rfl (.tmp .nil)
 refine Y0 (OpsW.sg 2 [10] [(10,.bool (t0==61))] ?_);refine Y2 (Yc (b:=t0==61) H rfl (fun c4 H=> ?_) (fun c4 H=> ?_))
 ·refine Y0 (OpsW.sg 1 [2] [(2,.j (5:Int))] ?_);refine Y2 ?_;obtain rfl:=X6 H;refine AW.recast (env':=[(2,.j (5:Int))]) (h':=[]) (StC.pure (.cons .im .nil)) (Yp ?_)
  try simp only[Ex.t,Ex.b]
  exact Done.eq rfl (.tmp .nil)
 refine Yh (Y0 (OpsW.sg 1 [2] [(2,.j (-1:Int))] ?_));refine Y2 ?_;obtain rfl:=X6 H;refine AW.recast (env':=[(2,.j (-1:Int))]) (h':=[]) (StC.pure (.cons .im .nil)) (Yp ?_)
 try simp only[Ex.t,Ex.b]
 exact Done.eq rfl (.tmp .nil)
end Go.Proofs.YtkgfbpbndmklnaaDoor
