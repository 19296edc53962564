/- Own work. -/
import Derived.Test.YtkgfbpbndmklnaaDoorW2
set_option linter.unusedSimpArgs false
set_option linter.unusedVariables false
set_option maxRecDepth 100000
namespace Go.Proofs.YtkgfbpbndmklnaaDoor
open Go.Abs
def Y1u (loop23:(Yd×Y4×Int)→Option Yd) (v22:Int) (v25:Yd) (v26:Y4):Option Yd:=
 G (inR (v22+1))<|
 loop23 (v25,v26,v22+1)
def Y0g (rec_f_formula_printer_node:Yd→Option Yd) (loop23:(Yd×Y4×Int)→Option Yd) (v22:Int) (v28:Yd) (v29:Y4):Option Yd:=
 (rec_f_formula_printer_node v28).bind fun x30=>
 Y1u loop23 v22 x30 v29
def Y0h (rec_f_formula_printer_node:Yd→Option Yd) (x19:Int×Bool) (loop23:(Yd×Y4×Int)→Option Yd) (v20:Yd) (v21:Y4) (v22:Int):Option Yd:=
 cond (decide (v22<x19.1)) (
  cond (decide (0<v22)) (
   (Y3c v21 v22).bind fun x32=>
   G (room 1 (v20.text_.length+[x32].length))<|
   Y0g rec_f_formula_printer_node loop23 v22 (⟨v20.f_,v20.at_,v20.text_++[x32]⟩:Yd) v21) (
   Y0g rec_f_formula_printer_node loop23 v22 v20 v21)) (
  G (room 1 (v20.text_.length+1))<|
  some (⟨v20.f_,v20.at_,v20.text_++[(41:Int)]⟩:Yd))
def Yp (rec_f_formula_printer_node:Yd→Option Yd) (t0:Yd) (v9:Yd) (v10:Bool):Option Yd:=
 cond v10 (
  (rec_f_formula_printer_node v9).bind fun x12=>
  (f_formula_sign ((t0.f_.getD t0.at_.toNat Ye).Op)).bind fun x13=>
  G (room 1 (x12.text_.length+[x13].length))<|
  (rec_f_formula_printer_node (⟨x12.f_,x12.at_,x12.text_++[x13]⟩:Yd)).bind fun x15=>
  some x15) (
  (f_formula_name ((t0.f_.getD t0.at_.toNat Ye).Op)).bind fun x16=>
  G (room 1 (v9.text_.length+x16.size))<|
  G (room 1 ((v9.text_++(bytesOf x16)).length+1))<|
  (Y17 (t0.f_.getD t0.at_.toNat Ye)).bind fun x19=>
  iter (fun loop (s:Yd×Y4×Int)=>Y0h rec_f_formula_printer_node x19 loop s.1 s.2.1 s.2.2) 1000000 ((⟨v9.f_,v9.at_,(v9.text_++(bytesOf x16))++[(40:Int)]⟩:Yd),(t0.f_.getD t0.at_.toNat Ye),(0:Int)))
def Y2d (rec_f_formula_printer_node:Yd→Option Yd) (t0:Yd):Option Yd:=
 G (0≤t0.at_∧t0.at_<(t0.f_.length:Int))<|
 G (inR (t0.at_+1))<|
 cond (((t0.f_.getD t0.at_.toNat Ye).Op)==0) (
  G (0≤((t0.f_.getD t0.at_.toNat Ye).N)∧((t0.f_.getD t0.at_.toNat Ye).N)≤99999)<|
  G (room 1 (t0.text_.length+5))<|
  some (⟨t0.f_,t0.at_+1,t0.text_++decs 5 ((t0.f_.getD t0.at_.toNat Ye).N).toNat⟩:Yd)) (
  cond (((t0.f_.getD t0.at_.toNat Ye).Op)==1) (
   G (inR (97+((t0.f_.getD t0.at_.toNat Ye).N)))<|
   G (room 1 (t0.text_.length+[IntKind.wrap .u8 (97+((t0.f_.getD t0.at_.toNat Ye).N))].length))<|
   some (⟨t0.f_,t0.at_+1,t0.text_++[IntKind.wrap .u8 (97+((t0.f_.getD t0.at_.toNat Ye).N))]⟩:Yd)) (
   cond (((t0.f_.getD t0.at_.toNat Ye).Op)==2) (
    Yp rec_f_formula_printer_node t0 (⟨t0.f_,t0.at_+1,t0.text_⟩:Yd) (((t0.f_.getD t0.at_.toNat Ye).Op)==2)) (
    cond (((t0.f_.getD t0.at_.toNat Ye).Op)==3) (
     Yp rec_f_formula_printer_node t0 (⟨t0.f_,t0.at_+1,t0.text_⟩:Yd) (((t0.f_.getD t0.at_.toNat Ye).Op)==3)) (
     cond (((t0.f_.getD t0.at_.toNat Ye).Op)==4) (
      Yp rec_f_formula_printer_node t0 (⟨t0.f_,t0.at_+1,t0.text_⟩:Yd) (((t0.f_.getD t0.at_.toNat Ye).Op)==4)) (
      Yp rec_f_formula_printer_node t0 (⟨t0.f_,t0.at_+1,t0.text_⟩:Yd) (((t0.f_.getD t0.at_.toNat Ye).Op)==5))))))
section
variable (t0:Yd) (v9:Yd) (v10:Bool) (v20:Yd) (v21:Y4) (v22:Int) (v28:Yd) (v29:Y4) (x16:ByteArray) (x19:Int×Bool)
abbrev Z3v:=t0.f_.getD t0.at_.toNat Ye
abbrev Z3w:=t0.text_++[IntKind.wrap .u8 (97+((Z3v t0).N))]
abbrev Z3x:List AV:=[.j ((Z3v t0).Op),.j ((Z3v t0).N)]
abbrev Z3y:=v9.text_++(bytesOf x16)
abbrev Z3z:Nat×AV:=(0,.ref 2010 0 0)
abbrev Z40:=(⟨t0.f_,t0.at_+1,t0.text_⟩:Yd)
abbrev Z41:=(v20.text_++[(41:Int)])
abbrev Z42:Nat×AV:=(2,.ref 2 0 0)
abbrev Z43:=((Z3y v9 x16)++[(40:Int)])
abbrev Z3b:Env:=[Z3z,Z42,(50,.j x19.1),(51,.j v22)]
abbrev Z3c:Env:=[(24,.j ((Z3v t0).Op)),Z42,Z3z]
abbrev Z3d:Env:=[Z3z,Z42]
abbrev Z3e:Hp:=[(2,⟨0,true,26,2,(Z3x t0)⟩)]
abbrev Z3f:Hp:=[(2,⟨0,true,26,2,(Z3x t0)⟩),(2010,⟨0,true,54,3,[slA Y3 t0.f_,.j (t0.at_+1),.rsl 3010 0 0 t0.text_.length]⟩),(3010,rtA 0 5 1 (eI .u8) t0.text_)]
abbrev Z3g:Hp:=[(2010,⟨0,true,54,3,[slA Y3 t0.f_,.j t0.at_,.rsl 3010 0 0 t0.text_.length]⟩),(3010,rtA 0 5 1 (eI .u8) t0.text_)]
abbrev Z3h:Hp:=[(2010,⟨0,true,54,3,[slA Y3 v20.f_,.j v20.at_,.rsl 3010 0 0 v20.text_.length]⟩),(3010,rtA 0 5 1 (eI .u8) v20.text_),(2,⟨0,true,26,2,[.j v21.Op,.j v21.N]⟩)]
abbrev Z3i:Hp:=[(2,⟨0,true,26,2,(Z3x t0)⟩),(2010,⟨0,true,54,3,[slA Y3 v9.f_,.j v9.at_,.rsl 3010 0 0 ((Z3y v9 x16).length)]⟩),(3010,rtA 0 5 1 (eI .u8) (Z3y v9 x16))]
abbrev Z3j:Hp:=[(2010,⟨0,true,54,3,[slA Y3 v28.f_,.j v28.at_,.rsl 3010 0 0 v28.text_.length]⟩),(3010,rtA 0 5 1 (eI .u8) v28.text_)]
abbrev Z3k:Hp:=[(2010,⟨0,true,54,3,[slA Y3 v9.f_,.j v9.at_,.rsl 3010 0 0 v9.text_.length]⟩),(3010,rtA 0 5 1 (eI .u8) v9.text_)]
abbrev Z3l:Env:=[Z42,Z3z]
abbrev Z3m:Hp:=(2010,⟨0,true,54,3,[slA Y3 v9.f_,.j v9.at_,.rsl 3010 0 0 v9.text_.length]⟩)::(3010,rtA 0 5 1 (eI .u8) v9.text_)::(Z3e t0)
abbrev Z3n:Env:=[(10,.ref 2010 0 0),(9,slA Y3 t0.f_),(8,.ref 2010 0 0),(7,.ref 2010 0 0),(6,.ref 2010 0 0),Z3z]
abbrev Z3o:Env:=(80,.bool (((Z3v t0).Op)==0))::(Z3c t0)
abbrev Z3p:Env:=(92,.bool (((Z3v t0).Op)==1))::(Z3c t0)
abbrev Z3q:Hp:=(2,⟨0,true,26,2,(Z3x t0)⟩)::(Z3g t0)
abbrev Z3r:Hp:=[(2,⟨0,true,26,2,[.j v29.Op,.j v29.N]⟩)]
abbrev Z3s:Env:=[(26,.ref 2010 0 0),(25,.ref 2010 0 0),Z3z,Z42,(107,.bool v10)]
abbrev Z3t:Env:=(57,.ref 2010 0 0)::(56,.ref 2010 0 0)::(55,.bool (decide (0<v22)))::(5,.j v22)::(Z3b v22 x19)
abbrev Z3u:Env:=[Z3z]
end
theorem f_formula_printer_node_body_io{rec_f_formula_printer_node:Yd→Option Yd}(hrec_f_formula_printer_node:∀(t0:Yd) (r:Yd),rec_f_formula_printer_node t0=some r→Abs.Spec Tryd.prog 29 [.ref 2010 0 0] [(2010,⟨0,true,54,3,[slA Y3 t0.f_,.int .i64 t0.at_,.rsl 3010 0 0 t0.text_.length]⟩),(3010,rtA 0 5 1 (eI .u8) t0.text_)] (fun x h=>x= .tup []∧h=[(2010,⟨0,true,54,3,[slA Y3 r.f_,.int .i64 r.at_,.rsl 3010 1 0 r.text_.length]⟩),(3010,rtA 1 5 1 (eI .u8) r.text_)])){t0:Yd}{r:Yd}(H:Y2d rec_f_formula_printer_node t0=some r):Abs.Spec Tryd.prog 29 [.ref 2010 0 0] [(2010,⟨0,true,54,3,[slA Y3 t0.f_,.int .i64 t0.at_,.rsl 3010 0 0 t0.text_.length]⟩),(3010,rtA 0 5 1 (eI .u8) t0.text_)] (fun x h=>x= .tup []∧h=[(2010,⟨0,true,54,3,[slA Y3 r.f_,.int .i64 r.at_,.rsl 3010 1 0 r.text_.length]⟩),(3010,rtA 1 5 1 (eI .u8) r.text_)]):=by
 refine Y01 Tryd.func29 rfl (by simp[Tryd.ntmps29]) ?_;rw[Tryd.ntmps29];unfold Y2d at H;change AW _ _ _ Z3u (Z3g t0) _;refine AW.endcast (AW.drawGSeq 11 [(10,2)] Tryd.checked.mixed (by kernel_rfl) (by kernel_rfl) ?_);refine DOps.q 10 (by kernel_rfl)<|QOps.sz (N:=128) 1 ((6,.ref 2010 0 0)::Z3u) trivial (QOps.quietU (.ref 2010 0 0) rfl (Quiet.nilCheck rfl (gpoU rfl ⟨trivial,rfl,rfl⟩)) (QOps.sz (N:=128) 3 (Z3n t0) trivial (QOps.quietU (.ref 2010 0 0) rfl (Quiet.nilCheck rfl (gpoU rfl ⟨trivial,rfl,rfl⟩)) ?_)));have⟨g1,H⟩:=Yq H;refine QOps.sz (N:=128) 3 ((14,.ipt (t0.f_.flatMap Y3) (t0.at_.toNat*2))::(13,.j t0.at_)::(12,.ref 2010 0 1)::(11,.ref 2010 0 0)::(Z3n t0)) ⟨g1,trivial⟩ (QOps.asU (.agg (Z3x t0)) rfl (T.loadAgg (cs:=t0.f_.flatMap Y3) (off:=t0.at_.toNat*2) (ds:=Y3 (Z3v t0)) rfl trivial (by kernel_rfl) (by have:=Y16 Y3 2 (fun _=>rfl) t0.f_;have:=(ltN g1);first|omega|(simp only[Z3v] at*;omega)) (fm_elem Y3 2 (fun _=>rfl) t0.f_ Ye t0.at_.toNat (ltN g1))) ?_);refine QOps.nil (DOps.e 2 rfl rfl rfl (by exact fun g hg hb=>RStep.alloc rfl 2 (hg.trans rfl) (by kernel_rfl:zc Tryd.prog 26=some [.j 0,.j 0]) (by kernel_rfl)) ?_);refine DOps.nil<|OpsW.sg 0 [2,15,0] (Z42::(15,.agg (Z3x t0))::Z3u) (Y30 rfl rfl rfl rfl trivial trivial rfl rfl rfl (by kernel_rfl) (Y07 (by kernel_rfl)) (X9 (by kernel_rfl)) ?_)
 change OpsW _ _ _ _ _ ((2,⟨0,true,26,2,(Z3x t0)⟩)::(2,⟨0,true,26,2,[.j (0:Int),.j (0:Int)]⟩)::(Z3g t0)) _;refine OpsW.sg 0 [2,0] Z3l (OpsW.rc Z3l (Z3q t0) (StC.mk (phi [(2,some 2),(2010,some 2010),(3010,some 3010)]) (.o rfl (.i2 .nil) (.o rfl (.i2 (.cons (.s rfl) .nil)) (.o rfl (CstL.ims _) .nil))) rfl (.cons (.r rfl) (.cons (.r rfl) .nil))) ?_);refine Y2 (Y0 (OpsW.sg 1 [16,2,0] ((16,.ref 2010 0 0)::Z3l) ?_));refine OpsW.quietU (.ref 2010 0 0) rfl rfl (Quiet.nilCheck rfl (gpoU rfl ⟨trivial,rfl,rfl⟩)) ?_;have⟨g2,H⟩:=Yq H;refine OpsW.sz 3 [20,16,2,0] ((20,.j (t0.at_+1))::(16,.ref 2010 0 0)::Z3l) ⟨g2,trivial⟩ (OpsW.quietU (.ref 2010 0 0) rfl rfl (Quiet.nilCheck rfl (gpoU rfl ⟨trivial,rfl,rfl⟩)) (OpsW.sg 1 [22,20,2,0] ((22,.ref 2010 0 1)::(20,.j (t0.at_+1))::Z3l) (Y30 rfl rfl rfl rfl trivial trivial rfl rfl rfl (by kernel_rfl) (Y07 (by kernel_rfl)) (X9 (by kernel_rfl)) ?_)));change OpsW _ _ _ _ _ ((2010,⟨0,true,54,3,[slA Y3 t0.f_,.j (t0.at_+1),.rsl 3010 0 0 t0.text_.length]⟩)::(Z3q t0)) _;refine OpsW.sg 0 [2,0] Z3l (OpsW.rc Z3l (Z3f t0) (StC.mk (phi [(2,some 2),(2010,some 2010),(3010,some 3010)]) (.o rfl (.i2 .nil) (.o rfl (.i2 (.cons (.s rfl) .nil)) (.o rfl (CstL.ims _) .nil))) rfl (.cons (.r rfl) (.cons (.r rfl) .nil))) ?_);refine Y2 (Y0 (OpsW.sg 2 [24,2,0] (Z3c t0) ?_));refine Y2 (Y0e (Y0 (OpsW.sg 2 [80,24,2,0] (Z3o t0) ?_)))
 refine Y2 (Y9 (b:=((Z3v t0).Op)==0) H rfl (fun c3 H=> ?_) (fun c3 H=> ?_))
 ·refine AW.drawP 7 [0,1] Tryd.checked.mixed (by kernel_rfl) (by kernel_rfl)<|QOps.sz (N:=128) 2 ((83,.ref 2010 0 0)::(82,.ref 2010 0 0)::(Z3o t0)) trivial (QOps.quietU (.ref 2010 0 0) rfl (Quiet.nilCheck rfl (gpoU rfl ⟨trivial,rfl,rfl⟩)) (QOps.sz (N:=128) 4 ((88,.j ((Z3v t0).N))::(87,.ref 2 0 1)::(86,.rsl 3010 0 0 t0.text_.length)::(85,.ref 2010 0 2)::(84,.ref 2010 0 0)::(83,.ref 2010 0 0)::(82,.ref 2010 0 0)::(Z3o t0)) trivial ?_));refine QOps.nil (OpsW.sg 0 [88,86,82] [(88,.j ((Z3v t0).N)),(86,.rsl 3010 0 0 t0.text_.length),(82,.ref 2010 0 0)] ?_);have⟨g4,H⟩:=Yq H;have⟨g5,H⟩:=Yq H;refine OpsW.rstep rfl rfl (RStep.appendInt (l:=t0.text_) (n:=(Z3v t0).N) rfl rfl rfl rfl rfl g4 g5) (OpsW.quietU (.ref 2010 0 0) rfl rfl (Quiet.nilCheck rfl (gpoU rfl ⟨trivial,rfl,rfl⟩)) (OpsW.sg 1 [91,89] [(91,.ref 2010 0 2),(89,.rsl 3010 1 0 ((t0.text_++decs 5 ((Z3v t0).N).toNat).length))] (Y30 rfl rfl rfl rfl trivial trivial rfl rfl rfl (by kernel_rfl) (Y07 (by kernel_rfl)) (X9 (by kernel_rfl)) ?_)));change OpsW _ _ _ _ _ ((2010,⟨0,true,54,3,[slA Y3 t0.f_,.j (t0.at_+1),.rsl 3010 1 0 ((t0.text_++decs 5 ((Z3v t0).N).toNat).length)]⟩)::(3010,rtA 1 5 1 (eI .u8) (t0.text_++decs 5 ((Z3v t0).N).toNat))::(Z3f t0)) _
  refine OpsW.sg 0 [] [] (OpsW.rc [] [(2010,⟨0,true,54,3,[slA Y3 t0.f_,.j (t0.at_+1),.rsl 3010 0 0 ((t0.text_++decs 5 ((Z3v t0).N).toNat).length)]⟩),(3010,rtA 0 5 1 (eI .u8) (t0.text_++decs 5 ((Z3v t0).N).toNat))] (StC.mk (phi [(2010,some 2010),(3010,some 3010)]) (.o rfl (.i2 (.cons (.s rfl) .nil)) (.o rfl (CstL.ims _) .nil)) rfl .nil) (Y2 ?_));obtain rfl:=X5 H;show ∃en' hp',StC _ _ en' hp'∧Done _ _ _ .normal en' hp';refine⟨[],[(2010,⟨0,true,54,3,[slA Y3 t0.f_,.j (t0.at_+1),.rsl 3010 1 0 ((t0.text_++decs 5 ((Z3v t0).N).toNat).length)]⟩),(3010,rtA 1 5 1 (eI .u8) (t0.text_++decs 5 ((Z3v t0).N).toNat))],(StC.mk (phi [(2010,some 2010),(3010,some 3010)]) (.o rfl (.i2 (.cons (.s rfl) .nil)) (.o rfl (CstL.ims _) .nil)) rfl .nil), ?_⟩;refine Done.genN rfl .nil ?_;exact⟨by kernel_rfl,by kernel_rfl⟩
 refine Y0 (OpsW.sg 2 [92,24,2,0] (Z3p t0) ?_);refine Y2 (Y9 (b:=((Z3v t0).Op)==1) H rfl (fun c6 H=> ?_) (fun c6 H=> ?_))
 ·refine AW.drawP 10 [0,1] Tryd.checked.mixed (by kernel_rfl) (by kernel_rfl)<|QOps.sz (N:=128) 2 ((95,.ref 2010 0 0)::(94,.ref 2010 0 0)::(Z3p t0)) trivial (QOps.quietU (.ref 2010 0 0) rfl (Quiet.nilCheck rfl (gpoU rfl ⟨trivial,rfl,rfl⟩)) ?_);have⟨g7,H⟩:=Yq H;refine QOps.sz (N:=128) 6 ((102,.int .u8 (IntKind.wrap .u8 (97+((Z3v t0).N))))::(101,.j (97+((Z3v t0).N)))::(100,.j ((Z3v t0).N))::(99,.ref 2 0 1)::(98,.rsl 3010 0 0 t0.text_.length)::(97,.ref 2010 0 2)::(96,.ref 2010 0 0)::(95,.ref 2010 0 0)::(94,.ref 2010 0 0)::(Z3p t0)) ⟨g7,trivial⟩ (QOps.buildTI (enc:=eI .u8) [IntKind.wrap .u8 (97+((Z3v t0).N))] rfl rfl E24 (fun _=>rfl) (by decide) ⟨trivial,by kernel_rfl,by kernel_rfl,by kernel_rfl,rfl⟩ ?_);refine QOps.nil (OpsW.sg 0 [103,98,94] [(103,sU [IntKind.wrap .u8 (97+((Z3v t0).N))]),(98,.rsl 3010 0 0 t0.text_.length),(94,.ref 2010 0 0)] ?_);have⟨g8,H⟩:=Yq H;refine Y5j (enc:=eI .u8) (ys:=[IntKind.wrap .u8 (97+((Z3v t0).N))]) rfl rfl rfl E24 (fun _=>rfl) rfl rfl trivial (Y5i (enc:=eI .u8) (fun _=>rfl) (by kernel_rfl) [IntKind.wrap .u8 (97+((Z3v t0).N))]) rfl g8 (OpsW.quietU (.ref 2010 0 0) rfl rfl (Quiet.nilCheck rfl (gpoU rfl ⟨trivial,rfl,rfl⟩)) (OpsW.sg 1 [106,104] [(106,.ref 2010 0 2),(104,.rsl 3010 1 0 ((Z3w t0).length))] (Y30 rfl rfl rfl rfl trivial trivial rfl rfl rfl (by kernel_rfl) (Y07 (by kernel_rfl)) (X9 (by kernel_rfl)) ?_)))
  change OpsW _ _ _ _ _ ((2010,⟨0,true,54,3,[slA Y3 t0.f_,.j (t0.at_+1),.rsl 3010 1 0 ((Z3w t0).length)]⟩)::(3010,rtA 1 5 1 (eI .u8) (Z3w t0))::(Z3f t0)) _;refine OpsW.sg 0 [] [] (OpsW.rc [] [(2010,⟨0,true,54,3,[slA Y3 t0.f_,.j (t0.at_+1),.rsl 3010 0 0 ((Z3w t0).length)]⟩),(3010,rtA 0 5 1 (eI .u8) (Z3w t0))] (StC.mk (phi [(2010,some 2010),(3010,some 3010)]) (.o rfl (.i2 (.cons (.s rfl) .nil)) (.o rfl (CstL.ims _) .nil)) rfl .nil) (Y2 ?_));obtain rfl:=X5 H;show ∃en' hp',StC _ _ en' hp'∧Done _ _ _ .normal en' hp';refine⟨[],[(2010,⟨0,true,54,3,[slA Y3 t0.f_,.j (t0.at_+1),.rsl 3010 1 0 ((Z3w t0).length)]⟩),(3010,rtA 1 5 1 (eI .u8) (Z3w t0))],(StC.mk (phi [(2010,some 2010),(3010,some 3010)]) (.o rfl (.i2 (.cons (.s rfl) .nil)) (.o rfl (CstL.ims _) .nil)) rfl .nil), ?_⟩;refine Done.genN rfl .nil ?_;exact⟨by kernel_rfl,by kernel_rfl⟩
 refine Y1w (fun(y:Yd×Bool)=>Yp rec_f_formula_printer_node t0 y.1 y.2) r (fun(y:Yd×Bool)=>[Z3z,Z42,(107,.bool y.2)]) (fun(y:Yd×Bool)=>((2010,⟨0,true,54,3,[slA Y3 y.1.f_,.j y.1.at_,.rsl 3010 0 0 y.1.text_.length]⟩)::(3010,rtA 0 5 1 (eI .u8) y.1.text_)::(Z3e t0))) ?_ ?_
 ·refine Y0 (OpsW.sg 2 [107,24,2,0] ((107,.bool (((Z3v t0).Op)==2))::(Z3c t0)) ?_);refine Y2 (Y9 (b:=((Z3v t0).Op)==2) H rfl (fun c35 H=> ?_) (fun c35 H=> ?_))
  ·refine Yh ?_;exact⟨((Z40 t0),((Z3v t0).Op)==2),H,(StC.mk (phi [(2010,some 2010),(3010,some 3010),(2,some 2)]) (.o rfl (.i2 (.cons (.s rfl) .nil)) (.o rfl (CstL.ims _) (.o rfl (.i2 .nil) .nil))) rfl (.cons (.r rfl) (.cons (.r rfl) (.cons .im .nil))))⟩
  refine Y0 (OpsW.sg 2 [107,24,2,0] ((107,.bool (((Z3v t0).Op)==3))::(Z3c t0)) ?_);refine Y2 (Y9 (b:=((Z3v t0).Op)==3) H rfl (fun c36 H=> ?_) (fun c36 H=> ?_))
  ·refine Yh ?_;exact⟨((Z40 t0),((Z3v t0).Op)==3),H,(StC.mk (phi [(2010,some 2010),(3010,some 3010),(2,some 2)]) (.o rfl (.i2 (.cons (.s rfl) .nil)) (.o rfl (CstL.ims _) (.o rfl (.i2 .nil) .nil))) rfl (.cons (.r rfl) (.cons (.r rfl) (.cons .im .nil))))⟩
  refine Y0 (OpsW.sg 2 [107,24,2,0] ((107,.bool (((Z3v t0).Op)==4))::(Z3c t0)) ?_);refine Y2 (Y9 (b:=((Z3v t0).Op)==4) H rfl (fun c37 H=> ?_) (fun c37 H=> ?_))
  ·refine Yh ?_;exact⟨((Z40 t0),((Z3v t0).Op)==4),H,(StC.mk (phi [(2010,some 2010),(3010,some 3010),(2,some 2)]) (.o rfl (.i2 (.cons (.s rfl) .nil)) (.o rfl (CstL.ims _) (.o rfl (.i2 .nil) .nil))) rfl (.cons (.r rfl) (.cons (.r rfl) (.cons .im .nil))))⟩
  refine Yw (OpsW.sg 2 [107,2,0] ((107,.bool (((Z3v t0).Op)==5))::Z3l) ?_);refine Y2 ?_;exact⟨((Z40 t0),((Z3v t0).Op)==5),H,(StC.mk (phi [(2010,some 2010),(3010,some 3010),(2,some 2)]) (.o rfl (.i2 (.cons (.s rfl) .nil)) (.o rfl (CstL.ims _) (.o rfl (.i2 .nil) .nil))) rfl (.cons (.r rfl) (.cons (.r rfl) (.cons .im .nil))))⟩
 rintro⟨v9,v10⟩ H;unfold Yp at H;change AW _ _ _ [Z3z,Z42,(107,.bool v10)] (Z3m t0 v9) _;refine Y9 (b:=v10) H rfl (fun c11 H=> ?_) (fun c11 H=> ?_)
 ·refine Y0 (OpsW.sg 1 [112,0,2] ((112,.ref 2010 0 0)::Z3d) ?_);have⟨x12,hx12,H⟩:=Y19 H;change OpsW _ _ _ _ ((112,.ref 2010 0 0)::Z3d) ((Z3k v9)++(Z3e t0)) _;refine OpsW.callR (Z3k v9) (Z3e t0) (Z3k v9) (phi [(2010,some 2010),(3010,some 3010)]) rfl rfl (by kernel_rfl) [.ref 2010 0 0] _ rfl (Yg trivial) (.cons (.r rfl) .nil) (hrec_f_formula_printer_node _ _ hx12) (Y03 (by kernel_rfl)) (by kernel_rfl) (.cons rfl rfl rfl rfl rfl (.i2 (.cons (.s rfl) .nil)) (.cons rfl rfl rfl rfl rfl (RnL.ims _) .nil)) ?_;rintro _ _ ⟨rfl,rfl⟩;refine⟨.tup [],[(2010,⟨0,true,54,3,[slA Y3 x12.f_,.j x12.at_,.rsl 3010 1 0 x12.text_.length]⟩),(3010,rtA 1 5 1 (eI .u8) x12.text_)],phi [(2010,some 2010),(3010,some 3010)],Y03 (by kernel_rfl),by kernel_rfl,by kernel_rfl,(.cons rfl rfl rfl rfl rfl (.i2 (.cons (.s rfl) .nil)) (.cons rfl rfl rfl rfl rfl (RnL.ims _) .nil)),(.tup .nil .nil), ?_⟩;change OpsW _ _ _ _ ((113,.tup [])::(112,.ref 2010 0 0)::Z3d) ((2010,⟨0,true,54,3,[slA Y3 x12.f_,.j x12.at_,.rsl 3010 1 0 x12.text_.length]⟩)::(3010,rtA 1 5 1 (eI .u8) x12.text_)::(Z3e t0)) _
  refine OpsW.sg 0 [0,2] Z3d (OpsW.rc Z3d [(2,⟨0,true,26,2,(Z3x t0)⟩),(2010,⟨0,true,54,3,[slA Y3 x12.f_,.j x12.at_,.rsl 3010 0 0 x12.text_.length]⟩),(3010,rtA 0 5 1 (eI .u8) x12.text_)] (StC.mk (phi [(2,some 2),(2010,some 2010),(3010,some 3010)]) (.o rfl (.i2 .nil) (.o rfl (.i2 (.cons (.s rfl) .nil)) (.o rfl (CstL.ims _) .nil))) rfl (.cons (.r rfl) (.cons (.r rfl) .nil))) ?_);refine Y2 (AW.drawPSeq 9 [0,1] Tryd.checked.mixed (by kernel_rfl) (by kernel_rfl) ?_);refine QOps.sz (N:=128) 2 ((115,.ref 2010 0 0)::(114,.ref 2010 0 0)::Z3d) trivial (QOps.quietU (.ref 2010 0 0) rfl (Quiet.nilCheck rfl (gpoU rfl ⟨trivial,rfl,rfl⟩)) (QOps.sz (N:=128) 4 ((120,.j ((Z3v t0).Op))::(119,.ref 2 0 0)::(118,.rsl 3010 0 0 x12.text_.length)::(117,.ref 2010 0 2)::(116,.ref 2010 0 0)::(115,.ref 2010 0 0)::(114,.ref 2010 0 0)::Z3d) trivial ?_));have⟨x13,hx13,H⟩:=Y19 H;refine QOps.qcall rfl (by kernel_rfl) rfl (Yg trivial) (.cons (.pur rfl) .nil) (f_formula_sign_ok hx13) rfl (QOps.buildTI (enc:=eI .u8) [x13] rfl rfl E24 (fun _=>rfl) (by decide) ⟨trivial,by kernel_rfl,by kernel_rfl,by kernel_rfl,rfl⟩ ?_);refine QOps.nil (OpsW.sg 0 [122,118,114,0] ((122,sU [x13])::(118,.rsl 3010 0 0 x12.text_.length)::(114,.ref 2010 0 0)::Z3u) ?_);have⟨g14,H⟩:=Yq H
  refine Y5j (enc:=eI .u8) (ys:=[x13]) rfl rfl rfl E24 (fun _=>rfl) rfl rfl trivial (Y5i (enc:=eI .u8) (fun _=>rfl) (by kernel_rfl) [x13]) rfl g14 (OpsW.quietU (.ref 2010 0 0) rfl rfl (Quiet.nilCheck rfl (gpoU rfl ⟨trivial,rfl,rfl⟩)) (OpsW.sg 1 [125,123,0] ((125,.ref 2010 0 2)::(123,.rsl 3010 1 0 ((x12.text_++[x13]).length))::Z3u) (Y30 rfl rfl rfl rfl trivial trivial rfl rfl rfl (by kernel_rfl) (Y07 (by kernel_rfl)) (X9 (by kernel_rfl)) ?_)));change OpsW _ _ _ _ _ [(2010,⟨0,true,54,3,[slA Y3 x12.f_,.j x12.at_,.rsl 3010 1 0 ((x12.text_++[x13]).length)]⟩),(3010,rtA 1 5 1 (eI .u8) (x12.text_++[x13])),(2,⟨0,true,26,2,(Z3x t0)⟩),(2010,⟨0,true,54,3,[slA Y3 x12.f_,.j x12.at_,.rsl 3010 0 0 x12.text_.length]⟩),(3010,rtA 0 5 1 (eI .u8) x12.text_)] _;refine OpsW.sg 0 [0] Z3u (OpsW.rc Z3u [(2010,⟨0,true,54,3,[slA Y3 x12.f_,.j x12.at_,.rsl 3010 0 0 ((x12.text_++[x13]).length)]⟩),(3010,rtA 0 5 1 (eI .u8) (x12.text_++[x13]))] (StC.mk (phi [(2010,some 2010),(3010,some 3010)]) (.o rfl (.i2 (.cons (.s rfl) .nil)) (.o rfl (CstL.ims _) .nil)) rfl (.cons (.r rfl) .nil)) ?_);refine Y2 (Yw (OpsW.sg 1 [126] [(126,.ref 2010 0 0)] ?_));have⟨x15,hx15,H⟩:=Y19 H;change OpsW _ _ _ _ [(126,.ref 2010 0 0)] ([(2010,⟨0,true,54,3,[slA Y3 x12.f_,.j x12.at_,.rsl 3010 0 0 ((x12.text_++[x13]).length)]⟩),(3010,rtA 0 5 1 (eI .u8) (x12.text_++[x13]))]++[]) _
  refine OpsW.callR [(2010,⟨0,true,54,3,[slA Y3 x12.f_,.j x12.at_,.rsl 3010 0 0 ((x12.text_++[x13]).length)]⟩),(3010,rtA 0 5 1 (eI .u8) (x12.text_++[x13]))] [] [(2010,⟨0,true,54,3,[slA Y3 x12.f_,.j x12.at_,.rsl 3010 0 0 ((x12.text_++[x13]).length)]⟩),(3010,rtA 0 5 1 (eI .u8) (x12.text_++[x13]))] (phi [(2010,some 2010),(3010,some 3010)]) rfl rfl (by kernel_rfl) [.ref 2010 0 0] _ rfl (Yg trivial) (.cons (.r rfl) .nil) (hrec_f_formula_printer_node _ _ hx15) (Y03 (by kernel_rfl)) (by kernel_rfl) (.cons rfl rfl rfl rfl rfl (.i2 (.cons (.s rfl) .nil)) (.cons rfl rfl rfl rfl rfl (RnL.ims _) .nil)) ?_;rintro _ _ ⟨rfl,rfl⟩;refine⟨.tup [],[(2010,⟨0,true,54,3,[slA Y3 x15.f_,.j x15.at_,.rsl 3010 1 0 x15.text_.length]⟩),(3010,rtA 1 5 1 (eI .u8) x15.text_)],phi [(2010,some 2010),(3010,some 3010)],Y03 (by kernel_rfl),by kernel_rfl,by kernel_rfl,(.cons rfl rfl rfl rfl rfl (.i2 (.cons (.s rfl) .nil)) (.cons rfl rfl rfl rfl rfl (RnL.ims _) .nil)),(.tup .nil .nil), ?_⟩;change OpsW _ _ _ _ [(127,.tup []),(126,.ref 2010 0 0)] [(2010,⟨0,true,54,3,[slA Y3 x15.f_,.j x15.at_,.rsl 3010 1 0 x15.text_.length]⟩),(3010,rtA 1 5 1 (eI .u8) x15.text_)] _;refine OpsW.sg 0 [] [] (OpsW.rc [] [(2010,⟨0,true,54,3,[slA Y3 x15.f_,.j x15.at_,.rsl 3010 0 0 x15.text_.length]⟩),(3010,rtA 0 5 1 (eI .u8) x15.text_)] (StC.mk (phi [(2010,some 2010),(3010,some 3010)]) (.o rfl (.i2 (.cons (.s rfl) .nil)) (.o rfl (CstL.ims _) .nil)) rfl .nil) (Y2 ?_))
  obtain rfl:=X5 H;show ∃en' hp',StC _ _ en' hp'∧Done _ _ _ .normal en' hp';refine⟨[],[(2010,⟨0,true,54,3,[slA Y3 x15.f_,.j x15.at_,.rsl 3010 1 0 x15.text_.length]⟩),(3010,rtA 1 5 1 (eI .u8) x15.text_)],(StC.mk (phi [(2010,some 2010),(3010,some 3010)]) (.o rfl (.i2 (.cons (.s rfl) .nil)) (.o rfl (CstL.ims _) .nil)) rfl .nil), ?_⟩;refine Done.genN rfl .nil ?_;exact⟨by kernel_rfl,by kernel_rfl⟩
 refine AW.drawPSeq 8 [0,1] Tryd.checked.mixed (by kernel_rfl) (by kernel_rfl) (QOps.sz (N:=128) 2 (Z3s v10) trivial (QOps.quietU (.ref 2010 0 0) rfl (Quiet.nilCheck rfl (gpoU rfl ⟨trivial,rfl,rfl⟩)) (QOps.sz (N:=128) 4 ((31,.j ((Z3v t0).Op))::(30,.ref 2 0 0)::(29,.rsl 3010 0 0 v9.text_.length)::(28,.ref 2010 0 2)::(27,.ref 2010 0 0)::(Z3s v10)) trivial ?_)));have⟨x16,hx16,H⟩:=Y19 H;refine QOps.qcall rfl (by kernel_rfl) rfl (Yg trivial) (.cons (.pur rfl) .nil) (f_formula_name_ok hx16) rfl<|QOps.nil (OpsW.sg 0 [32,29,25,0,2] ((32,.string x16)::(29,.rsl 3010 0 0 v9.text_.length)::(25,.ref 2010 0 0)::Z3d) ?_);have⟨g17,H⟩:=Yq H;refine Y5j (enc:=eI .u8) (ys:=bytesOf x16) rfl rfl rfl E24 (fun _=>rfl) rfl rfl trivial (SrcA.strT (by kernel_rfl) x16) (bytesOf_len _).symm g17 (OpsW.quietU (.ref 2010 0 0) rfl rfl (Quiet.nilCheck rfl (gpoU rfl ⟨trivial,rfl,rfl⟩)) (OpsW.sg 1 [35,33,0,2] ((35,.ref 2010 0 2)::(33,.rsl 3010 1 0 ((Z3y v9 x16).length))::Z3d) (Y30 rfl rfl rfl rfl trivial trivial rfl rfl rfl (by kernel_rfl) (Y07 (by kernel_rfl)) (X9 (by kernel_rfl)) ?_)));change OpsW _ _ _ _ _ ((2010,⟨0,true,54,3,[slA Y3 v9.f_,.j v9.at_,.rsl 3010 1 0 ((Z3y v9 x16).length)]⟩)::(3010,rtA 1 5 1 (eI .u8) (Z3y v9 x16))::(Z3m t0 v9)) _
 refine OpsW.sg 0 [0,2] Z3d (OpsW.rc Z3d (Z3i t0 v9 x16) (StC.mk (phi [(2,some 2),(2010,some 2010),(3010,some 3010)]) (.o rfl (.i2 .nil) (.o rfl (.i2 (.cons (.s rfl) .nil)) (.o rfl (CstL.ims _) .nil))) rfl (.cons (.r rfl) (.cons (.r rfl) .nil))) ?_);refine Y2 (Y0 (OpsW.sg 2 [37,36,0,2] ((37,.ref 2010 0 0)::(36,.ref 2010 0 0)::Z3d) ?_));refine OpsW.quietU (.ref 2010 0 0) rfl rfl (Quiet.nilCheck rfl (gpoU rfl ⟨trivial,rfl,rfl⟩)) (OpsW.sg 2 [40,36,0,2] ((40,.rsl 3010 0 0 ((Z3y v9 x16).length))::(36,.ref 2010 0 0)::Z3d) ?_);have⟨g18,H⟩:=Yq H;refine OpsW.appendLF (enc:=eI .u8) [(40:Int)] rfl rfl rfl (by decide) rfl rfl rfl (by simp) E24 (fun _=>rfl) (by decide) trivial (by kernel_rfl) (by kernel_rfl) (by kernel_rfl) rfl rfl rfl g18 (OpsW.quietU (.ref 2010 0 0) rfl rfl (Quiet.nilCheck rfl (gpoU rfl ⟨trivial,rfl,rfl⟩)) (OpsW.sg 1 [44,42,0,2] ((44,.ref 2010 0 2)::(42,.rsl 3010 1 0 ((Z43 v9 x16).length))::Z3d) (Y30 rfl rfl rfl rfl trivial trivial rfl rfl rfl (by kernel_rfl) (Y07 (by kernel_rfl)) (X9 (by kernel_rfl)) ?_)));change OpsW _ _ _ _ _ ((2010,⟨0,true,54,3,[slA Y3 v9.f_,.j v9.at_,.rsl 3010 1 0 ((Z43 v9 x16).length)]⟩)::(3010,rtA 1 5 1 (eI .u8) (Z43 v9 x16))::(Z3i t0 v9 x16)) _
 refine OpsW.sg 0 [0,2] Z3d (OpsW.rc Z3d [(2,⟨0,true,26,2,(Z3x t0)⟩),(2010,⟨0,true,54,3,[slA Y3 v9.f_,.j v9.at_,.rsl 3010 0 0 ((Z43 v9 x16).length)]⟩),(3010,rtA 0 5 1 (eI .u8) (Z43 v9 x16))] (StC.mk (phi [(2,some 2),(2010,some 2010),(3010,some 3010)]) (.o rfl (.i2 .nil) (.o rfl (.i2 (.cons (.s rfl) .nil)) (.o rfl (CstL.ims _) .nil))) rfl (.cons (.r rfl) (.cons (.r rfl) .nil))) ?_);refine Y2 (Y0 (OpsW.sg 1 [46,0,2] ((46,.agg (Z3x t0))::Z3d) ?_));have⟨x19,hx19,H⟩:=Y19 H;refine Y1t rfl (.cons (.pur rfl) .nil) (f_formula_arity_ok hx19) (OpsW.sg 5 [3,0,2] ((3,.j x19.1)::Z3d) ?_);refine Y2 (Y0d (Y0 (OpsW.sg 2 [51,50,0,2] ((51,.j (0:Int))::(50,.j x19.1)::Z3d) ?_)));refine Y2 (Y0e ?_);refine Y56 (fun loop (s:Yd×Y4×Int)=>Y0h rec_f_formula_printer_node x19 loop s.1 s.2.1 s.2.2) r (fun(s:Yd×Y4×Int)=>[Z3z,Z42,(50,.j x19.1),(51,.j s.2.2)]) (fun(s:Yd×Y4×Int)=>[(2010,⟨0,true,54,3,[slA Y3 s.1.f_,.j s.1.at_,.rsl 3010 0 0 s.1.text_.length]⟩),(3010,rtA 0 5 1 (eI .u8) s.1.text_),(2,⟨0,true,26,2,[.j s.2.1.Op,.j s.2.1.N]⟩)]) ?_ 1000000 ((⟨v9.f_,v9.at_,(Z3y v9 x16)++[(40:Int)]⟩:Yd),(Z3v t0),(0:Int)) H (StC.mk (phi [(2010,some 2010),(3010,some 3010),(2,some 2)]) (.o rfl (.i2 (.cons (.s rfl) .nil)) (.o rfl (CstL.ims _) (.o rfl (.i2 .nil) .nil))) rfl (.cons (.r rfl) (.cons (.r rfl) (.i2 .nil))));intro loop23 s H;obtain⟨v20,v21,v22⟩:=s;unfold Y0h at H
 change AW _ _ _ (Z3b v22 x19) (Z3h v20 v21) _;refine Y0 (OpsW.sg 1 [52,0,2,50,51] ((52,.bool (decide (v22<x19.1)))::(Z3b v22 x19)) ?_);refine Y2 (Y0d (Y9 (b:=decide (v22<x19.1)) H rfl (fun c24 H=> ?_) (fun c24 H=> ?_)))
 ·refine Yh<|Y1w (fun(y:Yd×Y4)=>Y1u loop23 v22 y.1 y.2) r (fun(y:Yd×Y4)=>(Z3b v22 x19)) (fun(y:Yd×Y4)=>[(2010,⟨0,true,54,3,[slA Y3 y.1.f_,.j y.1.at_,.rsl 3010 0 0 y.1.text_.length]⟩),(3010,rtA 0 5 1 (eI .u8) y.1.text_),(2,⟨0,true,26,2,[.j y.2.Op,.j y.2.N]⟩)]) ?_ ?_
  ·refine Y0e (Y0 (OpsW.sg 2 [5,0,2,50,51] ((5,.j v22)::(Z3b v22 x19)) ?_));refine Y2<|Y1w (fun(y:Yd×Y4)=>Y0g rec_f_formula_printer_node loop23 v22 y.1 y.2) r (fun(y:Yd×Y4)=>(Z3b v22 x19)) (fun(y:Yd×Y4)=>[(2010,⟨0,true,54,3,[slA Y3 y.1.f_,.j y.1.at_,.rsl 3010 0 0 y.1.text_.length]⟩),(3010,rtA 0 5 1 (eI .u8) y.1.text_),(2,⟨0,true,26,2,[.j y.2.Op,.j y.2.N]⟩)]) ?_ ?_
   ·refine Y0 (OpsW.sg 2 [55,5,0,2,50,51] ((55,.bool (decide (0<v22)))::(5,.j v22)::(Z3b v22 x19)) ?_);refine Y2 (Y9 (b:=decide (0<v22)) H rfl (fun c31 H=> ?_) (fun c31 H=> ?_))
    ·refine AW.drawP 9 [0,1,6] Tryd.checked.mixed (by kernel_rfl) (by kernel_rfl)<|QOps.sz (N:=128) 2 (Z3t v22 x19) trivial (QOps.quietU (.ref 2010 0 0) rfl (Quiet.nilCheck rfl (gpoU rfl ⟨trivial,rfl,rfl⟩)) (QOps.sz (N:=128) 4 ((62,.j v22)::(61,.agg [.j v21.Op,.j v21.N])::(60,.rsl 3010 0 0 v20.text_.length)::(59,.ref 2010 0 2)::(58,.ref 2010 0 0)::(Z3t v22 x19)) trivial ?_));have⟨x32,hx32,H⟩:=Y19 H;refine QOps.qcall rfl (by kernel_rfl) rfl (Yg trivial) (.cons (.pur rfl) (.cons (.pur rfl) .nil)) (f_formula_separator_ok hx32) rfl (QOps.buildTI (enc:=eI .u8) [x32] rfl rfl E24 (fun _=>rfl) (by decide) ⟨trivial,by kernel_rfl,by kernel_rfl,by kernel_rfl,rfl⟩ ?_);refine QOps.nil (OpsW.sg 0 [64,60,56,0,2,50,51] ((64,sU [x32])::(60,.rsl 3010 0 0 v20.text_.length)::(56,.ref 2010 0 0)::(Z3b v22 x19)) ?_);have⟨g33,H⟩:=Yq H;refine Y5j (enc:=eI .u8) (ys:=[x32]) rfl rfl rfl E24 (fun _=>rfl) rfl rfl trivial (Y5i (enc:=eI .u8) (fun _=>rfl) (by kernel_rfl) [x32]) rfl g33 (OpsW.quietU (.ref 2010 0 0) rfl rfl (Quiet.nilCheck rfl (gpoU rfl ⟨trivial,rfl,rfl⟩)) (OpsW.sg 1 [67,65,0,2,50,51] ((67,.ref 2010 0 2)::(65,.rsl 3010 1 0 ((v20.text_++[x32]).length))::(Z3b v22 x19)) (Y30 rfl rfl rfl rfl trivial trivial rfl rfl rfl (by kernel_rfl) (Y07 (by kernel_rfl)) (X9 (by kernel_rfl)) ?_)))
     change OpsW _ _ _ _ _ ((2010,⟨0,true,54,3,[slA Y3 v20.f_,.j v20.at_,.rsl 3010 1 0 ((v20.text_++[x32]).length)]⟩)::(3010,rtA 1 5 1 (eI .u8) (v20.text_++[x32]))::(Z3h v20 v21)) _;refine OpsW.sg 0 [0,2,50,51] (Z3b v22 x19) (OpsW.rc (Z3b v22 x19) [(2,⟨0,true,26,2,[.j v21.Op,.j v21.N]⟩),(2010,⟨0,true,54,3,[slA Y3 v20.f_,.j v20.at_,.rsl 3010 0 0 ((v20.text_++[x32]).length)]⟩),(3010,rtA 0 5 1 (eI .u8) (v20.text_++[x32]))] (StC.mk (phi [(2,some 2),(2010,some 2010),(3010,some 3010)]) (.o rfl (.i2 .nil) (.o rfl (.i2 (.cons (.s rfl) .nil)) (.o rfl (CstL.ims _) .nil))) rfl (.cons (.r rfl) (.cons (.r rfl) (.i2 .nil)))) (Y2 ?_));exact⟨((⟨v20.f_,v20.at_,v20.text_++[x32]⟩:Yd),v21),H,(StC.mk (phi [(2010,some 2010),(3010,some 3010),(2,some 2)]) (.o rfl (.i2 (.cons (.s rfl) .nil)) (.o rfl (CstL.ims _) (.o rfl (.i2 .nil) .nil))) rfl (.cons (.r rfl) (.cons (.r rfl) (.i2 .nil))))⟩
    refine Yh ?_;exact⟨(v20,v21),H,(StC.mk (phi [(2010,some 2010),(3010,some 3010),(2,some 2)]) (.o rfl (.i2 (.cons (.s rfl) .nil)) (.o rfl (CstL.ims _) (.o rfl (.i2 .nil) .nil))) rfl (.cons (.r rfl) (.cons (.r rfl) (.i2 .nil))))⟩
   rintro⟨v28,v29⟩ H;unfold Y0g at H;change AW _ _ _ (Z3b v22 x19) ((2010,⟨0,true,54,3,[slA Y3 v28.f_,.j v28.at_,.rsl 3010 0 0 v28.text_.length]⟩)::(3010,rtA 0 5 1 (eI .u8) v28.text_)::(Z3r v29)) _;refine Yw (OpsW.sg 1 [68,0,2,50,51] ((68,.ref 2010 0 0)::(Z3b v22 x19)) ?_);have⟨x30,hx30,H⟩:=Y19 H;change OpsW _ _ _ _ ((68,.ref 2010 0 0)::(Z3b v22 x19)) ((Z3j v28)++(Z3r v29)) _;refine OpsW.callR (Z3j v28) (Z3r v29) (Z3j v28) (phi [(2010,some 2010),(3010,some 3010)]) rfl rfl (by kernel_rfl) [.ref 2010 0 0] _ rfl (Yg trivial) (.cons (.r rfl) .nil) (hrec_f_formula_printer_node _ _ hx30) (Y03 (by kernel_rfl)) (by kernel_rfl) (.cons rfl rfl rfl rfl rfl (.i2 (.cons (.s rfl) .nil)) (.cons rfl rfl rfl rfl rfl (RnL.ims _) .nil)) ?_;rintro _ _ ⟨rfl,rfl⟩;refine⟨.tup [],[(2010,⟨0,true,54,3,[slA Y3 x30.f_,.j x30.at_,.rsl 3010 1 0 x30.text_.length]⟩),(3010,rtA 1 5 1 (eI .u8) x30.text_)],phi [(2010,some 2010),(3010,some 3010)],Y03 (by kernel_rfl),by kernel_rfl,by kernel_rfl,(.cons rfl rfl rfl rfl rfl (.i2 (.cons (.s rfl) .nil)) (.cons rfl rfl rfl rfl rfl (RnL.ims _) .nil)),(.tup .nil .nil), ?_⟩;change OpsW _ _ _ _ ((69,.tup [])::(68,.ref 2010 0 0)::(Z3b v22 x19)) ((2010,⟨0,true,54,3,[slA Y3 x30.f_,.j x30.at_,.rsl 3010 1 0 x30.text_.length]⟩)::(3010,rtA 1 5 1 (eI .u8) x30.text_)::(Z3r v29)) _
   refine OpsW.sg 0 [0,2,50,51] (Z3b v22 x19) (OpsW.rc (Z3b v22 x19) [(2,⟨0,true,26,2,[.j v29.Op,.j v29.N]⟩),(2010,⟨0,true,54,3,[slA Y3 x30.f_,.j x30.at_,.rsl 3010 0 0 x30.text_.length]⟩),(3010,rtA 0 5 1 (eI .u8) x30.text_)] (StC.mk (phi [(2,some 2),(2010,some 2010),(3010,some 3010)]) (.o rfl (.i2 .nil) (.o rfl (.i2 (.cons (.s rfl) .nil)) (.o rfl (CstL.ims _) .nil))) rfl (.cons (.r rfl) (.cons (.r rfl) (.i2 .nil)))) (Y2 ?_));exact⟨(x30,v29),H,(StC.mk (phi [(2010,some 2010),(3010,some 3010),(2,some 2)]) (.o rfl (.i2 (.cons (.s rfl) .nil)) (.o rfl (CstL.ims _) (.o rfl (.i2 .nil) .nil))) rfl (.cons (.r rfl) (.cons (.r rfl) (.i2 .nil))))⟩
  rintro⟨v25,v26⟩ H;unfold Y1u at H;change AW _ _ _ (Z3b v22 x19) [(2010,⟨0,true,54,3,[slA Y3 v25.f_,.j v25.at_,.rsl 3010 0 0 v25.text_.length]⟩),(3010,rtA 0 5 1 (eI .u8) v25.text_),(2,⟨0,true,26,2,[.j v26.Op,.j v26.N]⟩)] _;refine Yw ?_;have⟨g27,H⟩:=Yq H;refine OpsW.sz 2 [51,0,2,50] [(51,.j (v22+1)),Z3z,Z42,(50,.j x19.1)] ⟨g27,trivial⟩ (Y2 ?_);exact⟨(v25,v26,v22+1),H,(StC.mk (phi [(2010,some 2010),(3010,some 3010),(2,some 2)]) (.o rfl (.i2 (.cons (.s rfl) .nil)) (.o rfl (CstL.ims _) (.o rfl (.i2 .nil) .nil))) rfl (.cons (.r rfl) (.cons (.r rfl) (.i2 .nil))))⟩
 refine AW.exit<|Yw (OpsW.sg 2 [72,71] [(72,.ref 2010 0 0),(71,.ref 2010 0 0)] ?_);refine OpsW.quietU (.ref 2010 0 0) rfl rfl (Quiet.nilCheck rfl (gpoU rfl ⟨trivial,rfl,rfl⟩)) (OpsW.sg 2 [75,71] [(75,.rsl 3010 0 0 v20.text_.length),(71,.ref 2010 0 0)] ?_);have⟨g34,H⟩:=Yq H;refine OpsW.appendLF (enc:=eI .u8) [(41:Int)] rfl rfl rfl (by decide) rfl rfl rfl (by simp) E24 (fun _=>rfl) (by decide) trivial (by kernel_rfl) (by kernel_rfl) (by kernel_rfl) rfl rfl rfl g34 (OpsW.quietU (.ref 2010 0 0) rfl rfl (Quiet.nilCheck rfl (gpoU rfl ⟨trivial,rfl,rfl⟩)) (OpsW.sg 1 [79,77] [(79,.ref 2010 0 2),(77,.rsl 3010 1 0 ((Z41 v20).length))] (Y30 rfl rfl rfl rfl trivial trivial rfl rfl rfl (by kernel_rfl) (Y07 (by kernel_rfl)) (X9 (by kernel_rfl)) ?_)));change OpsW _ _ _ _ _ ((2010,⟨0,true,54,3,[slA Y3 v20.f_,.j v20.at_,.rsl 3010 1 0 ((Z41 v20).length)]⟩)::(3010,rtA 1 5 1 (eI .u8) (Z41 v20))::(Z3h v20 v21)) _;refine OpsW.sg 0 [] [] (OpsW.rc [] [(2010,⟨0,true,54,3,[slA Y3 v20.f_,.j v20.at_,.rsl 3010 0 0 ((Z41 v20).length)]⟩),(3010,rtA 0 5 1 (eI .u8) (Z41 v20))] (StC.mk (phi [(2010,some 2010),(3010,some 3010)]) (.o rfl (.i2 (.cons (.s rfl) .nil)) (.o rfl (CstL.ims _) .nil)) rfl .nil) (Y2 ?_));obtain rfl:=X5 H;show ∃en' hp',StC _ _ en' hp'∧Done _ _ _ .normal en' hp'
 refine⟨[],[(2010,⟨0,true,54,3,[slA Y3 v20.f_,.j v20.at_,.rsl 3010 1 0 ((Z41 v20).length)]⟩),(3010,rtA 1 5 1 (eI .u8) (Z41 v20))],(StC.mk (phi [(2010,some 2010),(3010,some 3010)]) (.o rfl (.i2 (.cons (.s rfl) .nil)) (.o rfl (CstL.ims _) .nil)) rfl .nil), ?_⟩;refine Done.genN rfl .nil ?_;exact⟨by kernel_rfl,by kernel_rfl⟩
def Y00:Nat→Yd→Option Yd
 |0,_=>none
 |n+1,t0=>Y2d (Y00 n) t0
theorem Y57:∀n:Nat,(∀(t0:Yd) (r:Yd),Y00 n t0=some r→Abs.Spec Tryd.prog 29 [.ref 2010 0 0] [(2010,⟨0,true,54,3,[slA Y3 t0.f_,.int .i64 t0.at_,.rsl 3010 0 0 t0.text_.length]⟩),(3010,rtA 0 5 1 (eI .u8) t0.text_)] (fun x h=>x= .tup []∧h=[(2010,⟨0,true,54,3,[slA Y3 r.f_,.int .i64 r.at_,.rsl 3010 1 0 r.text_.length]⟩),(3010,rtA 1 5 1 (eI .u8) r.text_)]))∧True
 |0=>by
  refine⟨?_,trivial⟩
  ·intro t0 r H;rw[Y00] at H;cases H
 |n+1=>by
  have ih:=Y57 n;refine⟨?_,trivial⟩
  ·intro t0 r H;rw[Y00] at H;exact f_formula_printer_node_body_io ih.1 H
def Y4r (t0:Yd):Option Yd:=Y00 1000000 t0
theorem f_formula_printer_node_io{t0:Yd}{r:Yd}(H:Y4r t0=some r):Abs.Spec Tryd.prog 29 [.ref 2010 0 0] [(2010,⟨0,true,54,3,[slA Y3 t0.f_,.int .i64 t0.at_,.rsl 3010 0 0 t0.text_.length]⟩),(3010,rtA 0 5 1 (eI .u8) t0.text_)] (fun x h=>x= .tup []∧h=[(2010,⟨0,true,54,3,[slA Y3 r.f_,.int .i64 r.at_,.rsl 3010 1 0 r.text_.length]⟩),(3010,rtA 1 5 1 (eI .u8) r.text_)]):=
 (Y57 1000000).1 t0 r H
def Y3d (t0:List Y4):Option ByteArray:=
 (Y1z t0).bind fun x1=>
 cond (!x1) (
  some (⟨#[]⟩:ByteArray)) (
  (Y4r (⟨t0,(0:Int),([]:List Int)⟩:Yd)).bind fun x3=>
  some (strOf x3.text_))
section
variable (t0:List Y4) (x3:Yd)
abbrev Z46:List AV:=[slA Y3 t0,.j (0:Int),.im (.val (.slice none 0 0))]
abbrev Z44:Hp:=[(3,⟨0,true,54,3,[slA Y3 t0,.j (0:Int),.rsl 5030 0 0 0]⟩),(5030,rtA 0 5 1 (eI .u8) ([]:List Int))]
abbrev Z45:Hp:=[(3,⟨0,true,54,3,[slA Y3 x3.f_,.j x3.at_,.rsl 5030 1 0 x3.text_.length]⟩),(5030,rtA 1 5 1 (eI .u8) x3.text_)]
end
theorem f_formula_Print_ok{t0:List Y4}{r:ByteArray}(H:Y3d t0=some r):QSpec Tryd.prog 14 [slA Y3 t0] (.string r):=by
 refine Y01 Tryd.func14 rfl (by simp[Tryd.ntmps14]) ?_;rw[Tryd.ntmps14];unfold Y3d at H;change AW _ _ _ [(0,slA Y3 t0)] [] _;refine Y0 (OpsW.sg 1 [0] [(0,slA Y3 t0)] ?_);refine Y2 (Y0d (Y0 (OpsW.sg 1 [4,0] [(4,slA Y3 t0),(0,slA Y3 t0)] ?_)));have⟨x1,hx1,H⟩:=Y19 H;refine Y1t rfl (.cons (.pur rfl) .nil) (f_formula_Valid_ok hx1) (OpsW.sg 1 [6,0] [(6,.bool (!x1)),(0,slA Y3 t0)] (Y2 (Y9 (b:= !x1) H rfl (fun c2 H=> ?_) (fun c2 H=> ?_))))
 ·refine Y0 (OpsW.sg 1 [2] [(2,.string (⟨#[]⟩:ByteArray))] ?_);refine Y2 ?_;obtain rfl:=X5 H;refine AW.recast (env':=[(2,.string (⟨#[]⟩:ByteArray))]) (h':=[]) (StC.pure (.cons .im .nil)) (Yv ?_)
  try simp only[Ex.t,Ex.b]
  exact Done.eq rfl (.tmp .nil)
 refine Yh (Y0 (OpsW.sg 2 [8] [(8,.agg (Z46 t0))] ?_));refine OpsW.alloc' rfl rfl rfl 3 rfl (by kernel_rfl:zc Tryd.prog 54=some [.slice none 0 0,.j 0,.slice none 0 0]) (by kernel_rfl) (Y30 rfl rfl rfl rfl trivial trivial rfl rfl rfl (by kernel_rfl) (Y07 (by kernel_rfl)) (X9 (by kernel_rfl)) ?_);change OpsW _ _ _ _ _ [(3,⟨0,true,54,3,(Z46 t0)⟩),(3,⟨0,true,54,3,[.im (.val (.slice none 0 0)),.j (0:Int),.im (.val (.slice none 0 0))]⟩)] _;refine OpsW.sg 0 [3] [(3,.ref 3 0 0)] (OpsW.rc [(3,.ref 3 0 0)] [(3,⟨0,true,54,3,(Z46 t0)⟩)] (StC.mk (phi [(3,some 3)]) (.o rfl (.i3 .nil) .nil) rfl (.cons (.r rfl) .nil)) ?_);refine Y2 (Y0 (OpsW.rc [(3,.ref 3 0 0)] (Z44 t0) (StC.mk (phi [(3,some 3),(5030,none)]) (.o rfl (.i2 (.cons (.nilr rfl rfl rfl) .nil)) (.new rfl .nil)) rfl (.cons (.r rfl) .nil)) ?_));have⟨x3,hx3,H⟩:=Y19 H;change OpsW _ _ _ _ [(3,.ref 3 0 0)] ((Z44 t0)++[]) _;refine OpsW.callR (Z44 t0) [] [(2010,⟨0,true,54,3,[slA Y3 t0,.j (0:Int),.rsl 3010 0 0 0]⟩),(3010,rtA 0 5 1 (eI .u8) ([]:List Int))] (phi [(2010,some 3),(3010,some 5030)]) rfl rfl (by kernel_rfl) [.ref 2010 0 0] _ rfl (Yg trivial) (.cons (.r rfl) .nil) (f_formula_printer_node_io hx3) (Y03 (by kernel_rfl)) (by kernel_rfl) (.cons rfl rfl rfl rfl rfl (.i2 (.cons (.s rfl) .nil)) (.cons rfl rfl rfl rfl rfl (RnL.ims _) .nil)) ?_;rintro _ _ ⟨rfl,rfl⟩
 refine⟨.tup [],(Z45 x3),phi [(3,some 2010),(5030,some 3010)],Y03 (by kernel_rfl),by kernel_rfl,by kernel_rfl,(.cons rfl rfl rfl rfl rfl (.i2 (.cons (.s rfl) .nil)) (.cons rfl rfl rfl rfl rfl (RnL.ims _) .nil)),(.tup .nil .nil), ?_⟩;change OpsW _ _ _ _ [(9,.tup []),(3,.ref 3 0 0)] (Z45 x3) _;refine OpsW.sg 0 [3] [(3,.ref 3 0 0)] (OpsW.rc [(3,.ref 3 0 0)] [(3,⟨0,true,54,3,[slA Y3 x3.f_,.j x3.at_,.rsl 5030 0 0 x3.text_.length]⟩),(5030,rtA 0 5 1 (eI .u8) x3.text_)] (StC.mk (phi [(3,some 3),(5030,some 5030)]) (.o rfl (.i2 (.cons (.s rfl) .nil)) (.o rfl (CstL.ims _) .nil)) rfl (.cons (.r rfl) .nil)) ?_);refine Y2 (Y0 (OpsW.sg 2 [11] [(11,.rsl 5030 0 0 x3.text_.length)] ?_));refine OpsW.quietU (.string (strOf x3.text_)) rfl rfl (Quiet.toStr (e:=5) x3.text_ rfl (by kernel_rfl) (by kernel_rfl) (by kernel_rfl) (gpoU rfl ⟨trivial,SlV.rsl rfl rfl,SrcA.rootF (enc:=eI .u8) (fun _=>rfl) (by kernel_rfl) rfl⟩)) (OpsW.sg 1 [2] [(2,.string (strOf x3.text_))] (Y2 ?_));obtain rfl:=X5 H;refine AW.recast (env':=[(2,.string (strOf x3.text_))]) (h':=[]) (StC.pure (.cons .im .nil)) (Yv ?_)
 try simp only[Ex.t,Ex.b]
 exact Done.eq rfl (.tmp .nil)
def Y41 (rec_f_R09_Digits:Int→Option ByteArray) (t0:Int):Option ByteArray:=
 cond (decide (t0<10)) (
  G (inR (48+t0))<|
  some (strOf [IntKind.wrap .u8 (48+t0)])) (
  G (inR (Int.tdiv t0 (10:Int)))<|
  (rec_f_R09_Digits (Int.tdiv t0 (10:Int))).bind fun x4=>
  G (inR ((48:Int)+(Int.tmod t0 (10:Int))))<|
  G (x4.size+(strOf [IntKind.wrap .u8 ((48:Int)+(Int.tmod t0 (10:Int)))]).size≤9223372036854775807)<|
  some (x4++(strOf [IntKind.wrap .u8 ((48:Int)+(Int.tmod t0 (10:Int)))])))
section
variable (t0:Int)
abbrev Z48:=((48:Int)+(Int.tmod t0 (10:Int)))
abbrev Z49:=strOf [IntKind.wrap .u8 (Z48 t0)]
abbrev Z4a:=strOf [IntKind.wrap .u8 (48+t0)]
abbrev Z47:Env:=[(11,.j (Int.tdiv t0 (10:Int))),(10,.j t0),(4,.bool (decide (t0<10))),(0,.j t0)]
end
theorem f_R09_Digits_body_ok{rec_f_R09_Digits:Int→Option ByteArray}(hrec_f_R09_Digits:∀(t0:Int) (r:ByteArray),rec_f_R09_Digits t0=some r→QSpec Tryd.prog 57 [.int .i64 t0] (.string r)){t0:Int}{r:ByteArray}(H:Y41 rec_f_R09_Digits t0=some r):QSpec Tryd.prog 57 [.int .i64 t0] (.string r):=by
 refine Y01 Tryd.func57 rfl (by simp[Tryd.ntmps57]) ?_;rw[Tryd.ntmps57];unfold Y41 at H;change AW _ _ _ [(0,.j t0)] [] _;refine Y0 (OpsW.sg 1 [0] [(0,.j t0)] ?_);refine Y2 (Y0d (Y0 (OpsW.sg 2 [4,0] [(4,.bool (decide (t0<10))),(0,.j t0)] ?_)));refine Y2 (Y9 (b:=decide (t0<10)) H rfl (fun c1 H=> ?_) (fun c1 H=> ?_))
 ·refine Y0 ?_;have⟨g2,H⟩:=Yq H;refine OpsW.sz 3 [7] [(7,.int .u8 (IntKind.wrap .u8 (48+t0)))] ⟨g2,trivial⟩ (OpsW.buildTI (enc:=eI .u8) [IntKind.wrap .u8 (48+t0)] rfl rfl rfl E24 (fun _=>rfl) (by decide) ⟨trivial,by kernel_rfl,by kernel_rfl,by kernel_rfl,rfl⟩ (OpsW.quietU (.string (Z4a t0)) rfl rfl (Quiet.toStr (e:=5) [IntKind.wrap .u8 (48+t0)] rfl (by kernel_rfl) (by kernel_rfl) (by kernel_rfl) (gpoU rfl ⟨trivial,SlV.im,Y5i (enc:=eI .u8) (fun _=>rfl) (by kernel_rfl) [IntKind.wrap .u8 (48+t0)]⟩)) (OpsW.sg 1 [2] [(2,.string (Z4a t0))] (Y2 ?_))));obtain rfl:=X5 H;refine AW.recast (env':=[(2,.string (Z4a t0))]) (h':=[]) (StC.pure (.cons .im .nil)) (Yv ?_)
  try simp only[Ex.t,Ex.b]
  exact Done.eq rfl (.tmp .nil)
 refine Yh (Y31 Tryd.checked.mixed (by kernel_rfl) ?_);have⟨g3,H⟩:=Yq H;refine QOps.sz (N:=20) 2 (Z47 t0) ⟨(by decide),g3,trivial⟩ ?_;have⟨x4,hx4,H⟩:=Y19 H;refine QOps.qcall rfl (by kernel_rfl) rfl (Yg trivial) (.cons (.pur rfl) .nil) (hrec_f_R09_Digits _ _ hx4) rfl ?_;have⟨g5,H⟩:=Yq H;refine QOps.sz (N:=20) 4 ((16,.int .u8 (IntKind.wrap .u8 (Z48 t0)))::(15,.j (Z48 t0))::(14,.j (Int.tmod t0 (10:Int)))::(13,.j t0)::(12,.string x4)::(Z47 t0)) ⟨(by decide),g5,trivial⟩ (QOps.buildTI (enc:=eI .u8) [IntKind.wrap .u8 (Z48 t0)] rfl rfl E24 (fun _=>rfl) (by decide) ⟨trivial,by kernel_rfl,by kernel_rfl,by kernel_rfl,rfl⟩ (QOps.quietU (.string (Z49 t0)) rfl (Quiet.toStr (e:=5) [IntKind.wrap .u8 (Z48 t0)] rfl (by kernel_rfl) (by kernel_rfl) (by kernel_rfl) (gpoU rfl ⟨trivial,SlV.im,Y5i (enc:=eI .u8) (fun _=>rfl) (by kernel_rfl) [IntKind.wrap .u8 (Z48 t0)]⟩)) ?_));have⟨g6,H⟩:=Yq H;refine QOps.sz (N:=20) 2 ((2,.string (x4++(Z49 t0)))::(19,.string (x4++(Z49 t0)))::(18,.string (Z49 t0))::(17,sU [IntKind.wrap .u8 (Z48 t0)])::(16,.int .u8 (IntKind.wrap .u8 (Z48 t0)))::(15,.j (Z48 t0))::(14,.j (Int.tmod t0 (10:Int)))::(13,.j t0)::(12,.string x4)::(Z47 t0)) ⟨g6,trivial⟩<|QOps.nil (AW.trim [2] [(2,.string (x4++(Z49 t0)))] (by kernel_rfl) ?_);obtain rfl:=X5 H;refine AW.recast (env':=[(2,.string (x4++(Z49 t0)))]) (h':=[]) (StC.pure (.cons .im .nil)) (Yv ?_)
 try simp only[Ex.t,Ex.b]
 exact Done.eq rfl (.tmp .nil)
def Y37:Nat→Int→Option ByteArray
 |0,_=>none
 |n+1,t0=>Y41 (Y37 n) t0
theorem f_R09_Digits_all:∀n:Nat,(∀(t0:Int) (r:ByteArray),Y37 n t0=some r→QSpec Tryd.prog 57 [.int .i64 t0] (.string r))∧True
 |0=>by
  refine⟨?_,trivial⟩
  ·intro t0 r H;rw[Y37] at H;cases H
 |n+1=>by
  have ih:=f_R09_Digits_all n;refine⟨?_,trivial⟩
  ·intro t0 r H;rw[Y37] at H;exact f_R09_Digits_body_ok ih.1 H
def f_R09_Digits (t0:Int):Option ByteArray:=Y37 1000000 t0
theorem f_R09_Digits_ok{t0:Int}{r:ByteArray}(H:f_R09_Digits t0=some r):QSpec Tryd.prog 57 [.int .i64 t0] (.string r):=
 (f_R09_Digits_all 1000000).1 t0 r H
def f_R09_names:Option ((List ByteArray)×(List Int)):=
 some ([(⟨#[102,114,97,99]⟩:ByteArray),(⟨#[112,111,119]⟩:ByteArray),(⟨#[105,100,120]⟩:ByteArray),(⟨#[114,111,111,116]⟩:ByteArray),(⟨#[99,97,110,99,101,108]⟩:ByteArray),(⟨#[115,117,109]⟩:ByteArray),(⟨#[109,97,116,114,105,120]⟩:ByteArray)],[(6:Int),(7:Int),(8:Int),(9:Int),(11:Int),(12:Int),(13:Int)])
section
abbrev Z4b:Nat×AV:=(0,slA eS [(⟨#[102,114,97,99]⟩:ByteArray),(⟨#[112,111,119]⟩:ByteArray),(⟨#[105,100,120]⟩:ByteArray),(⟨#[114,111,111,116]⟩:ByteArray),(⟨#[99,97,110,99,101,108]⟩:ByteArray),(⟨#[115,117,109]⟩:ByteArray),(⟨#[109,97,116,114,105,120]⟩:ByteArray)])
abbrev Z4c:Nat×AV:=(1,slA (eI .i64) [(6:Int),(7:Int),(8:Int),(9:Int),(11:Int),(12:Int),(13:Int)])
end
theorem f_R09_names_ok{r:(List ByteArray)×(List Int)}(H:f_R09_names=some r):QSpec Tryd.prog 80 [] (.tup [slA eS r.1,slA (eI .i64) r.2]):=by
 refine Y01 Tryd.func80 rfl (by simp[Tryd.ntmps80]) ?_;rw[Tryd.ntmps80];unfold f_R09_names at H;change AW _ _ _ [] [] _;refine Y0 (OpsW.sg 2 [] [] ?_);refine Y2 (Y0 (OpsW.buildTI (enc:=eS) [(⟨#[102,114,97,99]⟩:ByteArray),(⟨#[112,111,119]⟩:ByteArray),(⟨#[105,100,120]⟩:ByteArray),(⟨#[114,111,111,116]⟩:ByteArray),(⟨#[99,97,110,99,101,108]⟩:ByteArray),(⟨#[115,117,109]⟩:ByteArray),(⟨#[109,97,116,114,105,120]⟩:ByteArray)] rfl rfl rfl E89 (fun _=>rfl) (by decide) ⟨trivial,by kernel_rfl,by kernel_rfl,by kernel_rfl,rfl⟩ ?_));refine OpsW.buildTI (enc:=eI .i64) [(6:Int),(7:Int),(8:Int),(9:Int),(11:Int),(12:Int),(13:Int)] rfl rfl rfl E42 (fun _=>rfl) (by decide) ⟨trivial,by kernel_rfl,by kernel_rfl,by kernel_rfl,rfl⟩ (OpsW.sg 2 [1,0] [Z4c,Z4b] (Y2 ?_));obtain rfl:=X5 H;refine AW.recast (env':=[Z4b,Z4c]) (h':=[]) (StC.pure (.i2 .nil)) (Yv ?_)
 try simp only[Ex.t,Ex.b]
 exact Done.eq rfl (.tmp (.tmp .nil))
def f_R09_name_b1 (t0:Int) (x1:(List ByteArray)×(List Int)) (loop3:(Int)→Option ByteArray) (v2:Int):Option ByteArray:=
 cond (decide (v2<(x1.2.length:Int))) (
  G (0≤v2∧v2<(x1.2.length:Int))<|
  cond ((x1.2.getD v2.toNat 0)==t0) (
   G (0≤v2∧v2<(x1.1.length:Int))<|
   some (x1.1.getD v2.toNat ByteArray.empty)) (
   G (inR (v2+1))<|
   loop3 (v2+1))) (
  some (⟨#[]⟩:ByteArray))
def f_R09_name (t0:Int):Option ByteArray:=
 (f_R09_names).bind fun x1=>
 iter (fun loop (s:Int)=>f_R09_name_b1 t0 x1 loop s) 1000000 (0:Int)
section
variable (t0:Int) (v2:Int) (x1:(List ByteArray)×(List Int))
abbrev Z4d:Env:=[(0,.j t0),(3,slA eS x1.1),(4,slA (eI .i64) x1.2),(5,.j v2)]
end
theorem f_R09_name_ok{t0:Int}{r:ByteArray}(H:f_R09_name t0=some r):QSpec Tryd.prog 58 [.int .i64 t0] (.string r):=by
 refine Y01 Tryd.func58 rfl (by simp[Tryd.ntmps58]) ?_;rw[Tryd.ntmps58];unfold f_R09_name at H;change AW _ _ _ [(0,.j t0)] [] _;refine Y0 (OpsW.sg 1 [0] [(0,.j t0)] ?_);refine Y2 (Y0 ?_);have⟨x1,hx1,H⟩:=Y19 H;refine Y1t rfl .nil (f_R09_names_ok hx1) (OpsW.sg 5 [4,3,0] [(4,slA (eI .i64) x1.2),(3,slA eS x1.1),(0,.j t0)] ?_);refine Y2 (Y0d (Y0 (OpsW.sg 1 [5,4,3,0] [(5,.j (0:Int)),(4,slA (eI .i64) x1.2),(3,slA eS x1.1),(0,.j t0)] ?_)));refine Y2 (Y0e ?_);refine Y56 (fun loop (s:Int)=>f_R09_name_b1 t0 x1 loop s) r (fun(s:Int)=>[(0,.j t0),(3,slA eS x1.1),(4,slA (eI .i64) x1.2),(5,.j s)]) (fun(s:Int)=>[]) ?_ 1000000 (0:Int) H (StC.pure (.i4 .nil));intro loop3 v2 H;unfold f_R09_name_b1 at H;change AW _ _ _ (Z4d t0 v2 x1) [] _;refine Y0d (Y0 (OpsW.sg 4 [13,0,3,4,5] ((13,.bool (decide (v2<(x1.2.length:Int))))::(Z4d t0 v2 x1)) ?_));refine Y2 (Y9 (b:=decide (v2<(x1.2.length:Int))) H rfl (fun c4 H=> ?_) (fun c4 H=> ?_))
 ·refine Yh (Y0d (Y0e (Y0 ?_)));have⟨g5,H⟩:=Yq H;refine OpsW.sz 3 [18,0,3,4,5] ((18,.ipt (x1.2.flatMap (eI .i64)) (v2.toNat*1))::(Z4d t0 v2 x1)) ⟨g5,trivial⟩ (OpsW.asU (.j (x1.2.getD v2.toNat 0)) rfl rfl (T.load rfl trivial (by kernel_rfl) (fm_cell0 (eI .i64) 1 (fun _=>rfl) x1.2 (0:Int) v2.toNat (ltN g5) (fun a=>.val (.j a)) (fun _=>rfl))) (OpsW.sg 2 [21,0,3,4,5] ((21,.bool ((x1.2.getD v2.toNat 0)==t0))::(Z4d t0 v2 x1)) (Y2 (Y9 (b:=(x1.2.getD v2.toNat 0)==t0) H rfl (fun c6 H=> ?_) (fun c6 H=> ?_)))))
  ·refine Y0 ?_;have⟨g7,H⟩:=Yq H;refine OpsW.sz 3 [24] [(24,.ipt (x1.1.flatMap eS) (v2.toNat*1))] ⟨g7,trivial⟩ (OpsW.asU (.string (x1.1.getD v2.toNat ByteArray.empty)) rfl rfl (T.load rfl trivial (by kernel_rfl) (fm_cell0 eS 1 (fun _=>rfl) x1.1 ByteArray.empty v2.toNat (ltN g7) (fun a=>.val (.string a)) (fun _=>rfl))) (OpsW.sg 1 [2] [(2,.string (x1.1.getD v2.toNat ByteArray.empty))] (Y2 ?_)));obtain rfl:=X5 H;refine AW.recast (env':=[(2,.string (x1.1.getD v2.toNat ByteArray.empty))]) (h':=[]) (StC.pure (.cons .im .nil)) (Yv ?_)
   try simp only[Ex.t,Ex.b]
   exact Done.eq rfl (.tmp .nil)
  refine Yh (Yw ?_);have⟨g8,H⟩:=Yq H;refine OpsW.sz 3 [5,0,3,4] [(5,.j (v2+1)),(0,.j t0),(3,slA eS x1.1),(4,slA (eI .i64) x1.2)] ⟨g8,trivial⟩ (Y2 ?_);exact⟨v2+1,H,(StC.pure (.i4 .nil))⟩
 refine AW.exit<|Y0 (OpsW.sg 1 [2] [(2,.string (⟨#[]⟩:ByteArray))] ?_);refine Y2 ?_;obtain rfl:=X5 H;refine AW.recast (env':=[(2,.string (⟨#[]⟩:ByteArray))]) (h':=[]) (StC.pure (.cons .im .nil)) (Yv ?_)
 try simp only[Ex.t,Ex.b]
 exact Done.eq rfl (.tmp .nil)
def Y4u (loop7:(ByteArray×Int)→Option ByteArray) (v6:Int) (v9:ByteArray):Option ByteArray:=
 G (inR (v6+1))<|
 loop7 (v9,v6+1)
def Y2x (rec_f_R09_text:(List Y4)→Int→Option ByteArray) (t0:List Y4) (x1:List Int) (loop7:(ByteArray×Int)→Option ByteArray) (v6:Int) (v11:ByteArray):Option ByteArray:=
 G (0≤v6∧v6<(x1.length:Int))<|
 (rec_f_R09_text t0 (x1.getD v6.toNat 0)).bind fun x13=>
 G (v11.size+x13.size≤9223372036854775807)<|
 Y4u loop7 v6 (v11++x13)
def Y2w (rec_f_R09_text:(List Y4)→Int→Option ByteArray) (t0:List Y4) (x1:List Int) (loop7:(ByteArray×Int)→Option ByteArray) (v5:ByteArray) (v6:Int) (v16:ByteArray):Option ByteArray:=
 G (v5.size+v16.size≤9223372036854775807)<|
 Y2x rec_f_R09_text t0 x1 loop7 v6 (v5++v16)
def Y2y (rec_f_R09_text:(List Y4)→Int→Option ByteArray) (t0:List Y4) (t1:Int) (x1:List Int) (loop7:(ByteArray×Int)→Option ByteArray) (v5:ByteArray) (v6:Int):Option ByteArray:=
 cond (decide (v6<(x1.length:Int))) (
  cond (decide (0<v6)) (
   G ((((t0.getD t1.toNat Ye).Op)==12)=true→inR ((x1.length:Int)-1))<|
   G (((!(cond (((t0.getD t1.toNat Ye).Op)==12) (v6==((x1.length:Int)-1)) false))&&(((t0.getD t1.toNat Ye).Op)==13))=true→(Int.tmod ((t0.getD t1.toNat Ye).N) (8:Int))≠0)<|
   cond (cond (cond (((t0.getD t1.toNat Ye).Op)==12) (v6==((x1.length:Int)-1)) false) true (cond (((t0.getD t1.toNat Ye).Op)==13) ((Int.tmod v6 (Int.tmod ((t0.getD t1.toNat Ye).N) (8:Int)))==0) false)) (
    Y2w rec_f_R09_text t0 x1 loop7 v5 v6 (⟨#[59]⟩:ByteArray)) (
    Y2w rec_f_R09_text t0 x1 loop7 v5 v6 (⟨#[44]⟩:ByteArray))) (
   Y2x rec_f_R09_text t0 x1 loop7 v6 v5)) (
  G (v5.size+(⟨#[41]⟩:ByteArray).size≤9223372036854775807)<|
  some (v5++(⟨#[41]⟩:ByteArray)))
def Y3q (rec_f_R09_text:(List Y4)→Int→Option ByteArray) (t0:List Y4) (t1:Int) (x1:List Int):Option ByteArray:=
 (f_R09_name ((t0.getD t1.toNat Ye).Op)).bind fun x3=>
 G (x3.size+(⟨#[40]⟩:ByteArray).size≤9223372036854775807)<|
 iter (fun loop (s:ByteArray×Int)=>Y2y rec_f_R09_text t0 t1 x1 loop s.1 s.2) 1000000 (x3++(⟨#[40]⟩:ByteArray),(0:Int))
def Y11 (rec_f_R09_text:(List Y4)→Int→Option ByteArray) (t0:List Y4) (t1:Int) (x1:List Int) (v26:Bool):Option ByteArray:=
 cond v26 (
  G (0≤((t0.getD t1.toNat Ye).Op)∧((t0.getD t1.toNat Ye).Op)<([(⟨#[]⟩:ByteArray),(⟨#[]⟩:ByteArray),(⟨#[43]⟩:ByteArray),(⟨#[45]⟩:ByteArray),(⟨#[42]⟩:ByteArray),(⟨#[61]⟩:ByteArray)].length:Int))<|
  G (0≤(0:Int)∧(0:Int)<(x1.length:Int))<|
  (rec_f_R09_text t0 (x1.getD (0:Int).toNat (0:Int))).bind fun x30=>
  G (x30.size+([(⟨#[]⟩:ByteArray),(⟨#[]⟩:ByteArray),(⟨#[43]⟩:ByteArray),(⟨#[45]⟩:ByteArray),(⟨#[42]⟩:ByteArray),(⟨#[61]⟩:ByteArray)].getD ((t0.getD t1.toNat Ye).Op).toNat ByteArray.empty).size≤9223372036854775807)<|
  G (0≤(1:Int)∧(1:Int)<(x1.length:Int))<|
  (rec_f_R09_text t0 (x1.getD (1:Int).toNat (0:Int))).bind fun x33=>
  G ((x30++([(⟨#[]⟩:ByteArray),(⟨#[]⟩:ByteArray),(⟨#[43]⟩:ByteArray),(⟨#[45]⟩:ByteArray),(⟨#[42]⟩:ByteArray),(⟨#[61]⟩:ByteArray)].getD ((t0.getD t1.toNat Ye).Op).toNat ByteArray.empty)).size+x33.size≤9223372036854775807)<|
  some ((x30++([(⟨#[]⟩:ByteArray),(⟨#[]⟩:ByteArray),(⟨#[43]⟩:ByteArray),(⟨#[45]⟩:ByteArray),(⟨#[42]⟩:ByteArray),(⟨#[61]⟩:ByteArray)].getD ((t0.getD t1.toNat Ye).Op).toNat ByteArray.empty))++x33)) (
  Y3q rec_f_R09_text t0 t1 x1)
def f_R09_text_body (rec_f_R09_text:(List Y4)→Int→Option ByteArray) (t0:List Y4) (t1:Int):Option ByteArray:=
 (Y3t t0 t1).bind fun x1=>
 G (0≤t1∧t1<(t0.length:Int))<|
 cond (((t0.getD t1.toNat Ye).Op)==0) (
  (f_R09_Digits ((t0.getD t1.toNat Ye).N)).bind fun x23=>
  some x23) (
  cond (((t0.getD t1.toNat Ye).Op)==1) (
   G (inR (97+((t0.getD t1.toNat Ye).N)))<|
   some (strOf [IntKind.wrap .u8 (97+((t0.getD t1.toNat Ye).N))])) (
   cond (((t0.getD t1.toNat Ye).Op)==2) (
    Y11 rec_f_R09_text t0 t1 x1 (((t0.getD t1.toNat Ye).Op)==2)) (
    cond (((t0.getD t1.toNat Ye).Op)==3) (
     Y11 rec_f_R09_text t0 t1 x1 (((t0.getD t1.toNat Ye).Op)==3)) (
     cond (((t0.getD t1.toNat Ye).Op)==4) (
      Y11 rec_f_R09_text t0 t1 x1 (((t0.getD t1.toNat Ye).Op)==4)) (
      Y11 rec_f_R09_text t0 t1 x1 (((t0.getD t1.toNat Ye).Op)==5))))))
section
variable (t0:List Y4) (t1:Int) (v6:Int) (x1:List Int)
abbrev Z4k:=([(⟨#[]⟩:ByteArray),(⟨#[]⟩:ByteArray),(⟨#[43]⟩:ByteArray),(⟨#[45]⟩:ByteArray),(⟨#[42]⟩:ByteArray),(⟨#[61]⟩:ByteArray)].getD ((t0.getD t1.toNat Ye).Op).toNat ByteArray.empty)
abbrev Z4l:=t0.getD t1.toNat Ye
abbrev Z4m:Nat×AV:=(5,slA (eI .i64) x1)
abbrev Z4n:Nat×AV:=(0,slA Y3 t0)
abbrev Z4o:Nat×AV:=(6,.ref 6 0 0)
abbrev Z4p:=(Z4l t0 t1).Op
abbrev Z4q:List AV:=[.j (Z4p t0 t1),.j ((Z4l t0 t1).N)]
abbrev Z4r:Nat×AV:=(45,.ipt (x1.flatMap (eI .i64)) ((0:Int).toNat*1))
abbrev Z4s:=strOf [IntKind.wrap .u8 (97+((Z4l t0 t1).N))]
abbrev Z4t:=(cond ((Z4p t0 t1)==13) ((Int.tmod v6 (Int.tmod ((Z4l t0 t1).N) (8:Int)))==0) false)
abbrev Z4u:=(⟨#[]⟩:ByteArray)
abbrev Z4v:=(x1.getD (0:Int).toNat (0:Int))
abbrev Z4e:Hp:=[(6,⟨0,true,26,2,(Z4q t0 t1)⟩)]
abbrev Z4f:Env:=[(19,.j (Z4p t0 t1)),(Z4m x1),Z4o,(Z4n t0)]
abbrev Z4g:Env:=[(Z4n t0),(Z4m x1),Z4o]
abbrev Z4h:Env:=[(16,.ipt (t0.flatMap Y3) (t1.toNat*2)),(15,.j t1),(14,slA Y3 t0),(13,slA (eI .i64) x1),(12,.j t1),(11,slA Y3 t0),(Z4n t0),(1,.j t1)]
abbrev Z4i:Env:=[(Z4n t0),(Z4m x1)]
abbrev Z4j:Env:=[(Z4m x1),Z4o,(Z4n t0)]
end
theorem f_R09_text_body_ok{rec_f_R09_text:(List Y4)→Int→Option ByteArray}(hrec_f_R09_text:∀(t0:List Y4) (t1:Int) (r:ByteArray),rec_f_R09_text t0 t1=some r→QSpec Tryd.prog 48 [slA Y3 t0,.int .i64 t1] (.string r)){t0:List Y4}{t1:Int}{r:ByteArray}(H:f_R09_text_body rec_f_R09_text t0 t1=some r):QSpec Tryd.prog 48 [slA Y3 t0,.int .i64 t1] (.string r):=by
 refine Y01 Tryd.func48 rfl (by simp[Tryd.ntmps48]) ?_;rw[Tryd.ntmps48];unfold f_R09_text_body at H;change AW _ _ _ [(Z4n t0),(1,.j t1)] [] _;refine Y0 (OpsW.sg 1 [0,1] [(Z4n t0),(1,.j t1)] ?_);refine Y2 (AW.drawGSeq 9 [(7,6)] Tryd.checked.mixed (by kernel_rfl) (by kernel_rfl) ?_);refine DOps.q 7 (by kernel_rfl)<|QOps.sz (N:=104) 2 [(12,.j t1),(11,slA Y3 t0),(Z4n t0),(1,.j t1)] trivial ?_;have⟨x1,hx1,H⟩:=Y19 H;refine QOps.qcall rfl (by kernel_rfl) rfl (Yg trivial) (.cons (.pur rfl) (.cons (.pur rfl) .nil)) (f_R09_Operands_ok hx1) rfl ?_;have⟨g2,H⟩:=Yq H;refine QOps.sz (N:=104) 3 (Z4h t0 t1 x1) ⟨g2,trivial⟩ (QOps.asU (.agg (Z4q t0 t1)) rfl (T.loadAgg (cs:=t0.flatMap Y3) (off:=t1.toNat*2) (ds:=Y3 (Z4l t0 t1)) rfl trivial (by kernel_rfl) (by have:=Y16 Y3 2 (fun _=>rfl) t0;have:=(ltN g2);first|omega|(simp only[Z4l,Z4p] at*;omega)) (fm_elem Y3 2 (fun _=>rfl) t0 Ye t1.toNat (ltN g2))) ?_);refine QOps.nil (DOps.e 6 rfl rfl rfl (by exact fun g hg hb=>RStep.alloc rfl 6 (hg.trans rfl) (by kernel_rfl:zc Tryd.prog 26=some [.j 0,.j 0]) (by kernel_rfl)) ?_);refine DOps.q 1 (by kernel_rfl)<|QOps.sz (N:=104) 1 ((Z4m x1)::Z4o::(17,.agg (Z4q t0 t1))::(Z4h t0 t1 x1)) trivial<|QOps.nil (DOps.nil ?_);refine OpsW.sg 0 [5,6,17,0] [(Z4m x1),Z4o,(17,.agg (Z4q t0 t1)),(Z4n t0)] (Y30 rfl rfl rfl rfl trivial trivial rfl rfl rfl (by kernel_rfl) (Y07 (by kernel_rfl)) (X9 (by kernel_rfl)) ?_)
 change OpsW _ _ _ _ _ [(6,⟨0,true,26,2,(Z4q t0 t1)⟩),(6,⟨0,true,26,2,[.j (0:Int),.j (0:Int)]⟩)] _;refine OpsW.sg 0 [5,6,0] (Z4j t0 x1) (OpsW.rc (Z4j t0 x1) (Z4e t0 t1) (StC.mk (phi [(6,some 6)]) (.o rfl (.i2 .nil) .nil) rfl (.cons .im (.cons (.r rfl) (.cons .im .nil)))) (Y2 ?_));refine Y1w (fun(y:Unit)=>Y3q rec_f_R09_text t0 t1 x1) r (fun(y:Unit)=>(Z4g t0 x1)) (fun(y:Unit)=>(Z4e t0 t1)) ?_ ?_
 ·refine Y0 (OpsW.sg 2 [19,5,6,0] (Z4f t0 t1 x1) ?_);refine Y2 (Y0e (Y0 (OpsW.sg 2 [20,19,5,6,0] ((20,.bool ((Z4p t0 t1)==0))::(Z4f t0 t1 x1)) ?_)));refine Y2 (Y9 (b:=(Z4p t0 t1)==0) H rfl (fun c22 H=> ?_) (fun c22 H=> ?_))
  ·refine Y0 (OpsW.sg 2 [23] [(23,.j ((Z4l t0 t1).N))] ?_);have⟨x23,hx23,H⟩:=Y19 H;refine Y1t rfl (.cons (.pur rfl) .nil) (f_R09_Digits_ok hx23) (OpsW.sg 1 [4] [(4,.string x23)] (Y2 ?_));obtain rfl:=X5 H;refine AW.recast (env':=[(4,.string x23)]) (h':=[]) (StC.pure (.cons .im .nil)) (Yv ?_)
   try simp only[Ex.t,Ex.b]
   exact Done.eq rfl (.tmp .nil)
  refine Y0 (OpsW.sg 2 [25,19,5,6,0] ((25,.bool ((Z4p t0 t1)==1))::(Z4f t0 t1 x1)) ?_);refine Y2 (Y9 (b:=(Z4p t0 t1)==1) H rfl (fun c24 H=> ?_) (fun c24 H=> ?_))
  ·refine Y0 ?_;have⟨g25,H⟩:=Yq H;refine OpsW.sz 4 [30] [(30,.int .u8 (IntKind.wrap .u8 (97+((Z4l t0 t1).N))))] ⟨g25,trivial⟩ (OpsW.buildTI (enc:=eI .u8) [IntKind.wrap .u8 (97+((Z4l t0 t1).N))] rfl rfl rfl E24 (fun _=>rfl) (by decide) ⟨trivial,by kernel_rfl,by kernel_rfl,by kernel_rfl,rfl⟩ (OpsW.quietU (.string (Z4s t0 t1)) rfl rfl (Quiet.toStr (e:=5) [IntKind.wrap .u8 (97+((Z4l t0 t1).N))] rfl (by kernel_rfl) (by kernel_rfl) (by kernel_rfl) (gpoU rfl ⟨trivial,SlV.im,Y5i (enc:=eI .u8) (fun _=>rfl) (by kernel_rfl) [IntKind.wrap .u8 (97+((Z4l t0 t1).N))]⟩)) (OpsW.sg 1 [4] [(4,.string (Z4s t0 t1))] (Y2 ?_))));obtain rfl:=X5 H;refine AW.recast (env':=[(4,.string (Z4s t0 t1))]) (h':=[]) (StC.pure (.cons .im .nil)) (Yv ?_)
   try simp only[Ex.t,Ex.b]
   exact Done.eq rfl (.tmp .nil)
  refine Y1w (fun(y:Bool)=>Y11 rec_f_R09_text t0 t1 x1 y) r (fun(y:Bool)=>[(Z4n t0),(Z4m x1),Z4o,(33,.bool y)]) (fun(y:Bool)=>(Z4e t0 t1)) ?_ ?_
  ·refine Y0 (OpsW.sg 2 [33,19,5,6,0] ((33,.bool ((Z4p t0 t1)==2))::(Z4f t0 t1 x1)) ?_);refine Y2 (Y9 (b:=(Z4p t0 t1)==2) H rfl (fun c35 H=> ?_) (fun c35 H=> ?_))
   ·refine Yh ?_;exact⟨(Z4p t0 t1)==2,H,(StC.mk (phi [(6,some 6)]) (.o rfl (.i2 .nil) .nil) rfl (.i2 (.cons (.r rfl) (.cons .im .nil))))⟩
   refine Y0 (OpsW.sg 2 [33,19,5,6,0] ((33,.bool ((Z4p t0 t1)==3))::(Z4f t0 t1 x1)) ?_);refine Y2 (Y9 (b:=(Z4p t0 t1)==3) H rfl (fun c36 H=> ?_) (fun c36 H=> ?_))
   ·refine Yh ?_;exact⟨(Z4p t0 t1)==3,H,(StC.mk (phi [(6,some 6)]) (.o rfl (.i2 .nil) .nil) rfl (.i2 (.cons (.r rfl) (.cons .im .nil))))⟩
   refine Y0 (OpsW.sg 2 [33,19,5,6,0] ((33,.bool ((Z4p t0 t1)==4))::(Z4f t0 t1 x1)) ?_);refine Y2 (Y9 (b:=(Z4p t0 t1)==4) H rfl (fun c37 H=> ?_) (fun c37 H=> ?_))
   ·refine Yh ?_;exact⟨(Z4p t0 t1)==4,H,(StC.mk (phi [(6,some 6)]) (.o rfl (.i2 .nil) .nil) rfl (.i2 (.cons (.r rfl) (.cons .im .nil))))⟩
   refine Yw (OpsW.sg 2 [33,5,6,0] ((33,.bool ((Z4p t0 t1)==5))::(Z4j t0 x1)) ?_);refine Y2 ?_;exact⟨(Z4p t0 t1)==5,H,(StC.mk (phi [(6,some 6)]) (.o rfl (.i2 .nil) .nil) rfl (.i2 (.cons (.r rfl) (.cons .im .nil))))⟩
  intro v26 H;unfold Y11 at H;change AW _ _ _ [(Z4n t0),(Z4m x1),Z4o,(33,.bool v26)] (Z4e t0 t1) _;refine Y9 (b:=v26) H rfl (fun c27 H=> ?_) (fun c27 H=> ?_)
  ·refine Y0 (OpsW.buildTI (enc:=eS) [Z4u,Z4u,(⟨#[43]⟩:ByteArray),(⟨#[45]⟩:ByteArray),(⟨#[42]⟩:ByteArray),(⟨#[61]⟩:ByteArray)] rfl rfl rfl E89 (fun _=>rfl) (by decide) ⟨trivial,by kernel_rfl,by kernel_rfl,by kernel_rfl,rfl⟩ ?_);have⟨g28,H⟩:=Yq H;refine OpsW.sz 3 [41,0,5] ((41,.ipt ([Z4u,Z4u,(⟨#[43]⟩:ByteArray),(⟨#[45]⟩:ByteArray),(⟨#[42]⟩:ByteArray),(⟨#[61]⟩:ByteArray)].flatMap eS) ((Z4p t0 t1).toNat*1))::(Z4i t0 x1)) ⟨g28,trivial⟩ (OpsW.asU (.string (Z4k t0 t1)) rfl rfl (T.load rfl trivial (by kernel_rfl) (fm_cell0 eS 1 (fun _=>rfl) [Z4u,Z4u,(⟨#[43]⟩:ByteArray),(⟨#[45]⟩:ByteArray),(⟨#[42]⟩:ByteArray),(⟨#[61]⟩:ByteArray)] ByteArray.empty (Z4p t0 t1).toNat (ltN g28) (fun a=>.val (.string a)) (fun _=>rfl))) (OpsW.sg 1 [7,0,5] ((7,.string (Z4k t0 t1))::(Z4i t0 x1)) ?_));refine Y2 (Y31 Tryd.checked.mixed (by kernel_rfl) ?_);have⟨g29,H⟩:=Yq H;refine QOps.sz (N:=104) 3 ((Z4r x1)::(44,slA (eI .i64) x1)::(43,slA Y3 t0)::(7,.string (Z4k t0 t1))::(Z4i t0 x1)) ⟨g29,trivial⟩ (QOps.asU (.j (Z4v x1)) rfl (T.load rfl trivial (by kernel_rfl) (fm_cell0 (eI .i64) 1 (fun _=>rfl) x1 (0:Int) (0:Int).toNat (ltN g29) (fun a=>.val (.j a)) (fun _=>rfl))) ?_);have⟨x30,hx30,H⟩:=Y19 H;refine QOps.qcall rfl (by kernel_rfl) rfl (Yg trivial) (.cons (.pur rfl) (.cons (.pur rfl) .nil)) (hrec_f_R09_text _ _ _ hx30) rfl ?_;have⟨g31,H⟩:=Yq H;have⟨g32,H⟩:=Yq H
   refine QOps.sz (N:=104) 5 ((52,.ipt (x1.flatMap (eI .i64)) ((1:Int).toNat*1))::(51,slA (eI .i64) x1)::(50,slA Y3 t0)::(49,.string (x30++(Z4k t0 t1)))::(48,.string (Z4k t0 t1))::(47,.string x30)::(46,.j (Z4v x1))::(Z4r x1)::(44,slA (eI .i64) x1)::(43,slA Y3 t0)::(7,.string (Z4k t0 t1))::(Z4i t0 x1)) ⟨g31,g32,trivial⟩ (QOps.asU (.j (x1.getD (1:Int).toNat (0:Int))) rfl (T.load rfl trivial (by kernel_rfl) (fm_cell0 (eI .i64) 1 (fun _=>rfl) x1 (0:Int) (1:Int).toNat (ltN g32) (fun a=>.val (.j a)) (fun _=>rfl))) ?_);have⟨x33,hx33,H⟩:=Y19 H;refine QOps.qcall rfl (by kernel_rfl) rfl (Yg trivial) (.cons (.pur rfl) (.cons (.pur rfl) .nil)) (hrec_f_R09_text _ _ _ hx33) rfl ?_;have⟨g34,H⟩:=Yq H;refine QOps.sz (N:=104) 2 ((4,.string ((x30++(Z4k t0 t1))++x33))::(55,.string ((x30++(Z4k t0 t1))++x33))::(54,.string x33)::(53,.j (x1.getD (1:Int).toNat (0:Int)))::(52,.ipt (x1.flatMap (eI .i64)) ((1:Int).toNat*1))::(51,slA (eI .i64) x1)::(50,slA Y3 t0)::(49,.string (x30++(Z4k t0 t1)))::(48,.string (Z4k t0 t1))::(47,.string x30)::(46,.j (Z4v x1))::(Z4r x1)::(44,slA (eI .i64) x1)::(43,slA Y3 t0)::(7,.string (Z4k t0 t1))::(Z4i t0 x1)) ⟨g34,trivial⟩ ?_;refine QOps.nil (AW.trim [4] [(4,.string ((x30++(Z4k t0 t1))++x33))] (by kernel_rfl) ?_);obtain rfl:=X5 H
   refine AW.recast (env':=[(4,.string ((x30++(Z4k t0 t1))++x33))]) (h':=[]) (StC.pure (.cons .im .nil)) (Yv ?_)
   try simp only[Ex.t,Ex.b]
   exact Done.eq rfl (.tmp .nil)
  refine Yh ?_;exact⟨(),H,(StC.mk (phi [(6,some 6)]) (.o rfl (.i2 .nil) .nil) rfl (.i2 (.cons (.r rfl) .nil)))⟩
 rintro⟨⟩ H;unfold Y3q at H;change AW _ _ _ (Z4g t0 x1) (Z4e t0 t1) _;refine Y0 (OpsW.sg 2 [57,0,5,6] ((57,.j (Z4p t0 t1))::(Z4g t0 x1)) ?_);have⟨x3,hx3,H⟩:=Y19 H;refine Y1t rfl (.cons (.pur rfl) .nil) (f_R09_name_ok hx3) ?_;have⟨g4,H⟩:=Yq H;refine OpsW.sz 2 [8,0,5,6] ((8,.string (x3++(⟨#[40]⟩:ByteArray)))::(Z4g t0 x1)) ⟨g4,trivial⟩<|Y2 (Y0d (Y0 (OpsW.sg 1 [9,8,0,5,6] ((9,.j (0:Int))::(8,.string (x3++(⟨#[40]⟩:ByteArray)))::(Z4g t0 x1)) ?_)));refine Y2 (Y0e ?_);refine Y56 (fun loop (s:ByteArray×Int)=>Y2y rec_f_R09_text t0 t1 x1 loop s.1 s.2) r (fun(s:ByteArray×Int)=>[(Z4n t0),(Z4m x1),Z4o,(8,.string s.1),(9,.j s.2)]) (fun(s:ByteArray×Int)=>(Z4e t0 t1)) ?_ 1000000 (x3++(⟨#[40]⟩:ByteArray),(0:Int)) H (StC.mk (phi [(6,some 6)]) (.o rfl (.i2 .nil) .nil) rfl (.i2 (.cons (.r rfl) (.i2 .nil))));intro loop7 s H;obtain⟨v5,v6⟩:=s;unfold Y2y at H;change AW _ _ _ [(Z4n t0),(Z4m x1),Z4o,(8,.string v5),(9,.j v6)] (Z4e t0 t1) _;refine Y0d (Y0 (OpsW.sg 4 [63,0,5,6,8,9] [(63,.bool (decide (v6<(x1.length:Int)))),(Z4n t0),(Z4m x1),Z4o,(8,.string v5),(9,.j v6)] ?_));refine Y2 (Y9 (b:=decide (v6<(x1.length:Int))) H rfl (fun c8 H=> ?_) (fun c8 H=> ?_))
 ·refine Yh<|Y1w (fun(y:ByteArray)=>Y4u loop7 v6 y) r (fun(y:ByteArray)=>[(Z4n t0),(Z4m x1),Z4o,(8,.string y),(9,.j v6)]) (fun(y:ByteArray)=>(Z4e t0 t1)) ?_ ?_
  ·refine Y0e<|Y1w (fun(y:ByteArray)=>Y2x rec_f_R09_text t0 x1 loop7 v6 y) r (fun(y:ByteArray)=>[(Z4n t0),(Z4m x1),Z4o,(8,.string y),(9,.j v6)]) (fun(y:ByteArray)=>(Z4e t0 t1)) ?_ ?_
   ·refine Y0 (OpsW.sg 2 [67,0,5,6,8,9] [(67,.bool (decide (0<v6))),(Z4n t0),(Z4m x1),Z4o,(8,.string v5),(9,.j v6)] ?_);refine Y2 (Y9 (b:=decide (0<v6)) H rfl (fun c15 H=> ?_) (fun c15 H=> ?_))
    ·refine Y0 (OpsW.sg 1 [10,0,5,6,8,9] [(10,.string (⟨#[44]⟩:ByteArray)),(Z4n t0),(Z4m x1),Z4o,(8,.string v5),(9,.j v6)] ?_);refine Y2<|Y1w (fun(y:ByteArray)=>Y2w rec_f_R09_text t0 x1 loop7 v5 v6 y) r (fun(y:ByteArray)=>[(Z4n t0),(Z4m x1),Z4o,(8,.string v5),(9,.j v6),(10,.string y)]) (fun(y:ByteArray)=>(Z4e t0 t1)) ?_ ?_
     ·refine Y0 ?_;have⟨g18,H⟩:=Yq H;have⟨g19,H⟩:=Yq H;refine OpsW.sz 23 [90,10,0,5,6,8,9] [(90,.bool (cond (cond ((Z4p t0 t1)==12) (v6==((x1.length:Int)-1)) false) true (Z4t t0 t1 v6))),(10,.string (⟨#[44]⟩:ByteArray)),(Z4n t0),(Z4m x1),Z4o,(8,.string v5),(9,.j v6)] ⟨(fun h=>h),(fun h=>h),g18,(fun h=>h),(fun h=>h),(fun h=>by first|exact h|(simpa using h)|grind),(fun h=>h),(fun h=>h),(fun h=>h),(fun h=>h),(fun h=>h),(fun _=>by decide),(fun h=>h),(fun h=>h),g19,(fun h=>h),(fun h=>h),(fun h0 h=>by first|exact h|(simp[h0,h];done)|(simp at h0 h⊢;simp[h0,h];done)|(simp_all;done)|grind),(fun h=>by first|exact h|(simpa using h)|grind),trivial⟩ (Y2 (Y9 (b:=cond (cond ((Z4p t0 t1)==12) (v6==((x1.length:Int)-1)) false) true (Z4t t0 t1 v6)) H rfl (fun c20 H=> ?_) (fun c20 H=> ?_)))
      ·refine Yw (OpsW.sg 1 [10,0,5,6,8,9] [(10,.string (⟨#[59]⟩:ByteArray)),(Z4n t0),(Z4m x1),Z4o,(8,.string v5),(9,.j v6)] ?_);refine Y2 ?_;exact⟨(⟨#[59]⟩:ByteArray),H,(StC.mk (phi [(6,some 6)]) (.o rfl (.i2 .nil) .nil) rfl (.i2 (.cons (.r rfl) (.i3 .nil))))⟩
      refine Yh ?_;exact⟨(⟨#[44]⟩:ByteArray),H,(StC.mk (phi [(6,some 6)]) (.o rfl (.i2 .nil) .nil) rfl (.i2 (.cons (.r rfl) (.i3 .nil))))⟩
     intro v16 H;unfold Y2w at H;change AW _ _ _ [(Z4n t0),(Z4m x1),Z4o,(8,.string v5),(9,.j v6),(10,.string v16)] (Z4e t0 t1) _;refine Yw ?_;have⟨g17,H⟩:=Yq H;refine OpsW.sz 4 [8,0,5,6,9] [(8,.string (v5++v16)),(Z4n t0),(Z4m x1),Z4o,(9,.j v6)] ⟨g17,trivial⟩ (Y2 ?_);exact⟨v5++v16,H,(StC.mk (phi [(6,some 6)]) (.o rfl (.i2 .nil) .nil) rfl (.i2 (.cons (.r rfl) (.i2 .nil))))⟩
    refine Yh ?_;exact⟨v5,H,(StC.mk (phi [(6,some 6)]) (.o rfl (.i2 .nil) .nil) rfl (.i2 (.cons (.r rfl) (.i2 .nil))))⟩
   intro v11 H;unfold Y2x at H;change AW _ _ _ [(Z4n t0),(Z4m x1),Z4o,(8,.string v11),(9,.j v6)] (Z4e t0 t1) _;refine Yw ?_;have⟨g12,H⟩:=Yq H;refine OpsW.sz 5 [98,95,94,0,5,6,8,9] [(98,.ipt (x1.flatMap (eI .i64)) (v6.toNat*1)),(95,slA Y3 t0),(94,.string v11),(Z4n t0),(Z4m x1),Z4o,(8,.string v11),(9,.j v6)] ⟨g12,trivial⟩ (OpsW.asU (.j (x1.getD v6.toNat 0)) rfl rfl (T.load rfl trivial (by kernel_rfl) (fm_cell0 (eI .i64) 1 (fun _=>rfl) x1 (0:Int) v6.toNat (ltN g12) (fun a=>.val (.j a)) (fun _=>rfl))) ?_);have⟨x13,hx13,H⟩:=Y19 H;refine Y1t rfl (.cons (.pur rfl) (.cons (.pur rfl) .nil)) (hrec_f_R09_text _ _ _ hx13) ?_;have⟨g14,H⟩:=Yq H;refine OpsW.sz 2 [8,0,5,6,9] [(8,.string (v11++x13)),(Z4n t0),(Z4m x1),Z4o,(9,.j v6)] ⟨g14,trivial⟩ (Y2 ?_);exact⟨v11++x13,H,(StC.mk (phi [(6,some 6)]) (.o rfl (.i2 .nil) .nil) rfl (.i2 (.cons (.r rfl) (.i2 .nil))))⟩
  intro v9 H;unfold Y4u at H;change AW _ _ _ [(Z4n t0),(Z4m x1),Z4o,(8,.string v9),(9,.j v6)] (Z4e t0 t1) _;refine Yw ?_;have⟨g10,H⟩:=Yq H;refine OpsW.sz 3 [9,0,5,6,8] [(9,.j (v6+1)),(Z4n t0),(Z4m x1),Z4o,(8,.string v9)] ⟨g10,trivial⟩ (Y2 ?_);exact⟨(v9,v6+1),H,(StC.mk (phi [(6,some 6)]) (.o rfl (.i2 .nil) .nil) rfl (.i2 (.cons (.r rfl) (.i2 .nil))))⟩
 refine AW.exit (Y0 ?_);have⟨g21,H⟩:=Yq H;refine OpsW.sz 3 [4] [(4,.string (v5++(⟨#[41]⟩:ByteArray)))] ⟨g21,trivial⟩ (Y2 ?_);obtain rfl:=X5 H;refine AW.recast (env':=[(4,.string (v5++(⟨#[41]⟩:ByteArray)))]) (h':=[]) (StC.pure (.cons .im .nil)) (Yv ?_)
 try simp only[Ex.t,Ex.b]
 exact Done.eq rfl (.tmp .nil)
def Y2i:Nat→(List Y4)→Int→Option ByteArray
 |0,_,_=>none
 |n+1,t0,t1=>f_R09_text_body (Y2i n) t0 t1
theorem f_R09_text_all:∀n:Nat,(∀(t0:List Y4) (t1:Int) (r:ByteArray),Y2i n t0 t1=some r→QSpec Tryd.prog 48 [slA Y3 t0,.int .i64 t1] (.string r))∧True
 |0=>by
  refine⟨?_,trivial⟩
  ·intro t0 t1 r H;rw[Y2i] at H;cases H
 |n+1=>by
  have ih:=f_R09_text_all n;refine⟨?_,trivial⟩
  ·intro t0 t1 r H;rw[Y2i] at H;exact f_R09_text_body_ok ih.1 H
def f_R09_text (t0:List Y4) (t1:Int):Option ByteArray:=Y2i 1000000 t0 t1
theorem f_R09_text_ok{t0:List Y4}{t1:Int}{r:ByteArray}(H:f_R09_text t0 t1=some r):QSpec Tryd.prog 48 [slA Y3 t0,.int .i64 t1] (.string r):=
 (f_R09_text_all 1000000).1 t0 t1 r H
def f_R09_Text (t0:List Y4):Option ByteArray:=
 (f_R09_text t0 (0:Int)).bind fun x1=>
 some x1
theorem f_R09_Text_ok{t0:List Y4}{r:ByteArray}(H:f_R09_Text t0=some r):QSpec Tryd.prog 30 [slA Y3 t0] (.string r):=by
 refine Y01 Tryd.func30 rfl (by simp[Tryd.ntmps30]) ?_;rw[Tryd.ntmps30];unfold f_R09_Text at H;change AW _ _ _ [(0,slA Y3 t0)] [] _;refine Y0 (OpsW.sg 1 [0] [(0,slA Y3 t0)] ?_);refine Y2 (Y0 (OpsW.sg 1 [3] [(3,slA Y3 t0)] ?_));have⟨x1,hx1,H⟩:=Y19 H;refine Y1t rfl (.cons (.pur rfl) (.cons (.pur rfl) .nil)) (f_R09_text_ok hx1) (OpsW.sg 1 [2] [(2,.string x1)] (Y2 ?_));obtain rfl:=X5 H;refine AW.recast (env':=[(2,.string x1)]) (h':=[]) (StC.pure (.cons .im .nil)) (Yv ?_)
 try simp only[Ex.t,Ex.b]
 exact Done.eq rfl (.tmp .nil)
def Y5d (t0:List Y4):Option ByteArray:=
 (Y3f t0).bind fun x1=>
 cond (!x1) (
  some (⟨#[]⟩:ByteArray)) (
  (f_R09_Text t0).bind fun x3=>
  some x3)
theorem f_R09_Print_ok{t0:List Y4}{r:ByteArray}(H:Y5d t0=some r):QSpec Tryd.prog 15 [slA Y3 t0] (.string r):=by
 refine Y01 Tryd.func15 rfl (by simp[Tryd.ntmps15]) ?_;rw[Tryd.ntmps15];unfold Y5d at H;change AW _ _ _ [(0,slA Y3 t0)] [] _;refine Y0 (OpsW.sg 1 [0] [(0,slA Y3 t0)] ?_);refine Y2 (Y0d (Y0 (OpsW.sg 1 [3,0] [(3,slA Y3 t0),(0,slA Y3 t0)] ?_)));have⟨x1,hx1,H⟩:=Y19 H;refine Y1t rfl (.cons (.pur rfl) .nil) (f_R09_Valid_ok hx1) (OpsW.sg 1 [5,0] [(5,.bool (!x1)),(0,slA Y3 t0)] (Y2 (Y9 (b:= !x1) H rfl (fun c2 H=> ?_) (fun c2 H=> ?_))))
 ·refine Y0 (OpsW.sg 1 [2] [(2,.string (⟨#[]⟩:ByteArray))] ?_);refine Y2 ?_;obtain rfl:=X5 H;refine AW.recast (env':=[(2,.string (⟨#[]⟩:ByteArray))]) (h':=[]) (StC.pure (.cons .im .nil)) (Yv ?_)
  try simp only[Ex.t,Ex.b]
  exact Done.eq rfl (.tmp .nil)
 refine Yh (Y0 (OpsW.sg 1 [6] [(6,slA Y3 t0)] ?_));have⟨x3,hx3,H⟩:=Y19 H;refine Y1t rfl (.cons (.pur rfl) .nil) (f_R09_Text_ok hx3) (OpsW.sg 1 [2] [(2,.string x3)] (Y2 ?_));obtain rfl:=X5 H;refine AW.recast (env':=[(2,.string x3)]) (h':=[]) (StC.pure (.cons .im .nil)) (Yv ?_)
 try simp only[Ex.t,Ex.b]
 exact Done.eq rfl (.tmp .nil)
def Y25 (t0:List Y4) (t1:List Int) (t2:Y4) (x1:Bool) (x3:List Y4) (loop8:(Int)→Option Bool) (v7:Int):Option Bool:=
 cond (decide (v7<2)) (
  G (0≤v7∧v7<2)<|
  G ([t0,(([]:List Y4)++x3).set (Int.tmod (t1.length:Int) (((([]:List Y4)++x3).length:Nat):Int)).toNat t2].length=2)<|
  (Y1z ([t0,(([]:List Y4)++x3).set (Int.tmod (t1.length:Int) (((([]:List Y4)++x3).length:Nat):Int)).toNat t2].getD v7.toNat [])).bind fun x12=>
  (Y3f ([t0,(([]:List Y4)++x3).set (Int.tmod (t1.length:Int) (((([]:List Y4)++x3).length:Nat):Int)).toNat t2].getD v7.toNat [])).bind fun x13=>
  (cond (!(x12 !=x13)) (Y3d ([t0,(([]:List Y4)++x3).set (Int.tmod (t1.length:Int) (((([]:List Y4)++x3).length:Nat):Int)).toNat t2].getD v7.toNat [])) (some ByteArray.empty)).bind fun x14=>
  (cond (!(x12 !=x13)) (Y5d ([t0,(([]:List Y4)++x3).set (Int.tmod (t1.length:Int) (((([]:List Y4)++x3).length:Nat):Int)).toNat t2].getD v7.toNat [])) (some ByteArray.empty)).bind fun x15=>
  cond (cond (x12 !=x13) true (!(x14.toList==x15.toList))) (
   some false) (
   G (inR (v7+1))<|
   loop8 (v7+1))) (
  some x1)
def Y4v (t0:List Y4) (t1:List Int) (t2:Y4):Option Bool:=
 (f_L09_sanity).bind fun x1=>
 cond (decide ((100:Int)<(t0.length:Int))) (
  some x1) (
  (f_R09_Made t1).bind fun x3=>
  G (room 16 (([]:List Y4).length+x3.length))<|
  G ((((([]:List Y4)++x3).length:Nat):Int)≠0)<|
  G (0≤(Int.tmod (t1.length:Int) (((([]:List Y4)++x3).length:Nat):Int))∧(Int.tmod (t1.length:Int) (((([]:List Y4)++x3).length:Nat):Int))<((([]:List Y4)++x3).length:Int))<|
  iter (fun loop (s:Int)=>Y25 t0 t1 t2 x1 x3 loop s) 1000000 (0:Int))
section
variable (t0:List Y4) (t1:List Int) (t2:Y4) (v7:Int) (x1:Bool) (x3:List Y4) (x12:Bool) (x13:Bool) (x14:ByteArray)
abbrev Z53:=(Int.tmod (t1.length:Int) (((([]:List Y4)++x3).length:Nat):Int))
abbrev Z54:=(([]:List Y4)++x3)
abbrev Z55:=[t0,(Z54 x3).set (Z53 t1 x3).toNat t2].getD v7.toNat []
abbrev Z56:=(Z54 x3).set (Z53 t1 x3).toNat t2
abbrev Z57:Nat×AV:=(9,.ref 9 0 0)
abbrev Z58:=0+v7.toNat*1
abbrev Z59:=slA Y3 (Z55 t0 t1 t2 v7 x3)
abbrev Z5a:Nat×AV:=(26,.agg [.j t2.Op,.j t2.N])
abbrev Z4w:Env:=[(46,.cnd (!(x12 !=x13)) (.ref 9 0 (Z58 v7))),(45,.cnd (!(x12 !=x13)) (.j v7)),(44,.bool (x12 !=x13)),(43,.bool (x12 !=x13)),(42,.bool x13),(41,slA Y3 (Z55 t0 t1 t2 v7 x3)),(40,.ref 9 0 (Z58 v7)),(39,.j v7),(38,.bool x12),(37,slA Y3 (Z55 t0 t1 t2 v7 x3)),(36,.ref 9 0 (Z58 v7)),(35,.j v7),(32,.bool (decide (v7<2))),(7,.bool x1),Z57,(10,.j v7)]
abbrev Z4x:Hp:=[(9,⟨0,true,29,2,([t0,(Z54 x3).set (Z53 t1 x3).toNat t2].flatMap (eL Y3)).map .im⟩)]
abbrev Z4y:Env:=(50,.cnd (!(x12 !=x13)) (.ref 9 0 (Z58 v7)))::(49,.cnd (!(x12 !=x13)) (.j v7))::(48,.cnd (!(x12 !=x13)) (.string x14))::(47,.cnd (!(x12 !=x13)) (Z59 t0 t1 t2 v7 x3))::(Z4w t0 t1 t2 v7 x1 x3 x12 x13)
abbrev Z4z:Env:=[(7,.bool x1),(5,.ref 5 0 0),(0,slA Y3 t0),(1,sU t1)]
abbrev Z50:Env:=[(8,.rsl 8 0 0 ((Z56 t1 t2 x3).length)),(7,.bool x1),(0,slA Y3 t0)]
abbrev Z51:Env:=[(32,.bool (decide (v7<2))),(7,.bool x1),Z57,(10,.j v7)]
abbrev Z52:Env:=[(8,.rsl 8 0 0 ((Z54 x3).length)),(7,.bool x1),(0,slA Y3 t0)]
end
theorem f_L09_FormulaValid_ok{t0:List Y4}{t1:List Int}{t2:Y4}{r:Bool}(H:Y4v t0 t1 t2=some r):QSpec Tryd.prog 3 [slA Y3 t0,slA (eI .u8) t1,.agg [.int .i64 t2.Op,.int .i64 t2.N]] (.bool r):=by
 refine Y01 Tryd.func3 rfl (by simp[Tryd.ntmps3]) ?_;rw[Tryd.ntmps3];unfold Y4v at H;change AW _ _ _ [(0,slA Y3 t0),(1,sU t1),(2,.agg [.j t2.Op,.j t2.N])] [] _;refine Y0 (OpsW.box rfl rfl rfl 5 rfl (Y07 (by kernel_rfl)) ?_);change OpsW _ _ _ _ _ [(5,⟨0,true,26,2,[.j t2.Op,.j t2.N]⟩)] _;refine OpsW.sg 1 [5,0,1] [(5,.ref 5 0 0),(0,slA Y3 t0),(1,sU t1)]<|Y2 (Y0 ?_);have⟨x1,hx1,H⟩:=Y19 H;refine Y1t rfl .nil (f_L09_sanity_ok hx1) (OpsW.sg 1 [7,5,0,1] (Z4z t0 t1 x1) ?_);refine Y2 (Y0d (Y0 (OpsW.sg 3 [14,7,5,0,1] ((14,.bool (decide ((100:Int)<(t0.length:Int))))::(Z4z t0 t1 x1)) ?_)));refine Y2 (Y9 (b:=decide ((100:Int)<(t0.length:Int))) H rfl (fun c2 H=> ?_) (fun c2 H=> ?_))
 ·refine Y0 (OpsW.sg 2 [6] [(6,.bool x1)] ?_);refine Y2 ?_;obtain rfl:=X5 H;refine AW.recast (env':=[(6,.bool x1)]) (h':=[]) (StC.pure (.cons .im .nil)) (Yv ?_)
  try simp only[Ex.t,Ex.b]
  exact Done.eq rfl (.tmp .nil)
 refine Yh (Y0 (OpsW.buildT (enc:=Y3) ([]:List Y4) rfl rfl rfl 16 rfl E23 (fun _=>rfl) (by decide) trivial (by kernel_rfl) (by kernel_rfl) (by kernel_rfl) rfl ?_));refine OpsW.sg 1 [17,16,7,5,0,1] ((17,sU t1)::(16,.rsl 16 0 0 (([]:List Y4).length))::(Z4z t0 t1 x1)) ?_;have⟨x3,hx3,H⟩:=Y19 H;refine Y1t rfl (.cons (.pur rfl) .nil) (f_R09_Made_ok hx3) ?_;have⟨g4,H⟩:=Yq H;refine Y5j (enc:=Y3) (ys:=x3) rfl rfl rfl E23 (fun _=>rfl) rfl rfl trivial (Y5i (enc:=Y3) (fun _=>rfl) (by kernel_rfl) x3) rfl g4 (OpsW.sg 1 [8,7,5,0,1] ((8,.rsl 16 1 0 ((Z54 x3).length))::(Z4z t0 t1 x1)) (OpsW.rc ((8,.rsl 8 0 0 ((Z54 x3).length))::(Z4z t0 t1 x1)) [(5,⟨0,true,26,2,[.j t2.Op,.j t2.N]⟩),(8,rtA 0 26 2 Y3 (Z54 x3))] (StC.mk (phi [(5,some 5),(8,some 16)]) (.o rfl (.i2 .nil) (.o rfl (CstL.ims _) .nil)) rfl (.cons (.s rfl) (.cons .im (.cons (.r rfl) (.i2 .nil))))) ?_));refine Y2 (AW.drawTSeq 7 Tryd.checked.mixed (by kernel_rfl) ?_);have⟨g5,H⟩:=Yq H;refine QOps.sz (N:=56) 7 ((Z5a t2)::(25,.j (Z53 t1 x3))::(24,.j (((Z54 x3).length:Nat):Int))::(23,.rsl 8 0 0 ((Z54 x3).length))::(22,.j (t1.length:Int))::(21,sU t1)::(20,.rsl 8 0 0 ((Z54 x3).length))::(8,.rsl 8 0 0 ((Z54 x3).length))::(Z4z t0 t1 x1)) ⟨g5,trivial⟩<|QOps.nil (OpsW.sg 0 [26,25,20,8,7,0] ((Z5a t2)::(25,.j (Z53 t1 x3))::(20,.rsl 8 0 0 ((Z54 x3).length))::(Z52 t0 x1 x3)) ?_);have⟨g6,H⟩:=Yq H
 refine OpsW.sz 1 [27,26,8,7,0] ((27,.ref 8 0 (0+(Z53 t1 x3).toNat*2))::(Z5a t2)::(Z52 t0 x1 x3)) ⟨g6,trivial⟩ (OpsW.storeT (enc:=Y3) (k:=2) Ye t2 [.val (.j t2.Op),.val (.j t2.N)] (Z53 t1 x3).toNat 0 rfl rfl rfl (by exact congrArg (AV.ref 8 0) (by first|omega|rfl|(simp;omega))) trivial trivial rfl (fun _=>rfl) rfl (by kernel_rfl) (Y07 (by kernel_rfl)) (ltN g6) (X9 (by kernel_rfl)) rfl (OpsW.weaken ((27,.ref 8 0 (0+(Z53 t1 x3).toNat*2))::(Z5a t2)::(Z50 t0 t1 t2 x1 x3)) (Env.le_of_eq (by first|(simp only[List.length_set,List.length_reverse];done)|(simp only[Z53,Z54,Z56,Z5a,Z4z,Z50,Z52];simp only[List.length_set,List.length_reverse]))) (OpsW.sg 0 [8,7,0] (Z50 t0 t1 t2 x1 x3) (OpsW.rc [(8,slA Y3 (Z56 t1 t2 x3)),(7,.bool x1),(0,slA Y3 t0)] [] (StC.mk (phi []) .nil rfl (.cons (.frz rfl rfl rfl (frz_all Y3 2 (fun _=>rfl) (Z56 t1 t2 x3)) (Y16 Y3 2 (fun _=>rfl) (Z56 t1 t2 x3)) (phi_ne rfl)) (.i2 .nil))) ?_))));refine Y2 (Y0 (OpsW.sg 3 [30,7] [(30,.agg [slA Y3 t0,slA Y3 (Z56 t1 t2 x3)]),(7,.bool x1)] ?_));refine OpsW.alloc' rfl rfl rfl 9 rfl (by kernel_rfl:zc Tryd.prog 29=some [.slice none 0 0,.slice none 0 0]) (by kernel_rfl) (Y30 rfl rfl rfl rfl trivial trivial rfl rfl rfl (by kernel_rfl) (Y07 (by kernel_rfl)) (X9 (by kernel_rfl)) ?_)
 change OpsW _ _ _ _ _ [(9,⟨0,true,29,2,([t0,(Z54 x3).set (Z53 t1 x3).toNat t2].flatMap (eL Y3)).map .im⟩),(9,⟨0,true,29,2,[.im (.val (.slice none 0 0)),.im (.val (.slice none 0 0))]⟩)] _;refine OpsW.sg 0 [9,7] [Z57,(7,.bool x1)] (OpsW.rc [Z57,(7,.bool x1)] (Z4x t0 t1 t2 x3) (StC.mk (phi [(9,some 9)]) (.o rfl (CstL.ims _) .nil) rfl (.cons (.r rfl) (.cons .im .nil))) ?_);refine Y2 (Y0d (Y0 (OpsW.sg 1 [10,9,7] [(10,.j (0:Int)),Z57,(7,.bool x1)] ?_)));refine Y2 (Y0e ?_);refine Y56 (fun loop (s:Int)=>Y25 t0 t1 t2 x1 x3 loop s) r (fun(s:Int)=>[(7,.bool x1),Z57,(10,.j s)]) (fun(s:Int)=>(Z4x t0 t1 t2 x3)) ?_ 1000000 (0:Int) H (StC.mk (phi [(9,some 9)]) (.o rfl (CstL.ims _) .nil) rfl (.cons .im (.cons (.r rfl) (.cons .im .nil))));intro loop8 v7 H;unfold Y25 at H;change AW _ _ _ [(7,.bool x1),Z57,(10,.j v7)] (Z4x t0 t1 t2 x3) _;refine Y0d (Y0 (OpsW.sg 2 [32,7,9,10] (Z51 v7 x1) ?_));refine Y2 (Y9 (b:=decide (v7<2)) H rfl (fun c9 H=> ?_) (fun c9 H=> ?_))
 ·refine Yh (Y0d (Y0e (Y31 Tryd.checked.mixed (by kernel_rfl) ?_)));have⟨g10,H⟩:=Yq H;refine QOps.sz (N:=56) 2 ((36,.ref 9 0 (Z58 v7))::(35,.j v7)::(Z51 v7 x1)) ⟨g10,trivial⟩ ?_;have⟨g11,H⟩:=Yq H;refine QOps.asU (Z59 t0 t1 t2 v7 x3) rfl (T.loadR rfl trivial (by kernel_rfl) rfl rfl rfl (rt_cell (eL Y3) 1 (fun _=>rfl) [t0,(Z54 x3).set (Z53 t1 x3).toNat t2] [] v7.toNat (ltA (n:=2) g10 g11) 0 (fun a=>.sl (a.flatMap Y3) a.length) (fun _=>rfl) (by first|omega|(simp only[Z53,Z54,Z55,Z58,Z59];omega)))) ?_;have⟨x12,hx12,H⟩:=Y19 H;refine QOps.qcall rfl (by kernel_rfl) rfl (Yg trivial) (.cons (.pur rfl) .nil) (f_formula_Valid_ok hx12) rfl (QOps.sz (N:=56) 2 ((40,.ref 9 0 (Z58 v7))::(39,.j v7)::(38,.bool x12)::(37,slA Y3 (Z55 t0 t1 t2 v7 x3))::(36,.ref 9 0 (Z58 v7))::(35,.j v7)::(Z51 v7 x1)) ⟨g10,trivial⟩ (QOps.asU (Z59 t0 t1 t2 v7 x3) rfl (T.loadR rfl trivial (by kernel_rfl) rfl rfl rfl (rt_cell (eL Y3) 1 (fun _=>rfl) [t0,(Z54 x3).set (Z53 t1 x3).toNat t2] [] v7.toNat (ltA (n:=2) g10 g11) 0 (fun a=>.sl (a.flatMap Y3) a.length) (fun _=>rfl) (by first|omega|(simp only[Z53,Z54,Z55,Z58,Z59];omega)))) ?_));have⟨x13,hx13,H⟩:=Y19 H
  refine QOps.qcall rfl (by kernel_rfl) rfl (Yg trivial) (.cons (.pur rfl) .nil) (f_R09_Valid_ok hx13) rfl (QOps.sz (N:=56) 4 (Z4w t0 t1 t2 v7 x1 x3 x12 x13) ⟨(fun h=>h),(fun _=>g10),trivial⟩ (QOps.asG (c:= !(x12 !=x13)) (Z59 t0 t1 t2 v7 x3) rfl rfl rfl (fun hc=>T.loadR rfl hc (by kernel_rfl) rfl rfl rfl (rt_cell (eL Y3) 1 (fun _=>rfl) [t0,(Z54 x3).set (Z53 t1 x3).toNat t2] [] v7.toNat (ltA (n:=2) g10 ((fun _=>g11) hc)) 0 (fun a=>.sl (a.flatMap Y3) a.length) (fun _=>rfl) (by first|omega|(simp only[Z53,Z54,Z55,Z58,Z59];omega)))) ?_));have⟨x14,hx14,H⟩:=Y19 H;refine QOps.gcall (c:= !(x12 !=x13)) (r:=.string x14) [] rfl (by kernel_rfl) rfl rfl rfl (fun hc=>⟨Yg ⟨hc,trivial⟩,(.cons (.pur rfl) .nil),f_formula_Print_ok (condT hc hx14),.inl ⟨rfl,rfl⟩⟩) (QOps.sz (N:=56) 2 (Z4y t0 t1 t2 v7 x1 x3 x12 x13 x14) ⟨(fun h=>h),(fun _=>g10),trivial⟩ (QOps.asG (c:= !(x12 !=x13)) (Z59 t0 t1 t2 v7 x3) rfl rfl rfl (fun hc=>T.loadR rfl hc (by kernel_rfl) rfl rfl rfl (rt_cell (eL Y3) 1 (fun _=>rfl) [t0,(Z54 x3).set (Z53 t1 x3).toNat t2] [] v7.toNat (ltA (n:=2) g10 ((fun _=>g11) hc)) 0 (fun a=>.sl (a.flatMap Y3) a.length) (fun _=>rfl) (by first|omega|(simp only[Z53,Z54,Z55,Z58,Z59];omega)))) ?_));have⟨x15,hx15,H⟩:=Y19 H
  refine QOps.gcall (c:= !(x12 !=x13)) (r:=.string x15) [] rfl (by kernel_rfl) rfl rfl rfl (fun hc=>⟨Yg ⟨hc,trivial⟩,(.cons (.pur rfl) .nil),f_R09_Print_ok (condT hc hx15),.inl ⟨rfl,rfl⟩⟩) (QOps.sz (N:=56) 2 ((54,.bool (cond (x12 !=x13) true (!(x14.toList==x15.toList))))::(53,.cnd (!(x12 !=x13)) (.bool (!(x14.toList==x15.toList))))::(52,.cnd (!(x12 !=x13)) (.string x15))::(51,.cnd (!(x12 !=x13)) (Z59 t0 t1 t2 v7 x3))::(Z4y t0 t1 t2 v7 x1 x3 x12 x13 x14)) ⟨(fun h=>h),(fun h=>h),(fun h=>by first|exact h|(simpa using h)|grind),trivial⟩ ?_);refine QOps.nil (AW.trim [54,7,9,10] [(54,.bool (cond (x12 !=x13) true (!(x14.toList==x15.toList)))),(7,.bool x1),Z57,(10,.j v7)] (by kernel_rfl) ?_);refine Y9 (b:=cond (x12 !=x13) true (!(x14.toList==x15.toList))) H rfl (fun c16 H=> ?_) (fun c16 H=> ?_)
  ·refine Y0 (OpsW.sg 1 [6] [(6,.bool false)] ?_);refine Y2 ?_;obtain rfl:=X5 H;refine AW.recast (env':=[(6,.bool false)]) (h':=[]) (StC.pure (.cons .im .nil)) (Yv ?_)
   try simp only[Ex.t,Ex.b]
   exact Done.eq rfl (.tmp .nil)
  refine Yh (Yw ?_);have⟨g17,H⟩:=Yq H;refine OpsW.sz 3 [10,7,9] [(10,.j (v7+1)),(7,.bool x1),Z57] ⟨g17,trivial⟩ (Y2 ?_);exact⟨v7+1,H,(StC.mk (phi [(9,some 9)]) (.o rfl (CstL.ims _) .nil) rfl (.cons .im (.cons (.r rfl) (.cons .im .nil))))⟩
 refine AW.exit<|Y0 (OpsW.sg 2 [6] [(6,.bool x1)] ?_);refine Y2 ?_;obtain rfl:=X5 H;refine AW.recast (env':=[(6,.bool x1)]) (h':=[]) (StC.pure (.cons .im .nil)) (Yv ?_)
 try simp only[Ex.t,Ex.b]
 exact Done.eq rfl (.tmp .nil)
end Go.Proofs.YtkgfbpbndmklnaaDoor
