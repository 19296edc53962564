/- Own work. -/
import Derived.Test.YtkgfbpbndmklnaaDoorW2
set_option linter.unusedSimpArgs false
set_option linter.unusedVariables false
set_option maxRecDepth 100000
namespace Go.Proofs.YtkgfbpbndmklnaaDoor
open Go.Abs
def Y1o (loop23:(Ye×Y4×Int)→Option Ye) (v22:Int) (v25:Ye) (v26:Y4):Option Ye:=
 G (inR (v22+1))<|
 loop23 (v25,v26,v22+1)
def Y0e (rec_f_formula_printer_node:Ye→Option Ye) (loop23:(Ye×Y4×Int)→Option Ye) (v22:Int) (v28:Ye) (v29:Y4):Option Ye:=
 (rec_f_formula_printer_node v28).bind fun x30=>
 Y1o loop23 v22 x30 v29
def Y0f (rec_f_formula_printer_node:Ye→Option Ye) (x19:Int×Bool) (loop23:(Ye×Y4×Int)→Option Ye) (v20:Ye) (v21:Y4) (v22:Int):Option Ye:=
 cond (decide (v22<x19.1)) (
  cond (decide (0<v22)) (
   (Y34 v21 v22).bind fun x32=>
   G (room 1 (v20.text_.length+[x32].length))<|
   Y0e rec_f_formula_printer_node loop23 v22 (⟨v20.f_,v20.at_,v20.text_++[x32]⟩:Ye) v21) (
   Y0e rec_f_formula_printer_node loop23 v22 v20 v21)) (
  G (room 1 (v20.text_.length+1))<|
  some (⟨v20.f_,v20.at_,v20.text_++[(41:Int)]⟩:Ye))
def Yp (rec_f_formula_printer_node:Ye→Option Ye) (t0:Ye) (v9:Ye) (v10:Bool):Option Ye:=
 cond v10 (
  (rec_f_formula_printer_node v9).bind fun x12=>
  (f_formula_sign ((t0.f_.getD t0.at_.toNat Yc).Op)).bind fun x13=>
  G (room 1 (x12.text_.length+[x13].length))<|
  (rec_f_formula_printer_node (⟨x12.f_,x12.at_,x12.text_++[x13]⟩:Ye)).bind fun x15=>
  some x15) (
  (f_formula_name ((t0.f_.getD t0.at_.toNat Yc).Op)).bind fun x16=>
  G (room 1 (v9.text_.length+x16.size))<|
  G (room 1 ((v9.text_++(bytesOf x16)).length+1))<|
  (Y2i (t0.f_.getD t0.at_.toNat Yc)).bind fun x19=>
  iter (fun loop (s:Ye×Y4×Int)=>Y0f rec_f_formula_printer_node x19 loop s.1 s.2.1 s.2.2) 1000000 ((⟨v9.f_,v9.at_,(v9.text_++(bytesOf x16))++[(40:Int)]⟩:Ye),(t0.f_.getD t0.at_.toNat Yc),(0:Int)))
def Y23 (rec_f_formula_printer_node:Ye→Option Ye) (t0:Ye):Option Ye:=
 G (0≤t0.at_∧t0.at_<(t0.f_.length:Int))<|
 G (inR (t0.at_+1))<|
 cond (((t0.f_.getD t0.at_.toNat Yc).Op)==0) (
  G (0≤((t0.f_.getD t0.at_.toNat Yc).N)∧((t0.f_.getD t0.at_.toNat Yc).N)≤99999)<|
  G (room 1 (t0.text_.length+5))<|
  some (⟨t0.f_,t0.at_+1,t0.text_++decs 5 ((t0.f_.getD t0.at_.toNat Yc).N).toNat⟩:Ye)) (
  cond (((t0.f_.getD t0.at_.toNat Yc).Op)==1) (
   G (inR (97+((t0.f_.getD t0.at_.toNat Yc).N)))<|
   G (room 1 (t0.text_.length+[IntKind.wrap .u8 (97+((t0.f_.getD t0.at_.toNat Yc).N))].length))<|
   some (⟨t0.f_,t0.at_+1,t0.text_++[IntKind.wrap .u8 (97+((t0.f_.getD t0.at_.toNat Yc).N))]⟩:Ye)) (
   cond (((t0.f_.getD t0.at_.toNat Yc).Op)==2) (
    Yp rec_f_formula_printer_node t0 (⟨t0.f_,t0.at_+1,t0.text_⟩:Ye) (((t0.f_.getD t0.at_.toNat Yc).Op)==2)) (
    cond (((t0.f_.getD t0.at_.toNat Yc).Op)==3) (
     Yp rec_f_formula_printer_node t0 (⟨t0.f_,t0.at_+1,t0.text_⟩:Ye) (((t0.f_.getD t0.at_.toNat Yc).Op)==3)) (
     cond (((t0.f_.getD t0.at_.toNat Yc).Op)==4) (
      Yp rec_f_formula_printer_node t0 (⟨t0.f_,t0.at_+1,t0.text_⟩:Ye) (((t0.f_.getD t0.at_.toNat Yc).Op)==4)) (
      Yp rec_f_formula_printer_node t0 (⟨t0.f_,t0.at_+1,t0.text_⟩:Ye) (((t0.f_.getD t0.at_.toNat Yc).Op)==5))))))
section
variable (t0:Ye) (v9:Ye) (v10:Bool) (v20:Ye) (v21:Y4) (v22:Int) (v28:Ye) (v29:Y4) (x16:ByteArray) (x19:Int×Bool)
abbrev Z3v:=t0.f_.getD t0.at_.toNat Yc
abbrev Z3w:=t0.text_++[IntKind.wrap .u8 (97+((Z3v t0).N))]
abbrev Z3x:List AV:=[.j ((Z3v t0).Op),.j ((Z3v t0).N)]
abbrev Z3y:=v9.text_++(bytesOf x16)
abbrev Z3z:Nat×AV:=(0,.ref 2010 0 0)
abbrev Z40:=(⟨t0.f_,t0.at_+1,t0.text_⟩:Ye)
abbrev Z41:=(v20.text_++[(41:Int)])
abbrev Z42:Nat×AV:=(2,.ref 2 0 0)
abbrev Z43:=((Z3y v9 x16)++[(40:Int)])
abbrev Z3b:Env:=[Z3z,Z42,(50,.j x19.1),(51,.j v22)]
abbrev Z3c:Env:=[(24,.j ((Z3v t0).Op)),Z42,Z3z]
abbrev Z3d:Env:=[Z3z,Z42]
abbrev Z3e:Hp:=[(2,⟨0,true,26,2,(Z3x t0)⟩)]
abbrev Z3f:Hp:=[(2,⟨0,true,26,2,(Z3x t0)⟩),(2010,⟨0,true,54,3,[slA Y3 t0.f_,.j (t0.at_+1),.rsl 3010 0 0 t0.text_.length]⟩),(3010,rtA 0 5 1 (eI .u8) t0.text_)]
abbrev Z3g:Hp:=[(2010,⟨0,true,54,3,[slA Y3 t0.f_,.j t0.at_,.rsl 3010 0 0 t0.text_.length]⟩),(3010,rtA 0 5 1 (eI .u8) t0.text_)]
abbrev Z3h:Hp:=[(2010,⟨0,true,54,3,[slA Y3 v20.f_,.j v20.at_,.rsl 3010 0 0 v20.text_.length]⟩),(3010,rtA 0 5 1 (eI .u8) v20.text_),(2,⟨0,true,26,2,[.j v21.Op,.j v21.N]⟩)]
abbrev Z3i:Hp:=[(2,⟨0,true,26,2,(Z3x t0)⟩),(2010,⟨0,true,54,3,[slA Y3 v9.f_,.j v9.at_,.rsl 3010 0 0 ((Z3y v9 x16).length)]⟩),(3010,rtA 0 5 1 (eI .u8) (Z3y v9 x16))]
abbrev Z3j:Hp:=[(2010,⟨0,true,54,3,[slA Y3 v28.f_,.j v28.at_,.rsl 3010 0 0 v28.text_.length]⟩),(3010,rtA 0 5 1 (eI .u8) v28.text_)]
abbrev Z3k:Hp:=[(2010,⟨0,true,54,3,[slA Y3 v9.f_,.j v9.at_,.rsl 3010 0 0 v9.text_.length]⟩),(3010,rtA 0 5 1 (eI .u8) v9.text_)]
abbrev Z3l:Env:=[Z42,Z3z]
abbrev Z3m:Hp:=(2010,⟨0,true,54,3,[slA Y3 v9.f_,.j v9.at_,.rsl 3010 0 0 v9.text_.length]⟩)::(3010,rtA 0 5 1 (eI .u8) v9.text_)::(Z3e t0)
abbrev Z3n:Env:=[(10,.ref 2010 0 0),(9,slA Y3 t0.f_),(8,.ref 2010 0 0),(7,.ref 2010 0 0),(6,.ref 2010 0 0),Z3z]
abbrev Z3o:Env:=(80,.bool (((Z3v t0).Op)==0))::(Z3c t0)
abbrev Z3p:Env:=(92,.bool (((Z3v t0).Op)==1))::(Z3c t0)
abbrev Z3q:Hp:=(2,⟨0,true,26,2,(Z3x t0)⟩)::(Z3g t0)
abbrev Z3r:Hp:=[(2,⟨0,true,26,2,[.j v29.Op,.j v29.N]⟩)]
abbrev Z3s:Env:=[(26,.ref 2010 0 0),(25,.ref 2010 0 0),Z3z,Z42,(107,.bool v10)]
abbrev Z3t:Env:=(57,.ref 2010 0 0)::(56,.ref 2010 0 0)::(55,.bool (decide (0<v22)))::(5,.j v22)::(Z3b v22 x19)
abbrev Z3u:Env:=[Z3z]
end
theorem f_formula_printer_node_body_io{rec_f_formula_printer_node:Ye→Option Ye}(hrec_f_formula_printer_node:∀(t0:Ye) (r:Ye),rec_f_formula_printer_node t0=some r→Abs.Spec Tryd.prog 29 [.ref 2010 0 0] [(2010,⟨0,true,54,3,[slA Y3 t0.f_,.int .i64 t0.at_,.rsl 3010 0 0 t0.text_.length]⟩),(3010,rtA 0 5 1 (eI .u8) t0.text_)] (fun x h=>x= .tup []∧h=[(2010,⟨0,true,54,3,[slA Y3 r.f_,.int .i64 r.at_,.rsl 3010 1 0 r.text_.length]⟩),(3010,rtA 1 5 1 (eI .u8) r.text_)])){t0:Ye}{r:Ye}(H:Y23 rec_f_formula_printer_node t0=some r):Abs.Spec Tryd.prog 29 [.ref 2010 0 0] [(2010,⟨0,true,54,3,[slA Y3 t0.f_,.int .i64 t0.at_,.rsl 3010 0 0 t0.text_.length]⟩),(3010,rtA 0 5 1 (eI .u8) t0.text_)] (fun x h=>x= .tup []∧h=[(2010,⟨0,true,54,3,[slA Y3 r.f_,.int .i64 r.at_,.rsl 3010 1 0 r.text_.length]⟩),(3010,rtA 1 5 1 (eI .u8) r.text_)]):=by
 refine Yy Tryd.func29 rfl (by simp[Tryd.ntmps29]) ?_;rw[Tryd.ntmps29];unfold Y23 at H;change AW _ _ _ Z3u (Z3g t0) _;refine AW.endcast (AW.drawGSeq 11 [(10,2)] Tryd.checked.mixed (by kernel_rfl) (by kernel_rfl) ?_);refine DOps.q 10 (by kernel_rfl)<|QOps.sz (N:=128) 1 ((6,.ref 2010 0 0)::Z3u) trivial (QOps.quietU (.ref 2010 0 0) rfl (Quiet.nilCheck rfl (gpoU rfl ⟨trivial,rfl,rfl⟩)) (QOps.sz (N:=128) 3 (Z3n t0) trivial (QOps.quietU (.ref 2010 0 0) rfl (Quiet.nilCheck rfl (gpoU rfl ⟨trivial,rfl,rfl⟩)) ?_)));have⟨g1,H⟩:=Ys H;refine QOps.sz (N:=128) 3 ((14,.ipt (t0.f_.flatMap Y3) (t0.at_.toNat*2))::(13,.j t0.at_)::(12,.ref 2010 0 1)::(11,.ref 2010 0 0)::(Z3n t0)) ⟨g1,trivial⟩ (QOps.asU (.agg (Z3x t0)) rfl (Y57 (cs:=t0.f_.flatMap Y3) (off:=t0.at_.toNat*2) (ds:=Y3 (Z3v t0)) rfl trivial (by kernel_rfl) (by have:=Y17 Y3 2 (fun _=>rfl) t0.f_;have:=(ltN g1);first|omega|(simp only[Z3v] at*;omega)) (fm_elem Y3 2 (fun _=>rfl) t0.f_ Yc t0.at_.toNat (ltN g1))) ?_);refine QOps.nil (DOps.e 2 rfl rfl rfl (by exact fun g hg hb=>RStep.alloc rfl 2 (hg.trans rfl) (by kernel_rfl:zc Tryd.prog 26=some [.j 0,.j 0]) (by kernel_rfl)) ?_);refine DOps.nil<|OpsW.sg 0 [2,15,0] (Z42::(15,.agg (Z3x t0))::Z3u) (Y3e rfl rfl rfl rfl trivial trivial rfl rfl rfl (by kernel_rfl) (Y08 (by kernel_rfl)) (Xa (by kernel_rfl)) ?_)
 change OpsW _ _ _ _ _ ((2,⟨0,true,26,2,(Z3x t0)⟩)::(2,⟨0,true,26,2,[.j (0:Int),.j (0:Int)]⟩)::(Z3g t0)) _;refine OpsW.sg 0 [2,0] Z3l (OpsW.rc Z3l (Z3q t0) (StC.mk (phi [(2,some 2),(2010,some 2010),(3010,some 3010)]) (.o rfl (.i2 .nil) (.o rfl (.i2 (.cons (.s rfl) .nil)) (.o rfl (CstL.ims _) .nil))) rfl (.cons (.r rfl) (.cons (.r rfl) .nil))) ?_);refine Y2 (Y0 (OpsW.sg 1 [16,2,0] ((16,.ref 2010 0 0)::Z3l) ?_));refine OpsW.nC rfl rfl rfl ?_;have⟨g2,H⟩:=Ys H;refine OpsW.sz 3 [20,16,2,0] ((20,.j (t0.at_+1))::(16,.ref 2010 0 0)::Z3l) ⟨g2,trivial⟩ (OpsW.nC rfl rfl rfl (OpsW.sg 1 [22,20,2,0] ((22,.ref 2010 0 1)::(20,.j (t0.at_+1))::Z3l) (Y3e rfl rfl rfl rfl trivial trivial rfl rfl rfl (by kernel_rfl) (Y08 (by kernel_rfl)) (Xa (by kernel_rfl)) ?_)));change OpsW _ _ _ _ _ ((2010,⟨0,true,54,3,[slA Y3 t0.f_,.j (t0.at_+1),.rsl 3010 0 0 t0.text_.length]⟩)::(Z3q t0)) _;refine OpsW.sg 0 [2,0] Z3l (OpsW.rc Z3l (Z3f t0) (StC.mk (phi [(2,some 2),(2010,some 2010),(3010,some 3010)]) (.o rfl (.i2 .nil) (.o rfl (.i2 (.cons (.s rfl) .nil)) (.o rfl (CstL.ims _) .nil))) rfl (.cons (.r rfl) (.cons (.r rfl) .nil))) ?_);refine Y2 (Y0 (OpsW.sg 2 [24,2,0] (Z3c t0) ?_));refine Y2 (Y0c (Y0 (OpsW.sg 2 [80,24,2,0] (Z3o t0) ?_)));refine Y2 (Y9 (b:=((Z3v t0).Op)==0) H rfl (fun c3 H=> ?_) (fun c3 H=> ?_))
 ·refine AW.drawP 7 [0,1] Tryd.checked.mixed (by kernel_rfl) (by kernel_rfl)<|QOps.sz (N:=128) 2 ((83,.ref 2010 0 0)::(82,.ref 2010 0 0)::(Z3o t0)) trivial (QOps.quietU (.ref 2010 0 0) rfl (Quiet.nilCheck rfl (gpoU rfl ⟨trivial,rfl,rfl⟩)) (QOps.sz (N:=128) 4 ((88,.j ((Z3v t0).N))::(87,.ref 2 0 1)::(86,.rsl 3010 0 0 t0.text_.length)::(85,.ref 2010 0 2)::(84,.ref 2010 0 0)::(83,.ref 2010 0 0)::(82,.ref 2010 0 0)::(Z3o t0)) trivial ?_));refine QOps.nil (OpsW.sg 0 [88,86,82] [(88,.j ((Z3v t0).N)),(86,.rsl 3010 0 0 t0.text_.length),(82,.ref 2010 0 0)] ?_);have⟨g4,H⟩:=Ys H;have⟨g5,H⟩:=Ys H;refine OpsW.rstep rfl rfl (RStep.appendInt (l:=t0.text_) (n:=(Z3v t0).N) rfl rfl rfl rfl rfl g4 g5) (OpsW.nC rfl rfl rfl (OpsW.sg 1 [91,89] [(91,.ref 2010 0 2),(89,.rsl 3010 1 0 ((t0.text_++decs 5 ((Z3v t0).N).toNat).length))] (Y3e rfl rfl rfl rfl trivial trivial rfl rfl rfl (by kernel_rfl) (Y08 (by kernel_rfl)) (Xa (by kernel_rfl)) ?_)));change OpsW _ _ _ _ _ ((2010,⟨0,true,54,3,[slA Y3 t0.f_,.j (t0.at_+1),.rsl 3010 1 0 ((t0.text_++decs 5 ((Z3v t0).N).toNat).length)]⟩)::(3010,rtA 1 5 1 (eI .u8) (t0.text_++decs 5 ((Z3v t0).N).toNat))::(Z3f t0)) _
  refine OpsW.sg 0 [] [] (OpsW.rc [] [(2010,⟨0,true,54,3,[slA Y3 t0.f_,.j (t0.at_+1),.rsl 3010 0 0 ((t0.text_++decs 5 ((Z3v t0).N).toNat).length)]⟩),(3010,rtA 0 5 1 (eI .u8) (t0.text_++decs 5 ((Z3v t0).N).toNat))] (StC.mk (phi [(2010,some 2010),(3010,some 3010)]) (.o rfl (.i2 (.cons (.s rfl) .nil)) (.o rfl (CstL.ims _) .nil)) rfl .nil) (Y2 ?_));obtain rfl:=X5 H;show ∃en' hp',StC _ _ en' hp'∧Done _ _ _ .normal en' hp';refine⟨[],[(2010,⟨0,true,54,3,[slA Y3 t0.f_,.j (t0.at_+1),.rsl 3010 1 0 ((t0.text_++decs 5 ((Z3v t0).N).toNat).length)]⟩),(3010,rtA 1 5 1 (eI .u8) (t0.text_++decs 5 ((Z3v t0).N).toNat))],(StC.mk (phi [(2010,some 2010),(3010,some 3010)]) (.o rfl (.i2 (.cons (.s rfl) .nil)) (.o rfl (CstL.ims _) .nil)) rfl .nil), ?_⟩;refine Done.genN rfl .nil ?_;exact⟨by kernel_rfl,by kernel_rfl⟩
 refine Y0 (OpsW.sg 2 [92,24,2,0] (Z3p t0) ?_);refine Y2 (Y9 (b:=((Z3v t0).Op)==1) H rfl (fun c6 H=> ?_) (fun c6 H=> ?_))
 ·refine AW.drawP 10 [0,1] Tryd.checked.mixed (by kernel_rfl) (by kernel_rfl)<|QOps.sz (N:=128) 2 ((95,.ref 2010 0 0)::(94,.ref 2010 0 0)::(Z3p t0)) trivial (QOps.quietU (.ref 2010 0 0) rfl (Quiet.nilCheck rfl (gpoU rfl ⟨trivial,rfl,rfl⟩)) ?_);have⟨g7,H⟩:=Ys H;refine QOps.sz (N:=128) 6 ((102,.int .u8 (IntKind.wrap .u8 (97+((Z3v t0).N))))::(101,.j (97+((Z3v t0).N)))::(100,.j ((Z3v t0).N))::(99,.ref 2 0 1)::(98,.rsl 3010 0 0 t0.text_.length)::(97,.ref 2010 0 2)::(96,.ref 2010 0 0)::(95,.ref 2010 0 0)::(94,.ref 2010 0 0)::(Z3p t0)) ⟨g7,trivial⟩ (QOps.buildTI (enc:=eI .u8) [IntKind.wrap .u8 (97+((Z3v t0).N))] rfl rfl E24 (fun _=>rfl) (by decide) ⟨trivial,by kernel_rfl,by kernel_rfl,by kernel_rfl,rfl⟩ ?_);refine QOps.nil (OpsW.sg 0 [103,98,94] [(103,sU [IntKind.wrap .u8 (97+((Z3v t0).N))]),(98,.rsl 3010 0 0 t0.text_.length),(94,.ref 2010 0 0)] ?_);have⟨g8,H⟩:=Ys H;refine OpsW.appendF (enc:=eI .u8) (ys:=[IntKind.wrap .u8 (97+((Z3v t0).N))]) rfl rfl rfl E24 (fun _=>rfl) rfl rfl trivial (SrcA.typed (enc:=eI .u8) (fun _=>rfl) (by kernel_rfl) [IntKind.wrap .u8 (97+((Z3v t0).N))]) rfl g8 (OpsW.nC rfl rfl rfl (OpsW.sg 1 [106,104] [(106,.ref 2010 0 2),(104,.rsl 3010 1 0 ((Z3w t0).length))] (Y3e rfl rfl rfl rfl trivial trivial rfl rfl rfl (by kernel_rfl) (Y08 (by kernel_rfl)) (Xa (by kernel_rfl)) ?_)))
  change OpsW _ _ _ _ _ ((2010,⟨0,true,54,3,[slA Y3 t0.f_,.j (t0.at_+1),.rsl 3010 1 0 ((Z3w t0).length)]⟩)::(3010,rtA 1 5 1 (eI .u8) (Z3w t0))::(Z3f t0)) _;refine OpsW.sg 0 [] [] (OpsW.rc [] [(2010,⟨0,true,54,3,[slA Y3 t0.f_,.j (t0.at_+1),.rsl 3010 0 0 ((Z3w t0).length)]⟩),(3010,rtA 0 5 1 (eI .u8) (Z3w t0))] (StC.mk (phi [(2010,some 2010),(3010,some 3010)]) (.o rfl (.i2 (.cons (.s rfl) .nil)) (.o rfl (CstL.ims _) .nil)) rfl .nil) (Y2 ?_));obtain rfl:=X5 H;show ∃en' hp',StC _ _ en' hp'∧Done _ _ _ .normal en' hp';refine⟨[],[(2010,⟨0,true,54,3,[slA Y3 t0.f_,.j (t0.at_+1),.rsl 3010 1 0 ((Z3w t0).length)]⟩),(3010,rtA 1 5 1 (eI .u8) (Z3w t0))],(StC.mk (phi [(2010,some 2010),(3010,some 3010)]) (.o rfl (.i2 (.cons (.s rfl) .nil)) (.o rfl (CstL.ims _) .nil)) rfl .nil), ?_⟩;refine Done.genN rfl .nil ?_;exact⟨by kernel_rfl,by kernel_rfl⟩
 refine Y1r (fun(y:Ye×Bool)=>Yp rec_f_formula_printer_node t0 y.1 y.2) r (fun(y:Ye×Bool)=>[Z3z,Z42,(107,.bool y.2)]) (fun(y:Ye×Bool)=>((2010,⟨0,true,54,3,[slA Y3 y.1.f_,.j y.1.at_,.rsl 3010 0 0 y.1.text_.length]⟩)::(3010,rtA 0 5 1 (eI .u8) y.1.text_)::(Z3e t0))) ?_ ?_
 ·refine Y0 (OpsW.sg 2 [107,24,2,0] ((107,.bool (((Z3v t0).Op)==2))::(Z3c t0)) ?_);refine Y2 (Y9 (b:=((Z3v t0).Op)==2) H rfl (fun c35 H=> ?_) (fun c35 H=> ?_))
  ·refine Yh ?_;exact⟨((Z40 t0),((Z3v t0).Op)==2),H,(StC.mk (phi [(2010,some 2010),(3010,some 3010),(2,some 2)]) (.o rfl (.i2 (.cons (.s rfl) .nil)) (.o rfl (CstL.ims _) (.o rfl (.i2 .nil) .nil))) rfl (.cons (.r rfl) (.cons (.r rfl) (.cons .im .nil))))⟩
  refine Y0 (OpsW.sg 2 [107,24,2,0] ((107,.bool (((Z3v t0).Op)==3))::(Z3c t0)) ?_);refine Y2 (Y9 (b:=((Z3v t0).Op)==3) H rfl (fun c36 H=> ?_) (fun c36 H=> ?_))
  ·refine Yh ?_;exact⟨((Z40 t0),((Z3v t0).Op)==3),H,(StC.mk (phi [(2010,some 2010),(3010,some 3010),(2,some 2)]) (.o rfl (.i2 (.cons (.s rfl) .nil)) (.o rfl (CstL.ims _) (.o rfl (.i2 .nil) .nil))) rfl (.cons (.r rfl) (.cons (.r rfl) (.cons .im .nil))))⟩
  refine Y0 (OpsW.sg 2 [107,24,2,0] ((107,.bool (((Z3v t0).Op)==4))::(Z3c t0)) ?_);refine Y2 (Y9 (b:=((Z3v t0).Op)==4) H rfl (fun c37 H=> ?_) (fun c37 H=> ?_))
  ·refine Yh ?_;exact⟨((Z40 t0),((Z3v t0).Op)==4),H,(StC.mk (phi [(2010,some 2010),(3010,some 3010),(2,some 2)]) (.o rfl (.i2 (.cons (.s rfl) .nil)) (.o rfl (CstL.ims _) (.o rfl (.i2 .nil) .nil))) rfl (.cons (.r rfl) (.cons (.r rfl) (.cons .im .nil))))⟩
  refine Yu (OpsW.sg 2 [107,2,0] ((107,.bool (((Z3v t0).Op)==5))::Z3l) ?_);refine Y2 ?_;exact⟨((Z40 t0),((Z3v t0).Op)==5),H,(StC.mk (phi [(2010,some 2010),(3010,some 3010),(2,some 2)]) (.o rfl (.i2 (.cons (.s rfl) .nil)) (.o rfl (CstL.ims _) (.o rfl (.i2 .nil) .nil))) rfl (.cons (.r rfl) (.cons (.r rfl) (.cons .im .nil))))⟩
 rintro⟨v9,v10⟩ H;unfold Yp at H;change AW _ _ _ [Z3z,Z42,(107,.bool v10)] (Z3m t0 v9) _;refine Y9 (b:=v10) H rfl (fun c11 H=> ?_) (fun c11 H=> ?_)
 ·refine Y0 (OpsW.sg 1 [112,0,2] ((112,.ref 2010 0 0)::Z3d) ?_);have⟨x12,hx12,H⟩:=Y13 H;refine Y3c (Z3k v9) (Z3e t0) (Z3k v9) (phi [(2010,some 2010),(3010,some 3010)]) rfl (hrec_f_formula_printer_node _ _ hx12) (.cons (.r rfl) .nil) (.cons rfl rfl rfl rfl rfl (.i2 (.cons (.s rfl) .nil)) (.b (RnL.ims _) .nil)) (.tup []) [(2010,⟨0,true,54,3,[slA Y3 x12.f_,.j x12.at_,.rsl 3010 1 0 x12.text_.length]⟩),(3010,rtA 1 5 1 (eI .u8) x12.text_)] (phi [(2010,some 2010),(3010,some 3010)]) (.cons rfl rfl rfl rfl rfl (.i2 (.cons (.s rfl) .nil)) (.b (RnL.ims _) .nil)) (.tup .nil .nil) ?_;refine OpsW.sg 0 [0,2] Z3d (OpsW.rc Z3d [(2,⟨0,true,26,2,(Z3x t0)⟩),(2010,⟨0,true,54,3,[slA Y3 x12.f_,.j x12.at_,.rsl 3010 0 0 x12.text_.length]⟩),(3010,rtA 0 5 1 (eI .u8) x12.text_)] (StC.mk (phi [(2,some 2),(2010,some 2010),(3010,some 3010)]) (.o rfl (.i2 .nil) (.o rfl (.i2 (.cons (.s rfl) .nil)) (.o rfl (CstL.ims _) .nil))) rfl (.cons (.r rfl) (.cons (.r rfl) .nil))) ?_);refine Y2 (AW.drawPSeq 9 [0,1] Tryd.checked.mixed (by kernel_rfl) (by kernel_rfl) ?_);refine QOps.sz (N:=128) 2 ((115,.ref 2010 0 0)::(114,.ref 2010 0 0)::Z3d) trivial (QOps.quietU (.ref 2010 0 0) rfl (Quiet.nilCheck rfl (gpoU rfl ⟨trivial,rfl,rfl⟩)) (QOps.sz (N:=128) 4 ((120,.j ((Z3v t0).Op))::(119,.ref 2 0 0)::(118,.rsl 3010 0 0 x12.text_.length)::(117,.ref 2010 0 2)::(116,.ref 2010 0 0)::(115,.ref 2010 0 0)::(114,.ref 2010 0 0)::Z3d) trivial ?_))
  have⟨x13,hx13,H⟩:=Y13 H;refine QOps.qcall rfl (by kernel_rfl) rfl (Y02 trivial) (.cons (.pur rfl) .nil) (f_formula_sign_ok hx13) rfl (QOps.buildTI (enc:=eI .u8) [x13] rfl rfl E24 (fun _=>rfl) (by decide) ⟨trivial,by kernel_rfl,by kernel_rfl,by kernel_rfl,rfl⟩ ?_);refine QOps.nil (OpsW.sg 0 [122,118,114,0] ((122,sU [x13])::(118,.rsl 3010 0 0 x12.text_.length)::(114,.ref 2010 0 0)::Z3u) ?_);have⟨g14,H⟩:=Ys H;refine OpsW.appendF (enc:=eI .u8) (ys:=[x13]) rfl rfl rfl E24 (fun _=>rfl) rfl rfl trivial (SrcA.typed (enc:=eI .u8) (fun _=>rfl) (by kernel_rfl) [x13]) rfl g14 (OpsW.nC rfl rfl rfl (OpsW.sg 1 [125,123,0] ((125,.ref 2010 0 2)::(123,.rsl 3010 1 0 ((x12.text_++[x13]).length))::Z3u) (Y3e rfl rfl rfl rfl trivial trivial rfl rfl rfl (by kernel_rfl) (Y08 (by kernel_rfl)) (Xa (by kernel_rfl)) ?_)));change OpsW _ _ _ _ _ [(2010,⟨0,true,54,3,[slA Y3 x12.f_,.j x12.at_,.rsl 3010 1 0 ((x12.text_++[x13]).length)]⟩),(3010,rtA 1 5 1 (eI .u8) (x12.text_++[x13])),(2,⟨0,true,26,2,(Z3x t0)⟩),(2010,⟨0,true,54,3,[slA Y3 x12.f_,.j x12.at_,.rsl 3010 0 0 x12.text_.length]⟩),(3010,rtA 0 5 1 (eI .u8) x12.text_)] _
  refine OpsW.sg 0 [0] Z3u (OpsW.rc Z3u [(2010,⟨0,true,54,3,[slA Y3 x12.f_,.j x12.at_,.rsl 3010 0 0 ((x12.text_++[x13]).length)]⟩),(3010,rtA 0 5 1 (eI .u8) (x12.text_++[x13]))] (StC.mk (phi [(2010,some 2010),(3010,some 3010)]) (.o rfl (.i2 (.cons (.s rfl) .nil)) (.o rfl (CstL.ims _) .nil)) rfl (.cons (.r rfl) .nil)) ?_);refine Y2 (Yu (OpsW.sg 1 [126] [(126,.ref 2010 0 0)] ?_));have⟨x15,hx15,H⟩:=Y13 H;refine Y3c [(2010,⟨0,true,54,3,[slA Y3 x12.f_,.j x12.at_,.rsl 3010 0 0 ((x12.text_++[x13]).length)]⟩),(3010,rtA 0 5 1 (eI .u8) (x12.text_++[x13]))] [] [(2010,⟨0,true,54,3,[slA Y3 x12.f_,.j x12.at_,.rsl 3010 0 0 ((x12.text_++[x13]).length)]⟩),(3010,rtA 0 5 1 (eI .u8) (x12.text_++[x13]))] (phi [(2010,some 2010),(3010,some 3010)]) rfl (hrec_f_formula_printer_node _ _ hx15) (.cons (.r rfl) .nil) (.cons rfl rfl rfl rfl rfl (.i2 (.cons (.s rfl) .nil)) (.b (RnL.ims _) .nil)) (.tup []) [(2010,⟨0,true,54,3,[slA Y3 x15.f_,.j x15.at_,.rsl 3010 1 0 x15.text_.length]⟩),(3010,rtA 1 5 1 (eI .u8) x15.text_)] (phi [(2010,some 2010),(3010,some 3010)]) (.cons rfl rfl rfl rfl rfl (.i2 (.cons (.s rfl) .nil)) (.b (RnL.ims _) .nil)) (.tup .nil .nil) ?_
  refine OpsW.sg 0 [] [] (OpsW.rc [] [(2010,⟨0,true,54,3,[slA Y3 x15.f_,.j x15.at_,.rsl 3010 0 0 x15.text_.length]⟩),(3010,rtA 0 5 1 (eI .u8) x15.text_)] (StC.mk (phi [(2010,some 2010),(3010,some 3010)]) (.o rfl (.i2 (.cons (.s rfl) .nil)) (.o rfl (CstL.ims _) .nil)) rfl .nil) (Y2 ?_));obtain rfl:=X5 H;show ∃en' hp',StC _ _ en' hp'∧Done _ _ _ .normal en' hp';refine⟨[],[(2010,⟨0,true,54,3,[slA Y3 x15.f_,.j x15.at_,.rsl 3010 1 0 x15.text_.length]⟩),(3010,rtA 1 5 1 (eI .u8) x15.text_)],(StC.mk (phi [(2010,some 2010),(3010,some 3010)]) (.o rfl (.i2 (.cons (.s rfl) .nil)) (.o rfl (CstL.ims _) .nil)) rfl .nil), ?_⟩;refine Done.genN rfl .nil ?_;exact⟨by kernel_rfl,by kernel_rfl⟩
 refine AW.drawPSeq 8 [0,1] Tryd.checked.mixed (by kernel_rfl) (by kernel_rfl) (QOps.sz (N:=128) 2 (Z3s v10) trivial (QOps.quietU (.ref 2010 0 0) rfl (Quiet.nilCheck rfl (gpoU rfl ⟨trivial,rfl,rfl⟩)) (QOps.sz (N:=128) 4 ((31,.j ((Z3v t0).Op))::(30,.ref 2 0 0)::(29,.rsl 3010 0 0 v9.text_.length)::(28,.ref 2010 0 2)::(27,.ref 2010 0 0)::(Z3s v10)) trivial ?_)));have⟨x16,hx16,H⟩:=Y13 H;refine QOps.qcall rfl (by kernel_rfl) rfl (Y02 trivial) (.cons (.pur rfl) .nil) (f_formula_name_ok hx16) rfl<|QOps.nil (OpsW.sg 0 [32,29,25,0,2] ((32,.string x16)::(29,.rsl 3010 0 0 v9.text_.length)::(25,.ref 2010 0 0)::Z3d) ?_);have⟨g17,H⟩:=Ys H;refine OpsW.appendF (enc:=eI .u8) (ys:=bytesOf x16) rfl rfl rfl E24 (fun _=>rfl) rfl rfl trivial (SrcA.strT (by kernel_rfl) x16) (bytesOf_len _).symm g17 (OpsW.nC rfl rfl rfl (OpsW.sg 1 [35,33,0,2] ((35,.ref 2010 0 2)::(33,.rsl 3010 1 0 ((Z3y v9 x16).length))::Z3d) (Y3e rfl rfl rfl rfl trivial trivial rfl rfl rfl (by kernel_rfl) (Y08 (by kernel_rfl)) (Xa (by kernel_rfl)) ?_)));change OpsW _ _ _ _ _ ((2010,⟨0,true,54,3,[slA Y3 v9.f_,.j v9.at_,.rsl 3010 1 0 ((Z3y v9 x16).length)]⟩)::(3010,rtA 1 5 1 (eI .u8) (Z3y v9 x16))::(Z3m t0 v9)) _
 refine OpsW.sg 0 [0,2] Z3d (OpsW.rc Z3d (Z3i t0 v9 x16) (StC.mk (phi [(2,some 2),(2010,some 2010),(3010,some 3010)]) (.o rfl (.i2 .nil) (.o rfl (.i2 (.cons (.s rfl) .nil)) (.o rfl (CstL.ims _) .nil))) rfl (.cons (.r rfl) (.cons (.r rfl) .nil))) ?_);refine Y2 (Y0 (OpsW.sg 2 [37,36,0,2] ((37,.ref 2010 0 0)::(36,.ref 2010 0 0)::Z3d) ?_));refine OpsW.nC rfl rfl rfl (OpsW.sg 2 [40,36,0,2] ((40,.rsl 3010 0 0 ((Z3y v9 x16).length))::(36,.ref 2010 0 0)::Z3d) ?_);have⟨g18,H⟩:=Ys H;refine OpsW.appendLF (enc:=eI .u8) [(40:Int)] rfl rfl rfl (by decide) rfl rfl rfl (by simp) E24 (fun _=>rfl) (by decide) trivial (by kernel_rfl) (by kernel_rfl) (by kernel_rfl) rfl rfl rfl g18 (OpsW.nC rfl rfl rfl (OpsW.sg 1 [44,42,0,2] ((44,.ref 2010 0 2)::(42,.rsl 3010 1 0 ((Z43 v9 x16).length))::Z3d) (Y3e rfl rfl rfl rfl trivial trivial rfl rfl rfl (by kernel_rfl) (Y08 (by kernel_rfl)) (Xa (by kernel_rfl)) ?_)));change OpsW _ _ _ _ _ ((2010,⟨0,true,54,3,[slA Y3 v9.f_,.j v9.at_,.rsl 3010 1 0 ((Z43 v9 x16).length)]⟩)::(3010,rtA 1 5 1 (eI .u8) (Z43 v9 x16))::(Z3i t0 v9 x16)) _
 refine OpsW.sg 0 [0,2] Z3d (OpsW.rc Z3d [(2,⟨0,true,26,2,(Z3x t0)⟩),(2010,⟨0,true,54,3,[slA Y3 v9.f_,.j v9.at_,.rsl 3010 0 0 ((Z43 v9 x16).length)]⟩),(3010,rtA 0 5 1 (eI .u8) (Z43 v9 x16))] (StC.mk (phi [(2,some 2),(2010,some 2010),(3010,some 3010)]) (.o rfl (.i2 .nil) (.o rfl (.i2 (.cons (.s rfl) .nil)) (.o rfl (CstL.ims _) .nil))) rfl (.cons (.r rfl) (.cons (.r rfl) .nil))) ?_);refine Y2 (Y0 (OpsW.sg 1 [46,0,2] ((46,.agg (Z3x t0))::Z3d) ?_));have⟨x19,hx19,H⟩:=Y13 H;refine Y19 rfl (.cons (.pur rfl) .nil) (f_formula_arity_ok hx19) (OpsW.sg 5 [3,0,2] ((3,.j x19.1)::Z3d) ?_);refine Y2 (Y0k (Y0 (OpsW.sg 2 [51,50,0,2] ((51,.j (0:Int))::(50,.j x19.1)::Z3d) ?_)));refine Y2 (Y0c ?_);refine Y51 (fun loop (s:Ye×Y4×Int)=>Y0f rec_f_formula_printer_node x19 loop s.1 s.2.1 s.2.2) r (fun(s:Ye×Y4×Int)=>[Z3z,Z42,(50,.j x19.1),(51,.j s.2.2)]) (fun(s:Ye×Y4×Int)=>[(2010,⟨0,true,54,3,[slA Y3 s.1.f_,.j s.1.at_,.rsl 3010 0 0 s.1.text_.length]⟩),(3010,rtA 0 5 1 (eI .u8) s.1.text_),(2,⟨0,true,26,2,[.j s.2.1.Op,.j s.2.1.N]⟩)]) ?_ 1000000 ((⟨v9.f_,v9.at_,(Z3y v9 x16)++[(40:Int)]⟩:Ye),(Z3v t0),(0:Int)) H (StC.mk (phi [(2010,some 2010),(3010,some 3010),(2,some 2)]) (.o rfl (.i2 (.cons (.s rfl) .nil)) (.o rfl (CstL.ims _) (.o rfl (.i2 .nil) .nil))) rfl (.cons (.r rfl) (.cons (.r rfl) (.i2 .nil))));intro loop23 s H;obtain⟨v20,v21,v22⟩:=s;unfold Y0f at H
 change AW _ _ _ (Z3b v22 x19) (Z3h v20 v21) _;refine Y0 (OpsW.sg 1 [52,0,2,50,51] ((52,.bool (decide (v22<x19.1)))::(Z3b v22 x19)) ?_);refine Y2 (Y0k (Y9 (b:=decide (v22<x19.1)) H rfl (fun c24 H=> ?_) (fun c24 H=> ?_)))
 ·refine Yh<|Y1r (fun(y:Ye×Y4)=>Y1o loop23 v22 y.1 y.2) r (fun(y:Ye×Y4)=>(Z3b v22 x19)) (fun(y:Ye×Y4)=>[(2010,⟨0,true,54,3,[slA Y3 y.1.f_,.j y.1.at_,.rsl 3010 0 0 y.1.text_.length]⟩),(3010,rtA 0 5 1 (eI .u8) y.1.text_),(2,⟨0,true,26,2,[.j y.2.Op,.j y.2.N]⟩)]) ?_ ?_
  ·refine Y0c (Y0 (OpsW.sg 2 [5,0,2,50,51] ((5,.j v22)::(Z3b v22 x19)) ?_));refine Y2<|Y1r (fun(y:Ye×Y4)=>Y0e rec_f_formula_printer_node loop23 v22 y.1 y.2) r (fun(y:Ye×Y4)=>(Z3b v22 x19)) (fun(y:Ye×Y4)=>[(2010,⟨0,true,54,3,[slA Y3 y.1.f_,.j y.1.at_,.rsl 3010 0 0 y.1.text_.length]⟩),(3010,rtA 0 5 1 (eI .u8) y.1.text_),(2,⟨0,true,26,2,[.j y.2.Op,.j y.2.N]⟩)]) ?_ ?_
   ·refine Y0 (OpsW.sg 2 [55,5,0,2,50,51] ((55,.bool (decide (0<v22)))::(5,.j v22)::(Z3b v22 x19)) ?_);refine Y2 (Y9 (b:=decide (0<v22)) H rfl (fun c31 H=> ?_) (fun c31 H=> ?_))
    ·refine AW.drawP 9 [0,1,6] Tryd.checked.mixed (by kernel_rfl) (by kernel_rfl)<|QOps.sz (N:=128) 2 (Z3t v22 x19) trivial (QOps.quietU (.ref 2010 0 0) rfl (Quiet.nilCheck rfl (gpoU rfl ⟨trivial,rfl,rfl⟩)) (QOps.sz (N:=128) 4 ((62,.j v22)::(61,.agg [.j v21.Op,.j v21.N])::(60,.rsl 3010 0 0 v20.text_.length)::(59,.ref 2010 0 2)::(58,.ref 2010 0 0)::(Z3t v22 x19)) trivial ?_));have⟨x32,hx32,H⟩:=Y13 H;refine QOps.qcall rfl (by kernel_rfl) rfl (Y02 trivial) (.cons (.pur rfl) (.cons (.pur rfl) .nil)) (f_formula_separator_ok hx32) rfl (QOps.buildTI (enc:=eI .u8) [x32] rfl rfl E24 (fun _=>rfl) (by decide) ⟨trivial,by kernel_rfl,by kernel_rfl,by kernel_rfl,rfl⟩ ?_);refine QOps.nil (OpsW.sg 0 [64,60,56,0,2,50,51] ((64,sU [x32])::(60,.rsl 3010 0 0 v20.text_.length)::(56,.ref 2010 0 0)::(Z3b v22 x19)) ?_);have⟨g33,H⟩:=Ys H;refine OpsW.appendF (enc:=eI .u8) (ys:=[x32]) rfl rfl rfl E24 (fun _=>rfl) rfl rfl trivial (SrcA.typed (enc:=eI .u8) (fun _=>rfl) (by kernel_rfl) [x32]) rfl g33 (OpsW.nC rfl rfl rfl (OpsW.sg 1 [67,65,0,2,50,51] ((67,.ref 2010 0 2)::(65,.rsl 3010 1 0 ((v20.text_++[x32]).length))::(Z3b v22 x19)) (Y3e rfl rfl rfl rfl trivial trivial rfl rfl rfl (by kernel_rfl) (Y08 (by kernel_rfl)) (Xa (by kernel_rfl)) ?_)))
     change OpsW _ _ _ _ _ ((2010,⟨0,true,54,3,[slA Y3 v20.f_,.j v20.at_,.rsl 3010 1 0 ((v20.text_++[x32]).length)]⟩)::(3010,rtA 1 5 1 (eI .u8) (v20.text_++[x32]))::(Z3h v20 v21)) _;refine OpsW.sg 0 [0,2,50,51] (Z3b v22 x19) (OpsW.rc (Z3b v22 x19) [(2,⟨0,true,26,2,[.j v21.Op,.j v21.N]⟩),(2010,⟨0,true,54,3,[slA Y3 v20.f_,.j v20.at_,.rsl 3010 0 0 ((v20.text_++[x32]).length)]⟩),(3010,rtA 0 5 1 (eI .u8) (v20.text_++[x32]))] (StC.mk (phi [(2,some 2),(2010,some 2010),(3010,some 3010)]) (.o rfl (.i2 .nil) (.o rfl (.i2 (.cons (.s rfl) .nil)) (.o rfl (CstL.ims _) .nil))) rfl (.cons (.r rfl) (.cons (.r rfl) (.i2 .nil)))) (Y2 ?_));exact⟨((⟨v20.f_,v20.at_,v20.text_++[x32]⟩:Ye),v21),H,(StC.mk (phi [(2010,some 2010),(3010,some 3010),(2,some 2)]) (.o rfl (.i2 (.cons (.s rfl) .nil)) (.o rfl (CstL.ims _) (.o rfl (.i2 .nil) .nil))) rfl (.cons (.r rfl) (.cons (.r rfl) (.i2 .nil))))⟩
    refine Yh ?_;exact⟨(v20,v21),H,(StC.mk (phi [(2010,some 2010),(3010,some 3010),(2,some 2)]) (.o rfl (.i2 (.cons (.s rfl) .nil)) (.o rfl (CstL.ims _) (.o rfl (.i2 .nil) .nil))) rfl (.cons (.r rfl) (.cons (.r rfl) (.i2 .nil))))⟩
   rintro⟨v28,v29⟩ H;unfold Y0e at H;change AW _ _ _ (Z3b v22 x19) ((2010,⟨0,true,54,3,[slA Y3 v28.f_,.j v28.at_,.rsl 3010 0 0 v28.text_.length]⟩)::(3010,rtA 0 5 1 (eI .u8) v28.text_)::(Z3r v29)) _;refine Yu (OpsW.sg 1 [68,0,2,50,51] ((68,.ref 2010 0 0)::(Z3b v22 x19)) ?_);have⟨x30,hx30,H⟩:=Y13 H;refine Y3c (Z3j v28) (Z3r v29) (Z3j v28) (phi [(2010,some 2010),(3010,some 3010)]) rfl (hrec_f_formula_printer_node _ _ hx30) (.cons (.r rfl) .nil) (.cons rfl rfl rfl rfl rfl (.i2 (.cons (.s rfl) .nil)) (.b (RnL.ims _) .nil)) (.tup []) [(2010,⟨0,true,54,3,[slA Y3 x30.f_,.j x30.at_,.rsl 3010 1 0 x30.text_.length]⟩),(3010,rtA 1 5 1 (eI .u8) x30.text_)] (phi [(2010,some 2010),(3010,some 3010)]) (.cons rfl rfl rfl rfl rfl (.i2 (.cons (.s rfl) .nil)) (.b (RnL.ims _) .nil)) (.tup .nil .nil) ?_;refine OpsW.sg 0 [0,2,50,51] (Z3b v22 x19) (OpsW.rc (Z3b v22 x19) [(2,⟨0,true,26,2,[.j v29.Op,.j v29.N]⟩),(2010,⟨0,true,54,3,[slA Y3 x30.f_,.j x30.at_,.rsl 3010 0 0 x30.text_.length]⟩),(3010,rtA 0 5 1 (eI .u8) x30.text_)] (StC.mk (phi [(2,some 2),(2010,some 2010),(3010,some 3010)]) (.o rfl (.i2 .nil) (.o rfl (.i2 (.cons (.s rfl) .nil)) (.o rfl (CstL.ims _) .nil))) rfl (.cons (.r rfl) (.cons (.r rfl) (.i2 .nil)))) (Y2 ?_))
   exact⟨(x30,v29),H,(StC.mk (phi [(2010,some 2010),(3010,some 3010),(2,some 2)]) (.o rfl (.i2 (.cons (.s rfl) .nil)) (.o rfl (CstL.ims _) (.o rfl (.i2 .nil) .nil))) rfl (.cons (.r rfl) (.cons (.r rfl) (.i2 .nil))))⟩
  rintro⟨v25,v26⟩ H;unfold Y1o at H;change AW _ _ _ (Z3b v22 x19) [(2010,⟨0,true,54,3,[slA Y3 v25.f_,.j v25.at_,.rsl 3010 0 0 v25.text_.length]⟩),(3010,rtA 0 5 1 (eI .u8) v25.text_),(2,⟨0,true,26,2,[.j v26.Op,.j v26.N]⟩)] _;refine Yu ?_;have⟨g27,H⟩:=Ys H;refine OpsW.sz 2 [51,0,2,50] [(51,.j (v22+1)),Z3z,Z42,(50,.j x19.1)] ⟨g27,trivial⟩ (Y2 ?_);exact⟨(v25,v26,v22+1),H,(StC.mk (phi [(2010,some 2010),(3010,some 3010),(2,some 2)]) (.o rfl (.i2 (.cons (.s rfl) .nil)) (.o rfl (CstL.ims _) (.o rfl (.i2 .nil) .nil))) rfl (.cons (.r rfl) (.cons (.r rfl) (.i2 .nil))))⟩
 refine AW.exit<|Yu (OpsW.sg 2 [72,71] [(72,.ref 2010 0 0),(71,.ref 2010 0 0)] ?_);refine OpsW.nC rfl rfl rfl (OpsW.sg 2 [75,71] [(75,.rsl 3010 0 0 v20.text_.length),(71,.ref 2010 0 0)] ?_);have⟨g34,H⟩:=Ys H;refine OpsW.appendLF (enc:=eI .u8) [(41:Int)] rfl rfl rfl (by decide) rfl rfl rfl (by simp) E24 (fun _=>rfl) (by decide) trivial (by kernel_rfl) (by kernel_rfl) (by kernel_rfl) rfl rfl rfl g34 (OpsW.nC rfl rfl rfl (OpsW.sg 1 [79,77] [(79,.ref 2010 0 2),(77,.rsl 3010 1 0 ((Z41 v20).length))] (Y3e rfl rfl rfl rfl trivial trivial rfl rfl rfl (by kernel_rfl) (Y08 (by kernel_rfl)) (Xa (by kernel_rfl)) ?_)));change OpsW _ _ _ _ _ ((2010,⟨0,true,54,3,[slA Y3 v20.f_,.j v20.at_,.rsl 3010 1 0 ((Z41 v20).length)]⟩)::(3010,rtA 1 5 1 (eI .u8) (Z41 v20))::(Z3h v20 v21)) _;refine OpsW.sg 0 [] [] (OpsW.rc [] [(2010,⟨0,true,54,3,[slA Y3 v20.f_,.j v20.at_,.rsl 3010 0 0 ((Z41 v20).length)]⟩),(3010,rtA 0 5 1 (eI .u8) (Z41 v20))] (StC.mk (phi [(2010,some 2010),(3010,some 3010)]) (.o rfl (.i2 (.cons (.s rfl) .nil)) (.o rfl (CstL.ims _) .nil)) rfl .nil) (Y2 ?_));obtain rfl:=X5 H;show ∃en' hp',StC _ _ en' hp'∧Done _ _ _ .normal en' hp';refine⟨[],[(2010,⟨0,true,54,3,[slA Y3 v20.f_,.j v20.at_,.rsl 3010 1 0 ((Z41 v20).length)]⟩),(3010,rtA 1 5 1 (eI .u8) (Z41 v20))],(StC.mk (phi [(2010,some 2010),(3010,some 3010)]) (.o rfl (.i2 (.cons (.s rfl) .nil)) (.o rfl (CstL.ims _) .nil)) rfl .nil), ?_⟩;refine Done.genN rfl .nil ?_
 exact⟨by kernel_rfl,by kernel_rfl⟩
def Yx:Nat→Ye→Option Ye
 |0,_=>none
 |n+1,t0=>Y23 (Yx n) t0
theorem Y53:∀n:Nat,(∀(t0:Ye) (r:Ye),Yx n t0=some r→Abs.Spec Tryd.prog 29 [.ref 2010 0 0] [(2010,⟨0,true,54,3,[slA Y3 t0.f_,.int .i64 t0.at_,.rsl 3010 0 0 t0.text_.length]⟩),(3010,rtA 0 5 1 (eI .u8) t0.text_)] (fun x h=>x= .tup []∧h=[(2010,⟨0,true,54,3,[slA Y3 r.f_,.int .i64 r.at_,.rsl 3010 1 0 r.text_.length]⟩),(3010,rtA 1 5 1 (eI .u8) r.text_)]))∧True
 |0=>by
  refine⟨?_,trivial⟩
  ·intro t0 r H;rw[Yx] at H;cases H
 |n+1=>by
  have ih:=Y53 n;refine⟨?_,trivial⟩
  ·intro t0 r H;rw[Yx] at H;exact f_formula_printer_node_body_io ih.1 H
def Y4k (t0:Ye):Option Ye:=Yx 1000000 t0
theorem f_formula_printer_node_io{t0:Ye}{r:Ye}(H:Y4k t0=some r):Abs.Spec Tryd.prog 29 [.ref 2010 0 0] [(2010,⟨0,true,54,3,[slA Y3 t0.f_,.int .i64 t0.at_,.rsl 3010 0 0 t0.text_.length]⟩),(3010,rtA 0 5 1 (eI .u8) t0.text_)] (fun x h=>x= .tup []∧h=[(2010,⟨0,true,54,3,[slA Y3 r.f_,.int .i64 r.at_,.rsl 3010 1 0 r.text_.length]⟩),(3010,rtA 1 5 1 (eI .u8) r.text_)]):=
 (Y53 1000000).1 t0 r H
def Y3s (t0:List Y4):Option ByteArray:=
 (Y4u t0).bind fun x1=>
 cond (!x1) (
  some (⟨#[]⟩:ByteArray)) (
  (Y4k (⟨t0,(0:Int),([]:List Int)⟩:Ye)).bind fun x3=>
  some (strOf x3.text_))
section
variable (t0:List Y4) (x3:Ye)
abbrev Z46:List AV:=[slA Y3 t0,.j (0:Int),.im (.val (.slice none 0 0))]
abbrev Z44:Hp:=[(3,⟨0,true,54,3,[slA Y3 t0,.j (0:Int),.rsl 5030 0 0 0]⟩),(5030,rtA 0 5 1 (eI .u8) ([]:List Int))]
abbrev Z45:Hp:=[(3,⟨0,true,54,3,[slA Y3 x3.f_,.j x3.at_,.rsl 5030 1 0 x3.text_.length]⟩),(5030,rtA 1 5 1 (eI .u8) x3.text_)]
end
theorem f_formula_Print_ok{t0:List Y4}{r:ByteArray}(H:Y3s t0=some r):QSpec Tryd.prog 14 [slA Y3 t0] (.string r):=by
 refine Yy Tryd.func14 rfl (by simp[Tryd.ntmps14]) ?_;rw[Tryd.ntmps14];unfold Y3s at H;change AW _ _ _ [(0,slA Y3 t0)] [] _;refine Y0 (OpsW.sg 1 [0] [(0,slA Y3 t0)] ?_);refine Y2 (Y0k (Y0 (OpsW.sg 1 [4,0] [(4,slA Y3 t0),(0,slA Y3 t0)] ?_)));have⟨x1,hx1,H⟩:=Y13 H;refine Y19 rfl (.cons (.pur rfl) .nil) (f_formula_Valid_ok hx1) (OpsW.sg 1 [6,0] [(6,.bool (!x1)),(0,slA Y3 t0)] (Y2 (Y9 (b:= !x1) H rfl (fun c2 H=> ?_) (fun c2 H=> ?_))))
 ·refine Y0 (OpsW.sg 1 [2] [(2,.string (⟨#[]⟩:ByteArray))] ?_);refine Y2 ?_;obtain rfl:=X5 H;refine AW.recast (env':=[(2,.string (⟨#[]⟩:ByteArray))]) (h':=[]) (StC.pure (.cons .im .nil)) (Yt ?_)
  try simp only[Ex.t,Ex.b]
  exact Done.eq rfl (.tmp .nil)
 refine Yh (Y0 (OpsW.sg 2 [8] [(8,.agg (Z46 t0))] ?_));refine OpsW.alloc' rfl rfl rfl 3 rfl (by kernel_rfl:zc Tryd.prog 54=some [.slice none 0 0,.j 0,.slice none 0 0]) (by kernel_rfl) (Y3e rfl rfl rfl rfl trivial trivial rfl rfl rfl (by kernel_rfl) (Y08 (by kernel_rfl)) (Xa (by kernel_rfl)) ?_);change OpsW _ _ _ _ _ [(3,⟨0,true,54,3,(Z46 t0)⟩),(3,⟨0,true,54,3,[.im (.val (.slice none 0 0)),.j (0:Int),.im (.val (.slice none 0 0))]⟩)] _;refine OpsW.sg 0 [3] [(3,.ref 3 0 0)] (OpsW.rc [(3,.ref 3 0 0)] [(3,⟨0,true,54,3,(Z46 t0)⟩)] (StC.mk (phi [(3,some 3)]) (.o rfl (.i3 .nil) .nil) rfl (.cons (.r rfl) .nil)) ?_);refine Y2 (Y0 (OpsW.rc [(3,.ref 3 0 0)] (Z44 t0) (StC.mk (phi [(3,some 3),(5030,none)]) (.o rfl (.i2 (.cons (.nilr rfl rfl rfl) .nil)) (.new rfl .nil)) rfl (.cons (.r rfl) .nil)) ?_));have⟨x3,hx3,H⟩:=Y13 H;refine Y3c (Z44 t0) [] [(2010,⟨0,true,54,3,[slA Y3 t0,.j (0:Int),.rsl 3010 0 0 0]⟩),(3010,rtA 0 5 1 (eI .u8) ([]:List Int))] (phi [(2010,some 3),(3010,some 5030)]) rfl (f_formula_printer_node_io hx3) (.cons (.r rfl) .nil) (.cons rfl rfl rfl rfl rfl (.i2 (.cons (.s rfl) .nil)) (.b (RnL.ims _) .nil)) (.tup []) (Z45 x3) (phi [(3,some 2010),(5030,some 3010)]) (.cons rfl rfl rfl rfl rfl (.i2 (.cons (.s rfl) .nil)) (.b (RnL.ims _) .nil)) (.tup .nil .nil) ?_
 refine OpsW.sg 0 [3] [(3,.ref 3 0 0)] (OpsW.rc [(3,.ref 3 0 0)] [(3,⟨0,true,54,3,[slA Y3 x3.f_,.j x3.at_,.rsl 5030 0 0 x3.text_.length]⟩),(5030,rtA 0 5 1 (eI .u8) x3.text_)] (StC.mk (phi [(3,some 3),(5030,some 5030)]) (.o rfl (.i2 (.cons (.s rfl) .nil)) (.o rfl (CstL.ims _) .nil)) rfl (.cons (.r rfl) .nil)) ?_);refine Y2 (Y0 (OpsW.sg 2 [11] [(11,.rsl 5030 0 0 x3.text_.length)] ?_));refine OpsW.quietU (.string (strOf x3.text_)) rfl rfl (Quiet.toStr (e:=5) x3.text_ rfl (by kernel_rfl) (by kernel_rfl) (by kernel_rfl) (gpoU rfl ⟨trivial,SlV.rsl rfl rfl,SrcA.rootF (enc:=eI .u8) (fun _=>rfl) (by kernel_rfl) rfl⟩)) (OpsW.sg 1 [2] [(2,.string (strOf x3.text_))] (Y2 ?_));obtain rfl:=X5 H;refine AW.recast (env':=[(2,.string (strOf x3.text_))]) (h':=[]) (StC.pure (.cons .im .nil)) (Yt ?_)
 try simp only[Ex.t,Ex.b]
 exact Done.eq rfl (.tmp .nil)
def Y3v (rec_f_R09_Digits:Int→Option ByteArray) (t0:Int):Option ByteArray:=
 cond (decide (t0<10)) (
  G (inR (48+t0))<|
  some (strOf [IntKind.wrap .u8 (48+t0)])) (
  G (inR (Int.tdiv t0 (10:Int)))<|
  (rec_f_R09_Digits (Int.tdiv t0 (10:Int))).bind fun x4=>
  G (inR ((48:Int)+(Int.tmod t0 (10:Int))))<|
  G (x4.size+(strOf [IntKind.wrap .u8 ((48:Int)+(Int.tmod t0 (10:Int)))]).size≤9223372036854775807)<|
  some (x4++(strOf [IntKind.wrap .u8 ((48:Int)+(Int.tmod t0 (10:Int)))])))
section
variable (t0:Int)
abbrev Z48:=((48:Int)+(Int.tmod t0 (10:Int)))
abbrev Z49:=strOf [IntKind.wrap .u8 (Z48 t0)]
abbrev Z4a:=strOf [IntKind.wrap .u8 (48+t0)]
abbrev Z47:Env:=[(11,.j (Int.tdiv t0 (10:Int))),(10,.j t0),(4,.bool (decide (t0<10))),(0,.j t0)]
end
theorem f_R09_Digits_body_ok{rec_f_R09_Digits:Int→Option ByteArray}(hrec_f_R09_Digits:∀(t0:Int) (r:ByteArray),rec_f_R09_Digits t0=some r→QSpec Tryd.prog 57 [.int .i64 t0] (.string r)){t0:Int}{r:ByteArray}(H:Y3v rec_f_R09_Digits t0=some r):QSpec Tryd.prog 57 [.int .i64 t0] (.string r):=by
 refine Yy Tryd.func57 rfl (by simp[Tryd.ntmps57]) ?_;rw[Tryd.ntmps57];unfold Y3v at H;change AW _ _ _ [(0,.j t0)] [] _;refine Y0 (OpsW.sg 1 [0] [(0,.j t0)] ?_);refine Y2 (Y0k (Y0 (OpsW.sg 2 [4,0] [(4,.bool (decide (t0<10))),(0,.j t0)] ?_)));refine Y2 (Y9 (b:=decide (t0<10)) H rfl (fun c1 H=> ?_) (fun c1 H=> ?_))
 ·refine Y0 ?_;have⟨g2,H⟩:=Ys H;refine OpsW.sz 3 [7] [(7,.int .u8 (IntKind.wrap .u8 (48+t0)))] ⟨g2,trivial⟩ (OpsW.buildTI (enc:=eI .u8) [IntKind.wrap .u8 (48+t0)] rfl rfl rfl E24 (fun _=>rfl) (by decide) ⟨trivial,by kernel_rfl,by kernel_rfl,by kernel_rfl,rfl⟩ (OpsW.quietU (.string (Z4a t0)) rfl rfl (Quiet.toStr (e:=5) [IntKind.wrap .u8 (48+t0)] rfl (by kernel_rfl) (by kernel_rfl) (by kernel_rfl) (gpoU rfl ⟨trivial,SlV.im,SrcA.typed (enc:=eI .u8) (fun _=>rfl) (by kernel_rfl) [IntKind.wrap .u8 (48+t0)]⟩)) (OpsW.sg 1 [2] [(2,.string (Z4a t0))] (Y2 ?_))));obtain rfl:=X5 H;refine AW.recast (env':=[(2,.string (Z4a t0))]) (h':=[]) (StC.pure (.cons .im .nil)) (Yt ?_)
  try simp only[Ex.t,Ex.b]
  exact Done.eq rfl (.tmp .nil)
 refine Yh (Y2r Tryd.checked.mixed (by kernel_rfl) ?_);have⟨g3,H⟩:=Ys H;refine QOps.sz (N:=20) 2 (Z47 t0) ⟨(by decide),g3,trivial⟩ ?_;have⟨x4,hx4,H⟩:=Y13 H;refine QOps.qcall rfl (by kernel_rfl) rfl (Y02 trivial) (.cons (.pur rfl) .nil) (hrec_f_R09_Digits _ _ hx4) rfl ?_;have⟨g5,H⟩:=Ys H;refine QOps.sz (N:=20) 4 ((16,.int .u8 (IntKind.wrap .u8 (Z48 t0)))::(15,.j (Z48 t0))::(14,.j (Int.tmod t0 (10:Int)))::(13,.j t0)::(12,.string x4)::(Z47 t0)) ⟨(by decide),g5,trivial⟩ (QOps.buildTI (enc:=eI .u8) [IntKind.wrap .u8 (Z48 t0)] rfl rfl E24 (fun _=>rfl) (by decide) ⟨trivial,by kernel_rfl,by kernel_rfl,by kernel_rfl,rfl⟩ (QOps.quietU (.string (Z49 t0)) rfl (Quiet.toStr (e:=5) [IntKind.wrap .u8 (Z48 t0)] rfl (by kernel_rfl) (by kernel_rfl) (by kernel_rfl) (gpoU rfl ⟨trivial,SlV.im,SrcA.typed (enc:=eI .u8) (fun _=>rfl) (by kernel_rfl) [IntKind.wrap .u8 (Z48 t0)]⟩)) ?_));have⟨g6,H⟩:=Ys H;refine QOps.sz (N:=20) 2 ((2,.string (x4++(Z49 t0)))::(19,.string (x4++(Z49 t0)))::(18,.string (Z49 t0))::(17,sU [IntKind.wrap .u8 (Z48 t0)])::(16,.int .u8 (IntKind.wrap .u8 (Z48 t0)))::(15,.j (Z48 t0))::(14,.j (Int.tmod t0 (10:Int)))::(13,.j t0)::(12,.string x4)::(Z47 t0)) ⟨g6,trivial⟩<|QOps.nil (AW.trim [2] [(2,.string (x4++(Z49 t0)))] (by kernel_rfl) ?_);obtain rfl:=X5 H;refine AW.recast (env':=[(2,.string (x4++(Z49 t0)))]) (h':=[]) (StC.pure (.cons .im .nil)) (Yt ?_)
 try simp only[Ex.t,Ex.b]
 exact Done.eq rfl (.tmp .nil)
def Y2x:Nat→Int→Option ByteArray
 |0,_=>none
 |n+1,t0=>Y3v (Y2x n) t0
theorem f_R09_Digits_all:∀n:Nat,(∀(t0:Int) (r:ByteArray),Y2x n t0=some r→QSpec Tryd.prog 57 [.int .i64 t0] (.string r))∧True
 |0=>by
  refine⟨?_,trivial⟩
  ·intro t0 r H;rw[Y2x] at H;cases H
 |n+1=>by
  have ih:=f_R09_Digits_all n;refine⟨?_,trivial⟩
  ·intro t0 r H;rw[Y2x] at H;exact f_R09_Digits_body_ok ih.1 H
def f_R09_Digits (t0:Int):Option ByteArray:=Y2x 1000000 t0
theorem f_R09_Digits_ok{t0:Int}{r:ByteArray}(H:f_R09_Digits t0=some r):QSpec Tryd.prog 57 [.int .i64 t0] (.string r):=
 (f_R09_Digits_all 1000000).1 t0 r H
def f_R09_names:Option ((List ByteArray)×(List Int)):=
 some ([(⟨#[102,114,97,99]⟩:ByteArray),(⟨#[112,111,119]⟩:ByteArray),(⟨#[105,100,120]⟩:ByteArray),(⟨#[114,111,111,116]⟩:ByteArray),(⟨#[99,97,110,99,101,108]⟩:ByteArray),(⟨#[115,117,109]⟩:ByteArray),(⟨#[109,97,116,114,105,120]⟩:ByteArray)],[(6:Int),(7:Int),(8:Int),(9:Int),(11:Int),(12:Int),(13:Int)])
section
abbrev Z4b:Nat×AV:=(0,slA eS [(⟨#[102,114,97,99]⟩:ByteArray),(⟨#[112,111,119]⟩:ByteArray),(⟨#[105,100,120]⟩:ByteArray),(⟨#[114,111,111,116]⟩:ByteArray),(⟨#[99,97,110,99,101,108]⟩:ByteArray),(⟨#[115,117,109]⟩:ByteArray),(⟨#[109,97,116,114,105,120]⟩:ByteArray)])
abbrev Z4c:Nat×AV:=(1,slA (eI .i64) [(6:Int),(7:Int),(8:Int),(9:Int),(11:Int),(12:Int),(13:Int)])
end
theorem f_R09_names_ok{r:(List ByteArray)×(List Int)}(H:f_R09_names=some r):QSpec Tryd.prog 80 [] (.tup [slA eS r.1,slA (eI .i64) r.2]):=by
 refine Yy Tryd.func80 rfl (by simp[Tryd.ntmps80]) ?_;rw[Tryd.ntmps80];unfold f_R09_names at H;change AW _ _ _ [] [] _;refine Y0 (OpsW.sg 2 [] [] ?_);refine Y2 (Y0 (OpsW.buildTI (enc:=eS) [(⟨#[102,114,97,99]⟩:ByteArray),(⟨#[112,111,119]⟩:ByteArray),(⟨#[105,100,120]⟩:ByteArray),(⟨#[114,111,111,116]⟩:ByteArray),(⟨#[99,97,110,99,101,108]⟩:ByteArray),(⟨#[115,117,109]⟩:ByteArray),(⟨#[109,97,116,114,105,120]⟩:ByteArray)] rfl rfl rfl E89 (fun _=>rfl) (by decide) ⟨trivial,by kernel_rfl,by kernel_rfl,by kernel_rfl,rfl⟩ ?_));refine OpsW.buildTI (enc:=eI .i64) [(6:Int),(7:Int),(8:Int),(9:Int),(11:Int),(12:Int),(13:Int)] rfl rfl rfl E42 (fun _=>rfl) (by decide) ⟨trivial,by kernel_rfl,by kernel_rfl,by kernel_rfl,rfl⟩ (OpsW.sg 2 [1,0] [Z4c,Z4b] (Y2 ?_));obtain rfl:=X5 H;refine AW.recast (env':=[Z4b,Z4c]) (h':=[]) (StC.pure (.i2 .nil)) (Yt ?_)
 try simp only[Ex.t,Ex.b]
 exact Done.eq rfl (.tmp (.tmp .nil))
def f_R09_name_b1 (t0:Int) (x1:(List ByteArray)×(List Int)) (loop3:(Int)→Option ByteArray) (v2:Int):Option ByteArray:=
 cond (decide (v2<(x1.2.length:Int))) (
  G (0≤v2∧v2<(x1.2.length:Int))<|
  cond ((x1.2.getD v2.toNat 0)==t0) (
   G (0≤v2∧v2<(x1.1.length:Int))<|
   some (x1.1.getD v2.toNat ByteArray.empty)) (
   G (inR (v2+1))<|
   loop3 (v2+1))) (
  some (⟨#[]⟩:ByteArray))
def f_R09_name (t0:Int):Option ByteArray:=
 (f_R09_names).bind fun x1=>
 iter (fun loop (s:Int)=>f_R09_name_b1 t0 x1 loop s) 1000000 (0:Int)
section
variable (t0:Int) (v2:Int) (x1:(List ByteArray)×(List Int))
abbrev Z4d:Env:=[(0,.j t0),(3,slA eS x1.1),(4,slA (eI .i64) x1.2),(5,.j v2)]
end
theorem f_R09_name_ok{t0:Int}{r:ByteArray}(H:f_R09_name t0=some r):QSpec Tryd.prog 58 [.int .i64 t0] (.string r):=by
 refine Yy Tryd.func58 rfl (by simp[Tryd.ntmps58]) ?_;rw[Tryd.ntmps58];unfold f_R09_name at H;change AW _ _ _ [(0,.j t0)] [] _;refine Y0 (OpsW.sg 1 [0] [(0,.j t0)] ?_);refine Y2 (Y0 ?_);have⟨x1,hx1,H⟩:=Y13 H;refine Y19 rfl .nil (f_R09_names_ok hx1) (OpsW.sg 5 [4,3,0] [(4,slA (eI .i64) x1.2),(3,slA eS x1.1),(0,.j t0)] ?_);refine Y2 (Y0k (Y0 (OpsW.sg 1 [5,4,3,0] [(5,.j (0:Int)),(4,slA (eI .i64) x1.2),(3,slA eS x1.1),(0,.j t0)] ?_)));refine Y2 (Y0c ?_);refine Y51 (fun loop (s:Int)=>f_R09_name_b1 t0 x1 loop s) r (fun(s:Int)=>[(0,.j t0),(3,slA eS x1.1),(4,slA (eI .i64) x1.2),(5,.j s)]) (fun(s:Int)=>[]) ?_ 1000000 (0:Int) H (StC.pure (.i4 .nil));intro loop3 v2 H;unfold f_R09_name_b1 at H;change AW _ _ _ (Z4d t0 v2 x1) [] _;refine Y0k (Y0 (OpsW.sg 4 [13,0,3,4,5] ((13,.bool (decide (v2<(x1.2.length:Int))))::(Z4d t0 v2 x1)) ?_));refine Y2 (Y9 (b:=decide (v2<(x1.2.length:Int))) H rfl (fun c4 H=> ?_) (fun c4 H=> ?_))
 ·refine Yh (Y0k (Y0c (Y0 ?_)));have⟨g5,H⟩:=Ys H;refine OpsW.sz 3 [18,0,3,4,5] ((18,.ipt (x1.2.flatMap (eI .i64)) (v2.toNat*1))::(Z4d t0 v2 x1)) ⟨g5,trivial⟩ (OpsW.asU (.j (x1.2.getD v2.toNat 0)) rfl rfl (T.load rfl trivial (by kernel_rfl) (fm_cell0 (eI .i64) 1 (fun _=>rfl) x1.2 (0:Int) v2.toNat (ltN g5) (fun a=>.val (.j a)) (fun _=>rfl))) (OpsW.sg 2 [21,0,3,4,5] ((21,.bool ((x1.2.getD v2.toNat 0)==t0))::(Z4d t0 v2 x1)) (Y2 (Y9 (b:=(x1.2.getD v2.toNat 0)==t0) H rfl (fun c6 H=> ?_) (fun c6 H=> ?_)))))
  ·refine Y0 ?_;have⟨g7,H⟩:=Ys H;refine OpsW.sz 3 [24] [(24,.ipt (x1.1.flatMap eS) (v2.toNat*1))] ⟨g7,trivial⟩ (OpsW.asU (.string (x1.1.getD v2.toNat ByteArray.empty)) rfl rfl (T.load rfl trivial (by kernel_rfl) (fm_cell0 eS 1 (fun _=>rfl) x1.1 ByteArray.empty v2.toNat (ltN g7) (fun a=>.val (.string a)) (fun _=>rfl))) (OpsW.sg 1 [2] [(2,.string (x1.1.getD v2.toNat ByteArray.empty))] (Y2 ?_)));obtain rfl:=X5 H;refine AW.recast (env':=[(2,.string (x1.1.getD v2.toNat ByteArray.empty))]) (h':=[]) (StC.pure (.cons .im .nil)) (Yt ?_)
   try simp only[Ex.t,Ex.b]
   exact Done.eq rfl (.tmp .nil)
  refine Yh (Yu ?_);have⟨g8,H⟩:=Ys H;refine OpsW.sz 3 [5,0,3,4] [(5,.j (v2+1)),(0,.j t0),(3,slA eS x1.1),(4,slA (eI .i64) x1.2)] ⟨g8,trivial⟩ (Y2 ?_);exact⟨v2+1,H,(StC.pure (.i4 .nil))⟩
 refine AW.exit<|Y0 (OpsW.sg 1 [2] [(2,.string (⟨#[]⟩:ByteArray))] ?_);refine Y2 ?_;obtain rfl:=X5 H;refine AW.recast (env':=[(2,.string (⟨#[]⟩:ByteArray))]) (h':=[]) (StC.pure (.cons .im .nil)) (Yt ?_)
 try simp only[Ex.t,Ex.b]
 exact Done.eq rfl (.tmp .nil)
def Y4o (loop7:(ByteArray×Int)→Option ByteArray) (v6:Int) (v9:ByteArray):Option ByteArray:=
 G (inR (v6+1))<|
 loop7 (v9,v6+1)
def Y2o (rec_f_R09_text:(List Y4)→Int→Option ByteArray) (t0:List Y4) (x1:List Int) (loop7:(ByteArray×Int)→Option ByteArray) (v6:Int) (v11:ByteArray):Option ByteArray:=
 G (0≤v6∧v6<(x1.length:Int))<|
 (rec_f_R09_text t0 (x1.getD v6.toNat 0)).bind fun x13=>
 G (v11.size+x13.size≤9223372036854775807)<|
 Y4o loop7 v6 (v11++x13)
def Y2n (rec_f_R09_text:(List Y4)→Int→Option ByteArray) (t0:List Y4) (x1:List Int) (loop7:(ByteArray×Int)→Option ByteArray) (v5:ByteArray) (v6:Int) (v16:ByteArray):Option ByteArray:=
 G (v5.size+v16.size≤9223372036854775807)<|
 Y2o rec_f_R09_text t0 x1 loop7 v6 (v5++v16)
def Y2p (rec_f_R09_text:(List Y4)→Int→Option ByteArray) (t0:List Y4) (t1:Int) (x1:List Int) (loop7:(ByteArray×Int)→Option ByteArray) (v5:ByteArray) (v6:Int):Option ByteArray:=
 cond (decide (v6<(x1.length:Int))) (
  cond (decide (0<v6)) (
   G ((((t0.getD t1.toNat Yc).Op)==12)=true→inR ((x1.length:Int)-1))<|
   G (((!(cond (((t0.getD t1.toNat Yc).Op)==12) (v6==((x1.length:Int)-1)) false))&&(((t0.getD t1.toNat Yc).Op)==13))=true→(Int.tmod ((t0.getD t1.toNat Yc).N) (8:Int))≠0)<|
   cond (cond (cond (((t0.getD t1.toNat Yc).Op)==12) (v6==((x1.length:Int)-1)) false) true (cond (((t0.getD t1.toNat Yc).Op)==13) ((Int.tmod v6 (Int.tmod ((t0.getD t1.toNat Yc).N) (8:Int)))==0) false)) (
    Y2n rec_f_R09_text t0 x1 loop7 v5 v6 (⟨#[59]⟩:ByteArray)) (
    Y2n rec_f_R09_text t0 x1 loop7 v5 v6 (⟨#[44]⟩:ByteArray))) (
   Y2o rec_f_R09_text t0 x1 loop7 v6 v5)) (
  G (v5.size+(⟨#[41]⟩:ByteArray).size≤9223372036854775807)<|
  some (v5++(⟨#[41]⟩:ByteArray)))
def Y3h (rec_f_R09_text:(List Y4)→Int→Option ByteArray) (t0:List Y4) (t1:Int) (x1:List Int):Option ByteArray:=
 (f_R09_name ((t0.getD t1.toNat Yc).Op)).bind fun x3=>
 G (x3.size+(⟨#[40]⟩:ByteArray).size≤9223372036854775807)<|
 iter (fun loop (s:ByteArray×Int)=>Y2p rec_f_R09_text t0 t1 x1 loop s.1 s.2) 1000000 (x3++(⟨#[40]⟩:ByteArray),(0:Int))
def Y10 (rec_f_R09_text:(List Y4)→Int→Option ByteArray) (t0:List Y4) (t1:Int) (x1:List Int) (v26:Bool):Option ByteArray:=
 cond v26 (
  G (0≤((t0.getD t1.toNat Yc).Op)∧((t0.getD t1.toNat Yc).Op)<([(⟨#[]⟩:ByteArray),(⟨#[]⟩:ByteArray),(⟨#[43]⟩:ByteArray),(⟨#[45]⟩:ByteArray),(⟨#[42]⟩:ByteArray),(⟨#[61]⟩:ByteArray)].length:Int))<|
  G (0≤(0:Int)∧(0:Int)<(x1.length:Int))<|
  (rec_f_R09_text t0 (x1.getD (0:Int).toNat (0:Int))).bind fun x30=>
  G (x30.size+([(⟨#[]⟩:ByteArray),(⟨#[]⟩:ByteArray),(⟨#[43]⟩:ByteArray),(⟨#[45]⟩:ByteArray),(⟨#[42]⟩:ByteArray),(⟨#[61]⟩:ByteArray)].getD ((t0.getD t1.toNat Yc).Op).toNat ByteArray.empty).size≤9223372036854775807)<|
  G (0≤(1:Int)∧(1:Int)<(x1.length:Int))<|
  (rec_f_R09_text t0 (x1.getD (1:Int).toNat (0:Int))).bind fun x33=>
  G ((x30++([(⟨#[]⟩:ByteArray),(⟨#[]⟩:ByteArray),(⟨#[43]⟩:ByteArray),(⟨#[45]⟩:ByteArray),(⟨#[42]⟩:ByteArray),(⟨#[61]⟩:ByteArray)].getD ((t0.getD t1.toNat Yc).Op).toNat ByteArray.empty)).size+x33.size≤9223372036854775807)<|
  some ((x30++([(⟨#[]⟩:ByteArray),(⟨#[]⟩:ByteArray),(⟨#[43]⟩:ByteArray),(⟨#[45]⟩:ByteArray),(⟨#[42]⟩:ByteArray),(⟨#[61]⟩:ByteArray)].getD ((t0.getD t1.toNat Yc).Op).toNat ByteArray.empty))++x33)) (
  Y3h rec_f_R09_text t0 t1 x1)
def f_R09_text_body (rec_f_R09_text:(List Y4)→Int→Option ByteArray) (t0:List Y4) (t1:Int):Option ByteArray:=
 (Y3l t0 t1).bind fun x1=>
 G (0≤t1∧t1<(t0.length:Int))<|
 cond (((t0.getD t1.toNat Yc).Op)==0) (
  (f_R09_Digits ((t0.getD t1.toNat Yc).N)).bind fun x23=>
  some x23) (
  cond (((t0.getD t1.toNat Yc).Op)==1) (
   G (inR (97+((t0.getD t1.toNat Yc).N)))<|
   some (strOf [IntKind.wrap .u8 (97+((t0.getD t1.toNat Yc).N))])) (
   cond (((t0.getD t1.toNat Yc).Op)==2) (
    Y10 rec_f_R09_text t0 t1 x1 (((t0.getD t1.toNat Yc).Op)==2)) (
    cond (((t0.getD t1.toNat Yc).Op)==3) (
     Y10 rec_f_R09_text t0 t1 x1 (((t0.getD t1.toNat Yc).Op)==3)) (
     cond (((t0.getD t1.toNat Yc).Op)==4) (
      Y10 rec_f_R09_text t0 t1 x1 (((t0.getD t1.toNat Yc).Op)==4)) (
      Y10 rec_f_R09_text t0 t1 x1 (((t0.getD t1.toNat Yc).Op)==5))))))
section
variable (t0:List Y4) (t1:Int) (v6:Int) (x1:List Int)
abbrev Z4k:=([(⟨#[]⟩:ByteArray),(⟨#[]⟩:ByteArray),(⟨#[43]⟩:ByteArray),(⟨#[45]⟩:ByteArray),(⟨#[42]⟩:ByteArray),(⟨#[61]⟩:ByteArray)].getD ((t0.getD t1.toNat Yc).Op).toNat ByteArray.empty)
abbrev Z4l:=t0.getD t1.toNat Yc
abbrev Z4m:Nat×AV:=(5,slA (eI .i64) x1)
abbrev Z4n:Nat×AV:=(0,slA Y3 t0)
abbrev Z4o:Nat×AV:=(6,.ref 6 0 0)
abbrev Z4p:=(Z4l t0 t1).Op
abbrev Z4q:List AV:=[.j (Z4p t0 t1),.j ((Z4l t0 t1).N)]
abbrev Z4r:Nat×AV:=(45,.ipt (x1.flatMap (eI .i64)) ((0:Int).toNat*1))
abbrev Z4s:=strOf [IntKind.wrap .u8 (97+((Z4l t0 t1).N))]
abbrev Z4t:=(cond ((Z4p t0 t1)==13) ((Int.tmod v6 (Int.tmod ((Z4l t0 t1).N) (8:Int)))==0) false)
abbrev Z4u:=(⟨#[]⟩:ByteArray)
abbrev Z4v:=(x1.getD (0:Int).toNat (0:Int))
abbrev Z4e:Hp:=[(6,⟨0,true,26,2,(Z4q t0 t1)⟩)]
abbrev Z4f:Env:=[(19,.j (Z4p t0 t1)),(Z4m x1),Z4o,(Z4n t0)]
abbrev Z4g:Env:=[(Z4n t0),(Z4m x1),Z4o]
abbrev Z4h:Env:=[(16,.ipt (t0.flatMap Y3) (t1.toNat*2)),(15,.j t1),(14,slA Y3 t0),(13,slA (eI .i64) x1),(12,.j t1),(11,slA Y3 t0),(Z4n t0),(1,.j t1)]
abbrev Z4i:Env:=[(Z4n t0),(Z4m x1)]
abbrev Z4j:Env:=[(Z4m x1),Z4o,(Z4n t0)]
end
theorem f_R09_text_body_ok{rec_f_R09_text:(List Y4)→Int→Option ByteArray}(hrec_f_R09_text:∀(t0:List Y4) (t1:Int) (r:ByteArray),rec_f_R09_text t0 t1=some r→QSpec Tryd.prog 48 [slA Y3 t0,.int .i64 t1] (.string r)){t0:List Y4}{t1:Int}{r:ByteArray}(H:f_R09_text_body rec_f_R09_text t0 t1=some r):QSpec Tryd.prog 48 [slA Y3 t0,.int .i64 t1] (.string r):=by
 refine Yy Tryd.func48 rfl (by simp[Tryd.ntmps48]) ?_;rw[Tryd.ntmps48];unfold f_R09_text_body at H;change AW _ _ _ [(Z4n t0),(1,.j t1)] [] _;refine Y0 (OpsW.sg 1 [0,1] [(Z4n t0),(1,.j t1)] ?_);refine Y2 (AW.drawGSeq 9 [(7,6)] Tryd.checked.mixed (by kernel_rfl) (by kernel_rfl) ?_);refine DOps.q 7 (by kernel_rfl)<|QOps.sz (N:=104) 2 [(12,.j t1),(11,slA Y3 t0),(Z4n t0),(1,.j t1)] trivial ?_;have⟨x1,hx1,H⟩:=Y13 H;refine QOps.qcall rfl (by kernel_rfl) rfl (Y02 trivial) (.cons (.pur rfl) (.cons (.pur rfl) .nil)) (f_R09_Operands_ok hx1) rfl ?_;have⟨g2,H⟩:=Ys H;refine QOps.sz (N:=104) 3 (Z4h t0 t1 x1) ⟨g2,trivial⟩ (QOps.asU (.agg (Z4q t0 t1)) rfl (Y57 (cs:=t0.flatMap Y3) (off:=t1.toNat*2) (ds:=Y3 (Z4l t0 t1)) rfl trivial (by kernel_rfl) (by have:=Y17 Y3 2 (fun _=>rfl) t0;have:=(ltN g2);first|omega|(simp only[Z4l,Z4p] at*;omega)) (fm_elem Y3 2 (fun _=>rfl) t0 Yc t1.toNat (ltN g2))) ?_);refine QOps.nil (DOps.e 6 rfl rfl rfl (by exact fun g hg hb=>RStep.alloc rfl 6 (hg.trans rfl) (by kernel_rfl:zc Tryd.prog 26=some [.j 0,.j 0]) (by kernel_rfl)) ?_);refine DOps.q 1 (by kernel_rfl)<|QOps.sz (N:=104) 1 ((Z4m x1)::Z4o::(17,.agg (Z4q t0 t1))::(Z4h t0 t1 x1)) trivial<|QOps.nil (DOps.nil ?_);refine OpsW.sg 0 [5,6,17,0] [(Z4m x1),Z4o,(17,.agg (Z4q t0 t1)),(Z4n t0)] (Y3e rfl rfl rfl rfl trivial trivial rfl rfl rfl (by kernel_rfl) (Y08 (by kernel_rfl)) (Xa (by kernel_rfl)) ?_)
 change OpsW _ _ _ _ _ [(6,⟨0,true,26,2,(Z4q t0 t1)⟩),(6,⟨0,true,26,2,[.j (0:Int),.j (0:Int)]⟩)] _;refine OpsW.sg 0 [5,6,0] (Z4j t0 x1) (OpsW.rc (Z4j t0 x1) (Z4e t0 t1) (StC.mk (phi [(6,some 6)]) (.o rfl (.i2 .nil) .nil) rfl (.cons .im (.cons (.r rfl) (.cons .im .nil)))) (Y2 ?_));refine Y1r (fun(y:Unit)=>Y3h rec_f_R09_text t0 t1 x1) r (fun(y:Unit)=>(Z4g t0 x1)) (fun(y:Unit)=>(Z4e t0 t1)) ?_ ?_
 ·refine Y0 (OpsW.sg 2 [19,5,6,0] (Z4f t0 t1 x1) ?_);refine Y2 (Y0c (Y0 (OpsW.sg 2 [20,19,5,6,0] ((20,.bool ((Z4p t0 t1)==0))::(Z4f t0 t1 x1)) ?_)));refine Y2 (Y9 (b:=(Z4p t0 t1)==0) H rfl (fun c22 H=> ?_) (fun c22 H=> ?_))
  ·refine Y0 (OpsW.sg 2 [23] [(23,.j ((Z4l t0 t1).N))] ?_);have⟨x23,hx23,H⟩:=Y13 H;refine Y19 rfl (.cons (.pur rfl) .nil) (f_R09_Digits_ok hx23) (OpsW.sg 1 [4] [(4,.string x23)] (Y2 ?_));obtain rfl:=X5 H;refine AW.recast (env':=[(4,.string x23)]) (h':=[]) (StC.pure (.cons .im .nil)) (Yt ?_)
   try simp only[Ex.t,Ex.b]
   exact Done.eq rfl (.tmp .nil)
  refine Y0 (OpsW.sg 2 [25,19,5,6,0] ((25,.bool ((Z4p t0 t1)==1))::(Z4f t0 t1 x1)) ?_);refine Y2 (Y9 (b:=(Z4p t0 t1)==1) H rfl (fun c24 H=> ?_) (fun c24 H=> ?_))
  ·refine Y0 ?_;have⟨g25,H⟩:=Ys H;refine OpsW.sz 4 [30] [(30,.int .u8 (IntKind.wrap .u8 (97+((Z4l t0 t1).N))))] ⟨g25,trivial⟩ (OpsW.buildTI (enc:=eI .u8) [IntKind.wrap .u8 (97+((Z4l t0 t1).N))] rfl rfl rfl E24 (fun _=>rfl) (by decide) ⟨trivial,by kernel_rfl,by kernel_rfl,by kernel_rfl,rfl⟩ (OpsW.quietU (.string (Z4s t0 t1)) rfl rfl (Quiet.toStr (e:=5) [IntKind.wrap .u8 (97+((Z4l t0 t1).N))] rfl (by kernel_rfl) (by kernel_rfl) (by kernel_rfl) (gpoU rfl ⟨trivial,SlV.im,SrcA.typed (enc:=eI .u8) (fun _=>rfl) (by kernel_rfl) [IntKind.wrap .u8 (97+((Z4l t0 t1).N))]⟩)) (OpsW.sg 1 [4] [(4,.string (Z4s t0 t1))] (Y2 ?_))));obtain rfl:=X5 H;refine AW.recast (env':=[(4,.string (Z4s t0 t1))]) (h':=[]) (StC.pure (.cons .im .nil)) (Yt ?_)
   try simp only[Ex.t,Ex.b]
   exact Done.eq rfl (.tmp .nil)
  refine Y1r (fun(y:Bool)=>Y10 rec_f_R09_text t0 t1 x1 y) r (fun(y:Bool)=>[(Z4n t0),(Z4m x1),Z4o,(33,.bool y)]) (fun(y:Bool)=>(Z4e t0 t1)) ?_ ?_
  ·refine Y0 (OpsW.sg 2 [33,19,5,6,0] ((33,.bool ((Z4p t0 t1)==2))::(Z4f t0 t1 x1)) ?_);refine Y2 (Y9 (b:=(Z4p t0 t1)==2) H rfl (fun c35 H=> ?_) (fun c35 H=> ?_))
   ·refine Yh ?_;exact⟨(Z4p t0 t1)==2,H,(StC.mk (phi [(6,some 6)]) (.o rfl (.i2 .nil) .nil) rfl (.i2 (.cons (.r rfl) (.cons .im .nil))))⟩
   refine Y0 (OpsW.sg 2 [33,19,5,6,0] ((33,.bool ((Z4p t0 t1)==3))::(Z4f t0 t1 x1)) ?_);refine Y2 (Y9 (b:=(Z4p t0 t1)==3) H rfl (fun c36 H=> ?_) (fun c36 H=> ?_))
   ·refine Yh ?_;exact⟨(Z4p t0 t1)==3,H,(StC.mk (phi [(6,some 6)]) (.o rfl (.i2 .nil) .nil) rfl (.i2 (.cons (.r rfl) (.cons .im .nil))))⟩
   refine Y0 (OpsW.sg 2 [33,19,5,6,0] ((33,.bool ((Z4p t0 t1)==4))::(Z4f t0 t1 x1)) ?_);refine Y2 (Y9 (b:=(Z4p t0 t1)==4) H rfl (fun c37 H=> ?_) (fun c37 H=> ?_))
   ·refine Yh ?_;exact⟨(Z4p t0 t1)==4,H,(StC.mk (phi [(6,some 6)]) (.o rfl (.i2 .nil) .nil) rfl (.i2 (.cons (.r rfl) (.cons .im .nil))))⟩
   refine Yu (OpsW.sg 2 [33,5,6,0] ((33,.bool ((Z4p t0 t1)==5))::(Z4j t0 x1)) ?_);refine Y2 ?_;exact⟨(Z4p t0 t1)==5,H,(StC.mk (phi [(6,some 6)]) (.o rfl (.i2 .nil) .nil) rfl (.i2 (.cons (.r rfl) (.cons .im .nil))))⟩
  intro v26 H;unfold Y10 at H;change AW _ _ _ [(Z4n t0),(Z4m x1),Z4o,(33,.bool v26)] (Z4e t0 t1) _;refine Y9 (b:=v26) H rfl (fun c27 H=> ?_) (fun c27 H=> ?_)
  ·refine Y0 (OpsW.buildTI (enc:=eS) [Z4u,Z4u,(⟨#[43]⟩:ByteArray),(⟨#[45]⟩:ByteArray),(⟨#[42]⟩:ByteArray),(⟨#[61]⟩:ByteArray)] rfl rfl rfl E89 (fun _=>rfl) (by decide) ⟨trivial,by kernel_rfl,by kernel_rfl,by kernel_rfl,rfl⟩ ?_);have⟨g28,H⟩:=Ys H;refine OpsW.sz 3 [41,0,5] ((41,.ipt ([Z4u,Z4u,(⟨#[43]⟩:ByteArray),(⟨#[45]⟩:ByteArray),(⟨#[42]⟩:ByteArray),(⟨#[61]⟩:ByteArray)].flatMap eS) ((Z4p t0 t1).toNat*1))::(Z4i t0 x1)) ⟨g28,trivial⟩ (OpsW.asU (.string (Z4k t0 t1)) rfl rfl (T.load rfl trivial (by kernel_rfl) (fm_cell0 eS 1 (fun _=>rfl) [Z4u,Z4u,(⟨#[43]⟩:ByteArray),(⟨#[45]⟩:ByteArray),(⟨#[42]⟩:ByteArray),(⟨#[61]⟩:ByteArray)] ByteArray.empty (Z4p t0 t1).toNat (ltN g28) (fun a=>.val (.string a)) (fun _=>rfl))) (OpsW.sg 1 [7,0,5] ((7,.string (Z4k t0 t1))::(Z4i t0 x1)) ?_));refine Y2 (Y2r Tryd.checked.mixed (by kernel_rfl) ?_);have⟨g29,H⟩:=Ys H;refine QOps.sz (N:=104) 3 ((Z4r x1)::(44,slA (eI .i64) x1)::(43,slA Y3 t0)::(7,.string (Z4k t0 t1))::(Z4i t0 x1)) ⟨g29,trivial⟩ (QOps.asU (.j (Z4v x1)) rfl (T.load rfl trivial (by kernel_rfl) (fm_cell0 (eI .i64) 1 (fun _=>rfl) x1 (0:Int) (0:Int).toNat (ltN g29) (fun a=>.val (.j a)) (fun _=>rfl))) ?_);have⟨x30,hx30,H⟩:=Y13 H;refine QOps.qcall rfl (by kernel_rfl) rfl (Y02 trivial) (.cons (.pur rfl) (.cons (.pur rfl) .nil)) (hrec_f_R09_text _ _ _ hx30) rfl ?_;have⟨g31,H⟩:=Ys H;have⟨g32,H⟩:=Ys H
   refine QOps.sz (N:=104) 5 ((52,.ipt (x1.flatMap (eI .i64)) ((1:Int).toNat*1))::(51,slA (eI .i64) x1)::(50,slA Y3 t0)::(49,.string (x30++(Z4k t0 t1)))::(48,.string (Z4k t0 t1))::(47,.string x30)::(46,.j (Z4v x1))::(Z4r x1)::(44,slA (eI .i64) x1)::(43,slA Y3 t0)::(7,.string (Z4k t0 t1))::(Z4i t0 x1)) ⟨g31,g32,trivial⟩ (QOps.asU (.j (x1.getD (1:Int).toNat (0:Int))) rfl (T.load rfl trivial (by kernel_rfl) (fm_cell0 (eI .i64) 1 (fun _=>rfl) x1 (0:Int) (1:Int).toNat (ltN g32) (fun a=>.val (.j a)) (fun _=>rfl))) ?_);have⟨x33,hx33,H⟩:=Y13 H;refine QOps.qcall rfl (by kernel_rfl) rfl (Y02 trivial) (.cons (.pur rfl) (.cons (.pur rfl) .nil)) (hrec_f_R09_text _ _ _ hx33) rfl ?_;have⟨g34,H⟩:=Ys H;refine QOps.sz (N:=104) 2 ((4,.string ((x30++(Z4k t0 t1))++x33))::(55,.string ((x30++(Z4k t0 t1))++x33))::(54,.string x33)::(53,.j (x1.getD (1:Int).toNat (0:Int)))::(52,.ipt (x1.flatMap (eI .i64)) ((1:Int).toNat*1))::(51,slA (eI .i64) x1)::(50,slA Y3 t0)::(49,.string (x30++(Z4k t0 t1)))::(48,.string (Z4k t0 t1))::(47,.string x30)::(46,.j (Z4v x1))::(Z4r x1)::(44,slA (eI .i64) x1)::(43,slA Y3 t0)::(7,.string (Z4k t0 t1))::(Z4i t0 x1)) ⟨g34,trivial⟩ ?_;refine QOps.nil (AW.trim [4] [(4,.string ((x30++(Z4k t0 t1))++x33))] (by kernel_rfl) ?_);obtain rfl:=X5 H
   refine AW.recast (env':=[(4,.string ((x30++(Z4k t0 t1))++x33))]) (h':=[]) (StC.pure (.cons .im .nil)) (Yt ?_)
   try simp only[Ex.t,Ex.b]
   exact Done.eq rfl (.tmp .nil)
  refine Yh ?_;exact⟨(),H,(StC.mk (phi [(6,some 6)]) (.o rfl (.i2 .nil) .nil) rfl (.i2 (.cons (.r rfl) .nil)))⟩
 rintro⟨⟩ H;unfold Y3h at H;change AW _ _ _ (Z4g t0 x1) (Z4e t0 t1) _;refine Y0 (OpsW.sg 2 [57,0,5,6] ((57,.j (Z4p t0 t1))::(Z4g t0 x1)) ?_);have⟨x3,hx3,H⟩:=Y13 H;refine Y19 rfl (.cons (.pur rfl) .nil) (f_R09_name_ok hx3) ?_;have⟨g4,H⟩:=Ys H;refine OpsW.sz 2 [8,0,5,6] ((8,.string (x3++(⟨#[40]⟩:ByteArray)))::(Z4g t0 x1)) ⟨g4,trivial⟩<|Y2 (Y0k (Y0 (OpsW.sg 1 [9,8,0,5,6] ((9,.j (0:Int))::(8,.string (x3++(⟨#[40]⟩:ByteArray)))::(Z4g t0 x1)) ?_)));refine Y2 (Y0c ?_);refine Y51 (fun loop (s:ByteArray×Int)=>Y2p rec_f_R09_text t0 t1 x1 loop s.1 s.2) r (fun(s:ByteArray×Int)=>[(Z4n t0),(Z4m x1),Z4o,(8,.string s.1),(9,.j s.2)]) (fun(s:ByteArray×Int)=>(Z4e t0 t1)) ?_ 1000000 (x3++(⟨#[40]⟩:ByteArray),(0:Int)) H (StC.mk (phi [(6,some 6)]) (.o rfl (.i2 .nil) .nil) rfl (.i2 (.cons (.r rfl) (.i2 .nil))));intro loop7 s H;obtain⟨v5,v6⟩:=s;unfold Y2p at H;change AW _ _ _ [(Z4n t0),(Z4m x1),Z4o,(8,.string v5),(9,.j v6)] (Z4e t0 t1) _;refine Y0k (Y0 (OpsW.sg 4 [63,0,5,6,8,9] [(63,.bool (decide (v6<(x1.length:Int)))),(Z4n t0),(Z4m x1),Z4o,(8,.string v5),(9,.j v6)] ?_));refine Y2 (Y9 (b:=decide (v6<(x1.length:Int))) H rfl (fun c8 H=> ?_) (fun c8 H=> ?_))
 ·refine Yh<|Y1r (fun(y:ByteArray)=>Y4o loop7 v6 y) r (fun(y:ByteArray)=>[(Z4n t0),(Z4m x1),Z4o,(8,.string y),(9,.j v6)]) (fun(y:ByteArray)=>(Z4e t0 t1)) ?_ ?_
  ·refine Y0c<|Y1r (fun(y:ByteArray)=>Y2o rec_f_R09_text t0 x1 loop7 v6 y) r (fun(y:ByteArray)=>[(Z4n t0),(Z4m x1),Z4o,(8,.string y),(9,.j v6)]) (fun(y:ByteArray)=>(Z4e t0 t1)) ?_ ?_
   ·refine Y0 (OpsW.sg 2 [67,0,5,6,8,9] [(67,.bool (decide (0<v6))),(Z4n t0),(Z4m x1),Z4o,(8,.string v5),(9,.j v6)] ?_);refine Y2 (Y9 (b:=decide (0<v6)) H rfl (fun c15 H=> ?_) (fun c15 H=> ?_))
    ·refine Y0 (OpsW.sg 1 [10,0,5,6,8,9] [(10,.string (⟨#[44]⟩:ByteArray)),(Z4n t0),(Z4m x1),Z4o,(8,.string v5),(9,.j v6)] ?_);refine Y2<|Y1r (fun(y:ByteArray)=>Y2n rec_f_R09_text t0 x1 loop7 v5 v6 y) r (fun(y:ByteArray)=>[(Z4n t0),(Z4m x1),Z4o,(8,.string v5),(9,.j v6),(10,.string y)]) (fun(y:ByteArray)=>(Z4e t0 t1)) ?_ ?_
     ·refine Y0 ?_;have⟨g18,H⟩:=Ys H;have⟨g19,H⟩:=Ys H;refine OpsW.sz 23 [90,10,0,5,6,8,9] [(90,.bool (cond (cond ((Z4p t0 t1)==12) (v6==((x1.length:Int)-1)) false) true (Z4t t0 t1 v6))),(10,.string (⟨#[44]⟩:ByteArray)),(Z4n t0),(Z4m x1),Z4o,(8,.string v5),(9,.j v6)] ⟨(fun h=>h),(fun h=>h),g18,(fun h=>h),(fun h=>h),(fun h=>by first|exact h|(simpa using h)|grind),(fun h=>h),(fun h=>h),(fun h=>h),(fun h=>h),(fun h=>h),(fun _=>by decide),(fun h=>h),(fun h=>h),g19,(fun h=>h),(fun h=>h),(fun h0 h=>by first|exact h|(simp[h0,h];done)|(simp at h0 h⊢;simp[h0,h];done)|(simp_all;done)|grind),(fun h=>by first|exact h|(simpa using h)|grind),trivial⟩ (Y2 (Y9 (b:=cond (cond ((Z4p t0 t1)==12) (v6==((x1.length:Int)-1)) false) true (Z4t t0 t1 v6)) H rfl (fun c20 H=> ?_) (fun c20 H=> ?_)))
      ·refine Yu (OpsW.sg 1 [10,0,5,6,8,9] [(10,.string (⟨#[59]⟩:ByteArray)),(Z4n t0),(Z4m x1),Z4o,(8,.string v5),(9,.j v6)] ?_);refine Y2 ?_;exact⟨(⟨#[59]⟩:ByteArray),H,(StC.mk (phi [(6,some 6)]) (.o rfl (.i2 .nil) .nil) rfl (.i2 (.cons (.r rfl) (.i3 .nil))))⟩
      refine Yh ?_;exact⟨(⟨#[44]⟩:ByteArray),H,(StC.mk (phi [(6,some 6)]) (.o rfl (.i2 .nil) .nil) rfl (.i2 (.cons (.r rfl) (.i3 .nil))))⟩
     intro v16 H;unfold Y2n at H;change AW _ _ _ [(Z4n t0),(Z4m x1),Z4o,(8,.string v5),(9,.j v6),(10,.string v16)] (Z4e t0 t1) _;refine Yu ?_;have⟨g17,H⟩:=Ys H;refine OpsW.sz 4 [8,0,5,6,9] [(8,.string (v5++v16)),(Z4n t0),(Z4m x1),Z4o,(9,.j v6)] ⟨g17,trivial⟩ (Y2 ?_);exact⟨v5++v16,H,(StC.mk (phi [(6,some 6)]) (.o rfl (.i2 .nil) .nil) rfl (.i2 (.cons (.r rfl) (.i2 .nil))))⟩
    refine Yh ?_;exact⟨v5,H,(StC.mk (phi [(6,some 6)]) (.o rfl (.i2 .nil) .nil) rfl (.i2 (.cons (.r rfl) (.i2 .nil))))⟩
   intro v11 H;unfold Y2o at H;change AW _ _ _ [(Z4n t0),(Z4m x1),Z4o,(8,.string v11),(9,.j v6)] (Z4e t0 t1) _;refine Yu ?_;have⟨g12,H⟩:=Ys H;refine OpsW.sz 5 [98,95,94,0,5,6,8,9] [(98,.ipt (x1.flatMap (eI .i64)) (v6.toNat*1)),(95,slA Y3 t0),(94,.string v11),(Z4n t0),(Z4m x1),Z4o,(8,.string v11),(9,.j v6)] ⟨g12,trivial⟩ (OpsW.asU (.j (x1.getD v6.toNat 0)) rfl rfl (T.load rfl trivial (by kernel_rfl) (fm_cell0 (eI .i64) 1 (fun _=>rfl) x1 (0:Int) v6.toNat (ltN g12) (fun a=>.val (.j a)) (fun _=>rfl))) ?_);have⟨x13,hx13,H⟩:=Y13 H;refine Y19 rfl (.cons (.pur rfl) (.cons (.pur rfl) .nil)) (hrec_f_R09_text _ _ _ hx13) ?_;have⟨g14,H⟩:=Ys H;refine OpsW.sz 2 [8,0,5,6,9] [(8,.string (v11++x13)),(Z4n t0),(Z4m x1),Z4o,(9,.j v6)] ⟨g14,trivial⟩ (Y2 ?_);exact⟨v11++x13,H,(StC.mk (phi [(6,some 6)]) (.o rfl (.i2 .nil) .nil) rfl (.i2 (.cons (.r rfl) (.i2 .nil))))⟩
  intro v9 H;unfold Y4o at H;change AW _ _ _ [(Z4n t0),(Z4m x1),Z4o,(8,.string v9),(9,.j v6)] (Z4e t0 t1) _;refine Yu ?_;have⟨g10,H⟩:=Ys H;refine OpsW.sz 3 [9,0,5,6,8] [(9,.j (v6+1)),(Z4n t0),(Z4m x1),Z4o,(8,.string v9)] ⟨g10,trivial⟩ (Y2 ?_);exact⟨(v9,v6+1),H,(StC.mk (phi [(6,some 6)]) (.o rfl (.i2 .nil) .nil) rfl (.i2 (.cons (.r rfl) (.i2 .nil))))⟩
 refine AW.exit (Y0 ?_);have⟨g21,H⟩:=Ys H;refine OpsW.sz 3 [4] [(4,.string (v5++(⟨#[41]⟩:ByteArray)))] ⟨g21,trivial⟩ (Y2 ?_);obtain rfl:=X5 H;refine AW.recast (env':=[(4,.string (v5++(⟨#[41]⟩:ByteArray)))]) (h':=[]) (StC.pure (.cons .im .nil)) (Yt ?_)
 try simp only[Ex.t,Ex.b]
 exact Done.eq rfl (.tmp .nil)
def Y27:Nat→(List Y4)→Int→Option ByteArray
 |0,_,_=>none
 |n+1,t0,t1=>f_R09_text_body (Y27 n) t0 t1
theorem f_R09_text_all:∀n:Nat,(∀(t0:List Y4) (t1:Int) (r:ByteArray),Y27 n t0 t1=some r→QSpec Tryd.prog 48 [slA Y3 t0,.int .i64 t1] (.string r))∧True
 |0=>by
  refine⟨?_,trivial⟩
  ·intro t0 t1 r H;rw[Y27] at H;cases H
 |n+1=>by
  have ih:=f_R09_text_all n;refine⟨?_,trivial⟩
  ·intro t0 t1 r H;rw[Y27] at H;exact f_R09_text_body_ok ih.1 H
def f_R09_text (t0:List Y4) (t1:Int):Option ByteArray:=Y27 1000000 t0 t1
theorem f_R09_text_ok{t0:List Y4}{t1:Int}{r:ByteArray}(H:f_R09_text t0 t1=some r):QSpec Tryd.prog 48 [slA Y3 t0,.int .i64 t1] (.string r):=
 (f_R09_text_all 1000000).1 t0 t1 r H
def f_R09_Text (t0:List Y4):Option ByteArray:=
 (f_R09_text t0 (0:Int)).bind fun x1=>
 some x1
theorem f_R09_Text_ok{t0:List Y4}{r:ByteArray}(H:f_R09_Text t0=some r):QSpec Tryd.prog 30 [slA Y3 t0] (.string r):=by
 refine Yy Tryd.func30 rfl (by simp[Tryd.ntmps30]) ?_;rw[Tryd.ntmps30];unfold f_R09_Text at H;change AW _ _ _ [(0,slA Y3 t0)] [] _;refine Y0 (OpsW.sg 1 [0] [(0,slA Y3 t0)] ?_);refine Y2 (Y0 (OpsW.sg 1 [3] [(3,slA Y3 t0)] ?_));have⟨x1,hx1,H⟩:=Y13 H;refine Y19 rfl (.cons (.pur rfl) (.cons (.pur rfl) .nil)) (f_R09_text_ok hx1) (OpsW.sg 1 [2] [(2,.string x1)] (Y2 ?_));obtain rfl:=X5 H;refine AW.recast (env':=[(2,.string x1)]) (h':=[]) (StC.pure (.cons .im .nil)) (Yt ?_)
 try simp only[Ex.t,Ex.b]
 exact Done.eq rfl (.tmp .nil)
def f_R09_Print (t0:List Y4):Option ByteArray:=
 (f_R09_Valid t0).bind fun x1=>
 cond (!x1) (
  some (⟨#[]⟩:ByteArray)) (
  (f_R09_Text t0).bind fun x3=>
  some x3)
theorem f_R09_Print_ok{t0:List Y4}{r:ByteArray}(H:f_R09_Print t0=some r):QSpec Tryd.prog 15 [slA Y3 t0] (.string r):=by
 refine Yy Tryd.func15 rfl (by simp[Tryd.ntmps15]) ?_;rw[Tryd.ntmps15];unfold f_R09_Print at H;change AW _ _ _ [(0,slA Y3 t0)] [] _;refine Y0 (OpsW.sg 1 [0] [(0,slA Y3 t0)] ?_);refine Y2 (Y0k (Y0 (OpsW.sg 1 [3,0] [(3,slA Y3 t0),(0,slA Y3 t0)] ?_)));have⟨x1,hx1,H⟩:=Y13 H;refine Y19 rfl (.cons (.pur rfl) .nil) (f_R09_Valid_ok hx1) (OpsW.sg 1 [5,0] [(5,.bool (!x1)),(0,slA Y3 t0)] (Y2 (Y9 (b:= !x1) H rfl (fun c2 H=> ?_) (fun c2 H=> ?_))))
 ·refine Y0 (OpsW.sg 1 [2] [(2,.string (⟨#[]⟩:ByteArray))] ?_);refine Y2 ?_;obtain rfl:=X5 H;refine AW.recast (env':=[(2,.string (⟨#[]⟩:ByteArray))]) (h':=[]) (StC.pure (.cons .im .nil)) (Yt ?_)
  try simp only[Ex.t,Ex.b]
  exact Done.eq rfl (.tmp .nil)
 refine Yh (Y0 (OpsW.sg 1 [6] [(6,slA Y3 t0)] ?_));have⟨x3,hx3,H⟩:=Y13 H;refine Y19 rfl (.cons (.pur rfl) .nil) (f_R09_Text_ok hx3) (OpsW.sg 1 [2] [(2,.string x3)] (Y2 ?_));obtain rfl:=X5 H;refine AW.recast (env':=[(2,.string x3)]) (h':=[]) (StC.pure (.cons .im .nil)) (Yt ?_)
 try simp only[Ex.t,Ex.b]
 exact Done.eq rfl (.tmp .nil)
def Y3j (t0:List Y4) (t1:List Y4) (loop3:(Int)→Option Bool) (v2:Int):Option Bool:=
 cond (decide (v2<(t0.length:Int))) (
  G (0≤v2∧v2<(t0.length:Int))<|
  G (0≤v2∧v2<(t1.length:Int))<|
  cond (xor true ([((t0.getD v2.toNat Yc).Op)==((t1.getD v2.toNat Yc).Op),((t0.getD v2.toNat Yc).N)==((t1.getD v2.toNat Yc).N)].all id)) (
   some false) (
   G (inR (v2+1))<|
   loop3 (v2+1))) (
  some true)
def f_R09_Same (t0:List Y4) (t1:List Y4):Option Bool:=
 cond ((t0.length:Int) !=(t1.length:Int)) (
  some false) (
  iter (fun loop (s:Int)=>Y3j t0 t1 loop s) 1000000 (0:Int))
section
variable (t0:List Y4) (t1:List Y4) (v2:Int)
abbrev Z5e:=[((t0.getD v2.toNat Yc).Op)==((t1.getD v2.toNat Yc).Op),((t0.getD v2.toNat Yc).N)==((t1.getD v2.toNat Yc).N)].all id
abbrev Z5f:=t0.getD v2.toNat Yc
abbrev Z5g:=t1.getD v2.toNat Yc
abbrev Z5b:Env:=[(19,.ipt (t0.flatMap Y3) (v2.toNat*2)),(18,.j v2),(17,slA Y3 t0),(14,.bool (decide (v2<(t0.length:Int)))),(0,slA Y3 t0),(1,slA Y3 t1),(5,.j v2)]
abbrev Z5c:Env:=[(0,slA Y3 t0),(1,slA Y3 t1)]
abbrev Z5d:Env:=[(0,slA Y3 t0),(1,slA Y3 t1),(5,.j v2)]
end
theorem f_R09_Same_ok{t0:List Y4}{t1:List Y4}{r:Bool}(H:f_R09_Same t0 t1=some r):QSpec Tryd.prog 17 [slA Y3 t0,slA Y3 t1] (.bool r):=by
 refine Yy Tryd.func17 rfl (by simp[Tryd.ntmps17]) ?_;rw[Tryd.ntmps17];unfold f_R09_Same at H;change AW _ _ _ (Z5c t0 t1) [] _;refine Y0 (OpsW.sg 1 [0,1] (Z5c t0 t1) ?_);refine Y2 (Y0k (Y0 (OpsW.sg 5 [10,0,1] ((10,.bool ((t0.length:Int) !=(t1.length:Int)))::(Z5c t0 t1)) ?_)));refine Y2 (Y9 (b:=(t0.length:Int) !=(t1.length:Int)) H rfl (fun c1 H=> ?_) (fun c1 H=> ?_))
 ·refine Y0 (OpsW.sg 1 [4] [(4,.bool false)] ?_);refine Y2 ?_;obtain rfl:=X5 H;refine AW.recast (env':=[(4,.bool false)]) (h':=[]) (StC.pure (.cons .im .nil)) (Yt ?_)
  try simp only[Ex.t,Ex.b]
  exact Done.eq rfl (.tmp .nil)
 refine Yh (Y0k (Y0 (OpsW.sg 1 [5,0,1] ((5,.j (0:Int))::(Z5c t0 t1)) ?_)));refine Y2 (Y0c ?_);refine Y51 (fun loop (s:Int)=>Y3j t0 t1 loop s) r (fun(s:Int)=>[(0,slA Y3 t0),(1,slA Y3 t1),(5,.j s)]) (fun(s:Int)=>[]) ?_ 1000000 (0:Int) H (StC.pure (.i3 .nil));intro loop3 v2 H;unfold Y3j at H;change AW _ _ _ (Z5d t0 t1 v2) [] _;refine Y0k (Y0 (OpsW.sg 4 [14,0,1,5] ((14,.bool (decide (v2<(t0.length:Int))))::(Z5d t0 t1 v2)) ?_));refine Y2 (Y9 (b:=decide (v2<(t0.length:Int))) H rfl (fun c4 H=> ?_) (fun c4 H=> ?_))
 ·refine Yh (Y0k (Y0c (Y2r Tryd.checked.mixed (by kernel_rfl) ?_)));have⟨g5,H⟩:=Ys H;refine QOps.sz (N:=26) 3 (Z5b t0 t1 v2) ⟨g5,trivial⟩ (QOps.asU (.agg [.j ((Z5f t0 v2).Op),.j ((Z5f t0 v2).N)]) rfl (Y57 (cs:=t0.flatMap Y3) (off:=v2.toNat*2) (ds:=Y3 (Z5f t0 v2)) rfl trivial (by kernel_rfl) (by have:=Y17 Y3 2 (fun _=>rfl) t0;have:=(ltN g5);first|omega|(simp only[Z5f] at*;omega)) (fm_elem Y3 2 (fun _=>rfl) t0 Yc v2.toNat (ltN g5))) ?_);have⟨g6,H⟩:=Ys H;refine QOps.sz (N:=26) 3 ((23,.ipt (t1.flatMap Y3) (v2.toNat*2))::(22,.j v2)::(21,slA Y3 t1)::(20,.agg [.j ((Z5f t0 v2).Op),.j ((Z5f t0 v2).N)])::(Z5b t0 t1 v2)) ⟨g6,trivial⟩ (QOps.asU (.agg [.j ((Z5g t1 v2).Op),.j ((Z5g t1 v2).N)]) rfl (Y57 (cs:=t1.flatMap Y3) (off:=v2.toNat*2) (ds:=Y3 (Z5g t1 v2)) rfl trivial (by kernel_rfl) (by have:=Y17 Y3 2 (fun _=>rfl) t1;have:=(ltN g6);first|omega|(simp only[Z5e,Z5f,Z5g] at*;omega)) (fm_elem Y3 2 (fun _=>rfl) t1 Yc v2.toNat (ltN g6))) (QOps.quietU (.bool (xor true (Z5e t0 t1 v2))) rfl (Quiet.eqAgg [.j ((Z5f t0 v2).Op),.j ((Z5f t0 v2).N)] [.j ((Z5g t1 v2).Op),.j ((Z5g t1 v2).N)] [((Z5f t0 v2).Op)==((Z5g t1 v2).Op),((Z5f t0 v2).N)==((Z5g t1 v2).N)] true rfl rfl (by kernel_rfl) (by kernel_rfl) (gpoU rfl ⟨trivial,rfl,trivial,rfl⟩)) ?_));refine QOps.nil (AW.trim [25,0,1,5] ((25,.bool (xor true (Z5e t0 t1 v2)))::(Z5d t0 t1 v2)) (by kernel_rfl) ?_)
  refine Y9 (b:=xor true (Z5e t0 t1 v2)) H rfl (fun c7 H=> ?_) (fun c7 H=> ?_)
  ·refine Y0 (OpsW.sg 1 [4] [(4,.bool false)] ?_);refine Y2 ?_;obtain rfl:=X5 H;refine AW.recast (env':=[(4,.bool false)]) (h':=[]) (StC.pure (.cons .im .nil)) (Yt ?_)
   try simp only[Ex.t,Ex.b]
   exact Done.eq rfl (.tmp .nil)
  refine Yh (Yu ?_);have⟨g8,H⟩:=Ys H;refine OpsW.sz 3 [5,0,1] ((5,.j (v2+1))::(Z5c t0 t1)) ⟨g8,trivial⟩ (Y2 ?_);exact⟨v2+1,H,(StC.pure (.i3 .nil))⟩
 refine AW.exit<|Y0 (OpsW.sg 1 [4] [(4,.bool true)] ?_);refine Y2 ?_;obtain rfl:=X5 H;refine AW.recast (env':=[(4,.bool true)]) (h':=[]) (StC.pure (.cons .im .nil)) (Yt ?_)
 try simp only[Ex.t,Ex.b]
 exact Done.eq rfl (.tmp .nil)
def Y3p (t0:List Int) (t1:List Int):Option Bool:=
 (f_L09_sanity).bind fun x1=>
 (f_R09_Made t0).bind fun x2=>
 (f_R09_Made t1).bind fun x3=>
 (Y3s x2).bind fun x4=>
 (Y3t x4).bind fun x5=>
 (f_R09_Print x2).bind fun x6=>
 (cond (cond (cond (x4.toList==x6.toList) (x5.2.2==0) false) (x5.2.1==(x4.size:Int)) false) (f_R09_Same x5.1 x2) (some false)).bind fun x7=>
 (cond (cond (cond (cond (x4.toList==x6.toList) (x5.2.2==0) false) (x5.2.1==(x4.size:Int)) false) x7 false) (Y3s x3) (some ByteArray.empty)).bind fun x8=>
 (cond (cond (cond (cond (x4.toList==x6.toList) (x5.2.2==0) false) (x5.2.1==(x4.size:Int)) false) x7 false) (f_R09_Same x2 x3) (some false)).bind fun x9=>
 some (cond (cond (cond (cond (cond (x4.toList==x6.toList) (x5.2.2==0) false) (x5.2.1==(x4.size:Int)) false) x7 false) ((x4.toList==x8.toList)==x9) false) x1 false)
section
variable (x2:(List Y4)) (x3:(List Y4)) (x4:ByteArray) (x6:ByteArray)
abbrev Z5h:=x4.toList==x6.toList
abbrev Z5i:=(x4.size:Int)
abbrev Z5j:Nat×AV:=(7,slA Y3 x3)
abbrev Z5k:Nat×AV:=(6,slA Y3 x2)
end
theorem f_L09_FormulaInverts_ok{t0:List Int}{t1:List Int}{r:Bool}(H:Y3p t0 t1=some r):QSpec Tryd.prog 4 [slA (eI .u8) t0,slA (eI .u8) t1] (.bool r):=by
 refine Yy Tryd.func4 rfl (by simp[Tryd.ntmps4]) ?_;rw[Tryd.ntmps4];unfold Y3p at H;change AW _ _ _ [(0,sU t0),(1,sU t1)] [] _;refine Y0 (OpsW.sg 1 [0,1] [(0,sU t0),(1,sU t1)] ?_);refine Y2 (Y0 ?_);have⟨x1,hx1,H⟩:=Y13 H;refine Y19 rfl .nil (f_L09_sanity_ok hx1) (OpsW.sg 1 [5,0,1] [(5,.bool x1),(0,sU t0),(1,sU t1)] ?_);refine Y2 (Y0 (OpsW.sg 1 [13,5,1] [(13,sU t0),(5,.bool x1),(1,sU t1)] ?_));have⟨x2,hx2,H⟩:=Y13 H;refine Y19 rfl (.cons (.pur rfl) .nil) (f_R09_Made_ok hx2) (OpsW.sg 1 [15,14,5] [(15,sU t1),(14,slA Y3 x2),(5,.bool x1)] ?_);have⟨x3,hx3,H⟩:=Y13 H;refine Y19 rfl (.cons (.pur rfl) .nil) (f_R09_Made_ok hx3) (OpsW.sg 2 [7,6,5] [(Z5j x3),(Z5k x2),(5,.bool x1)] ?_);refine Y2 (Y0 (OpsW.sg 1 [17,7,6,5] [(17,slA Y3 x2),(Z5j x3),(Z5k x2),(5,.bool x1)] ?_));have⟨x4,hx4,H⟩:=Y13 H;refine Y19 rfl (.cons (.pur rfl) .nil) (f_formula_Print_ok hx4) (OpsW.sg 1 [8,7,6,5] [(8,.string x4),(Z5j x3),(Z5k x2),(5,.bool x1)] ?_);refine Y2 (Y0 (OpsW.sg 1 [20,8,7,6,5] [(20,.string x4),(8,.string x4),(Z5j x3),(Z5k x2),(5,.bool x1)] ?_));have⟨x5,hx5,H⟩:=Y13 H;refine Y19 rfl (.cons (.pur rfl) .nil) (f_formula_Parse_ok hx5) (OpsW.sg 7 [11,10,9,8,7,6,5] [(11,.j x5.2.2),(10,.j x5.2.1),(9,slA Y3 x5.1),(8,.string x4),(Z5j x3),(Z5k x2),(5,.bool x1)] ?_)
 refine Y2 (Y0 (OpsW.sg 2 [26,25,11,10,9,8,7,6,5] [(26,slA Y3 x2),(25,.string x4),(11,.j x5.2.2),(10,.j x5.2.1),(9,slA Y3 x5.1),(8,.string x4),(Z5j x3),(Z5k x2),(5,.bool x1)] ?_));have⟨x6,hx6,H⟩:=Y13 H;refine Y19 rfl (.cons (.pur rfl) .nil) (f_R09_Print_ok hx6) (OpsW.sz 14 [41,40,39,8,7,6,5] [(41,.cnd (cond (cond (Z5h x4 x6) (x5.2.2==0) false) (x5.2.1==(Z5i x4)) false) (slA Y3 x2)),(40,.cnd (cond (cond (Z5h x4 x6) (x5.2.2==0) false) (x5.2.1==(Z5i x4)) false) (slA Y3 x5.1)),(39,.bool (cond (cond (Z5h x4 x6) (x5.2.2==0) false) (x5.2.1==(Z5i x4)) false)),(8,.string x4),(Z5j x3),(Z5k x2),(5,.bool x1)] ⟨(fun h=>h),(fun h=>by first|exact h|(simpa using h)|grind),(fun h=>h),(fun h=>h),(fun h=>h),(fun h=>by first|exact h|(simpa using h)|grind),trivial⟩ ?_);have⟨x7,hx7,H⟩:=Y13 H
 refine OpsW.gcall (c:=cond (cond (Z5h x4 x6) (x5.2.2==0) false) (x5.2.1==(Z5i x4)) false) (r:=.bool x7) [] rfl (by kernel_rfl) rfl rfl rfl rfl (fun hc=>⟨Y02 ⟨hc,hc,trivial⟩,(.cons (.pur rfl) (.cons (.pur rfl) .nil)),f_R09_Same_ok (condT hc hx7),.inl ⟨rfl,rfl⟩⟩) (OpsW.sz 4 [46,45,44,7,6,5] [(46,.cnd (cond (cond (cond (Z5h x4 x6) (x5.2.2==0) false) (x5.2.1==(Z5i x4)) false) x7 false) (slA Y3 x3)),(45,.cnd (cond (cond (cond (Z5h x4 x6) (x5.2.2==0) false) (x5.2.1==(Z5i x4)) false) x7 false) (.string x4)),(44,.bool (cond (cond (cond (Z5h x4 x6) (x5.2.2==0) false) (x5.2.1==(Z5i x4)) false) x7 false)),(Z5j x3),(Z5k x2),(5,.bool x1)] ⟨(fun h=>by first|exact h|(simpa using h)|grind),trivial⟩ ?_);have⟨x8,hx8,H⟩:=Y13 H
 refine OpsW.gcall (c:=cond (cond (cond (Z5h x4 x6) (x5.2.2==0) false) (x5.2.1==(Z5i x4)) false) x7 false) (r:=.string x8) [] rfl (by kernel_rfl) rfl rfl rfl rfl (fun hc=>⟨Y02 ⟨hc,trivial⟩,(.cons (.pur rfl) .nil),f_formula_Print_ok (condT hc hx8),.inl ⟨rfl,rfl⟩⟩) (OpsW.sz 3 [50,49,48,44,5] [(50,.cnd (cond (cond (cond (Z5h x4 x6) (x5.2.2==0) false) (x5.2.1==(Z5i x4)) false) x7 false) (slA Y3 x3)),(49,.cnd (cond (cond (cond (Z5h x4 x6) (x5.2.2==0) false) (x5.2.1==(Z5i x4)) false) x7 false) (slA Y3 x2)),(48,.cnd (cond (cond (cond (Z5h x4 x6) (x5.2.2==0) false) (x5.2.1==(Z5i x4)) false) x7 false) (.bool (x4.toList==x8.toList))),(44,.bool (cond (cond (cond (Z5h x4 x6) (x5.2.2==0) false) (x5.2.1==(Z5i x4)) false) x7 false)),(5,.bool x1)] ⟨(fun h=>h),(fun h=>h),trivial⟩ ?_);have⟨x9,hx9,H⟩:=Y13 H;refine OpsW.gcall (c:=cond (cond (cond (Z5h x4 x6) (x5.2.2==0) false) (x5.2.1==(Z5i x4)) false) x7 false) (r:=.bool x9) [] rfl (by kernel_rfl) rfl rfl rfl rfl (fun hc=>⟨Y02 ⟨hc,hc,trivial⟩,(.cons (.pur rfl) (.cons (.pur rfl) .nil)),f_R09_Same_ok (condT hc hx9),.inl ⟨rfl,rfl⟩⟩) (OpsW.sz 6 [4] [(4,.bool (cond (cond (cond (cond (cond (Z5h x4 x6) (x5.2.2==0) false) (x5.2.1==(Z5i x4)) false) x7 false) ((x4.toList==x8.toList)==x9) false) x1 false))] ⟨(fun h=>h),(fun h=>h),(fun h=>by first|exact h|(simpa using h)|grind),(fun h=>by first|exact h|(simpa using h)|grind),trivial⟩ (Y2 ?_))
 obtain rfl:=X5 H;refine AW.recast (env':=[(4,.bool (cond (cond (cond (cond (cond (Z5h x4 x6) (x5.2.2==0) false) (x5.2.1==(Z5i x4)) false) x7 false) ((x4.toList==x8.toList)==x9) false) x1 false))]) (h':=[]) (StC.pure (.cons .im .nil)) (Yt ?_)
 try simp only[Ex.t,Ex.b]
 exact Done.eq rfl (.tmp .nil)
end Go.Proofs.YtkgfbpbndmklnaaDoor
