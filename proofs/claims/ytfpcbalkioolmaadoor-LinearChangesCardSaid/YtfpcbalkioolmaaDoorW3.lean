/- Own work. -/
import Derived.Test.YtfpcbalkioolmaaDoorW2
set_option linter.unusedSimpArgs false
set_option linter.unusedVariables false
set_option maxRecDepth 100000
namespace Go.Proofs.YtfpcbalkioolmaaDoor
open Go.Abs
def Y12 (t1:Int) (v1:Y3):Option Y3:=
 G (inR ((Int.tmod t1 (10:Int))+9))<|
 G (0≤(Int.tmod ((Int.tmod t1 (10:Int))+9) (10:Int))∧(Int.tmod ((Int.tmod t1 (10:Int))+9) (10:Int))<26)<|
 (Yy (⟨v1.f_,v1.at_,v1.level_,v1.cells_,()⟩:Y3) [Y9.getD (Int.tmod ((Int.tmod t1 (10:Int))+9) (10:Int)).toNat (0:Int)]).bind fun x4=>
 some (⟨x4.f_,x4.at_,x4.level_,x4.cells_,()⟩:Y3)
def Y21 (ra4:Y3→Int→Option Y3) (t0:Y3) (t1:Int):Option Y3:=
 cond (decide (10≤t1)) (
  G (inR (Int.tdiv t1 (10:Int)))<|
  (ra4 (⟨t0.f_,t0.at_,t0.level_,t0.cells_,()⟩:Y3) (Int.tdiv t1 (10:Int))).bind fun x7=>
  Y12 t1 (⟨x7.f_,x7.at_,x7.level_,x7.cells_,()⟩:Y3)) (
  Y12 t1 (⟨t0.f_,t0.at_,t0.level_,t0.cells_,()⟩:Y3))
section
variable (t0:Y3) (t1:Int) (v1:Y3) (x4:Y3)
abbrev Z3h:=(Int.tmod ((Int.tmod t1 (10:Int))+9) (10:Int))
abbrev Z3i:Nat×AV:=(15,.ipt (Y9.flatMap (eI .u8)) (0+(Z3h t1).toNat*1))
abbrev Z3b:Env:=[(17,sU [Y9.getD (Z3h t1).toNat (0:Int)]),(16,.int .u8 (Y9.getD (Z3h t1).toNat (0:Int))),(Z3i t1),(10,.ref 2010 0 0)]
abbrev Z3c:Hp:=[bxl 0 t0,bxc 0 t0]
abbrev Z3d:Hp:=[bxl 0 v1,bxc 0 v1]
abbrev Z3e:Env:=[(8,.j (Int.tdiv t1 (10:Int))),(6,.ref 2010 0 0),(0,.ref 2010 0 0),(1,.j t1)]
abbrev Z3f:Hp:=[bxl 1 x4,bxc 1 x4]
abbrev Z3g:Env:=[(0,.ref 2010 0 0),(1,.j t1)]
end
theorem f_linear_writer_number_body_io{ra4:Y3→Int→Option Y3}(hra4:∀(t0:Y3) (t1:Int) (r:Y3),ra4 t0 t1=some r→Abs.Spec Tryd.prog 41 [.ref 2010 0 0,.int .i64 t1] (bxh 0 t0) (fun x h=>x= .tup []∧h=(bxh 1 r))){t0:Y3}{t1:Int}{r:Y3}(H:Y21 ra4 t0 t1=some r):Abs.Spec Tryd.prog 41 [.ref 2010 0 0,.int .i64 t1] (bxh 0 t0) (fun x h=>x= .tup []∧h=(bxh 1 r)):=by
 refine Y01 Tryd.func41 rfl (by simp[Tryd.ntmps41]) ?_;rw[Tryd.ntmps41];unfold Y21 at H;change AW _ _ _ (Z3g t1) (bxw 0 t0::(Z3c t0)) _;refine Y56<|Y20 (fun(y:Y3)=>Y12 t1 y) r (fun(y:Y3)=>(Z3g t1)) (fun(y:Y3)=>(bxh 0 y)) ?_ ?_
 ·refine Y0 (OpsW.sg 2 [5,0,1] ((5,.bool (decide (10≤t1)))::(Z3g t1)) ?_);refine Y2 (Yd (b:=decide (10≤t1)) H rfl (fun c5 H=> ?_) (fun c5 H=> ?_))
  ·refine Yo ?_;have⟨g6,H⟩:=Yx H;refine Yq 3 [8,6,0,1] (Z3e t1) ⟨(by decide),g6,trivial⟩ (OpsW.rc (Z3e t1) (bxw 0 t0::(Z3c t0)) (StC.mk ph3 (.o rfl (.i2 (.cons (.s rfl) (.cons (.s rfl) (.cons .im .nil)))) (.o rfl (CstL.ims _) (.o rfl (CstL.ims _) .nil))) rfl (.cons .im (.cons (.r rfl) (.cons (.r rfl) (.cons .im .nil))))) ?_);have⟨x7,hx7,H⟩:=Y0o H;refine Y16 (bxw 0 t0::(Z3c t0)) [] (bxw 0 t0::(Z3c t0)) ph3 rfl (hra4 _ _ _ hx7) (.cons (.r rfl) (.cons .im .nil)) (.cons rfl rfl rfl rfl rfl (.i2 (.cons (.s rfl) (.cons (.s rfl) (.cons .im .nil)))) (.b (RnL.ims _) (.b (RnL.ims _) .nil))) (.tup []) (bxh 1 x7) ph3 (.cons rfl rfl rfl rfl rfl (.i2 (.cons (.s rfl) (.cons (.s rfl) (.cons .im .nil)))) (.b (RnL.ims _) (.b (RnL.ims _) .nil))) (.tup .nil .nil) ?_;refine OpsW.sg 0 [0,1] (Z3g t1) (OpsW.rc (Z3g t1) (bxh 0 x7) (StC.mk ph3 (.o rfl (.i2 (.cons (.s rfl) (.cons (.s rfl) (.cons .im .nil)))) (.o rfl (CstL.ims _) (.o rfl (CstL.ims _) .nil))) rfl (.cons (.r rfl) (.cons .im .nil))) (Y2 ?_));exact⟨(⟨x7.f_,x7.at_,x7.level_,x7.cells_,()⟩:Y3),H,(StC.mk ph3 (.o rfl (.i2 (.cons (.s rfl) (.cons (.s rfl) (.cons .im .nil)))) (.o rfl (CstL.ims _) (.o rfl (CstL.ims _) .nil))) rfl (.cons (.r rfl) (.cons .im .nil)))⟩
  refine Ym ?_;exact⟨(⟨t0.f_,t0.at_,t0.level_,t0.cells_,()⟩:Y3),H,(StC.mk ph3 (.o rfl (.i2 (.cons (.s rfl) (.cons (.s rfl) (.cons .im .nil)))) (.o rfl (CstL.ims _) (.o rfl (CstL.ims _) .nil))) rfl (.cons (.r rfl) (.cons .im .nil)))⟩
 intro v1 H;unfold Y12 at H;change AW _ _ _ (Z3g t1) (bxw 0 v1::(Z3d v1)) _;refine Yo ?_;have⟨g2,H⟩:=Yx H;have⟨g3,H⟩:=Yx H;refine Yq 6 [15,10] [(Z3i t1),(10,.ref 2010 0 0)] ⟨(by decide),g2,(by decide),g3,trivial⟩ (OpsW.asU (.int .u8 (Y9.getD (Z3h t1).toNat (0:Int))) rfl rfl (T.load rfl trivial (by kernel_rfl) (tabOff (Y5q (eI .u8) 1 (fun _=>rfl) Y9 (0:Int) (Z3h t1).toNat (ltA (n:=26) g3 rfl) (fun a=>.val (.int .u8 a)) (fun _=>rfl)))) (OpsW.buildTI (enc:=eI .u8) [Y9.getD (Z3h t1).toNat (0:Int)] rfl rfl rfl E28 (fun _=>rfl) (by decide) ⟨trivial,by kernel_rfl,by kernel_rfl,by kernel_rfl,rfl⟩ (OpsW.rc (Z3b t1) (bxw 0 v1::(Z3d v1)) (StC.mk ph3 (.o rfl (.i2 (.cons (.s rfl) (.cons (.s rfl) (.cons .im .nil)))) (.o rfl (CstL.ims _) (.o rfl (CstL.ims _) .nil))) rfl (.i2 (.cons .ipt (.cons (.r rfl) .nil)))) ?_)));have⟨x4,hx4,H⟩:=Y0o H;refine Y16 (bxw 0 v1::(Z3d v1)) [] (bxw 0 v1::(Z3d v1)) ph3 rfl (Y06 hx4) (.cons (.r rfl) (.cons .im .nil)) (.cons rfl rfl rfl rfl rfl (.i2 (.cons (.s rfl) (.cons (.s rfl) (.cons .im .nil)))) (.b (RnL.ims _) (.b (RnL.ims _) .nil))) (.tup []) (bxw 1 x4::(Z3f x4)) ph3 (.cons rfl rfl rfl rfl rfl (.i2 (.cons (.s rfl) (.cons (.s rfl) (.cons .im .nil)))) (.b (RnL.ims _) (.b (RnL.ims _) .nil))) (.tup .nil .nil) ?_;refine OpsW.sg 0 [] [] (OpsW.rc [] (bxh 0 x4) (StC.mk ph3 (.o rfl (.i2 (.cons (.s rfl) (.cons (.s rfl) (.cons .im .nil)))) (.o rfl (CstL.ims _) (.o rfl (CstL.ims _) .nil))) rfl .nil) (Y2 ?_))
 obtain rfl:=X6 H;show ∃en' hp',StC _ _ en' hp'∧Done _ _ _ .normal en' hp';refine⟨[],(bxw 1 x4::(Z3f x4)),(StC.mk ph3 (.o rfl (.i2 (.cons (.s rfl) (.cons (.s rfl) (.cons .im .nil)))) (.o rfl (CstL.ims _) (.o rfl (CstL.ims _) .nil))) rfl .nil), ?_⟩;refine Y4o rfl .nil ?_;exact⟨by kernel_rfl,by kernel_rfl⟩
def Y0l:Nat→Y3→Int→Option Y3
 |0,_,_=>none
 |n+1,t0,t1=>Y21 (Y0l n) t0 t1
theorem Y5u:∀n:Nat,(∀(t0:Y3) (t1:Int) (r:Y3),Y0l n t0 t1=some r→Abs.Spec Tryd.prog 41 [.ref 2010 0 0,.int .i64 t1] (bxh 0 t0) (fun x h=>x= .tup []∧h=(bxh 1 r)))∧True
 |0=>by
  refine⟨?_,trivial⟩
  ·intro t0 t1 r H;rw[Y0l] at H;cases H
 |n+1=>by
  have ih:=Y5u n;refine⟨?_,trivial⟩
  ·intro t0 t1 r H;rw[Y0l] at H;exact f_linear_writer_number_body_io ih.1 H
def Y58 (t0:Y3) (t1:Int):Option Y3:=Y0l 1000000 t0 t1
theorem f_linear_writer_number_io{t0:Y3}{t1:Int}{r:Y3}(H:Y58 t0 t1=some r):Abs.Spec Tryd.prog 41 [.ref 2010 0 0,.int .i64 t1] (bxh 0 t0) (fun x h=>x= .tup []∧h=(bxh 1 r)):=
 (Y5u 1000000).1 t0 t1 r H
def Y0q (t0:Y3):Option Y3:=
 G (room 1 (t0.cells_.length+t0.level_.length))<|
 some (⟨t0.f_,t0.at_,t0.level_,t0.cells_++t0.level_,()⟩:Y3)
section
variable (t0:Y3)
abbrev Z3k:=t0.cells_++t0.level_
abbrev Z3j:Hp:=[bxl 0 t0,bxc 0 t0]
end
theorem Y3s{t0:Y3}{r:Y3}(H:Y0q t0=some r):Abs.Spec Tryd.prog 40 [.ref 2010 0 0,.rsl 3010 0 0 t0.level_.length] (bxh 0 t0) (fun x h=>x= .tup []∧h=(bxh 1 r)):=by
 refine Y01 Tryd.func40 rfl (by simp[Tryd.ntmps40]) ?_;rw[Tryd.ntmps40];unfold Y0q at H;change AW _ _ _ [(0,.ref 2010 0 0),(1,.rsl 3010 0 0 t0.level_.length)] (bxw 0 t0::(Z3j t0)) _;refine Y56<|Yo (OpsW.sg 2 [5,4,1] [(5,.ref 2010 0 0),(4,.ref 2010 0 0),(1,.rsl 3010 0 0 t0.level_.length)] ?_);refine OpsW.nC rfl rfl rfl (OpsW.sg 3 [9,8,4] [(9,.rsl 3010 0 0 t0.level_.length),(8,.rsl 3011 0 0 t0.cells_.length),(4,.ref 2010 0 0)] ?_);have⟨g1,H⟩:=Yx H;refine Y5n (enc:=eI .u8) (ys:=t0.level_) rfl rfl rfl E28 (fun _=>rfl) rfl rfl trivial (SrcA.rootF (enc:=eI .u8) (fun _=>rfl) (by kernel_rfl) rfl) rfl g1 (OpsW.nC rfl rfl rfl (OpsW.sg 1 [12,10] [(12,.ref 2010 0 3),(10,.rsl 3011 1 0 ((Z3k t0).length))] (Y4m rfl rfl rfl rfl trivial trivial rfl rfl rfl (by kernel_rfl) (Y0v (by kernel_rfl)) (X9 (by kernel_rfl)) ?_)));change OpsW _ _ _ _ _ ((2010,⟨0,true,58,5,[slA Y7 t0.f_,.j t0.at_,.rsl 3010 0 0 t0.level_.length,.rsl 3011 1 0 ((Z3k t0).length),.im (.mp (mapV Y0h))]⟩)::(3011,rtA 1 33 1 (eI .u8) (Z3k t0))::bxw 0 t0::(Z3j t0)) _;refine OpsW.sg 0 [] [] (OpsW.rc [] [(2010,⟨0,true,58,5,[slA Y7 t0.f_,.j t0.at_,.rsl 3010 0 0 t0.level_.length,.rsl 3011 0 0 ((Z3k t0).length),.im (.mp (mapV Y0h))]⟩),bxl 0 t0,(3011,rtA 0 33 1 (eI .u8) (Z3k t0))] (StC.mk ph3 (.o rfl (.i2 (.cons (.s rfl) (.cons (.s rfl) (.cons .im .nil)))) (.o rfl (CstL.ims _) (.o rfl (CstL.ims _) .nil))) rfl .nil) (Y2 ?_));obtain rfl:=X6 H
 show ∃en' hp',StC _ _ en' hp'∧Done _ _ _ .normal en' hp';refine⟨[],[(2010,⟨0,true,58,5,[slA Y7 t0.f_,.j t0.at_,.rsl 3010 1 0 t0.level_.length,.rsl 3011 1 0 ((Z3k t0).length),.im (.mp (mapV Y0h))]⟩),bxl 1 t0,(3011,rtA 1 33 1 (eI .u8) (Z3k t0))],(StC.mk ph3 (.o rfl (.i2 (.cons (.s rfl) (.cons (.s rfl) (.cons .im .nil)))) (.o rfl (CstL.ims _) (.o rfl (CstL.ims _) .nil))) rfl .nil), ?_⟩;refine Y4o rfl .nil ?_;exact⟨by kernel_rfl,by kernel_rfl⟩
end Go.Proofs.YtfpcbalkioolmaaDoor
