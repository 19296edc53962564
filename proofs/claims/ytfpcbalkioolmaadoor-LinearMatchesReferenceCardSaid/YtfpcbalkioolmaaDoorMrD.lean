/- Own work. -/
import Derived.Test.YtfpcbalkioolmaaDoorMrC
set_option linter.unusedSimpArgs false
set_option linter.unusedVariables false
namespace Go.Proofs.YtfpcbalkioolmaaDoor
open Go.Abs
section
variable {t:List Int}
theorem hit_eq{i c:Int}(h1:i<(t.length:Nat)):hit t c ⟨i,false⟩=(cAt t i==c):=by
 unfold hit
 simp_all
def OkS (t:List Int) (i:Int) (q:Qs) (f:List Y1) (br:Bool) (X:Y0):Prop:=Stopd t i q f X∨∃T j,X=Rd t j∧f=T.flat∧TRk t i j T∧br= !(Y2r (opn T))∧∀(β:Int) (P:Qs→Prop),RunP t false (Y1z T (if br=true then 2 else 1) (qU ⟨j,false⟩ q)) P→RunP t true (qB q β) P
theorem num_simple(ht:t.length≤400){i:Int}{q:Qs}(C:Cx t i q)(hx:hit t 60 ⟨i,false⟩=true):∃f X,Y0i (Rd t (i+1))=some (f,X)∧OkS t i q f false X:=by
 have i0:=C.i0;have hl:=(Y0g hx).2.1;simp only at hl;refine⟨_,_,number_eq (by omega) (by omega) (by omega), ?_⟩;have hB:∀β,Y0x t (qB q β)=(false,Y1z (numT (numN t ⟨i+1,false⟩)) 1 (qU (numU t ⟨i+1,false⟩) q)):=fun β=>by
  unfold Y0x;have e:(qB q β).c=⟨i,false⟩:=C.c;rw[e,if_pos hx];rfl
 have o:CuOk t ⟨i+1,false⟩:=⟨by grind,by grind⟩;have on:=o.numU;have g:=numU_ge (t:=t) ⟨i+1,false⟩;simp only at g;have o1:=on.a1;cases hw:(numU t ⟨i+1,false⟩).wr with
 |true=>
  rw[if_pos rfl];refine .inl ⟨_,_,rfl,by omega,by omega,by simp only[Xc];unfold lb;omega,fun β=> ?_⟩;have ec:(Y0x t (qB q β)).2.c=numU t ⟨i+1,false⟩:=by rw[hB β];rfl
  exact ends_b (q:=qB q β) (by show q.c.wr=false;rw[C.c]) C.dn ec hw
 |false=>
  rw[if_neg (by simp)];have eu:numU t ⟨i+1,false⟩=⟨(numU t ⟨i+1,false⟩).at_,false⟩:=by
   cases hz:numU t ⟨i+1,false⟩ with
   |mk a b=>rw[hz] at hw;simp only at hw;rw[hw]
  refine .inr ⟨numT (numN t ⟨i+1,false⟩),_,rfl,by rfl,⟨by omega,o1,by rw[nd_num];omega,by show(0:Int)≤13;omega⟩,rfl,fun β P hP=> ?_⟩;rw[if_neg (by simp)] at hP;refine run_b (i:=i) C.c C.dn (hB β) ?_
  grind
theorem sum_simple(ht:t.length≤400)(n:Nat){i:Int}{q:Qs}(C:Cx t i q)(hx:hit t 56 ⟨i,false⟩=true):∃f X,Y0a (n+2) (Rd t (i+1))=some (f,X)∧OkS t i q f false X:=by
 have i0:=C.i0;have hl:=(Y0g hx).2.1;simp only at hl;have⟨l,Y,e1,e2,e3,e4⟩:=sum_eq (t:=t) (by omega) n (i:=i+1) (by omega) (by omega);refine⟨l,Y,e1, ?_⟩;have hc:cAt t i=56:=(Y0g hx).2.2;have no:∀d:Int,d≠56→hit t d ⟨i,false⟩=false:=fun d hd=>by rw[hit_eq hl,hc];grind
 have hB:∀β,Y0x t (qB q β)=(false,Y1z (sumT t ⟨i+1,false⟩) 1 (qU (sumU t ⟨i+1,false⟩) q)):=fun β=>by
  unfold Y0x;have e:(qB q β).c=⟨i,false⟩:=C.c;rw[e,no 60 (by omega),if_neg (by simp),no 48 (by omega),if_neg (by simp),no 35 (by omega),if_neg (by simp),if_pos hx];rfl
 have o:CuOk t ⟨i+1,false⟩:=⟨by grind,by grind⟩;have o1:=(CuOk.sumU (t:=t) o).a1;rcases e2 with⟨hw,rfl⟩|⟨hw,a,rfl,a0,a1⟩
 ·have hnd:=sum_nd hw;have hp:=nd_pos (sumT t ⟨i+1,false⟩);simp only at hnd;have eu:sumU t ⟨i+1,false⟩=⟨(sumU t ⟨i+1,false⟩).at_,false⟩:=by
   cases hz:sumU t ⟨i+1,false⟩ with
   |mk a b=>rw[hz] at hw;simp only at hw;rw[hw]
  refine .inr ⟨sumT t ⟨i+1,false⟩,_,rfl,e4 hw,⟨by omega,o1,by omega,by show(12:Int)≤13;omega⟩,rfl,fun β P hP=> ?_⟩;rw[if_neg (by simp)] at hP;refine run_b (i:=i) C.c C.dn (hB β) ?_
  grind
 ·refine .inl ⟨a,_,rfl,a0,a1,by unfold lb;omega,fun β=> ?_⟩;have ec:(Y0x t (qB q β)).2.c=sumU t ⟨i+1,false⟩:=by rw[hB β];rfl
  exact ends_b (q:=qB q β) (by show q.c.wr=false;rw[C.c]) C.dn ec hw
end
section
variable {t:List Int}
theorem no_other{i c:Int}(hx:hit t c ⟨i,false⟩=true):∀d:Int,d≠c→hit t d ⟨i,false⟩=false:=fun d hd=>by
 have⟨_,h2,h3⟩:=Y0g hx;rw[hit_eq h2,h3];grind
theorem mat_simple(ht:t.length≤400){k:Nat}(ih:FSq t k)(n:Nat)(hn:10*k+10≤n){i:Int}{q:Qs}(C:Cx t i q)(hk:(t.length:Int)-(i+1)≤k)(hx:hit t 41 ⟨i,false⟩=true):∃f X,Yz (n+2) (Rd t (i+1)) q.lv=some (f,X)∧OkS t i q f false X:=by
 have i0:=C.i0;have hl:=(Y0g hx).2.1;simp only at hl;have hll:=C.ll;have⟨f,X,e1,e2⟩:=matrix_sim ht ih n hn (g:=q.f) (F:=q.F) C.lv (i:=i+1) (by omega) (by omega) hk (by omega);refine⟨f,X,e1, ?_⟩;have no:=no_other hx;have hB:∀β,Y0x t (qB q β)=(true,mQ (i+1) (q.f::q.F) [] 0 0 0 q.lv β):=fun β=>by
  unfold Y0x;have e:(qB q β).c=⟨i,false⟩:=C.c;rw[e,no 60 (by omega),if_neg (by simp),no 48 (by omega),if_neg (by simp),no 35 (by omega),if_neg (by simp),no 56 (by omega),if_neg (by simp),no 57 (by omega),if_neg (by simp),no 28 (by omega),if_neg (by simp),no 55 (by omega),if_neg (by simp),no 42 (by omega),if_neg (by simp),if_pos hx];show(true,(⟨⟨i+1,false⟩,q.f::q.F,fr0 13 [],q.lv,β,q.dn⟩:Qs))=_;rw[C.dn];rfl
 have wr0:∀β,(qB q β).c.wr=false:=fun β=>by show q.c.wr=false;rw[C.c]
 rcases e2 with⟨a,s,rfl,a0,a1,hl2,hE⟩|⟨N,ks,j,rfl,rfl,hj1,hj2,hnd,hR⟩
 ·exact .inl ⟨a,s,rfl,a0,a1,by unfold lb at hl2⊢;omega,fun β=>(hE β).b (wr0 β) C.dn (hB β)⟩
 ·refine .inr ⟨.node ⟨13,N⟩ ks,j,rfl,rfl,⟨by omega,hj2,by rw[Y5y];omega,by show(13:Int)≤13;omega⟩,rfl,fun β P hP=> ?_⟩;rw[if_neg (by simp)] at hP;refine run_b (i:=i) C.c C.dn (hB β) (hR β 0 P fun b=> ?_);have e:Y1z (.node ⟨13,N⟩ ks) 1 (qU ⟨j,false⟩ q)=Y1z (.node ⟨13,N⟩ ks) 1 ⟨⟨j,false⟩,q.F,q.f,q.lv,b,false⟩:=by
   show(⟨_,_,_,_,_,q.dn⟩:Qs)=_;rw[C.dn];rfl
  simp_all
theorem var_simple(ht:t.length≤400){i:Int}{q:Qs}(C:Cx t i q)(hx:hit t 48 ⟨i,false⟩=true):∃f X,((Yr (Rd t (i+1))).bind fun x9=>(Y6z x9 (26:Int)).bind fun x10=>cond (decide (x10<(0:Int))) (Y2u x10 (Sp t (i+1) (decide ((t.length:Int)≤i+1)))) (Y2u x10 (Rd t (i+1))))=some (f,false,X)∧OkS t i q f false X:=by
 have i0:=C.i0;have hl:=(Y0g hx).2.1;simp only at hl;have no:=no_other hx;have hv:=value_peek (t:=t) (i:=i+1) (n:=26) (by omega) (by omega);rw[peek_eq (by omega),X1] at hv⊢;rw[show(26:Int)=((26:Nat):Int) from rfl,hv,X1];have hB:∀β,Y0x t (qB q β)=(false,Y1z (.node ⟨1,chrI t 26 ⟨i+1,false⟩⟩ []) 1 (qU (if chrI t 26 ⟨i+1,false⟩<0 then⟨i+1,true⟩ else⟨i+1+1,false⟩) q)):=fun β=>by
  unfold Y0x;have e:(qB q β).c=⟨i,false⟩:=C.c;rw[e,no 60 (by omega),if_neg (by simp),if_pos hx];rfl
 have wr0:∀β,(qB q β).c.wr=false:=fun β=>by show q.c.wr=false;rw[C.c]
 unfold Y2u
 by_cases hc:chrI t 26 ⟨i+1,false⟩<0
 ·rw[decide_eq_true hc,cond_true,Y1k (by grind),Y7r (by simp),Option.bind_some];refine⟨_,Sp t (i+1+1) (decide ((t.length:Int)≤i+1)),rfl,.inl ⟨i+1+1,_,rfl,by omega,by omega,by simp only[Xc];unfold lb;omega,fun β=> ?_⟩⟩;have ec:(Y0x t (qB q β)).2.c=⟨i+1,true⟩:=by rw[hB β,if_pos hc];rfl
  exact ends_b (wr0 β) C.dn ec rfl
 ·have hlt:=(chrI_ok (t:=t) (n:=26) (u:=⟨i+1,false⟩) (by omega)).2;simp only at hlt;rw[decide_eq_false hc,cond_false,Y1k (by grind),Y7r (by simp),Option.bind_some];refine⟨_,Rd t (i+1+1),rfl,.inr ⟨.node ⟨1,chrI t 26 ⟨i+1,false⟩⟩ [],i+1+1,rfl,by rfl,⟨by omega,by omega,by rw[Y5y,Y27];omega,by show(1:Int)≤13;omega⟩,rfl,fun β P hP=> ?_⟩⟩;rw[if_neg (by simp)] at hP;refine run_b (i:=i) C.c C.dn (hB β) ?_
  grind
end
section
variable {t:List Int}
theorem lprec_le3(o:Int):Y2k o≤3:=by
 unfold Y2k;omega
theorem alone{T:Tr}{us:List Tr}{rs:List Int}(hJ:∀m,1≤m→m≤pr (opn T)→qJ m rs us=([T],[]))(hs:Y2r (opn T)=true):rs=[]∧us=[T]:=by
 unfold Y2r at hs;have h1:=of_decide_eq_true hs;have h4:pr (opn T)=4:=pr_four (by omega);have:=hJ 4 (by omega) (by omega);rw[qJ_stop (fun o _=>by have:=lprec_le3 o;omega)] at this
 simp_all
theorem simO_of{o:Int}(h:Y2r o=false):simO o=false:=by
 unfold Y2r at h;have h1:=of_decide_eq_false h;unfold simO
 grind
theorem simO_yes{o:Int}(h:Y2r o=true)(h13:o≤13):simO o=true:=by
 unfold Y2r at h;have h1:=of_decide_eq_true h;have:o=0∨o=1∨o=6∨o=9∨o=10∨o=11∨o=12∨o=13:=by omega
 rcases this with h|h|h|h|h|h|h|h<;>subst h<;>rfl
theorem simple_f(o:Int):Y5b o=some (Y2r o):=by
 unfold Y5b Y2r
 grind
theorem grp_simple(ht:t.length≤400){k:Nat}(ih:FSq t k)(n:Nat)(hn:10*k+10≤n){i:Int}{q:Qs}(C:Cx t i q)(hk:(t.length:Int)-(i+1)≤k)(hx:hit t 35 ⟨i,false⟩=true):
  ∃f X,((Y7 n (Rd t (i+1)) q.lv (1:Int) []).bind fun x20=>(Yr x20.2).bind fun x24=>
   G ((x24==(50:Int))=true→(0≤(0:Int)∧(0:Int)<(x20.1.length:Int)))<|
   (cond (x24==(50:Int)) (Y5b ((x20.1.getD (0:Int).toNat Yh).Op)) (some false)).bind fun x26=>
   cond (cond (x24==(50:Int)) x26 false) (Y0d (⟨x20.2.L,x20.2.At,x20.2.Short,true⟩:Y0) x20.1) (Y0d x20.2 x20.1))=some (f,true,X)∧OkS t i q f true X:=by
 have i0:=C.i0;have hl:=(Y0g hx).2.1;simp only at hl;have hll:=C.ll;have no:=no_other hx
 let q1:Qs:=⟨⟨i+1,false⟩,q.f::q.F,fr0 (-2) [],q.lv,0,false⟩
 have C1:Cx t (i+1) q1:=⟨rfl,rfl,C.lv,fun h=>by have h':(-2:Int)=7∨(-2:Int)=8:=h;omega,by grind,by omega,by omega⟩;have hB:∀β,Y0x t (qB q β)=(true,qB q1 β):=fun β=>by
  unfold Y0x;have e:(qB q β).c=⟨i,false⟩:=C.c;rw[e,no 60 (by omega),if_neg (by simp),no 48 (by omega),if_neg (by simp),if_pos hx];show(true,(⟨⟨i+1,false⟩,q.f::q.F,fr0 (-2) [],q.lv,β,q.dn⟩:Qs))=_;rw[C.dn]
 have wr0:∀β,(qB q β).c.wr=false:=fun β=>by show q.c.wr=false;rw[C.c]
 have⟨f,X,e1,e2⟩:=ih n (i+1) 1 q1 hn C1 hk (by omega) (by omega) (fun o ho=>by cases ho);have e1':Y7 n (Rd t (i+1)) q.lv 1 []=some (f,X):=e1;rw[e1',X1];rcases e2 with⟨a,s,rfl,a0,a1,hl2,hE⟩|⟨T,j,rfl,rfl,hT,hp,hN,hR⟩
 ·refine⟨f,Sp t a s, ?_,.inl ⟨a,s,rfl,a0,a1,by unfold lb at hl2⊢;omega,fun β=>(hE β).b (wr0 β) C.dn (hB β)⟩⟩;dsimp only;rw[peek_Sp,X1,Y2s (fun h=>by cases h)];show Y0d (Sp t a s) f=_;unfold Y0d;rw[Y8t,X1]
 ·have hT1:=hT.1;have hT2:=hT.2.1;have hT3:=hT.2.2.1;have hT4:=hT.2.2.2;have fl:T.flat.length=nd T:=rfl;have np:=nd_pos T;have ehd:(T.flat.getD (0:Int).toNat Yh).Op=opn T:=opn_hd T;have oj:CuOk t ⟨j,false⟩:=⟨by grind,hT2⟩;have rx:RX t ⟨j,false⟩ (Rd t j):=.inl ⟨rfl,rfl⟩;have⟨x,hx2,hi⟩:=rx.peek oj (c:=50) (by omega);dsimp only;rw[hx2,X1,Y2s (fun _=>by omega),ehd,simple_f]
  --any way to the end of the group
  have hR':∀(β:Int) (P:Qs→Prop),(∀us rs b,(b=0∨b=1)→(hit t 16 ⟨j,false⟩=true→b=0)→(∀m,1≤m→m≤pr (opn T)→qJ m rs us=([T],[]))→RunP t false ⟨⟨j,false⟩,q.f::q.F,⟨-2,[],us,rs,0,0,0⟩,q.lv,b,false⟩ P)→RunP t true (qB q β) P:=fun β P hP=>run_b (i:=i) C.c C.dn (hB β) (hR β P fun us rs b hb hE hJ=>hP us rs b hb (fun h16=>by
    rcases hE h16 with h|h
    ·exact h
    ·have h':(-2:Int)=7∨(-2:Int)=8:=h.1;omega) hJ)
  have hU:∀us rs b,(b=0∨b=1)→hit t 16 ⟨j,false⟩=false→Yk t ⟨⟨j,false⟩,q.f::q.F,⟨-2,[],us,rs,0,0,0⟩,q.lv,b,false⟩=Y4e t ⟨⟨j,false⟩,q.f::q.F,⟨-2,[],us,rs,0,0,0⟩,q.lv,b,false⟩:=fun us rs b hb h16=>by
   rw[fol_rest rfl hb hN h16];unfold qRest;rw[if_neg (by simp_all),if_pos rfl]
  cases h50:hit t 50 ⟨j,false⟩ with
  |true=>
   have n16:hit t 16 ⟨j,false⟩=false:=no_other h50 16 (by omega);have hlt:=(Y0g h50).2.1;simp only at hlt;have ex:(x==50)=true:=beq_iff_eq.2 (hi.2 h50);rw[ex,cond_true,X1,cond_true];cases hs:Y2r (opn T) with
   |true=>
    rw[cond_true];refine⟨T.flat,Sp t j false, ?_,.inl ⟨j,false,rfl,by omega,by omega,by rw[fl];unfold lb;omega,fun β=>hR' β _ fun us rs b hb _ hJ=> ?_⟩⟩
    ·show Y0d (Sp t j false) T.flat=_;unfold Y0d;rw[Y8t,X1]
    ·have⟨h1,h2⟩:=alone hJ hs;have ec:(Yk t ⟨⟨j,false⟩,q.f::q.F,⟨-2,[],us,rs,0,0,0⟩,q.lv,b,false⟩).2.c=⟨j,true⟩:=by
      rw[hU us rs b hb n16];unfold Y4e;rw[if_pos (.inl ⟨h1,by show simO (opn (us.headD noTr))=true;rw[h2];exact simO_yes hs hT4⟩)];rfl
     have:=ends_f (q:=⟨⟨j,false⟩,q.f::q.F,⟨-2,[],us,rs,0,0,0⟩,q.lv,b,false⟩) rfl rfl ec rfl;rwa[decide_eq_false (by simp_all)] at this
   |false=>
    rw[cond_false];refine⟨T.flat,Rd t (j+1), ?_,.inr ⟨T,j+1,rfl,rfl,⟨by omega,by omega,by omega,hT4⟩,by grind,fun β P hP=>hR' β P fun us rs b hb _ hJ=> ?_⟩⟩
    ·unfold Y0d;rw[expect_hit (by omega) (by omega) h50,X1]
    ·rw[if_pos rfl] at hP;have e0:qJ 0 rs us=([T],[]):=by
      have:=hJ 1 (by omega) hp;rw[qJ_of (by omega) this];rfl
     have es:Yk t ⟨⟨j,false⟩,q.f::q.F,⟨-2,[],us,rs,0,0,0⟩,q.lv,b,false⟩=(false,Y1z T 2 (qU ⟨j+1,false⟩ q)):=by
      rw[hU us rs b hb n16];unfold Y4e;have h1:¬((rs=[]∧simO (opn (us.headD noTr))=true)∨hit t 50 ⟨j,false⟩=false):=fun h=>by
       rcases h with⟨h1,h2⟩|h
       ·rw[h1] at e0;simp only[qJ,Prod.mk.injEq] at e0;rw[e0.1] at h2;have:=simO_of hs
        simp_all
       simp_all
      have eo:qOpI (⟨⟨j,false⟩,q.f::q.F,⟨-2,[],us,rs,0,0,0⟩,q.lv,b,false⟩:Qs)=T:=Y7o e0;rw[if_neg h1,eo];show(false,(⟨⟨j+1,false⟩,q.F,{q.f with ts:=T::q.f.ts},q.lv,2,false⟩:Qs))=(false,⟨_,_,_,_,_,q.dn⟩);rw[C.dn];rfl
     exact run_f (i:=j) rfl rfl es hP
  |false=>
   have ex:(x==50)=false:=beq_eq_false_iff_ne.2 fun h=>by simp_all
   rw[ex,cond_false,X1,cond_false,cond_false];have⟨Y,y1,y2⟩:=rx.expect (by omega) oj 50;rw[Y6k,if_neg (by simp_all)] at y2;rcases y2 with⟨hw,_⟩|⟨_,a,rfl,a0,a1⟩
   ·cases hw
   ·refine⟨T.flat,Sp t a (decide ((t.length:Int)≤j)), ?_,.inl ⟨a,_,rfl,a0,a1,by rw[fl];unfold lb;omega,fun β=>hR' β _ fun us rs b hb h16 hJ=> ?_⟩⟩
    ·unfold Y0d;rw[y1,X1];rfl
    ·cases hh16:hit t 16 ⟨j,false⟩ with
     |true=>
      have hl3:=(Y0g hh16).2.1;simp only at hl3;have ec:(Yk t ⟨⟨j,false⟩,q.f::q.F,⟨-2,[],us,rs,0,0,0⟩,q.lv,b,false⟩).2.c=⟨j,true⟩:=by
       unfold Yk;rw[if_pos hh16];unfold qSgn;rw[if_pos ⟨by rw[h16 hh16];rfl,rfl⟩];show(⟨j+1-1,true⟩:Cu)=_;rw[show j+1-1=j by omega]
      exact ends_f rfl rfl ec rfl
     |false=>
      have ec:(Yk t ⟨⟨j,false⟩,q.f::q.F,⟨-2,[],us,rs,0,0,0⟩,q.lv,b,false⟩).2.c=⟨j,true⟩:=by
       rw[hU us rs b hb hh16];unfold Y4e;rw[if_pos (.inr h50)];rfl
      exact ends_f rfl rfl ec rfl
end
section
variable {t:List Int}
def brE (o cl:Int) (X:Y0) (l:List Y1):Option ((List Y1)×Bool×Y0):=(Yg X cl).bind fun x39=>(Y29 o (0:Int) l).bind fun x40=>some (x40,false,x39)
def brT (F:Y0→(List Int)→Int→(List (List Int))→Option ((List Y1)×Y0)) (w:List Int) (o cl:Int) (X:Y0):Option ((List Y1)×Bool×Y0):=
 (F X w (1:Int) []).bind fun x35=>cond (o==(6:Int)) ((Yg x35.2 (12:Int)).bind fun x42=>(F x42 w (1:Int) []).bind fun x43=>G (room 16 (x35.1.length+x43.1.length))<|brE o cl x43.2 (x35.1++x43.1)) (brE o cl x35.2 x35.1)
section
variable (F:Y0→(List Int)→Int→(List (List Int))→Option ((List Y1)×Y0)) (w:List Int) (c:Int) (X:Y0)
theorem brk_no(m:Nat){k:Nat}(hk:k<4){a b d:Int}(ha:Y28 ([(6:Int),9,10,11].getD k 0)=some [a,b,d])(hc:a≠c):iter (fun loop (s:Y0×Int)=>Y03 F w c loop s.1 s.2) (m+1) (X,(k:Int))=iter (fun loop (s:Y0×Int)=>Y03 F w c loop s.1 s.2) m (X,((k+1:Nat):Int)):=by
 rw[Yw];show Y03 F w c _ X (k:Int)=_;have e:(([a,b,d]:List Int).getD 0 0==c)=false:=beq_eq_false_iff_ne.2 hc;rw[Y03,Y2q (by grind),Y2s (by grind),Xl,ha,X1,e,cond_false,Y1k (by omega),show((k:Int)+1)=((k+1:Nat):Int) by omega]
theorem brk_yes(m:Nat){k:Nat}(hk:k<4){o a b d:Int}(ho:[(6:Int),9,10,11].getD k 0=o)(ha:Y28 o=some [a,b,d])(hc:a=c)(hb:o=6→b=12):iter (fun loop (s:Y0×Int)=>Y03 F w c loop s.1 s.2) (m+1) (X,(k:Int))=brT F w o d X:=by
 rw[Yw];show Y03 F w c _ X (k:Int)=_;have e:(([a,b,d]:List Int).getD 0 0==c)=true:=beq_iff_eq.2 hc;rw[Y03,Y2q (by grind),Y2s (by grind),Xl,ho,ha,X1,e,cond_true];have k3:∀(v:Y0) (l x:List Int) (f:List Y1),x.getD 2 0=d→Y48 (k:Int) v x f=brE o d v f:=fun v l x f hx=>by
  unfold Y48 brE;rw[hx,Xl,ho]
 unfold brT;congr 1;funext x35
 by_cases h6:o=6
 ·have e6:(o==6)=true:=beq_iff_eq.2 h6;have eb:([a,b,d]:List Int).getD 1 0=12:=hb h6;rw[e6,cond_true,cond_true,eb];congr 1;funext x42;congr 1;funext x43;rw[k3 _ [] _ _ rfl]
 ·have e6:(o==6)=false:=beq_eq_false_iff_ne.2 h6;rw[e6,cond_false,cond_false,k3 _ [] _ _ rfl]
end
theorem brk_loop(F:Y0→(List Int)→Int→(List (List Int))→Option ((List Y1)×Y0))(w:List Int)(X:Y0){o:Int}(h:o=6∨o=9∨o=10∨o=11):iter (fun loop (s:Y0×Int)=>Y03 F w (Y92 o) loop s.1 s.2) 1000000 (X,(0:Int))=brT F w o (Y1i o) X:=by
 have a6:Y28 6=some [57,12,47]:=rfl;have a9:Y28 9=some [28,0,59]:=rfl;have a10:Y28 10=some [55,0,62]:=rfl;have a11:Y28 11=some [42,0,46]:=rfl;rw[show(1000000:Nat)=999996+1+1+1+1 from rfl,show(0:Int)=((0:Nat):Int) from rfl];rcases h with h|h|h|h<;>subst h
 ·rfl
 ·rfl
 ·rfl
 rfl
theorem br_16{o j b:Int}(h:o=6∨o=9∨o=10∨o=11){F:List Qf}{ops us:List Tr}{rs:List Int}{lv:List Int}(h16:hit t 16 ⟨j,false⟩=true)(hb:b=0):Ends t false ⟨⟨j,false⟩,F,⟨o,ops,us,rs,0,0,0⟩,lv,b,false⟩ false:=by
 have hl:=(Y0g h16).2.1;simp only at hl;have he:qEnds (qU (Cu.adv ⟨j,false⟩) ⟨⟨j,false⟩,F,⟨o,ops,us,rs,0,0,0⟩,lv,b,false⟩)=false:=by
  show((o==7||o==8)&&b !=2)=false;rcases h with h|h|h|h<;>subst h<;>rfl
 have ec:(Yk t ⟨⟨j,false⟩,F,⟨o,ops,us,rs,0,0,0⟩,lv,b,false⟩).2.c=⟨j,true⟩:=by
  unfold Yk;rw[if_pos h16];unfold qSgn;rw[if_pos ⟨by rw[hb];rfl,he⟩];show(⟨j+1-1,true⟩:Cu)=_;rw[show j+1-1=j by omega]
 have:=ends_f (q:=⟨⟨j,false⟩,F,⟨o,ops,us,rs,0,0,0⟩,lv,b,false⟩) rfl rfl ec rfl;rwa[decide_eq_false (by simp_all)] at this
theorem cls_sim{o j b:Int}{g:Qf}{F:List Qf}{ops us:List Tr}{rs lv:List Int}{T:Tr}(h:o=6∨o=9∨o=10∨o=11)(h6:o=6→ops≠[])(hb:b=0∨b=1)(hb16:hit t 16 ⟨j,false⟩=true→b=0)(hJ:qJ 0 rs us=([T],[]))(hN:NoP t j 1):
  ((xpc t [Y1i o] ⟨j,false⟩).wr=true→Ends t false ⟨⟨j,false⟩,g::F,⟨o,ops,us,rs,0,0,0⟩,lv,b,false⟩ (decide ((t.length:Int)≤(xpc t [Y1i o] ⟨j,false⟩).at_)))∧
  ((xpc t [Y1i o] ⟨j,false⟩).wr=false→Yk t ⟨⟨j,false⟩,g::F,⟨o,ops,us,rs,0,0,0⟩,lv,b,false⟩=(false,Y1z (.node ⟨o,0⟩ (ops++[T])) 1 ⟨⟨j+1,false⟩,F,g,lv,b,false⟩)):=by
 cases h16:hit t 16 ⟨j,false⟩ with
 |true=>
  have hl:=(Y0g h16).2.1;simp only at hl;have ex:xpc t [Y1i o] ⟨j,false⟩=⟨j,true⟩:=by
   rw[Y6k,no_other h16 _ (@close_fol o).2.1];rfl
  rw[ex];refine⟨fun _=> ?_,fun h=>by cases h⟩;rw[decide_eq_false (by simp_all)];exact br_16 h h16 (hb16 h16)
 |false=>
  have e:Yk t ⟨⟨j,false⟩,g::F,⟨o,ops,us,rs,0,0,0⟩,lv,b,false⟩=(false,Y1z (.node ⟨o,0⟩ (ops++[T])) 1 ⟨xpc t [Y1i o] ⟨j,false⟩,F,g,lv,b,false⟩):=by
   rw[fol_rest rfl hb hN h16];unfold qRest;have e1:(⟨⟨j,false⟩,g::F,⟨o,ops,us,rs,0,0,0⟩,lv,b,false⟩:Qs).f.op=o:=rfl;rw[e1,Vn,Vn,Vn,if_neg (fun hh=>h6 hh.1 hh.2),Vn,clB_close h];have eo:∀z:Qs,z.f.ss=rs→z.f.ts=us→qOpI z=T:=fun z h1 h2=>Y7o (by simp_all);rw[Y2y,qOpd,eo _ rfl rfl];rfl
  refine⟨fun hw=>ends_f (u:=xpc t [Y1i o] ⟨j,false⟩) rfl rfl (by rw[e];rfl) hw,fun hw=> ?_⟩;rw[e,xpc_eq hw];rfl
theorem mid_sim{j b:Int}{F:List Qf}{us:List Tr}{rs lv:List Int}{T:Tr}(hb:b=0∨b=1)(hb16:hit t 16 ⟨j,false⟩=true→b=0)(hJ:qJ 0 rs us=([T],[]))(hN:NoP t j 1):
  ((xpc t [12] ⟨j,false⟩).wr=true→Ends t false ⟨⟨j,false⟩,F,⟨6,[],us,rs,0,0,0⟩,lv,b,false⟩ (decide ((t.length:Int)≤(xpc t [12] ⟨j,false⟩).at_)))∧
  ((xpc t [12] ⟨j,false⟩).wr=false→Yk t ⟨⟨j,false⟩,F,⟨6,[],us,rs,0,0,0⟩,lv,b,false⟩=(true,⟨⟨j+1,false⟩,F,⟨6,[T],[],[],0,0,0⟩,lv,b,false⟩)):=by
 cases h16:hit t 16 ⟨j,false⟩ with
 |true=>
  have hl:=(Y0g h16).2.1;simp only at hl;have ex:xpc t [12] ⟨j,false⟩=⟨j,true⟩:=by
   rw[Y6k,no_other h16 _ (by omega)];rfl
  rw[ex];refine⟨fun _=> ?_,fun h=>by cases h⟩;rw[decide_eq_false (by simp_all)];exact br_16 (.inl rfl) h16 (hb16 h16)
 |false=>
  have e:Yk t ⟨⟨j,false⟩,F,⟨6,[],us,rs,0,0,0⟩,lv,b,false⟩=(true,⟨xpc t [12] ⟨j,false⟩,F,⟨6,[T],[],[],0,0,0⟩,lv,b,false⟩):=by
   rw[fol_rest rfl hb hN h16];unfold qRest;rw[if_neg (by simp),if_neg (by simp),if_neg (by simp),if_pos ⟨rfl,rfl⟩];have eo:∀z:Qs,z.f.ss=rs→z.f.ts=us→qOpI z=T:=fun z h1 h2=>Y7o (by simp_all);rw[qOpd,eo _ rfl rfl];rfl
  refine⟨fun hw=>ends_f (u:=xpc t [12] ⟨j,false⟩) rfl rfl (by rw[e]) hw,fun hw=> ?_⟩;rw[e,xpc_eq hw];rfl
theorem brk_close(ht:t.length≤400){i j o:Int}{q:Qs}{ops:List Tr}{T:Tr}(C:Cx t i q)(h:o=6∨o=9∨o=10∨o=11)(h6:o=6→ops≠[])(hij:i<j)(hj:j≤(t.length:Nat))(hnd:((ndL ops:Nat):Int)+(nd T:Nat)≤j-i)(hN:NoP t j 1)
  (hR:∀(β:Int) (P:Qs→Prop),(∀us rs b,(b=0∨b=1)→(hit t 16 ⟨j,false⟩=true→b=0)→qJ 0 rs us=([T],[])→RunP t false ⟨⟨j,false⟩,q.f::q.F,⟨o,ops,us,rs,0,0,0⟩,q.lv,b,false⟩ P)→RunP t true (qB q β) P):
  ∃f X,brE o (Y1i o) (Rd t j) (Y0y (ops++[T]))=some (f,false,X)∧OkS t i q f false X:=by
 have i0:=C.i0;have oj:CuOk t ⟨j,false⟩:=⟨by grind,hj⟩;have pl:(Y0y (ops++[T])).length=ndL ops+nd T:=by
  show ndL (ops++[T])=_;rw[Y79,Y10,Y27];omega
 have⟨Y,y1,y2⟩:=RX.expect (t:=t) (by omega) (u:=⟨j,false⟩) (X:=Rd t j) (.inl ⟨rfl,rfl⟩) oj (Y1i o);unfold brE;rw[y1,X1,Y7r (by omega),X1];refine⟨_,_,rfl, ?_⟩;have cs:∀(us:List Tr) (rs:List Int) (b:Int),(b=0∨b=1)→(hit t 16 ⟨j,false⟩=true→b=0)→qJ 0 rs us=([T],[])→_:=fun us rs b hb h16 hJ=>cls_sim (t:=t) (j:=j) (b:=b) (g:=q.f) (F:=q.F) (ops:=ops) (us:=us) (rs:=rs) (lv:=q.lv) h h6 hb h16 hJ hN;rcases y2 with⟨hw,rfl⟩|⟨hw,a,rfl,a0,a1⟩
 ·have ex:=xpc_eq hw;have ob:=(oj.xpc [Y1i o]).a1;rw[ex] at ob⊢;have e1:j+(([Y1i o].length:Nat):Int)=j+1:=rfl;simp only[e1] at ob⊢;refine .inr ⟨.node ⟨o,0⟩ (ops++[T]),j+1,rfl,by rw[Tr.flat],⟨by omega,ob,by rw[Y5y,Y79,Y10,Y27];omega,by show o≤13;omega⟩, ?_,fun β P hP=>hR β P fun us rs b hb h16 hJ=> ?_⟩
  ·show false= !(Y2r o);rcases h with h|h|h|h<;>subst h<;>rfl
  ·rw[if_neg (by simp)] at hP;refine run_f (i:=j) rfl rfl ((cs us rs b hb h16 hJ).2 hw) ?_;have e:Y1z (.node ⟨o,0⟩ (ops++[T])) 1 (qU ⟨j+1,false⟩ q)=Y1z (.node ⟨o,0⟩ (ops++[T])) 1 ⟨⟨j+1,false⟩,q.F,q.f,q.lv,b,false⟩:=by
    show(⟨_,_,_,_,_,q.dn⟩:Qs)=_;rw[C.dn];rfl
   simp_all
 ·refine .inl ⟨a,_,rfl,a0,a1, ?_,fun β=>hR β _ fun us rs b hb h16 hJ=>(cs us rs b hb h16 hJ).1 hw⟩;rw[X7,pl];unfold lb;omega
theorem brk_simple(ht:t.length≤400){k:Nat}(ih:FSq t k)(n:Nat)(hn:10*k+10≤n){i o:Int}{q:Qs}(C:Cx t i q)(hk:(t.length:Int)-(i+1)≤k)(ho:o=6∨o=9∨o=10∨o=11)(hx:hit t (Y92 o) ⟨i,false⟩=true):
  ∃f X,brT (Y7 n) q.lv o (Y1i o) (Rd t (i+1))=some (f,false,X)∧OkS t i q f false X:=by
 have i0:=C.i0;have hl:=(Y0g hx).2.1;simp only at hl;have hll:=C.ll;have no:=no_other hx
 let q1:Qs:=⟨⟨i+1,false⟩,q.f::q.F,fr0 o [],q.lv,0,false⟩
 have C1:Cx t (i+1) q1:=⟨rfl,rfl,C.lv,fun h=>by have h':o=7∨o=8:=h;omega,by grind,by omega,by omega⟩;have hB:∀β,Y0x t (qB q β)=(true,qB q1 β):=fun β=>by
  unfold Y0x;have e:(qB q β).c=⟨i,false⟩:=C.c;have fin:(true,Y8j o [] (qU (Cu.adv ⟨i,false⟩) (qB q β)))=(true,qB q1 β):=by
   show(true,(⟨⟨i+1,false⟩,q.f::q.F,fr0 o [],q.lv,β,q.dn⟩:Qs))=_;rw[C.dn]
  rw[e];rcases ho with h|h|h|h<;>subst h
  ·have y:hit t 57 ⟨i,false⟩=true:=hx
   grind
  ·have y:hit t 28 ⟨i,false⟩=true:=hx
   grind
  ·have y:hit t 55 ⟨i,false⟩=true:=hx
   grind
  ·have y:hit t 42 ⟨i,false⟩=true:=hx
   grind
 have wr0:∀β,(qB q β).c.wr=false:=fun β=>by show q.c.wr=false;rw[C.c]
 have hbk:∀ops,bk ⟨⟨i+1,false⟩,q.f::q.F,⟨o,ops,[],[],0,0,0⟩,q.lv,0,false⟩=[]:=fun ops=>by
  unfold bk;rw[if_neg (by grind)]
 have⟨f,X,e1,e2⟩:=ih n (i+1) 1 q1 hn C1 hk (by omega) (by omega) (fun o ho=>by cases ho);have e1':Y7 n (Rd t (i+1)) q.lv 1 []=some (f,X):=by
  have:=hbk [];rw[←this];exact e1
 have⟨n',en⟩:∃n',n=n'+3:=⟨n-3,by omega⟩;unfold brT;rw[e1',X1];rcases e2 with⟨a,s,rfl,a0,a1,hl2,hE⟩|⟨T,j,rfl,rfl,hT,hp,hN,hR⟩
 ·have l1:(f.length:Int)≤500000:=by unfold lb at hl2;omega
  have fin:∀l:List Y1,l.length=f.length→brE o (Y1i o) (Sp t a s) l=some (⟨o,0⟩::l,false,Sp t a s):=fun l h=>by
   unfold brE;rw[Y8t,X1,Y7r (by omega),X1]
  have st:∀l:List Y1,l.length=f.length→OkS t i q (⟨o,0⟩::l) false (Sp t a s):=fun l h=>.inl ⟨a,s,rfl,a0,a1,by rw[X7,h];unfold lb at hl2⊢;omega,fun β=>(hE β).b (wr0 β) C.dn (hB β)⟩
  by_cases h6:o=6
  ·rw[beq_iff_eq.2 h6,cond_true];dsimp only;rw[Y8t,X1,en,formula_stop,X1,Y1j (by grind)]
   grind
  grind
 ·have hT1:=hT.1;have hT2:=hT.2.1;have hT3:=hT.2.2.1;have fl:T.flat.length=nd T:=rfl
  --any way to the end of the first operand
  have hR':∀(β:Int) (P:Qs→Prop),(∀us rs b,(b=0∨b=1)→(hit t 16 ⟨j,false⟩=true→b=0)→qJ 0 rs us=([T],[])→RunP t false ⟨⟨j,false⟩,q.f::q.F,⟨o,[],us,rs,0,0,0⟩,q.lv,b,false⟩ P)→RunP t true (qB q β) P:=fun β P hP=>run_b (i:=i) C.c C.dn (hB β) (hR β P fun us rs b hb hE hJ=>hP us rs b hb (fun h16=>by
    rcases hE h16 with h|h
    ·exact h
    ·have h':o=7∨o=8:=h.1;omega) (by
    have:=hJ 1 (by omega) hp;rw[qJ_of (by omega) this];rfl))
  by_cases h6:o=6
  ·subst h6;rw[show((6:Int)==6)=true from rfl,cond_true];dsimp only;have oj:CuOk t ⟨j,false⟩:=⟨by grind,hT2⟩;have⟨Y,y1,y2⟩:=RX.expect (t:=t) (by omega) (u:=⟨j,false⟩) (X:=Rd t j) (.inl ⟨rfl,rfl⟩) oj 12;rw[y1,X1];have ms:∀(us:List Tr) (rs:List Int) (b:Int),(b=0∨b=1)→(hit t 16 ⟨j,false⟩=true→b=0)→qJ 0 rs us=([T],[])→_:=fun us rs b hb h16 hJ=>mid_sim (t:=t) (j:=j) (b:=b) (F:=q.f::q.F) (us:=us) (rs:=rs) (lv:=q.lv) hb h16 hJ hN;rcases y2 with⟨hw,rfl⟩|⟨hw,a,rfl,a0,a1⟩
   ·have ex:=xpc_eq hw;have ob:=(oj.xpc [12]).a1;rw[ex] at ob⊢;have e1:j+(([(12:Int)].length:Nat):Int)=j+1:=rfl;simp only[e1] at ob⊢
    let q2:Qs:=⟨⟨j+1,false⟩,q.f::q.F,⟨6,[T],[],[],0,0,0⟩,q.lv,0,false⟩
    have C2:Cx t (j+1) q2:=⟨rfl,rfl,C.lv,fun h=>by grind,by grind,by omega,ob⟩;have⟨g,X2,g1,g2⟩:=ih n (j+1) 1 q2 hn C2 (by omega) (by omega) (by omega) (fun o ho=>by cases ho);have g1':Y7 n (Rd t (j+1)) q.lv 1 []=some (g,X2):=g1;rw[g1',X1];rcases g2 with⟨a,s,rfl,a0,a1,hl2,hE⟩|⟨T2,j2,rfl,rfl,hT',hp2,hN2,hR2⟩
    ·have l1:(g.length:Int)≤500000:=by unfold lb at hl2;omega
     dsimp only;rw[Y1j (by omega)];unfold brE;rw[Y8t,X1,Y7r (by grind),X1];refine⟨_,_,rfl,.inl ⟨a,s,rfl,a0,a1, ?_,fun β=>hR' β _ fun us rs b hb h16 hJ=>(hE b).f rfl rfl ((ms us rs b hb h16 hJ).2 hw)⟩⟩;rw[X7,X4,fl];unfold lb at hl2⊢;omega
    ·have hT1':=hT'.1;have hT2':=hT'.2.1;have hT3':=hT'.2.2.1;have fl2:T2.flat.length=nd T2:=rfl;dsimp only;rw[Y1j (by omega),show T.flat++T2.flat=Y0y ([T]++[T2]) by simp[Y0y]];refine brk_close ht C ho (fun _=>by simp) (by omega) hT2' (by rw[Y10,Y27];omega) hN2 fun β P hP=>hR' β P fun us rs b hb h16 hJ=> ?_;refine run_f (i:=j) rfl rfl ((ms us rs b hb h16 hJ).2 hw) (hR2 b P fun us' rs' b' hb' hE' hJ'=>hP us' rs' b' hb' (fun h16=>by
      rcases hE' h16 with h|h
      ·exact h
      grind) (by
      have:=hJ' 1 (by omega) hp2;rw[qJ_of (by omega) this];rfl))
   ·rw[en,formula_stop,X1,Y1j (by grind)];unfold brE;rw[Y8t,X1,Y7r (by grind),X1];refine⟨_,_,rfl,.inl ⟨a,_,rfl,a0,a1, ?_,fun β=>hR' β _ fun us rs b hb h16 hJ=>(ms us rs b hb h16 hJ).1 hw⟩⟩;simp only[X7,X4,Xd,fl];unfold lb;omega
  ·rw[beq_eq_false_iff_ne.2 h6,cond_false,show T.flat=Y0y ([]++[T]) by simp[Y0y]];exact brk_close ht C ho (fun h=>absurd h h6) (by omega) hT2 (by rw[Y27];omega) hN hR'
end
section
variable {t:List Int}
theorem begin_bad{i:Int}{q:Qs}(hc:q.c=⟨i,false⟩)(hd:q.dn=false)(h:∀c:Int,(c=60∨c=48∨c=35∨c=56∨c=57∨c=28∨c=55∨c=42∨c=41)→hit t c ⟨i,false⟩=false)(β:Int):Ends t true (qB q β) (decide ((t.length:Int)≤i)):=by
 have ec:(Y0x t (qB q β)).2.c=⟨i,true⟩:=by
  unfold Y0x;have e:(qB q β).c=⟨i,false⟩:=hc;rw[e,h 60 (by omega),if_neg (by simp),h 48 (by omega),if_neg (by simp),h 35 (by omega),if_neg (by simp),h 56 (by omega),if_neg (by simp),h 57 (by omega),if_neg (by simp),h 28 (by omega),if_neg (by simp),h 55 (by omega),if_neg (by simp),h 42 (by omega),if_neg (by simp),h 41 (by omega),if_neg (by simp)];show(⟨(qB q β).c.at_,true⟩:Cu)=_;rw[e]
 exact ends_b (q:=qB q β) (u:=⟨i,true⟩) (by show q.c.wr=false;rw[hc]) hd ec rfl
theorem simple_sim(ht:t.length≤400){k:Nat}(ih:∀k',k'<k→FSq t k'){i:Int}{q:Qs}(C:Cx t i q)(hk:(t.length:Int)-i≤k)(n:Nat)(hn:10*k+7≤n):SimS t (n+1) i q:=by
 have i0:=C.i0;have i1:=C.i1;show ∃f br X,Yp (n+1) (Rd t i) q.lv=some (f,br,X)∧OkS t i q f br X
 by_cases hl:i<(t.length:Nat)
 ·have ih1:FSq t (k-1):=ih _ (by omega);have hk1:(t.length:Int)-(i+1)≤((k-1:Nat):Int):=by omega
  have hh:∀c:Int,hit t c ⟨i,false⟩=(cAt t i==c):=fun c=>hit_eq hl;rw[simple_at n i0 hl (by omega)];unfold Y1e;rw[peek_at i0 hl,X1,Y5f,X1,cond_false,Y1k (by grind)];generalize hx:cAt t i=x at*;have yes:∀c:Int,x=c→hit t c ⟨i,false⟩=true:=fun c h=>by simp_all
  by_cases h1:x=60
  ·rw[beq_iff_eq.2 h1,cond_true];have⟨f,X,e1,e2⟩:=num_simple ht C (yes _ h1)
   grind
  rw[beq_eq_false_iff_ne.2 h1,cond_false]
  by_cases h2:x=48
  ·rw[beq_iff_eq.2 h2,cond_true];have⟨f,X,e1,e2⟩:=var_simple ht C (yes _ h2)
   grind
  rw[beq_eq_false_iff_ne.2 h2,cond_false]
  by_cases h3:x=56
  ·rw[beq_iff_eq.2 h3,cond_true];obtain⟨m,rfl⟩:∃m,n=m+2:=⟨n-2,by omega⟩;have⟨f,X,e1,e2⟩:=sum_simple ht m C (yes _ h3)
   grind
  rw[beq_eq_false_iff_ne.2 h3,cond_false]
  by_cases h4:x=41
  ·rw[beq_iff_eq.2 h4,cond_true];obtain⟨m,rfl⟩:∃m,n=m+2:=⟨n-2,by omega⟩;have⟨f,X,e1,e2⟩:=mat_simple ht ih1 m (by omega) C hk1 (yes _ h4)
   grind
  rw[beq_eq_false_iff_ne.2 h4,cond_false]
  by_cases h5:x=35
  ·rw[beq_iff_eq.2 h5,cond_true];have⟨f,X,e1,e2⟩:=grp_simple ht ih1 n (by omega) C hk1 (yes _ h5)
   grind
  rw[beq_eq_false_iff_ne.2 h5,cond_false];have br:∀o:Int,(o=6∨o=9∨o=10∨o=11)→x=Y92 o→∃f br X,iter (fun loop (s:Y0×Int)=>Y03 (Y7 n) q.lv x loop s.1 s.2) 1000000 (Rd t (i+1),(0:Int))=some (f,br,X)∧OkS t i q f br X:=fun o ho h=>by
   have⟨f,X,e1,e2⟩:=brk_simple ht ih1 n (by omega) C hk1 ho (yes _ h);rw[h,brk_loop _ _ _ ho]
   grind
  show ∃f br X,iter (fun loop (s:Y0×Int)=>Y03 (Y7 n) q.lv x loop s.1 s.2) 1000000 (Rd t (i+1),(0:Int))=some (f,br,X)∧OkS t i q f br X
  by_cases h6:x=57
  ·exact br 6 (by omega) h6
  by_cases h7:x=28
  ·exact br 9 (by omega) h7
  by_cases h8:x=55
  ·exact br 10 (by omega) h8
  by_cases h9:x=42
  ·exact br 11 (by omega) h9
  have a6:Y28 6=some [57,12,47]:=rfl;have a9:Y28 9=some [28,0,59]:=rfl;have a10:Y28 10=some [55,0,62]:=rfl;have a11:Y28 11=some [42,0,46]:=rfl;rw[show(1000000:Nat)=999995+1+1+1+1+1 from rfl,show(0:Int)=((0:Nat):Int) from rfl,brk_no _ _ _ _ _ (k:=0) (by omega) a6 (fun h=>h6 h.symm),brk_no _ _ _ _ _ (k:=0+1) (by omega) a9 (fun h=>h7 h.symm),brk_no _ _ _ _ _ (k:=0+1+1) (by omega) a10 (fun h=>h8 h.symm),brk_no _ _ _ _ _ (k:=0+1+1+1) (by omega) a11 (fun h=>h9 h.symm),Yw];refine⟨[],false,Sp t (i+1) false,rfl,.inl ⟨i+1,false,rfl,by omega,by omega,by unfold lb;grind,fun β=> ?_⟩⟩;have:=begin_bad C.c C.dn (fun c hc=>by rw[hh];grind) β;rwa[decide_eq_false (by omega)] at this
 ·rw[simple_end n (by omega)];refine⟨_,_,_,rfl,.inl ⟨i,true,rfl,by omega,by omega,by unfold lb;grind,fun β=> ?_⟩⟩;have:=begin_bad (t:=t) C.c C.dn (fun c hc=>by unfold hit;grind) β;rwa[decide_eq_true (by omega)] at this
theorem FS_all(ht:t.length≤400):∀k:Nat,FSq t k:=by
 intro k
 induction k using Nat.strongRecOn with
 |_ k ih=>
  intro n i p q hn C hk hp hp4 hd;obtain⟨m,rfl⟩:∃m,n=m+1+1+1:=⟨n-3,by omega⟩;exact formula_sim ht ih C hk hp hp4 hd (m+1+1) (by omega) (operand_sim ht ih C hk (m+1) (by omega) (simple_sim ht ih C hk m (by omega)))
theorem attempt_sim(ht:t.length≤400):((mRun t).c.wr=true∧∃f,Y4x t=some (f,false,decide ((t.length:Int)≤(mRun t).c.at_)))∨((mRun t).c.wr=false∧∃T,Y4x t=some (T.flat,true,true)∧qJ 0 (mRun t).f.ss (mRun t).f.ts=([T],[])∧T.flat.length≤t.length):=by
 have C:Cx t 0 q00:=⟨rfl,rfl,(fun x hx=>by cases hx),fun h=>by have h':(-1:Int)=7∨(-1:Int)=8:=h;omega,by show((0:Nat):Int)≤0;omega,by omega,by omega⟩;have⟨f,X,e1,e2⟩:=FS_all ht t.length 1000000 0 1 q00 (by omega) C (by omega) (by omega) (by omega) (fun o ho=>by cases ho);have e1':Y6h (Rd t 0) [] 1 []=some (f,X):=e1;unfold Y4x;rw[e1',X1];rcases e2 with⟨a,s,rfl,a0,a1,hl,hE⟩|⟨T,j,rfl,rfl,hT,hp,hN,hR⟩
 ·have⟨r,R,hw,hs⟩:=hE 0;have er:=run_eq (t:=t) R;rw[er];refine .inl ⟨hw,[], ?_⟩;dsimp only;rw[Y5e,X1,cond_true,hs];simp
 ·have hT2:=hT.2.1;have hT1:=hT.1;dsimp only;rw[Y5f,X1,cond_false]
  --the machine behind the formula
  have key:∀P:Qs→Prop,(∀us rs b,(b=0∨b=1)→(hit t 16 ⟨j,false⟩=true→b=0)→qJ 0 rs us=([T],[])→RunP t false ⟨⟨j,false⟩,[],⟨-1,[],us,rs,0,0,0⟩,[],b,false⟩ P)→RunP t true q00 P:=fun P hP=>hR 0 P fun us rs b hb hE hJ=>hP us rs b hb (fun h16=>by
   rcases hE h16 with h|h
   ·exact h
   ·have h':(-1:Int)=7∨(-1:Int)=8:=h.1;omega) (by
   have:=hJ 1 (by omega) hp;rw[qJ_of (by omega) this];rfl)
  by_cases hj:j=(t.length:Nat)
  ·right
   have n16:hit t 16 ⟨j,false⟩=false:=by unfold hit;simp_all
   have⟨r,R,hw,hJ⟩:=key (fun r=>r.c.wr=false∧qJ 0 r.f.ss r.f.ts=([T],[])) fun us rs b hb h16 hJ=>by
    have ef:Yk t ⟨⟨j,false⟩,[],⟨-1,[],us,rs,0,0,0⟩,[],b,false⟩=(false,⟨⟨j,false⟩,[],⟨-1,[],us,rs,0,0,0⟩,[],b,true⟩):=by
     rw[fol_rest rfl hb hN n16];unfold qRest
     simp_all
    exact run_f (i:=j) rfl rfl ef ⟨_,.stop (.inr rfl),rfl,hJ⟩
   have er:=run_eq (t:=t) R;rw[er];refine⟨hw,T, ?_,hJ,by have:=hT.2.2.1;have fl:T.flat.length=nd T:=rfl;omega⟩;rw[beq_iff_eq.2 hj]
  ·left
   have hb:(j==((t.length:Nat):Int))=false:=beq_eq_false_iff_ne.2 hj;have⟨r,R,hw,hat⟩:=key (fun r=>r.c.wr=true∧r.c.at_=j) fun us rs b hb h16 hJ=>by
    have ec:(Yk t ⟨⟨j,false⟩,[],⟨-1,[],us,rs,0,0,0⟩,[],b,false⟩).2.c=⟨j,true⟩:=by
     cases hh16:hit t 16 ⟨j,false⟩ with
     |true=>
      unfold Yk;rw[if_pos hh16];unfold qSgn;rw[if_pos ⟨by rw[h16 hh16];rfl,rfl⟩];show(⟨j+1-1,true⟩:Cu)=_;rw[show j+1-1=j by omega]
     |false=>
      rw[fol_rest rfl hb hN hh16];unfold qRest
      simp_all
    refine⟨_,.step (by simp) (.stop (.inl ?_)), ?_, ?_⟩
    ·show(Yk t _).2.c.wr=true;rw[ec]
    ·show(Yk t _).2.c.wr=true;rw[ec]
    ·show(Yk t _).2.c.at_=j;rw[ec]
   have er:=run_eq (t:=t) R;rw[er];refine⟨hw,T.flat, ?_⟩;rw[hat,hb,decide_eq_false (by omega)]
end
end Go.Proofs.YtfpcbalkioolmaaDoor
