/- Own work. -/
import Derived.Test.YtfpcbalkioolmaaDoorMrB
set_option linter.unusedSimpArgs false
set_option linter.unusedVariables false
namespace Go.Proofs.YtfpcbalkioolmaaDoor
open Go.Abs
section
variable {t:List Int}
def mQ (i:Int) (F:List Qf) (ops:List Tr) (c r e:Int) (lv:List Int) (β:Int):Qs:=⟨⟨i,false⟩,F,⟨13,ops,[],[],c,r,e⟩,lv,β,false⟩
def mW (c:Int):Int:=if c=0 then 4 else c
theorem flatL_snoc(ks:List Tr)(T:Tr):Y0y (ks++[T])=Y0y ks++T.flat:=by rw[flatL_app];simp[Y0y]
theorem mat_16{j:Int}{F:List Qf}{ops us:List Tr}{rs:List Int}{c r e b:Int}{lv:List Int}(h16:hit t 16 ⟨j,false⟩=true)(hb:b=0):Ends t false ⟨⟨j,false⟩,F,⟨13,ops,us,rs,c,r,e⟩,lv,b,false⟩ false:=by
 have hl:=(Y0g h16).2.1;simp only at hl;have ec:(Yk t ⟨⟨j,false⟩,F,⟨13,ops,us,rs,c,r,e⟩,lv,b,false⟩).2.c=⟨j,true⟩:=by
  unfold Yk;rw[if_pos h16];unfold qSgn;rw[if_pos ⟨by rw[hb];rfl,rfl⟩];show(⟨j+1-1,true⟩:Cu)=_;rw[show j+1-1=j by omega]
 have:=ends_f (q:=⟨⟨j,false⟩,F,⟨13,ops,us,rs,c,r,e⟩,lv,b,false⟩) rfl rfl ec rfl;rwa[decide_eq_false (by simp_all)] at this
def OkL (t:List Int) (i:Int) (F:List Qf) (ops:List Tr) (c r e:Int) (lv:List Int) (pre:List Tr) (out:List Y1) (K:Int) (X:Y0):Prop:=
 (∃a s,X=Sp t a s∧0≤a∧a≤100000∧(out.length:Int)≤(ndL pre:Nat)+lb t i∧1≤K∧K≤4∧∀β,Ends t true (mQ i F ops c r e lv β) s)∨
 (∃Ts T j,X=Rd t j∧out=Y0y (pre++Ts++[T])∧K=e+1+(Ts.length:Nat)∧K≤mW c∧(K=mW c∨hit t 32 ⟨j,false⟩=false)∧i<j∧j≤(t.length:Nat)∧((ndL Ts:Nat):Int)+(nd T:Nat)≤j-i∧NoP t j 1∧
  ∀(β:Int) (P:Qs→Prop),(∀us rs b,(b=0∨b=1)→(hit t 16 ⟨j,false⟩=true→b=0)→qJ 0 rs us=([T],[])→RunP t false ⟨⟨j,false⟩,F,⟨13,ops++Ts,us,rs,c,r,K-1⟩,lv,b,false⟩ P)→RunP t true (mQ i F ops c r e lv β) P)
theorem list_loop(ht:t.length≤400){k:Nat}(ih:FSq t k)(n:Nat)(hn:10*k+10≤n){F:List Qf}{c r:Int}{lv:List Int}(hv:LvOk lv)(hc:0≤c∧c≤4):∀(d m:Nat) (i e:Int) (ops pre:List Tr),0≤e→e+1+(d:Nat)=mW c→d<m→((lv.length:Nat):Int)≤i→0≤i→i≤(t.length:Nat)→(t.length:Int)-i≤k→((ndL pre:Nat):Int)≤i→
  ∃out K X,iter (fun loop (s:Y0×(List Y1)×Int)=>Y0e (Y7 n) lv (mW c) false loop s.1 s.2.1 s.2.2) m (Rd t i,Y0y pre,e+1)=some (out,K,X)∧OkL t i F ops c r e lv pre out K X
 |d,0,i,e,ops,pre,h0,h1,h2,h3,h4,h5,h6,h7=>by omega
 |d,m+1,i,e,ops,pre,h0,h1,h2,h3,h4,h5,h6,h7=>by
  have hW:mW c≤4:=by unfold mW;split<;>omega
  have pl:(Y0y pre).length=ndL pre:=rfl;rw[Yw];show ∃out K X,Y0e (Y7 n) lv (mW c) false _ (Rd t i) (Y0y pre) (e+1)=some (out,K,X)∧_;unfold Y0e;rw[cond_false];have C:Cx t i (mQ i F ops c r e lv 0):=⟨rfl,rfl,hv,fun h=>by have h':(13:Int)=7∨(13:Int)=8:=h;omega,h3,h4,h5⟩
  have⟨f,X,e1,e2⟩:=ih n i 1 (mQ i F ops c r e lv 0) (by omega) C h6 (by omega) (by omega) (fun o ho=>by cases ho);have e1':Y7 n (Rd t i) lv 1 []=some (f,X):=e1;rw[e1',X1];rcases e2 with⟨a,s,rfl,a0,a1,hl,hE⟩|⟨T,j,rfl,rfl,hT,hp,hN,hR⟩
  ·have l1:(f.length:Int)≤500000:=by unfold lb at hl;omega
   dsimp only;rw[Y1j (by omega)];refine⟨Y0y pre++f,e+1,Sp t a s, ?_,.inl ⟨a,s,rfl,a0,a1, ?_,by omega,by omega,hE⟩⟩
   ·unfold Y1w;rw[peek_Sp,X1];rfl
   simp_all
  ·have hT1:=hT.1;have hT2:=hT.2.1;have hT3:=hT.2.2;have fl:T.flat.length=nd T:=rfl;dsimp only;rw[Y1j (by omega)];unfold Y1w;have⟨x,hx,hi⟩:=RX.peek (t:=t) (u:=⟨j,false⟩) (X:=Rd t j) (.inl ⟨rfl,rfl⟩) ⟨by grind,hT2⟩ (c:=32) (by omega);rw[hx,X1]
   --any way to the end of the entry
   have hR':∀(β:Int) (P:Qs→Prop),(∀us rs b,(b=0∨b=1)→(hit t 16 ⟨j,false⟩=true→b=0)→qJ 0 rs us=([T],[])→RunP t false ⟨⟨j,false⟩,F,⟨13,ops,us,rs,c,r,e⟩,lv,b,false⟩ P)→RunP t true (mQ i F ops c r e lv β) P:=fun β P hP=>hR β P fun us rs b hb hE hJ=>hP us rs b hb (fun h16=>by
     rcases hE h16 with h|h
     ·exact h
     ·have h':(13:Int)=7∨(13:Int)=8:=h.1;omega) (by
     have:=hJ 1 (by omega) hp;rw[qJ_of (by omega) this];rfl)
   by_cases hgo:hit t 32 ⟨j,false⟩=true∧e+1<mW c
   ·have ex:x=32:=hi.2 hgo.1;have hlt:=(Y0g hgo.1).2.1;simp only at hlt;have e3:(cond (x !=(32:Int)) true (e+1==mW c))=false:=by
     grind
    rw[e3,cond_false,Y1k (by grind)];unfold Y6c;rw[Y1k (by omega)];obtain⟨d',rfl⟩:∃d',d=d'+1:=⟨d-1,by omega⟩;have ep:Y0y pre++T.flat=Y0y (pre++[T]):=(flatL_snoc pre T).symm;rw[ep];have:=list_loop ht ih n hn (F:=F) (r:=r) hv hc d' m (j+1) (e+1) (ops++[T]) (pre++[T]) (by omega) (by omega) (by omega) (by omega) (by omega) (by omega) (by omega) (by rw[Y79,Y10,Y27];omega);have⟨out,K,X,g1,g2⟩:=this;refine⟨out,K,X,g1, ?_⟩
    --the machine goes on,too
    have step:∀us rs b,(b=0∨b=1)→qJ 0 rs us=([T],[])→Yk t ⟨⟨j,false⟩,F,⟨13,ops,us,rs,c,r,e⟩,lv,b,false⟩=(true,mQ (j+1) F (ops++[T]) c r (e+1) lv b):=fun us rs b hb hJ=>by
     have n16:hit t 16 ⟨j,false⟩=false:=X0o.2 fun h=>by
      have a:=(Y0g h).2.2;have b:=(Y0g hgo.1).2.2;omega
     rw[fol_rest rfl hb hN n16];unfold qRest;rw[if_neg (by simp),if_neg (by simp),if_pos rfl];unfold Y3y;rw[if_pos ⟨hgo.2,hgo.1⟩];have eo:∀z:Qs,z.f.ss=rs→z.f.ts=us→qOpI z=T:=fun z h1 h2=>Y7o (by simp_all);unfold qOpd;rw[eo _ rfl rfl];rfl
    rcases g2 with⟨a,s,rfl,a0,a1,hl,hK1,hK4,hE⟩|⟨Ts,T2,j2,rfl,rfl,hK,hKW,hK32,hj1,hj2,hnd,hN2,hR2⟩
    ·refine .inl ⟨a,s,rfl,a0,a1, ?_,hK1,hK4,fun β=>hR' β _ fun us rs b hb _ hJ=>(hE b).f rfl rfl (step us rs b hb hJ)⟩;rw[Y79,Y10,Y27] at hl;unfold lb at hl⊢;omega
    ·refine .inr ⟨T::Ts,T2,j2,rfl,by simp,by grind,hKW,hK32,by omega,hj2,by rw[Y10];omega,hN2,fun β P hP=>hR' β P fun us rs b hb _ hJ=> ?_⟩;refine run_f (i:=j) rfl rfl (step us rs b hb hJ) (hR2 b P fun us' rs' b' hb' hE' hJ'=> ?_)
     grind
   ·have e3:(cond (x !=(32:Int)) true (e+1==mW c))=true:=by
     grind
    rw[e3,cond_true];refine⟨_,_,_,rfl,.inr ⟨[],T,j,rfl,by rw[X0l,flatL_snoc],by simp,by omega, ?_,hT1,hT2,by rw[Y27];omega,hN,fun β P hP=>hR' β P fun us rs b hb h16 hJ=> ?_⟩⟩
    ·grind
    grind
end
section
variable {t:List Int}
def OkMx (t:List Int) (i:Int) (g:Qf) (F:List Qf) (lv:List Int) (f:List Y1) (X:Y0):Prop:=
 (∃a s,X=Sp t a s∧0≤a∧a≤100000∧(f.length:Int)≤lb t i+500∧∀β,Ends t true (mQ i (g::F) [] 0 0 0 lv β) s)∨
 (∃N ks j,X=Rd t j∧f=(Tr.node ⟨13,N⟩ ks).flat∧i<j∧j≤(t.length:Nat)∧((ndL ks:Nat):Int)≤j-i∧
  ∀(β b:Int) (P:Qs→Prop),(∀b,RunP t false (Y1z (.node ⟨13,N⟩ ks) 1 ⟨⟨j,false⟩,F,g,lv,b,false⟩) P)→RunP t true (mQ i (g::F) [] 0 0 0 lv β) P)
theorem qMatrix_of{j c r e b:Int}{F:List Qf}{ops us:List Tr}{rs:List Int}{lv:List Int}(hb:b=0∨b=1)(hN:NoP t j 1)(h16:hit t 16 ⟨j,false⟩=false):Yk t ⟨⟨j,false⟩,F,⟨13,ops,us,rs,c,r,e⟩,lv,b,false⟩=Y3y t ⟨⟨j,false⟩,F,⟨13,ops,us,rs,c,r,e⟩,lv,b,false⟩:=by
 rw[fol_rest rfl hb hN h16];unfold qRest;rw[if_neg (by simp),if_neg (by simp),if_pos rfl]
theorem mat_loop(ht:t.length≤400){k:Nat}(ih:FSq t k)(n:Nat)(hn:10*k+10≤n){g:Qf}{F:List Qf}{lv:List Int}(hv:LvOk lv){i0 C:Int}(hC:1≤C∧C≤4)(x1:List Y1×Int×Y0)(hx1:x1.2.1=C)(h00:0≤i0)(hll:((lv.length:Nat):Int)≤i0):∀(d m:Nat) (R j:Int) (As:List Tr) (T:Tr),1≤R→R+(d:Nat)=4→d+1<m→i0<j→j≤(t.length:Nat)→(t.length:Int)-j≤k→((ndL As:Nat):Int)+(nd T:Nat)≤j-i0→NoP t j 1→(if R=1 then(C=4∨hit t 32 ⟨j,false⟩=false) else True)→
  (∀(β:Int) (P:Qs→Prop),(∀us rs b,(b=0∨b=1)→(hit t 16 ⟨j,false⟩=true→b=0)→qJ 0 rs us=([T],[])→RunP t false ⟨⟨j,false⟩,g::F,⟨13,As,us,rs,if R=1 then 0 else C,R-1,C-1⟩,lv,b,false⟩ P)→RunP t true (mQ i0 (g::F) [] 0 0 0 lv β) P)→
  ∃f X,iter (fun loop (s:Y0×(List Y1)×Int)=>Y09 (Yl (n+1)) lv x1 loop s.1 s.2.1 s.2.2) m (Rd t j,Y0y (As++[T]),R)=some (f,X)∧OkMx t i0 g F lv f X
 |d,0,R,j,As,T,_,_,h,_,_,_,_,_,_,_=>by omega
 |d,m+1,R,j,As,T,hR1,hRd,hm,hj0,hj1,hk,hnd,hN,h32,hR=>by
  have pl:(Y0y (As++[T])).length=ndL As+nd T:=by
   show ndL (As++[T])=_;rw[Y79,Y10,Y27];omega
  rw[Yw];show ∃f X,Y09 (Yl (n+1)) lv x1 _ (Rd t j) (Y0y (As++[T])) R=some (f,X)∧_;rw[Y09];have oj:CuOk t ⟨j,false⟩:=⟨by grind,hj1⟩;have rx:RX t ⟨j,false⟩ (Rd t j):=.inl ⟨rfl,rfl⟩;have⟨x,hx,hi⟩:=rx.peek oj (c:=51) (by omega);rw[hx,X1]
  --the machine:no entry more,the row is whole
  have c1:∀us rs b,¬((⟨⟨j,false⟩,g::F,⟨13,As,us,rs,if R=1 then 0 else C,R-1,C-1⟩,lv,b,false⟩:Qs).f.ents+1<(if(⟨⟨j,false⟩,g::F,⟨13,As,us,rs,if R=1 then 0 else C,R-1,C-1⟩,lv,b,false⟩:Qs).f.cols=0 then 4 else(⟨⟨j,false⟩,g::F,⟨13,As,us,rs,if R=1 then 0 else C,R-1,C-1⟩,lv,b,false⟩:Qs).f.cols)∧hit t 32 (⟨⟨j,false⟩,g::F,⟨13,As,us,rs,if R=1 then 0 else C,R-1,C-1⟩,lv,b,false⟩:Qs).c=true):=fun us rs b h=>by
   grind
  have c2:∀us rs b,¬((⟨⟨j,false⟩,g::F,⟨13,As,us,rs,if R=1 then 0 else C,R-1,C-1⟩,lv,b,false⟩:Qs).f.cols≠0∧(⟨⟨j,false⟩,g::F,⟨13,As,us,rs,if R=1 then 0 else C,R-1,C-1⟩,lv,b,false⟩:Qs).f.ents+1≠(⟨⟨j,false⟩,g::F,⟨13,As,us,rs,if R=1 then 0 else C,R-1,C-1⟩,lv,b,false⟩:Qs).f.cols):=fun us rs b h=>by
   grind
  by_cases hgo:hit t 51 ⟨j,false⟩=true∧R<4
  ·have e1:(cond (x==(51:Int)) (decide (R<(4:Int))) false)=true:=by
    simp_all
   have hlt:=(Y0g hgo.1).2.1;simp only at hlt;have n16:hit t 16 ⟨j,false⟩=false:=X0o.2 fun h=>by
    have a:=(Y0g h).2.2;have b:=(Y0g hgo.1).2.2;omega
   rw[e1,cond_true,Y1k (by grind),hx1];have mWC:mW C=C:=by unfold mW;rw[Vn]
   have⟨out,K,X,g1,g2⟩:=list_loop ht ih n hn (F:=g::F) (c:=C) (r:=R) hv ⟨by omega,hC.2⟩ (C-1).toNat 1000000 (j+1) 0 (As++[T]) [] (by omega) (by omega) (by omega) (by omega) (by omega) (by omega) (by omega) (by rw[Y27];omega);have eL:Yl (n+1) (Rd t (j+1)) lv C false=some (out,K,X):=by
    rw[Yl];unfold Y4k;rw[mWC] at g1;exact g1
   have eL':Yl (n+1) (⟨(Rd t j).L,(Rd t j).At+1,(Rd t j).Short,(Rd t j).Bad⟩:Y0) lv C false=some (out,K,X):=eL;rw[eL',X1];have c3:∀us rs b,((⟨⟨j,false⟩,g::F,⟨13,As,us,rs,if R=1 then 0 else C,R-1,C-1⟩,lv,b,false⟩:Qs).f.rows+1<4∧hit t 51 (⟨⟨j,false⟩,g::F,⟨13,As,us,rs,if R=1 then 0 else C,R-1,C-1⟩,lv,b,false⟩:Qs).c=true):=fun us rs b=>⟨by simp_all,hgo.1⟩;have step:∀us rs b,(b=0∨b=1)→qJ 0 rs us=([T],[])→Yk t ⟨⟨j,false⟩,g::F,⟨13,As,us,rs,if R=1 then 0 else C,R-1,C-1⟩,lv,b,false⟩=(true,mQ (j+1) (g::F) (As++[T]) C R 0 lv b):=fun us rs b hb hJ=>by
    rw[qMatrix_of hb hN n16];unfold Y3y;rw[if_neg (c1 us rs b),if_neg (c2 us rs b),if_pos (c3 us rs b)];have eo:∀z:Qs,z.f.ss=rs→z.f.ts=us→qOpI z=T:=fun z h1 h2=>Y7o (by simp_all);rw[qOpd,eo _ rfl rfl];show(true,(⟨⟨j+1,false⟩,g::F,⟨13,As++[T],[],[],C-1+1,R-1+1,0⟩,lv,b,false⟩:Qs))=_;rw[show R-1+1=R by omega,show C-1+1=C by omega];rfl
   --a stopped reader comes to the end
   have stopM:∀(a:Int) (s:Bool) (f:List Y1),f.length≤1000000→iter (fun loop (s:Y0×(List Y1)×Int)=>Y09 (Yl (n+1)) lv x1 loop s.1 s.2.1 s.2.2) m (Sp t a s,f,R+1)=some (⟨13,8*(R+1)+C⟩::f,Sp t a s):=fun a s f hf=>by
    obtain⟨m',rfl⟩:∃m',m=m'+1:=⟨m-1,by omega⟩;rw[Yw];show Y09 (Yl (n+1)) lv x1 _ (Sp t a s) f (R+1)=_;rw[Y09,peek_Sp,X1];have:(cond ((64:Int)==(51:Int)) (decide (R+1<(4:Int))) false)=false:=rfl;rw[this,cond_false,Y8t,X1,hx1,Y1k (by omega),Y1k (by omega),Y7r (by omega),X1]
   rcases g2 with⟨a,s,rfl,a0,a1,hl,hK1,hK4,hE⟩|⟨Ts,T2,j2,rfl,rfl,hK,hKW,hK32,hj1',hj2,hnd2,hN2,hR2⟩
   ·rw[Y27] at hl;have l1:(out.length:Int)≤500000:=by unfold lb at hl;omega
    have k1:Y22 (fun s=>iter (fun loop (s:Y0×(List Y1)×Int)=>Y09 (Yl (n+1)) lv x1 loop s.1 s.2.1 s.2.2) m s) R (out,K,Sp t a s) (Sp t a s) (Y0y (As++[T]))=some (⟨13,8*(R+1)+C⟩::(Y0y (As++[T])++out),Sp t a s):=by
     unfold Y22;rw[Y1j (by grind),Y1k (by omega)]
     grind
    refine⟨⟨13,8*(R+1)+C⟩::(Y0y (As++[T])++out),Sp t a s, ?_,.inl ⟨a,s,rfl,a0,a1, ?_,fun β=>hR β _ fun us rs b hb _ hJ=>(hE b).f rfl rfl (step us rs b hb hJ)⟩⟩
    ·dsimp only;cases decide (K<C) with
     |true=>rw[cond_true,Y8t,X1];exact k1
     |false=>simp_all
    ·rw[X7,X4,pl];unfold lb at hl⊢;omega
   ·rw[Xt] at*;have pl2:(Y0y (Ts++[T2])).length=ndL Ts+nd T2:=by
     show ndL (Ts++[T2])=_;rw[Y79,Y10,Y27];omega
    rw[mWC] at hKW hK32;dsimp only
    by_cases hKC:K<C
    ·have h32':hit t 32 ⟨j2,false⟩=false:=by
      grind
     have o2:CuOk t ⟨j2,false⟩:=⟨by grind,hj2⟩;have⟨Y,y1,y2⟩:=RX.expect (t:=t) (by omega) (u:=⟨j2,false⟩) (X:=Rd t j2) (.inl ⟨rfl,rfl⟩) o2 32;rw[Y6k,if_neg (by simp_all)] at y2;rcases y2 with⟨hw,_⟩|⟨_,a,rfl,a0,a1⟩
     ·cases hw
     ·rw[decide_eq_true hKC,cond_true,y1,X1];unfold Y22;dsimp only;rw[Y1j (by omega),Y1k (by omega)];rw[stopM a _ _ (by grind)];refine⟨_,_,rfl,.inl ⟨a,_,rfl,a0,a1, ?_,fun β=>hR β _ fun us rs b hb _ hJ=> ?_⟩⟩
      ·rw[X7,X4,pl,pl2];unfold lb;omega
      ·refine run_f (i:=j) rfl rfl (step us rs b hb hJ) (hR2 b _ fun us' rs' b' hb' h16' hJ'=> ?_);show Ends t false _ (decide ((t.length:Int)≤j2));cases hh16:hit t 16 ⟨j2,false⟩ with
       |true=>
        have hl2:=(Y0g hh16).2.1;simp only at hl2;rw[decide_eq_false (by omega)];exact mat_16 hh16 (h16' hh16)
       |false=>
        have ec:(Yk t ⟨⟨j2,false⟩,g::F,⟨13,As++[T]++Ts,us',rs',C,R,K-1⟩,lv,b',false⟩).2.c=⟨j2,true⟩:=by
         rw[qMatrix_of hb' hN2 hh16];unfold Y3y;rw[if_neg (by simp_all),if_pos (by grind)];rfl
        exact ends_f rfl rfl ec rfl
    ·rw[decide_eq_false hKC,cond_false];unfold Y22;dsimp only;rw[Y1j (by omega),Y1k (by omega)];obtain⟨d',rfl⟩:∃d',d=d'+1:=⟨d-1,by omega⟩;have ef:Y0y (As++[T])++Y0y (Ts++[T2])=Y0y ((As++[T]++Ts)++[T2]):=by rw[←flatL_app];simp
     rw[ef];have hKe:K=C:=by omega
     refine mat_loop ht ih n hn hv hC x1 hx1 h00 hll d' m (R+1) j2 (As++[T]++Ts) T2 (by omega) (by omega) (by omega) (by omega) hj2 (by omega) (by rw[Y79,Y79,Y10,Y27];omega) hN2 (by grind) fun β P hP=> ?_;refine hR β P fun us rs b hb _ hJ=>run_f (i:=j) rfl rfl (step us rs b hb hJ) (hR2 b P fun us' rs' b' hb' h16' hJ'=> ?_)
     grind
  ·have e1:(cond (x==(51:Int)) (decide (R<(4:Int))) false)=false:=by
    simp_all
   rw[e1,cond_false];have⟨Y,y1,y2⟩:=rx.expect (by omega) oj 43;rw[y1,X1,hx1,Y1k (by omega),Y1k (by omega),Y7r (by omega),X1];refine⟨_,_,rfl, ?_⟩;have c3:∀us rs b,¬((⟨⟨j,false⟩,g::F,⟨13,As,us,rs,if R=1 then 0 else C,R-1,C-1⟩,lv,b,false⟩:Qs).f.rows+1<4∧hit t 51 (⟨⟨j,false⟩,g::F,⟨13,As,us,rs,if R=1 then 0 else C,R-1,C-1⟩,lv,b,false⟩:Qs).c=true):=fun us rs b h=>hgo ⟨h.2,by simp_all⟩;have step:∀us rs b,(b=0∨b=1)→hit t 16 ⟨j,false⟩=false→qJ 0 rs us=([T],[])→Yk t ⟨⟨j,false⟩,g::F,⟨13,As,us,rs,if R=1 then 0 else C,R-1,C-1⟩,lv,b,false⟩=(false,Y1z (.node ⟨13,8*R+C⟩ (As++[T])) 1 ⟨xpc t [43] ⟨j,false⟩,F,g,lv,b,false⟩):=fun us rs b hb h16 hJ=>by
    rw[qMatrix_of hb hN h16];unfold Y3y;rw[if_neg (c1 us rs b),if_neg (c2 us rs b),if_neg (c3 us rs b)];have eo:∀z:Qs,z.f.ss=rs→z.f.ts=us→qOpI z=T:=fun z h1 h2=>Y7o (by simp_all);rw[Y2y,qOpd,eo _ rfl rfl];simp only[show R-1+1=R by omega,show C-1+1=C by omega]
    rfl
   rcases y2 with⟨hw,rfl⟩|⟨hw,a,rfl,a0,a1⟩
   ·have hh:hit t 43 ⟨j,false⟩=true:=by
     cases h:hit t 43 ⟨j,false⟩ with
     |true=>rfl
     |false=>rw[Y6k,if_neg (by grind)] at hw;cases hw
    have hlt:=(Y0g hh).2.1;simp only at hlt;have n16:hit t 16 ⟨j,false⟩=false:=X0o.2 fun h=>by
     have a:=(Y0g h).2.2;have b:=(Y0g hh).2.2;omega
    have ex:xpc t [43] ⟨j,false⟩=⟨j+1,false⟩:=by rw[Y6k,if_pos hh];rfl
    refine .inr ⟨8*R+C,As++[T],j+1,by rw[ex],by rw[Tr.flat],by omega,by omega,by rw[Y79,Y10,Y27];omega,fun β _ P hP=>hR β P fun us rs b hb _ hJ=> ?_⟩;refine run_f (i:=j) rfl rfl (step us rs b hb n16 hJ) ?_
    simp_all
   ·refine .inl ⟨a,_,rfl,a0,a1,by rw[X7,pl];unfold lb;omega,fun β=>hR β _ fun us rs b hb h16 hJ=> ?_⟩;cases hh16:hit t 16 ⟨j,false⟩ with
    |true=>
     have:=mat_16 (t:=t) (F:=g::F) (ops:=As) (us:=us) (rs:=rs) (c:=if R=1 then 0 else C) (r:=R-1) (e:=C-1) (lv:=lv) hh16 (h16 hh16);have hlt:=(Y0g hh16).2.1;have hn43:¬hit t 43 ⟨j,false⟩=true:=fun h=>by
      have a:=(Y0g h).2.2;have b:=(Y0g hh16).2.2;omega
     have e:decide ((t.length:Int)≤(xpc t [43] ⟨j,false⟩).at_)=false:=by
      rw[Y6k,if_neg hn43];exact decide_eq_false (by simp only[Cu.bad] at hlt⊢;omega)
     rw[e];exact this
    |false=>
     refine ends_f (u:=xpc t [43] ⟨j,false⟩) rfl rfl ?_ hw;rw[step us rs b hb hh16 hJ];rfl
end
section
variable {t:List Int}
theorem matrix_sim(ht:t.length≤400){k:Nat}(ih:FSq t k)(n:Nat)(hn:10*k+10≤n){g:Qf}{F:List Qf}{lv:List Int}(hv:LvOk lv){i:Int}(h0:0≤i)(h1:i≤(t.length:Nat))(hk:(t.length:Int)-i≤k)(hll:((lv.length:Nat):Int)≤i):∃f X,Yz (n+2) (Rd t i) lv=some (f,X)∧OkMx t i g F lv f X:=by
 have mW0:mW 0=4:=rfl;have⟨out,K,X,g1,g2⟩:=list_loop ht ih n hn (F:=g::F) (c:=0) (r:=0) hv ⟨by omega,by omega⟩ 3 1000000 i 0 [] [] (by omega) (by omega) (by omega) hll h0 h1 hk (by rw[Y27];omega);have eL:Yl (n+1) (Rd t i) lv 4 false=some (out,K,X):=by
  rw[Yl];unfold Y4k;rw[mW0] at g1;exact g1
 rw[Yz];unfold Y6p;rw[eL,X1];rcases g2 with⟨a,s,rfl,a0,a1,hl,hK1,hK4,hE⟩|⟨Ts,T,j,rfl,rfl,hK,hKW,hK32,hj1,hj2,hnd,hN,hR⟩
 ·rw[Y27] at hl;have l1:(out.length:Int)≤500000:=by unfold lb at hl;omega
  rw[show(1000000:Nat)=999999+1 from rfl,Yw];show ∃f X,Y09 (Yl (n+1)) lv (out,K,Sp t a s) _ (Sp t a s) out 1=some (f,X)∧_;rw[Y09,peek_Sp,X1];have:(cond ((64:Int)==(51:Int)) (decide ((1:Int)<(4:Int))) false)=false:=rfl;rw[this,cond_false,Y8t,Option.bind_some,Y1k (by omega),Y1k (by grind),Y7r (by omega),Option.bind_some];exact⟨_,_,rfl,.inl ⟨a,s,rfl,a0,a1,by grind,hE⟩⟩
 ·rw[Xt] at*;rw[mW0] at hKW hK32;have h4:K=1+(Ts.length:Nat):=by omega
  refine mat_loop ht ih n hn hv (C:=K) ⟨by omega,hKW⟩ (Y0y (Ts++[T]),K,Rd t j) rfl h0 hll 3 1000000 1 j Ts T (by omega) (by rfl) (by omega) hj1 hj2 (by omega) hnd hN (by simp_all) fun β P hP=> ?_
  simp_all
end
section
variable {t:List Int}
theorem sumL_at:∀(k:Nat) (l:List Int) (u:Cu),u.at_+((sumL t k l u).1.length:Nat)≤(sumL t k l u).2.at_+(l.length:Nat)
 |0,l,u=>by simp[sumL]
 |k+1,l,u=>by
  rw[sumL]
  split
  ·have:=sumL_at k (l++[numN t (xpc t [60] u.adv)]) (numU t (xpc t [60] u.adv));rw[X4,Xc] at this;have a:=numU_ge (t:=t) (xpc t [60] u.adv);have b:=Y98 (t:=t) [60] u.adv;simp only[Cu.adv] at a b this⊢;omega
  ·simp
theorem sum_nd{u:Cu}(hw:(sumU t u).wr=false):u.at_+((nd (sumT t u):Nat):Int)≤(sumU t u).at_:=by
 have w1:=Y8d [34] _ hw;have w2:=numU_wr w1.1;have w3:=Y8d [51,60] _ w2;have hlen:¬(sumA t u).1.length<2:=fun h=>by
  have:=w3.1;rw[if_pos h] at this;cases this
 rw[if_neg hlen] at w3;have w4:(numU t (xpc t [60] u)).wr=false:=by
  cases e:(numU t (xpc t [60] u)).wr with
  |false=>rfl
  |true=>have:=sumL_wr' (t:=t) 4 [numN t (xpc t [60] u)] e;have h3:=w3.1;rw[sumA,this] at h3;cases h3
 have w5:=Y8d [60] _ (numU_wr w4);have g:=sumL_at (t:=t) 4 [numN t (xpc t [60] u)] (numU t (xpc t [60] u));have a:=numU_ge (t:=t) (xpc t [60] u);have b:=numU_ge (t:=t) (sumV t u);have eV:(sumV t u).at_=(sumA t u).2.at_+2:=by
  have:=w3.2;rw[sumV,if_neg hlen,this];rfl
 have eU:(sumU t u).at_=(numU t (sumV t u)).at_+1:=w1.2;have e5:(xpc t [60] u).at_=u.at_+1:=w5.2;have eA:sumA t u=sumL t 4 [numN t (xpc t [60] u)] (numU t (xpc t [60] u)):=rfl;rw[←eA] at g;simp only[Xc] at g;have en:nd (sumT t u)=(sumA t u).1.length+2:=by
  rw[sumT,Y5y,ndL_nums,X4,Xc]
 omega
theorem simple_end(n:Nat){i:Int}(h0:(t.length:Int)≤i)(w:List Int):Yp (n+1) (Rd t i) w=some ([],false,Sp t i true):=by
 rw[Yp];unfold Y3r;rw[Y5f,X1];have:(cond (!false) (decide (((Rd t i).L.length:Int)≤(Rd t i).At)) false)=true:=by
  simp_all
 rw[this,cond_true];show Y1e _ _ _ w (Sp t i true)=_;unfold Y1e;rw[peek_Sp,X1,Y5e,X1,cond_true]
theorem simple_at(n:Nat){i:Int}(h0:0≤i)(h1:i<(t.length:Nat))(hb:i≤100000)(w:List Int):Yp (n+1) (Rd t i) w=Y1e (Y7 n) (Y0a n) (Yz n) w (Rd t i):=by
 rw[Yp];unfold Y3r;rw[Y5f,X1];have:(cond (!false) (decide (((Rd t i).L.length:Int)≤(Rd t i).At)) false)=false:=by
  simp_all
 rw[this,cond_false]
end
end Go.Proofs.YtfpcbalkioolmaaDoor
