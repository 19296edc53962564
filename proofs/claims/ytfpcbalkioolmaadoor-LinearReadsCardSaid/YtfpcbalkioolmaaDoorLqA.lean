/- Own work. -/
import Derived.Test.YtfpcbalkioolmaaDoorLrC
set_option linter.unusedSimpArgs false
set_option linter.unusedVariables false
namespace Go.Proofs.YtfpcbalkioolmaaDoor
open Go.Abs
def botOk:Qf→List Qf→Prop
 |f,[]=>f.op= -1
 |_,g::F=>botOk g F
def sgs:List Qf→Nat
 |[]=>0
 |f::F=>f.ss.length+sgs F
def matOk (f:Qf):Prop:=0≤f.cols∧f.cols≤4∧0≤f.rows∧f.rows≤3∧0≤f.ents∧f.ents≤3
structure QJ (t:List Int) (q:Qs) (d:Nat) (k:Int):Prop where
 len:q.f.ts.length=q.f.ss.length+d
 out:∀f∈q.F,f.ts.length=f.ss.length
 bot:botOk q.f q.F
 mat:∀f∈q.f::q.F,matOk f
 gr:∀f∈q.f::q.F,f.op= -2→f.ops=[]
 pot:((szQ q:Nat):Int)+((sgs (q.f::q.F):Nat):Int)+k≤10*q.c.at_
 nF:10*((q.F.length:Nat):Int)+k≤10*q.c.at_
 nl:10*((q.lv.length:Nat):Int)+k≤10*q.c.at_
 o:CuOk t q.c
section
variable {t:List Int} {q:Qs} {d:Nat} {k:Int}
theorem QJ.mono{k':Int}(Q:QJ t q d k)(h:k'≤k):QJ t q d k':=⟨Q.len,Q.out,Q.bot,Q.mat,Q.gr,by have:=Q.pot;omega,by have:=Q.nF;omega,by have:=Q.nl;omega,Q.o⟩
theorem QJ.cu(Q:QJ t q d k){u:Cu}(o:CuOk t u)(h:q.c.at_+1≤u.at_):QJ t (qU u q) d (k+10):=
 ⟨Q.len,Q.out,Q.bot,Q.mat,Q.gr,by have:=Q.pot;show((szQ q:Nat):Int)+_+_≤10*u.at_;simp only[qU];omega,by have:=Q.nF;show _≤10*u.at_;simp only[qU];omega,by have:=Q.nl;show _≤10*u.at_;simp only[qU];omega,o⟩
theorem QJ.term(Q:QJ t q 0 k)(x:Tr)(b:Int):QJ t (Y1q x b q) 1 (k-(nd x:Nat)):=by
 have hx:=nd_pos x;refine⟨by have:=Q.len;simp only[Y1q,Xb];omega,Q.out, ?_,fun f hf=> ?_,fun f hf=> ?_, ?_,by have:=Q.nF;simp only[Y1q];omega,by have:=Q.nl;simp only[Y1q];omega,Q.o⟩
 ·have:=Q.bot;simp only[Y1q];cases hF:q.F with
  |nil=>rw[hF] at this;exact this
  |cons g F=>rw[hF] at this;exact this
 ·simp only[Y1q,Xo] at hf;rcases hf with rfl|hf
  ·exact Q.mat q.f (by simp)
  ·exact Q.mat f (by simp[hf])
 ·simp only[Y1q,Xo] at hf;rcases hf with rfl|hf
  ·exact Q.gr q.f (by simp)
  ·exact Q.gr f (by simp[hf])
 ·have:=Q.pot;simp only[szQ,szF,sgs,Y1q,Y2x] at this⊢;push_cast at this⊢;omega
theorem QJ.push(Q:QJ t q 0 k)(h0:0≤k)(op:Int):QJ t (Y51 op [] q) 0 (k-10):=by
 refine⟨rfl,fun f hf=> ?_,Q.bot,fun f hf=> ?_,fun f hf=> ?_, ?_, ?_,by have:=Q.nl;simp only[Y51];omega,Q.o⟩
 ·simp only[Y51,Xo] at hf;rcases hf with rfl|hf
  ·exact Q.len
  ·exact Q.out f hf
 ·simp only[Y51,Xo] at hf;rcases hf with rfl|hf|hf
  ·exact⟨by simp[fr0],by simp[fr0],by simp[fr0],by simp[fr0],by simp[fr0],by simp[fr0]⟩
  ·rw[hf];exact Q.mat _ (by simp)
  ·exact Q.mat f (by simp[hf])
 ·simp only[Y51,Xo] at hf;rcases hf with rfl|hf|hf
  ·exact fun _=>rfl
  ·rw[hf];exact Q.gr _ (by simp)
  ·exact Q.gr f (by simp[hf])
 ·have:=Q.pot;simp only[szQ,szFs,sgs,Y51,fr0,szF,Y46,Xh] at this⊢;push_cast at this⊢;omega
 ·have:=Q.nF;simp only[Y51,Xb] at this⊢;push_cast;omega
theorem mkB_len(o:Int):∀ts:List Tr,2≤ts.length→(mkB o ts).length+1=ts.length∧ndL (mkB o ts)=ndL ts+1
 |[],h=>by simp at h
 |[_],h=>by simp at h
 |x2::x1::ts,_=>by
  refine⟨by simp[mkB], ?_⟩;simp only[mkB,Y2x,nd_node,Y46];omega
theorem qJ_len(m:Int):∀(ss:List Int) (ts:List Tr),ss.length<ts.length→(qJ m ss ts).1.length+ss.length=(qJ m ss ts).2.length+ts.length∧ndL (qJ m ss ts).1+(qJ m ss ts).2.length=ndL ts+ss.length
 |[],ts,h=>by simp[qJ]
 |o::ss,ts,h=>by
  simp only[Xb] at h;rw[qJ]
  split
  ·have⟨h1,h2⟩:=mkB_len o ts (by omega);have⟨h3,h4⟩:=qJ_len m ss (mkB o ts) (by omega);simp only[Xb];omega
  ·simp[X1k]
theorem QJ.sign(Q:QJ t q 1 k)(op:Int):QJ t (qSign op q) 0 (k-1):=by
 have hl:=Q.len;have⟨h1,h2⟩:=qJ_len (Y5q op) q.f.ss q.f.ts (by omega);refine⟨by simp only[qSign,qJoin,Xb];omega,Q.out, ?_,fun f hf=> ?_,fun f hf=> ?_, ?_,by have:=Q.nF;simp only[qSign,qJoin];omega,by have:=Q.nl;simp only[qSign,qJoin];omega,Q.o⟩
 ·have:=Q.bot;simp only[qSign,qJoin];cases hF:q.F with
  |nil=>rw[hF] at this;exact this
  |cons g F=>rw[hF] at this;exact this
 ·simp only[qSign,qJoin,Xo] at hf;rcases hf with rfl|hf
  ·exact Q.mat q.f (by simp)
  ·exact Q.mat f (by simp[hf])
 ·simp only[qSign,qJoin,Xo] at hf;rcases hf with rfl|hf
  ·exact Q.gr q.f (by simp)
  ·exact Q.gr f (by simp[hf])
 ·have:=Q.pot;simp only[szQ,szF,sgs,qSign,qJoin,Xb] at this⊢;push_cast at this⊢;omega
theorem qOpI_sz(hl:q.f.ts.length=q.f.ss.length+1):nd (qOpI q)=ndL q.f.ts+q.f.ss.length:=by
 have⟨h1,h2⟩:=qJ_len 0 q.f.ss q.f.ts (by omega);have h3:=qJ_all q.f.ss q.f.ts;rw[h3,Xh] at h1 h2;have:∃x,(qJ 0 q.f.ss q.f.ts).1=[x]:=by
  generalize (qJ 0 q.f.ss q.f.ts).1=l at h1
  match l,h1 with
  |[],h1=>simp at h1;omega
  |[x],_=>exact⟨x,rfl⟩
  |_::_::_,h1=>simp at h1;omega
 have⟨x,hx⟩:=this;rw[qOpI,hx];rw[hx,Y2x,Y46] at h2;simp only[List.headD_cons];omega
theorem QJ.opd(Q:QJ t q 1 k)(hg:q.f.op≠ -2):QJ t (qOpd q) 0 k:=by
 have hz:=qOpI_sz Q.len;refine⟨rfl,Q.out, ?_,fun f hf=> ?_,fun f hf=> ?_, ?_,Q.nF,Q.nl,Q.o⟩
 ·have:=Q.bot;simp only[qOpd];cases hF:q.F with
  |nil=>rw[hF] at this;exact this
  |cons g F=>rw[hF] at this;exact this
 ·simp only[qOpd,Xo] at hf;rcases hf with rfl|hf
  ·exact Q.mat q.f (by simp)
  ·exact Q.mat f (by simp[hf])
 ·simp only[qOpd,Xo] at hf;rcases hf with rfl|hf
  ·exact fun e=>absurd e hg
  ·exact Q.gr f (by simp[hf])
 ·have:=Q.pot;simp only[szQ,szF,sgs,qOpd,ndL_app,Y2x,Y46,Xh] at this⊢;push_cast at this⊢;omega
theorem QJ.close(Q:QJ t q 0 k)(hF:q.F≠[])(hts:q.f.ts=[])(op n b:Int):QJ t (Y3t op n b q) 1 (k-1):=by
 have⟨g,F,hq⟩:∃g F,q.F=g::F:=by
  cases h:q.F with
  |nil=>exact absurd h hF
  |cons g F=>exact⟨g,F,rfl⟩
 have hl:=Q.len;have ho:=Q.out g (by rw[hq];simp);have e:Y3t op n b q=Y1q (.node ⟨op,n⟩ q.f.ops) b {q with F:=F,f:=g}:=by rw[Y3t,Y58,hq]
 rw[e];have hb:=Q.bot;have hp:=Q.pot;have hn:=Q.nF;rw[hq] at hb hn;have hp':((szFs q.F:Nat):Int)=((ndL g.ts:Nat)+(ndL g.ops:Nat))+(szFs F:Nat):=by rw[hq];simp[szFs,szF]
 have hg':((sgs q.F:Nat):Int)=(g.ss.length:Nat)+(sgs F:Nat):=by rw[hq];simp[sgs]
 have D:QJ t {q with F:=F,f:=g} 0 (k+(ndL q.f.ops:Nat)-(ndL q.f.ops:Nat)):=by
  refine⟨ho,fun f hf=>Q.out f (by rw[hq];simp[hf]),hb,fun f hf=>Q.mat f (by rw[hq];simp only[Xo] at hf⊢;exact .inr hf),fun f hf=>Q.gr f (by rw[hq];simp only[Xo] at hf⊢;exact .inr hf), ?_, ?_,by have:=Q.nl;simp only;omega,Q.o⟩
  ·simp only[szQ,szF,sgs] at hp⊢;push_cast at hp⊢;omega
  ·simp only[Xb] at hn;push_cast at hn;simp only;omega
 --the tree takes the place of the operands
 have T:=D.term (.node ⟨op,n⟩ q.f.ops) b;refine⟨T.len,T.out,T.bot,T.mat,T.gr, ?_, ?_, ?_,T.o⟩
 ·simp only[szQ,sgs,szF,hts,Y46] at hp;simp only[szQ,szF,Y1q,Y2x,nd_node,sgs];push_cast at hp⊢;omega
 ·simp only[Y1q];simp only[Xb] at hn;push_cast at hn;omega
 ·have:=Q.nl;simp only[Y1q];omega
theorem QJ.group(Q:QJ t q 1 k)(hF:q.F≠[])(hg:q.f.op= -2)(b:Int):QJ t (Y1q (qOpI q) b (Y58 q)) 1 k:=by
 have⟨g,F,hq⟩:∃g F,q.F=g::F:=by
  cases h:q.F with
  |nil=>exact absurd h hF
  |cons g F=>exact⟨g,F,rfl⟩
 have hz:=qOpI_sz Q.len;have ho:=Q.out g (by rw[hq];simp);have hops:=Q.gr q.f (by simp) hg;have e:Y58 q={q with F:=F,f:=g}:=by rw[Y58,hq]
 rw[e];have hb:=Q.bot;have hp:=Q.pot;have hn:=Q.nF;rw[hq] at hb hn;have hp':((szFs q.F:Nat):Int)=((ndL g.ts:Nat)+(ndL g.ops:Nat))+(szFs F:Nat):=by rw[hq];simp[szFs,szF]
 have hg':((sgs q.F:Nat):Int)=(g.ss.length:Nat)+(sgs F:Nat):=by rw[hq];simp[sgs]
 have D:QJ t {q with F:=F,f:=g} 0 k:=by
  refine⟨ho,fun f hf=>Q.out f (by rw[hq];simp[hf]),hb,fun f hf=>Q.mat f (by rw[hq];simp only[Xo] at hf⊢;exact .inr hf),fun f hf=>Q.gr f (by rw[hq];simp only[Xo] at hf⊢;exact .inr hf), ?_, ?_,Q.nl,Q.o⟩
  ·simp only[szQ,szF,sgs] at hp⊢;push_cast at hp⊢;omega
  ·simp only[Xb] at hn;push_cast at hn;simp only;omega
 have T:=D.term (qOpI q) b;refine⟨T.len,T.out,T.bot,T.mat,T.gr, ?_, ?_, ?_,T.o⟩
 ·simp only[szQ,sgs,szF,hops,Y46] at hp;simp only[szQ,szF,Y1q,Y2x,sgs];push_cast at hp⊢;omega
 ·simp only[Y1q];simp only[Xb] at hn;push_cast at hn;omega
 ·have:=Q.nl;simp only[Y1q];omega
theorem QJ.nums(Q:QJ t q d k){f':Qf}(h1:f'.op=q.f.op)(h2:f'.ops=q.f.ops)(h3:f'.ts=q.f.ts)(h4:f'.ss=q.f.ss)(hm:matOk f'):QJ t {q with f:=f'} d k:=by
 refine⟨by rw[h3,h4];exact Q.len,Q.out, ?_,fun f hf=> ?_,fun f hf=> ?_, ?_,Q.nF,Q.nl,Q.o⟩
 ·have:=Q.bot;simp only;cases hF:q.F with
  |nil=>rw[hF] at this;show f'.op= -1;rw[h1];exact this
  |cons g F=>rw[hF] at this;exact this
 ·simp only[Xo] at hf;rcases hf with rfl|hf
  ·exact hm
  ·exact Q.mat f (by simp[hf])
 ·simp only[Xo] at hf;rcases hf with rfl|hf
  ·rw[h1,h2];exact Q.gr q.f (by simp)
  ·exact Q.gr f (by simp[hf])
 ·have:=Q.pot;simp only[szQ,szF,sgs,h2,h3,h4] at this⊢;exact this
theorem QJ.exp(Q:QJ t q 1 k)(h0:0≤k)(hl:q.c.at_<(t.length:Nat))(op c:Int)(hop:op≠ -2):QJ t (qExp op c q) 0 k:=by
 have hlen:=Q.len;have⟨x,ts,hx⟩:∃x ts,q.f.ts=x::ts:=by
  cases h:q.f.ts with
  |nil=>rw[h] at hlen;simp at hlen
  |cons x ts=>exact⟨x,ts,rfl⟩
 rw[hx,Xb] at hlen;have hp:=Q.pot;refine⟨rfl,fun f hf=> ?_, ?_,fun f hf=> ?_,fun f hf=> ?_, ?_, ?_, ?_,Q.o.adv hl⟩
 ·simp only[qExp,Y51,Xo] at hf;rcases hf with rfl|hf
  ·simp only[hx,List.tail_cons];omega
  ·exact Q.out f hf
 ·have:=Q.bot;simp only[qExp,Y51,botOk];cases hF:q.F with
  |nil=>rw[hF] at this;exact this
  |cons g F=>rw[hF] at this;exact this
 ·simp only[qExp,Y51,Xo] at hf;rcases hf with rfl|rfl|hf
  ·exact⟨by simp[fr0],by simp[fr0],by simp[fr0],by simp[fr0],by simp[fr0],by simp[fr0]⟩
  ·exact Q.mat q.f (by simp)
  ·exact Q.mat f (by simp[hf])
 ·simp only[qExp,Y51,Xo] at hf;rcases hf with rfl|rfl|hf
  ·exact fun e=>absurd e hop
  ·exact Q.gr q.f (by simp)
  ·exact Q.gr f (by simp[hf])
 ·simp only[szQ,szF,sgs,hx,Y2x] at hp;simp only[szQ,szF,szFs,sgs,qExp,Y51,fr0,hx,List.headD_cons,List.tail_cons,Y2x,Y46,Xh,Cu.adv];push_cast at hp⊢;omega
 ·have:=Q.nF;simp only[qExp,Y51,Xb,Cu.adv] at this⊢;push_cast;omega
 ·have:=Q.nl;simp only[qExp,Y51,X7,Xp,Cu.adv] at this⊢;push_cast;omega
theorem QJ.lv(Q:QJ t q d k)(l:List Int)(hl:l.length≤q.lv.length):QJ t {q with lv:=l} d k:=⟨Q.len,Q.out,Q.bot,Q.mat,Q.gr,Q.pot,Q.nF,by have:=Q.nl;simp only;omega,Q.o⟩
theorem xpc_ok:∀(l:List Int) (u:Cu),(xpc t l u).wr=false→u.wr=false∧(xpc t l u).at_=u.at_+(l.length:Nat)
 |[],u,h=>⟨h,by simp[xpc]⟩
 |c::l,u,h=>by
  rw[xpc] at h⊢
  split at h
  ·rename_i hh;rw[if_pos hh];have:=xpc_ok l _ h;refine⟨(Y2p hh).1, ?_⟩;rw[this.2];simp only[Cu.adv,Xb];push_cast;omega
  ·have:=xpc_ok l _ h;exact absurd this.1 (by simp[Cu.bad])
theorem dgs_ge:∀(k:Nat) (n d:Int) (u:Cu),u.at_≤(dgs t k n d u).2.2.at_∧(dgs t k n d u).2.2.wr=u.wr
 |0,n,d,u=>⟨by simp[dgs],rfl⟩
 |k+1,n,d,u=>by
  rw[dgs]
  split
  ·split
   ·exact⟨by simp,rfl⟩
   ·have:=dgs_ge k (10*n+(chrI t 10 u+1)%10) (d+1) u.adv;refine⟨?_,this.2⟩;have h1:=this.1;simp only[Cu.adv] at h1⊢;omega
  ·exact⟨by simp,rfl⟩
theorem numU_ge(u:Cu):u.at_≤(numU t u).at_:=by
 unfold numU;have:=(dgs_ge (t:=t) 5 0 0 u).1
 split
 ·exact this
 ·exact this
theorem xpc_ge:∀(l:List Int) (u:Cu),u.at_≤(xpc t l u).at_
 |[],u=>by simp[xpc]
 |c::l,u=>by
  rw[xpc]
  split
  ·have:=xpc_ge l u.adv;simp only[Cu.adv] at this⊢;omega
  ·have:=xpc_ge l u.bad;simp only[Cu.bad] at this⊢;omega
theorem sumL_ge:∀(k:Nat) (l:List Int) (u:Cu),u.at_≤(sumL t k l u).2.at_∧(sumL t k l u).1.length≤l.length+k∧(CuOk t u→CuOk t (sumL t k l u).2)
 |0,l,u=>⟨by simp[sumL],by simp[sumL],fun h=>h⟩
 |k+1,l,u=>by
  rw[sumL]
  split
  ·rename_i hh;have⟨h1,h2,h3⟩:=sumL_ge k (l++[numN t (xpc t [60] u.adv)]) (numU t (xpc t [60] u.adv));have a:=numU_ge (t:=t) (xpc t [60] u.adv);have b:=xpc_ge (t:=t) [60] u.adv;simp only[Cu.adv] at b;simp only[Cu.adv] at a h1;refine⟨by simp only[Cu.adv];omega,by rw[X7,Xp] at h2;omega,fun o=>h3 (CuOk.numU (CuOk.xpc [60] (o.adv (Y2p hh).2.1)))⟩
  ·exact⟨by simp,by simp,fun h=>h⟩
theorem CuOk.sumU{u:Cu}(o:CuOk t u):CuOk t (sumU t u):=by
 have h:=(sumL_ge (t:=t) 4 [numN t (Go.Proofs.YtfpcbalkioolmaaDoor.xpc t [60] u)] (Go.Proofs.YtfpcbalkioolmaaDoor.numU t (Go.Proofs.YtfpcbalkioolmaaDoor.xpc t [60] u))).2.2 (o.xpc _).numU;unfold Go.Proofs.YtfpcbalkioolmaaDoor.sumU sumV sumA;refine CuOk.xpc _ (CuOk.numU (CuOk.xpc _ ?_))
 split
 ·exact h.bad
 ·exact h
theorem sumU_ge(u:Cu):u.at_≤(sumU t u).at_∧nd (sumT t u)≤7:=by
 have⟨h1,h2,_⟩:=sumL_ge (t:=t) 4 [numN t (xpc t [60] u)] (numU t (xpc t [60] u));have a:=numU_ge (t:=t) (xpc t [60] u);have b:=xpc_ge (t:=t) [60] u
 constructor
 ·unfold sumU;have c:=xpc_ge (t:=t) [34] (numU t (sumV t u));have d:=numU_ge (t:=t) (sumV t u);have e:(sumA t u).2.at_≤(sumV t u).at_:=by
   unfold sumV;have:=xpc_ge (t:=t) [51,60] (if(sumA t u).1.length<2 then(sumA t u).2.bad else(sumA t u).2)
   split at this
   ·rename_i h;rw[if_pos h];exact this
   ·rename_i h;rw[if_neg h];exact this
  have f:(sumA t u).2=(sumL t 4 [numN t (xpc t [60] u)] (numU t (xpc t [60] u))).2:=rfl;rw[f] at e;omega
 ·rw[sumT,nd_node];have:∀N:List Int,ndL (N.map numT)=N.length:=by
   intro N
   induction N with
   |nil=>rfl
   |cons n N ih=>rw[Xu,Y2x,ih,Xb];simp[nd,numT,Tr.flat,Y1r];omega
  rw[this,X7,Xp];have e:(sumA t u).1.length≤5:=by simpa [sumA] using h2
  omega
def QI (t:List Int) (q:Qs) (b:Bool):Prop:=QJ t q (if b=true then 0 else 1) 0
structure Fine (t:List Int) (q:Qs) (r:Bool×Qs):Prop where
 dn:r.2.dn=q.dn
 inv:QI t r.2 r.1
 adv:q.c.at_<r.2.c.at_
theorem begin_inv(Q:QI t q true):(Y4l t q).2.c.wr=true∨Fine t q (Y4l t q):=by
 have Q0:QJ t q 0 0:=Q;have go:∀{c:Int} (op:Int),hit t c q.c=true→Fine t q (true,Y51 op [] (qU q.c.adv q)):=fun op hh=>by
  have A:=(Q0.cu (Q0.o.adv (Y2p hh).2.1) (by simp[Cu.adv])).push (by omega) op;exact⟨rfl,A.mono (by omega),by show q.c.at_<q.c.at_+1;omega⟩
 have tm:∀{c:Int} (x:Tr) (u:Cu),hit t c q.c=true→CuOk t u→q.c.at_+1≤u.at_→nd x≤7→Fine t q (false,Y1q x 1 (qU u q)):=fun x u hh ou hu hx=>by
  have A:=(Q0.cu ou hu).term x 1;exact⟨rfl,A.mono (by omega),by show q.c.at_<u.at_;omega⟩
 unfold Y4l
 split
 ·rename_i hh;refine .inr (tm _ _ hh (CuOk.numU (Q0.o.adv (Y2p hh).2.1)) ?_ (by show 1≤7;omega));have:=numU_ge (t:=t) q.c.adv;simpa [Cu.adv] using this
 ·split
  ·rename_i hh
   by_cases hx:chrI t 26 q.c.adv<0
   ·rw[if_pos hx];exact .inl rfl
   ·rw[if_neg hx];exact .inr (tm _ _ hh (CuOk.adv (Q0.o.adv (Y2p hh).2.1) (chrI_ok (n:=26) (by omega)).2) (by simp only[Cu.adv];omega) (by show 1≤7;omega))
  ·split
   ·rename_i hh;exact .inr (go _ hh)
   ·split
    ·rename_i hh;have:=sumU_ge (t:=t) q.c.adv;refine .inr (tm _ _ hh (CuOk.sumU (Q0.o.adv (Y2p hh).2.1)) (by simpa [Cu.adv] using this.1) this.2)
    ·split
     ·rename_i hh;exact .inr (go _ hh)
     ·split
      ·rename_i hh;exact .inr (go _ hh)
      ·split
       ·rename_i hh;exact .inr (go _ hh)
       ·split
        ·rename_i hh;exact .inr (go _ hh)
        ·split
         ·rename_i hh;exact .inr (go _ hh)
         ·exact .inl rfl
theorem botF(Q:QJ t q d k)(h:q.f.op≠ -1):q.F≠[]:=fun e=>by
 have:=Q.bot;rw[e] at this;exact h this
theorem end_inv(Q:QJ t q 1 10)(e:Bool)(he:e=true→q.f.op=7∨q.f.op=8):(qEnd e q).2.c.wr=true∨((qEnd e q).2.dn=q.dn∧QI t (qEnd e q).2 (qEnd e q).1∧(qEnd e q).2.c=q.c):=by
 unfold qEnd
 split
 ·rename_i h;have ho:=he h
  right
  have A:=(Q.lv q.lv.dropLast (by simp)).opd (by show q.f.op≠ -2;omega);have hF:q.F≠[]:=botF Q (by omega);have B:=A.close hF rfl q.f.op 0 0;have e1:∀q':Qs,(Y58 q').dn=q'.dn∧(Y58 q').c=q'.c:=fun q'=>by
   rw[Y58];split<;>exact⟨rfl,rfl⟩
  exact⟨(e1 _).1,B.mono (by omega),(e1 _).2⟩
 ·exact .inl rfl
theorem drop_c(q:Qs):(Y58 q).dn=q.dn∧(Y58 q).c=q.c:=by
 rw[Y58];split<;>exact⟨rfl,rfl⟩
theorem sgB_inv(Q:QJ t q 1 10):(qSgB t q).2.c.wr=true∨((qSgB t q).2.dn=q.dn∧QI t (qSgB t q).2 (qSgB t q).1∧q.c.at_≤(qSgB t q).2.c.at_):=by
 unfold qSgB
 split
 ·rename_i hh;exact .inr ⟨rfl,(Q.exp (by omega) (Y2p hh).2.1 7 24 (by decide)).mono (by omega),by show q.c.at_≤q.c.at_+1;omega⟩
 ·split
  ·rename_i hh;exact .inr ⟨rfl,(Q.exp (by omega) (Y2p hh).2.1 8 6 (by decide)).mono (by omega),by show q.c.at_≤q.c.at_+1;omega⟩
  ·exact .inl rfl
theorem QJ.cu2(Q:QJ t q d k){u:Cu}(o:CuOk t u)(h:q.c.at_≤u.at_):QJ t (qU u q) d k:=
 ⟨Q.len,Q.out,Q.bot,Q.mat,Q.gr,by have:=Q.pot;show((szQ q:Nat):Int)+_+_≤10*u.at_;simp only[qU];omega,by have:=Q.nF;show _≤10*u.at_;simp only[qU];omega,by have:=Q.nl;show _≤10*u.at_;simp only[qU];omega,o⟩
theorem sgn_inv(Q:QJ t q 1 10):(qSgn t q).2.c.wr=true∨((qSgn t q).2.dn=q.dn∧QI t (qSgn t q).2 (qSgn t q).1∧q.c.at_≤(qSgn t q).2.c.at_):=by
 unfold qSgn
 split
 ·exact .inl rfl
 ·split
  ·exact sgB_inv Q
  ·have hx:=xpc_ge (t:=t) q.lv.dropLast q.c;have ox:=Q.o.xpc q.lv.dropLast
   split
   ·rename_i hw;exact .inl hw
   ·split
    ·rename_i hw hh;have A:=Q.cu2 (u:=(xpc t q.lv.dropLast q.c).adv) (ox.adv (Y2p hh.2).2.1) (by simp only[Cu.adv];omega);rcases sgB_inv A with h|⟨h1,h2,h3⟩
     ·exact .inl h
     ·refine .inr ⟨h1,h2, ?_⟩;simp only[qU,Cu.adv] at h3;simp only[qU,Cu.adv];omega
    ·have A:=Q.cu2 (u:=xpc t q.lv.dropLast q.c) ox hx;rcases end_inv A (qEnds q) (fun h=>by
      unfold qEnds at h;simp only[X3,X09,beq_iff_eq] at h;exact h.1) with h|⟨h1,h2,h3⟩
     ·exact .inl h
     ·exact .inr ⟨h1,h2,by rw[h3];exact hx⟩
theorem mat_inv(Q:QJ t q 1 0)(hop:q.f.op=13)(hw:q.c.wr=false):(qMatrix t q).2.c.wr=true∨Fine t q (qMatrix t q):=by
 have hm:=Q.mat q.f (by simp);have hF:=botF Q (by omega);unfold qMatrix
 by_cases hh:q.f.ents+1<(if q.f.cols=0 then 4 else q.f.cols)∧hit t 32 q.c=true
 ·rw[if_pos hh];have hA:=(Q.cu (Q.o.adv (Y2p hh.2).2.1) (by simp[Cu.adv])).nums (f':={q.f with ents:=q.f.ents+1}) rfl rfl rfl rfl (by
   have h1:=hh.1;refine⟨hm.1,hm.2.1,hm.2.2.1,hm.2.2.2.1,by have:=hm.2.2.2.2.1;simp only;omega, ?_⟩;have:=hm.2.1;simp only
   split at h1<;>omega)
  have A:=hA.opd (by show q.f.op≠ -2;omega);exact .inr ⟨rfl,A.mono (by omega),by show q.c.at_<q.c.at_+1;omega⟩
 ·rw[if_neg hh]
  by_cases hh:q.f.cols≠0∧q.f.ents+1≠q.f.cols
  ·rw[if_pos hh];exact .inl rfl
  ·rw[if_neg hh]
   by_cases hh:q.f.rows+1<4∧hit t 51 q.c=true
   ·rw[if_pos hh];have hA:=(Q.cu (Q.o.adv (Y2p hh.2).2.1) (by simp[Cu.adv])).nums (f':={q.f with cols:=q.f.ents+1,ents:=0,rows:=q.f.rows+1}) rfl rfl rfl rfl (by
     have:=hm.2.2.2.2;have:=hm.2.2.1;exact⟨by simp only;omega,by simp only;omega,by simp only;omega,by simp only;omega,by simp,by simp⟩)
    have A:=hA.opd (by show q.f.op≠ -2;omega);exact .inr ⟨rfl,A.mono (by omega),by show q.c.at_<q.c.at_+1;omega⟩
   ·rw[if_neg hh];have hx:=xpc_ok (t:=t) [43] q.c
    by_cases hw2:(xpc t [43] q.c).wr=false
    ·have e:=(hx hw2).2;simp only[Xp] at e;have B:=((Q.cu (Q.o.xpc [43]) (by omega)).opd (by show q.f.op≠ -2;omega)).close (by exact hF) rfl 13 (8*(q.f.rows+1)+(q.f.ents+1)) 1;have e2:Y3t 13 (8*(q.f.rows+1)+(q.f.ents+1)) 1 (qOpd (qRow (qU (xpc t [43] q.c) q)))=Y3t 13 (8*(q.f.rows+1)+(q.f.ents+1)) 1 (qOpd (qU (xpc t [43] q.c) q)):=by
      have⟨g,F,hq⟩:∃g F,q.F=g::F:=by
       cases h:q.F with
       |nil=>exact absurd h hF
       |cons g F=>exact⟨g,F,rfl⟩
      simp only[Y3t,qOpd,qRow,qU,Y58,hq,qOpI]
     rw[e2];refine .inr ⟨(drop_c _).1,B.mono (by omega), ?_⟩;show q.c.at_<(Y58 _).c.at_;rw[(drop_c _).2];show q.c.at_<(xpc t [43] q.c).at_;omega
    ·left
     show(Y58 _).c.wr=true;rw[(drop_c _).2];show(xpc t [43] q.c).wr=true;simpa using hw2
theorem follow_inv(Q:QI t q false)(hw:q.c.wr=false):(Y22 t q).2.c.wr=true∨Fine t q (Y22 t q)∨((Y22 t q).2.dn=true∧(Y22 t q).2.c=⟨(t.length:Nat),false⟩∧(Y22 t q).2.F=q.F∧(Y22 t q).2.f=q.f∧q.f.op= -1∧q.c.at_=(t.length:Nat)):=by
 have Q0:QJ t q 1 0:=Q;have sg:∀{c:Int} (op:Int),hit t c q.c=true→Fine t q (true,qSign op (qU q.c.adv q)):=fun op hh=>by
  have A:=(Q0.cu (Q0.o.adv (Y2p hh).2.1) (by simp[Cu.adv])).sign op;exact⟨rfl,A.mono (by omega),by show q.c.at_<q.c.at_+1;omega⟩
 unfold Y22
 split
 ·rename_i hh;have A:=Q0.cu (Q0.o.adv (Y2p hh).2.1) (by simp[Cu.adv]);rcases sgn_inv (A.mono (by omega)) with h|⟨h1,h2,h3⟩
  ·exact .inl h
  ·refine .inr (.inl ⟨h1,h2, ?_⟩);simp only[qU,Cu.adv] at h3;simp only[qU,Cu.adv];omega
 ·split
  ·exact .inl rfl
  ·split
   ·rename_i hh;exact .inr (.inl (sg _ hh))
   ·split
    ·rename_i hh;exact .inr (.inl (sg _ hh))
    ·split
     ·rename_i hh;exact .inr (.inl (sg _ hh))
     ·split
      ·rename_i hh
       by_cases hw2:(xpc t [54,0] q.c.adv).wr=false
       ·have e:=(xpc_ok [54,0] _ hw2).2;simp only[Cu.adv,Xb,Xh] at e;have A:=(Q0.cu (CuOk.xpc [54,0] (Q0.o.adv (Y2p hh).2.1)) (by simp only[Cu.adv];omega)).sign 5;exact .inr (.inl ⟨rfl,A.mono (by omega),by show q.c.at_<(xpc t [54,0] q.c.adv).at_;simp only[Cu.adv];omega⟩)
       ·left
        show(xpc t [54,0] q.c.adv).wr=true;simpa using hw2
      ·unfold qRest
       split
       ·rename_i ho
        by_cases he:q.c.at_=(t.length:Nat)
        ·refine .inr (.inr ⟨?_, ?_,rfl,rfl,ho,he⟩)
         ·show(q.c.at_==(t.length:Nat))=true;rw[he];simp
         ·show(⟨q.c.at_,q.c.at_ !=(t.length:Nat)⟩:Cu)=_;rw[he];simp
        ·left
         show(q.c.at_ !=(t.length:Nat))=true;simp[he]
       ·rename_i ho;have hF:=botF Q0 ho
        split
        ·rename_i ho2;unfold qUngroup
         split
         ·exact .inl rfl
         ·rename_i hh;simp only[not_or,Bool.not_eq_false] at hh;have A:=(Q0.cu (Q0.o.adv (Y2p hh.2).2.1) (by simp[Cu.adv])).group hF ho2 2;have e1:qOpI (qU q.c.adv q)=qOpI q:=rfl;rw[e1] at A;refine .inr (.inl ⟨(drop_c _).1,A.mono (by omega), ?_⟩);show q.c.at_<(Y58 _).c.at_;rw[(drop_c _).2];show q.c.at_<q.c.at_+1;omega
        ·rename_i ho2
         split
         ·rename_i h13;rcases mat_inv Q0 h13 hw with h|h
          ·exact .inl h
          ·exact .inr (.inl h)
         ·split
          ·by_cases hw2:(xpc t [12] q.c).wr=false
           ·have e:=(xpc_ok [12] _ hw2).2;simp only[Xp] at e;have A:=(Q0.cu (Q0.o.xpc [12]) (by omega)).opd ho2;exact .inr (.inl ⟨rfl,A.mono (by omega),by show q.c.at_<(xpc t [12] q.c).at_;omega⟩)
           ·left
            show(xpc t [12] q.c).wr=true;simpa using hw2
          ·split
           ·exact .inl rfl
           ·by_cases hw2:(xpc t [clB q.f.op] q.c).wr=false
            ·have e:=(xpc_ok [clB q.f.op] _ hw2).2;simp only[Xp] at e;have A:=((Q0.cu (Q0.o.xpc [clB q.f.op]) (by omega)).opd ho2).close hF rfl q.f.op 0 1;refine .inr (.inl ⟨(drop_c _).1,A.mono (by omega), ?_⟩);show q.c.at_<(Y58 _).c.at_;rw[(drop_c _).2];show q.c.at_<(xpc t [clB q.f.op] q.c).at_;omega
            ·left
             show(Y58 _).c.wr=true;rw[(drop_c _).2];show(xpc t [clB q.f.op] q.c).wr=true;simpa using hw2
end
def pk (t:List Int) (i:Int):Int:=if i<(t.length:Nat) then cAt t i else-1
def Ag (t t':List Int) (m:Int):Prop:=∀j,0≤j→j≤m→pk t' j=pk t j
theorem Ag.le{t t':List Int}{m n:Int}(h:Ag t t' m)(hn:n≤m):Ag t t' n:=fun j h0 hj=>h j h0 (by omega)
section
variable {t t':List Int}
def LvOk (l:List Int):Prop:=∀c∈l,c=24∨c=6
inductive Run (t:List Int):Bool→Qs→Qs→Prop where
 |stop {b:Bool} {q:Qs}:(q.c.wr=true∨q.dn=true)→Run t b q q
 |step {b:Bool} {q r:Qs}:¬(q.c.wr=true∨q.dn=true)→Run t (qStep t b q).1 (qStep t b q).2 r→Run t b q r
theorem Run.det{b:Bool}{q r r':Qs}(h:Run t b q r):Run t b q r'→r=r':=by
 induction h with
 |stop hs=>
  intro h';cases h' with
  |stop _=>rfl
  |step hn _=>exact absurd hs hn
 |step hn _ ih=>
  intro h';cases h' with
  |stop hs=>exact absurd hs hn
  |step _ h2=>exact ih h2
theorem step_inv{b:Bool}{q:Qs}(hQ:QI t q b)(hs:¬(q.c.wr=true∨q.dn=true)):(qStep t b q).2.c.wr=true∨((qStep t b q).2.dn=false∧QI t (qStep t b q).2 (qStep t b q).1∧q.c.at_<(qStep t b q).2.c.at_)∨((qStep t b q).2.dn=true∧b=false∧(qStep t b q).2.c=⟨(t.length:Nat),false⟩∧(qStep t b q).2.F=q.F∧(qStep t b q).2.f=q.f∧q.f.op= -1∧q.c.at_=(t.length:Nat)):=by
 have hw:q.c.wr=false:=by
  cases h:q.c.wr with
  |true=>exact absurd (.inl h) hs
  |false=>rfl
 have hd:q.dn=false:=by
  cases h:q.dn with
  |true=>exact absurd (.inr h) hs
  |false=>rfl
 cases b with
 |true=>
  rcases begin_inv hQ with h|h
  ·exact .inl h
  ·exact .inr (.inl ⟨h.dn.trans hd,h.inv,h.adv⟩)
 |false=>
  rcases follow_inv hQ hw with h|h|h
  ·exact .inl h
  ·exact .inr (.inl ⟨h.dn.trans hd,h.inv,h.adv⟩)
  ·exact .inr (.inr ⟨h.1,rfl,h.2⟩)
theorem run_q:∀(k:Nat) (b:Bool) (q:Qs),(q.c.wr=true∨q.dn=true∨(QI t q b∧(t.length:Int)+1<k+q.c.at_))→Run t b q (qRun t k b q)
 |0,b,q,h=>by
  rcases h with h|h|h
  ·exact .stop (.inl h)
  ·exact .stop (.inr h)
  ·have:=(QJ.o h.1).a1;omega
 |k+1,b,q,h=>by
  rw[qRun]
  split
  ·rename_i hs;exact .stop hs
  ·rename_i hs;have⟨hQ,hk⟩:QI t q b∧(t.length:Int)+1<(k+1:Nat)+q.c.at_:=by
    rcases h with h|h|h
    ·exact absurd (.inl h) hs
    ·exact absurd (.inr h) hs
    ·exact h
   refine .step hs (run_q k _ _ ?_);rcases step_inv hQ hs with h|h|h
   ·exact .inl h
   ·exact .inr (.inr ⟨h.2.1,by push_cast at hk;omega⟩)
   ·exact .inr (.inl h.1)
theorem q00_QI(t:List Int):QI t q00 true:=by
 refine⟨rfl,fun f hf=>by simp[q00] at hf,rfl,fun f hf=> ?_,fun f hf=> ?_, ?_, ?_, ?_,⟨by simp[q00],by simp[q00]⟩⟩
 ·simp[q00] at hf;rw[hf];exact⟨by simp[fr0],by simp[fr0],by simp[fr0],by simp[fr0],by simp[fr0],by simp[fr0]⟩
 ·simp[q00] at hf;rw[hf];intro e;simp[fr0] at e
 ·simp[q00,szQ,szF,szFs,sgs,fr0,Y46]
 ·simp[q00]
 ·simp[q00]
def mRun (t:List Int):Qs:=qRun t (t.length+2) true q00
theorem run_m(t:List Int):Run t true q00 (mRun t):=run_q _ _ _ (.inr (.inr ⟨q00_QI t,by simp[q00]⟩))
theorem run_eq{t:List Int}{r:Qs}(h:Run t true q00 r):mRun t=r:=(run_m t).det h
end
end Go.Proofs.YtfpcbalkioolmaaDoor
