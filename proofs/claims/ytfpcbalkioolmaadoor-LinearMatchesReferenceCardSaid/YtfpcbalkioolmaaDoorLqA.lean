/- Own work. -/
import Derived.Test.YtfpcbalkioolmaaDoorLrC
set_option linter.unusedSimpArgs false
set_option linter.unusedVariables false
namespace Go.Proofs.YtfpcbalkioolmaaDoor
open Go.Abs
def botOk:Qf→List Qf→Prop
 |f,[]=>f.op= -1
 |_,g::F=>botOk g F
def sgs:List Qf→Nat
 |[]=>0
 |f::F=>f.ss.length+sgs F
def matOk (f:Qf):Prop:=0≤f.cols∧f.cols≤4∧0≤f.rows∧f.rows≤3∧0≤f.ents∧f.ents≤3
structure QJ (t:List Int) (q:Qs) (d:Nat) (k:Int):Prop where
 len:q.f.ts.length=q.f.ss.length+d
 out:∀f∈q.F,f.ts.length=f.ss.length
 bot:botOk q.f q.F
 mat:∀f∈q.f::q.F,matOk f
 gr:∀f∈q.f::q.F,f.op= -2→f.ops=[]
 pot:((szQ q:Nat):Int)+((sgs (q.f::q.F):Nat):Int)+k≤10*q.c.at_
 nF:10*((q.F.length:Nat):Int)+k≤10*q.c.at_
 nl:10*((q.lv.length:Nat):Int)+k≤10*q.c.at_
 o:CuOk t q.c
section
variable {t:List Int} {q:Qs} {d:Nat} {k:Int}
theorem QJ.mono{k':Int}(Q:QJ t q d k)(h:k'≤k):QJ t q d k':=⟨Q.len,Q.out,Q.bot,Q.mat,Q.gr,by have:=Q.pot;omega,by have:=Q.nF;omega,by have:=Q.nl;omega,Q.o⟩
theorem QJ.cu(Q:QJ t q d k){u:Cu}(o:CuOk t u)(h:q.c.at_+1≤u.at_):QJ t (qU u q) d (k+10):=
 ⟨Q.len,Q.out,Q.bot,Q.mat,Q.gr,by have:=Q.pot;show((szQ q:Nat):Int)+_+_≤10*u.at_;simp only[qU];omega,by have:=Q.nF;show _≤10*u.at_;simp only[qU];omega,by have:=Q.nl;show _≤10*u.at_;simp only[qU];omega,o⟩
theorem QJ.term(Q:QJ t q 0 k)(x:Tr)(b:Int):QJ t (Y1z x b q) 1 (k-(nd x:Nat)):=by
 have hx:=nd_pos x;refine⟨by have:=Q.len;simp only[Y1z,X7];omega,Q.out, ?_,fun f hf=> ?_,fun f hf=> ?_, ?_,by have:=Q.nF;simp only[Y1z];omega,by have:=Q.nl;simp only[Y1z];omega,Q.o⟩
 ·have:=Q.bot;simp only[Y1z];cases hF:q.F with
  |nil=>rw[hF] at this;exact this
  |cons g F=>rw[hF] at this;exact this
 ·simp only[Y1z,Xb] at hf;rcases hf with rfl|hf
  ·exact Q.mat q.f (by simp)
  ·exact Q.mat f (by simp[hf])
 ·simp only[Y1z,Xb] at hf;rcases hf with rfl|hf
  ·exact Q.gr q.f (by simp)
  ·exact Q.gr f (by simp[hf])
 ·have:=Q.pot;simp only[szQ,szF,sgs,Y1z,Y10] at this⊢;omega
theorem QJ.push(Q:QJ t q 0 k)(h0:0≤k)(op:Int):QJ t (Y8j op [] q) 0 (k-10):=by
 refine⟨rfl,fun f hf=> ?_,Q.bot,fun f hf=> ?_,fun f hf=> ?_, ?_, ?_,by have:=Q.nl;simp only[Y8j];omega,Q.o⟩
 ·simp only[Y8j,Xb] at hf;rcases hf with rfl|hf
  ·exact Q.len
  ·exact Q.out f hf
 ·simp only[Y8j,Xb] at hf;rcases hf with rfl|hf|hf
  ·exact⟨by simp[fr0],by simp[fr0],by simp[fr0],by simp[fr0],by simp[fr0],by simp[fr0]⟩
  ·rw[hf];exact Q.mat _ (by simp)
  ·exact Q.mat f (by simp[hf])
 ·simp only[Y8j,Xb] at hf;rcases hf with rfl|hf|hf
  ·exact fun _=>rfl
  ·rw[hf];exact Q.gr _ (by simp)
  ·exact Q.gr f (by simp[hf])
 ·have:=Q.pot;simp only[szQ,szFs,sgs,Y8j,fr0,szF,Y27,Xd] at this⊢;omega
 ·have:=Q.nF;simp only[Y8j,X7] at this⊢;omega
theorem mkB_len(o:Int):∀ts:List Tr,2≤ts.length→(mkB o ts).length+1=ts.length∧ndL (mkB o ts)=ndL ts+1
 |[],h=>by simp at h
 |[_],h=>by simp at h
 |x2::x1::ts,_=>by
  refine⟨by rfl, ?_⟩;simp only[mkB,Y10,Y5y,Y27];omega
theorem qJ_len(m:Int):∀(ss:List Int) (ts:List Tr),ss.length<ts.length→(qJ m ss ts).1.length+ss.length=(qJ m ss ts).2.length+ts.length∧ndL (qJ m ss ts).1+(qJ m ss ts).2.length=ndL ts+ss.length
 |[],ts,h=>by simp[qJ]
 |o::ss,ts,h=>by
  simp only[X7] at h;rw[qJ]
  split
  ·have⟨h1,h2⟩:=mkB_len o ts (by omega);have⟨h3,h4⟩:=qJ_len m ss (mkB o ts) (by omega)
   grind
  grind
theorem QJ.sign(Q:QJ t q 1 k)(op:Int):QJ t (Y9f op q) 0 (k-1):=by
 have hl:=Q.len;have⟨h1,h2⟩:=qJ_len (Y2k op) q.f.ss q.f.ts (by omega);refine⟨by simp only[Y9f,qJoin,X7];omega,Q.out, ?_,fun f hf=> ?_,fun f hf=> ?_, ?_,by have:=Q.nF;simp only[Y9f,qJoin];omega,by have:=Q.nl;simp only[Y9f,qJoin];omega,Q.o⟩
 ·have:=Q.bot;simp only[Y9f,qJoin];cases hF:q.F with
  |nil=>rw[hF] at this;exact this
  |cons g F=>rw[hF] at this;exact this
 ·simp only[Y9f,qJoin,Xb] at hf;rcases hf with rfl|hf
  ·exact Q.mat q.f (by simp)
  ·exact Q.mat f (by simp[hf])
 ·simp only[Y9f,qJoin,Xb] at hf;rcases hf with rfl|hf
  ·exact Q.gr q.f (by simp)
  ·exact Q.gr f (by simp[hf])
 ·have:=Q.pot;simp only[szQ,szF,sgs,Y9f,qJoin,X7] at this⊢;omega
theorem qOpI_sz(hl:q.f.ts.length=q.f.ss.length+1):nd (qOpI q)=ndL q.f.ts+q.f.ss.length:=by
 have⟨h1,h2⟩:=qJ_len 0 q.f.ss q.f.ts (by omega);have h3:=qJ_all q.f.ss q.f.ts;rw[h3,Xd] at h1 h2;have:∃x,(qJ 0 q.f.ss q.f.ts).1=[x]:=by
  generalize (qJ 0 q.f.ss q.f.ts).1=l at h1
  match l,h1 with
  |[],h1=>simp_all
  |[x],_=>simp_all
  |_::_::_,h1=>grind
 have⟨x,hx⟩:=this;rw[qOpI,hx];rw[hx,Y10,Y27] at h2
 simp_all
theorem QJ.opd(Q:QJ t q 1 k)(hg:q.f.op≠ -2):QJ t (qOpd q) 0 k:=by
 have hz:=qOpI_sz Q.len;refine⟨rfl,Q.out, ?_,fun f hf=> ?_,fun f hf=> ?_, ?_,Q.nF,Q.nl,Q.o⟩
 ·have:=Q.bot;simp only[qOpd];cases hF:q.F with
  |nil=>rw[hF] at this;exact this
  |cons g F=>rw[hF] at this;exact this
 ·simp only[qOpd,Xb] at hf;rcases hf with rfl|hf
  ·exact Q.mat q.f (by simp)
  ·exact Q.mat f (by simp[hf])
 ·simp only[qOpd,Xb] at hf;rcases hf with rfl|hf
  ·simp_all
  ·exact Q.gr f (by simp[hf])
 ·have:=Q.pot;simp only[szQ,szF,sgs,qOpd,Y79,Y10,Y27,Xd] at this⊢;omega
theorem QJ.close(Q:QJ t q 0 k)(hF:q.F≠[])(hts:q.f.ts=[])(op n b:Int):QJ t (Y2y op n b q) 1 (k-1):=by
 have⟨g,F,hq⟩:∃g F,q.F=g::F:=by
  cases h:q.F with
  |nil=>simp_all
  |cons g F=>simp_all
 have hl:=Q.len;have ho:=Q.out g (by grind);have e:Y2y op n b q=Y1z (.node ⟨op,n⟩ q.f.ops) b {q with F:=F,f:=g}:=by rw[Y2y,Y5x,hq]
 rw[e];have hb:=Q.bot;have hp:=Q.pot;have hn:=Q.nF;rw[hq] at hb hn;have hp':((szFs q.F:Nat):Int)=((ndL g.ts:Nat)+(ndL g.ops:Nat))+(szFs F:Nat):=by rw[hq];rfl
 have hg':((sgs q.F:Nat):Int)=(g.ss.length:Nat)+(sgs F:Nat):=by rw[hq];rfl
 have D:QJ t {q with F:=F,f:=g} 0 (k+(ndL q.f.ops:Nat)-(ndL q.f.ops:Nat)):=by
  refine⟨ho,fun f hf=>Q.out f (by simp_all),hb,fun f hf=>Q.mat f (by simp_all),fun f hf=>Q.gr f (by simp_all), ?_, ?_,by have:=Q.nl;simp_all,Q.o⟩
  ·simp only[szQ,szF,sgs] at hp⊢;omega
  grind
 --the tree takes the place of the operands
 have T:=D.term (.node ⟨op,n⟩ q.f.ops) b;refine⟨T.len,T.out,T.bot,T.mat,T.gr, ?_, ?_, ?_,T.o⟩
 ·simp only[szQ,sgs,szF,hts,Y27] at hp;simp only[szQ,szF,Y1z,Y10,Y5y,sgs];omega
 ·simp only[Y1z];grind
 ·have:=Q.nl;simp only[Y1z];omega
theorem QJ.group(Q:QJ t q 1 k)(hF:q.F≠[])(hg:q.f.op= -2)(b:Int):QJ t (Y1z (qOpI q) b (Y5x q)) 1 k:=by
 have⟨g,F,hq⟩:∃g F,q.F=g::F:=by
  cases h:q.F with
  |nil=>simp_all
  |cons g F=>simp_all
 have hz:=qOpI_sz Q.len;have ho:=Q.out g (by grind);have hops:=Q.gr q.f (by simp) hg;have e:Y5x q={q with F:=F,f:=g}:=by rw[Y5x,hq]
 rw[e];have hb:=Q.bot;have hp:=Q.pot;have hn:=Q.nF;rw[hq] at hb hn;have hp':((szFs q.F:Nat):Int)=((ndL g.ts:Nat)+(ndL g.ops:Nat))+(szFs F:Nat):=by rw[hq];rfl
 have hg':((sgs q.F:Nat):Int)=(g.ss.length:Nat)+(sgs F:Nat):=by rw[hq];rfl
 have D:QJ t {q with F:=F,f:=g} 0 k:=by
  refine⟨ho,fun f hf=>Q.out f (by simp_all),hb,fun f hf=>Q.mat f (by simp_all),fun f hf=>Q.gr f (by simp_all), ?_, ?_,Q.nl,Q.o⟩
  ·simp only[szQ,szF,sgs] at hp⊢;omega
  grind
 have T:=D.term (qOpI q) b;refine⟨T.len,T.out,T.bot,T.mat,T.gr, ?_, ?_, ?_,T.o⟩
 ·simp only[szQ,sgs,szF,hops,Y27] at hp;simp only[szQ,szF,Y1z,Y10,sgs];omega
 ·simp only[Y1z];grind
 ·have:=Q.nl;simp only[Y1z];omega
theorem QJ.nums(Q:QJ t q d k){f':Qf}(h1:f'.op=q.f.op)(h2:f'.ops=q.f.ops)(h3:f'.ts=q.f.ts)(h4:f'.ss=q.f.ss)(hm:matOk f'):QJ t {q with f:=f'} d k:=by
 refine⟨by rw[h3,h4];exact Q.len,Q.out, ?_,fun f hf=> ?_,fun f hf=> ?_, ?_,Q.nF,Q.nl,Q.o⟩
 ·have:=Q.bot;simp only;cases hF:q.F with
  |nil=>rw[hF] at this;show f'.op= -1;rw[h1];exact this
  |cons g F=>rw[hF] at this;exact this
 ·simp only[Xb] at hf;rcases hf with rfl|hf
  ·exact hm
  ·exact Q.mat f (by simp[hf])
 ·simp only[Xb] at hf;rcases hf with rfl|hf
  ·rw[h1,h2];exact Q.gr q.f (by simp)
  ·exact Q.gr f (by simp[hf])
 ·have:=Q.pot;simp only[szQ,szF,sgs,h2,h3,h4] at this⊢;exact this
theorem QJ.exp(Q:QJ t q 1 k)(h0:0≤k)(hl:q.c.at_<(t.length:Nat))(op c:Int)(hop:op≠ -2):QJ t (qExp op c q) 0 k:=by
 have hlen:=Q.len;have⟨x,ts,hx⟩:∃x ts,q.f.ts=x::ts:=by
  cases h:q.f.ts with
  |nil=>simp_all
  |cons x ts=>simp_all
 rw[hx,X7] at hlen;have hp:=Q.pot;refine⟨rfl,fun f hf=> ?_, ?_,fun f hf=> ?_,fun f hf=> ?_, ?_, ?_, ?_,Q.o.adv hl⟩
 ·simp only[qExp,Y8j,Xb] at hf;rcases hf with rfl|hf
  ·simp_all
  ·exact Q.out f hf
 ·have:=Q.bot;simp only[qExp,Y8j,botOk];cases hF:q.F with
  |nil=>rw[hF] at this;exact this
  |cons g F=>rw[hF] at this;exact this
 ·simp only[qExp,Y8j,Xb] at hf;rcases hf with rfl|rfl|hf
  ·exact⟨by simp[fr0],by simp[fr0],by simp[fr0],by simp[fr0],by simp[fr0],by simp[fr0]⟩
  ·exact Q.mat q.f (by simp)
  ·exact Q.mat f (by simp[hf])
 ·simp only[qExp,Y8j,Xb] at hf;rcases hf with rfl|rfl|hf
  ·exact fun e=>absurd e hop
  ·exact Q.gr q.f (by simp)
  ·exact Q.gr f (by simp[hf])
 ·simp only[szQ,szF,sgs,hx,Y10] at hp;simp only[szQ,szF,szFs,sgs,qExp,Y8j,fr0,hx,List.headD_cons,List.tail_cons,Y10,Y27,Xd,Cu.adv];omega
 ·have:=Q.nF;simp only[qExp,Y8j,X7,Cu.adv] at this⊢;omega
 ·have:=Q.nl;simp only[qExp,Y8j,X4,Xc,Cu.adv] at this⊢;omega
theorem QJ.lv(Q:QJ t q d k)(l:List Int)(hl:l.length≤q.lv.length):QJ t {q with lv:=l} d k:=⟨Q.len,Q.out,Q.bot,Q.mat,Q.gr,Q.pot,Q.nF,by have:=Q.nl;grind,Q.o⟩
theorem Y8d:∀(l:List Int) (u:Cu),(xpc t l u).wr=false→u.wr=false∧(xpc t l u).at_=u.at_+(l.length:Nat)
 |[],u,h=>⟨h,by simp[xpc]⟩
 |c::l,u,h=>by
  rw[xpc] at h⊢
  split at h
  ·rename_i hh;rw[if_pos hh];have:=Y8d l _ h;refine⟨(Y0g hh).1, ?_⟩;rw[this.2];simp only[Cu.adv,X7];omega
  ·have:=Y8d l _ h;exact absurd this.1 (by simp[Cu.bad])
theorem dgs_ge:∀(k:Nat) (n d:Int) (u:Cu),u.at_≤(dgs t k n d u).2.2.at_∧(dgs t k n d u).2.2.wr=u.wr
 |0,n,d,u=>⟨by simp[dgs],rfl⟩
 |k+1,n,d,u=>by
  rw[dgs]
  split
  ·split
   ·simp_all
   ·have:=dgs_ge k (10*n+(chrI t 10 u+1)%10) (d+1) u.adv;refine⟨?_,this.2⟩;have h1:=this.1;simp only[Cu.adv] at h1⊢;omega
  simp_all
theorem numU_ge(u:Cu):u.at_≤(numU t u).at_:=by
 unfold numU;have:=(dgs_ge (t:=t) 5 0 0 u).1
 split
 ·exact this
 omega
theorem numU_wr{u:Cu}(h:(numU t u).wr=false):u.wr=false:=by
 unfold numU at h;have:=(dgs_ge (t:=t) 5 0 0 u).2
 split at h
 ·simp[Cu.bad] at h
 simp_all
theorem Y98:∀(l:List Int) (u:Cu),u.at_≤(xpc t l u).at_
 |[],u=>by simp[xpc]
 |c::l,u=>by
  rw[xpc]
  split
  ·have:=Y98 l u.adv;simp only[Cu.adv] at this⊢;omega
  ·have:=Y98 l u.bad;simp only[Cu.bad] at this⊢;omega
theorem sumL_ge:∀(k:Nat) (l:List Int) (u:Cu),u.at_≤(sumL t k l u).2.at_∧(sumL t k l u).1.length≤l.length+k∧(CuOk t u→CuOk t (sumL t k l u).2)
 |0,l,u=>⟨by simp[sumL],by simp[sumL],fun h=>h⟩
 |k+1,l,u=>by
  rw[sumL]
  split
  ·rename_i hh;have⟨h1,h2,h3⟩:=sumL_ge k (l++[numN t (xpc t [60] u.adv)]) (numU t (xpc t [60] u.adv));have a:=numU_ge (t:=t) (xpc t [60] u.adv);have b:=Y98 (t:=t) [60] u.adv;simp only[Cu.adv] at b;simp only[Cu.adv] at a h1;refine⟨by simp only[Cu.adv];omega,by grind,fun o=>h3 (CuOk.numU (CuOk.xpc [60] (o.adv (Y0g hh).2.1)))⟩
  simp_all
theorem CuOk.sumU{u:Cu}(o:CuOk t u):CuOk t (sumU t u):=by
 have h:=(sumL_ge (t:=t) 4 [numN t (Go.Proofs.YtfpcbalkioolmaaDoor.xpc t [60] u)] (Go.Proofs.YtfpcbalkioolmaaDoor.numU t (Go.Proofs.YtfpcbalkioolmaaDoor.xpc t [60] u))).2.2 (o.xpc _).numU;unfold Go.Proofs.YtfpcbalkioolmaaDoor.sumU sumV sumA;refine CuOk.xpc _ (CuOk.numU (CuOk.xpc _ ?_))
 split
 ·exact h.bad
 ·exact h
theorem sumU_ge(u:Cu):u.at_≤(sumU t u).at_∧nd (sumT t u)≤7:=by
 have⟨h1,h2,_⟩:=sumL_ge (t:=t) 4 [numN t (xpc t [60] u)] (numU t (xpc t [60] u));have a:=numU_ge (t:=t) (xpc t [60] u);have b:=Y98 (t:=t) [60] u
 constructor
 ·unfold sumU;have c:=Y98 (t:=t) [34] (numU t (sumV t u));have d:=numU_ge (t:=t) (sumV t u);have e:(sumA t u).2.at_≤(sumV t u).at_:=by
   unfold sumV;have:=Y98 (t:=t) [51,60] (if(sumA t u).1.length<2 then(sumA t u).2.bad else(sumA t u).2)
   split at this
   ·rename_i h;rw[if_pos h];exact this
   grind
  have f:(sumA t u).2=(sumL t 4 [numN t (xpc t [60] u)] (numU t (xpc t [60] u))).2:=rfl
  grind
 ·rw[sumT,Y5y];have:∀N:List Int,ndL (N.map numT)=N.length:=by
   intro N
   induction N with
   |nil=>rfl
   |cons n N ih=>rw[Xo,Y10,ih,X7];simp[nd,numT,Tr.flat,Y0y];omega
  rw[this,X4,Xc];have e:(sumA t u).1.length≤5:=by simpa [sumA] using h2
  omega
def QI (t:List Int) (q:Qs) (b:Bool):Prop:=QJ t q (if b=true then 0 else 1) 0
structure Fine (t:List Int) (q:Qs) (r:Bool×Qs):Prop where
 dn:r.2.dn=q.dn
 inv:QI t r.2 r.1
 adv:q.c.at_<r.2.c.at_
theorem begin_inv(Q:QI t q true):(Y0x t q).2.c.wr=true∨Fine t q (Y0x t q):=by
 have Q0:QJ t q 0 0:=Q;have go:∀{c:Int} (op:Int),hit t c q.c=true→Fine t q (true,Y8j op [] (qU q.c.adv q)):=fun op hh=>by
  have A:=(Q0.cu (Q0.o.adv (Y0g hh).2.1) (by simp[Cu.adv])).push (by omega) op;exact⟨rfl,A.mono (by omega),by show q.c.at_<q.c.at_+1;omega⟩
 have tm:∀{c:Int} (x:Tr) (u:Cu),hit t c q.c=true→CuOk t u→q.c.at_+1≤u.at_→nd x≤7→Fine t q (false,Y1z x 1 (qU u q)):=fun x u hh ou hu hx=>by
  have A:=(Q0.cu ou hu).term x 1;exact⟨rfl,A.mono (by omega),by show q.c.at_<u.at_;omega⟩
 unfold Y0x
 split
 ·rename_i hh;refine .inr (tm _ _ hh (CuOk.numU (Q0.o.adv (Y0g hh).2.1)) ?_ (by show 1≤7;omega));have:=numU_ge (t:=t) q.c.adv;simpa [Cu.adv] using this
 ·split
  ·rename_i hh
   by_cases hx:chrI t 26 q.c.adv<0
   ·rw[if_pos hx];exact .inl rfl
   ·rw[if_neg hx];exact .inr (tm _ _ hh (CuOk.adv (Q0.o.adv (Y0g hh).2.1) (chrI_ok (n:=26) (by omega)).2) (by simp only[Cu.adv];omega) (by show 1≤7;omega))
  ·split
   ·grind
   ·split
    ·rename_i hh;have:=sumU_ge (t:=t) q.c.adv;refine .inr (tm _ _ hh (CuOk.sumU (Q0.o.adv (Y0g hh).2.1)) (by simpa [Cu.adv] using this.1) this.2)
    ·split
     ·grind
     ·split
      ·grind
      ·split
       ·grind
       ·split
        ·grind
        ·split
         ·grind
         ·exact .inl rfl
theorem botF(Q:QJ t q d k)(h:q.f.op≠ -1):q.F≠[]:=fun e=>by
 have:=Q.bot;rw[e] at this;exact h this
theorem end_inv(Q:QJ t q 1 10)(e:Bool)(he:e=true→q.f.op=7∨q.f.op=8):(qEnd e q).2.c.wr=true∨((qEnd e q).2.dn=q.dn∧QI t (qEnd e q).2 (qEnd e q).1∧(qEnd e q).2.c=q.c):=by
 unfold qEnd
 split
 ·rename_i h;have ho:=he h
  right
  have A:=(Q.lv q.lv.dropLast (by simp)).opd (by grind);have hF:q.F≠[]:=botF Q (by omega);have B:=A.close hF rfl q.f.op 0 0;have e1:∀q':Qs,(Y5x q').dn=q'.dn∧(Y5x q').c=q'.c:=fun q'=>by
   rw[Y5x];split<;>exact⟨rfl,rfl⟩
  exact⟨(e1 _).1,B.mono (by omega),(e1 _).2⟩
 ·exact .inl rfl
theorem drop_c(q:Qs):(Y5x q).dn=q.dn∧(Y5x q).c=q.c:=by
 rw[Y5x];split<;>exact⟨rfl,rfl⟩
theorem sgB_inv(Q:QJ t q 1 10):(qSgB t q).2.c.wr=true∨((qSgB t q).2.dn=q.dn∧QI t (qSgB t q).2 (qSgB t q).1∧q.c.at_≤(qSgB t q).2.c.at_):=by
 unfold qSgB
 split
 ·rename_i hh;exact .inr ⟨rfl,(Q.exp (by omega) (Y0g hh).2.1 7 24 (by decide)).mono (by omega),by show q.c.at_≤q.c.at_+1;omega⟩
 ·split
  ·rename_i hh;exact .inr ⟨rfl,(Q.exp (by omega) (Y0g hh).2.1 8 6 (by decide)).mono (by omega),by show q.c.at_≤q.c.at_+1;omega⟩
  ·exact .inl rfl
theorem QJ.cu2(Q:QJ t q d k){u:Cu}(o:CuOk t u)(h:q.c.at_≤u.at_):QJ t (qU u q) d k:=
 ⟨Q.len,Q.out,Q.bot,Q.mat,Q.gr,by have:=Q.pot;show((szQ q:Nat):Int)+_+_≤10*u.at_;simp only[qU];omega,by have:=Q.nF;show _≤10*u.at_;simp only[qU];omega,by have:=Q.nl;show _≤10*u.at_;simp only[qU];omega,o⟩
theorem sgn_inv(Q:QJ t q 1 10):(qSgn t q).2.c.wr=true∨((qSgn t q).2.dn=q.dn∧QI t (qSgn t q).2 (qSgn t q).1∧q.c.at_≤(qSgn t q).2.c.at_):=by
 unfold qSgn
 split
 ·exact .inl rfl
 ·split
  ·exact sgB_inv Q
  ·have hx:=Y98 (t:=t) q.lv.dropLast q.c;have ox:=Q.o.xpc q.lv.dropLast
   split
   ·rename_i hw;exact .inl hw
   ·split
    ·rename_i hw hh;have A:=Q.cu2 (u:=(xpc t q.lv.dropLast q.c).adv) (ox.adv (Y0g hh.2).2.1) (by simp only[Cu.adv];omega);rcases sgB_inv A with h|⟨h1,h2,h3⟩
     ·grind
     ·refine .inr ⟨h1,h2, ?_⟩;simp only[qU,Cu.adv] at h3;simp only[qU,Cu.adv];omega
    ·have A:=Q.cu2 (u:=xpc t q.lv.dropLast q.c) ox hx;rcases end_inv A (qEnds q) (fun h=>by
      unfold qEnds at h;simp only[X2,X02,beq_iff_eq] at h;exact h.1) with h|⟨h1,h2,h3⟩
     ·grind
     ·exact .inr ⟨h1,h2,by rw[h3];exact hx⟩
theorem mat_inv(Q:QJ t q 1 0)(hop:q.f.op=13)(hw:q.c.wr=false):(Y3y t q).2.c.wr=true∨Fine t q (Y3y t q):=by
 have hm:=Q.mat q.f (by simp);have hF:=botF Q (by omega);unfold Y3y
 by_cases hh:q.f.ents+1<(if q.f.cols=0 then 4 else q.f.cols)∧hit t 32 q.c=true
 ·rw[if_pos hh];have hA:=(Q.cu (Q.o.adv (Y0g hh.2).2.1) (by simp[Cu.adv])).nums (f':={q.f with ents:=q.f.ents+1}) rfl rfl rfl rfl (by
   have h1:=hh.1;refine⟨hm.1,hm.2.1,hm.2.2.1,hm.2.2.2.1,by have:=hm.2.2.2.2.1;grind, ?_⟩;have:=hm.2.1;simp only
   split at h1<;>omega)
  have A:=hA.opd (by simp_all);exact .inr ⟨rfl,A.mono (by omega),by show q.c.at_<q.c.at_+1;omega⟩
 ·rw[if_neg hh]
  by_cases hh:q.f.cols≠0∧q.f.ents+1≠q.f.cols
  ·rw[if_pos hh];exact .inl rfl
  ·rw[if_neg hh]
   by_cases hh:q.f.rows+1<4∧hit t 51 q.c=true
   ·rw[if_pos hh];have hA:=(Q.cu (Q.o.adv (Y0g hh.2).2.1) (by simp[Cu.adv])).nums (f':={q.f with cols:=q.f.ents+1,ents:=0,rows:=q.f.rows+1}) rfl rfl rfl rfl (by
     have:=hm.2.2.2.2;have:=hm.2.2.1;exact⟨by grind,by grind,by grind,by grind,by simp,by simp⟩)
    have A:=hA.opd (by simp_all);exact .inr ⟨rfl,A.mono (by omega),by show q.c.at_<q.c.at_+1;omega⟩
   ·rw[if_neg hh];have hx:=Y8d (t:=t) [43] q.c
    by_cases hw2:(xpc t [43] q.c).wr=false
    ·have e:=(hx hw2).2;simp only[Xc] at e;have B:=((Q.cu (Q.o.xpc [43]) (by omega)).opd (by show q.f.op≠ -2;omega)).close (by exact hF) rfl 13 (8*(q.f.rows+1)+(q.f.ents+1)) 1;have e2:Y2y 13 (8*(q.f.rows+1)+(q.f.ents+1)) 1 (qOpd (qRow (qU (xpc t [43] q.c) q)))=Y2y 13 (8*(q.f.rows+1)+(q.f.ents+1)) 1 (qOpd (qU (xpc t [43] q.c) q)):=by
      have⟨g,F,hq⟩:∃g F,q.F=g::F:=by
       cases h:q.F with
       |nil=>simp_all
       |cons g F=>simp_all
      simp only[Y2y,qOpd,qRow,qU,Y5x,hq,qOpI]
     rw[e2];refine .inr ⟨(drop_c _).1,B.mono (by omega), ?_⟩;show q.c.at_<(Y5x _).c.at_;rw[(drop_c _).2];show q.c.at_<(xpc t [43] q.c).at_;omega
    ·left
     show(Y5x _).c.wr=true;rw[(drop_c _).2];show(xpc t [43] q.c).wr=true
     simp_all
theorem follow_inv(Q:QI t q false)(hw:q.c.wr=false):(Yk t q).2.c.wr=true∨Fine t q (Yk t q)∨((Yk t q).2.dn=true∧(Yk t q).2.c=⟨(t.length:Nat),false⟩∧(Yk t q).2.F=q.F∧(Yk t q).2.f=q.f∧q.f.op= -1∧q.c.at_=(t.length:Nat)):=by
 have Q0:QJ t q 1 0:=Q;have sg:∀{c:Int} (op:Int),hit t c q.c=true→Fine t q (true,Y9f op (qU q.c.adv q)):=fun op hh=>by
  have A:=(Q0.cu (Q0.o.adv (Y0g hh).2.1) (by simp[Cu.adv])).sign op;exact⟨rfl,A.mono (by omega),by show q.c.at_<q.c.at_+1;omega⟩
 unfold Yk
 split
 ·rename_i hh;have A:=Q0.cu (Q0.o.adv (Y0g hh).2.1) (by simp[Cu.adv]);rcases sgn_inv (A.mono (by omega)) with h|⟨h1,h2,h3⟩
  ·grind
  ·refine .inr (.inl ⟨h1,h2, ?_⟩);simp only[qU,Cu.adv] at h3;simp only[qU,Cu.adv];omega
 ·split
  ·exact .inl rfl
  ·split
   ·grind
   ·split
    ·grind
    ·split
     ·grind
     ·split
      ·rename_i hh
       by_cases hw2:(xpc t [54,0] q.c.adv).wr=false
       ·have e:=(Y8d [54,0] _ hw2).2;simp only[Cu.adv,X7,Xd] at e;have A:=(Q0.cu (CuOk.xpc [54,0] (Q0.o.adv (Y0g hh).2.1)) (by simp only[Cu.adv];omega)).sign 5;exact .inr (.inl ⟨rfl,A.mono (by omega),by show q.c.at_<(xpc t [54,0] q.c.adv).at_;simp only[Cu.adv];omega⟩)
       ·left
        show(xpc t [54,0] q.c.adv).wr=true
        simp_all
      ·unfold qRest
       split
       ·grind
       ·rename_i ho;have hF:=botF Q0 ho
        split
        ·rename_i ho2;unfold Y4e
         split
         ·exact .inl rfl
         ·rename_i hh;simp only[not_or,Bool.not_eq_false] at hh;have A:=(Q0.cu (Q0.o.adv (Y0g hh.2).2.1) (by simp[Cu.adv])).group hF ho2 2;have e1:qOpI (qU q.c.adv q)=qOpI q:=rfl;rw[e1] at A;refine .inr (.inl ⟨(drop_c _).1,A.mono (by omega), ?_⟩);show q.c.at_<(Y5x _).c.at_;rw[(drop_c _).2];show q.c.at_<q.c.at_+1;omega
        ·rename_i ho2
         split
         ·rename_i h13;rcases mat_inv Q0 h13 hw with h|h
          ·grind
          simp_all
         ·split
          ·by_cases hw2:(xpc t [12] q.c).wr=false
           ·have e:=(Y8d [12] _ hw2).2;simp only[Xc] at e;have A:=(Q0.cu (Q0.o.xpc [12]) (by omega)).opd ho2;exact .inr (.inl ⟨rfl,A.mono (by omega),by show q.c.at_<(xpc t [12] q.c).at_;omega⟩)
           ·left
            show(xpc t [12] q.c).wr=true
            simp_all
          ·split
           ·exact .inl rfl
           ·by_cases hw2:(xpc t [clB q.f.op] q.c).wr=false
            ·have e:=(Y8d [clB q.f.op] _ hw2).2;simp only[Xc] at e;have A:=((Q0.cu (Q0.o.xpc [clB q.f.op]) (by omega)).opd ho2).close hF rfl q.f.op 0 1;refine .inr (.inl ⟨(drop_c _).1,A.mono (by omega), ?_⟩);show q.c.at_<(Y5x _).c.at_;rw[(drop_c _).2];show q.c.at_<(xpc t [clB q.f.op] q.c).at_;omega
            ·left
             show(Y5x _).c.wr=true;rw[(drop_c _).2];show(xpc t [clB q.f.op] q.c).wr=true
             simp_all
end
def pk (t:List Int) (i:Int):Int:=if i<(t.length:Nat) then cAt t i else-1
def Nn (t:List Int):Prop:=∀i:Nat,0≤t.getD i 0
def Ag (t t':List Int) (m:Int):Prop:=∀j,0≤j→j≤m→pk t' j=pk t j
theorem pk_end{t:List Int}(hn:Nn t){i:Int}:pk t i= -1↔(t.length:Int)≤i:=by
 unfold pk
 split
 ·have:=hn i.toNat
  constructor
  ·intro h;unfold cAt at h;omega
  omega
 omega
theorem hit_pk{t:List Int}{c:Int}(hc:0≤c)(u:Cu):hit t c u=(!u.wr&&(pk t u.at_==c)):=by
 unfold hit pk
 grind
theorem lfind_none{c:Int}:∀(l:List Int) (i:Int),(∀x∈l,x≠c)→lfind c l i= -1
 |[],_,_=>rfl
 |x::l,i,h=>by rw[lfind,if_neg (h x (by simp)),lfind_none l _ fun y hy=>h y (by simp[hy])]
theorem lets_pos:∀x∈Y8,(1:Int)≤x∧x≤61:=by
 intro x hx;have:x∈[1,3,9,25,17,11,27,19,10,26,5,7,13,29,21,15,31,23,14,30,37,39,58,45,61,(53:Int)]:=hx;simp only[Xb,X04,or_false] at this;omega
theorem chr_pk{t:List Int}(n:Nat)(u:Cu):chrI t n u=if u.wr=true then-1 else lfind (pk t u.at_) (Y8.take n) 0:=by
 unfold chrI pk
 by_cases hw:u.wr=true
 ·rw[if_pos (.inl hw),if_pos hw]
 ·rw[if_neg hw]
  by_cases hl:u.at_<(t.length:Nat)
  ·rw[if_neg (by simp_all),if_pos hl]
  ·rw[if_pos (.inr (by omega)),if_neg hl,lfind_none];intro x hx;have:=lets_pos x (X0u hx);omega
section
variable {t t':List Int}
theorem hit_ag{c:Int}(hc:0≤c){u:Cu}(h0:0≤u.at_){m:Int}(hm:u.at_≤m)(a:Ag t t' m):hit t' c u=hit t c u:=by
 rw[hit_pk hc,hit_pk hc,a u.at_ h0 hm]
theorem chr_ag{n:Nat}{u:Cu}(h0:0≤u.at_){m:Int}(hm:u.at_≤m)(a:Ag t t' m):chrI t' n u=chrI t n u:=by
 rw[chr_pk,chr_pk,a u.at_ h0 hm]
theorem xpc_ag:∀(l:List Int),(∀c∈l,0≤c)→∀{u:Cu},0≤u.at_→∀{m:Int},(xpc t l u).at_≤m→Ag t t' m→xpc t' l u=xpc t l u
 |[],_,u,_,m,_,_=>rfl
 |c::l,hl,u,h0,m,hm,a=>by
  have ge:=Y98 (t:=t) (c::l) u;have hc:=hl c (by simp);rw[xpc,xpc,hit_ag hc h0 (m:=m) (by omega) a];rw[xpc] at hm
  by_cases hh:hit t c u=true
  ·rw[if_pos hh] at hm⊢;exact xpc_ag l (fun x hx=>hl x (by simp[hx])) (by simp only[Cu.adv];omega) hm a
  ·rw[if_neg hh] at hm⊢;exact xpc_ag l (fun x hx=>hl x (by simp[hx])) (by simp only[Cu.bad];omega) hm a
theorem dgs_ag:∀(k:Nat) (n d:Int) {u:Cu},0≤u.at_→∀{m:Int},(dgs t k n d u).2.2.at_≤m→Ag t t' m→dgs t' k n d u=dgs t k n d u
 |0,n,d,u,_,m,_,_=>rfl
 |k+1,n,d,u,h0,m,hm,a=>by
  have ge:=(dgs_ge (t:=t) (k+1) n d u).1;rw[dgs,dgs,chr_ag h0 (m:=m) (by omega) a];rw[dgs] at hm
  split
  ·rename_i hd;rw[if_pos hd] at hm
   split
   ·rfl
   ·rename_i hc;rw[if_neg hc] at hm;exact dgs_ag k _ _ (by simp only[Cu.adv];omega) hm a
  ·rfl
theorem num_ag{u:Cu}(h0:0≤u.at_){m:Int}(hm:(numU t u).at_≤m)(a:Ag t t' m):numN t' u=numN t u∧numU t' u=numU t u:=by
 have e:(numU t u).at_=(dgs t 5 0 0 u).2.2.at_:=by unfold numU;split<;>rfl
 rw[e] at hm;have:=dgs_ag 5 0 0 h0 hm a;exact⟨by rw[numN,numN,this],by rw[numU,numU,this]⟩
theorem sumL_ag:∀(k:Nat) (l:List Int) {u:Cu},0≤u.at_→∀{m:Int},(sumL t k l u).2.at_≤m→Ag t t' m→sumL t' k l u=sumL t k l u
 |0,l,u,_,m,_,_=>rfl
 |k+1,l,u,h0,m,hm,a=>by
  have ge:=(sumL_ge (t:=t) (k+1) l u).1;rw[sumL,sumL,hit_ag (by omega) h0 (m:=m) (by omega) a];rw[sumL] at hm
  by_cases hh:hit t 32 u=true
  ·rw[if_pos hh] at hm⊢;rw[if_pos hh];have g1:=(sumL_ge (t:=t) k (l++[numN t (xpc t [60] u.adv)]) (numU t (xpc t [60] u.adv))).1;have g2:=numU_ge (t:=t) (xpc t [60] u.adv);have g3:=Y98 (t:=t) [60] u.adv;have h1:(0:Int)≤u.adv.at_:=by simp only[Cu.adv];omega
   have e1:=xpc_ag (t:=t) (t':=t') [60] (by simp) h1 (m:=m) (by omega) a;have e2:=num_ag (t:=t) (t':=t') (u:=xpc t [60] u.adv) (by omega) (m:=m) (by omega) a;rw[e1,e2.1,e2.2];exact sumL_ag k _ (by omega) hm a
  simp_all
theorem sumV_ge(u:Cu):(sumA t u).2.at_≤(sumV t u).at_:=by
 unfold sumV;have:=Y98 (t:=t) [51,60] (if(sumA t u).1.length<2 then(sumA t u).2.bad else(sumA t u).2)
 split at this
 ·rename_i h;rw[if_pos h];exact this
 grind
theorem sum_ag{u:Cu}(h0:0≤u.at_){m:Int}(hm:(sumU t u).at_≤m)(a:Ag t t' m):sumT t' u=sumT t u∧sumU t' u=sumU t u:=by
 have g1:=Y98 (t:=t) [34] (numU t (sumV t u));have g2:=numU_ge (t:=t) (sumV t u);have g3:=sumV_ge (t:=t) u;have g4:=(sumL_ge (t:=t) 4 [numN t (xpc t [60] u)] (numU t (xpc t [60] u))).1;have g5:=numU_ge (t:=t) (xpc t [60] u);have g6:=Y98 (t:=t) [60] u;have hs:sumU t u=xpc t [34] (numU t (sumV t u)):=rfl;have hA:sumA t u=sumL t 4 [numN t (xpc t [60] u)] (numU t (xpc t [60] u)):=rfl;rw[hs] at hm;rw[←hA] at g4;have e1:=xpc_ag (t:=t) (t':=t') [60] (by simp) h0 (m:=m) (by omega) a;have e2:=num_ag (t:=t) (t':=t') (u:=xpc t [60] u) (by omega) (m:=m) (by omega) a;have e3:sumA t' u=sumA t u:=by
  rw[sumA,sumA,e1,e2.1,e2.2];exact sumL_ag 4 _ (by omega) (m:=m) (by grind) a
 have e4:sumV t' u=sumV t u:=by
  rw[sumV,sumV,e3];have:(0:Int)≤(if(sumA t u).1.length<2 then(sumA t u).2.bad else(sumA t u).2).at_:=by
   split<;>(try simp only[Cu.bad])<;>omega
  refine xpc_ag [51,60] (by simp) this (m:=m) ?_ a;have hv:sumV t u=xpc t [51,60] (if(sumA t u).1.length<2 then(sumA t u).2.bad else(sumA t u).2):=rfl
  grind
 have e5:=num_ag (t:=t) (t':=t') (u:=sumV t u) (by omega) (m:=m) (by omega) a;refine⟨by rw[sumT,sumT,e3,e4,e5.1], ?_⟩;rw[sumU,sumU,e4,e5.2];exact xpc_ag [34] (by simp) (by omega) hm a
theorem begin_ge(q:Qs):q.c.at_≤(Y0x t q).2.c.at_:=by
 unfold Y0x
 split
 ·have:=numU_ge (t:=t) q.c.adv;show q.c.at_≤(numU t q.c.adv).at_;simp only[Cu.adv] at this⊢;omega
 ·split
  ·show q.c.at_≤(if chrI t 26 q.c.adv<0 then q.c.adv.bad else q.c.adv.adv).at_
   split<;>simp only[Cu.adv,Cu.bad]<;>omega
  ·split
   ·show q.c.at_≤q.c.at_+1;omega
   ·split
    ·have:=(sumU_ge (t:=t) q.c.adv).1;show q.c.at_≤(sumU t q.c.adv).at_;simp only[Cu.adv] at this⊢;omega
    ·split
     ·show q.c.at_≤q.c.at_+1;omega
     ·split
      ·show q.c.at_≤q.c.at_+1;omega
      ·split
       ·show q.c.at_≤q.c.at_+1;omega
       ·split
        ·show q.c.at_≤q.c.at_+1;omega
        ·split
         ·show q.c.at_≤q.c.at_+1;omega
         ·show q.c.at_≤q.c.at_;omega
theorem begin_ag{q:Qs}(h0:0≤q.c.at_){m:Int}(hm:(Y0x t q).2.c.at_≤m)(a:Ag t t' m):Y0x t' q=Y0x t q:=by
 have ge:=begin_ge (t:=t) q;have hh:∀c:Int,0≤c→hit t' c q.c=hit t c q.c:=fun c hc=>hit_ag hc h0 (m:=m) (by omega) a;have h1:(0:Int)≤q.c.adv.at_:=by simp only[Cu.adv];omega
 unfold Y0x;rw[hh 60 (by omega),hh 48 (by omega),hh 35 (by omega),hh 56 (by omega),hh 57 (by omega),hh 28 (by omega),hh 55 (by omega),hh 42 (by omega),hh 41 (by omega)];unfold Y0x at hm
 split
 ·rename_i h;rw[if_pos h] at hm;have e:=num_ag (t:=t) (t':=t') h1 (m:=m) hm a;rw[e.1,e.2]
 ·rename_i h;rw[if_neg h] at hm
  split
  ·rename_i h;rw[if_pos h] at hm;have e:chrI t' 26 q.c.adv=chrI t 26 q.c.adv:=chr_ag h1 (m:=m) (by
    have:(Y1z (Tr.node ⟨1,chrI t 26 q.c.adv⟩ []) 1 (qU (if chrI t 26 q.c.adv<0 then q.c.adv.bad else q.c.adv.adv) q)).c.at_=(if chrI t 26 q.c.adv<0 then q.c.adv.bad else q.c.adv.adv).at_:=rfl;rw[this] at hm
    split at hm<;>simp only[Cu.adv,Cu.bad] at hm⊢ <;>omega) a
   rw[e]
  ·rename_i h;rw[if_neg h] at hm
   split
   ·rfl
   ·rename_i h;rw[if_neg h] at hm
    split
    ·rename_i h;rw[if_pos h] at hm;have e:=sum_ag (t:=t) (t':=t') h1 (m:=m) hm a;rw[e.1,e.2]
    ·rfl
theorem sgB_ge(q:Qs):q.c.at_≤(qSgB t q).2.c.at_:=by
 unfold qSgB
 split
 ·show q.c.at_≤q.c.at_+1;omega
 ·split
  ·show q.c.at_≤q.c.at_+1;omega
  ·show q.c.at_≤q.c.at_;omega
theorem sgB_ag{q:Qs}(h0:0≤q.c.at_){m:Int}(hm:(qSgB t q).2.c.at_≤m)(a:Ag t t' m):qSgB t' q=qSgB t q:=by
 have ge:=sgB_ge (t:=t) q;unfold qSgB;rw[hit_ag (c:=24) (by omega) h0 (m:=m) (by omega) a,hit_ag (c:=6) (by omega) h0 (m:=m) (by omega) a]
theorem end_c(e:Bool)(q:Qs):(qEnd e q).2.c.at_=q.c.at_:=by
 unfold qEnd
 split
 ·show(Y5x _).c.at_=_;rw[(drop_c _).2];rfl
 ·rfl
theorem sgn_ge(q:Qs):q.c.at_-1≤(qSgn t q).2.c.at_∧((qSgn t q).2.c.at_<q.c.at_→qBegs q=false∧qEnds q=false):=by
 unfold qSgn
 split
 ·rename_i h;exact⟨by show q.c.at_-1≤q.c.at_-1;omega,fun _=>h⟩
 ·split
  ·have:=sgB_ge (t:=t) q;omega
  ·have hx:=Y98 (t:=t) q.lv.dropLast q.c
   split
   ·exact⟨by show q.c.at_-1≤(xpc t q.lv.dropLast q.c).at_;omega,fun h=>by
     have h':(xpc t q.lv.dropLast q.c).at_<q.c.at_:=h;omega⟩
   ·split
    ·have:=sgB_ge (t:=t) (qU (xpc t q.lv.dropLast q.c).adv q);have e:(qU (xpc t q.lv.dropLast q.c).adv q).c.at_=(xpc t q.lv.dropLast q.c).at_+1:=rfl;omega
    ·rw[end_c];have e:(qU (xpc t q.lv.dropLast q.c) q).c.at_=(xpc t q.lv.dropLast q.c).at_:=rfl;omega
def LvOk (l:List Int):Prop:=∀c∈l,c=24∨c=6
theorem sgn_ag{q:Qs}(h0:0≤q.c.at_)(hv:LvOk q.lv){m:Int}(hm:(qSgn t q).2.c.at_≤m)(a:Ag t t' m):qSgn t' q=qSgn t q:=by
 have hpos:∀c∈q.lv.dropLast,(0:Int)≤c:=fun c hc=>by have:=hv c (List.dropLast_subset _ hc);omega
 have hlast:0≤q.lv.getLastD 0:=by
  cases h:q.lv with
  |nil=>simp
  |cons x l=>
   have:=hv ((x::l).getLastD 0) (by grind);omega
 unfold qSgn at hm⊢
 split
 ·rfl
 ·rename_i h1;rw[if_neg h1] at hm
  split
  ·rename_i h2;rw[if_pos h2] at hm;exact sgB_ag h0 hm a
  ·rename_i h2;rw[if_neg h2] at hm;have hx:=Y98 (t:=t) q.lv.dropLast q.c;have le:(xpc t q.lv.dropLast q.c).at_≤m:=by
    split at hm
    ·exact hm
    ·split at hm
     ·have:=sgB_ge (t:=t) (qU (xpc t q.lv.dropLast q.c).adv q);have e:(qU (xpc t q.lv.dropLast q.c).adv q).c.at_=(xpc t q.lv.dropLast q.c).at_+1:=rfl;omega
     ·rw[end_c] at hm;exact hm
   have e:=xpc_ag q.lv.dropLast hpos h0 le a;rw[e];have e2:hit t' (q.lv.getLastD 0) (xpc t q.lv.dropLast q.c)=hit t (q.lv.getLastD 0) (xpc t q.lv.dropLast q.c):=hit_ag hlast (by omega) le a;rw[e2]
   split
   ·rfl
   ·rename_i h3;rw[if_neg h3] at hm
    split
    ·rename_i h4;rw[if_pos h4] at hm;exact sgB_ag (by show(0:Int)≤(xpc t q.lv.dropLast q.c).at_+1;omega) hm a
    ·rfl
theorem close_c(op n b:Int)(q:Qs):(Y2y op n b q).c=q.c:=(drop_c q).2
theorem clB_pos(o:Int):0≤clB o:=by
 unfold clB Y57;simp only[Y71]
 grind
theorem mat_ge(q:Qs):q.c.at_≤(Y3y t q).2.c.at_:=by
 unfold Y3y
 by_cases h1:q.f.ents+1<(if q.f.cols=0 then 4 else q.f.cols)∧hit t 32 q.c=true
 ·rw[if_pos h1];show q.c.at_≤q.c.at_+1;omega
 ·rw[if_neg h1]
  by_cases h2:q.f.cols≠0∧q.f.ents+1≠q.f.cols
  ·rw[if_pos h2];show q.c.at_≤q.c.at_;omega
  ·rw[if_neg h2]
   by_cases h3:q.f.rows+1<4∧hit t 51 q.c=true
   ·rw[if_pos h3];show q.c.at_≤q.c.at_+1;omega
   ·rw[if_neg h3];show q.c.at_≤(Y2y _ _ _ _).c.at_;rw[close_c];exact Y98 (t:=t) [43] q.c
theorem mat_ag{q:Qs}(h0:0≤q.c.at_){m:Int}(hm:(Y3y t q).2.c.at_≤m)(a:Ag t t' m):Y3y t' q=Y3y t q:=by
 have ge:=mat_ge (t:=t) q;unfold Y3y;rw[hit_ag (c:=32) (by omega) h0 (m:=m) (by omega) a,hit_ag (c:=51) (by omega) h0 (m:=m) (by omega) a];unfold Y3y at hm
 by_cases h1:q.f.ents+1<(if q.f.cols=0 then 4 else q.f.cols)∧hit t 32 q.c=true
 ·rw[if_pos h1,if_pos h1]
 ·rw[if_neg h1,if_neg h1];rw[if_neg h1] at hm
  by_cases h2:q.f.cols≠0∧q.f.ents+1≠q.f.cols
  ·rw[if_pos h2,if_pos h2]
  ·rw[if_neg h2,if_neg h2];rw[if_neg h2] at hm
   by_cases h3:q.f.rows+1<4∧hit t 51 q.c=true
   ·rw[if_pos h3,if_pos h3]
   ·rw[if_neg h3,if_neg h3];rw[if_neg h3] at hm;have e:xpc t' [43] q.c=xpc t [43] q.c:=xpc_ag [43] (by simp) h0 (m:=m) (by
     have h4:(Y2y 13 (8*(q.f.rows+1)+(q.f.ents+1)) 1 (qOpd (qRow (qU (xpc t [43] q.c) q)))).c.at_≤m:=hm;rw[close_c] at h4;exact h4) a
    rw[e]
theorem rest_ge(q:Qs):q.c.at_≤(qRest t q).2.c.at_:=by
 unfold qRest
 split
 ·simp_all
 ·split
  ·unfold Y4e
   split
   ·show q.c.at_≤q.c.at_;omega
   ·show q.c.at_≤(Y5x _).c.at_;rw[(drop_c _).2];show q.c.at_≤q.c.at_+1;omega
  ·split
   ·exact mat_ge q
   ·split
    ·exact Y98 (t:=t) [12] q.c
    ·split
     ·show q.c.at_≤q.c.at_;omega
     ·show q.c.at_≤(Y2y _ _ _ _).c.at_;rw[close_c];exact Y98 (t:=t) [clB q.f.op] q.c
theorem rest_ag{q:Qs}(o:CuOk t q.c)(hn:Nn t)(hn':Nn t'){m:Int}(hm:(qRest t q).2.c.at_≤m)(a:Ag t t' m):qRest t' q=qRest t q:=by
 have ge:=rest_ge (t:=t) q;have h0:=o.a0;have h1:=o.a1;unfold qRest at hm⊢
 split
 ·rename_i ho;rw[if_pos ho] at hm;have hm':q.c.at_≤m:=hm;have e:q.c.at_=(t'.length:Nat)↔q.c.at_=(t.length:Nat):=by
   have p:=a q.c.at_ h0 hm'
   constructor
   ·intro h;have:pk t' q.c.at_= -1:=(pk_end hn').2 (by omega);rw[p] at this;have:=(pk_end hn).1 this;omega
   ·intro h;have h2:pk t q.c.at_= -1:=(pk_end hn).2 (by omega);rw[←p] at h2;have h3:=(pk_end hn').1 h2
    --the list is not shorter
    by_cases h4:(t'.length:Int)<q.c.at_
    ·have h5:pk t' (t'.length:Nat)= -1:=(pk_end hn').2 (by omega);rw[a (t'.length:Nat) (by omega) (by omega)] at h5;have:=(pk_end hn).1 h5;omega
    ·omega
  have e1:(q.c.at_==(t'.length:Nat))=(q.c.at_==(t.length:Nat)):=by
   grind
  have e2:(q.c.at_ !=(t'.length:Nat))=(q.c.at_ !=(t.length:Nat)):=by grind
  rw[e1,e2]
 ·rename_i ho;rw[if_neg ho] at hm
  split
  ·rename_i h;rw[if_pos h] at hm;unfold Y4e at hm⊢;have hle:q.c.at_≤m:=by
    split at hm
    ·exact hm
    ·have h4:(Y5x (qU q.c.adv q)).c.at_≤m:=hm;rw[(drop_c _).2] at h4;have h5:q.c.at_+1≤m:=h4;omega
   rw[hit_ag (c:=50) (by omega) h0 hle a]
  ·rename_i h;rw[if_neg h] at hm
   split
   ·rename_i h;rw[if_pos h] at hm;exact mat_ag h0 hm a
   ·rename_i h;rw[if_neg h] at hm
    split
    ·rename_i h;rw[if_pos h] at hm;have e:xpc t' [12] q.c=xpc t [12] q.c:=xpc_ag [12] (by simp) h0 (m:=m) hm a;rw[e]
    ·rename_i h;rw[if_neg h] at hm
     split
     ·rfl
     ·rename_i h;rw[if_neg h] at hm;have e:xpc t' [clB q.f.op] q.c=xpc t [clB q.f.op] q.c:=xpc_ag [clB q.f.op] (by simpa using clB_pos q.f.op) h0 (m:=m) (by
       have h4:(Y2y q.f.op 0 1 (qOpd (qU (xpc t [clB q.f.op] q.c) q))).c.at_≤m:=hm;rw[close_c] at h4;exact h4) a
      rw[e]
theorem follow_ge(q:Qs):q.c.at_≤(Yk t q).2.c.at_:=by
 unfold Yk
 split
 ·have:=(sgn_ge (t:=t) (qU q.c.adv q)).1;have e:(qU q.c.adv q).c.at_=q.c.at_+1:=rfl;omega
 ·split
  ·show q.c.at_≤q.c.at_;omega
  ·split
   ·show q.c.at_≤q.c.at_+1;omega
   ·split
    ·show q.c.at_≤q.c.at_+1;omega
    ·split
     ·show q.c.at_≤q.c.at_+1;omega
     ·split
      ·have:=Y98 (t:=t) [54,0] q.c.adv;show q.c.at_≤(xpc t [54,0] q.c.adv).at_;simp only[Cu.adv] at this⊢;omega
      ·exact rest_ge q
theorem follow_ag{q:Qs}(o:CuOk t q.c)(hv:LvOk q.lv)(hn:Nn t)(hn':Nn t'){m:Int}(hm:(Yk t q).2.c.at_≤m)(a:Ag t t' m):Yk t' q=Yk t q:=by
 have ge:=follow_ge (t:=t) q;have h0:=o.a0;have hh:∀c:Int,0≤c→hit t' c q.c=hit t c q.c:=fun c hc=>hit_ag hc h0 (m:=m) (by omega) a;unfold Yk at hm⊢;rw[hh 16 (by omega),hh 44 (by omega),hh 36 (by omega),hh 33 (by omega),hh 0 (by omega)]
 split
 ·rename_i h;rw[if_pos h] at hm;exact sgn_ag (by show(0:Int)≤q.c.at_+1;omega) hv hm a
 ·rename_i h;rw[if_neg h] at hm
  split
  ·rfl
  ·rename_i h;rw[if_neg h] at hm
   split
   ·rfl
   ·rename_i h;rw[if_neg h] at hm
    split
    ·rfl
    ·rename_i h;rw[if_neg h] at hm
     split
     ·rfl
     ·rename_i h;rw[if_neg h] at hm
      split
      ·rename_i h;rw[if_pos h] at hm;have e:xpc t' [54,0] q.c.adv=xpc t [54,0] q.c.adv:=xpc_ag [54,0] (by simp) (by simp only[Cu.adv];omega) (m:=m) hm a;rw[e]
      ·rename_i h;rw[if_neg h] at hm;exact rest_ag o hn hn' hm a
inductive Run (t:List Int):Bool→Qs→Qs→Prop where
 |stop {b:Bool} {q:Qs}:(q.c.wr=true∨q.dn=true)→Run t b q q
 |step {b:Bool} {q r:Qs}:¬(q.c.wr=true∨q.dn=true)→Run t (Y54 t b q).1 (Y54 t b q).2 r→Run t b q r
theorem Run.det{b:Bool}{q r r':Qs}(h:Run t b q r):Run t b q r'→r=r':=by
 induction h with
 |stop hs=>
  intro h';cases h' with
  |stop _=>rfl
  |step hn _=>simp_all
 |step hn _ ih=>
  intro h';cases h' with
  |stop hs=>simp_all
  |step _ h2=>grind
theorem drop_lv(q:Qs):(Y5x q).lv=q.lv:=by
 rw[Y5x];split<;>rfl
theorem LvOk.step{b:Bool}{q:Qs}(h:LvOk q.lv):LvOk (Y54 t b q).2.lv:=by
 have hB:∀q:Qs,LvOk q.lv→LvOk (qSgB t q).2.lv:=fun q h=>by
  have ex:∀op c:Int,(c=24∨c=6)→LvOk (qExp op c q).lv:=fun op c hc x hx=>by
   have hx':x∈q.lv++[c]:=hx;simp only[Xi,X8] at hx';rcases hx' with hx'|rfl
   ·exact h x hx'
   ·exact hc
  unfold qSgB
  split
  ·simp_all
  ·split
   ·simp_all
   ·exact h
 have hcl:∀(op n b:Int) (q:Qs),LvOk q.lv→LvOk (Y2y op n b q).lv:=fun op n b q h=>by
  show LvOk (Y5x q).lv;rw[drop_lv];exact h
 cases b with
 |true=>
  show LvOk (Y0x t q).2.lv;unfold Y0x
  repeat' split
  all_goals exact h
 |false=>
  show LvOk (Yk t q).2.lv;unfold Yk
  split
  ·unfold qSgn
   split
   ·exact h
   ·split
    ·exact hB _ h
    ·split
     ·exact h
     ·split
      ·exact hB _ h
      ·unfold qEnd
       split
       ·exact hcl _ _ _ _ fun x hx=>h x (List.dropLast_subset _ hx)
       ·exact h
  ·split
   ·exact h
   ·split
    ·exact h
    ·split
     ·exact h
     ·split
      ·exact h
      ·split
       ·exact h
       ·unfold qRest
        split
        ·exact h
        ·split
         ·unfold Y4e
          split
          ·exact h
          ·show LvOk (Y5x _).lv;rw[drop_lv];exact h
         ·split
          ·unfold Y3y
           by_cases h1:q.f.ents+1<(if q.f.cols=0 then 4 else q.f.cols)∧hit t 32 q.c=true
           ·rw[if_pos h1];exact h
           ·rw[if_neg h1]
            by_cases h2:q.f.cols≠0∧q.f.ents+1≠q.f.cols
            ·rw[if_pos h2];exact h
            ·rw[if_neg h2]
             by_cases h3:q.f.rows+1<4∧hit t 51 q.c=true
             ·rw[if_pos h3];exact h
             ·rw[if_neg h3];exact hcl _ _ _ _ h
          ·split
           ·exact h
           ·split
            ·exact h
            ·exact hcl _ _ _ _ h
theorem step_ge(b:Bool)(q:Qs):q.c.at_≤(Y54 t b q).2.c.at_:=by
 cases b with
 |true=>exact begin_ge q
 |false=>exact follow_ge q
theorem Run.ge{b:Bool}{q r:Qs}(h:Run t b q r):q.c.at_≤r.c.at_:=by
 induction h with
 |stop _=>omega
 |@step b q r _ _ ih=>have:=step_ge (t:=t) b q;omega
theorem CuOk.step{b:Bool}{q:Qs}(hQ:QI t q b)(hw:q.c.wr=false):CuOk t (Y54 t b q).2.c:=by
 have hQ0:QJ t q (if b=true then 0 else 1) 0:=hQ;have o:=hQ0.o;have hcl:∀(op n b:Int) (q:Qs),CuOk t q.c→CuOk t (Y2y op n b q).c:=fun op n b q h=>by rw[close_c];exact h
 have hB:∀q:Qs,CuOk t q.c→CuOk t (qSgB t q).2.c:=fun q h=>by
  unfold qSgB
  split
  ·rename_i hh;exact h.adv (Y0g hh).2.1
  ·split
   ·rename_i hh;exact h.adv (Y0g hh).2.1
   ·exact h.bad
 cases b with
 |true=>
  show CuOk t (Y0x t q).2.c;unfold Y0x
  split
  ·rename_i hh;exact CuOk.numU (o.adv (Y0g hh).2.1)
  ·split
   ·rename_i hh;show CuOk t (if chrI t 26 q.c.adv<0 then q.c.adv.bad else q.c.adv.adv)
    split
    ·exact(o.adv (Y0g hh).2.1).bad
    ·exact(o.adv (Y0g hh).2.1).adv (chrI_ok (n:=26) (by omega)).2
   ·split
    ·rename_i hh;exact o.adv (Y0g hh).2.1
    ·split
     ·rename_i hh;exact CuOk.sumU (o.adv (Y0g hh).2.1)
     ·split
      ·rename_i hh;exact o.adv (Y0g hh).2.1
      ·split
       ·rename_i hh;exact o.adv (Y0g hh).2.1
       ·split
        ·rename_i hh;exact o.adv (Y0g hh).2.1
        ·split
         ·rename_i hh;exact o.adv (Y0g hh).2.1
         ·split
          ·rename_i hh;exact o.adv (Y0g hh).2.1
          ·exact o.bad
 |false=>
  show CuOk t (Yk t q).2.c;unfold Yk
  split
  ·rename_i hh;have o1:=o.adv (Y0g hh).2.1;unfold qSgn
   split
   ·show CuOk t ⟨q.c.at_+1-1,true⟩;have:=o.a0;have:=o.a1;exact⟨by simp_all,by simp_all⟩
   ·split
    ·exact hB _ o1
    ·have o2:=o1.xpc q.lv.dropLast
     split
     ·exact o2
     ·split
      ·rename_i hh2;exact hB _ (o2.adv (Y0g hh2.2).2.1)
      ·unfold qEnd
       split
       ·exact hcl _ _ _ _ o2
       ·exact o2.bad
  ·split
   ·exact o.bad
   ·split
    ·rename_i hh;exact o.adv (Y0g hh).2.1
    ·split
     ·rename_i hh;exact o.adv (Y0g hh).2.1
     ·split
      ·rename_i hh;exact o.adv (Y0g hh).2.1
      ·split
       ·rename_i hh;exact CuOk.xpc [54,0] (o.adv (Y0g hh).2.1)
       ·unfold qRest
        split
        ·exact⟨o.a0,o.a1⟩
        ·split
         ·unfold Y4e
          split
          ·exact o.bad
          ·rename_i hh;simp only[not_or,Bool.not_eq_false] at hh;show CuOk t (Y5x _).c;rw[(drop_c _).2];exact o.adv (Y0g hh.2).2.1
         ·split
          ·unfold Y3y
           by_cases h1:q.f.ents+1<(if q.f.cols=0 then 4 else q.f.cols)∧hit t 32 q.c=true
           ·rw[if_pos h1];exact o.adv (Y0g h1.2).2.1
           ·rw[if_neg h1]
            by_cases h2:q.f.cols≠0∧q.f.ents+1≠q.f.cols
            ·rw[if_pos h2];exact o.bad
            ·rw[if_neg h2]
             by_cases h3:q.f.rows+1<4∧hit t 51 q.c=true
             ·rw[if_pos h3];exact o.adv (Y0g h3.2).2.1
             ·rw[if_neg h3];exact hcl _ _ _ _ (o.xpc [43])
          ·split
           ·exact o.xpc [12]
           ·split
            ·exact o.bad
            ·exact hcl _ _ _ _ (o.xpc [clB q.f.op])
theorem step_inv{b:Bool}{q:Qs}(hQ:QI t q b)(hs:¬(q.c.wr=true∨q.dn=true)):(Y54 t b q).2.c.wr=true∨((Y54 t b q).2.dn=false∧QI t (Y54 t b q).2 (Y54 t b q).1∧q.c.at_<(Y54 t b q).2.c.at_)∨((Y54 t b q).2.dn=true∧b=false∧(Y54 t b q).2.c=⟨(t.length:Nat),false⟩∧(Y54 t b q).2.F=q.F∧(Y54 t b q).2.f=q.f∧q.f.op= -1∧q.c.at_=(t.length:Nat)):=by
 have hw:q.c.wr=false:=by
  simp_all
 have hd:q.dn=false:=by
  simp_all
 cases b with
 |true=>
  rcases begin_inv hQ with h|h
  ·exact .inl h
  ·exact .inr (.inl ⟨h.dn.trans hd,h.inv,h.adv⟩)
 |false=>
  rcases follow_inv hQ hw with h|h|h
  ·exact .inl h
  ·exact .inr (.inl ⟨h.dn.trans hd,h.inv,h.adv⟩)
  ·exact .inr (.inr ⟨h.1,rfl,h.2⟩)
theorem Run.loc{b:Bool}{q r:Qs}(h:Run t b q r)(hn:Nn t)(hn':Nn t'):(q.c.wr=true∨q.dn=true∨QI t q b)→LvOk q.lv→∀{m:Int},r.c.at_≤m→Ag t t' m→Run t' b q r:=by
 induction h with
 |stop hs=>intro _ _ m _ _;exact .stop hs
 |@step b q r hs hr ih=>
  intro hq hv m hm a;have hQ:QI t q b:=by
   simp_all
  have ge:=hr.ge;have o:CuOk t q.c:=QJ.o hQ;have e:Y54 t' b q=Y54 t b q:=by
   cases b with
   |true=>exact begin_ag o.a0 (m:=m) (by show(Y0x t q).2.c.at_≤m;exact Int.le_trans ge hm) a
   |false=>exact follow_ag o hv hn hn' (m:=m) (by show(Yk t q).2.c.at_≤m;exact Int.le_trans ge hm) a
  refine .step hs ?_;rw[e];refine ih ?_ hv.step hm a;rcases step_inv hQ hs with h|h|h
  ·grind
  ·simp_all
  grind
theorem run_q:∀(k:Nat) (b:Bool) (q:Qs),(q.c.wr=true∨q.dn=true∨(QI t q b∧(t.length:Int)+1<k+q.c.at_))→Run t b q (qRun t k b q)
 |0,b,q,h=>by
  rcases h with h|h|h
  ·exact .stop (.inl h)
  ·exact .stop (.inr h)
  ·have:=(QJ.o h.1).a1;omega
 |k+1,b,q,h=>by
  rw[qRun]
  split
  ·rename_i hs;exact .stop hs
  ·rename_i hs;have⟨hQ,hk⟩:QI t q b∧(t.length:Int)+1<(k+1:Nat)+q.c.at_:=by
    simp_all
   refine .step hs (run_q k _ _ ?_);rcases step_inv hQ hs with h|h|h
   ·grind
   ·grind
   grind
theorem q00_QI(t:List Int):QI t q00 true:=by
 refine⟨rfl,fun f hf=>by simp[q00] at hf,rfl,fun f hf=> ?_,fun f hf=> ?_, ?_, ?_, ?_,⟨by simp[q00],by simp[q00]⟩⟩
 ·simp[q00] at hf;rw[hf];exact⟨by simp[fr0],by simp[fr0],by simp[fr0],by simp[fr0],by simp[fr0],by simp[fr0]⟩
 ·simp[q00] at hf;rw[hf];intro e
  rfl
 ·simp[q00,szQ,szF,szFs,sgs,fr0,Y27]
 ·simp[q00]
 ·simp[q00]
def mRun (t:List Int):Qs:=qRun t (t.length+2) true q00
theorem run_m(t:List Int):Run t true q00 (mRun t):=run_q _ _ _ (.inr (.inr ⟨q00_QI t,by simp[q00]⟩))
theorem run_eq{t:List Int}{r:Qs}(h:Run t true q00 r):mRun t=r:=(run_m t).det h
theorem Run.fin{b:Bool}{q r:Qs}(h:Run t b q r):(q.c.wr=true∨q.dn=true∨QI t q b)→CuOk t q.c→(r.c.wr=true∨r.dn=true)∧CuOk t r.c:=by
 induction h with
 |stop hs=>simp_all
 |@step b q r hs hr ih=>
  intro hq o;have hQ:QI t q b:=by
   simp_all
  refine ih ?_ (CuOk.step hQ (by
   simp_all))
  rcases step_inv hQ hs with h|h|h
  ·grind
  ·simp_all
  grind
theorem m_fin(t:List Int):((mRun t).c.wr=true∨(mRun t).dn=true)∧CuOk t (mRun t).c:=(run_m t).fin (.inr (.inr (q00_QI t))) ⟨by simp[q00],by simp[q00]⟩
theorem m_loc{t t':List Int}(hn:Nn t)(hn':Nn t'){m:Int}(hm:(mRun t).c.at_≤m)(a:Ag t t' m):mRun t'=mRun t:=
 run_eq ((run_m t).loc hn hn' (.inr (.inr (q00_QI t))) (fun c hc=>by simp[q00] at hc) hm a)
end
end Go.Proofs.YtfpcbalkioolmaaDoor
