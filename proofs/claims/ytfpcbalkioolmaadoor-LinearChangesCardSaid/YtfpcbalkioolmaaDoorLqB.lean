/- Own work. -/
import Derived.Test.YtfpcbalkioolmaaDoorLqA
import Derived.Test.YtfpcbalkioolmaaDoorFmZ
set_option linter.unusedSimpArgs false
set_option linter.unusedVariables false
namespace Go.Proofs.YtfpcbalkioolmaaDoor
open Go.Abs
def Sfx (t:List Int) (i:Int) (l:List Int):Prop:=0≤i∧i≤(t.length:Nat)∧t.drop i.toNat=l
section
variable {t:List Int} {i:Int} {l:List Int} {c:Int}
theorem Sfx.cons(h:Sfx t i (c::l)):i<(t.length:Nat)∧cAt t i=c∧Sfx t (i+1) l:=by
 have⟨h0,h1,h2⟩:=h;have hl:i.toNat<t.length:=by
  have:=congrArg List.length h2;simp only[X18,Xa] at this;omega
 rw[X0c hl] at h2;simp only[List.cons.injEq] at h2;refine⟨by omega, ?_,by omega,by omega, ?_⟩
 ·unfold cAt;rw[X7,X2 hl];exact h2.1
 ·rw[show(i+1).toNat=i.toNat+1 by omega];exact h2.2
theorem Sfx.hit(h:Sfx t i (c::l)):hit t c ⟨i,false⟩=true:=by
 have⟨h1,h2,_⟩:=h.cons;unfold Go.Proofs.YtfpcbalkioolmaaDoor.hit;rw[decide_eq_true h1,h2];simp
theorem Sfx.no(h:Sfx t i l)(hc:l.head?≠some c):Go.Proofs.YtfpcbalkioolmaaDoor.hit t c ⟨i,false⟩=false:=by
 unfold Go.Proofs.YtfpcbalkioolmaaDoor.hit;cases l with
 |nil=>
  have:¬i<(t.length:Nat):=by
   have:=congrArg List.length h.2.2;simp only[X18,Xj] at this;have:=h.1;omega
  rw[decide_eq_false this];simp
 |cons x l=>
  have⟨h1,h2,_⟩:=h.cons;rw[h2];have:(x==c)=false:=by simpa using hc
  rw[this];simp
theorem Sfx.app:∀{a b:List Int} {i:Int},Sfx t i (a++b)→Sfx t (i+(a.length:Nat)) b
 |[],b,i,h=>by simpa using h
 |x::a,b,i,h=>by
  have:=Sfx.app (a:=a) h.cons.2.2;simp only[Xa];rw[show i+((a.length+1:Nat):Int)=i+1+(a.length:Nat) by push_cast;omega];exact this
theorem Sfx.end_(h:Sfx t i []):i=(t.length:Nat):=by
 have:=congrArg List.length h.2.2;simp only[X18,Xj] at this;have h0:=h.1;have h1:=h.2.1;omega
theorem Sfx.self(t:List Int):Sfx t 0 t:=⟨by omega,by omega,rfl⟩
theorem xpc_run:∀(l:List Int) {rest:List Int} {i:Int},Sfx t i (l++rest)→xpc t l ⟨i,false⟩=⟨i+(l.length:Nat),false⟩
 |[],rest,i,h=>by simp[xpc]
 |c::l,rest,i,h=>by
  rw[xpc,if_pos (Sfx.hit h)];have:=xpc_run l (Sfx.cons h).2.2;show xpc t l ⟨i+1,false⟩=_;rw[this];simp only[Xa];congr 1;push_cast;omega
theorem chr_run{n:Nat}(h:Sfx t i (c::l)):chrI t n ⟨i,false⟩=lfind c (Y9.take n) 0:=by
 have⟨h1,h2,_⟩:=h.cons;unfold chrI;rw[if_neg (by simp only[not_or];exact⟨by simp,by omega⟩),h2]
theorem chr_end{n:Nat}(h:Sfx t i []):chrI t n ⟨i,false⟩= -1:=by
 unfold chrI;rw[if_pos (.inr (by have:=h.end_;simp only;omega))]
def FolC (c:Int):Prop:=c≠24∧c≠6∧lfind c (Y9.take 10) 0<0
def Fol (l:List Int):Prop:=∀c,l.head? =some c→FolC c
theorem Fol.nil:Fol []:=fun c h=>by cases h
theorem Fol.of{l:List Int}(h:FolC c):Fol (c::l):=fun x hx=>by
 simp only[X0r,X0] at hx;rw[←hx];exact h
theorem Y45:∀c∈[44,36,33,0,12,47,59,62,46,32,51,34,43,16,(50:Int)],FolC c:=by
 intro c hc;simp only[Xm,X05,or_false] at hc;rcases hc with h|h|h|h|h|h|h|h|h|h|h|h|h|h|h<;>subst h<;>exact⟨by decide,by decide,by decide⟩
theorem Fol.chr{l:List Int}(h:Sfx t i l)(hf:Fol l):chrI t 10 ⟨i,false⟩<0:=by
 cases l with
 |nil=>rw[chr_end h];omega
 |cons c l=>rw[chr_run h];exact(hf c rfl).2.2
theorem dg_find:∀d:Int,0≤d→d<10→lfind (dg d) (Y9.take 10) 0=(d+9)%10:=by
 intro d h0 h1;have:d=0∨d=1∨d=2∨d=3∨d=4∨d=5∨d=6∨d=7∨d=8∨d=9:=by omega
 rcases this with h|h|h|h|h|h|h|h|h|h<;>subst h<;>decide
def val (n:Int) (l:List Int):Int:=l.foldl (fun a d=>10*a+d) n
theorem dgs_run:∀(l:List Int) (k:Nat) (n d:Int) {rest:List Int} {i:Int},Sfx t i (l.map dg++rest)→(∀x∈l,0≤x∧x<10)→l.length≤k→0<n→0≤d→(l.length=k∨Fol rest)→
  dgs t k n d ⟨i,false⟩=(val n l,d+(l.length:Nat),⟨i+(l.length:Nat),false⟩)
 |[],k,n,d,rest,i,h,_,_,hn,hd,he=>by
  cases k with
  |zero=>simp[dgs,val]
  |succ k=>
   have hf:Fol rest:=by
    rcases he with he|he
    ·simp at he
    ·exact he
   rw[dgs,if_pos (.inr hn),if_pos (Fol.chr h hf)];simp[val]
 |x::l,k,n,d,rest,i,h,hx,hk,hn,hd,he=>by
  obtain⟨k,rfl⟩:∃k',k=k'+1:=⟨k-1,by simp at hk;omega⟩;have h1:=hx x (by simp);have hc:chrI t 10 ⟨i,false⟩=(x+9)%10:=by rw[chr_run h];exact dg_find x h1.1 h1.2
  rw[dgs,if_pos (.inr hn),hc,Vn];have ev:((x+9)%10+1)%10=x:=by omega
  rw[ev];have:=dgs_run l k (10*n+x) (d+1) (Sfx.cons h).2.2 (fun y hy=>hx y (by simp[hy])) (by simp at hk;omega) (by omega) (by omega) (by
   rcases he with he|he
   ·left;simp at he;exact he
   ·exact .inr he)
  show dgs t k (10*n+x) (d+1) ⟨i+1,false⟩=_;rw[this];simp only[Xa,val,List.foldl_cons];push_cast;have e1:d+1+(l.length:Nat)=d+((l.length:Nat)+1):=by omega
  have e2:i+1+(l.length:Nat)=i+((l.length:Nat)+1):=by omega
  rw[e1,e2]
theorem val_snoc(n:Int)(l:List Int)(d:Int):val n (l++[d])=10*val n l+d:=by simp[val,List.foldl_append]
theorem digs_spec:∀(k:Nat) (n:Int),0≤n→n<(10:Int)^(k+1)→n≤99999→∃x l,digs n=(x::l).map dg∧l.length≤k∧(∀y∈x::l,0≤y∧y<10)∧val 0 (x::l)=n∧(x=0→l=[])
 |0,n,h0,h1,h9=>by
  have h1':n<10:=by simpa using h1
  exact⟨n,[],by rw[digs_one h0 h1'];rfl,by simp,fun y hy=>by simp only[Xh] at hy;rw[hy];exact⟨h0,h1'⟩,by simp[val],fun _=>rfl⟩
 |k+1,n,h0,h1,h9=>by
  by_cases h:n<10
  ·exact⟨n,[],by rw[digs_one h0 h];rfl,by simp,fun y hy=>by simp only[Xh] at hy;rw[hy];exact⟨h0,h⟩,by simp[val],fun _=>rfl⟩
  ·have h2:n/10<(10:Int)^(k+1):=by
    rw[Int.pow_succ] at h1;omega
   have⟨x,l,e1,e2,e3,e4,e5⟩:=digs_spec k (n/10) (by omega) h2 (by omega);refine⟨x,l++[n%10], ?_,by simp;omega,fun y hy=> ?_, ?_,fun hx=> ?_⟩
   ·rw[digs_step (by omega) h9,e1];simp
   ·rw[←Xu,Xs] at hy;rcases hy with hy|hy
    ·exact e3 y hy
    ·simp only[Xh] at hy;rw[hy];omega
   ·rw[←Xu,val_snoc,e4];omega
   ·have:=e5 hx;rw[this,hx] at e4;simp[val] at e4;omega
theorem numb_run{n:Int}(h0:0≤n)(h9:n≤99999){rest:List Int}(h:Sfx t i (digs n++rest))(hf:Fol rest):numN t ⟨i,false⟩=n∧numU t ⟨i,false⟩=⟨i+((digs n).length:Nat),false⟩:=by
 have⟨x,l,e1,e2,e3,e4,e5⟩:=digs_spec 4 n h0 (by have h5:(10:Int)^(4+1)=100000:=(by decide);omega) h9;rw[e1] at h;have hx:=e3 x (by simp);have hc:chrI t 10 ⟨i,false⟩=(x+9)%10:=by rw[chr_run h];exact dg_find x hx.1 hx.2
 have ev:((x+9)%10+1)%10=x:=by omega
 have key:dgs t 5 0 0 ⟨i,false⟩=(n,(((digs n).length:Nat):Int),(⟨i+((digs n).length:Nat),false⟩:Cu)):=by
  rw[dgs,if_pos (.inl rfl),hc,Vn,ev];show dgs t 4 (10*0+x) (0+1) ⟨i+1,false⟩=_;have el:(digs n).length=l.length+1:=by rw[e1];simp
  rw[el]
  by_cases hz:x=0
  ·have hl:=e5 hz;subst hl;subst hz;rw[dgs,if_neg (by decide)];simp[val] at e4;rw[←e4];simp
  ·have:=dgs_run l 4 (10*0+x) (0+1) (Sfx.cons h).2.2 (fun y hy=>e3 y (by simp[hy])) e2 (by omega) (by omega) (.inr hf);rw[this];have e6:val (10*0+x) l=n:=by rw[←e4];rfl
   rw[e6];push_cast;have e1:(1:Int)+(l.length:Nat)=(l.length:Nat)+1:=by omega
   have e2:i+1+(l.length:Nat)=i+((l.length:Nat)+1):=by omega
   rw[e1,e2]
 have hl0:0<(digs n).length:=by rw[e1];simp
 constructor
 ·rw[numN,key]
 ·rw[numU,key,if_neg (by simp only;omega)]
def nums (s:Int) (l:List Int):List Int:=l.flatMap fun m=>s::60::digs m
theorem fol_nums{l rest:List Int}(hr:Fol rest):Fol (nums 32 l++rest):=by
 cases l with
 |nil=>exact hr
 |cons m l=>exact Fol.of (Y45 32 (by simp))
theorem sumL_run:∀(ms:List Int) (k:Nat) (l:List Int) {rest:List Int} {i:Int},(∀m∈ms,0≤m∧m≤99999)→ms.length≤k→Sfx t i (nums 32 ms++51::rest)→sumL t k l ⟨i,false⟩=(l++ms,⟨i+((nums 32 ms).length:Nat),false⟩)
 |[],k,l,rest,i,_,_,h=>by
  cases k with
  |zero=>simp[sumL,nums]
  |succ k=>
   have h32:Go.Proofs.YtfpcbalkioolmaaDoor.hit t 32 ⟨i,false⟩=false:=Sfx.no h (by simp[nums]);rw[sumL,if_neg (by rw[h32];simp)];simp[nums]
 |m::ms,k,l,rest,i,hm,hk,h=>by
  obtain⟨k,rfl⟩:∃k',k=k'+1:=⟨k-1,by simp at hk;omega⟩;have e:nums 32 (m::ms)=32::60::(digs m++nums 32 ms):=by simp[nums]
  rw[e] at h⊢;simp only[Xu,Xf] at h;have hm1:=hm m (by simp);have h1:=(Sfx.cons h).2.2;have hx:xpc t [60] ⟨i+1,false⟩=⟨i+1+1,false⟩:=xpc_run [60] (rest:=digs m++(nums 32 ms++51::rest)) h1;have h2:=(Sfx.cons h1).2.2;have⟨n1,n2⟩:=numb_run hm1.1 hm1.2 h2 (fol_nums (Fol.of (Y45 51 (by simp))));rw[sumL,if_pos (Sfx.hit h)];show sumL t k (l++[numN t (xpc t [60] ⟨i+1,false⟩)]) (numU t (xpc t [60] ⟨i+1,false⟩))=_;rw[hx,n1,n2];rw[sumL_run ms k (l++[m]) (fun x hx=>hm x (by simp[hx])) (by simp at hk;omega) h2.app]
  simp only[Xf,X0d,Xa,X5];congr 2;push_cast;omega
theorem sum_run{m0 z:Int}{ms:List Int}(hm:∀m∈m0::ms,0≤m∧m≤99999)(hz:0≤z∧z≤99999)(h1:1≤ms.length)(h4:ms.length≤4){rest:List Int}(h:Sfx t i (60::(digs m0++(nums 32 ms++51::60::(digs z++34::rest))))):
  sumT t ⟨i,false⟩= .node ⟨12,((ms.length+1:Nat):Int)⟩ ((m0::ms++[z]).map numT)∧sumU t ⟨i,false⟩=⟨i+((60::(digs m0++(nums 32 ms++51::60::(digs z++[34])))).length:Nat),false⟩:=by
 have hm0:=hm m0 (by simp);have hx:xpc t [60] ⟨i,false⟩=⟨i+1,false⟩:=xpc_run [60] h;have h2:=(Sfx.cons h).2.2;have⟨n1,n2⟩:=numb_run hm0.1 hm0.2 h2 (fol_nums (Fol.of (Y45 51 (by simp))));have h3:=h2.app;have hL:=sumL_run ms 4 [m0] (fun m hm'=>hm m (by simp[hm'])) h4 h3;have hA:sumA t ⟨i,false⟩=(m0::ms,⟨i+1+((digs m0).length:Nat)+((nums 32 ms).length:Nat),false⟩):=by
  rw[sumA,hx,n1,n2,hL];rfl
 have h5:=h3.app;have hV:sumV t ⟨i,false⟩=⟨i+1+((digs m0).length:Nat)+((nums 32 ms).length:Nat)+2,false⟩:=by
  rw[sumV,hA,if_neg (by simp;omega)];exact xpc_run [51,60] h5
 have h6:=(Sfx.cons (Sfx.cons h5).2.2).2.2;rw[show i+1+((digs m0).length:Nat)+((nums 32 ms).length:Nat)+1+1=i+1+((digs m0).length:Nat)+((nums 32 ms).length:Nat)+2 by omega] at h6;have⟨n3,n4⟩:=numb_run hz.1 hz.2 h6 (Fol.of (Y45 34 (by simp)));have h7:=h6.app;refine⟨?_, ?_⟩
 ·rw[sumT,hV,n3,hA];simp
 ·rw[sumU,hV,n4];have:=xpc_run [34] h7;rw[this];simp only[Xa,X5,Xj];congr 1;push_cast;omega
theorem let_find:∀n:Nat,n<26→lfind (Y9.getD n 0) (Y9.take 26) 0=(n:Int):=by decide
end
def HD (ss:List Int) (p:Int):Prop:=∀o,ss.head? =some o→Y3f o<p
theorem qJ_stop{ss:List Int}{m:Int}(h:HD ss m)(ts:List Tr):qJ m ss ts=(ts,ss):=by
 cases ss with
 |nil=>rfl
 |cons o ss=>have:=h o rfl;rw[qJ,Vn]
theorem qJ_qJ{m m':Int}(h:m≤m'):∀(ss:List Int) (ts:List Tr),qJ m (qJ m' ss ts).2 (qJ m' ss ts).1=qJ m ss ts
 |[],ts=>rfl
 |o::ss,ts=>by
  by_cases h1:m'≤Y3f o
  ·rw[qJ,if_pos h1,qJ_qJ h ss,qJ,Vp]
  ·rw[qJ,if_neg h1]
theorem qJ_of{m m':Int}(h:m≤m'){ss ss':List Int}{ts ts':List Tr}(e:qJ m' ss ts=(ts',ss')):qJ m ss ts=qJ m ss' ts':=by
 rw[←qJ_qJ h ss ts,e]
def bsO (o:Int):Int:=if o=7∨o=8 then 0 else 1
theorem opn_hd:∀T:Tr,(hd T.flat).Op=opn T
 | .node n ks=>by rw[Tr.flat];rfl
theorem lprec_pr{o:Int}(h:2≤o∧o≤5):Y3f o=pr o:=by
 have:o=2∨o=3∨o=4∨o=5:=by omega
 rcases this with h|h|h|h<;>subst h<;>decide
theorem pr_rng(o:Int):1≤pr o∧pr o≤4:=by
 unfold pr
 repeat' split
 all_goals omega
theorem pr_four{o:Int}(h:¬(2≤o∧o≤5)):pr o=4:=by
 unfold pr;rw[Vn,Vn,Vn]
section
variable {t:List Int}
def RunP (t:List Int) (b:Bool) (q:Qs) (P:Qs→Prop):Prop:=∃r,Run t b q r∧P r
theorem run_f{q q':Qs}{r:Qs→Prop}{b:Bool}{i:Int}(hc:q.c=⟨i,false⟩)(hd:q.dn=false)(h:Y0j t q=(b,q'))(R:RunP t b q' r):RunP t false q r:=by
 have⟨e,R,hp⟩:=R;refine⟨e,.step (by rw[hc,hd];simp) ?_,hp⟩;show Run t (Y0j t q).1 (Y0j t q).2 e;rw[h];exact R
theorem run_b{q q':Qs}{r:Qs→Prop}{b:Bool}{i:Int}(hc:q.c=⟨i,false⟩)(hd:q.dn=false)(h:Y1s t q=(b,q'))(R:RunP t b q' r):RunP t true q r:=by
 have⟨e,R,hp⟩:=R;refine⟨e,.step (by rw[hc,hd];simp) ?_,hp⟩;show Run t (Y1s t q).1 (Y1s t q).2 e;rw[h];exact R
def RdA (t:List Int) (T:Tr):Prop:=∀(q:Qs) (i:Int) (rest:List Int) (r:Qs→Prop),q.c=⟨i,false⟩→q.dn=false→LvOk q.lv→Sfx t i (T.cells q.lv++rest)→Fol rest→
  RunP t false (Y1g T (bsO (opn T)) (qU ⟨i+((T.cells q.lv).length:Nat),false⟩ q)) r→RunP t true q r
def RdE (t:List Int) (T:Tr):Prop:=∀(q:Qs) (i:Int) (rest:List Int) (r:Qs→Prop) (p:Int),q.c=⟨i,false⟩→q.dn=false→LvOk q.lv→1≤p→HD q.f.ss p→p≤pr (opn T)→Sfx t i (T.cells q.lv++rest)→Fol rest→
  (∀us rs b,(b=0∨b=1)→(∀m,p≤m→m≤pr (opn T)→qJ m rs us=(T::q.f.ts,q.f.ss))→RunP t false ⟨⟨i+((T.cells q.lv).length:Nat),false⟩,q.F,{q.f with ts:=us,ss:=rs},q.lv,b,false⟩ r)→RunP t true q r
theorem RdA.e{T:Tr}(h:RdA t T):RdE t T:=by
 intro q i rest r p hc hd hv h1 hh hp hs hf K;refine h q i rest r hc hd hv hs hf ?_;have hb:bsO (opn T)=0∨bsO (opn T)=1:=by unfold bsO;split<;>simp
 have:=K (T::q.f.ts) q.f.ss (bsO (opn T)) hb fun m hm _=>qJ_stop (fun o ho=>by have:=hh o ho;omega) _;have e:Y1g T (bsO (opn T)) (qU ⟨i+((T.cells q.lv).length:Nat),false⟩ q)=⟨⟨i+((T.cells q.lv).length:Nat),false⟩,q.F,{q.f with ts:=T::q.f.ts,ss:=q.f.ss},q.lv,bsO (opn T),false⟩:=by
  rw[←hd];rfl
 rw[e];exact this
theorem RdE.arg{T:Tr}(h:RdE t T){q:Qs}{i:Int}{rest:List Int}{r:Qs→Prop}(hc:q.c=⟨i,false⟩)(hd:q.dn=false)(hv:LvOk q.lv)(hts:q.f.ts=[])(hss:q.f.ss=[])(hs:Sfx t i (T.cells q.lv++rest))(hf:Fol rest)
  (K:∀us rs b,(b=0∨b=1)→qJ 0 rs us=([T],[])→(rs=[]→us=[T])→RunP t false ⟨⟨i+((T.cells q.lv).length:Nat),false⟩,q.F,{q.f with ts:=us,ss:=rs},q.lv,b,false⟩ r):RunP t true q r:=by
 refine h q i rest r 1 hc hd hv (by omega) (by rw[hss];intro o ho;cases ho) (pr_rng _).1 hs hf fun us rs b hb hJ=>K us rs b hb ?_ fun hr=> ?_
 ·have:=hJ 1 (by omega) (pr_rng _).1;rw[hts,hss] at this;rw[qJ_of (by omega) this];rfl
 ·have:=hJ 1 (by omega) (pr_rng _).1;rw[hts,hss,hr] at this;simp only[qJ,Prod.mk.injEq] at this;exact this.1
theorem qOpI_of{q:Qs}{x:Tr}(h:qJ 0 q.f.ss q.f.ts=([x],[])):qOpI q=x:=by rw[qOpI,h];rfl
theorem Y67{q:Qs}{j:Int}{l:List Int}(hc:q.c=⟨j,false⟩)(hb:q.base=0∨q.base=1)(h:Sfx t j l)(hl:∀x,l.head? =some x→x≠16∧x≠44∧x≠36∧x≠33∧x≠0):Y0j t q=qRest t q:=by
 have no:∀c:Int,(c=16∨c=44∨c=36∨c=33∨c=0)→hit t c ⟨j,false⟩=false:=fun c hc'=>Sfx.no h fun he=>by
  have:=hl c he;omega
 unfold Y0j;rw[hc,no 16 (by omega),if_neg (by simp),Vn,no 44 (by omega),if_neg (by simp),no 36 (by omega),if_neg (by simp),no 33 (by omega),if_neg (by simp),no 0 (by omega),if_neg (by simp)]
theorem begin_open{q:Qs}{i op:Int}{l:List Int}(hc:q.c=⟨i,false⟩)(ho:op=6∨op=9∨op=10∨op=11∨op=13)(h:Sfx t i (Y5y op::l)):Y1s t q=(true,Y57 op [] (qU ⟨i+1,false⟩ q)):=by
 have no:∀c:Int,c≠Y5y op→hit t c ⟨i,false⟩=false:=fun c hc'=>Sfx.no h (by simp only[X0r,ne_eq,X0];exact fun e=>hc' e.symm);have yes:=Sfx.hit h;unfold Y1s;rw[hc];rcases ho with ho|ho|ho|ho|ho<;>subst ho
 ·rw[no 60 (by decide),if_neg (by simp),no 48 (by decide),if_neg (by simp),no 35 (by decide),if_neg (by simp),no 56 (by decide),if_neg (by simp)];have y:hit t 57 ⟨i,false⟩=true:=yes;rw[y,if_pos rfl];rfl
 ·rw[no 60 (by decide),if_neg (by simp),no 48 (by decide),if_neg (by simp),no 35 (by decide),if_neg (by simp),no 56 (by decide),if_neg (by simp),no 57 (by decide),if_neg (by simp)];have y:hit t 28 ⟨i,false⟩=true:=yes;rw[y,if_pos rfl];rfl
 ·rw[no 60 (by decide),if_neg (by simp),no 48 (by decide),if_neg (by simp),no 35 (by decide),if_neg (by simp),no 56 (by decide),if_neg (by simp),no 57 (by decide),if_neg (by simp),no 28 (by decide),if_neg (by simp)];have y:hit t 55 ⟨i,false⟩=true:=yes;rw[y,if_pos rfl];rfl
 ·rw[no 60 (by decide),if_neg (by simp),no 48 (by decide),if_neg (by simp),no 35 (by decide),if_neg (by simp),no 56 (by decide),if_neg (by simp),no 57 (by decide),if_neg (by simp),no 28 (by decide),if_neg (by simp),no 55 (by decide),if_neg (by simp)];have y:hit t 42 ⟨i,false⟩=true:=yes;rw[y,if_pos rfl];rfl
 ·rw[no 60 (by decide),if_neg (by simp),no 48 (by decide),if_neg (by simp),no 35 (by decide),if_neg (by simp),no 56 (by decide),if_neg (by simp),no 57 (by decide),if_neg (by simp),no 28 (by decide),if_neg (by simp),no 55 (by decide),if_neg (by simp),no 42 (by decide),if_neg (by simp)];have y:hit t 41 ⟨i,false⟩=true:=yes;rw[y,if_pos rfl];rfl
theorem clB_close{o:Int}(h:o=6∨o=9∨o=10∨o=11):clB o=Y1k o:=by
 rcases h with h|h|h|h<;>subst h<;>rfl
theorem close_fol{o:Int}:FolC (Y1k o)∧Y1k o≠16∧Y1k o≠44∧Y1k o≠36∧Y1k o≠33∧Y1k o≠0:=by
 have:Y1k o=47∨Y1k o=59∨Y1k o=62∨Y1k o=46∨Y1k o=34∨Y1k o=43:=by
  unfold Y1k
  repeat' split
  all_goals simp
 refine⟨Y45 _ (by simp only[Xm];omega),by omega,by omega,by omega,by omega,by omega⟩
theorem close_run{q:Qs}{j op:Int}{G:Qf}{F:List Qf}{x:Tr}{l:List Tr}{rest:List Int}{r:Qs→Prop}(hc:q.c=⟨j,false⟩)(hd:q.dn=false)(hb:q.base=0∨q.base=1)(hF:q.F=G::F)(ho:q.f.op=op)(hop:op=6∨op=9∨op=10∨op=11)(h6:op=6→q.f.ops≠[])
  (hx:qJ 0 q.f.ss q.f.ts=([x],[])) (hl:q.f.ops=l) (h:Sfx t j (Y1k op::rest)) (R:RunP t false (Y1g (.node ⟨op,0⟩ (l++[x])) 1 ⟨⟨j+1,false⟩,F,G,q.lv,q.base,false⟩) r):RunP t false q r:=by
 have cf:=@close_fol op;have e:Y0j t q=(false,Y2c op 0 1 (qOpd (qU ⟨j+1,false⟩ q))):=by
  rw[Y67 hc hb h (fun y hy=>by simp only[X0r,X0] at hy;rw[←hy];exact cf.2)];unfold qRest;have hx':xpc t [clB op] ⟨j,false⟩=⟨j+1,false⟩:=by rw[clB_close hop];exact xpc_run [Y1k op] h
  rw[ho,Vn,Vn,Vn,if_neg (fun hh=>h6 hh.1 hh.2),Vn,hc,hx']
 refine run_f hc hd e ?_;have e2:Y2c op 0 1 (qOpd (qU ⟨j+1,false⟩ q))=Y1g (.node ⟨op,0⟩ (l++[x])) 1 ⟨⟨j+1,false⟩,F,G,q.lv,q.base,false⟩:=by
  have eo:qOpI (qU ⟨j+1,false⟩ q)=x:=qOpI_of hx;rw[Y2c,Y4a];simp only[qOpd,eo,qU,hF,hl,hd];rw[qOpI_of (q:=⟨⟨j+1,false⟩,G::F,q.f,q.lv,q.base,false⟩) (x:=x) hx]
 rw[e2];exact R
theorem sgn_begin{q:Qs}{j x:Int}{l rest:List Int}(hc:q.c=⟨j,false⟩)(hb:q.base≠0)(hlv:q.lv=l)(h:Sfx t j (l++x::rest)):qSgn t q=qSgB t (qU ⟨j+(l.length:Nat),false⟩ q):=by
 have hbeg:qBegs q=true:=by unfold qBegs;simpa using hb
 unfold qSgn;rw[hbeg,if_neg (by simp),hlv,hc]
 by_cases hl:l=[]
 ·rw[if_pos hl,hl];have:qU ⟨j+(([]:List Int).length:Nat),false⟩ q=q:=by
   simp only[Xj];have:(⟨j+((0:Nat):Int),false⟩:Cu)=q.c:=by rw[hc];simp
   rw[this];rfl
  rw[this]
 ·rw[if_neg hl];have e:=(X1i hl).symm;have h':Sfx t j (l.dropLast++(l.getLast hl::x::rest)):=by
   have:l.dropLast++(l.getLast hl::x::rest)=l++x::rest:=by
    conv=>rhs;rw[e]
    simp
   rw[this];exact h
  have hx:=xpc_run l.dropLast h';have h2:=h'.app;have hg:l.getLastD 0=l.getLast hl:=by rw[List.getLastD_eq_getLast?,List.getLast?_eq_some_getLast hl];rfl
  rw[hx,if_neg (by simp),hg,if_pos ⟨rfl,Sfx.hit h2⟩];have el:l.length=l.dropLast.length+1:=by
   conv=>lhs;rw[e]
   simp
  congr 1;show qU ⟨j+(l.dropLast.length:Nat)+1,false⟩ q=_;rw[el];congr 2;push_cast;omega
theorem sgB_exp{q:Qs}{j op:Int}{rest:List Int}(hc:q.c=⟨j,false⟩)(ho:op=7∨op=8)(h:Sfx t j (expC op::rest)):qSgB t q=(true,qExp op (expC op) q):=by
 unfold qSgB;rw[hc];rcases ho with ho|ho<;>subst ho
 ·have y:hit t 24 ⟨j,false⟩=true:=Sfx.hit h;rw[y,if_pos rfl];rfl
 ·have n:hit t 24 ⟨j,false⟩=false:=Sfx.no h (by simp[expC]);have y:hit t 6 ⟨j,false⟩=true:=Sfx.hit h;rw[n,if_neg (by simp),y,if_pos rfl];rfl
theorem sgn_end{q:Qs}{j x:Int}{l rest:List Int}(hc:q.c=⟨j,false⟩)(ho:q.f.op=7∨q.f.op=8)(hb:q.base=0∨q.base=1)(hlv:q.lv=l++[x])(hx:x=24∨x=6)(h:Sfx t j (l++rest))(hf:Fol rest):
  qSgn t q=(false,Y2c q.f.op 0 0 (qOpd {qU ⟨j+(l.length:Nat),false⟩ q with lv:=l})):=by
 have hends:qEnds q=true:=by
  unfold qEnds;have h1:(q.f.op==7||q.f.op==8)=true:=by
   rcases ho with ho|ho<;>rw[ho]<;>decide
  have h2:(q.base !=2)=true:=by
   rcases hb with hb|hb<;>rw[hb]<;>decide
  rw[h1,h2];rfl
 unfold qSgn;have hd:(l++[x]).dropLast=l:=by simp
 have hg:(l++[x]).getLastD 0=x:=by simp[List.getLastD_eq_getLast?]
 have hx':=xpc_run l h;have hn:hit t x ⟨j+(l.length:Nat),false⟩=false:=Sfx.no h.app (fun he=>by have:=hf x he;unfold FolC at this;omega);rw[hends,if_neg (by simp),hlv,if_neg (by simp),hd,hg,hc,hx',if_neg (by simp),hn,if_neg (by simp)];unfold qEnd;rw[if_pos rfl];have:({qU ⟨j+(l.length:Nat),false⟩ q with lv:=(qU ⟨j+(l.length:Nat),false⟩ q).lv.dropLast}:Qs)={qU ⟨j+(l.length:Nat),false⟩ q with lv:=l}:=by
  have:(qU ⟨j+(l.length:Nat),false⟩ q).lv.dropLast=l:=by show q.lv.dropLast=l;rw[hlv,hd]
  rw[this]
 rw[this]
 rfl
theorem expC_or(o:Int):expC o=24∨expC o=6:=by unfold expC;split<;>simp
theorem pow_tail{a b:Tr}(hb:RdE t b){o bb j:Int}{q:Qs}{rest:List Int}{r:Qs→Prop}(ho:o=7∨o=8)(hd:q.dn=false)(hv:LvOk q.lv)(h:Sfx t j (16::(q.lv++[expC o])++b.cells (q.lv++[expC o])++(16::q.lv)++rest))(hf:Fol rest)(hbb:bb≠0)(hbb2:bb=1∨bb=2)
  (R:RunP t false (Y1g (.node ⟨o,0⟩ [a,b]) 0 (qU ⟨j+((16::(q.lv++[expC o])++b.cells (q.lv++[expC o])++(16::q.lv)).length:Nat),false⟩ q)) r):RunP t false (Y1g a bb (qU ⟨j,false⟩ q)) r:=by
 have ex:=expC_or o;simp only[Xu,Xf,X0d] at h;have h1:=(Sfx.cons h).2.2;have h2:=h1.app;have h3:=(Sfx.cons h2).2.2
 --the exponent begins
 have e1:Y0j t (Y1g a bb (qU ⟨j,false⟩ q))=(true,qExp o (expC o) (Y1g a bb (qU ⟨j+1+(q.lv.length:Nat),false⟩ q))):=by
  unfold Y0j;have y:hit t 16 (Y1g a bb (qU ⟨j,false⟩ q)).c=true:=Sfx.hit h;rw[y,if_pos rfl];rw[sgn_begin (q:=qU (Y1g a bb (qU ⟨j,false⟩ q)).c.adv (Y1g a bb (qU ⟨j,false⟩ q))) (j:=j+1) (l:=q.lv) rfl hbb rfl h1];exact sgB_exp rfl ho h2
 refine run_f rfl hd e1 ?_
 --the exponent
 refine hb.arg (q:=qExp o (expC o) (Y1g a bb (qU ⟨j+1+(q.lv.length:Nat),false⟩ q))) (i:=j+1+(q.lv.length:Nat)+1) (rest:=16::(q.lv++rest)) rfl hd ?_ rfl rfl h3 (Fol.of (Y45 16 (by simp))) fun us rs b3 hb3 hJ _=> ?_
 ·intro y hy;have hy':y∈q.lv++[expC o]:=hy;simp only[Xs,Xh] at hy';rcases hy' with hy'|rfl
  ·exact hv y hy'
  ·exact ex
 ·have h4:=Sfx.app (a:=b.cells (q.lv++[expC o])) h3;have h5:=(Sfx.cons h4).2.2;have elv:(qExp o (expC o) (Y1g a bb (qU ⟨j+1+(q.lv.length:Nat),false⟩ q))).lv=q.lv++[expC o]:=rfl;rw[elv]
  --it ends
  have e2:Y0j t ⟨⟨j+1+(q.lv.length:Nat)+1+((b.cells (q.lv++[expC o])).length:Nat),false⟩,q.f::q.F,⟨o,[a],us,rs,0,0,0⟩,q.lv++[expC o],b3,false⟩=(false,Y2c o 0 0 (qOpd ⟨⟨j+1+(q.lv.length:Nat)+1+((b.cells (q.lv++[expC o])).length:Nat)+1+(q.lv.length:Nat),false⟩,q.f::q.F,⟨o,[a],us,rs,0,0,0⟩,q.lv,b3,false⟩)):=by
   unfold Y0j;have y:hit t 16 (⟨j+1+(q.lv.length:Nat)+1+((b.cells (q.lv++[expC o])).length:Nat),false⟩:Cu)=true:=Sfx.hit h4;simp only[];rw[y,if_pos rfl];exact sgn_end (q:=⟨⟨j+1+(q.lv.length:Nat)+1+((b.cells (q.lv++[expC o])).length:Nat)+1,false⟩,q.f::q.F,⟨o,[a],us,rs,0,0,0⟩,q.lv++[expC o],b3,false⟩) rfl ho hb3 rfl ex h5 hf
  refine run_f rfl rfl e2 ?_;have eo:qOpI (⟨⟨j+1+(q.lv.length:Nat)+1+((b.cells (q.lv++[expC o])).length:Nat)+1+(q.lv.length:Nat),false⟩,q.f::q.F,⟨o,[a],us,rs,0,0,0⟩,q.lv,b3,false⟩:Qs)=b:=qOpI_of hJ;have e3:Y2c o 0 0 (qOpd ⟨⟨j+1+(q.lv.length:Nat)+1+((b.cells (q.lv++[expC o])).length:Nat)+1+(q.lv.length:Nat),false⟩,q.f::q.F,⟨o,[a],us,rs,0,0,0⟩,q.lv,b3,false⟩)=Y1g (.node ⟨o,0⟩ [a,b]) 0 (qU ⟨j+((16::(q.lv++[expC o])++b.cells (q.lv++[expC o])++(16::q.lv)).length:Nat),false⟩ q):=by
   rw[Y2c,qOpd,eo];have ea:j+1+(q.lv.length:Nat)+1+((b.cells (q.lv++[expC o])).length:Nat)+1+(q.lv.length:Nat)=j+((16::(q.lv++[expC o])++b.cells (q.lv++[expC o])++(16::q.lv)).length:Nat):=by
    simp only[Xa,X5,Xj];push_cast;omega
   rw[ea];simp only[Y4a,Y1g,qU,hd,X0d]
  rw[e3];exact R
theorem mat_run{R C:Int}(hR:1≤R∧R≤4)(hC:1≤C∧C≤4){lv:List Int}(hv:LvOk lv){G:Qf}{F:List Qf}{r:Qs→Prop}:∀(ks:List Tr) (T:Tr) (l us:List Tr) (rs:List Int) (c rr e b j:Int) (rest:List Int),(∀k∈ks,RdE t k)→(b=0∨b=1)→qJ 0 rs us=([T],[])→
  (l.length:Int)=C*rr+e→0≤e→e<C→0≤rr→rr<R→(c=if rr=0 then 0 else C)→(l.length:Int)+1+(ks.length:Nat)=R*C→Sfx t j (Y07 lv ⟨13,8*R+C⟩ (l.length+1) ks++43::rest)→
  RunP t false (Y1g (.node ⟨13,8*R+C⟩ (l++T::ks)) 1 ⟨⟨j+((Y07 lv ⟨13,8*R+C⟩ (l.length+1) ks).length:Nat)+1,false⟩,F,G,lv,b,false⟩) r→RunP t false ⟨⟨j,false⟩,G::F,⟨13,l,us,rs,c,rr,e⟩,lv,b,false⟩ r
 |[],T,l,us,rs,c,rr,e,b,j,rest,hk,hb,hJ,hl,e0,eC,r0,rR,hc,hlen,hs,Rn=>by
  rw[Y07,X04] at hs;have e1:C*rr+e+1=R*C:=by simp only[Xj] at hlen;omega
  have hrr:rr+1=R∧e+1=C:=by
   have h1:R=1∨R=2∨R=3∨R=4:=by omega
   have h2:C=1∨C=2∨C=3∨C=4:=by omega
   rcases h1 with h1|h1|h1|h1<;>rcases h2 with h2|h2|h2|h2<;>subst h1<;>subst h2<;>omega
  have n32:hit t 32 ⟨j,false⟩=false:=Sfx.no hs (by simp);have n51:hit t 51 ⟨j,false⟩=false:=Sfx.no hs (by simp);have hx:xpc t [43] ⟨j,false⟩=⟨j+1,false⟩:=xpc_run [43] hs;have ef:Y0j t ⟨⟨j,false⟩,G::F,⟨13,l,us,rs,c,rr,e⟩,lv,b,false⟩=(false,Y2c 13 (8*(rr+1)+(e+1)) 1 (qOpd (qRow (qU ⟨j+1,false⟩ ⟨⟨j,false⟩,G::F,⟨13,l,us,rs,c,rr,e⟩,lv,b,false⟩)))):=by
   rw[Y67 rfl hb hs (fun y hy=>by simp only[X0r,X0] at hy;omega)];unfold qRest Y3q;simp only[];rw[Vn,Vn,if_pos trivial,n32,if_neg (by simp),if_neg (by
    intro hh;rw[hc] at hh
    split at hh
    ·exact hh.1 rfl
    ·omega),n51,if_neg (by simp),hx]
  refine run_f rfl rfl ef ?_;have eo:qOpI (qRow (qU ⟨j+1,false⟩ ⟨⟨j,false⟩,G::F,⟨13,l,us,rs,c,rr,e⟩,lv,b,false⟩))=T:=qOpI_of hJ;have e2:Y2c 13 (8*(rr+1)+(e+1)) 1 (qOpd (qRow (qU ⟨j+1,false⟩ ⟨⟨j,false⟩,G::F,⟨13,l,us,rs,c,rr,e⟩,lv,b,false⟩)))=Y1g (.node ⟨13,8*R+C⟩ (l++[T])) 1 ⟨⟨j+((Y07 lv ⟨13,8*R+C⟩ (l.length+1) []).length:Nat)+1,false⟩,F,G,lv,b,false⟩:=by
   rw[Y2c,qOpd,eo,hrr.1,hrr.2,Y07];simp[Y4a,Y1g,qU,qRow]
  rw[e2];exact Rn
 |k::ks,T,l,us,rs,c,rr,e,b,j,rest,hk,hb,hJ,hl,e0,eC,r0,rR,hc,hlen,hs,Rn=>by
  have hlen':(l.length:Int)+1+((ks.length:Nat)+1)=R*C:=by simp only[Xa] at hlen;push_cast at hlen;omega
  rw[Y07] at hs;have hmod:((l.length+1:Nat):Int)%((8*R+C)%8)=if e+1=C then 0 else e+1:=by
   have e3:(8*R+C)%8=C:=by omega
   rw[e3];have e4:((l.length+1:Nat):Int)=e+1+C*rr:=by push_cast;omega
   rw[e4,Int.add_mul_emod_self_left]
   split
   ·rename_i h;rw[h];exact Int.emod_self
   ·exact X14 (by omega) (by omega)
  have hsep:sepC ⟨13,8*R+C⟩ (l.length+1)=if e+1=C then[51] else[32]:=by
   unfold sepC;rw[Vn,if_neg (by simp),if_pos rfl];simp only[] at hmod⊢;rw[hmod]
   by_cases h:e+1=C
   ·rw[if_pos h,if_pos h,if_pos rfl]
   ·rw[if_neg h,if_neg h,Vn]
  rw[hsep] at hs
  --what follows an entry
  have hfol:Fol (Y07 lv ⟨13,8*R+C⟩ (l.length+1+1) ks++43::rest):=by
   cases ks with
   |nil=>rw[Y07];exact Fol.of (Y45 43 (by simp))
   |cons k2 ks=>
    rw[Y07];unfold sepC;rw[Vn,if_neg (by simp),if_pos rfl]
    split
    ·exact Fol.of (Y45 51 (by simp))
    ·exact Fol.of (Y45 32 (by simp))
  have enc:Y07 lv ⟨13,8*R+C⟩ (l.length+1) (k::ks)=sepC ⟨13,8*R+C⟩ (l.length+1)++k.cells lv++Y07 lv ⟨13,8*R+C⟩ (l.length+1+1) ks:=by rw[Y07]
  rw[enc,hsep] at Rn;have ell:(l++[T]).length=l.length+1:=by simp
  have eap:l++T::k::ks=(l++[T])++k::ks:=by simp
  rw[eap] at Rn
  by_cases he:e+1=C
  ·rw[if_pos he] at hs Rn;simp only[X0d,Xu,Xf] at hs;have h1:=(Sfx.cons hs).2.2;have n32:hit t 32 ⟨j,false⟩=false:=Sfx.no hs (by simp);have y51:hit t 51 ⟨j,false⟩=true:=Sfx.hit hs;have hr4:rr+1<R:=by
    have h1:R=1∨R=2∨R=3∨R=4:=by omega
    have h2:C=1∨C=2∨C=3∨C=4:=by omega
    rcases h1 with h1|h1|h1|h1<;>rcases h2 with h2|h2|h2|h2<;>subst h1<;>subst h2<;>omega
   have ef:Y0j t ⟨⟨j,false⟩,G::F,⟨13,l,us,rs,c,rr,e⟩,lv,b,false⟩=(true,qOpd (qRow (qU ⟨j+1,false⟩ ⟨⟨j,false⟩,G::F,⟨13,l,us,rs,c,rr,e⟩,lv,b,false⟩))):=by
    rw[Y67 rfl hb hs (fun y hy=>by simp only[X0r,X0] at hy;omega)];unfold qRest Y3q;simp only[];rw[Vn,Vn,if_pos trivial,n32,if_neg (by simp),if_neg (by
     intro hh;rw[hc] at hh
     split at hh
     ·exact hh.1 rfl
     ·omega),y51,if_pos ⟨by omega,rfl⟩]
    rfl
   refine run_f rfl rfl ef ?_;have eo:qOpI (qRow (qU ⟨j+1,false⟩ ⟨⟨j,false⟩,G::F,⟨13,l,us,rs,c,rr,e⟩,lv,b,false⟩))=T:=qOpI_of hJ;have e2:qOpd (qRow (qU ⟨j+1,false⟩ ⟨⟨j,false⟩,G::F,⟨13,l,us,rs,c,rr,e⟩,lv,b,false⟩))=⟨⟨j+1,false⟩,G::F,⟨13,l++[T],[],[],C,rr+1,0⟩,lv,b,false⟩:=by
    rw[qOpd,eo, ←he]
    rfl
   rw[e2];refine(hk k (by simp)).arg (i:=j+1) rfl rfl hv rfl rfl h1 hfol fun us2 rs2 b2 hb2 hJ2 _=> ?_;refine mat_run hR hC hv ks k (l++[T]) us2 rs2 C (rr+1) 0 b2 _ rest (fun x hx=>hk x (by simp[hx])) hb2 hJ2 (by
    rw[ell,Int.mul_add];push_cast;omega) (by omega) (by omega) (by omega) hr4 (by rw[Vn]) (by rw[ell];push_cast;omega) (by rw[ell];exact Sfx.app (a:=k.cells lv) h1) ?_
   rw[ell];have ea:j+1+((k.cells lv).length:Nat)+((Y07 lv ⟨13,8*R+C⟩ (l.length+1+1) ks).length:Nat)+1=j+(([51]++k.cells lv++Y07 lv ⟨13,8*R+C⟩ (l.length+1+1) ks).length:Nat)+1:=by
    simp only[X5,Xk];push_cast;omega
   show RunP t false (Y1g _ 1 ⟨⟨j+1+((k.cells lv).length:Nat)+_+1,false⟩,F,G,lv,b2,false⟩) r;rw[ea];exact Rn
  ·rw[if_neg he] at hs Rn;simp only[X0d,Xu,Xf] at hs;have h1:=(Sfx.cons hs).2.2;have y32:hit t 32 ⟨j,false⟩=true:=Sfx.hit hs;have ef:Y0j t ⟨⟨j,false⟩,G::F,⟨13,l,us,rs,c,rr,e⟩,lv,b,false⟩=(true,qOpd {qU ⟨j+1,false⟩ (⟨⟨j,false⟩,G::F,⟨13,l,us,rs,c,rr,e⟩,lv,b,false⟩:Qs) with f:=⟨13,l,us,rs,c,rr,e+1⟩}):=by
    rw[Y67 rfl hb hs (fun y hy=>by simp only[X0r,X0] at hy;omega)];unfold qRest Y3q;simp only[];rw[Vn,Vn,if_pos trivial,y32,if_pos ⟨by
     rw[hc]
     split
     ·split<;>omega
     ·split<;>omega,rfl⟩]
    rfl
   refine run_f rfl rfl ef ?_;have eo:qOpI ({qU ⟨j+1,false⟩ (⟨⟨j,false⟩,G::F,⟨13,l,us,rs,c,rr,e⟩,lv,b,false⟩:Qs) with f:=⟨13,l,us,rs,c,rr,e+1⟩})=T:=qOpI_of hJ;have e2:qOpd {qU ⟨j+1,false⟩ (⟨⟨j,false⟩,G::F,⟨13,l,us,rs,c,rr,e⟩,lv,b,false⟩:Qs) with f:=⟨13,l,us,rs,c,rr,e+1⟩}=⟨⟨j+1,false⟩,G::F,⟨13,l++[T],[],[],c,rr,e+1⟩,lv,b,false⟩:=by
    rw[qOpd,eo]
    rfl
   rw[e2];refine(hk k (by simp)).arg (i:=j+1) rfl rfl hv rfl rfl h1 hfol fun us2 rs2 b2 hb2 hJ2 _=> ?_;refine mat_run hR hC hv ks k (l++[T]) us2 rs2 c rr (e+1) b2 _ rest (fun x hx=>hk x (by simp[hx])) hb2 hJ2 (by
    rw[ell];push_cast;omega) (by omega) (by omega) (by omega) rR hc (by rw[ell];push_cast;omega) (by rw[ell];exact Sfx.app (a:=k.cells lv) h1) ?_
   rw[ell];have ea:j+1+((k.cells lv).length:Nat)+((Y07 lv ⟨13,8*R+C⟩ (l.length+1+1) ks).length:Nat)+1=j+(([32]++k.cells lv++Y07 lv ⟨13,8*R+C⟩ (l.length+1+1) ks).length:Nat)+1:=by
    simp only[X5,Xk];push_cast;omega
   show RunP t false (Y1g _ 1 ⟨⟨j+1+((k.cells lv).length:Nat)+_+1,false⟩,F,G,lv,b2,false⟩) r;rw[ea];exact Rn
end
section
variable {t:List Int}
theorem num_A{n:Int}(h0:0≤n)(h9:n≤99999):RdA t (numT n):=by
 intro q i rest r hc hd hv hs hf R;have ec:(numT n).cells q.lv=60::digs n:=by rw[numT,Y1z,if_pos rfl]
 rw[ec] at hs R;have h1:=(Sfx.cons hs).2.2;have⟨n1,n2⟩:=numb_run h0 h9 h1 hf;have e:Y1s t q=(false,Y1g (numT n) 1 (qU ⟨i+1+((digs n).length:Nat),false⟩ q)):=by
  unfold Y1s;rw[hc,if_pos (Sfx.hit hs)];show(false,Y1g (numT (numN t ⟨i+1,false⟩)) 1 (qU (numU t ⟨i+1,false⟩) q))=_;rw[n1,n2]
 refine run_b hc hd e ?_;have eb:bsO (opn (numT n))=1:=rfl;rw[eb] at R;have ea:i+1+((digs n).length:Nat)=i+((60::digs n).length:Nat):=by simp only[Xa];push_cast;omega
 rw[ea];exact R
theorem var_A{n:Int}(h0:0≤n)(h9:n≤25):RdA t (.node ⟨1,n⟩ []):=by
 intro q i rest r hc hd hv hs hf R;have ec:(Tr.node ⟨1,n⟩ []).cells q.lv=[48,Y9.getD n.toNat 0]:=by rw[Y1z,if_neg (by simp),if_pos rfl]
 rw[ec] at hs R;have h1:=(Sfx.cons hs).2.2;have h2:=(Sfx.cons h1);have hfi:chrI t 26 ⟨i+1,false⟩=n:=by
  rw[chr_run h1,let_find n.toNat (by omega)];omega
 have e:Y1s t q=(false,Y1g (.node ⟨1,n⟩ []) 1 (qU ⟨i+2,false⟩ q)):=by
  unfold Y1s;have no:hit t 60 ⟨i,false⟩=false:=Sfx.no hs (by simp);rw[hc,no,if_neg (by simp),if_pos (Sfx.hit hs)];show(false,Y1g (.node ⟨1,chrI t 26 ⟨i+1,false⟩⟩ []) 1 (qU (if chrI t 26 ⟨i+1,false⟩<0 then _ else(⟨i+1+1,false⟩:Cu)) q))=_;rw[hfi,Vn,show i+1+1=i+2 by omega]
 refine run_b hc hd e ?_;have eb:bsO (opn (.node ⟨1,n⟩ []))=1:=rfl;rw[eb] at R;exact R
theorem sum_A{m0 z:Int}{ms:List Int}(hm:∀m∈m0::ms,0≤m∧m≤99999)(hz:0≤z∧z≤99999)(h1:1≤ms.length)(h4:ms.length≤4):RdA t (.node ⟨12,((ms.length+1:Nat):Int)⟩ ((m0::ms++[z]).map numT)):=by
 intro q i rest r hc hd hv hs hf R;have cn:∀(l:List Int) (m:Int),(numT m).cells l=60::digs m:=fun l m=>by rw[numT,Y1z,if_pos rfl]
 have kids:∀(l:List Int) (N:Int) (ms:List Int) (k:Nat),1≤k→(k:Int)+(ms.length:Nat)=N→Y07 l ⟨12,N⟩ k ((ms++[z]).map numT)=nums 32 ms++51::60::digs z:=by
  intro l N ms
  induction ms with
  |nil=>
   intro k hk hN;simp only[X04,Xw,X10];rw[Y07,Y07,cn];unfold sepC;rw[Vn,if_pos rfl,if_pos (by simpa using hN)];simp[nums]
  |cons m ms ih=>
   intro k hk hN;simp only[Xu,Xw];rw[Y07,cn,ih (k+1) (by omega) (by simp only[Xa] at hN;push_cast at hN⊢;omega)];unfold sepC;rw[Vn,if_pos rfl,if_neg (by show ¬((k:Int)=N);simp only[Xa] at hN;push_cast at hN;omega)];simp[nums]
 have ec:(Tr.node ⟨12,((ms.length+1:Nat):Int)⟩ ((m0::ms++[z]).map numT)).cells q.lv=56::60::(digs m0++(nums 32 ms++51::60::(digs z++[34]))):=by
  rw[Y1z,if_neg (by simp),if_neg (by simp),if_neg (by simp),if_neg (by simp)];simp only[Xu,Xw];rw[Y07,cn,kids q.lv _ ms 1 (by omega) (by push_cast;omega)];simp[sepC,Y5y,Y1k]
 rw[ec] at hs R;simp only[Xu,Xf,X0d,X04] at hs;have h2:=(Sfx.cons hs).2.2;have⟨s1,s2⟩:=sum_run hm hz h1 h4 h2;have e:Y1s t q=(false,Y1g (.node ⟨12,((ms.length+1:Nat):Int)⟩ ((m0::ms++[z]).map numT)) 1 (qU ⟨i+1+((60::(digs m0++(nums 32 ms++51::60::(digs z++[34])))).length:Nat),false⟩ q)):=by
  unfold Y1s;have no:∀c:Int,c≠56→hit t c ⟨i,false⟩=false:=fun c hc'=>Sfx.no hs (by simpa using fun e=>hc' e.symm);rw[hc,no 60 (by decide),if_neg (by simp),no 48 (by decide),if_neg (by simp),no 35 (by decide),if_neg (by simp),if_pos (Sfx.hit hs)];show(false,Y1g (sumT t ⟨i+1,false⟩) 1 (qU (sumU t ⟨i+1,false⟩) q))=_;rw[s1,s2]
 refine run_b hc hd e ?_;have eb:bsO (opn (.node ⟨12,((ms.length+1:Nat):Int)⟩ ((m0::ms++[z]).map numT)))=1:=rfl;rw[eb] at R;have ea:i+1+((60::(digs m0++(nums 32 ms++51::60::(digs z++[34])))).length:Nat)=i+((56::60::(digs m0++(nums 32 ms++51::60::(digs z++[34])))).length:Nat):=by
  simp only[Xa];push_cast;omega
 rw[ea];exact R
theorem one_A{op:Int}(ho:op=9∨op=10∨op=11){a:Tr}(ha:RdE t a):RdA t (.node ⟨op,0⟩ [a]):=by
 intro q i rest r hc hd hv hs hf R;have ec:(Tr.node ⟨op,0⟩ [a]).cells q.lv=Y5y op::(a.cells q.lv++[Y1k op]):=by
  rw[Y1z,if_neg (by show ¬op=0;omega),if_neg (by show ¬op=1;omega),if_neg (by show ¬op≤5;omega),if_neg (by show ¬(op=7∨op=8);omega),Y07,Y07];simp[sepC]
 rw[ec] at hs R;simp only[Xu,Xf,X0d] at hs;have h1:=(Sfx.cons hs).2.2;refine run_b hc hd (begin_open hc (by omega) hs)<|ha.arg (q:=Y57 op [] (qU ⟨i+1,false⟩ q)) (i:=i+1) rfl hd hv rfl rfl h1 (Fol.of close_fol.1) fun us rs b hb hJ _=> ?_;have h2:=Sfx.app (a:=a.cells q.lv) h1;refine close_run (op:=op) (l:=[]) rfl rfl hb rfl rfl (by omega) (by omega) hJ rfl h2 ?_;have eb:bsO (opn (.node ⟨op,0⟩ [a]))=1:=by unfold bsO opn;rw[if_neg (by simp only;omega)]
 rw[eb] at R;have ea:i+1+((a.cells q.lv).length:Nat)+1=i+((Y5y op::(a.cells q.lv++[Y1k op])).length:Nat):=by
  simp only[Xa,X5,Xj];push_cast;omega
 show RunP t false (Y1g _ 1 ⟨⟨i+1+((a.cells q.lv).length:Nat)+1,false⟩,q.F,q.f,q.lv,b,false⟩) r;rw[ea];have:Y1g (Tr.node ⟨op,0⟩ ([]++[a])) 1 ⟨⟨i+((Y5y op::(a.cells q.lv++[Y1k op])).length:Nat),false⟩,q.F,q.f,q.lv,b,false⟩=Y1g (Tr.node ⟨op,0⟩ [a]) 1 (qU ⟨i+((Y5y op::(a.cells q.lv++[Y1k op])).length:Nat),false⟩ q):=by
  simp only[Y1g,qU,hd,X04]
 rw[this];exact R
theorem frac_A{a b:Tr}(ha:RdE t a)(hb:RdE t b):RdA t (.node ⟨6,0⟩ [a,b]):=by
 intro q i rest r hc hd hv hs hf R;have ec:(Tr.node ⟨6,0⟩ [a,b]).cells q.lv=57::(a.cells q.lv++12::(b.cells q.lv++[47])):=by
  rw[Y1z,if_neg (by simp),if_neg (by simp),if_neg (by simp),if_neg (by simp),Y07,Y07,Y07];simp[sepC,Y5y,Y1k]
 rw[ec] at hs R;simp only[Xu,Xf,X0d,X04] at hs;have h1:=(Sfx.cons hs).2.2;refine run_b hc hd (begin_open (op:=6) hc (by omega) hs)<|ha.arg (q:=Y57 6 [] (qU ⟨i+1,false⟩ q)) (i:=i+1) rfl hd hv rfl rfl h1 (Fol.of (Y45 12 (by simp))) fun us rs b1 hb1 hJ _=> ?_;have h2:=Sfx.app (a:=a.cells q.lv) h1;have hx:xpc t [12] ⟨i+1+((a.cells q.lv).length:Nat),false⟩=⟨i+1+((a.cells q.lv).length:Nat)+1,false⟩:=xpc_run [12] h2;have ef:Y0j t ⟨⟨i+1+((a.cells q.lv).length:Nat),false⟩,q.f::q.F,⟨6,[],us,rs,0,0,0⟩,q.lv,b1,false⟩=(true,qOpd ⟨⟨i+1+((a.cells q.lv).length:Nat)+1,false⟩,q.f::q.F,⟨6,[],us,rs,0,0,0⟩,q.lv,b1,false⟩):=by
  rw[Y67 rfl hb1 h2 (fun y hy=>by simp only[X0r,X0] at hy;omega)];unfold qRest;simp only[];rw[Vn,Vn,Vn,if_pos ⟨trivial,trivial⟩,hx]
  rfl
 refine run_f rfl rfl ef ?_;have eo:qOpd ⟨⟨i+1+((a.cells q.lv).length:Nat)+1,false⟩,q.f::q.F,⟨6,[],us,rs,0,0,0⟩,q.lv,b1,false⟩=⟨⟨i+1+((a.cells q.lv).length:Nat)+1,false⟩,q.f::q.F,⟨6,[a],[],[],0,0,0⟩,q.lv,b1,false⟩:=by
  rw[qOpd,qOpI_of (x:=a) hJ];rfl
 rw[eo];have h3:=(Sfx.cons h2).2.2;refine hb.arg (i:=i+1+((a.cells q.lv).length:Nat)+1) rfl rfl hv rfl rfl h3 (Fol.of (Y45 47 (by simp))) fun us2 rs2 b2 hb2 hJ2 _=> ?_;have h4:=Sfx.app (a:=b.cells q.lv) h3;refine close_run (op:=6) (l:=[a]) rfl rfl hb2 rfl rfl (by omega) (by simp) hJ2 rfl h4 ?_;have eb:bsO (opn (.node ⟨6,0⟩ [a,b]))=1:=rfl;rw[eb] at R;have ea:i+1+((a.cells q.lv).length:Nat)+1+((b.cells q.lv).length:Nat)+1=i+((57::(a.cells q.lv++12::(b.cells q.lv++[47]))).length:Nat):=by
  simp only[Xa,X5,Xj];push_cast;omega
 show RunP t false (Y1g _ 1 ⟨⟨i+1+((a.cells q.lv).length:Nat)+1+((b.cells q.lv).length:Nat)+1,false⟩,q.F,q.f,q.lv,b2,false⟩) r;rw[ea];have:Y1g (Tr.node ⟨6,0⟩ ([a]++[b])) 1 ⟨⟨i+((57::(a.cells q.lv++12::(b.cells q.lv++[47]))).length:Nat),false⟩,q.F,q.f,q.lv,b2,false⟩=Y1g (Tr.node ⟨6,0⟩ [a,b]) 1 (qU ⟨i+((57::(a.cells q.lv++12::(b.cells q.lv++[47]))).length:Nat),false⟩ q):=by
  simp only[Y1g,qU,hd,X0d]
 rw[this];exact R
theorem mat_A{R C:Int}(hR:1≤R∧R≤4)(hC:1≤C∧C≤4){a:Tr}{ks:List Tr}(ha:RdE t a)(hk:∀k∈ks,RdE t k)(hl:(1:Int)+(ks.length:Nat)=R*C):RdA t (.node ⟨13,8*R+C⟩ (a::ks)):=by
 intro q i rest r hc hd hv hs hf Rn;have ec:(Tr.node ⟨13,8*R+C⟩ (a::ks)).cells q.lv=41::(a.cells q.lv++(Y07 q.lv ⟨13,8*R+C⟩ 1 ks++[43])):=by
  rw[Y1z,if_neg (by simp),if_neg (by simp),if_neg (by simp),if_neg (by simp),Y07];simp[sepC,Y5y,Y1k]
 rw[ec] at hs Rn;simp only[Xu,Xf,X0d,X04] at hs;have h1:=(Sfx.cons hs).2.2;refine run_b hc hd (begin_open (op:=13) hc (by omega) hs) ?_;have hfol:Fol (Y07 q.lv ⟨13,8*R+C⟩ 1 ks++43::rest):=by
  cases ks with
  |nil=>rw[Y07];exact Fol.of (Y45 43 (by simp))
  |cons k2 ks=>
   rw[Y07];unfold sepC;rw[Vn,if_neg (by simp),if_pos rfl]
   split
   ·exact Fol.of (Y45 51 (by simp))
   ·exact Fol.of (Y45 32 (by simp))
 refine ha.arg (q:=Y57 13 [] (qU ⟨i+1,false⟩ q)) (i:=i+1) rfl hd hv rfl rfl h1 hfol fun us rs b hb hJ _=> ?_;have h2:=Sfx.app (a:=a.cells q.lv) h1;refine mat_run hR hC hv ks a [] us rs 0 0 0 b _ rest hk hb hJ (by simp) (by omega) (by omega) (by omega) (by omega) (by simp) (by simp;omega) h2 ?_;have eb:bsO (opn (.node ⟨13,8*R+C⟩ (a::ks)))=1:=rfl;rw[eb] at Rn;have ea:i+1+((a.cells q.lv).length:Nat)+((Y07 q.lv ⟨13,8*R+C⟩ (([]:List Tr).length+1) ks).length:Nat)+1=i+((41::(a.cells q.lv++(Y07 q.lv ⟨13,8*R+C⟩ 1 ks++[43]))).length:Nat):=by
  simp only[Xa,X5,Xj];push_cast;omega
 show RunP t false (Y1g _ 1 ⟨⟨i+1+((a.cells q.lv).length:Nat)+((Y07 q.lv ⟨13,8*R+C⟩ (([]:List Tr).length+1) ks).length:Nat)+1,false⟩,q.F,q.f,q.lv,b,false⟩) r;rw[ea];have:Y1g (Tr.node ⟨13,8*R+C⟩ ([]++a::ks)) 1 ⟨⟨i+((41::(a.cells q.lv++(Y07 q.lv ⟨13,8*R+C⟩ 1 ks++[43]))).length:Nat),false⟩,q.F,q.f,q.lv,b,false⟩=Y1g (Tr.node ⟨13,8*R+C⟩ (a::ks)) 1 (qU ⟨i+((41::(a.cells q.lv++(Y07 q.lv ⟨13,8*R+C⟩ 1 ks++[43]))).length:Nat),false⟩ q):=by
  simp only[Y1g,qU,hd,X04]
 rw[this];exact Rn
theorem simO_eq{o:Int}(h:0≤o∧o≤13):simO o=Y5v o:=by
 have:o=0∨o=1∨o=2∨o=3∨o=4∨o=5∨o=6∨o=7∨o=8∨o=9∨o=10∨o=11∨o=12∨o=13:=by omega
 rcases this with h|h|h|h|h|h|h|h|h|h|h|h|h|h<;>subst h<;>decide
theorem pow_A{o:Int}(ho:o=7∨o=8){a b:Tr}(ha:RdE t a)(ha4:pr (opn a)=4→RdA t a)(hb:RdE t b)(hr:0≤opn a∧opn a≤13):RdA t (.node ⟨o,0⟩ [a,b]):=by
 intro q i rest r hc hd hv hs hf R;have eb:bsO (opn (.node ⟨o,0⟩ [a,b]))=0:=by unfold bsO opn;rw[if_pos (by simp only;omega)]
 rw[eb] at R;have ex:(Tr.node ⟨o,0⟩ [a,b]).cells q.lv=powC q.lv (expC o) [a,b]:=by
  rw[Y1z,if_neg (by show ¬o=0;omega),if_neg (by show ¬o=1;omega),if_neg (by show ¬o≤5;omega),if_pos (by show o=7∨o=8;omega)]
 rw[ex,powC_eq,opn_hd] at hs R
 by_cases hsim:Y5v (opn a)=true
 ·rw[if_pos hsim] at hs R;have h16:Fol (16::(q.lv++[expC o])++b.cells (q.lv++[expC o])++(16::q.lv)++rest):=Fol.of (Y45 16 (by simp));have hs':Sfx t i (a.cells q.lv++(16::(q.lv++[expC o])++b.cells (q.lv++[expC o])++(16::q.lv)++rest)):=by
   simpa only[Xf] using hs
  have hno:¬(2≤opn a∧opn a≤5)∧¬(opn a=7∨opn a=8):=by
   unfold Y5v at hsim;have:=of_decide_eq_true hsim;omega
  refine ha4 (pr_four hno.1) q i _ r hc hd hv hs' h16 ?_;have e1:bsO (opn a)=1:=by unfold bsO;rw[if_neg hno.2]
  rw[e1];refine pow_tail hb ho hd hv hs'.app hf (by omega) (.inl rfl) ?_;have ea:i+((a.cells q.lv).length:Nat)+((16::(q.lv++[expC o])++b.cells (q.lv++[expC o])++(16::q.lv)).length:Nat)=i+((a.cells q.lv++(16::(q.lv++[expC o]))++b.cells (q.lv++[expC o])++(16::q.lv)).length:Nat):=by
   simp only[X5,Xa,Xj];push_cast;omega
  rw[ea];exact R
 ·rw[if_neg hsim] at hs R;have hs':Sfx t i (35::(a.cells q.lv++(50::(16::(q.lv++[expC o])++b.cells (q.lv++[expC o])++(16::q.lv)++rest)))):=by
   simpa only[Xf,Xu,X0d,X04] using hs
  have e1:Y1s t q=(true,Y57 (-2) [] (qU ⟨i+1,false⟩ q)):=by
   unfold Y1s;have no:∀c:Int,c≠35→hit t c ⟨i,false⟩=false:=fun c hc'=>Sfx.no hs' (by simpa using fun e=>hc' e.symm);rw[hc,no 60 (by decide),if_neg (by simp),no 48 (by decide),if_neg (by simp),if_pos (Sfx.hit hs')]
   rfl
  refine run_b hc hd e1 ?_;have h1:=(Sfx.cons hs').2.2;refine ha.arg (q:=Y57 (-2) [] (qU ⟨i+1,false⟩ q)) (i:=i+1) rfl hd hv rfl rfl h1 (Fol.of (Y45 50 (by simp))) fun us rs b1 hb1 hJ hJ0=> ?_;have h2:=Sfx.app (a:=a.cells q.lv) h1;have ef:Y0j t ⟨⟨i+1+((a.cells q.lv).length:Nat),false⟩,q.f::q.F,⟨-2,[],us,rs,0,0,0⟩,q.lv,b1,false⟩=(false,Y1g a 2 (qU ⟨i+1+((a.cells q.lv).length:Nat)+1,false⟩ q)):=by
   rw[Y67 rfl hb1 h2 (fun y hy=>by simp only[X0r,X0] at hy;omega)];unfold qRest Y59;simp only[];have y50:hit t 50 ⟨i+1+((a.cells q.lv).length:Nat),false⟩=true:=Sfx.hit h2;rw[Vn,if_pos trivial,y50,if_neg (by
    rintro(⟨h3,h4⟩|h3)
    ·rw[hJ0 h3] at h4;have h4':simO (opn a)=true:=h4;rw[simO_eq hr] at h4';exact hsim h4'
    ·cases h3)]
   have eo:qOpI (⟨⟨i+1+((a.cells q.lv).length:Nat),false⟩,q.f::q.F,⟨-2,[],us,rs,0,0,0⟩,q.lv,b1,false⟩:Qs)=a:=qOpI_of hJ;rw[eo];simp only[Y4a,qU,Y1g,Cu.adv,hd]
  refine run_f rfl rfl ef ?_;have h3:=(Sfx.cons h2).2.2;refine pow_tail hb ho hd hv h3 hf (by omega) (.inr rfl) ?_;have ea:i+1+((a.cells q.lv).length:Nat)+1+((16::(q.lv++[expC o])++b.cells (q.lv++[expC o])++(16::q.lv)).length:Nat)=i+((35::(a.cells q.lv++[50])++(16::(q.lv++[expC o]))++b.cells (q.lv++[expC o])++(16::q.lv)).length:Nat):=by
   simp only[X5,Xa,Xj];push_cast;omega
  rw[ea];exact R
theorem bin_E{o:Int}(ho:2≤o∧o≤5){a b:Tr}(ha:RdE t a)(hb:RdE t b)(h1:pr o≤pr (opn a))(h2:pr o<pr (opn b)):RdE t (.node ⟨o,0⟩ [a,b]):=by
 intro q i rest r p hc hd hv hp hh hpo hs hf K;have lp:=lprec_pr ho;have hopn:opn (.node ⟨o,0⟩ [a,b])=o:=rfl;rw[hopn] at hpo K;have ec:(Tr.node ⟨o,0⟩ [a,b]).cells q.lv=a.cells q.lv++(signC o++b.cells q.lv):=by
  rw[Y1z,if_neg (by show ¬o=0;omega),if_neg (by show ¬o=1;omega),if_pos (by show o≤5;omega),binC_eq,Xf]
 rw[ec] at hs K;simp only[Xf] at hs;have⟨c0,cs,esg,hc0⟩:∃c0 cs,signC o=c0::cs∧((o=2∧c0=44∧cs=[])∨(o=3∧c0=36∧cs=[])∨(o=4∧c0=33∧cs=[])∨(o=5∧c0=0∧cs=[54,0])):=by
  have:o=2∨o=3∨o=4∨o=5:=by omega
  rcases this with h|h|h|h<;>subst h
  ·exact⟨44,[],rfl,by simp⟩
  ·exact⟨36,[],rfl,by simp⟩
  ·exact⟨33,[],rfl,by simp⟩
  ·exact⟨0,[54,0],rfl,by simp⟩
 have hs1:Sfx t i (a.cells q.lv++(c0::(cs++(b.cells q.lv++rest)))):=by
  rw[esg] at hs;simpa only[Xu,Xf] using hs
 have hfc:FolC c0:=Y45 c0 (by
  have:c0=44∨c0=36∨c0=33∨c0=0:=by omega
  simp only[Xm];omega)
 refine ha q i _ r p hc hd hv hp hh (by omega) hs1 (Fol.of hfc) fun us rs b1 hb1 hJ=> ?_;have h3:=hs1.app;have h4:=(Sfx.cons h3).2.2;have hxs:=xpc_run cs h4;have ef:Y0j t ⟨⟨i+((a.cells q.lv).length:Nat),false⟩,q.F,{q.f with ts:=us,ss:=rs},q.lv,b1,false⟩=(true,qSign o (qU ⟨i+((a.cells q.lv).length:Nat)+1+(cs.length:Nat),false⟩ ⟨⟨i+((a.cells q.lv).length:Nat),false⟩,q.F,{q.f with ts:=us,ss:=rs},q.lv,b1,false⟩)):=by
  have no:∀c:Int,c≠c0→hit t c ⟨i+((a.cells q.lv).length:Nat),false⟩=false:=fun c hc'=>Sfx.no h3 (by simpa using fun e=>hc' e.symm);have yes:=Sfx.hit h3;unfold Y0j;simp only[];rcases hc0 with⟨rfl,rfl,rfl⟩|⟨rfl,rfl,rfl⟩|⟨rfl,rfl,rfl⟩|⟨rfl,rfl,rfl⟩
  ·rw[no 16 (by decide),if_neg (by simp),Vn,yes,if_pos rfl];simp only[Xj,qU,Cu.adv];simp
  ·rw[no 16 (by decide),if_neg (by simp),Vn,no 44 (by decide),if_neg (by simp),yes,if_pos rfl];simp only[Xj,qU,Cu.adv];simp
  ·rw[no 16 (by decide),if_neg (by simp),Vn,no 44 (by decide),if_neg (by simp),no 36 (by decide),if_neg (by simp),yes,if_pos rfl];simp only[Xj,qU,Cu.adv];simp
  ·rw[no 16 (by decide),if_neg (by simp),Vn,no 44 (by decide),if_neg (by simp),no 36 (by decide),if_neg (by simp),no 33 (by decide),if_neg (by simp),yes,if_pos rfl];show(true,qSign 5 (qU (xpc t [54,0] ⟨i+((a.cells q.lv).length:Nat)+1,false⟩) _))=_;rw[hxs]
 refine run_f rfl rfl ef ?_;have hJo:=hJ (pr o) (by omega) h1;have es:qSign o (qU ⟨i+((a.cells q.lv).length:Nat)+1+(cs.length:Nat),false⟩ ⟨⟨i+((a.cells q.lv).length:Nat),false⟩,q.F,{q.f with ts:=us,ss:=rs},q.lv,b1,false⟩)=⟨⟨i+((a.cells q.lv).length:Nat)+1+(cs.length:Nat),false⟩,q.F,{q.f with ts:=a::q.f.ts,ss:=o::q.f.ss},q.lv,b1,false⟩:=by
  simp only[qSign,qJoin,qU,lp,hJo]
 rw[es];have h5:=h4.app;refine hb ⟨⟨i+((a.cells q.lv).length:Nat)+1+(cs.length:Nat),false⟩,q.F,{q.f with ts:=a::q.f.ts,ss:=o::q.f.ss},q.lv,b1,false⟩ _ rest r (pr o+1) rfl rfl hv (by have:=pr_rng o;omega) (by intro x hx;simp only[X0r,X0] at hx;rw[←hx,lp];omega) (by omega) h5 hf fun us2 rs2 b2 hb2 hJ2=> ?_;have ea:i+((a.cells q.lv).length:Nat)+1+(cs.length:Nat)+((b.cells q.lv).length:Nat)=i+((a.cells q.lv++(signC o++b.cells q.lv)).length:Nat):=by
  rw[esg];simp only[X5,Xa];push_cast;omega
 show RunP t false ⟨⟨i+((a.cells q.lv).length:Nat)+1+(cs.length:Nat)+((b.cells q.lv).length:Nat),false⟩,q.F,{q.f with ts:=us2,ss:=rs2},q.lv,b2,false⟩ r;rw[ea];refine K us2 rs2 b2 hb2 fun m hm hm2=> ?_;have hJ3:=hJ2 (pr o+1) (by omega) (by omega);rw[qJ_of (by omega) hJ3];simp only[];rw[qJ,lp,if_pos hm2,mkB];exact qJ_stop (fun x hx=>by have:=hh x hx;omega) _
theorem rds_all (t : List Int) : ∀ (d : Nat) (T : Tr), T.good d → RdE t T ∧ (pr (opn T) = 4 → RdA t T)
  | 0, T, h => by cases T; exact h.elim
  | d + 1, .node n ks, h => by
    obtain ⟨ha, hk, hadm⟩ := h
    have ih : ∀ k ∈ ks, RdE t k ∧ (pr (opn k) = 4 → RdA t k) := fun k hm => rds_all t d k (Y3r.1 hk k hm)
    have hopn : opn (.node n ks) = n.Op := rfl
    have A : RdA t (.node n ks) → RdE t (.node n ks) ∧ (pr (opn (.node n ks)) = 4 → RdA t (.node n ks)) := fun h => ⟨h.e, fun _ => h⟩
    have rng : ∀ k ∈ ks, 0 ≤ opn k ∧ opn k ≤ 13 := fun k hm => by
      have := good_head (Y3r.1 hk k hm)
      rw [opn_hd] at this; exact this
    rcases ar_cases ha with h0 | h0 | h0 | h0 | h0 | h0 | h0 | h0 | h0 | h0 | h0 | h0 | h0 | h0
    · obtain ⟨e, n0, n9⟩ := ar_num ha h0
      have e1 : ks = [] := X0j.1 e
      subst e1
      have e2 : n = ⟨0, n.N⟩ := by rw [← h0]
      rw [e2]
      exact (⟨(num_A n0 n9).e, fun _ => num_A n0 n9⟩ : RdE t (numT n.N) ∧ (pr (opn (numT n.N)) = 4 → RdA t (numT n.N)))
    · obtain ⟨e, n0, n9⟩ := ar_var ha h0
      have e1 : ks = [] := X0j.1 e
      subst e1
      have e2 : n = ⟨1, n.N⟩ := by rw [← h0]
      rw [e2]
      exact ⟨(var_A n0 n9).e, fun _ => var_A n0 n9⟩
    all_goals
      first
      | (have hb : 2 ≤ n.Op ∧ n.Op ≤ 5 := by omega
         obtain ⟨a, b, rfl⟩ := good_two (d := d) ha (by omega) (by omega)
         have n0 : n.N = 0 := by
           unfold ar at ha
           rw [Vn, Vn, Vp] at ha
           split at ha
           · assumption
           · cases ha
         have e2 : n = ⟨n.Op, 0⟩ := by rw [← n0]
         have ad0 := hadm 0 a rfl
         have ad1 := hadm 1 b rfl
         unfold adm at ad0 ad1
         rw [if_pos hb, if_pos rfl, opn_hd] at ad0
         rw [if_pos hb, if_neg (by decide), opn_hd] at ad1
         rw [e2]
         refine ⟨bin_E hb (ih a (by simp)).1 (ih b (by simp)).1 (of_decide_eq_true ad0) (of_decide_eq_true ad1), fun h4 => ?_⟩
         have : pr n.Op = 4 := h4
         rw [h0] at this
         exact absurd this (by decide))
      | (have hb : n.Op = 6 := by omega
         obtain ⟨a, b, rfl⟩ := good_two (d := d) ha (by omega) (by omega)
         have n0 : n.N = 0 := by
           unfold ar at ha
           rw [Vn, Vn, Vp] at ha
           split at ha
           · assumption
           · cases ha
         have e2 : n = ⟨6, 0⟩ := by rw [← n0, ← hb]
         rw [e2]
         exact ⟨(frac_A (ih a (by simp)).1 (ih b (by simp)).1).e, fun _ => frac_A (ih a (by simp)).1 (ih b (by simp)).1⟩)
      | (have hb : n.Op = 7 ∨ n.Op = 8 := by omega
         obtain ⟨a, b, rfl⟩ := good_two (d := d) ha (by omega) (by omega)
         have n0 : n.N = 0 := by
           unfold ar at ha
           rw [Vn, Vn, Vp] at ha
           split at ha
           · assumption
           · cases ha
         have e2 : n = ⟨n.Op, 0⟩ := by rw [← n0]
         rw [e2]
         have P := pow_A hb (ih a (by simp)).1 (ih a (by simp)).2 (ih b (by simp)).1 (rng a (by simp))
         exact ⟨P.e, fun _ => P⟩)
      | (have hb : n.Op = 9 ∨ n.Op = 10 ∨ n.Op = 11 := by omega
         have e1 := ar_one ha (by omega) (by omega)
         obtain ⟨a, rfl⟩ : ∃ a, ks = [a] := by
           match ks, e1 with
           | [a], _ => exact ⟨a, rfl⟩
         have n0 : n.N = 0 := by
           unfold ar at ha
           rw [Vn, Vn, Vn, Vp] at ha
           split at ha
           · assumption
           · cases ha
         have e2 : n = ⟨n.Op, 0⟩ := by rw [← n0]
         rw [e2]
         exact ⟨(one_A hb (ih a (by simp)).1).e, fun _ => one_A hb (ih a (by simp)).1⟩)
      | (have hb : n.Op = 12 := h0
         obtain ⟨e1, n2, n5⟩ := ar_tab ha hb
         -- the operands are numbers
         have nk : ∀ k ∈ ks, ∃ m, 0 ≤ m ∧ m ≤ 99999 ∧ k = numT m := by
           intro k hm
           obtain ⟨i, hi⟩ := List.getElem?_of_mem hm
           have ad := hadm i k hi
           unfold adm at ad
           rw [Vn, if_pos hb, opn_hd] at ad
           have ho := of_decide_eq_true ad
           have hg := Y3r.1 hk k hm
           cases k with
           | node m js =>
             cases d with
             | zero => exact hg.elim
             | succ d =>
               obtain ⟨g1, g2, g3⟩ := hg
               have ho' : m.Op = 0 := ho
               obtain ⟨g4, g5, g6⟩ := ar_num g1 ho'
               have g7 : js = [] := X0j.1 g4
               subst g7
               refine ⟨m.N, g5, g6, ?_⟩
               rw [numT, ← ho']
         have ex : ∀ ks : List Tr, (∀ k ∈ ks, ∃ m, 0 ≤ m ∧ m ≤ 99999 ∧ k = numT m) → ∃ ms : List Int, ks = ms.map numT ∧ ∀ m ∈ ms, 0 ≤ m ∧ m ≤ 99999 := by
           intro ks
           induction ks with
           | nil => intro _; exact ⟨[], rfl, fun m hm => by cases hm⟩
           | cons k ks ih =>
             intro h
             obtain ⟨m, m0, m9, rfl⟩ := h k (by simp)
             obtain ⟨ms, rfl, hms⟩ := ih fun k hk => h k (by simp [hk])
             exact ⟨m :: ms, rfl, fun x hx => by
               simp only [Xm] at hx
               rcases hx with rfl | hx
               · exact ⟨m0, m9⟩
               · exact hms x hx⟩
         obtain ⟨ms, rfl, hms⟩ := ex ks nk
         rw [X09] at e1
         obtain ⟨m0, ms', z, rfl⟩ : ∃ m0 ms' z, ms = m0 :: ms' ++ [z] := by
           cases ms with
           | nil => simp at e1; omega
           | cons m0 ms =>
             have : ms ≠ [] := by intro e; rw [e] at e1; simp at e1; omega
             exact ⟨m0, ms.dropLast, ms.getLast this, by rw [Xu, X1i]⟩
         simp only [X5, Xa, Xj] at e1
         have e2 : n = ⟨12, ((ms'.length + 1 : Nat) : Int)⟩ := by
           have : n.N = ((ms'.length + 1 : Nat) : Int) := by push_cast at e1 ⊢; omega
           rw [← this, ← hb]
         rw [e2]
         have S := sum_A (t := t) (m0 := m0) (z := z) (ms := ms') (fun m hm => hms m (by simp only [Xs]; exact .inl hm)) (hms z (by simp)) (by push_cast at e1; omega) (by push_cast at e1; omega)
         exact ⟨S.e, fun _ => S⟩)
      | (have hb : n.Op = 13 := h0
         obtain ⟨e1, n8, n40, e16⟩ := ar_mat ha hb
         have hmod : 1 ≤ n.N % 8 ∧ n.N % 8 ≤ 4 := by
           unfold ar at ha
           rw [Vn, Vn, Vn, Vn, Vn, if_pos hb] at ha
           split at ha
           · rename_i hh; exact hh.2.2
           · cases ha
         have hR : 1 ≤ n.N / 8 ∧ n.N / 8 ≤ 4 := by omega
         have e2 : n = ⟨13, 8 * (n.N / 8) + n.N % 8⟩ := by
           have h8 : 8 * (n.N / 8) + n.N % 8 = n.N := by omega
           cases n with
           | mk o m => simp only at hb h8 ⊢; rw [h8, hb]
         have hpos : 1 ≤ n.N / 8 * (n.N % 8) := by
           have h1 : n.N / 8 = 1 ∨ n.N / 8 = 2 ∨ n.N / 8 = 3 ∨ n.N / 8 = 4 := by omega
           rcases h1 with h1 | h1 | h1 | h1 <;> rw [h1] <;> omega
         cases ks with
         | nil => rw [← e1] at hpos; simp at hpos
         | cons a ks =>
           rw [e2]
           have M := mat_A (t := t) (a := a) (ks := ks) hR hmod (ih a (by simp)).1 (fun k hk => (ih k (by simp [hk])).1) (by rw [← e1]; simp only [Xa]; push_cast; exact Int.add_comm _ _)
           exact ⟨M.e, fun _ => M⟩)
theorem run_cells{d:Nat}{T:Tr}(h:T.good d):∃us rs b,mRun (T.cells [])=⟨⟨((T.cells []).length:Nat),false⟩,[],⟨-1,[],us,rs,0,0,0⟩,[],b,true⟩∧qJ 0 rs us=([T],[]):=by
 have hs:Sfx (T.cells []) 0 (T.cells []++[]):=by rw[X1b];exact Sfx.self _
 have key:RunP (T.cells []) true q00 fun r=>∃us rs b,r=⟨⟨((T.cells []).length:Nat),false⟩,[],⟨-1,[],us,rs,0,0,0⟩,[],b,true⟩∧qJ 0 rs us=([T],[]):=by
  refine(rds_all (T.cells []) d T h).1.arg (q:=q00) (i:=0) rfl rfl (fun c hc=>by simp[q00] at hc) rfl rfl hs Fol.nil fun us rs b hb hJ _=> ?_;have he:Sfx (T.cells []) (0+((T.cells []).length:Nat)) []:=hs.app;have ef:Y0j (T.cells []) ⟨⟨0+((T.cells []).length:Nat),false⟩,[],⟨-1,[],us,rs,0,0,0⟩,[],b,false⟩=(false,⟨⟨((T.cells []).length:Nat),false⟩,[],⟨-1,[],us,rs,0,0,0⟩,[],b,true⟩):=by
   rw[Y67 rfl hb he (fun y hy=>by cases hy)];unfold qRest;simp only[];rw[if_pos trivial];simp
  exact run_f rfl rfl ef ⟨_,.stop (.inr rfl),us,rs,b,rfl,hJ⟩
 obtain⟨r,hr,us,rs,b,rfl,hJ⟩:=key;exact⟨us,rs,b,run_eq hr,hJ⟩
end
end Go.Proofs.YtfpcbalkioolmaaDoor
