/- Own work. -/
import Derived.Test.YtfpcbalkioolmaaDoorLq7
set_option linter.unusedSimpArgs false
set_option linter.unusedVariables false
namespace Go.Proofs.YtfpcbalkioolmaaDoor
open Go.Abs
structure Tk (t:List Int) (u:Cu) (l:List Int):Prop where
 w:u.wr=false
 o:CuOk t u
 e:t.take u.at_.toNat=l
section
variable {t l:List Int} {u:Cu} {c:Int}
theorem take_cell(t:List Int)(i:Nat)(h:i<t.length):t.take (i+1)=t.take i++[t.getD i 0]:=by
 rw[List.take_add_one,X2 h,X7,X2 h]
 rfl
theorem Tk.adv(h:Tk t u l)(hl:u.at_<(t.length:Nat)):Tk t u.adv (l++[cAt t u.at_]):=by
 have h0:=h.o.a0;refine⟨h.w,h.o.adv hl, ?_⟩;show t.take (u.at_+1).toNat=_;rw[show(u.at_+1).toNat=u.at_.toNat+1 by omega,take_cell t _ (by omega),h.e]
 rfl
theorem Tk.hit(h:Tk t u l)(hh:hit t c u=true):Tk t u.adv (l++[c]):=by
 have⟨_,h2,h3⟩:=Y2p hh;have:=h.adv h2;rw[h3] at this;exact this
theorem Tk.xpc:∀{s:List Int} {u:Cu} {l:List Int},Tk t u l→(xpc t s u).wr=false→Tk t (xpc t s u) (l++s)
 |[],u,l,h,_=>by simpa [Go.Proofs.YtfpcbalkioolmaaDoor.xpc] using h
 |c::s,u,l,h,hw=>by
  rw[Go.Proofs.YtfpcbalkioolmaaDoor.xpc] at hw⊢
  split at hw
  ·rename_i hh;rw[if_pos hh];have:=Tk.xpc (h.hit hh) hw;rw[Xf] at this;exact this
  ·exact absurd (xpc_ok s _ hw).1 (by simp[Cu.bad])
theorem lfind_some(c:Int):∀(l:List Int) (i:Int),lfind c l i= -1∨∃k:Nat,k<l.length∧lfind c l i=i+k∧l.getD k 0=c
 |[],i=>.inl rfl
 |x::l,i=>by
  rw[lfind]
  split
  ·rename_i h;exact .inr ⟨0,by simp,by simp,by simpa using h⟩
  ·rcases lfind_some c l (i+1) with h|⟨k,h1,h2,h3⟩
   ·exact .inl h
   ·exact .inr ⟨k+1,by simp;omega,by rw[h2];push_cast;omega,by simpa using h3⟩
theorem chr_some{n:Nat}(hn:n≤26)(h:¬chrI t n u<0):0≤chrI t n u∧chrI t n u<(n:Nat)∧u.wr=false∧u.at_<(t.length:Nat)∧cAt t u.at_=Y9.getD (chrI t n u).toNat 0:=by
 unfold chrI at h⊢
 split at h
 ·omega
 ·rename_i hh;rw[if_neg hh];simp only[not_or] at hh;rcases lfind_some (cAt t u.at_) (Y9.take n) 0 with h1|⟨k,h1,h2,h3⟩
  ·omega
  ·have hl:k<n:=by rw[X0b] at h1;omega
   refine⟨by omega,by omega,by simpa using hh.1,by omega, ?_⟩;rw[h2, ←h3,show((0:Int)+(k:Nat)).toNat=k by omega];rw[X7,X7,List.getElem?_take_of_lt hl]
theorem Tk.chr{n:Nat}(hn:n≤26)(h:Tk t u l)(hc:¬chrI t n u<0):Tk t u.adv (l++[Y9.getD (chrI t n u).toNat 0]):=by
 have⟨_,_,_,h4,h5⟩:=chr_some hn hc;rw[←h5];exact h.adv h4
theorem Tk.dig(h:Tk t u l)(hc:¬chrI t 10 u<0):Tk t u.adv (l++[dg ((chrI t 10 u+1)%10)])∧0≤(chrI t 10 u+1)%10∧(chrI t 10 u+1)%10<10:=by
 have⟨h1,h2,_⟩:=chr_some (n:=10) (by omega) hc;refine⟨?_,by omega,by omega⟩;have:=h.chr (n:=10) (by omega) hc;rw[dg,show(((chrI t 10 u+1)%10+9)%10)=chrI t 10 u by omega];exact this
theorem digs_snoc{n d:Int}(h0:0<n)(hd:0≤d∧d<10)(h9:10*n+d≤99999):digs (10*n+d)=digs n++[dg d]:=by
 rw[digs_step (by omega) h9,show(10*n+d)/10=n by omega,show(10*n+d)%10=d by omega]
theorem dgs_tk:∀(k j:Nat) (n d:Int) {u:Cu} {l:List Int},0<n→n<10^j→j+k≤5→0<d→Tk t u (l++digs n)→Tk t (dgs t k n d u).2.2 (l++digs (dgs t k n d u).1)∧0<(dgs t k n d u).1∧(dgs t k n d u).1<100000∧0<(dgs t k n d u).2.1
 |0,j,n,d,u,l,h0,hj,h5,hd,h=>by
  have:(10:Int)^j≤10^5:=by exact_mod_cast X1a (by omega:0<10) (by omega:j≤5)
  rw[dgs];exact⟨h,h0,by simp only;omega,hd⟩
 |k+1,j,n,d,u,l,h0,hj,h5,hd,h=>by
  have p5:(10:Int)^j≤10^5:=by exact_mod_cast X1a (by omega:0<10) (by omega:j≤5)
  have p4:(10:Int)^(j+1)≤10^5:=by exact_mod_cast X1a (by omega:0<10) (by omega:j+1≤5)
  rw[dgs,if_pos (.inr h0)]
  split
  ·exact⟨h,h0,by simp only;omega,hd⟩
  ·rename_i hc;have⟨h1,h2,h3⟩:=h.dig hc;have e:(10:Int)^(j+1)=10^j*10:=Int.pow_succ ..;rw[Xf, ←digs_snoc h0 ⟨h2,h3⟩ (by omega)] at h1;exact dgs_tk k (j+1) _ (d+1) (by omega) (by omega) (by omega) (by omega) h1
theorem Tk.num(h:Tk t u l)(hw:(numU t u).wr=false):Tk t (numU t u) (l++digs (numN t u))∧0≤numN t u∧numN t u≤99999:=by
 have key:(dgs t 5 0 0 u).2.1≠0→Tk t (dgs t 5 0 0 u).2.2 (l++digs (dgs t 5 0 0 u).1)∧0≤(dgs t 5 0 0 u).1∧(dgs t 5 0 0 u).1≤99999:=by
  intro hd;rw[dgs,if_pos (.inl rfl)] at hd⊢
  split at hd
  ·exact absurd rfl hd
  ·rename_i hc;rw[if_neg hc];have⟨h1,h2,h3⟩:=h.dig hc;have e0:(10:Int)*0+(chrI t 10 u+1)%10=(chrI t 10 u+1)%10:=by omega
   rw[e0];rw[←digs_one h2 h3] at h1
   by_cases hz:(chrI t 10 u+1)%10=0
   ·rw[hz] at h1⊢;rw[dgs,if_neg (by decide)];exact⟨h1,by simp,by simp⟩
   ·have⟨a,b,c,d⟩:=dgs_tk (t:=t) 4 1 _ (0+1) (by omega) (by simpa using h3) (by omega) (by omega) h1;exact⟨a,by omega,by omega⟩
 unfold numU at hw⊢
 by_cases hd:(dgs t 5 0 0 u).2.1=0
 ·rw[if_pos hd] at hw;cases hw
 ·rw[if_neg hd];exact key hd
theorem sumL_tk:∀(k:Nat) (m:List Int) {u:Cu} {l:List Int},Tk t u l→(sumL t k m u).2.wr=false→∃ms,(sumL t k m u).1=m++ms∧Tk t (sumL t k m u).2 (l++nums 32 ms)∧(∀x∈ms,0≤x∧x≤99999)∧ms.length≤k
 |0,m,u,l,h,hw=>⟨[],by simp[sumL],by simpa [sumL,nums] using h,by simp,by simp⟩
 |k+1,m,u,l,h,hw=>by
  rw[sumL] at hw⊢
  split at hw
  ·rename_i hh;rw[if_pos hh];have w1:(numU t (Go.Proofs.YtfpcbalkioolmaaDoor.xpc t [60] u.adv)).wr=false:=by
    cases e:(numU t (Go.Proofs.YtfpcbalkioolmaaDoor.xpc t [60] u.adv)).wr with
    |false=>rfl
    |true=>
     have:=sumL_wr (t:=t) k (m++[numN t (Go.Proofs.YtfpcbalkioolmaaDoor.xpc t [60] u.adv)]) _ e;rw[this] at hw;cases hw
   have w2:=numU_wr w1;have⟨a,b,c⟩:=Tk.num (Tk.xpc (h.hit hh) w2) w1;have⟨ms,e1,e2,e3,e4⟩:=sumL_tk k (m++[numN t (Go.Proofs.YtfpcbalkioolmaaDoor.xpc t [60] u.adv)]) a hw;refine⟨numN t (Go.Proofs.YtfpcbalkioolmaaDoor.xpc t [60] u.adv)::ms,by rw[e1];simp, ?_,fun x hx=> ?_,by simp;omega⟩
   ·have:l++[32]++[60]++digs (numN t (Go.Proofs.YtfpcbalkioolmaaDoor.xpc t [60] u.adv))++nums 32 ms=l++nums 32 (numN t (Go.Proofs.YtfpcbalkioolmaaDoor.xpc t [60] u.adv)::ms):=by simp[nums]
    rw[←this];exact e2
   ·rcases Xm.1 hx with rfl|hx
    ·exact⟨b,c⟩
    ·exact e3 x hx
  ·rename_i hh;rw[if_neg hh];exact⟨[],by simp,by simpa [nums] using h,by simp,by simp⟩
where
 sumL_wr {t:List Int}:∀(k:Nat) (m:List Int) (u:Cu),u.wr=true→(sumL t k m u).2.wr=true
  |0,m,u,h=>h
  |k+1,m,u,h=>by
   rw[sumL,if_neg (by unfold Go.Proofs.YtfpcbalkioolmaaDoor.hit;rw[h];simp)];exact h
end
theorem numT_cells(l:List Int)(m:Int):(numT m).cells l=60::digs m:=by rw[numT,Y1z,if_pos rfl]
theorem nums_cells(lv:List Int)(N z:Int):∀(ms:List Int) (k:Nat),1≤k→(k:Int)+(ms.length:Nat)=N→Y07 lv ⟨12,N⟩ k ((ms++[z]).map numT)=nums 32 ms++51::60::digs z
 |[],k,hk,hN=>by
  simp only[X04,Xw,X10];rw[Y07,Y07,numT_cells];unfold sepC;rw[Vn,if_pos rfl,if_pos (by simpa using hN)];simp[nums]
 |m::ms,k,hk,hN=>by
  simp only[Xu,Xw];rw[Y07,numT_cells,nums_cells lv N z ms (k+1) (by omega) (by simp only[Xa] at hN;push_cast at hN⊢;omega)];unfold sepC;rw[Vn,if_pos rfl,if_neg (by show ¬((k:Int)=N);simp only[Xa] at hN;push_cast at hN;omega)];simp[nums]
theorem numT_gd{m:Int}(h:0≤m∧m≤99999):Gd (numT m):=Gd.leaf (by rw[ar,if_pos rfl,if_pos h])
section
variable {t l:List Int} {u:Cu}
theorem Tk.sum(h:Tk t u l)(hw:(sumU t u).wr=false)(lv:List Int):Tk t (sumU t u) (l++((sumT t u).cells lv).tail)∧((sumT t u).cells lv).head? =some 56∧Gd (sumT t u)∧opn (sumT t u)=12:=by
 have w1:(numU t (sumV t u)).wr=false:=(xpc_ok [34] _ hw).1;have w2:(sumV t u).wr=false:=numU_wr w1;have w3:=(xpc_ok [51,60] _ w2).1;have hlen:¬(sumA t u).1.length<2:=by
  intro hl;rw[if_pos hl] at w3;cases w3
 rw[if_neg hlen] at w3;have w4:(numU t (Go.Proofs.YtfpcbalkioolmaaDoor.xpc t [60] u)).wr=false:=by
  cases e:(numU t (Go.Proofs.YtfpcbalkioolmaaDoor.xpc t [60] u)).wr with
  |false=>rfl
  |true=>
   have:=sumL_tk.sumL_wr (t:=t) 4 [numN t (Go.Proofs.YtfpcbalkioolmaaDoor.xpc t [60] u)] _ e;rw[sumA,this] at w3;cases w3
 have⟨a1,a2,a3⟩:=Tk.num (h.xpc (s:=[60]) (numU_wr w4)) w4;have⟨ms,e1,e2,e3,e4⟩:=sumL_tk 4 [numN t (Go.Proofs.YtfpcbalkioolmaaDoor.xpc t [60] u)] a1 w3;have eA:sumA t u=(sumL t 4 [numN t (Go.Proofs.YtfpcbalkioolmaaDoor.xpc t [60] u)] (numU t (Go.Proofs.YtfpcbalkioolmaaDoor.xpc t [60] u))):=rfl;rw[←eA] at e1 e2;have eV:sumV t u=Go.Proofs.YtfpcbalkioolmaaDoor.xpc t [51,60] (sumA t u).2:=by rw[sumV,if_neg hlen]
 have b1:Tk t (sumV t u) (l++[60]++digs (numN t (Go.Proofs.YtfpcbalkioolmaaDoor.xpc t [60] u))++nums 32 ms++[51,60]):=by
  rw[eV] at w2⊢;exact e2.xpc w2
 have⟨c1,c2,c3⟩:=Tk.num b1 w1;have d1:=Tk.xpc (s:=[34]) c1 hw;generalize hm0:numN t (Go.Proofs.YtfpcbalkioolmaaDoor.xpc t [60] u)=m0 at*;generalize hz:numN t (sumV t u)=z at*;have hms:1≤ms.length:=by rw[e1] at hlen;simp at hlen;omega
 have eT:sumT t u= .node ⟨12,((ms.length+1:Nat):Int)⟩ ((m0::ms++[z]).map numT):=by
  rw[sumT,e1,hz];simp[X1l]
 have ec:(sumT t u).cells lv=56::60::(digs m0++(nums 32 ms++51::60::(digs z++[34]))):=by
  rw[eT,Y1z,if_neg (by simp),if_neg (by simp),if_neg (by simp),if_neg (by simp)];simp only[Xu,Xw];rw[Y07,numT_cells,nums_cells lv _ z ms 1 (by omega) (by push_cast;omega)];simp[sepC,Y5y,Y1k]
 refine⟨?_,by rw[ec];rfl, ?_,by rw[eT];rfl⟩
 ·rw[ec];have:l++[60]++digs m0++nums 32 ms++[51,60]++digs z++[34]=l++(56::60::(digs m0++(nums 32 ms++51::60::(digs z++[34])))).tail:=by simp
  rw[←this];exact d1
 ·have rng:∀x∈m0::ms++[z],0≤x∧x≤99999:=fun x hx=>by
   simp only[Xu,Xm,Xs,Xh,X05,or_false] at hx;rcases hx with rfl|hx|rfl
   ·exact⟨a2,a3⟩
   ·exact e3 x hx
   ·exact⟨c2,c3⟩
  rw[eT];refine Gd.node ?_ (fun k hk=> ?_) (fun i k hk=> ?_)
  ·rw[ar,if_neg (by simp),if_neg (by simp),if_neg (by simp),if_neg (by simp),if_pos rfl,if_pos (by simp only;omega)];simp
  ·obtain⟨m,hm,rfl⟩:=X00.1 hk;exact numT_gd (rng m hm)
  ·have hk':=X0l hk;obtain⟨m,hm,rfl⟩:=X00.1 hk';rw[adm,if_neg (by simp),if_pos rfl]
   rfl
end
def sB (lv:List Int):List Tr→List Int→List Int
 |x::ts,o::ss=>sB lv ts ss++x.cells lv++signC o
 |_,_=>[]
def StI:List Tr→List Int→Prop
 |x::ts,o::ss=>Gd x∧(2≤o∧o≤5)∧Y3f o≤pr (opn x)∧HD ss (Y3f o)∧HD ss (pr (opn x))∧StI ts ss
 |[],[]=>True
 |_,_=>False
theorem bin_gd{o:Int}(ho:2≤o∧o≤5){a b:Tr}(ha:Gd a)(hb:Gd b)(h1:Y3f o≤pr (opn a))(h2:Y3f o<pr (opn b)):Gd (.node ⟨o,0⟩ [a,b]):=by
 rw[lprec_pr ho] at h1 h2;refine Gd.node ?_ (fun k hk=> ?_) (fun i k hk=> ?_)
 ·rw[ar,if_neg (by simp only;omega),if_neg (by simp only;omega),if_pos (by simp only;omega),if_pos rfl];rfl
 ·simp only[Xm,X05,or_false] at hk;rcases hk with rfl|rfl
  ·exact ha
  ·exact hb
 ·rw[adm,if_pos (by simp only;omega),opn_hd]
  match i,hk with
  |0,hk=>
   simp only[X1c,X0] at hk;rw[if_pos rfl, ←hk];exact decide_eq_true h1
  |1,hk=>
   simp only[X1d,X1c,X0] at hk;rw[Vn, ←hk];exact decide_eq_true h2
  |k+2,hk=>simp at hk
theorem bin_cells(lv:List Int){o:Int}(ho:2≤o∧o≤5)(a b:Tr):(Tr.node ⟨o,0⟩ [a,b]).cells lv=a.cells lv++signC o++b.cells lv:=by
 rw[Y1z,if_neg (by simp only;omega),if_neg (by simp only;omega),if_pos (by simp only;omega),binC_eq]
theorem join_si(m:Int)(lv:List Int):∀(ss:List Int) (ts:List Tr) (x:Tr),StI ts ss→Gd x→HD ss (pr (opn x))→∃x' ts' ss',qJ m ss (x::ts)=(x'::ts',ss')∧StI ts' ss'∧Gd x'∧HD ss' m∧HD ss' (pr (opn x'))∧(m≤pr (opn x)→m≤pr (opn x'))∧sB lv ts' ss'++x'.cells lv=sB lv ts ss++x.cells lv∧((x'=x∧ss'=ss)∨(2≤opn x'∧opn x'≤5))
 |[],[],x,h,hx,hh=>⟨x,[],[],rfl,h,hx,fun o ho=>(by cases ho),hh,fun h=>h,rfl,.inl ⟨rfl,rfl⟩⟩
 |[],y::ts,x,h,hx,hh=>h.elim
 |o::ss,[],x,h,hx,hh=>h.elim
 |o::ss,y::ts,x,h,hx,hh=>by
  by_cases hm:m≤Y3f o
  ·rw[qJ,if_pos hm];have⟨h1,h2,h3,h4,h5,h6⟩:=h;have e:mkB o (x::y::ts)= .node ⟨o,0⟩ [y,x]::ts:=rfl;rw[e];have g:=bin_gd h2 h1 hx h3 (hh o rfl);have eo:opn (.node ⟨o,0⟩ [y,x])=o:=rfl;have⟨x',ts',ss',a1,a2,a3,a4,a5,a6,a7,a8⟩:=join_si m lv ss ts (.node ⟨o,0⟩ [y,x]) h6 g (by rw[eo, ←lprec_pr h2];exact h4);refine⟨x',ts',ss',a1,a2,a3,a4,a5,fun _=>a6 (by rw[eo, ←lprec_pr h2];exact hm), ?_, ?_⟩
   ·rw[a7,bin_cells lv h2,sB];simp
   ·rcases a8 with⟨rfl,rfl⟩|a8
    ·right;rw[eo];exact h2
    ·exact .inr a8
  ·rw[qJ,if_neg hm];exact⟨x,y::ts,o::ss,rfl,h,hx,fun o' ho'=>by simp only[X0r,X0] at ho';rw[←ho'];omega,hh,fun h=>h,rfl,.inl ⟨rfl,rfl⟩⟩
theorem join_all(lv:List Int){ss:List Int}{ts:List Tr}{x:Tr}(h:StI ts ss)(hx:Gd x)(hh:HD ss (pr (opn x))):∃x',qJ 0 ss (x::ts)=([x'],[])∧Gd x'∧x'.cells lv=sB lv ts ss++x.cells lv∧((x'=x∧ss=[])∨(2≤opn x'∧opn x'≤5)):=by
 have⟨x',ts',ss',a1,a2,a3,a4,a5,a6,a7,a8⟩:=join_si 0 lv ss ts x h hx hh;have hs:ss'=[]:=by
  have:=qJ_all ss (x::ts);rw[a1] at this;exact this
 subst hs;have ht:ts'=[]:=by
  cases ts' with
  |nil=>rfl
  |cons y ts'=>exact a2.elim
 subst ht;refine⟨x',a1,a3,by rw[←a7];rfl, ?_⟩;rcases a8 with⟨h1,h2⟩|h
 ·exact .inl ⟨h1,h2.symm⟩
 ·exact .inr h
def nf (f:Qf):Y4:=⟨f.op,if f.cols=0 then 7 else f.cols⟩
def grp (lv:List Int) (x:Tr):List Int:=if Y5v (opn x) then x.cells lv else 35::(x.cells lv++[50])
def fh (lv:List Int) (f:Qf):List Int:=
 if f.op= -1 then[] else if f.op= -2 then[35]
 else if f.op=7∨f.op=8 then grp lv (f.ops.headD noTr)++16::(lv++[expC f.op])
 else Y5y f.op::(Y07 lv (nf f) 0 f.ops++sepC (nf f) f.ops.length)
def lvF:List Qf→List Int
 |[]=>[]
 |f::F=>if f.op=7∨f.op=8 then lvF F++[expC f.op] else lvF F
def txF:List Qf→List Int
 |[]=>[]
 |f::F=>txF F++fh (lvF F) f++sB (lvF (f::F)) f.ts f.ss
def mOk (f:Qf):Prop:=0≤f.cols∧f.cols≤4∧0≤f.rows∧f.rows≤3∧0≤f.ents∧(f.ops.length:Int)=f.rows*f.cols+f.ents∧(f.cols=0→f.rows=0∧f.ents≤3)∧(f.cols≠0→1≤f.rows∧f.ents+1≤f.cols)
def opOk (f:Qf):Prop:=f.op= -2∧f.ops=[]∨f.op=6∧f.ops.length≤1∨(f.op=7∨f.op=8)∧f.ops.length=1∨(f.op=9∨f.op=10∨f.op=11)∧f.ops=[]∨f.op=13∧mOk f
def FI:List Qf→Prop
 |[]=>False
 |[f]=>StI f.ts f.ss∧f.op= -1∧f.ops=[]
 |f::g::F=>StI f.ts f.ss∧(∀k∈f.ops,Gd k)∧opOk f∧FI (g::F)
structure BegI (t:List Int) (q:Qs):Prop where
 tk:Tk t q.c (txF (q.f::q.F))
 lv:q.lv=lvF (q.f::q.F)
 fi:FI (q.f::q.F)
 dn:q.dn=false
def pushT (x:Tr) (g:Qf):Qf:={g with ts:=x::g.ts}
def bOk (b:Int) (x:Tr):Prop:=(b=0∧(opn x=7∨opn x=8))∨(b=1∧Y5v (opn x)=true)∨(b=2∧Y5v (opn x)=false)
structure FolI (t:List Int) (q:Qs) (g:Qf) (x:Tr):Prop where
 f:q.f=pushT x g
 tk:Tk t q.c (txF (g::q.F)++(if q.base=2 then 35::(x.cells q.lv++[50]) else x.cells q.lv))
 lv:q.lv=lvF (g::q.F)
 fi:FI (g::q.F)
 gd:Gd x
 b:bOk q.base x
 dn:q.dn=false
theorem cellsL_snoc(lv:List Int)(n:Y4)(x:Tr):∀(ks:List Tr) (i:Nat),Y07 lv n i (ks++[x])=Y07 lv n i ks++sepC n (i+ks.length)++x.cells lv
 |[],i=>by simp[Y07]
 |k::ks,i=>by
  rw[Xu,Y07,Y07,cellsL_snoc lv n x ks (i+1)];simp only[Xa,Xf];rw[show i+1+ks.length=i+(ks.length+1) by omega]
theorem cellsL_congr(lv:List Int)(n n':Y4):∀(ks:List Tr) (i:Nat),(∀j,i≤j→j<i+ks.length→sepC n j=sepC n' j)→Y07 lv n i ks=Y07 lv n' i ks
 |[],i,_=>by rw[Y07,Y07]
 |k::ks,i,h=>by
  rw[Y07,Y07,h i (by omega) (by simp),cellsL_congr lv n n' ks (i+1) fun j h1 h2=>h j (by omega) (by simp;omega)]
section
variable {t:List Int} {q:Qs} {g:Qf} {x:Tr} {u:Cu}
theorem fol_of{F:List Qf}{b:Int}(tk:Tk t u (txF (g::F)++(if b=2 then 35::(x.cells (lvF (g::F))++[50]) else x.cells (lvF (g::F)))))(fi:FI (g::F))(gd:Gd x)(bo:bOk b x):FolI t ⟨u,F,pushT x g,lvF (g::F),b,false⟩ g x:=⟨rfl,tk,rfl,fi,gd,bo,rfl⟩
theorem BegI.term(B:BegI t q)(tk:Tk t u (txF (q.f::q.F)++x.cells q.lv))(gd:Gd x)(hs:Y5v (opn x)=true):FolI t (Y1g x 1 (qU u q)) q.f x:=by
 have e:Y1g x 1 (qU u q)=⟨u,q.F,pushT x q.f,lvF (q.f::q.F),1,false⟩:=by
  rw[←B.lv, ←B.dn];rfl
 rw[e];refine fol_of ?_ B.fi gd (.inr (.inl ⟨rfl,hs⟩));rw[Vn, ←B.lv];exact tk
theorem BegI.push(B:BegI t q){op c:Int}(ho:op= -2∧c=35∨(op=6∨op=9∨op=10∨op=11∨op=13)∧c=Y5y op)(tk:Tk t u (txF (q.f::q.F)++[c])):BegI t (Y57 op [] (qU u q)):=by
 have h78:¬(op=7∨op=8):=by omega
 have el:lvF (fr0 op []::q.f::q.F)=lvF (q.f::q.F):=by
  show(if op=7∨op=8 then _ else _)=_;rw[if_neg h78]
 refine⟨?_, ?_, ?_,B.dn⟩
 ·show Tk t u (txF (fr0 op []::q.f::q.F));have:txF (fr0 op []::q.f::q.F)=txF (q.f::q.F)++[c]:=by
   rw[txF];have:fh (lvF (q.f::q.F)) (fr0 op [])=[c]:=by
    unfold fh;rcases ho with⟨h1,h2⟩|⟨h1,h2⟩
    ·rw[if_neg (by show ¬op= -1;omega),if_pos (by exact h1),h2]
    ·rw[if_neg (by show ¬op= -1;omega),if_neg (by show ¬op= -2;omega),if_neg (by exact h78),h2];show Y5y op::(Y07 _ _ 0 []++sepC _ 0)=_;rw[Y07];rfl
   rw[this];show _++sB _ [] []=_;rw[sB.eq_2]
   ·simp
   ·intro _ _ _ _ h;cases h
  rw[this];exact tk
 ·show q.lv=_;show q.lv=lvF (fr0 op []::q.f::q.F);rw[el];exact B.lv
 ·show FI (fr0 op []::q.f::q.F);refine And.intro trivial (And.intro (fun k hk=>by simp[fr0] at hk) (And.intro ?_ B.fi));unfold opOk;show op= -2∧([]:List Tr)=[]∨op=6∧([]:List Tr).length≤1∨(op=7∨op=8)∧([]:List Tr).length=1∨(op=9∨op=10∨op=11)∧([]:List Tr)=[]∨op=13∧mOk (fr0 op []);rcases ho with⟨h1,h2⟩|⟨h1|h1|h1|h1|h1,h2⟩
  ·exact .inl ⟨h1,rfl⟩
  ·exact .inr (.inl ⟨h1,by simp⟩)
  ·exact .inr (.inr (.inr (.inl ⟨.inl h1,rfl⟩)))
  ·exact .inr (.inr (.inr (.inl ⟨.inr (.inl h1),rfl⟩)))
  ·exact .inr (.inr (.inr (.inl ⟨.inr (.inr h1),rfl⟩)))
  ·exact .inr (.inr (.inr (.inr ⟨h1,by unfold mOk fr0;simp⟩)))
def St (t:List Int) (b:Bool) (q:Qs):Prop:=if b=true then BegI t q else ∃g x,FolI t q g x
theorem begin_snd(B:BegI t q):(Y1s t q).2.c.wr=true∨St t (Y1s t q).1 (Y1s t q).2:=by
 have T:=B.tk
 by_cases hw:(Y1s t q).2.c.wr=true
 ·exact .inl hw
 refine .inr ?_;have hw:(Y1s t q).2.c.wr=false:=by simpa using hw
 unfold Y1s at hw⊢
 split at hw
 ·rename_i h1;rw[if_pos h1];have⟨a,b,c⟩:=Tk.num (T.hit h1) hw;refine⟨q.f,_,B.term ?_ (numT_gd ⟨b,c⟩) rfl⟩;rw[numT_cells];have e:txF (q.f::q.F)++[60]++digs (numN t q.c.adv)=txF (q.f::q.F)++60::digs (numN t q.c.adv):=by simp
  rw[←e];exact a
 ·rename_i h1;rw[if_neg h1]
  split at hw
  ·rename_i h2;rw[if_pos h2];have hc:¬chrI t 26 q.c.adv<0:=by
    intro hc;have hw':(if chrI t 26 q.c.adv<0 then q.c.adv.bad else q.c.adv.adv).wr=false:=hw;rw[if_pos hc] at hw';cases hw'
   rw[if_neg hc];have⟨c1,c2,_⟩:=chr_some (n:=26) (by omega) hc;refine⟨q.f,_,B.term ?_ (Gd.leaf ?_) rfl⟩
   ·rw[Y1z,if_neg (by simp),if_pos rfl];have:=(T.hit h2).chr (n:=26) (by omega) hc;rw[Xf] at this;exact this
   ·rw[ar,if_neg (by simp),if_pos rfl,if_pos (by simp only;omega)]
  ·rename_i h2;rw[if_neg h2]
   split at hw
   ·rename_i h3;rw[if_pos h3];exact B.push (.inl ⟨rfl,rfl⟩) (T.hit h3)
   ·rename_i h3;rw[if_neg h3]
    split at hw
    ·rename_i h4;rw[if_pos h4];have⟨a,b,c,d⟩:=Tk.sum (T.hit h4) hw q.lv;refine⟨q.f,_,B.term ?_ c (by rw[d];rfl)⟩;have e:(sumT t q.c.adv).cells q.lv=56::((sumT t q.c.adv).cells q.lv).tail:=by
      cases hh:(sumT t q.c.adv).cells q.lv with
      |nil=>rw[hh] at b;cases b
      |cons y l=>rw[hh] at b;simp only[X0r,X0] at b;rw[b];rfl
     rw[e];rw[Xf] at a;exact a
    ·rename_i h4;rw[if_neg h4]
     split at hw
     ·rename_i h5;rw[if_pos h5];exact B.push (op:=6) (.inr ⟨by omega,rfl⟩) (T.hit h5)
     ·rename_i h5;rw[if_neg h5]
      split at hw
      ·rename_i h6;rw[if_pos h6];exact B.push (op:=9) (.inr ⟨by omega,rfl⟩) (T.hit h6)
      ·rename_i h6;rw[if_neg h6]
       split at hw
       ·rename_i h7;rw[if_pos h7];exact B.push (op:=10) (.inr ⟨by omega,rfl⟩) (T.hit h7)
       ·rename_i h7;rw[if_neg h7]
        split at hw
        ·rename_i h8;rw[if_pos h8];exact B.push (op:=11) (.inr ⟨by omega,rfl⟩) (T.hit h8)
        ·rename_i h8;rw[if_neg h8]
         split at hw
         ·rename_i h9;rw[if_pos h9];exact B.push (op:=13) (.inr ⟨by omega,rfl⟩) (T.hit h9)
         ·cases hw
theorem simple_rng{o:Int}(h:Y5v o=true):¬(2≤o∧o≤5):=by
 unfold Y5v at h;have:=of_decide_eq_true h;omega
theorem StI.le3:∀{ts:List Tr} {ss:List Int},StI ts ss→HD ss 4
 |[],[],_=>fun o ho=>by cases ho
 |[],_::_,h=>h.elim
 |_::_,[],h=>h.elim
 |y::ts,o::ss,h=>fun o' ho'=>by
  simp only[X0r,X0] at ho';rw[←ho'];have h2:=h.2.1;unfold Y3f
  split
  ·omega
  ·split<;>omega
theorem FI.st{F:List Qf}(h:FI (g::F)):StI g.ts g.ss:=by
 cases F with
 |nil=>exact h.1
 |cons f F=>exact h.1
theorem FolI.hd(R:FolI t q g x)(hb:q.base≠2):HD g.ss (pr (opn x)):=by
 have h4:pr (opn x)=4:=by
  rcases R.b with h|h|h
  ·exact pr_four (by omega)
  ·exact pr_four (simple_rng h.2)
  ·exact absurd h.1 hb
 rw[h4];exact(FI.st R.fi).le3
theorem FolI.txt(R:FolI t q g x)(hb:q.base≠2):Tk t q.c (txF (g::q.F)++x.cells q.lv):=by
 have:=R.tk;rw[if_neg hb] at this;exact this
theorem FolI.join(R:FolI t q g x)(hb:q.base≠2):∃x',qJ 0 q.f.ss q.f.ts=([x'],[])∧Gd x'∧txF (g::q.F)++x.cells q.lv=txF q.F++fh (lvF q.F) g++x'.cells q.lv∧((x'=x∧g.ss=[])∨(2≤opn x'∧opn x'≤5)):=by
 have⟨x',h1,h2,h3,h4⟩:=join_all q.lv (FI.st R.fi) R.gd (R.hd hb);refine⟨x',by rw[R.f];exact h1,h2, ?_,h4⟩;rw[h3,txF, ←R.lv];simp
theorem FI.outer{F:List Qf}(h:FI (g::F))(ho:g.op≠ -1):∃g' F',F=g'::F'∧(∀k∈g.ops,Gd k)∧opOk g∧FI (g'::F'):=by
 cases F with
 |nil=>exact absurd h.2.1 ho
 |cons g' F'=>exact⟨g',F',rfl,h.2.1,h.2.2.1,h.2.2.2⟩
theorem FolI.close(R:FolI t q g x)(hb:q.base≠2)(ho:g.op≠ -1){x':Tr}(hx:qJ 0 q.f.ss q.f.ts=([x'],[])){op n b:Int}{q1:Qs}(h1:q1.c=u)(h2:q1.F=q.F)(h3:q1.f.ts=q.f.ts)(h4:q1.f.ss=q.f.ss)(h5:q1.f.ops=q.f.ops)(h6:q1.lv=lvF q.F)(h7:q1.dn=false)
  (tk:Tk t u (txF q.F++(Tr.node ⟨op,n⟩ (g.ops++[x'])).cells (lvF q.F))) (gd:Gd (.node ⟨op,n⟩ (g.ops++[x']))) (hb2:b≠2) (bo:bOk b (.node ⟨op,n⟩ (g.ops++[x']))):∃g' x',FolI t (Y2c op n b (qOpd q1)) g' x':=by
 have⟨g',F',e,_,_,fi⟩:=FI.outer R.fi ho;have eo:qOpI q1=x':=qOpI_of (by rw[h3,h4];exact hx);have ef:q.f.ops=g.ops:=by rw[R.f];rfl
 refine⟨g',.node ⟨op,n⟩ (g.ops++[x']), ?_⟩;rw[e] at tk;have hF:(qOpd q1).F=g'::F':=by show q1.F=_;rw[h2,e]
 have ec:Y2c op n b (qOpd q1)=⟨u,F',pushT (.node ⟨op,n⟩ (g.ops++[x'])) g',lvF (g'::F'),b,false⟩:=by
  rw[Y2c,Y4a,hF];simp only[Y1g,qOpd,h1,h5,ef,eo,h6,h7,e,pushT]
 rw[ec];exact fol_of (by rw[if_neg hb2];exact tk) fi gd bo
theorem FolI.ungroup(R:FolI t q g x)(hb:q.base≠2)(ho:g.op= -2):(Y59 t q).2.c.wr=true∨St t (Y59 t q).1 (Y59 t q).2:=by
 unfold Y59
 split
 ·exact .inl rfl
 ·rename_i h;simp only[not_or,Bool.not_eq_false] at h;refine .inr ?_;have⟨x',hx,h2,h3,h4⟩:=R.join hb;have⟨g',F',e,_,ok,fi⟩:=FI.outer R.fi (by omega);refine⟨g',x', ?_⟩;have eo:qOpI q=x':=qOpI_of hx;have ll:lvF (g::q.F)=lvF q.F:=by rw[lvF,Vn]
  have ec:Y1g (qOpI q) 2 (Y4a (qU q.c.adv q))=⟨q.c.adv,F',pushT x' g',lvF (g'::F'),2,false⟩:=by
   have hF:(qU q.c.adv q).F=g'::F':=e;rw[Y4a,hF,eo];simp only[Y1g,qU,pushT,R.dn];rw[R.lv,ll,e]
  rw[ec];refine fol_of ?_ fi h2 (.inr (.inr ⟨rfl, ?_⟩))
  ·rw[if_pos rfl];have T:=(R.txt hb).hit h.2;rw[h3] at T;have ef:fh (lvF q.F) g=[35]:=by unfold fh;rw[Vn,if_pos ho]
   rw[ef,R.lv,ll,e] at T;simpa using T
  ·rcases h4 with⟨h4,h5⟩|h4
   ·have h6:=h.1;have e1:q.f.ss=[]:=by rw[R.f];exact h5
    have e2:q.f.ts.headD noTr=x:=by rw[R.f];rfl
    simp only[e1,e2,true_and,X1g] at h6;rw[h4];have rg:=good_head (h:=R.gd);rw[opn_hd] at rg;rw[←simO_eq rg];exact h6
   ·cases hh:Y5v (opn x') with
    |false=>rfl
    |true=>exact absurd h4 (simple_rng hh)
end
section
variable {t:List Int} {q:Qs} {g:Qf} {x:Tr} {u:Cu}
theorem sB_nil(lv:List Int):sB lv [] []=[]:=by
 rw[sB.eq_2];intro _ _ _ _ h;cases h
theorem lvF_eq{f f':Qf}(F:List Qf)(h:f'.op=f.op):lvF (f'::F)=lvF (f::F):=by rw[lvF,lvF,h]
theorem fh_open{lv:List Int}{f:Qf}(h:f.op=6∨9≤f.op):fh lv f=Y5y f.op::(Y07 lv (nf f) 0 f.ops++sepC (nf f) f.ops.length):=by
 unfold fh;rw[Vn,Vn,Vn]
theorem FolI.opd(R:FolI t q g x)(hb:q.base≠2)(ho:g.op=6∨g.op=13){x':Tr}(hx:Gd x')(hT:txF (g::q.F)++x.cells q.lv=txF q.F++fh (lvF q.F) g++x'.cells q.lv){q1:Qs}{f':Qf}{c:Int}(h1:q1.c=u)(h2:q1.F=q.F)(h3:q1.f=f')(h4:q1.lv=q.lv)(h5:q1.dn=false)
  (f1:f'.op=g.op) (f2:f'.ops=g.ops++[x']) (f3:f'.ts=[]) (f4:f'.ss=[]) (hs:∀j,j≤g.ops.length→sepC (nf f') j=sepC (nf g) j) (hc:sepC (nf f') (g.ops.length+1)=[c]) (hok:opOk f')
  (tk:Tk t u (txF (g::q.F)++x.cells q.lv++[c])):BegI t q1:=by
 have ll:lvF (g::q.F)=lvF q.F:=by rw[lvF,Vn]
 have⟨g',F',e,hg,_,fi⟩:=FI.outer R.fi (by omega);refine⟨?_, ?_, ?_,h5⟩
 ·rw[h1,h2,h3];have:txF (f'::q.F)=txF (g::q.F)++x.cells q.lv++[c]:=by
   rw[hT,txF,f3,f4,sB_nil,fh_open (by omega),fh_open (by omega),f1,f2,X5,Xk,hc,cellsL_snoc,cellsL_congr (lvF q.F) (nf f') (nf g) g.ops 0 (fun j _ hj=>hs j (by omega)),hs _ (by omega),R.lv,ll];simp
  rw[this];exact tk
 ·rw[h4,h2,h3,lvF_eq _ f1];exact R.lv
 ·rw[h2,h3,e];refine And.intro (by rw[f3,f4];exact trivial) (And.intro (fun k hk=> ?_) (And.intro hok fi));rw[f2,Xs,Xh] at hk;rcases hk with hk|rfl
  ·exact hg k hk
  ·exact hx
theorem sep13(N:Int)(j:Nat):sepC ⟨13,N⟩ j=if j=0 then[] else if(j:Int)%(N%8)=0 then[51] else[32]:=by
 unfold sepC
 by_cases h:j=0
 ·rw[if_pos h,if_pos h]
 ·rw[if_neg h,if_neg h,if_neg (by simp),if_pos rfl]
theorem sep_same{N:Int}(ho:g.op=13)(m:mOk g)(hc:g.cols=0∨g.ents+1=g.cols)(hN:N%8=g.ents+1):∀j,j≤g.ops.length→sepC ⟨13,N⟩ j=sepC (nf g) j:=by
 intro j hj;have⟨m1,m2,m3,m4,m5,m6,m7,m8⟩:=m;rw[nf,ho,sep13,sep13,hN]
 by_cases h0:g.cols=0
 ·have:=m7 h0;rw[if_pos h0];have e0:g.rows*g.cols=0:=by rw[h0];simp
  by_cases hj0:j=0
  ·rw[if_pos hj0,if_pos hj0]
  ·have e1:(j:Int)%(g.ents+1)=j:=X14 (by omega) (by omega);have e2:(j:Int)%(7%8)=j:=X14 (by omega) (by omega);rw[e1,e2]
 ·rw[if_neg h0];have e1:g.cols%8=g.ents+1:=by omega
  rw[e1]
theorem mat_len(m:mOk g)(hc:g.cols=0∨g.ents+1=g.cols):(g.ops.length:Int)+1=(g.rows+1)*(g.ents+1):=by
 have⟨m1,m2,m3,m4,m5,m6,m7,m8⟩:=m;rw[m6]
 by_cases h0:g.cols=0
 ·have:=(m7 h0).1;rw[h0,this];simp
 ·have:g.cols=g.ents+1:=by omega
  rw[this,Int.add_mul,Int.one_mul];omega
theorem big_cells{n:Y4}(h:n.Op=6∨9≤n.Op)(lv:List Int)(ks:List Tr):(Tr.node n ks).cells lv=Y5y n.Op::(Y07 lv n 0 ks++[Y1k n.Op]):=by
 rw[Y1z,Vn,Vn,Vn,Vn]
theorem FolI.matrix(R:FolI t q g x)(hb:q.base≠2)(ho:g.op=13):(Y3q t q).2.c.wr=true∨St t (Y3q t q).1 (Y3q t q).2:=by
 have⟨x',hx,h2,h3,h4⟩:=R.join hb;have⟨g',F',e,hg,ok,fi⟩:=FI.outer R.fi (by omega);have m:mOk g:=by
  rcases ok with h|h|h|h|h
  ·omega
  ·omega
  ·omega
  ·omega
  ·exact h.2
 have m':=m;have⟨m1,m2,m3,m4,m5,m6,m7,m8⟩:=m;have ll:lvF (g::q.F)=lvF q.F:=by rw[lvF,Vn]
 have T:=R.txt hb;have f1:q.f.ents=g.ents:=by rw[R.f];rfl
 have f2:q.f.cols=g.cols:=by rw[R.f];rfl
 have f3:q.f.rows=g.rows:=by rw[R.f];rfl
 have f4:q.f.op=g.op:=by rw[R.f];rfl
 have f5:q.f.ops=g.ops:=by rw[R.f];rfl
 unfold Y3q
 by_cases c1:q.f.ents+1<(if q.f.cols=0 then 4 else q.f.cols)∧hit t 32 q.c=true
 ·rw[if_pos c1];refine .inr ?_;have hlt:=c1.1;rw[f1,f2] at hlt;refine R.opd (x':=x') hb (.inr ho) h2 h3 (q1:=qOpd {qU q.c.adv q with f:={q.f with ents:=q.f.ents+1}}) (c:=32) rfl rfl rfl rfl R.dn f4 ?_ rfl rfl ?_ ?_ ?_ (T.hit c1.2)
  ·show q.f.ops++[qOpI _]=_;rw[f5,qOpI_of (by exact hx)]
  ·intro j hj;show sepC ⟨q.f.op,if q.f.cols=0 then 7 else q.f.cols⟩ j=_;rw[f4,f2];rfl
  ·show sepC ⟨q.f.op,if q.f.cols=0 then 7 else q.f.cols⟩ _=_;rw[f4,f2,ho,sep13,Vn,if_neg];push_cast;rw[m6]
   split
   ·rename_i h0;rw[if_pos h0] at hlt;have e0:g.rows*g.cols=0:=by rw[h0];simp
    rw[e0];have:=m7 h0;have e2:(0+g.ents+1)%(7%8)=0+g.ents+1:=X14 (by omega) (by omega);omega
   ·rename_i h0;rw[if_neg h0] at hlt;have e1:g.cols%8=g.cols:=by omega
    rw[e1];have e2:g.rows*g.cols+g.ents+1=(g.ents+1)+g.cols*g.rows:=by rw[Int.mul_comm g.cols];omega
    rw[e2,Int.add_mul_emod_self_left,X14 (by omega) (by omega)];omega
  ·refine .inr (.inr (.inr (.inr ⟨f4.trans ho, ?_⟩)));show 0≤q.f.cols∧q.f.cols≤4∧0≤q.f.rows∧q.f.rows≤3∧0≤q.f.ents+1∧((q.f.ops++[qOpI _]).length:Int)=q.f.rows*q.f.cols+(q.f.ents+1)∧(q.f.cols=0→q.f.rows=0∧q.f.ents+1≤3)∧(q.f.cols≠0→1≤q.f.rows∧q.f.ents+1+1≤q.f.cols);rw[f1,f2,f3,f5,X5,Xk];refine⟨m1,m2,m3,m4,by omega,by push_cast;omega,fun h0=> ?_,fun h0=> ?_⟩
   ·rw[if_pos h0] at hlt;exact⟨(m7 h0).1,by omega⟩
   ·rw[if_neg h0] at hlt;exact⟨(m8 h0).1,by omega⟩
 ·rw[if_neg c1]
  by_cases c2:q.f.cols≠0∧q.f.ents+1≠q.f.cols
  ·rw[if_pos c2];exact .inl rfl
  ·rw[if_neg c2];have hc:g.cols=0∨g.ents+1=g.cols:=by rw[f1,f2] at c2;omega
   have he4:g.ents+1≤4:=by
    rcases hc with hc|hc
    ·have:=m7 hc;omega
    ·omega
   have ml:=mat_len m' hc
   by_cases c3:q.f.rows+1<4∧hit t 51 q.c=true
   ·rw[if_pos c3];refine .inr<|R.opd (x':=x') hb (.inr ho) h2 h3 (q1:=qOpd (qRow (qU q.c.adv q))) (c:=51) rfl rfl rfl rfl R.dn f4 ?_ rfl rfl ?_ ?_ ?_ (T.hit c3.2)
    ·show q.f.ops++[qOpI _]=_;rw[f5,qOpI_of (by exact hx)]
    ·intro j hj;show sepC ⟨q.f.op,if q.f.ents+1=0 then 7 else q.f.ents+1⟩ j=_;rw[f1,Vn,f4,ho];exact sep_same ho m' hc (by omega) j hj
    ·show sepC ⟨q.f.op,if q.f.ents+1=0 then 7 else q.f.ents+1⟩ _=_;rw[f1,Vn,f4,ho,sep13,Vn,if_pos];push_cast;rw[ml];have e1:(g.ents+1)%8=g.ents+1:=by omega
     rw[e1];exact Int.mul_emod_left _ _
    ·refine .inr (.inr (.inr (.inr ⟨f4.trans ho, ?_⟩)));show 0≤q.f.ents+1∧q.f.ents+1≤4∧0≤q.f.rows+1∧q.f.rows+1≤3∧(0:Int)≤0∧((q.f.ops++[qOpI _]).length:Int)=(q.f.rows+1)*(q.f.ents+1)+0∧(q.f.ents+1=0→q.f.rows+1=0∧(0:Int)≤3)∧(q.f.ents+1≠0→1≤q.f.rows+1∧(0:Int)+1≤q.f.ents+1);have c4:=c3.1;rw[f3] at c4;rw[f1,f3,f5,X5,Xk];exact⟨by omega,by omega,by omega,by omega,by omega,by push_cast;omega,fun h0=>by omega,fun h0=>⟨by omega,by omega⟩⟩
   ·rw[if_neg c3]
    by_cases hw:(xpc t [43] q.c).wr=true
    ·left
     show(Y2c _ _ _ _).c.wr=true;rw[close_c];exact hw
    ·refine .inr ?_;have X:=T.xpc (s:=[43]) (by simpa using hw);rw[h3] at X;rw[f3,f1];have hN:(8*(g.rows+1)+(g.ents+1))%8=g.ents+1:=by omega
     refine R.close (op:=13) hb (by omega) (x':=x') hx (n:=8*(g.rows+1)+(g.ents+1)) (b:=1) (q1:=qRow (qU (xpc t [43] q.c) q)) rfl rfl rfl rfl rfl (by show q.lv=_;rw[R.lv,ll]) R.dn ?_ ?_ (by omega) (.inr (.inl ⟨rfl,rfl⟩))
     ·have:txF q.F++(Tr.node ⟨13,8*(g.rows+1)+(g.ents+1)⟩ (g.ops++[x'])).cells (lvF q.F)=txF q.F++fh (lvF q.F) g++x'.cells q.lv++[43]:=by
       rw[big_cells (by simp),fh_open (by omega),cellsL_snoc,cellsL_congr (lvF q.F) _ (nf g) g.ops 0 (fun j _ hj=>sep_same ho m' hc hN j (by omega)),sep_same ho m' hc hN _ (by omega),R.lv,ll,ho];simp[Y1k]
      rw[this];exact X
     ·refine Gd.node ?_ (fun k hk=> ?_) (fun i k hk=>adm_any (by simp) (by simp))
      ·rw[ar,if_neg (by simp),if_neg (by simp),if_neg (by simp),if_neg (by simp),if_neg (by simp),if_pos rfl,if_pos (by simp only;omega),X5,Xk];have e1:(8*(g.rows+1)+(g.ents+1))/8=g.rows+1:=by omega
       simp only[e1,hN,X0];rw[←ml];omega
      ·rw[Xs,Xh] at hk;rcases hk with hk|rfl
       ·exact hg k hk
       ·exact h2
end
end Go.Proofs.YtfpcbalkioolmaaDoor
