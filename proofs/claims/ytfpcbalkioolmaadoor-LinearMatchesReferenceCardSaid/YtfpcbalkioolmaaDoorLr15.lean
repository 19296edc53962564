/- Own work. -/
import Derived.Test.YtfpcbalkioolmaaDoorLrD
import Derived.Test.YtfpcbalkioolmaaDoorLqA
import Derived.Test.YtfpcbalkioolmaaDoorWpB
set_option linter.unusedSimpArgs false
set_option linter.unusedVariables false
set_option maxRecDepth 100000
namespace Go.Abs
theorem Hol.toNil{X:Ctx}{h:Hp}{ι:Nat→Bk}{w:World}(H:Hol X h ι w)(hp:∀r,X.pin r=none):Hol X [] ι w where
 roots r rt hr:=by cases hr
 inj r r' rt rt' q h1:=by cases h1
 place r rt q h1:=by cases h1
 os:=H.os
 tape:=H.tape
 output:=H.output
 size:=H.size
 frame:=H.frame
 old:=H.old
 glob:=H.glob
 pin r b k h1:=by simp_all
theorem frzNil{X:Ctx}{h:Hp}{ι:Nat→Bk}{w:World}{v:Value}(H:Hol X h ι w){r ver n:Nat}{rt:Rt}{ys:List IV}(h1:h.at r=some rt)(h2:rt.ver=ver)(h3:rt.live=true)(h4:rt.cs.take (n*rt.k)=ys.map .im)(h5:ys.length=n*rt.k)
  (hv:VR w h ι (Own X.B h ι) (.rsl r ver 0 n) v):VR w [] ι (Own X.B [] ι) (.im (.sl ys n)) v:=by
 have hsrc:=ArgS.slice (h:=h) (bs:=[r]) (by simp) h1 h2 h3 (by simp_all) h5 X ι w _ H hv;refine VR.pure (fun β _ hA=>⟨rfl,fun ho=>hA ?_⟩) _ _ rfl hsrc;have hb:X.B β:=by
  rcases ho with hb|⟨r',rt',hr',_⟩
  ·exact hb
  ·cases hr'
 refine⟨.inl hb,fun s hs hg=> ?_⟩;simp at hs;subst hs;exact(H.place s rt β h1 h3 hg).1 hb
theorem nilNil{X:Ctx}{h:Hp}{ι:Nat→Bk}{w:World}{v:Value}(hv:VR w h ι (Own X.B h ι) nilA v):VR w [] ι (Own X.B [] ι) (.im (.sl [] 0)) v:=by
 refine Sub.nil _ _ _ _ _ ?_;rw[Y0z] at hv⊢;exact hv
theorem QSpec.ofFrz{P:Program}{f:FuncId}{args:List AV}{h':Hp}{x:AV}{n e:Int}{m:Nat}{ys:List IV}(hc:CallOK P f args [] h' (.tup [x,.int .i64 n,.int .i64 e]))
  (hx:(x=nilA∧ys=[]∧m=0)∨∃r ver rt,x= .rsl r ver 0 m∧h'.at r=some rt∧rt.ver=ver∧rt.live=true∧rt.cs.take (m*rt.k)=ys.map .im∧ys.length=m*rt.k):QSpec P f args (.tup [.im (.sl ys m),.int .i64 n,.int .i64 e]):=by
 intro w ι B vs H hv;refine(hc _ w ι vs H hv).mono ?_;rintro e' w' ⟨v,ι',rfl,H',K',hvr⟩;refine⟨v,_,[],ι',rfl,rfl,H'.toNil (fun r=> ?_), ?_⟩
 ·rfl
 ·simp only[VR,VRL] at hvr⊢;obtain⟨l,rfl,v1,l1,rfl,hv1,v2,l2,rfl,hv2,v3,l3,rfl,hv3,rfl⟩:=hvr;refine⟨_,rfl,v1,_,rfl, ?_,v2,_,rfl, ?_,v3,_,rfl, ?_,rfl⟩
  ·rcases hx with⟨rfl,rfl,rfl⟩|⟨r,ver,rt,rfl,b1,b2,b3,b4,b5⟩
   ·exact nilNil (X:=⟨w,B,Own (fun x=>False) [] ι,pinOf [] ι⟩) (h:=h') (w:=w') (v:=v1) (ι:=ι') hv1
   ·exact frzNil H' b1 b2 b3 b4 b5 hv1
  ·exact hv2
  ·exact hv3
end Go.Abs
namespace Go.Proofs.YtfpcbalkioolmaaDoor
open Go.Abs
structure Kp (x:AV) (h:Hp) (g:Tag) (y:AV) (h':Hp) (g':Tag):Prop where
 keep:KeptE (Y18 x) h g h' g'
 root:∀r∈Y18 y,r∈Y18 x∨h.at r=none
 live:∀r,h.at r≠none→h'.at r≠none
theorem Kp.trans{x y z:AV}{h h1 h2:Hp}{g g1 g2:Tag}(a:Kp x h g y h1 g1)(b:Kp y h1 g1 z h2 g2):Kp x h g z h2 g2:=by
 refine⟨fun r hr hn hg=> ?_,fun r hr=> ?_,fun r hr=>b.live r (a.live r hr)⟩
 ·have⟨c1,c2⟩:=a.keep r hr hn hg;have⟨d1,d2⟩:=b.keep r (fun hy=>by
   rcases a.root r hy with h|h
   ·exact hr h
   grind) (by simp_all) c2
  simp_all
 ·rcases b.root r hr with h3|h3
  ·exact a.root r h3
  ·by_cases hz:h.at r=none
   ·grind
   ·exact absurd h3 (a.live r hz)
def nodesC (l:List Y1):List AV:=l.flatMap fun a=>[.int .i64 a.Op,.int .i64 a.N]
theorem nodesC_app(a b:List Y1):nodesC (a++b)=nodesC a++nodesC b:=by simp[nodesC]
theorem nodesC_im(l:List Y1):nodesC l=(l.flatMap eS_Node).map .im:=by
 induction l with
 |nil=>rfl
 |cons a l ih=>
  have:nodesC (a::l)=[.int .i64 a.Op,.int .i64 a.N]++nodesC l:=by rfl
  rw[this,ih]
  rfl
section
variable {h:Hp} {g:Tag} {t:List Int} {s:Ls} {L:Lay} {n0:Nat}
theorem appOther(R:Rep h g t s L){x:AV}{e k n:Nat}{cs:List AV}{bytes:Nat}(hx:SlA h x e k n cs)(hg:∀r∈Y18 x,g r=4)(news:List AV)(hk:news.length=k)(hb:(n+1)*bytes≤140737488355328)(hn:n+1≤140737488355328):
  ∃h1 g1 y,App h x e k bytes 1 news h1 y∧NC y∧SlA h1 y e k (n+1) (cs++news)∧(∀r∈Y18 y,g1 r=4)∧Rep h1 g1 t s L∧Kp x h g y h1 g1:=by
 have⟨h1,y,q,a1,a2,a3,a4,a5,a6⟩:=SlA.app (bytes:=bytes) hx news hk hb hn;have hq:h.at q=none∨g q=4:=by
  grind
 have gu:∀r,h.at r≠none→upg g q 4 r=g r:=fun r hr=>by
  by_cases e:r=q
  ·subst e;rcases hq with hq|hq
   ·simp_all
   ·rw[upg_self,hq]
  ·exact upg_ne g 4 e
 refine⟨h1,upg g q 4,y,a1,a2,a3,fun r hr=> ?_,R.kpt (Kpt.grown a5 hq (by simp)),fun r hr hn hg'=> ?_,fun r hr=> ?_,fun r hr=> ?_⟩
 ·rw[a4] at hr;simp only[X8] at hr;rw[hr];exact upg_self _ _ _
 ·have e:r≠q:=fun e=>by
   simp_all
  exact⟨a5 r (by grind),(gu r hn).trans hg'⟩
 ·grind
 ·by_cases e:r=q
  ·exact a3.dom r (by simp_all)
  ·rw[a5 r (by grind)];exact hr
theorem treesC_two{T:List Tn}{X:List AV}(hl:X.length=T.length){i:Nat}(hi:i<T.length):((treesC T X).drop (i*4)).take 2=[.int .i64 (T.getD i noT).op,.int .i64 (T.getD i noT).n]:=by
 have h1:T[i]? =some T[i]:=X5 hi;have h2:X[i]? =some (X[i]'(by omega)):=X5 (by omega);have:=treesC_get T X i _ _ h1 h2;have e:=congrArg (List.take 2) this;rw[X10,show min 2 4=2 by rfl] at e;rw[e,X6,h1]
 rfl
theorem treesC_ops{T:List Tn}{X:List AV}(hl:X.length=T.length){i:Nat}(hi:i<T.length):(treesC T X)[i*4+2]? =some (X[i]'(by omega)):=by
 have h1:T[i]? =some T[i]:=X5 hi;have h2:X[i]? =some (X[i]'(by omega)):=X5 (by omega);have:=treesC_get T X i _ _ h1 h2;have e:=congrArg (fun l:List AV=>l[2]?) this;simp only[Xs,X0n,treeC] at e
 simp_all
theorem c_flat(hT:OkT s.T):∀(m:Nat) (i:Int) (h:Hp) (g:Tag) (x:AV) (l:List Y1),i<(m:Nat)→0≤i→i<(s.T.length:Nat)→Rep h g t s L→SlA h x 50 2 l.length (nodesC l)→(∀r∈Y18 x,g r=4)→l.length+nd (tr s.T i)≤1000000000→
  ∃h' g' y,CallOK Tryd.prog 29 [.ref L.p 0 0,x,.int .i64 i] h h' y∧NC y∧Rep h' g' t s L∧SlA h' y 50 2 (l++(tr s.T i).flat).length (nodesC (l++(tr s.T i).flat))∧(∀r∈Y18 y,g' r=4)∧Kp x h g y h' g':=by
 intro m
 induction m with
 |zero=>omega
 |succ m ih=>
  intro i h g x l hm i0 i1 R hx hg hb;have fs:=tr_step hT ⟨i0,i1⟩;have hops:=hT.ops ⟨i0,i1⟩;have hin:i.toNat<s.T.length:=by omega
  have⟨tn,ht1,ht2⟩:=getD_in ⟨i0,i1⟩;rw[ht2] at fs hops;rw[fs,Y5y] at hb;have hol:tn.ops.length≤1000000000:=by
   have:=len_ndL (tn.ops.map (tr s.T))
   grind
  have flL:∀l:List Int,(Y0y (l.map (tr s.T))).length=ndL (l.map (tr s.T)):=fun _=>rfl
  --the node
  have⟨r2,v2,e1,e2,e3,e4⟩:=SlA.ix R.tp.trs i0 i1;have n2:=e4 2 (by omega);rw[treesC_two R.tp.lX hin,ht2] at n2;have⟨q,hq⟩:=h.fresh;have⟨a1,a2,a3,a4⟩:=R.grow (u:=4) (rt:=⟨0,true,50,2,[.int .i64 tn.op,.int .i64 tn.n]⟩) (.inr rfl) hq;have xs1:=SlA.kpt ⟨hx,hg⟩ (a3 fun u=>u=4) rfl;have⟨h1,g1,y,b1,b2,b3,b4,b5,b6⟩:=appOther a2 (bytes:=16) xs1.1 xs1.2 [.int .i64 tn.op,.int .i64 tn.n] rfl (by omega) (by omega);have⟨r3,v3,f1,f2,f3,f4⟩:=SlA.ix b5.tp.trs i0 i1;have o2:=f3 2 _ (by omega) (treesC_ops b5.tp.lX hin);have hX:L.X[i.toNat]? =some (L.X[i.toNat]'(by grind)):=X5 _;generalize L.X[i.toNat]'(by grind)=xo at hX o2;have xs1:=b5.tp.xs i.toNat xo tn hX ht1;have K0:Kp x h g x ((q,⟨0,true,50,2,[.int .i64 tn.op,.int .i64 tn.n]⟩)::h) (upg g q 4):=⟨((a3 fun u=>u=4).kept rfl).toE,fun r hr=>.inl hr,fun r hr=>by rw[grow_at hq hr];exact hr⟩;have K1:Kp x h g y h1 g1:=K0.trans b6;have hp:pre_flat h L.p x i (fun h' y'=>NC y'∧∃g',Rep h' g' t s L∧SlA h' y' 50 2 (l++(tr s.T i).flat).length (nodesC (l++(tr s.T i).flat))∧(∀r∈Y18 y',g' r=4)∧Kp x h g y' h' g') (fun _ _=>False):=by
   refine⟨R.has,L.xt,R.tp.trs.nc,R.ldT,r2,v2,_,e1,e2,tn.op,tn.n,n2,q,_,a1,h1,y,b2,b1,b5.has,L.xt,b5.tp.trs.nc,b5.ldT,r3,v3,_,f1,f2,xo,xs1.1.nc,o2,tn.ops.length,xs1.1.len,
    fun m9 y9 j h9=>∃g9,Rep h9 g9 t s L∧0≤j∧j≤(tn.ops.length:Nat)∧m9=tn.ops.length-j.toNat∧SlA h9 y9 50 2 (l++⟨tn.op,tn.n⟩::Y0y ((tn.ops.take j.toNat).map (tr s.T))).length (nodesC (l++⟨tn.op,tn.n⟩::Y0y ((tn.ops.take j.toNat).map (tr s.T))))∧(∀r∈Y18 y9,g9 r=4)∧Kp x h g y9 h9 g9,
    ⟨tn.ops.length,g1,b5,by omega,by omega,by simp, ?_,b4,K1⟩, ?_⟩
   ·have e:(l++(⟨tn.op,tn.n⟩:Y1)::Y0y ((tn.ops.take (0:Int).toNat).map (tr s.T)))=l++[⟨tn.op,tn.n⟩]:=by rfl
    rw[e,nodesC_app,X4,Xc];exact b3
   ·rintro m9 y9 j h9 ⟨g9,R9,j0,j1,rfl,S9,G9,K9⟩ nc9;refine⟨fun hj=> ?_,fun hj=> ?_⟩
    ·have hj':j<(tn.ops.length:Nat):=of_decide_eq_true hj;have hjn:j.toNat<tn.ops.length:=by omega
     have xs9:=R9.tp.xs i.toNat xo tn hX ht1;have⟨r4,v4,o4,c1,c2⟩:=SlI.get xs9.1 j0 hj';have hmem:tn.ops.getD j.toNat 0∈tn.ops:=by
      simp_all
     have ho:=hops _ hmem;have etake:tn.ops.take (j.toNat+1)=tn.ops.take j.toNat++[tn.ops.getD j.toNat 0]:=by
      simp_all
     have hlen:ndL ((tn.ops.take (j.toNat+1)).map (tr s.T))≤ndL (tn.ops.map (tr s.T)):=by
      conv=>rhs;rw[←X0i (j.toNat+1) tn.ops]
      rw[X0j,Y79];omega
     rw[etake,X0j,Y79] at hlen;have hone:ndL ([tn.ops.getD j.toNat 0].map (tr s.T))=nd (tr s.T (tn.ops.getD j.toNat 0)):=by simp[Y10,Y27]
     rw[hone] at hlen;have⟨h8,g8,y8,d1,d2,d3,d4,d5,d6⟩:=ih (tn.ops.getD j.toNat 0) h9 g9 y9 (l++⟨tn.op,tn.n⟩::Y0y ((tn.ops.take j.toNat).map (tr s.T))) (by omega) ho.1 (by omega) R9 S9 G9 (by
      grind)
     have ecat:(l++(⟨tn.op,tn.n⟩:Y1)::Y0y ((tn.ops.take j.toNat).map (tr s.T)))++(tr s.T (tn.ops.getD j.toNat 0)).flat=l++⟨tn.op,tn.n⟩::Y0y ((tn.ops.take (j+1).toNat).map (tr s.T)):=by
      rw[show(j+1).toNat=j.toNat+1 by omega,etake,X0j,flatL_map,flatL_map];simp
     rw[ecat] at d4;refine⟨r4,v4,o4,c1,_,c2,h8,y8,d2,d1,Y93 (by omega) (by omega),tn.ops.length-(j+1).toNat,by omega,g8,d3,by omega,by omega,rfl,d4,d5,K9.trans d6⟩
    ·have hj':j.toNat=tn.ops.length:=by grind
     rw[hj',Xu (Xk _)] at S9;have ef:(tr s.T i).flat=⟨tn.op,tn.n⟩::Y0y (tn.ops.map (tr s.T)):=by rw[fs,Tr.flat]
     grind
  have H:=Y3g (w_flat hx.nc hp)
  grind
end
def mFin (t:List Int) (q:Qs):List Y1×Int×Int:=
 if q.c.wr=true then([],q.c.at_,100) else if 60<szQ q+q.f.ss.length then([],0,2) else if 8<(qOpI q).dep then([],0,2) else((qOpI q).flat,(t.length:Nat),0)
def mRead (t:List Int):List Y1×Int×Int:=mFin t (mRun t)
theorem qRun_stop{t:List Int}{q:Qs}(h:q.c.wr=true∨q.dn=true):∀(k:Nat) (b:Bool),qRun t k b q=q
 |0,_=>rfl
 |k+1,b=>by rw[qRun,if_pos h]
section
variable {h:Hp} {g:Tag} {t:List Int} {s:Ls} {L:Lay}
theorem abs_lens(s:Ls):(abs s).f.ts.length=s.f.terms.length∧(abs s).f.ss.length=s.f.signs.length∧(abs s).F.length=s.F.length∧(abs s).f.ops.length=s.f.ops.length:=by simp[abs,alf]
theorem szF_mem{f:Qf}:∀{F:List Qf},f∈F→szF f≤szFs F
 |[],h=>by simp at h
 |g::F,h=>by
  simp only[Xb] at h;simp only[szFs];rcases h with rfl|h
  ·omega
  ·have:=szF_mem h;omega
theorem inv_F{b:Bool}(Q:QI t (abs s) b)(v:Ok s 0)(hl:t.length≤1000000):Bd t s∧(b=false→InvF t s):=by
 have Q0:QJ t (abs s) (if b=true then 0 else 1) 0:=Q;have⟨l1,l2,l3,l4⟩:=abs_lens s;have o:CuOk t s.c:=Q0.o;have a1:=o.a1;have hp:=Q0.pot;have hn:=Q0.nF;have hv:=Q0.nl;have ht:=v.tot;have hc:(abs s).c=s.c:=rfl;have hlv:(abs s).lv=s.lv:=rfl;rw[hc] at hp hn hv;rw[hlv] at hv;simp only[sgs] at hp;rw[l2] at hp;rw[l3] at hn;have sz1:szF (abs s).f≤szQ (abs s):=by simp only[szQ];omega
 have tm1:=len_ndL (abs s).f.ts;have tm2:=len_ndL (abs s).f.ops;simp only[szF] at sz1;rw[l1] at tm1;rw[l4] at tm2;have bd:Bd t s:=⟨o,by omega,by omega,by omega,by omega⟩;refine⟨bd,fun hb=> ?_⟩;subst hb;have hlen:=Q0.len;rw[l1,l2] at hlen;have hm:=Q0.mat (abs s).f (by simp);refine⟨⟨v,by simp_all,by omega,by omega⟩,bd,by omega,hm, ?_,fun f hf=> ?_,by omega,fun ho=> ?_⟩
 ·by_cases hF:s.F=[]
  ·left
   have:=Q0.bot;have e:(abs s).F=[]:=by simp_all
   rw[e] at this;exact this
  simp_all
 ·have hmem:alf s.T f∈(abs s).F:=by simp only[abs,List.mem_reverse,Xp];grind
  have h1:=szF_mem hmem;have h2:=len_ndL (alf s.T f).ts;have h3:(alf s.T f).ts.length=f.terms.length:=by simp[alf]
  have h4:szFs (abs s).F≤szQ (abs s):=by simp only[szQ];omega
  simp only[szF] at h1;omega
 ·have:=Q0.gr (abs s).f (by simp) ho
  grind
theorem c_step(R:Rep h g t s L)(hfn:L.fn=s.F.length+1)(v:Ok s 0){b:Bool}(Q:QI t (abs s) b)(hl:t.length≤1000000):∃h' av,CallOK Tryd.prog (if b=true then 26 else 27) [.ref L.p 0 0] h h' av∧Y7i h g t L (Y54 t b (abs s)) h' av:=by
 have⟨b1,b2⟩:=inv_F Q v hl;cases b with
 |true=>exact c_begin R hfn v b1
 |false=>exact c_follow R hfn (b2 rfl)
structure RI (t:List Int) (r8 m:Nat) (h:Hp) (s:Ls) (g:Tag) (L:Lay) (b:Bool):Prop where
 R:Rep h g t s L
 p:L.p=r8
 fn:L.fn=s.F.length+1
 v:Ok s 0
 run:qRun t m b (abs s)=mRun t
 st:s.c.wr=true∨(s.c.wr=false∧s.dn=true∧(abs s).f.ts.length=(abs s).f.ss.length+1∧szQ (abs s)+(abs s).f.ss.length≤100000000∧(abs s).F.length≤100000000)∨(s.c.wr=false∧s.dn=false∧QI t (abs s) b∧(t.length:Int)+1<m+s.c.at_)
def resC (r:List Y1×Int×Int) (h':Hp) (av:AV):Prop:=∃x,av= .tup [x,.int .i64 r.2.1,.int .i64 r.2.2]∧SlA h' x 50 2 r.1.length (nodesC r.1)
theorem RI.fin{r8 m:Nat}{b:Bool}(I:RI t r8 m h s g L b)(hw:s.c.wr=false)(hd:s.dn=true){Q:Hp→AV→Prop}(hQ:∀h' av,resC (mRead t) h' av→Q h' av):
  ∃(h37:Hp),∃(x38:Int),(CallOK Tryd.prog 28 [.ref r8 0 0] h h37 (.int .i64 x38))∧(Has h37 r8 0)∧∃(s41:AV),(NC s41)∧(Ld h37 r8 0 3 s41)∧∃(n44:Nat),(Len h37 s41 n44)∧(((decide ((60:Int)<((n44:Nat):Int)))=true→(Q h37 (.tup [.im (.val (.slice none 0 0)),.int .i64 0,.int .i64 2])))∧((decide ((60:Int)<((n44:Nat):Int)))=false→∃(r47:Nat),∃(v48:Nat),∃(o49:Nat),(Ix h37 s41 4 (x38:Int) (.ref r47 v48 o49))∧(Has h37 r47 v48)∧∃(x52:Int),(Ld h37 r47 v48 (o49+3) (.int .i64 x52))∧(((decide ((8:Int)<x52))=true→(Q h37 (.tup [.im (.val (.slice none 0 0)),.int .i64 0,.int .i64 2])))∧((decide ((8:Int)<x52))=false→∃(h55:Hp),∃(s56:AV),(NC s56)∧(CallOK Tryd.prog 29 [.ref r8 0 0,.im (.val (.slice none 0 0)),.int .i64 x38] h37 h55 s56)∧∃(n59:Nat),(Len h55 (slA (eI .u8) t) n59)∧(Q h55 (.tup [s56,.int .i64 ((n59:Nat):Int),.int .i64 0])))))):=by
 have⟨R,p,fn,v,run,st⟩:=I;have ef:mRun t=abs s:=by rw[←run];exact qRun_stop (.inr hd) _ _
 have⟨x1,x2,x3⟩:(abs s).f.ts.length=(abs s).f.ss.length+1∧szQ (abs s)+(abs s).f.ss.length≤100000000∧(abs s).F.length≤100000000:=by
  simp_all
 have⟨l1,l2,l3,l4⟩:=abs_lens s;have ht:=v.tot;have J:InvJ s 0:=⟨v,by omega,by omega,by omega⟩;subst p;have⟨h1,g1,L1,a1,a2,a3,a4⟩:=c_operand R fn J;have⟨o1,o2,o3,o4⟩:=pOperand_ok J;have⟨p1,p2,p3,p4,p5⟩:=pOp_one J;have eT:(Y2m s).T=(Y55 0 s.f.signs.length s).T:=rfl;have⟨r3,v3,f1,f2,f3,f4⟩:=SlA.ix a2.tp.trs p3 p4;have d3:=f3 3 _ (by omega) (treesC_dep a2.tp.lX (by simp_all));have hdep:=o1.dep (pOpI s) p3 p4;have hsz:=o1.tot;have ep:L1.p=L.p:=a4.p;have hh:=a2.has;have hlT:=a2.ldT;rw[ep] at hh hlT;have hwf:(mRun t).c.wr=false:=by rw[ef];exact hw
 have mr:mRead t=if 60<szQ (abs s)+(abs s).f.ss.length then([],0,2) else if 8<(qOpI (abs s)).dep then([],0,2) else((qOpI (abs s)).flat,((t.length:Nat):Int),0):=by
  rw[mRead,mFin,if_neg (by simp_all),ef]
 have eN:(Y2m s).T.length=szQ (abs s)+(abs s).f.ss.length:=by omega
 have nil2:mRead t=([],0,2)→∀h',Q h' (.tup [.im (.val (.slice none 0 0)),.int .i64 0,.int .i64 2]):=fun e h'=>hQ h' _ ⟨nilA,by rw[e],.inl ⟨rfl,by grind,by rw[e];rfl⟩⟩;refine⟨h1,_,a1,hh,L1.xt,a2.tp.trs.nc,hlT,(Y2m s).T.length,a2.tp.trs.len,fun h60=> ?_,fun h60=> ?_⟩
 ·grind
 ·have h60':¬60<szQ (abs s)+(abs s).f.ss.length:=by grind
  refine⟨r3,v3,_,f1,f2,_,d3,fun h8=> ?_,fun h8=> ?_⟩
  ·grind
  ·have h8':¬8<(qOpI (abs s)).dep:=by
    grind
   rw[if_neg h60',if_neg h8'] at mr;have p5':tr (Y2m s).T (pOpI s)=qOpI (abs s):=p5;have⟨h7,g7,y,c1,c2,c3,c4,c5,c6⟩:=c_flat (L:=L1) o1.okT ((pOpI s).toNat+1) (pOpI s) h1 g1 nilA [] (by omega) p3 p4 a2 (.inl ⟨rfl,rfl,rfl⟩) (fun r hr=>by simp[Y18] at hr) (by
    grind)
   rw[ep] at c1;rw[p5',Xt] at c4;exact⟨h7,y,c2,c1,(t.length:Nat),.inr (.inr ⟨_,rfl⟩),hQ h7 _ ⟨y,by rw[mr],by simp_all⟩⟩
end
theorem c_Read0{t:List Int}(hl:t.length≤1000000):∃h' av,CallOK Tryd.prog 15 [slA (eI .u8) t] [] h' av∧resC (mRead t) h' av:=by
 refine Y3g (w_Read (h:=[]) (a0:=slA (eI .u8) t) (Q:=resC (mRead t)) (Qp:=fun _ _=>False) ⟨trivial,rfl⟩ ?_);have hbr:CallOK Tryd.prog 23 [] [(0,⟨0,true,63,7,[.int .i64 (-1),nilA,nilA,nilA,.int .i64 0,.int .i64 0,.int .i64 0]⟩)] [(0,⟨0,true,63,7,[.int .i64 (-1),nilA,nilA,nilA,.int .i64 0,.int .i64 0,.int .i64 0]⟩)] (.im (.mp (mapV Y57))):=CallOK.ofQ (f_linear_brackets_ok (r:=()) rfl) rfl rfl _;refine⟨0,_,⟨rfl,rfl⟩,_,hbr,trivial,Has.mk (Y2z _ _ _) rfl,1,_,⟨rfl,rfl⟩,fun m f h=>∃s g L b,f=(if b=true then 26 else 27)∧RI t 1 m h s g L b, ?_, ?_⟩
 ·refine⟨t.length+2,⟨⟨0,false⟩,[],[],⟨-1,[],[],[],0,0,0⟩,[],0,false⟩,fun r=>if r=1 then 0 else 1,⟨1,0,0,1,nilA,nilA,[],[],⟨nilA,nilA,nilA⟩,[]⟩,true,rfl,⟨⟨rfl,rfl,⟨rfl,rfl,rfl,trivial,⟨⟨SlI.nil _,fun r hr=>by simp[Y18] at hr⟩,⟨SlI.nil _,fun r hr=>by simp[Y18] at hr⟩,SlI.nil _,fun r hr=>by simp[Y18] at hr⟩⟩,⟨.inl ⟨rfl,rfl,rfl⟩,fun r hr=>by simp[Y18] at hr,rfl,fun i x t a b=>by simp at a⟩,.inl ⟨rfl,rfl,rfl⟩,fun r hr=>by simp[Y18] at hr⟩,rfl,rfl,⟨fun i t hi=>by simp at hi,fun f hf=>by simp at hf,⟨fun i hi=>by simp at hi,fun i hi=>by simp at hi⟩,fun i h0 h1=>by grind,rfl⟩,rfl,.inr (.inr ⟨rfl,rfl, ?_,by simp_all⟩)⟩⟩;refine⟨rfl,fun f hf=>by simp[abs] at hf,rfl,fun f hf=> ?_,fun f hf=> ?_, ?_, ?_, ?_,⟨by simp[abs],by simp[abs]⟩⟩
  ·simp[abs] at hf;rw[hf];exact⟨by simp[alf],by simp[alf],by simp[alf],by simp[alf],by simp[alf],by simp[alf]⟩
  ·simp[abs] at hf;rw[hf];intro e
   rfl
  ·simp[abs,szQ,szF,szFs,sgs,alf,Y27]
  ·simp[abs]
  ·simp[abs]
 ·rintro m f h ⟨s,g,L,b,rfl,I⟩;have hh:=I.R.has;have hlW:=I.R.ldW;have hlD:=I.R.ldD;have hlA:=I.R.ldAt;rw[I.p] at hh hlW hlD hlA;refine⟨hh,s.c.wr,hlW,fun hw=>⟨s.dn,hlD,fun hd=>⟨?_, ?_⟩,fun hd=>⟨fun hw2=> ?_,fun hw2=> ?_⟩⟩,fun hw=>⟨fun hw2=> ?_,fun hw2=> ?_⟩⟩
  ·cases b<;>kernel_rfl
  ·have hw':s.c.wr=false:=by simp_all
   have hd':s.dn=false:=by simp_all
   have⟨hQ,hm⟩:QI t (abs s) b∧(t.length:Int)+1<m+s.c.at_:=by
    rcases I.st with st|st|st
    ·simp_all
    ·simp_all
    simp_all
   have oc:CuOk t s.c:=QJ.o hQ;have a1:=oc.a1;obtain⟨k,rfl⟩:∃k,m=k+1:=⟨m-1,by omega⟩;have⟨h1,av,x1,x2⟩:=c_step I.R I.fn I.v hQ hl;rw[I.p] at x1;have⟨x3,g1,L1,s1,y1,y2,y3,y4,y5,y6⟩:=x2;subst x3;have nx:RI t 1 k h1 s1 g1 L1 (Y54 t b (abs s)).1:=by
    refine⟨y1,y5.trans I.p,y6,y2, ?_, ?_⟩
    ·have:=I.run;rw[qRun,if_neg (by show ¬(s.c.wr=true∨s.dn=true);simp_all)] at this
     simp_all
    ·have c1:s1.c=(Y54 t b (abs s)).2.c:=by rw[←y3];rfl
     have c2:s1.dn=(Y54 t b (abs s)).2.dn:=by rw[←y3];rfl
     have fineC:∀r:Bool×Qs,r=Y54 t b (abs s)→Fine t (abs s) r→s1.c.wr=false→s1.c.wr=true∨(s1.c.wr=false∧s1.dn=true∧(abs s1).f.ts.length=(abs s1).f.ss.length+1∧szQ (abs s1)+(abs s1).f.ss.length≤100000000∧(abs s1).F.length≤100000000)∨(s1.c.wr=false∧s1.dn=false∧QI t (abs s1) (Y54 t b (abs s)).1∧(t.length:Int)+1<k+s1.c.at_):=fun r er F hw1=>by
      subst er;refine .inr (.inr ⟨hw1,by rw[c2,F.dn];exact hd',by rw[y3];exact F.inv, ?_⟩);have:=F.adv;rw[c1];have e:(abs s).c.at_=s.c.at_:=rfl;omega
     by_cases hw1:s1.c.wr=true
     ·simp_all
     ·have hw1:s1.c.wr=false:=by simp_all
      have hw1':¬(Y54 t b (abs s)).2.c.wr=true:=by simp_all
      cases b with
      |true=>exact fineC (Y0x t (abs s)) rfl ((begin_inv hQ).resolve_left hw1') hw1
      |false=>
       rcases(follow_inv hQ hw').resolve_left hw1' with F|⟨z1,z2,z3,z4,z5,z6⟩
       ·exact fineC (Yk t (abs s)) rfl F hw1
       ·have eF:(abs s1).F=(abs s).F:=by rw[y3];exact z3
        have ef:(abs s1).f=(abs s).f:=by rw[y3];exact z4
        have hQ0:QJ t (abs s) 1 0:=hQ;have hp:=hQ0.pot;have hn:=hQ0.nF;have e:(abs s).c.at_=s.c.at_:=rfl;rw[e] at hp hn;simp only[sgs] at hp;refine .inr (.inl ⟨hw1,by rw[c2];exact z1,by rw[ef];exact hQ0.len, ?_,by grind⟩);have esz:szQ (abs s1)=szQ (abs s):=by simp only[szQ,eF,ef]
        grind
   refine⟨h1,_,x1,fun hb=>⟨k,by omega,s1,g1,L1,_, ?_,nx⟩,fun hb=>⟨k,by omega,s1,g1,L1,_, ?_,nx⟩⟩
   ·have hb':(Y54 t b (abs s)).1=true:=hb;rw[if_pos hb']
   simp_all
  ·simp_all
  ·exact I.fin hw2 (by simp_all) fun h' av hr=>hr
  ·have ef:mRun t=abs s:=by rw[←I.run];exact qRun_stop (.inl hw2) _ _
   have mr:mRead t=([],s.c.at_,100):=by
    rw[mRead,mFin,ef,if_pos (by exact hw2)]
    rfl
   exact⟨s.c.at_,hlA,nilA,by rw[mr],.inl ⟨rfl,by grind,by rw[mr];rfl⟩⟩
  simp_all
theorem q_Read{t:List Int}(hl:t.length≤1000000):QSpec Tryd.prog 15 [slA (eI .u8) t] (.tup [slA eS_Node (mRead t).1,.int .i64 (mRead t).2.1,.int .i64 (mRead t).2.2]):=by
 obtain⟨h',av,hc,x,rfl,hx⟩:=c_Read0 hl;refine QSpec.ofFrz hc ?_;rcases hx with⟨rfl,h1,h2⟩|⟨r,v,rt,rfl,h1,h2,h3,h4,h5,h6,h7⟩
 ·simp_all
 ·have e:(List.flatMap eS_Node (mRead t).1).length=(mRead t).1.length*2:=by
   have:=h7;rw[nodesC_im,Xw] at this;exact this
  exact .inr ⟨r,v,rt,rfl,h1,h2,h3,by rw[h5,h6,nodesC_im],by simp_all⟩
def Y4t (t0:List Int):Option (List Y1×Int×Int):=G (t0.length≤1000000)<|some (mRead t0)
theorem f_linear_Read_ok{t0:List Int}{r:List Y1×Int×Int}(H:Y4t t0=some r):QSpec Tryd.prog 15 [slA (eI .u8) t0] (.tup [slA eS_Node r.1,.int .i64 r.2.1,.int .i64 r.2.2]):=by
 unfold Y4t at H;have⟨h,H⟩:=G_some H;obtain rfl:=X0a H;exact q_Read h
end Go.Proofs.YtfpcbalkioolmaaDoor
