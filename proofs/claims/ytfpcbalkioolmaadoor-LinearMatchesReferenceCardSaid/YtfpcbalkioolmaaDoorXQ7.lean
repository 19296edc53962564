/- Own work. -/
import Derived.Test.YtfpcbalkioolmaaDoorXQ6
set_option linter.unusedSimpArgs false
set_option linter.unusedVariables false
namespace Go.Abs
section
variable {D:SD} {P:Program} {h h':Hp} {ω ω':Nat→AV} {σ σ':Sto D} {tn:xTn} {Rs:Nat→List Nat} {env:Env} {en:SEnv D} {h0:Hp} {O0:Nat→Prop} {ω0:Nat→AV} {F0:Nat→Prop}
theorem rnW_al{r:Ren}{i:Nat}(hk:rnK i r):∀p∈r,rnW r ω p.1=(match p.2 with
  |some w=>ω w
  |none=>xnilA):=fun p hp=>by
 unfold rnW;rw[hk.get p hp];cases p.2<;>rfl
theorem xbr_sound{bx:Option TypeId}{ats:List AK}{xs:List (SV D.S)}{ls:List (xLf D.S)}{al:Ren}{vs:List AV}(hx:xbr D σ tn bx ats xs=some (ls,al))(H:SRL D h ω xs vs):
  rnK 1000000 al∧Lk σ (tnF tn) (inKB D bx ats ls) al∧(∃vs',SubA vs vs'∧SRL D h (rnW al ω) (inVB D bx ats ls) vs')∧(∀e,bx=some e→∃l ls' v al',ls=l::ls'∧al=(1000000,some v)::al'∧getB D σ v=some ⟨true,e,l.1,[l.2]⟩∧Lk σ (tnF tn) (inK D 1000001 ats ls') al'):=by
 unfold xbr at hx
 split at hx
 ·have⟨g1,g2,g3⟩:=xar_sound (ωc:=rnW al ω) (fun u e=>by cases e) hx H;exact⟨g1.mono (by omega),g2,g3 (rnW_al g1),fun e he=>by cases he⟩
 ·rename_i e v xs'
  split at hx
  ·rename_i e' u y ls' al' h1 h2;have⟨hb,hx'⟩:=Y2l hx;clear hx;simp only[X2] at hb;have he:=Xe hb.1;subst he;simp only[X0,Prod.mk.injEq] at hx';obtain⟨rfl,rfl⟩:=hx';simp only[SRL] at H;obtain⟨a,l',rfl,k1,k2⟩:=H;have⟨g1,g2,g3⟩:=xar_sound (ωc:=rnW ((1000000,some v)::al') ω) (fun u e=>by cases e;rfl) h2 k2;have hk:rnK 1000000 ((1000000,some v)::al'):=⟨Xk _,g1⟩;have⟨vs',j1,j2⟩:=g3 fun p hp=>rnW_al hk p (Xq _ hp);refine⟨hk,.one h1 (tnOk_ok hb.2) g2,⟨a::vs',.cons (Sub.refl _) j1, ?_⟩,fun e he=>by grind⟩;simp only[inVB,SRL];refine⟨_,_,rfl, ?_,j2⟩;simp only[SR,HdAt] at k1⊢;exact k1
  ·cases hx
 ·cases hx
def resI (f:Nat→Nat):Nat→List Ty→List (Nat×Nat)
 |_,[]=>[]
 |i,.sl _ _::r=>(f i,i)::resI f (i+1) r
 |i,_::r=>resI f (i+1) r
def lkN:List (Nat×Nat)→Nat→Option Nat
 |[],_=>none
 |(v,j)::r,w=>bif Nat.beq v w then some j else lkN r w
theorem resI_ge {f : Nat → Nat} {v j : Nat} : ∀ {rts : List Ty} {i : Nat}, lkN (resI f i rts) v = some j → i ≤ j ∧ j < i + rts.length ∧ v = f j
  | [], i, h => by cases h
  | t :: r, i, h => by
    have key : lkN (resI f (i + 1) r) v = some j → i ≤ j ∧ j < i + (t :: r).length ∧ v = f j := fun h => by
      obtain ⟨h1, h2, h3⟩ := resI_ge h
      grind
    cases t <;> simp only [resI] at h <;> first
      | exact key h
      | (simp only [lkN] at h
         rcases beqS (f i) v with ⟨e, hb⟩ | ⟨_, hb⟩
         · simp_all
         simp_all)
theorem outB_lk{f:Nat→Nat}{v:Nat}{b:Bv D}:∀{rts:List Ty} {i:Nat} {ls:List (xLf D.S)},getB D (outB D f i rts ls) v=some b→∃j,lkN (resI f i rts) v=some j∧getB D (outB D (fun i=>i) i rts ls) j=some b
 |[],i,ls,h=>by simp only[outB,getB] at h;cases h
 |t::r,i,[],h=>by cases t<;>simp only[outB,getB] at h<;>cases h
 |t::r,i,l::ls,h=>by
  have nx:getB D (outB D f (i+1) r ls) v=some b→∃j,lkN (resI f (i+1) r) v=some j∧i+1≤j∧getB D (outB D (fun i=>i) (i+1) r ls) j=some b:=fun h=>by
   have⟨j,h1,h2⟩:=outB_lk h;exact⟨j,h1,(resI_ge h1).1,h2⟩
  have⟨u,x⟩:=l;cases t with
  |sl e t=>
   have key:getB D (outB D f (i+1) r ls) v=some b→(f i=v→False)→∃j,lkN (resI f i (.sl e t::r)) v=some j∧i+1≤j∧getB D (outB D (fun i=>i) (i+1) r ls) j=some b:=fun h hn=>by
    have⟨j,h1,h2,h3⟩:=nx h;refine⟨j, ?_,h2,h3⟩;simp only[resI,lkN];rcases beqS (f i) v with⟨e,_⟩|⟨_,hb⟩
    ·simp_all
    simp_all
   cases u with
   |sl e' u=>
    simp only[outB,getB] at h⊢;rcases beqS (f i) v with⟨e1,hb⟩|⟨hn,hb⟩
    ·rw[hb,cond_true] at h;refine⟨i,by simp only[resI,lkN,hb,cond_true], ?_⟩
     simp_all
    ·rw[hb,cond_false] at h;have⟨j,h1,h2,h3⟩:=key h hn;refine⟨j,h1, ?_⟩;rcases beqS i j with⟨e,_⟩|⟨_,hb'⟩
     ·omega
     simp_all
   |_=>simp only[outB,getB] at h;cases h
  |_=>
   simp only[outB] at h⊢;have⟨j,h1,_,h3⟩:=nx h;exact⟨j,h1,h3⟩
theorem Lk.of{s:Sto D}{δ:Nat→Option Pth}{r:Ren}{c w:Nat}(H:Lk σ δ s r)(hc:rnG r c=some w):∃b,getB D s c=some b∧getB D σ w=some b∧δ w=none:=by
 induction H with
 |nil=>cases hc
 |@one v w' b s r h1 h2 _ ih=>
  simp only[rnG,getB] at hc⊢
  grind
 |@nol v e t s r _ ih=>
  simp only[rnG,getB] at hc⊢
  grind
def verOf:AV→Nat
 | .rsl _ v _ _=>v
 | .ref _ v _=>v
 |_=>0
theorem BkR.rootK{δ:Option Pth}{b:Bv D}{a:AV}{rs:List Nat}{q:Nat}(H:BkR D h δ b a rs)(hq:rootOf a=some q):∃rt,h.at q=some rt∧rt.ver=verOf a∧rt.k=nl D b.t:=by
 unfold BkR at H
 split at H
 ·obtain⟨_,r,rt,rs',rfl,h1,h2,rfl⟩:=H;cases hq;exact⟨rt,h1,rfl,h2.2.1⟩
 ·rcases H with⟨_,rfl,_⟩|⟨r,rt,rs',rfl,h1,_,h2,rfl⟩
  ·cases hq
  ·cases hq;exact⟨rt,h1,rfl,h2.2.1⟩
theorem idsA_mem{w:Nat}:∀{σ:Sto D},memB (idsA D σ) w=true→∃b,getB D σ w=some b
 |[],hm=>by cases hm
 |(u,b)::r,hm=>by
  simp only[idsA,memB] at hm;simp only[getB];cases hb:Nat.beq u w with
  |true=>simp_all
  |false=>rw[hb,cond_false] at hm;simp only[cond_false];exact idsA_mem hm
theorem newOK_mem{w:Nat}{b:Bv D}:∀{s:Sto D},newOK D en σ tn s=true→getB D s w=some b→getB D σ w=none∧w<1000000∧tnF tn w=none∧mnE D w en=false
 |[],_,h=>by cases h
 |(u,c)::r,hn,h=>by
  simp only[newOK,X2] at hn;simp only[getB] at h;rcases beqS u w with⟨rfl,hb⟩|⟨_,hb⟩
  ·have h1:=hn.1
   split at h1
   ·rename_i h2;simp only[X2,X00] at h1;exact⟨h2,X9 h1.1,tnOk_ok h1.2.1,h1.2.2⟩
   ·cases h1
  ·rw[hb,cond_false] at h;exact newOK_mem hn.2 h
theorem boxB_eq{v:Nat}{bx:Option TypeId}{ls:List (xLf D.S)}{k:Nat}{b:Bv D}(h:boxB D v bx ls=[(k,b)]):k=v:=by
 unfold boxB at h
 grind
theorem outB_id{j:Nat}{b:Bv D}{rts:List Ty}{ls:List (xLf D.S)}(h:getB D (outB D (fun i=>i) 0 rts ls) j=some b):j<rts.length:=by
 have⟨i,h1,_⟩:=outB_lk h;have⟨_,h2,h3⟩:=resI_ge h1;omega
theorem newS_ok{c:FC D}{ls ls':List (xLf D.S)}{al:Ren}{σ1:Sto D}(hs:newS D σ c.bx (boxB D 1000000 c.bx (ls'.drop c.rts.length)) (rnG al 1000000)=some σ1)(kA:rnK 1000000 al)(hO:rnO al=true)(hlen:c.rts.length<1000000)(lA:Lk σ (tnF tn) (inKB D c.bx c.ats ls) al)
  (bA:∀e,c.bx=some e→∃l ls0 v al',ls=l::ls0∧al=(1000000,some v)::al'∧getB D σ v=some ⟨true,e,l.1,[l.2]⟩∧Lk σ (tnF tn) (inK D 1000001 c.ats ls0) al') {v:Nat} {b:Bv D} (hv:getB D σ1 v=some b):
  (rnI al v=none→getB D σ v=some b)∧∀k,rnI al v=some k→getB D (outS D c ls ls') k=some b∧∃b0,getB D σ v=some b0∧b0.t=b.t:=by
 have hres:∀k,1000000≤k→getB D (outB D (fun i=>i) 0 c.rts ls') k=none:=fun k hk=>by
  cases hg:getB D (outB D (fun i=>i) 0 c.rts ls') k with
  |none=>rfl
  |some b=>have:=outB_id hg;omega
 unfold newS at hs
 split at hs
 ·rename_i _ _ hbx;cases hs;refine⟨fun _=>hv,fun k hk=>⟨?_,b,hv,rfl⟩⟩;have hm:=rnI_mem hk;have⟨b',h1,h2,_⟩:=lA.of (kA.get _ hm);rw[hv] at h2;cases h2;unfold outS bxD;rw[getB_app,hres k (kA.ge _ hm),hbx];rw[hbx] at h1;exact h1
 ·rename_i e k0 b1 v0 hbx hbox hg0;obtain⟨l,ls0,v1,al',rfl,rfl,h1,h2⟩:=bA e hbx;have:v1=v0:=by
   have:rnG ((1000000,some v1)::al') 1000000=some v1:=rfl
   simp_all
  subst this;rw[h1] at hs;simp only at hs
  split at hs
  ·rename_i q _;have⟨q⟩:=q;cases hs;have hk0:=boxB_eq hbox;subst hk0;have hidx:∀k,1000000≤k→getB D (outS D c (l::ls0) ls') k=(match getB D [(1000000,b1)] k with
     |some x=>some x
     |none=>getB D (inK D 1000001 c.ats ls0) k):=fun k hk=>by
    unfold outS bxD;rw[getB_app,hres k hk,getB_app,hbox,hbx]
    rfl
   by_cases e0:v=v1
   ·subst e0;rw[Y87 h1] at hv;cases hv;have hI:rnI ((1000000,some v)::al') v=some 1000000:=by
     simp only[rnI]
     simp_all
    rw[hI];refine⟨fun e=>(by cases e),fun k hk=> ?_⟩;cases hk;exact⟨by rw[hidx _ (Xk _)];rfl,_,h1,q⟩
   ·rw[Y3k e0] at hv;refine⟨fun _=>hv,fun k hk=>⟨?_,b,hv,rfl⟩⟩;have hI:rnI al' v=some k:=by
     simp only[rnI] at hk;rcases beqS v1 v with⟨e,_⟩|⟨_,hb⟩
     ·omega
     simp_all
    have hm:=rnI_mem hI;have⟨b',g1,g2,_⟩:=h2.of (kA.2.get _ hm);rw[hv] at g2;cases g2;have:=kA.2.ge _ hm;simp only at this;rw[hidx k (by omega)];have:getB D [(1000000,b1)] k=none:=by
     simp only[getB];rcases beqS 1000000 k with⟨e,_⟩|⟨_,hb⟩
     ·omega
     simp_all
    simp_all
  ·cases hs
 ·cases hs
theorem newS_has{bx:Option TypeId}{bs:Sto D}{gg:Option Nat}{σ1:Sto D}(hs:newS D σ bx bs gg=some σ1){w:Nat}{b:Bv D}(hb:getB D σ w=some b):∃b2,getB D σ1 w=some b2:=by
 unfold newS at hs
 split at hs
 ·simp_all
 ·rename_i _ b1 v
  split at hs
  ·rename_i b0 h0
   split at hs
   ·cases hs
    by_cases e:w=v
    ·subst e;exact⟨_,Y87 h0⟩
    ·exact⟨b,by rw[Y3k e];exact hb⟩
   ·cases hs
  ·cases hs
 ·cases hs
theorem lfS_mk:∀{ls:List (xLf D.S)},(∀l∈ls,ownB l.1=false)→mkSL D [] (ls.map (lfS 0 []))=true
 |[],_=>rfl
 |l::ls,h=>by
  simp only[Xo,mkSL,lfS_mk fun l' h'=>h l' (Xq _ h'),X1r];have:=h l (by simp);have⟨t,x⟩:=l;cases t<;>first|rfl|cases this
theorem encV1_mk:∀{t:Ty} (d:Den D.S t),plA D t=true→mkS D [] (encV1 D t d)=true
 | .int _,_,_=>rfl
 | .bool,_,_=>rfl
 | .str,_,_=>rfl
 | .fz _,_,_=>rfl
 | .rp _,_,_=>rfl
 | .ks _,_,_=>rfl
 | .st i,x,hp=>lfS_mk (D.pln i hp x)
 | .arr n t,x,hp=>lfS_mk (plT_ok (t:=.arr n t) hp x)
 | .sl _ _,_,hp=>by cases hp
theorem encV1_ω{t:Ty}{d:Den D.S t}{a:AV}(hp:plA D t=true)(H:SR D h ω (encV1 D t d) a):SR D h' ω' (encV1 D t d) a:=
 SR.frk (ids:=[]) (fun w hw=>by cases hw) (fun w q rt hw=>by cases hw) (encV1_mk d hp) H
theorem outV_sr{f:Nat→Nat}(hf:∀i j,f i=f j→i=j):∀{rts:List Ty} {i:Nat} {ls:List (xLf D.S)} {ys:List AV},SRL D h ω (outV D (fun i=>i) i rts ls) ys→(∀v b,getB D (outB D f i rts ls) v=some b→∀j,lkN (resI f i rts) v=some j→ω' v=ω j)→SRL D h ω' (outV D f i rts ls) ys
 |[],i,ls,ys,H,_=>by simpa only[outV,SRL] using H
 |t::r,i,[],ys,H,_=>by
  have e:∀f:Nat→Nat,outV D f i (t::r) []=[]:=fun f=>by cases t<;>rfl
  rw[e] at H⊢;simpa only[SRL] using H
 |t::r,i,l::ls,ys,H,hω=>by
  have⟨u,x⟩:=l;have dat:(∀f:Nat→Nat,outV D f i (t::r) (⟨u,x⟩::ls)=bif plA D u then encV1 D u x::outV D f (i+1) r ls else[])→(outB D f i (t::r) (⟨u,x⟩::ls)=outB D f (i+1) r ls∧resI f i (t::r)=resI f (i+1) r)→SRL D h ω' (outV D f i (t::r) (⟨u,x⟩::ls)) ys:=fun e1 e2=>by
   rw[e1] at H⊢;cases hp:plA D u with
   |false=>rw[hp] at H;simpa only[cond_false,SRL] using H
   |true=>
    rw[hp,cond_true] at H;rw[cond_true];simp only[SRL] at H⊢;obtain⟨a,l',rfl,k1,k2⟩:=H;refine⟨a,l',rfl,encV1_ω hp k1,outV_sr hf k2 ?_⟩
    simp_all
  cases t with
  |sl e t=>
   cases u with
   |sl e' u=>
    simp only[outV,SRL] at H⊢;obtain⟨a,l',rfl,k1,k2⟩:=H;have hself:∀k:Nat,Nat.beq k k=true:=fun k=>by simp
    refine⟨a,l',rfl, ?_,outV_sr hf k2 fun v b hv j hj=>hω v b ?_ j ?_⟩
    ·simp only[SR,HdAt] at k1⊢;rw[hω (f i) ⟨false,e,u,x⟩ (by simp only[outB,getB,hself,cond_true]) i (by simp only[resI,lkN,hself,cond_true])];exact k1
    all_goals
     have hge:=resI_ge hj;have hne:f i≠v:=fun e=>by grind
     rcases beqS (f i) v with⟨e,_⟩|⟨_,hb⟩
     ·omega
     ·first
       |(simp only[outB,getB,hb,cond_false];exact hv)
       |(simp only[resI,lkN,hb,cond_false];exact hj)
   |_=>simpa only[outV,SRL] using H
  |_=>exact dat (fun _=>rfl) ⟨rfl,rfl⟩
theorem outV_nc{f:Nat→Nat}:∀{rts:List Ty} {i:Nat} {ls:List (xLf D.S)},∀x∈outV D f i rts ls,notC D x=true
 |[],i,ls,x,h=>by simp only[outV] at h;cases h
 |t::r,i,[],x,h=>by cases t<;>simp only[outV] at h<;>cases h
 |t::r,i,l::ls,x,h=>by
  have⟨u,y⟩:=l;have dat:x∈(bif plA D u then encV1 D u y::outV D f (i+1) r ls else[])→notC D x=true:=fun h=>by
   cases hp:plA D u with
   |false=>simp_all
   |true=>
    rw[hp,cond_true] at h;rcases Xb.1 h with rfl|h
    ·exact encV1_nc u y
    ·exact outV_nc x h
  cases t with
  |sl e t=>
   cases u with
   |sl e' u=>
    simp only[outV] at h;rcases Xb.1 h with rfl|h
    ·rfl
    ·exact outV_nc x h
   |_=>simp only[outV] at h;cases h
  |_=>exact dat h
theorem xio_ok{f:FuncId}{c:FC D}(hf:IOK D P f c):CtrOK D P f (ctrF D c):=by
 intro R dst args en σ tn K r hx h0 O0 ω0 F0 env h ω Rs vs X hvs;have hx:dnf (xio D c dst args en σ tn K)=some r:=hx;unfold xio at hx
 split at hx
 ·rename_i ls al hbr
  split at hx
  ·rename_i ds hds;have⟨hg,hx⟩:=Y95 hx;simp only[X2] at hg;have⟨hO,hlen⟩:=hg;have hlen:c.rts.length<1000000:=X9 hlen;simp only[dnf] at hx;cases hF:c.F ds with
   |none=>simp_all
   |some y=>
    rw[hF] at hx;simp only[X1] at hx
    split at hx
    ·rename_i σ1 hs;have⟨hnew,hk⟩:=Y95 hx;have hls:=ofL_sound hds;subst hls;have⟨kA,lA,⟨vs',sA,srl⟩,bA⟩:=xbr_sound hbr hvs;have hin:=lA.rnB;have⟨h',ω',Rs',ys,hc,hω,hR',hys,hfr,hnw⟩:=hf ds y hF h (rnW al ω) (rnR al Rs) vs' (X.rep.ren hO hin) srl;have hnS:=fun {v:Nat} {b:Bv D} (hv:getB D σ1 v=some b)=>newS_ok (ls':=toL _ y) hs kA hO hlen lA bA hv
     --where a block of the caller lies with the callee
     let g:Nat→Option Nat:=fun v=>match getB D (outB D (xnumR dst) 0 c.rts (toL _ y)) v with
      |some _=>lkN (resI (xnumR dst) 0 c.rts) v
      |none=>rnI al v
     have gsome:∀v b k,g v=some k→getB D (outB D (xnumR dst) 0 c.rts (toL _ y)++σ1) v=some b→getB D (outS D c (toL _ ds) (toL _ y)) k=some b∧tnF tn v=none:=fun v b k hg hv=>by
      rw[getB_app] at hv;cases ho:getB D (outB D (xnumR dst) 0 c.rts (toL _ y)) v with
      |some b'=>
       rw[ho] at hv;cases hv;simp only[g,ho] at hg;have⟨j,h1,h2⟩:=outB_lk ho;rw[h1] at hg;cases hg;refine⟨?_,(newOK_mem hnew ho).2.2.1⟩;unfold outS;rw[getB_app,h2]
      |none=>
       rw[ho] at hv;simp only[g,ho] at hg;refine⟨((hnS hv).2 k hg).1, ?_⟩;have⟨b',_,_,h3⟩:=lA.of (kA.get _ (rnI_mem hg));exact h3
     have gnone:∀v b,g v=none→getB D (outB D (xnumR dst) 0 c.rts (toL _ y)++σ1) v=some b→getB D σ v=some b∧rnI al v=none:=fun v b hg hv=>by
      rw[getB_app] at hv;cases ho:getB D (outB D (xnumR dst) 0 c.rts (toL _ y)) v with
      |some b'=>
       simp only[g,ho] at hg;have⟨j,h1,h2⟩:=outB_lk ho
       simp_all
      |none=>
       grind
     have ginj:∀v v' k,g v=some k→g v'=some k→v=v':=fun v v' k hv hv'=>by
      have one:∀v,g v=some k→(k<c.rts.length∧v=xnumR dst k)∨(1000000≤k∧rnG al k=some v):=fun v hv=>by
       cases ho:getB D (outB D (xnumR dst) 0 c.rts (toL _ y)) v with
       |some b'=>
        simp only[g,ho] at hv;have⟨_,h2,h3⟩:=resI_ge hv;omega
       |none=>
        simp only[g,ho] at hv;have:=rnI_mem hv;exact .inr ⟨kA.ge _ this,kA.get _ this⟩
      rcases one v hv with⟨h1,h2⟩|⟨h1,h2⟩<;>rcases one v' hv' with⟨h3,h4⟩|⟨h3,h4⟩
      ·rw[h2,h4]
      ·omega
      ·omega
      simp_all
     --other blocks lie apart from what was handed over
     have apart:∀w b,getB D σ w=some b→rnI al w=none→∀q∈Rs w,∀v b',getB D (inKB D c.bx c.ats (toL _ ds)) v=some b'→q∉rnR al Rs v:=fun w b hw hI q hq v b' hv hq'=>by
      rcases hin v b' hv with⟨w',h1,h2,_⟩|⟨h1,_⟩
      ·simp only[rnR,h1] at hq';have:w'≠w:=fun e=>by subst e;exact rnI_none hI (rnG_mem h1)
       exact X.rep.dj w' b' w b h2 hw this q hq' hq
      ·simp only[rnR,h1] at hq';cases hq'
     have same:∀w b,getB D σ w=some b→rnI al w=none→∀q∈Rs w,h'.at q=h.at q:=fun w b hw hI q hq=>by
      have⟨rt,hrt⟩:=(X.rep.blk w b hw).mem q hq
      grind
     have old:∀k b,getB D (outS D c (toL _ ds) (toL _ y)) k=some b→∀q∈Rs' k,(∃w b,getB D σ w=some b∧rnI al w≠none∧q∈Rs w)∨h.at q=none:=fun k b hk q hq=>by
      rcases hnw k b hk q hq with⟨v',b',h1,h2⟩|h1
      ·rcases hin v' b' h1 with⟨w',g1,g2,_⟩|⟨g1,_⟩
       ·simp only[rnR,g1] at h2
        grind
       ·simp only[rnR,g1] at h2;cases h2
      grind
     have hωw:∀w,getB D (outB D (xnumR dst) 0 c.rts (toL _ y)) w=none→(match g w with
      |some k=>ω' k
      |none=>ω w)=ω w:=fun w hw=>by
      have e:g w=rnI al w:=by grind
      rw[e];cases hI:rnI al w with
      |none=>rfl
      |some k=>
       have hm:=kA.get _ (rnI_mem hI);simp only at hm;have⟨b1,g1,_,_⟩:=lA.of hm;show ω' k=ω w;rw[hω k b1 g1];simp only[rnW,hm]
     have still:∀w k,rnI al w=some k→∃b2,getB D (outS D c (toL _ ds) (toL _ y)) k=some b2∧∀b,getB D σ w=some b→nl D b2.t=nl D b.t:=fun w k hI=>by
      have hσ1:∃b2,getB D σ1 w=some b2:=by
       have hm:=kA.get _ (rnI_mem hI);simp only at hm;have⟨b1,_,g2,_⟩:=lA.of hm;exact newS_has hs g2
      grind
     refine⟨h',Y8i ys,hc.subA sA,_,_,_,_,fun v=>match g v with
      |some k=>ω' k
      |none=>ω v,fun v=>match g v with
      |some k=>Rs' k
      |none=>Rs v,⟨⟨fun v b hv=> ?_,fun v b hv=> ?_,fun v b v' b' hv hv' hn x hx=> ?_⟩, ?_,X.cnd.msk,fun w hw=> ?_,fun q rt hq hO=> ?_,fun w b hw q hq=> ?_⟩, ?_, ?_,hk⟩
     ·cases hg:g v with
      |some k=>
       have⟨h1,h2⟩:=gsome v b k hg hv;simp only[h2];exact hR'.blk k b h1
      |none=>
       have⟨h1,h2⟩:=gnone v b hg hv;exact(X.rep.blk v b h1).frame (same v b h1 h2)
     ·cases hg:g v with
      |some k=>exact hR'.nd k b (gsome v b k hg hv).1
      |none=>exact X.rep.nd v b (gnone v b hg hv).1
     ·cases hg:g v with
      |some k=>
       rw[hg] at hx;have h1:=(gsome v b k hg hv).1;cases hg':g v' with
       |some k'=>
        have h1':=(gsome v' b' k' hg' hv').1;exact hR'.dj k b k' b' h1 h1' (fun e=>hn (ginj v v' k hg (e▸hg'))) x hx
       |none=>
        have⟨h1',h2'⟩:=gnone v' b' hg' hv';intro hx';rcases old k b h1 x hx with⟨w,bw,g1,g2,g3⟩|g1
        ·exact X.rep.dj w bw v' b' g1 h1' (fun e=>g2 (e▸h2')) x g3 hx'
        ·have⟨rt,hrt⟩:=(X.rep.blk v' b' h1').mem x hx'
         grind
      |none=>
       rw[hg] at hx;have⟨h1,h2⟩:=gnone v b hg hv;cases hg':g v' with
       |some k'=>
        have h1':=(gsome v' b' k' hg' hv').1;intro hx';rcases old k' b' h1' x hx' with⟨w,bw,g1,g2,g3⟩|g1
        ·exact X.rep.dj w bw v b g1 h1 (fun e=>g2 (e▸h2)) x g3 hx
        ·have⟨rt,hrt⟩:=(X.rep.blk v b h1).mem x hx
         grind
       |none=>exact X.rep.dj v b v' b' h1 (gnone v' b' hg' hv').1 hn x hx
     ·intro i;rw[xrd_msk];cases hm:mkS D (idsA D σ) (xrd D en i) with
      |false=>rw[cond_false];simp only[SR]
      |true=>
       rw[cond_true];refine SR.frk (fun w hw=> ?_) (fun w q rt hw hq hrt=> ?_) hm (X.env i)
       ·have⟨b,hb⟩:=idsA_mem hw;exact hωw w (by
         cases ho:getB D (outB D (xnumR dst) 0 c.rts (toL _ y)) w with
         |none=>rfl
         |some b'=>rw[(newOK_mem hnew ho).1] at hb;cases hb)
       ·have⟨b,hb⟩:=idsA_mem hw;cases hI:rnI al w with
        |none=>
         have hq':=(X.rep.blk w b hb).root hq
         grind
        |some k=>
         have hm:=kA.get _ (rnI_mem hI);simp only at hm;have⟨b1,g1,g2,g3⟩:=lA.of hm;rw[hb] at g2;cases g2;have⟨rt1,k1,k2,k3⟩:=(X.rep.blk w b hb).rootK hq;rw[hrt] at k1;cases k1;have⟨b2,j1,j2⟩:=still w k hI;have hB:=hR'.blk k b2 j1;rw[hω k b g1] at hB;have e:rnW al ω k=ω w:=by simp only[rnW,hm]
         rw[e] at hB;have⟨rt2,m1,m2,m3⟩:=hB.rootK hq;refine⟨rt2,m1,m2.trans k2.symm, ?_⟩;rw[m3,k3,j2 b hb]
     ·have⟨h1,h2⟩:=X.fix w hw;refine⟨?_,h2⟩;rw[←h1];refine hωw w ?_;cases ho:getB D (outB D (xnumR dst) 0 c.rts (toL _ y)) w with
      |none=>rfl
      |some b'=>have:=(newOK_mem hnew ho).2.1;omega
     ·refine hfr q rt (X.frA q rt hq hO) fun v b hv hq'=> ?_;rcases hin v b hv with⟨w',h1,h2,_⟩|⟨h1,_⟩
      ·simp only[rnR,h1] at hq';rcases X.frB w' b h2 q hq' with h3|h3
       ·grind
       grind
      ·simp only[rnR,h1] at hq';cases hq'
     ·cases hg:g w with
      |some k=>
       rw[hg] at hq;rcases old k b (gsome w b k hg hw).1 q hq with⟨w',b',g1,_,g3⟩|g1
       ·exact X.frB w' b' g1 q g3
       ·by_cases hO:O0 q
        ·grind
        ·refine .inr ?_;cases h0q:h0.at q with
         |none=>rfl
         |some rt=>rw[X.frA q rt h0q hO] at g1;cases g1
      |none=>
       rw[hg] at hq;exact X.frB w b (gnone w b hg hw).1 q hq
     ·refine SRL.res (outV_sr (fun i j e=> ?_) hys fun v b hv j hj=> ?_)
      ·unfold xnumR at e;omega
      grind
     ·exact tupS_nc outV_nc
    ·exact(Y2a hx).elim
  ·exact(Y2a hx).elim
 ·exact(Y2a hx).elim
end
section
variable (D:SD) (P:Program)
def xres (σ:Sto D):Nat→List Ty→List (SV D.S)→Option (List (xLf D.S)×Ren×List Nat)
 |_,[],[]=>some ([],[],[])
 |i,.sl e t::r,x::xs=>(match xres σ (i+1) r xs,x with
  |some (ls,al,fz),.vw w []=>(match getB D σ w with
   |some ⟨false,e',u,ys⟩=>(match tyEq u t with
    |some h=>bif Nat.beq e' e then some (⟨.sl e t,(h.down▸ys:List (Den D.S t))⟩::ls,(i,some w)::al,fz) else none
    |none=>none)
   |_=>none)
  |some (ls,al,fz),.c (.slice none 0 0)=>some (⟨.sl e t,([]:List (Den D.S t))⟩::ls,(i,none)::al,fz)
  |_,_=>none)
 |i,t::r,x::xs=>(match cv1 D σ none t x,xres σ (i+1) r xs with
  |some (_,d),some (ls,al,fz)=>bif plT D t then some (⟨t,d⟩::ls,al,(match lentS x with
   |some w=>w::fz
   |none=>fz)) else none
  |_,_=>none)
 |_,_,_=>none
def xbx (σ:Sto D):Option TypeId→Option (List (xLf D.S)×Ren)
 |none=>some ([],[])
 |some e=>(match getB D σ 1000000 with
  |some ⟨true,e',u,[y]⟩=>bif Nat.beq e' e then some ([⟨u,y⟩],[(1000000,some 1000000)]) else none
  |_=>none)
def idR:Sto D→Ren
 |[]=>[]
 |(v,_)::s=>(v,some v)::idR s
def slK (c:FC D) (ls:List (xLf D.S)):Sto D:=inK D 1000001 c.ats (bxD D c.bx ls)
def kRo (c:FC D) (ls0:List (xLf D.S)) (rs:List ResultVar):XK D (DenP D.S (c.rts++c.bt)):=fun en σ tn=>match tn,rdR D P en σ tn rs with
 |none,some xs=>(match xres D σ 0 c.rts xs,xbx D σ c.bx with
  |some (ls,al,fz),some (bl,al')=>(match ofL (c.rts++c.bt) (ls++bl) with
   |some y=>bif rnO (al++(al'++idR D (slK D c ls0)))&&(Nat.blt c.rts.length 1000000&&fz.all fun w=> !(rnV (al++(al'++idR D (slK D c ls0))) w)) then
     .eqv ((slK D c ls0).map fun p=>getB D σ p.1) ((slK D c ls0).map fun p=>some p.2) (.opt (some y)) else .opt none
   |none=>.opt none)
  |_,_=>.opt none)
 |_,_=>.opt none
def KRo (c:FC D) (ls0:List (xLf D.S)) (rs:List ResultVar):XE D (DenP D.S (c.rts++c.bt)):=fun x=>match x with
 | .normal=>kRo D P c ls0 rs
 | .ret=>kRo D P c ls0 rs
 |_=>fun _ _ _=>.opt none
abbrev xfnO (G:XG D) (fn:Func) (c:FC D) (cut:Nat→Option (XK D (DenP D.S (c.rts++c.bt)))) (ds:DenP D.S (c.bt++akT c.ats)):XT (DenP D.S (c.rts++c.bt)):=
 xrun D P G cut (fn.body.getD .skip) (args0S D 0 (inVB D c.bx c.ats (toL _ ds))) (inKB D c.bx c.ats (toL _ ds)) none (KRo D P c (toL _ ds) fn.results.toList)
end
section
variable {D:SD} {P:Program} {h h':Hp} {ω ω':Nat→AV} {σ σ':Sto D} {Rs:Nat→List Nat} {env:Env} {en:SEnv D} {h0:Hp} {O0:Nat→Prop} {ω0:Nat→AV} {F0:Nat→Prop}
theorem xres_sound(R:xRep D σ (fun _=>none) ω Rs h):∀{rts:List Ty} {i:Nat} {xs:List (SV D.S)} {ls:List (xLf D.S)} {al:Ren} {fz:List Nat} {vs:List AV},xres D σ i rts xs=some (ls,al,fz)→SRL D h ω xs vs→
  rnK i al∧(∀p∈al,p.1<i+rts.length)∧ls.length=rts.length∧(∀bl,Lk σ (fun _=>none) (outB D (fun i=>i) i rts (ls++bl)) al)∧
  ∃(ys:List AV) (bs:List Nat),(∀q∈bs,∃v c,v∈fz∧getB D σ v=some c∧q∈Rs v)∧(∀bs',(∀q∈bs,q∈bs')→FzL h bs' vs ys)∧∀(hk:Hp) (ωc:Nat→AV),(∀p∈al,ωc p.1=(match p.2 with
   |some w=>ω w
   |none=>xnilA))→∀bl,SRL D hk ωc (outV D (fun i=>i) i rts (ls++bl)) ys
 |[],i,[],ls,al,fz,vs,hx,H=>by
  simp only[xres,X0,Prod.mk.injEq] at hx;obtain⟨rfl,rfl,rfl⟩:=hx;simp only[SRL] at H;subst H;refine⟨trivial,(fun p hp=>by cases hp),rfl,fun bl=> ?_,[],[],(fun q hq=>by cases hq),fun _ _=>.nil,fun hk ωc _ bl=> ?_⟩
  ·have:∀bl,outB D (fun i=>i) i [] bl=[]:=fun bl=>by cases bl<;>rfl
   rw[this];exact .nil
  rfl
 |[],i,_::_,ls,al,fz,vs,hx,H=>by simp only[xres] at hx;cases hx
 |t::r,i,[],ls,al,fz,vs,hx,H=>by cases t<;>simp only[xres] at hx<;>cases hx
 |t::r,i,x::xs,ls,al,fz,vs,hx,H=>by
  simp only[SRL] at H;obtain⟨a,l',rfl,k1,k2⟩:=H;cases t with
  |sl e t=>
   simp only[xres] at hx
   split at hx
   ·rename_i ls' al' fz' w h1
    split at hx
    ·rename_i e' u ys0 hg
     split at hx
     ·rename_i q _;have⟨q⟩:=q;subst q;have⟨hb,hx⟩:=Y2l hx;have he:=Xe hb;subst he;simp only[X0,Prod.mk.injEq] at hx;obtain⟨rfl,rfl,rfl⟩:=hx;have⟨g1,g2,g3,g4,ys,bs,g5,g6,g7⟩:=xres_sound R h1 k2;refine⟨⟨Xk _,g1⟩,fun p hp=> ?_,by simp[g3],fun bl=>.one hg rfl (g4 bl),a::ys,bs,g5,fun bs' hb=>.cons (FzS.refl _ _ _) (g6 bs' hb),fun hk ωc hc bl=> ?_⟩
      ·grind
      ·rw[Xv];simp only[outV,SRL];refine⟨_,_,rfl, ?_,g7 hk ωc (fun p hp=>hc p (Xq _ hp)) bl⟩;simp only[SR,HdAt] at k1⊢;have:=hc _ X13
       grind
     ·cases hx
    ·cases hx
   ·rename_i ls' al' fz' h1;simp only[X0,Prod.mk.injEq] at hx;obtain⟨rfl,rfl,rfl⟩:=hx;have⟨g1,g2,g3,g4,ys,bs,g5,g6,g7⟩:=xres_sound R h1 k2;refine⟨⟨Xk _,g1⟩,fun p hp=> ?_,by simp[g3],fun bl=>.nol (g4 bl),a::ys,bs,g5,fun bs' hb=>.cons (FzS.refl _ _ _) (g6 bs' hb),fun hk ωc hc bl=> ?_⟩
    ·grind
    ·rw[Xv];simp only[outV,SRL];refine⟨_,_,rfl, ?_,g7 hk ωc (fun p hp=>hc p (Xq _ hp)) bl⟩;simp only[SR,HdAt] at k1⊢;have:=hc _ X13;simp only at this;rw[this,k1];exact⟨.inl rfl,rfl⟩
   ·cases hx
  |_=>
   simp only[xres] at hx
   split at hx
   ·rename_i b d ls' al' fz' h1 h2;have⟨hp,hx⟩:=Y2l hx;simp only[X0,Prod.mk.injEq] at hx;obtain⟨rfl,rfl,rfl⟩:=hx;have⟨g1,g2,g3,g4,ys,bs,g5,g6,g7⟩:=xres_sound R h2 k2;have⟨bs1,j1,j2,j3⟩:=cv1_sound (tn:=none) R h1 k1;refine⟨g1.mono (by omega),fun p hp=>(by have:=g2 p hp;grind),by simp[g3],fun bl=> ?_,Y8l D _ d::ys,bs1++bs,fun q hq=> ?_,fun bs' hb=>.cons ?_ (g6 bs' fun q hq=>hb q (by simp[hq])),fun hk ωc hc bl=> ?_⟩
    ·exact g4 bl
    ·grind
    ·have:=j3 h (Fx.refl h);exact FzS.arg this.2 this.1 (fun q hq=>hb q (by simp[hq])) (encA1_pur _ _)
    ·rw[Xv];simp only[outV];rw[plT_A hp,cond_true];simp only[SRL];exact⟨_,_,rfl,encV1_srA d (plT_A hp),g7 hk ωc hc bl⟩
   ·cases hx
theorem Lk.idR{σ:Sto D}:∀{s:Sto D},(∀p∈s,getB D σ p.1=some p.2)→Lk σ (fun _=>none) s (idR D s)
 |[],_=>.nil
 |(v,b)::s,H=>.one (H (v,b) (by simp)) rfl (Lk.idR fun p hp=>H p (Xq _ hp))
theorem idR_mem:∀{s:Sto D} {p:Nat×Option Nat},p∈idR D s→p.2=some p.1
 |[],_,h=>by cases h
 |(v,b)::s,p,h=>by
  rcases Xb.1 h with rfl|h
  ·rfl
  ·exact idR_mem h
theorem rnG_has{v:Nat}:∀{r:Ren},(∃x,(v,x)∈r)→(∀p∈r,p.1=v→p.2=some v)→rnG r v=some v
 |[],h,_=>by simp_all
 |(j,x)::r,h,hk=>by
  simp only[rnG];rcases beqS j v with⟨e,hb⟩|⟨hn,hb⟩
  ·simp_all
  ·rw[hb,cond_false];refine rnG_has ?_ fun p hp=>hk p (Xq _ hp)
   grind
theorem getB_memK{v:Nat}{b:Bv D}:∀{s:Sto D},getB D s v=some b→(v,b)∈s
 |[],h=>by cases h
 |(j,x)::s,h=>by
  simp only[getB] at h;rcases beqS j v with⟨rfl,hb⟩|⟨_,hb⟩
  ·simp_all
  ·rw[hb,cond_false] at h;exact Xq _ (getB_memK h)
theorem inK_ge:∀{ats:List AK} {i:Nat} {ls:List (xLf D.S)},∀p∈inK D i ats ls,i≤p.1
 |[],i,ls,p,h=>by simp only[inK] at h;cases h
 | .d _::r,i,[],p,h=>by simp only[inK] at h;cases h
 | .d _::r,i,_::ls,p,h=>by
  simp only[inK] at h;exact Nat.le_of_succ_le (inK_ge p h)
 | .al q::r,i,ls,p,h=>by
  have:inK D i (.al q::r) ls=inK D (i+1) r ls:=by cases ls<;>rfl
  rw[this] at h;exact Nat.le_of_succ_le (inK_ge p h)
 | .sl _ _::r,i,[],p,h=>by simp only[inK] at h;cases h
 | .sl e t::r,i,⟨u,x⟩::ls,p,h=>by
  cases u with
  |sl e' u=>
   simp only[inK] at h;rcases Xb.1 h with rfl|h
   ·exact Xk _
   ·exact Nat.le_of_succ_le (inK_ge p h)
  |_=>
   simp only[inK] at h;exact Nat.le_of_succ_le (inK_ge p h)
theorem inV_nc:∀{ats:List AK} {i:Nat} {ls:List (xLf D.S)},(∀x∈inV D i ats ls,notC D x=true)∧(inV D i ats ls).length≤ats.length
 |[],i,ls=>by
  have:inV D i [] ls=[]:=by cases ls<;>rfl
  simp_all
 | .al p::r,i,ls=>by
  have:inV D i (.al p::r) ls= .vw 1000000 p::inV D (i+1) r ls:=by cases ls<;>rfl
  rw[this];have⟨h1,h2⟩:=inV_nc (ats:=r) (i:=i+1) (ls:=ls);exact⟨fun x h=>by rcases Xb.1 h with rfl|h;exact rfl;grind,by simp_all⟩
 | .d _::r,i,[]=>⟨(fun x h=>by simp only[inV] at h;cases h),Nat.zero_le _⟩
 | .sl _ _::r,i,[]=>⟨(fun x h=>by simp only[inV] at h;cases h),Nat.zero_le _⟩
 | .d _::r,i,l::ls=>by
  have⟨h1,h2⟩:=inV_nc (ats:=r) (i:=i+1) (ls:=ls);exact⟨fun x h=>by rcases Xb.1 h with rfl|h;exact encV1_nc _ _;grind,by simpa [inV] using h2⟩
 | .sl _ _::r,i,l::ls=>by
  have⟨h1,h2⟩:=inV_nc (ats:=r) (i:=i+1) (ls:=ls);exact⟨fun x h=>by rcases Xb.1 h with rfl|h;exact rfl;grind,by simpa [inV] using h2⟩
theorem inVB_nc{bx:Option TypeId}{ats:List AK}{ls:List (xLf D.S)}:(∀x∈inVB D bx ats ls,notC D x=true)∧(inVB D bx ats ls).length≤ats.length+1:=by
 unfold inVB
 split
 ·have⟨h1,h2⟩:=inV_nc (D:=D) (ats:=ats) (i:=1000001) (ls:=ls)
  grind
 ·rename_i l ls';have⟨h1,h2⟩:=inV_nc (D:=D) (ats:=ats) (i:=1000001) (ls:=ls');exact⟨fun x h=>by rcases Xb.1 h with rfl|h;exact rfl;grind,by simp_all⟩
 simp_all
theorem inKB_eq{bx:Option TypeId}{ats:List AK}{ls:List (xLf D.S)}{v:Nat}{b:Bv D}(h:getB D (inKB D bx ats ls) v=some b):(∃e,bx=some e∧v=1000000)∨(v,b)∈inK D 1000001 ats (bxD D bx ls):=by
 unfold inKB at h
 split at h
 ·exact .inr (getB_memK h)
 ·rename_i e l ls';simp only[getB] at h;rcases beqS 1000000 v with⟨e1,_⟩|⟨_,hb⟩
  ·simp_all
  ·rw[hb,cond_false] at h;exact .inr (getB_memK h)
 ·cases h
theorem xbx_sound{bx:Option TypeId}{bl:List (xLf D.S)}{al:Ren}(hxb:xbx D σ bx=some (bl,al)):Lk σ (fun _=>none) (boxB D 1000000 bx bl) al∧(∀p∈al,p=(1000000,some 1000000))∧∀e,bx=some e→al=[(1000000,some 1000000)]:=by
 unfold xbx at hxb
 split at hxb
 ·cases hxb;exact⟨.nil,(fun p hp=>by cases hp),fun e he=>by cases he⟩
 ·split at hxb
  ·rename_i e' u yb hgb;have⟨he,hxb'⟩:=Y2l hxb;have he:=Xe he;subst he;cases hxb';exact⟨.one hgb rfl .nil,(fun p hp=>by simp_all),fun _ _=>rfl⟩
  grind
theorem Y99{G:XG D}(hG:G.OK P){f:FuncId}{fn:Func}(hf:P.funcs[f]? =some fn){c:FC D}(cut:DenP D.S (c.bt++akT c.ats)→Nat→Option (XK D (DenP D.S (c.rts++c.bt))))
  (hk:(fn.body.isSome&&(Nat.beq fn.ntmps G.N&&Nat.ble (c.ats.length+1) G.N))=true) (hH:∀ds,XHA D P G (cut ds) (fn.body.getD .skip) (KRo D P c (toL _ ds) fn.results.toList) True)
  (hx:∀ds,c.F ds=den (xfnO D P G fn c (cut ds) ds)) (ho:∀ds,obL [] (xfnO D P G fn c (cut ds) ds)=obR (xfnO D P G fn c (cut ds) ds)):IOK D P f c:=by
 intro ds y hF h ω Rs vs hR hvs;simp only[X2] at hk;have⟨k1,k2,k3⟩:=hk;have k2:=Xe k2;have k3:=X9 k3;have⟨co,hb⟩:=X1v.1 k1;have hd:=dnf_of _ [] (ho ds) (fun d hd=>by cases hd) (hx ds▸hF);have hH:=hH ds;unfold xfnO at hd;rw[hb,X0p] at hd hH;have hge:∀v b,getB D (inKB D c.bx c.ats (toL _ ds)) v=some b→1000000≤v:=fun v b hv=>by
  rcases inKB_eq hv with⟨_,_,e⟩|hm
  ·omega
  ·have:=inK_ge _ hm;omega
 have xr0:XR D h (fun q=>∃v b,getB D (inKB D c.bx c.ats (toL _ ds)) v=some b∧q∈Rs v) ω (fun v=>∃b,getB D (inKB D c.bx c.ats (toL _ ds)) v=some b) (args0S D 0 (inVB D c.bx c.ats (toL _ ds))) (inKB D c.bx c.ats (toL _ ds)) none (args0 0 vs) h ω Rs:=
  ⟨hR,args0S_env 0 hvs,args0S_nc 0 inVB_nc.1,fun v ⟨b,hv⟩=>⟨rfl,hge v b hv⟩,fun q rt hq _=>hq,fun v b hv q hq=>.inl ⟨v,b,hv,hq⟩⟩
 have hq:=Y80 hG co hd xr0 (XHA_all _ _ _ hH).1;have fin:∀(e:Env) (h1:Hp) (en:SEnv D) (σ:Sto D) (tn:xTn) (ω1:Nat→AV) (Rs1:Nat→List Nat),XR D h (fun q=>∃v b,getB D (inKB D c.bx c.ats (toL _ ds)) v=some b∧q∈Rs v) ω (fun v=>∃b,getB D (inKB D c.bx c.ats (toL _ ds)) v=some b) en σ tn e h1 ω1 Rs1→dnf (kRo D P c (toL _ ds) fn.results.toList en σ tn)=some y→
   ∃xs,resE P h1 e fn.results.toList=some xs∧∃(bs:List Nat) (ys:List AV) (ω':Nat→AV) (Rs':Nat→List Nat),FzL h1 bs xs ys∧(∀v b,getB D (inKB D c.bx c.ats (toL _ ds)) v=some b→ω' v=ω v)∧xRep D (outS D c (toL _ ds) (toL _ y)) (fun _=>none) ω' Rs' (h1.kill bs)∧SRL D (h1.kill bs) ω' (outV D (fun i=>i) 0 c.rts (toL _ y)) ys∧
    (∀q rt,h.at q=some rt→(∀v b,getB D (inKB D c.bx c.ats (toL _ ds)) v=some b→q∉Rs v)→(h1.kill bs).at q=some rt)∧(∀v b,getB D (outS D c (toL _ ds) (toL _ y)) v=some b→∀q∈Rs' v,(∃v' b',getB D (inKB D c.bx c.ats (toL _ ds)) v'=some b'∧q∈Rs v')∨h.at q=none):=fun e h1 en σ tn ω1 Rs1 X hk=>by
  unfold kRo at hk
  split at hk
  ·rename_i svs hs;have⟨xs,hres,hsr⟩:=rdR_sound X.rep X.env hs
   split at hk
   ·rename_i ls al fz bl al' hxr hxb
    split at hk
    ·rename_i y' hy;have⟨hb,hk⟩:=Y95 hk;simp only[X2] at hb;have⟨hO,hlen,hfz⟩:=hb;have hlen:c.rts.length<1000000:=X9 hlen;have⟨heq,hk⟩:=eqv_some hk;simp only[dnf,X0] at hk;subst hk;have hL:=ofL_sound hy;have⟨g1,g2,g3,g4,ys,bs,g5,g6,g7⟩:=xres_sound X.rep hxr hsr;have hsl:∀p∈slK D c (toL _ ds),getB D σ p.1=some p.2:=fun p hp=>(List.map_inj_left.1 heq) p hp
     --the numbers of the blocks
     have hbox:=xbx_sound hxb;have hout:outS D c (toL _ ds) (toL _ y')=outB D (fun i=>i) 0 c.rts (ls++bl)++(boxB D 1000000 c.bx bl++slK D c (toL _ ds)):=by
      unfold outS slK;rw[hL, ←g3,List.drop_left]
     have lO:=(g4 bl).app (hbox.1.app (Lk.idR hsl));rw[←hout] at lO;have hB:=lO.rnB;have R2:=X.rep.ren hO hB;have hfzs:∀q∈bs,∃w b,getB D σ w=some b∧q∈Rs1 w∧rnV (al++(al'++idR D (slK D c (toL _ ds)))) w=false:=fun q hq=>by
      grind
     have hnk:∀v b,getB D (outS D c (toL _ ds) (toL _ y')) v=some b→∀q∈rnR (al++(al'++idR D (slK D c (toL _ ds)))) Rs1 v,q∉bs:=fun v b hv q hq hqb=>by
      have⟨w,b1,m1,m2,m3⟩:=hfzs q hqb;rcases hB v b hv with⟨w',j1,j2,_⟩|⟨j1,_⟩
      ·simp only[rnR,j1] at hq;have:w'≠w:=fun e=>by subst e;rw[rnV_of j1] at m3;cases m3
       exact X.rep.dj w' b w b1 j2 m1 this q hq m2
      ·simp only[rnR,j1] at hq;cases hq
     have hid:∀v b,getB D (inKB D c.bx c.ats (toL _ ds)) v=some b→rnG (al++(al'++idR D (slK D c (toL _ ds)))) v=some v:=fun v b hv=>by
      have hv1:=hge v b hv;refine rnG_has ?_ fun p hp e=> ?_
      ·rcases inKB_eq hv with⟨e,he,hv⟩|hm
       ·grind
       ·have:∀{s:Sto D},(v,b)∈s→(v,some v)∈idR D s:=fun {s}=>by
         induction s with
         |nil=>grind
         |cons p s ih=>
          intro h;rcases Xb.1 h with rfl|h
          ·simp[idR]
          ·exact Xq _ (ih h)
        exact⟨some v,by simp only[Xi];exact .inr (.inr (this hm))⟩
      ·rcases Xi.1 hp with hp|hp
       ·grind
       ·rcases Xi.1 hp with hp|hp
        ·rw[hbox.2.1 p hp] at e⊢;simp only at e;rw[e]
        ·rw[idR_mem hp,e]
     refine⟨xs,hres,bs,ys,rnW (al++(al'++idR D (slK D c (toL _ ds)))) ω1,rnR (al++(al'++idR D (slK D c (toL _ ds)))) Rs1,g6 bs (fun q hq=>hq),fun v b hv=> ?_,⟨fun v b hv=> ?_,R2.nd,R2.dj⟩, ?_,fun q rt hq hn=> ?_,fun v b hv q hq=> ?_⟩
     ·simp only[rnW,hid v b hv];exact(X.fix v ⟨b,hv⟩).1
     ·exact(R2.blk v b hv).frame fun q hq=>Hp.kill_ne (hnk v b hv q hq)
     ·rw[hL];refine g7 _ _ (fun p hp=> ?_) bl;have:rnG (al++(al'++idR D (slK D c (toL _ ds)))) p.1=p.2:=by
       have key:∀{r r':Ren} {i:Nat},rnK i r→∀p∈r,rnG (r++r') p.1=p.2:=fun {r r'}=>by
        induction r with
        |nil=>grind
        |cons a r ih=>
         intro i hi p hp;have⟨j,x⟩:=a;simp only[Xv,rnG];rcases Xb.1 hp with rfl|hp
         ·rcases beqS j j with⟨_,hb⟩|⟨e,_⟩
          ·rw[hb,cond_true]
          omega
         ·have:=rnK.ge hi.2 p hp;rcases beqS j p.1 with⟨e,_⟩|⟨_,hb⟩
          ·omega
          ·rw[hb,cond_false];exact ih hi.2 p hp
       grind
      simp only[rnW,this];cases p.2<;>rfl
     ·have hh:=X.frA q rt hq fun⟨v,b,hv,hm⟩=>hn v b hv hm;rw[Hp.kill_ne]
      ·exact hh
      ·intro hqb;have⟨w,b1,m1,m2,_⟩:=hfzs q hqb;rcases X.frB w b1 m1 q m2 with⟨v,b,hv,hm⟩|h0
       ·grind
       grind
     ·rcases hB v b hv with⟨w',j1,j2,_⟩|⟨j1,_⟩
      ·simp only[rnR,j1] at hq;exact X.frB w' b j2 q hq
      ·simp only[rnR,j1] at hq;cases hq
    ·exact(Y2a hk).elim
   ·exact(Y2a hk).elim
  ·exact(Y2a hk).elim
 have hO:FnO P f vs h (fun h1 av=>∃(xs:List AV) (bs:List Nat) (ys:List AV) (ω':Nat→AV) (Rs':Nat→List Nat),av=Y8i xs∧FzL h1 bs xs ys∧(∀v b,getB D (inKB D c.bx c.ats (toL _ ds)) v=some b→ω' v=ω v)∧xRep D (outS D c (toL _ ds) (toL _ y)) (fun _=>none) ω' Rs' (h1.kill bs)∧SRL D (h1.kill bs) ω' (outV D (fun i=>i) 0 c.rts (toL _ y)) ys∧
    (∀q rt,h.at q=some rt→(∀v b,getB D (inKB D c.bx c.ats (toL _ ds)) v=some b→q∉Rs v)→(h1.kill bs).at q=some rt)∧(∀v b,getB D (outS D c (toL _ ds) (toL _ y)) v=some b→∀q∈Rs' v,(∃v' b',getB D (inKB D c.bx c.ats (toL _ ds)) v'=some b'∧q∈Rs v')∨h.at q=none)) (fun _ _=>False):=by
  refine Y6t hf hb (by rw[k2];have h1:=SRL.len hvs;have h2:=(inVB_nc (D:=D) (bx:=c.bx) (ats:=c.ats) (ls:=toL _ ds)).2;omega) ?_;rw[k2];refine hq.mono fun ex e h1 k=> ?_;have⟨en,σ,tn,ω1,Rs1,X,hk⟩:=k;cases ex with
  |normal=>
   have⟨xs,r1,bs,ys,ω',Rs',r2⟩:=fin e h1 en σ tn ω1 Rs1 X hk;exact⟨xs,r1,xs,bs,ys,ω',Rs',rfl,r2⟩
  |ret=>
   have⟨xs,r1,bs,ys,ω',Rs',r2⟩:=fin e h1 en σ tn ω1 Rs1 X hk;exact⟨xs,r1,xs,bs,ys,ω',Rs',rfl,r2⟩
  |_=>exact(Y2a hk).elim
 rcases hO with⟨h1,av,hc,xs,bs,ys,ω',Rs',rfl,r1,r2⟩|⟨_,_,_,hf⟩
 ·exact⟨h1.kill bs,ω',Rs',ys,hc.frz r1.res,r2⟩
 grind
end
section
variable {D:SD} {P:Program}
def ptc (f:Nat) (c:PC D) (r:PCT D):PCT D:=fun g=>bif Nat.beq f g then some c else r g
def ctc (f:Nat) (c:FC D) (r:CtrT D):CtrT D:=fun g=>bif Nat.beq f g then some (ctrF D c) else r g
def ctc2 (f:Nat) (c c':FC D) (r:CtrT D):CtrT D:=fun g=>bif Nat.beq f g then some ⟨fun dst vs en σ tn K=>match xbr D σ tn c.bx c.ats vs with
 |some _=>xio D c dst vs en σ tn K
 |none=>xio D c' dst vs en σ tn K⟩ else r g
theorem Y0n{f:Nat}{c:PC D}{r:PCT D}(h:PCOK D P f c)(hr:∀g pc,r g=some pc→PCOK D P g pc):∀g pc,ptc f c r g=some pc→PCOK D P g pc:=fun g pc e=>by
 unfold ptc at e;rcases beqS f g with⟨rfl,hb⟩|⟨_,hb⟩
 ·simp_all
 simp_all
theorem Y38{f:Nat}{c:FC D}{r:CtrT D}(h:IOK D P f c)(hr:∀g C,r g=some C→CtrOK D P g C):∀g C,ctc f c r g=some C→CtrOK D P g C:=fun g C e=>by
 unfold ctc at e;rcases beqS f g with⟨rfl,hb⟩|⟨_,hb⟩
 ·rw[hb,cond_true] at e;cases e;exact xio_ok h
 simp_all
theorem ctc2_ok{f:Nat}{c c':FC D}{r:CtrT D}(h:IOK D P f c)(h':IOK D P f c')(hr:∀g C,r g=some C→CtrOK D P g C):∀g C,ctc2 f c c' r g=some C→CtrOK D P g C:=fun g C e=>by
 unfold ctc2 at e;rcases beqS f g with⟨rfl,hb⟩|⟨_,hb⟩
 ·rw[hb,cond_true] at e;cases e;intro R dst args en σ tn K r hx;have hx:dnf (match xbr D σ tn c.bx c.ats args with
   |some _=>xio D c dst args en σ tn K
   |none=>xio D c' dst args en σ tn K)=some r:=hx
  split at hx
  ·exact xio_ok h dst args en σ tn K r hx
  ·exact xio_ok h' dst args en σ tn K r hx
 simp_all
def zC (D:SD):(t:Ty)→(r:List Ty)→DenC D.S t r
 |t,[]=>dft D t
 |t,u::r=>(dft D t,zC D u r)
def zP (D:SD):(ts:List Ty)→DenP D.S ts
 |[]=>()
 |t::r=>zC D t r
def pcZ (D:SD) (ats rts:List Ty) (F:DenP D.S ats→Option (DenP D.S rts)):PC D:=pcF D ats rts F (zP D rts)
end
theorem toC_ty{S:Nat→Type}:∀{r:List Ty} {t:Ty} {d:DenC S t r},(toC t r d).map (·.1)=t::r
 |[],_,_=>rfl
 |u::r,t,d=>by
  show t::(toC u r d.2).map (·.1)=_;rw[toC_ty]
theorem toL_ty{S:Nat→Type}{ts:List Ty}{d:DenP S ts}:(toL ts d).map (·.1)=ts:=by
 cases ts with
 |nil=>rfl
 |cons t r=>exact toC_ty
theorem toL_all{S:Nat→Type}{ts:List Ty}{d:DenP S ts}{p:Ty→Bool}(h:ts.all p=true):∀l∈toL ts d,p l.1=true:=fun l hl=>by
 have h1:l.1∈(toL ts d).map (·.1):=Xp.2 ⟨l,hl,rfl⟩;rw[toL_ty] at h1
 simp_all
theorem xfnC{D:SD}{P:Program}{G:XG D}{f:FuncId}(hG:G.OK P){fn:Func}(hf:P.funcs[f]? =some fn){ats rts:List Ty}{F:DenP D.S ats→Option (DenP D.S rts)}(cut:DenP D.S ats→Nat→Option (XK D (DenP D.S rts)))
  (hk:(fn.body.isSome&&(Nat.beq fn.ntmps G.N&&(Nat.ble ats.length G.N&&(ats.all (plA D)&&rts.all (plT D)))))=true) (hp:rts.all (plT D)=true) (hH:∀ds,XHA D P G (cut ds) (fn.body.getD .skip) (KR D P rts fn.results.toList) True) (hx:∀ds,F ds=den (xfn D P G fn ats rts (cut ds) ds)) (ho:∀ds,obL [] (xfn D P G fn ats rts (cut ds) ds)=obR (xfn D P G fn ats rts (cut ds) ds)):PCOK D P f (pcZ D ats rts F):=
 pcF_ok hp fun ds x h=>xfnA hG hf cut hk hH hx ho ds x h
def sdOf (S:Nat→Type) (ts:Nat→List Ty) (z:(i:Nat)→S i) (enc:(i:Nat)→S i→List IV) (mk:(i:Nat)→DenP S (ts i)→S i) (pr:(i:Nat)→S i→DenP S (ts i))
  (h:∀i p,pr i (mk i p)=p) (ok:∀i x,enc i x=(toL (ts i) (pr i x)).map (lfS' S z enc)) (h1:∀i,(ts i).all oneT=true):SD where
 S:=S
 n i:=(ts i).length
 z:=z
 enc:=enc
 lv i x:=toL (ts i) (pr i x)
 un i ls:=match ofL (ts i) ls with
  |some p=>some (mk i p)
  |none=>none
 len i x:=by
  have:=congrArg List.length (toL_ty (d:=pr i x))
  rwa[Xw] at this
 sound i ls x hx:=by
  split at hx
  ·rename_i p hp
   cases hx
   rw[h]
   exact ofL_sound hp
  ·cases hx
 ok:=ok
 one i x:=toL_all (h1 i)
 pl i:=(ts i).all fun t=> !(ownB t)
 pln i hp x l hl:=by
  have:=toL_all (p:=fun t=> !(ownB t)) hp l hl
  simp_all
end Go.Abs
