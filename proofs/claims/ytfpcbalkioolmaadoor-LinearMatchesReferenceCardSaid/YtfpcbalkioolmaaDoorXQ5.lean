/- Own work. -/
import Derived.Test.YtfpcbalkioolmaaDoorXQ4
set_option linter.unusedSimpArgs false
set_option linter.unusedVariables false
namespace Go.Abs
structure Ctr (D:SD) where
 run:{R:Type}→Option Nat→List (SV D.S)→SEnv D→Sto D→xTn→(SV D.S→SEnv D→Sto D→xTn→XT R)→XT R
def CtrOK (D:SD) (P:Program) (f:FuncId) (C:Ctr D):Prop:=∀{R:Type} (dst:Option Nat) (args:List (SV D.S)) (en:SEnv D) (σ:Sto D) (tn:xTn) (K:SV D.S→SEnv D→Sto D→xTn→XT R) (r:R),dnf (C.run dst args en σ tn K)=some r→
 ∀h0 O0 ω0 F0 env h ω Rs (vs:List AV),XR D h0 O0 ω0 F0 en σ tn env h ω Rs→SRL D h ω args vs→∃h' av,CallOK P f vs h h' av∧∃sv en' σ' tn' ω' Rs',XR D h0 O0 ω0 F0 en' σ' tn' env h' ω' Rs'∧SR D h' ω' sv av∧notC D sv=true∧dnf (K sv en' σ' tn')=some r
section
variable (D:SD) (P:Program)
def xset (en:SEnv D):Option Nat→SV D.S→SEnv D
 |none,_=>en
 |some d,v=>(d,v)::en
abbrev CtrT:=FuncId→Option (Ctr D)
abbrev XK (R:Type):=SEnv D→Sto D→xTn→XT R
def noO {R:Type} (_:Oper):Option R:=none
def xcall {R:Type} (ct:CtrT D) (o:Oper) (dst:Option Nat) (hs:List Nat) (ρ:Operand→SV D.S) (en:SEnv D) (σ:Sto D) (tn:xTn) (K:SV D.S→SEnv D→Sto D→xTn→XT R):Op→XT R
 | .call ⟨.value (.func f),⟨xs⟩,_⟩=>bif Y4g P f then(match ct f,xoks D noI (xs.map ρ) with
  |some C,some (cs,vs)=>hg (tg dst) hs cs (C.run dst vs en σ tn K)
  |_,_=>.opt (noO o)) else .opt (noO o)
 |_=>.opt (noO o)
structure XG where
 GT:GTab D
 pt:PCT D
 ct:CtrT D
 te:TE
 mp:Nat→Option (List (Int×List Int))
 ow:List Nat
 fz:List (Nat×Nat)
 ht:HT
 N:Nat
def xheavy {R:Type} (G:XG D) (ρ:Operand→SV D.S) (en:SEnv D) (σ:Sto D) (tn:xTn) (K:SV D.S→SEnv D→Sto D→xTn→XT R) (o:Oper):XT R:=match o.op with
 | .store t x y=>(match xst D P σ tn t (ρ x) (ρ y) with
  |some (cs,σ')=>hg (tg o.dst) (hlk G.ht o.dst) cs (K .any en σ' tn)
  |none=>(match xsth D P en σ tn t (ρ x) (ρ y) with
   |some (en',σ')=>K .any en' σ' none
   |none=>.opt (noO o)))
 | .box e x=>(match xbox D G.te en σ tn o.dst e (ρ x) with
  |some (σ',sv)=>K sv en σ' tn
  |none=>.opt (noO o))
 | .alloc e=>(match xalloc D P G.te en σ tn o.dst e with
  |some (σ',sv)=>K sv en σ' tn
  |none=>.opt (noO o))
 | .call ⟨.builtin .append,⟨[s,x]⟩,⟨[t,u]⟩⟩=>(match xapp D P en σ tn o.dst t u (ρ s) (ρ x) with
  |some (cs,en',σ',sv)=>hg (tg o.dst) (hlk G.ht o.dst) cs (K sv en' σ' tn)
  |none=>(match xapf D P en σ tn o.dst t u (ρ s) (ρ x) with
   |some (cs,en',σ',tn',sv)=>hg (tg o.dst) (hlk G.ht o.dst) cs (K sv en' σ' tn')
   |none=>.opt (noO o)))
 | .slice t x none (some i) none=>(match xsld D P en σ tn o.dst t (ρ x) (ρ i) with
  |some (cs,en',σ',tn',sv)=>hg (tg o.dst) (hlk G.ht o.dst) cs (K sv en' σ' tn')
  |none=>.opt (noO o))
 | .buildSlice t n ⟨ps⟩=>(match xown D P G.te en σ tn o.dst t n (ps.map fun p=>(p.1,ρ p.2)) with
  |some (cs,σ',sv)=>hg (tg o.dst) (hlk G.ht o.dst) cs (K sv en σ' tn)
  |none=>.opt (noO o))
 |op=>xcall D P G.ct o o.dst (hlk G.ht o.dst) ρ en σ tn K op
def owO (G:XG D) (o:Oper):Bool:=match o.dst,o.op with
 |some d,.buildSlice _ _ _=>memB G.ow d
 |some d,.slice _ _ _ _ _=>memB G.ow d
 |_,_=>false
def xstep {R:Type} (G:XG D) (ops:Array Oper) (o:Oper) (en:SEnv D) (σ:Sto D) (tn:xTn) (K:SV D.S→SEnv D→Sto D→xTn→XT R):XT R:=match xguard D ops en o with
 |some gd=>(match bif owO D G o then none else xl D P ⟨G.te,G.mp⟩ G.pt en (gim D en gd) σ tn (xrdo D G.GT en) o.op with
  |some lv=>lk D (tg o.dst) (hlk G.ht o.dst) (fun v=>K v en σ tn) gd lv
  |none=>(match gd with
   |none=>xheavy D P G (xrdo D G.GT en) en σ tn K o
   |some _=>.opt (noO o)))
 |none=>.opt (noO o)
def refOK (d:Nat):SEnv D→Bool
 |[]=>true
 |(_,.cnd t _ _ _)::r=> !(Nat.beq t d)&&refOK d r
 |_::r=>refOK d r
def setOK (en:SEnv D) (d:Option Nat) (v:SV D.S):Bool:=match d with
 |none=>true
 |some d=>refOK D d en&&(match v with
  | .cnd t _ _ _=> !(Nat.beq t d)
  |_=>true)
def yTmp (d:Nat):Operand→Bool
 | .tmp t=>Nat.beq t d
 |_=>false
def xfu (G:XG D) (ops:Array Oper) (o o2:Oper) (en:SEnv D) (σ:Sto D) (tn:xTn):Option (SEnv D×Sto D):=match o.op,o2.op,o.dst,o2.dst with
 | .alloc e,.store t (.tmp d') y,some d,none=>(match xguard D ops en o,xguard D ops en o2,xalloc D P G.te en σ tn (some d) e,xrdo D G.GT en y with
  |some none,some none,none,.agg cs=>(match xbox D G.te en σ tn (some d) e (.agg cs),zc P e,szt P t with
   |some (σ',sv),some z,some n=>bif (Nat.beq d d'&&dstB G.N (some d))&&((!(yTmp d y)&&Nat.beq z.length n)&&((z.all (·.oneCell')&&Nat.beq cs.length n)&&setOK D en (some d) sv)) then some ((d,sv)::en,σ') else none
   |_,_,_=>none)
  |_,_,_,_=>none)
 |_,_,_,_=>none
def xseq {R:Type} (G:XG D) (ops:Array Oper):List Oper→SEnv D→Sto D→xTn→XK D R→XT R
 |[],en,σ,tn,K=>K en σ tn
 |[o],en,σ,tn,K=>bif dstB G.N o.dst then xstep D P G ops o en σ tn fun v en' σ' tn'=>bif setOK D en' o.dst v then K (xset D en' o.dst v) σ' tn' else .opt (noO o) else .opt (noO o)
 |o::o2::l,en,σ,tn,K=>(match xfu D P G ops o o2 en σ tn with
  |some (en',σ')=>xseq G ops l en' σ' tn K
  |none=>bif dstB G.N o.dst then xstep D P G ops o en σ tn fun v en' σ' tn'=>bif setOK D en' o.dst v then xseq G ops (o2::l) (xset D en' o.dst v) σ' tn' K else .opt (noO o) else .opt (noO o))
end
section
variable {D:SD} {P:Program} {h:Hp} {ω:Nat→AV} {σ:Sto D} {tn:xTn} {Rs:Nat→List Nat} {env:Env} {en:SEnv D} {ops:Array Oper} {h0:Hp} {O0:Nat→Prop} {ω0:Nat→AV} {F0:Nat→Prop}
theorem EnvR.set(H:EnvR h ω en env)(d:Option Nat){v:SV D.S}{a:AV}(hv:SR D h ω v a):EnvR h ω (xset D en d v) (setd env d a):=by
 cases d with
 |none=>exact H
 |some d=>
  intro i;simp only[xset,setd,xrd,rd];rcases beqS d i with⟨rfl,hb⟩|⟨hn,hb⟩
  ·simp_all
  ·rw[hb,cond_false,if_neg hn];exact H i
theorem xrd_mem:∀{en:SEnv D} {i:Nat} {t:Nat} {p g:Bool} {x:SV D.S},xrd D en i= .cnd t p g x→(i,.cnd t p g x)∈en
 |[],i,t,p,g,x,H=>by simp[xrd] at H
 |(j,v)::r,i,t,p,g,x,H=>by
  simp only[xrd] at H;rcases beqS j i with⟨rfl,hb⟩|⟨_,hb⟩
  ·simp_all
  ·rw[hb,cond_false] at H;exact Xq _ (xrd_mem H)
theorem refOK_ok{d:Nat}:∀{en:SEnv D},refOK D d en=true→∀i t p g x,(i,SV.cnd t p g x)∈en→t≠d
 |[],_,i,t,p,g,x,hm=>by simp at hm
 |(j,v)::r,H,i,t,p,g,x,hm=>by
  rcases Xb.1 hm with e|hm
  ·cases e;simp only[refOK,X2,X00] at H;intro e
   simp_all
  ·refine refOK_ok (en:=r) ?_ i t p g x hm;cases v<;>simp only[refOK,X2] at H<;>first
    |exact H
    |exact H.2
theorem gfl_set{d t:Nat}{p:Bool}{v:SV D.S}(hn:t≠d):gfl D ((d,v)::en) t p=gfl D en t p:=by
 unfold gfl;have:xrd D ((d,v)::en) t=xrd D en t:=by
  simp only[xrd];rcases beqS d t with⟨e,_⟩|⟨_,hb⟩
  ·omega
  simp_all
 rw[this]
theorem CndOK.set(H:CndOK en){d:Option Nat}{v:SV D.S}(hs:setOK D en d v=true)(hv:∀t p g x,v= .cnd t p g x→gfl D en t p=some g):CndOK (xset D en d v):=by
 cases d with
 |none=>exact H
 |some d=>
  simp only[setOK,X2] at hs;intro i t p g x hx;simp only[xset,xrd] at hx⊢;rcases beqS d i with⟨rfl,hb⟩|⟨_,hb⟩
  ·rw[hb,cond_true] at hx;subst hx;have:t≠d:=fun e=>by
    simp_all
   rw[gfl_set this]
   grind
  ·rw[hb,cond_false] at hx;rw[gfl_set (refOK_ok hs.1 i t p g x (xrd_mem hx))];exact H i t p g x hx
structure XG.OK (G:XG D) (P:Program):Prop where
 gt:GTOk D G.GT
 pt:∀f pc,G.pt f=some pc→PCOK D P f pc
 ct:∀f C,G.ct f=some C→CtrOK D P f C
 mp:∀i tab,G.mp i=some tab→(∀x,D.enc i x=[.mp (mapV tab)])∧(tab.all fun p=>p.2.length==3)=true
theorem Y2a{R:Type}{r:R}:dnf (XT.opt none)=some r→False:=fun h=>by cases h
def frO:Op→Bool
 | .alloc _=>true
 | .box _ _=>true
 | .buildSlice _ _ _=>true
 | .slice _ _ _ _ _=>true
 |_=>false
theorem xheavy_sound{R:Type}{G:XG D}(hG:G.OK P)(X:XR D h0 O0 ω0 F0 en σ tn env h ω Rs){o:Oper}{K:SV D.S→SEnv D→Sto D→xTn→XT R}{r:R}(hx:dnf (xheavy D P G (xrdo D G.GT en) en σ tn K o)=some r):
  ∃h' av,HStep P o env h h' av∧(frO o.op=true→Fx h h')∧∃sv en' σ' tn' ω' Rs',XR D h0 O0 ω0 F0 en' σ' tn' env h' ω' Rs'∧SR D h' ω' sv av∧notC D sv=true∧dnf (K sv en' σ' tn')=some r:=by
 have hρ:=xrdo_sr hG.gt X.env;unfold xheavy at hx
 split at hx
 ·rename_i t x y ho
  split at hx
  ·rename_i cs σ' hst;obtain⟨hc,hk⟩:=hg_some hx;obtain⟨h',k1,k2⟩:=xst_sound X ho hst hc (hρ x) (hρ y);exact⟨h',.any,k1,(fun e=>by rw[ho] at e;cases e),.any,en,σ',tn,ω,Rs,k2,by simp only[SR],rfl,hk⟩
  ·split at hx
   ·rename_i en' σ' hst;obtain⟨h',Rs',k1,k2⟩:=xsth_sound X ho hst (hρ x) (hρ y);exact⟨h',.any,k1,(fun e=>by rw[ho] at e;cases e),.any,en',σ',none,ω,Rs',k2,by simp only[SR],rfl,hx⟩
   ·exact(Y2a hx).elim
 ·rename_i e x ho
  split at hx
  ·rename_i σ' sv hb;obtain⟨h',av,k1,k2,ω',Rs',k3,k4,k5⟩:=xbox_sound X ho hb (hρ x);exact⟨h',av,k1,fun _=>k2,sv,en,σ',tn,ω',Rs',k3,k4,k5,hx⟩
  ·exact(Y2a hx).elim
 ·rename_i e ho
  split at hx
  ·rename_i σ' sv hb;obtain⟨h',av,k1,k2,ω',Rs',k3,k4,k5⟩:=xalloc_sound X ho hb
   grind
  ·exact(Y2a hx).elim
 ·rename_i s x t u ho
  split at hx
  ·rename_i cs en' σ' sv hb;obtain⟨hc,hk⟩:=hg_some hx;obtain⟨h',av,ω',Rs',k1,k3,k4,k5⟩:=xapp_sound X ho hb hc (hρ s) (hρ x);exact⟨h',av,k1,(fun e=>by rw[ho] at e;cases e),sv,en',σ',tn,ω',Rs',k3,k4,k5,hk⟩
  ·split at hx
   ·rename_i cs en' σ' tn' sv hb;obtain⟨hc,hk⟩:=hg_some hx;obtain⟨h',av,ω',Rs',k1,k3,k4,k5⟩:=xapf_sound X ho hb hc (hρ s) (hρ x);exact⟨h',av,k1,(fun e=>by rw[ho] at e;cases e),sv,en',σ',tn',ω',Rs',k3,k4,k5,hk⟩
   ·exact(Y2a hx).elim
 ·rename_i t x i ho
  split at hx
  ·rename_i cs en' σ' tn' sv hb;obtain⟨hc,hk⟩:=hg_some hx;obtain⟨av,ω',Rs',k1,k3,k4,k5⟩:=xsld_sound X ho hb hc (hρ x) (hρ i);exact⟨h,av,k1,fun _=>Fx.refl h,sv,en',σ',tn',ω',Rs',k3,k4,k5,hk⟩
  ·exact(Y2a hx).elim
 ·rename_i t n ps ho
  split at hx
  ·rename_i cs σ' sv hb;obtain⟨hc,hk⟩:=hg_some hx;obtain⟨h',av,ω',Rs',k1,k2,k3,k4,k5⟩:=xown_sound X hρ ho hb hc
   grind
  ·exact(Y2a hx).elim
 ·unfold xcall at hx
  split at hx
  ·rename_i f xs ts ho;cases hca:Y4g P f with
   |false=>rw[hca] at hx;exact(Y2a hx).elim
   |true=>
    rw[hca,cond_true] at hx
    split at hx
    ·rename_i C cs vs hC hxs;obtain⟨hc,hk⟩:=hg_some hx;obtain⟨g1,g2⟩:=xoks_sound hxs hc (fun x hx t p g y e hi=>by cases hi) (SRL.map hρ xs);obtain⟨h',av,k1,sv,en',σ',tn',ω',Rs',k2,k3,k4,k5⟩:=hG.ct f C hC o.dst vs en σ tn K r hk h0 O0 ω0 F0 env h ω Rs _ X g2;refine⟨h',av,Y9l (first:=[]) ho hca (.inl ⟨rfl,rfl⟩) (fun y hy=>g1 _ (Xp.2 ⟨y,hy,rfl⟩)) ?_,(fun e=>by rw[ho] at e;cases e),sv,en',σ',tn',ω',Rs',k2,k3,k4,k5⟩;rw[Xt];rw[X1o] at k1;exact k1
    ·exact(Y2a hx).elim
  ·exact(Y2a hx).elim
theorem xstep_sound{R:Type}{G:XG D}(hG:G.OK P)(X:XR D h0 O0 ω0 F0 en σ tn env h ω Rs){o:Oper}{K:SV D.S→SEnv D→Sto D→xTn→XT R}{r:R}(hx:dnf (xstep D P G ops o en σ tn K)=some r):
  ∃h' av,OStep P ops o env h h' av∧∃sv en' σ' tn' ω' Rs',XR D h0 O0 ω0 F0 en' σ' tn' env h' ω' Rs'∧SR D h' ω' sv av∧(∀t p g x,sv= .cnd t p g x→gfl D en' t p=some g)∧dnf (K sv en' σ' tn')=some r:=by
 unfold xstep at hx
 split at hx
 ·rename_i gd hg
  split at hx
  ·rename_i lv hl;have hl:xl D P ⟨G.te,G.mp⟩ G.pt en (gim D en gd) σ tn (xrdo D G.GT en) o.op=some lv:=by
    grind
   have⟨sv,av,k1,k2,k3,k4⟩:=lk_sound hG.gt hG.mp hG.pt X hg hl hx;exact⟨h,av,k1 h (.inl (Fx.refl h)),sv,en,σ,tn,ω,Rs,X,k2,k3,k4⟩
  ·split at hx
   ·have⟨h',av,k1,_,sv,en',σ',tn',ω',Rs',k2,k3,k4,k5⟩:=xheavy_sound hG X hx;exact⟨h',av,.un hg k1,sv,en',σ',tn',ω',Rs',k2,k3,(fun t p g x e=>by subst e;cases k4),k5⟩
   ·exact(Y2a hx).elim
 ·exact(Y2a hx).elim
theorem Y95{R:Type}{r:R}{b:Bool}{t:XT R}(h:dnf (bif b then t else .opt none)=some r):b=true∧dnf t=some r:=by
 cases b with
 |true=>simp_all
 |false=>cases h
theorem xfu_sound{G:XG D}(hG:G.OK P)(X:XR D h0 O0 ω0 F0 en σ tn env h ω Rs){o o2:Oper}{en':SEnv D}{σ':Sto D}(hx:xfu D P G ops o o2 en σ tn=some (en',σ')):
  dstB G.N o.dst=true∧o2.dst=none∧∃h1 h2 av,OStep P ops o env h h1 av∧OStep P ops o2 (setd env o.dst av) h1 h2 .any∧∃ω' Rs',XR D h0 O0 ω0 F0 en' σ' tn (setd env o.dst av) h2 ω' Rs':=by
 unfold xfu at hx
 split at hx
 ·rename_i e t d' y d ho ho2 hd hd2
  split at hx
  ·rename_i cs hg1 hg2 _ hy
   split at hx
   ·rename_i σ1 sv z n hb hz hn;have⟨hc,hx'⟩:=condSu hx;clear hx;simp only[X2,X00] at hc;have⟨⟨c1,c2⟩,⟨c3,c4⟩,⟨c5,c6⟩,c7⟩:=hc;have c1:=Xe c1;have c4:=Xe c4;have c6:=Xe c6;subst c1;cases hx';have hyr:=xrdo_sr hG.gt X.env y;rw[hy] at hyr;simp only[SR] at hyr;have⟨l,e1,hl⟩:=hyr;unfold xbox at hb;simp only at hb
    split at hb
    ·rename_i t0 _
     split at hb
     ·rename_i ls hs;have⟨k1,cs2,k2,k3⟩:=svT_soft hs hl;obtain⟨v,t1,x1,m1,m2,m5,m3,m4,rfl,rfl⟩:=xnew_some hb;have hv:v=d:=by
       unfold xnew at hb
       grind
      subst hv;have⟨r,hr,hr0⟩:=Hp.freshR h h0;have hlen:l.length=n:=by rw[hl.len,c6]
      have h1at:Hp.at ((r,⟨0,true,e,z.length,z.map fun v=>AV.im (.val v)⟩)::h) r=some ⟨0,true,e,z.length,z.map fun v=>AV.im (.val v)⟩:=by simp[Hp.at]
      have s1:=Y30 (RStep.alloc (P:=P) (env:=env) ho r hr hz c5);have hye:rdo (setd env o.dst (.ref r 0 0)) y= .agg l:=by
       rw[hd];cases y with
       |tmp s=>
        have:¬v=s:=fun e=>by subst e;simp[yTmp] at c3
        simp only[rdo,setd,rd,if_neg this] at e1⊢;exact e1
       |_=>exact e1
      have hxe:rdo (setd env o.dst (.ref r 0 0)) (.tmp v)= .ref r 0 0:=by
       rw[hd];simp[rdo,setd,rd]
      have hcl:Y1r (st (AV.agg l))=l:=rfl;have s2:=RStep.store (P:=P) (env:=setd env o.dst (.ref r 0 0)) ho2 (r:=r) (ver:=0) (off:=0) (by rw[hxe];rfl) (by rw[hxe];trivial) (by rw[hye];trivial) h1at rfl rfl (by simp_all) (by
       rw[hye];exact fun x hx=>oneA_fr (Fx.new hr) (k1 x hx)) (by simp_all)
      rw[hye,hcl] at s2;have hput:putA (z.map fun v=>AV.im (.val v)) 0 l=l:=by
       unfold putA;rw[List.take_zero,X05,Xt,X1d (by simp_all),X0l]
      simp only[hput] at s2;have s3:=Y9v (Y30 s2) k2;have hl2:cs2.length=z.length:=by rw[←k2.len,hlen,c4]
      have⟨j1,j2⟩:=X.box (v:=v) (e:=e) (x:=x1) (cs:=cs2) m2 m5 m3 m4 hr hr0 (by rw[Y7m _ _ _ m1];exact k3 _);refine⟨by simp_all,hd2,_,(r,⟨0,true,e,cs2.length,cs2⟩)::h,.ref r 0 0,.un hg1 s1,.un hg2 (Y9k ?_ s3),_,_,⟨j1.rep, ?_,j1.cnd.set (d:=some v) c7 (fun t p g x e=>by cases e),j1.fix,j1.frA,j1.frB⟩⟩
      ·intro q;simp only[Hp.at]
       simp_all
      ·have:=j1.env.set (some v) j2;rw[hd];exact this
     ·cases hb
    ·cases hb
   ·cases hx
  ·cases hx
 ·cases hx
theorem xseq_sound{R:Type}{G:XG D}(hG:G.OK P){K:XK D R}{r:R}:∀(l:List Oper) {en:SEnv D} {σ:Sto D} {tn:xTn} {env:Env} {h:Hp} {ω:Nat→AV} {Rs:Nat→List Nat},
  dnf (xseq D P G ops l en σ tn K)=some r→XR D h0 O0 ω0 F0 en σ tn env h ω Rs→SQ P G.N ops l env h fun x env' h'=>x= .normal∧∃en' σ' tn' ω' Rs',XR D h0 O0 ω0 F0 en' σ' tn' env' h' ω' Rs'∧dnf (K en' σ' tn')=some r
 |[],en,σ,tn,env,h,ω,Rs,hx,X=>Y6 ⟨rfl,en,σ,tn,ω,Rs,X,hx⟩
 |[o],en,σ,tn,env,h,ω,Rs,hx,X=>by
  simp only[xseq] at hx;have⟨hd,hx⟩:=Y95 hx;have⟨h',av,k1,sv,en',σ',tn',ω',Rs',k2,k3,k4,k5⟩:=xstep_sound hG X hx;have⟨hs,k5⟩:=Y95 k5;exact Y0f (dstB_sound hd) k1 (Y6 ⟨rfl,_,_,_,_,_,⟨k2.rep,k2.env.set _ k3,k2.cnd.set hs k4,k2.fix,k2.frA,k2.frB⟩,k5⟩)
 |o::o2::l,en,σ,tn,env,h,ω,Rs,hx,X=>by
  simp only[xseq] at hx
  split at hx
  ·rename_i en' σ' hf;have⟨hd,hd2,h1,h2,av,k1,k2,ω',Rs',X'⟩:=xfu_sound hG X hf;exact Y0f (dstB_sound hd) k1 (Y0f (by grind) k2 (by rw[hd2];exact xseq_sound hG l hx X'))
  ·have⟨hd,hx⟩:=Y95 hx;have⟨h',av,k1,sv,en',σ',tn',ω',Rs',k2,k3,k4,k5⟩:=xstep_sound hG X hx;have⟨hs,k5⟩:=Y95 k5;exact Y0f (dstB_sound hd) k1 (xseq_sound hG (o2::l) k5 ⟨k2.rep,k2.env.set _ k3,k2.cnd.set hs k4,k2.fix,k2.frA,k2.frB⟩)
end
section
variable (D:SD) (P:Program)
def hvO (G:XG D) (o:Oper):Bool:=owO D G o||(match o.op with
  | .store _ _ _=>true
  | .alloc _=>true
  | .box _ _=>true
  | .call ⟨.value (.func f),_,_⟩=>(match G.pt f with
    |some _=>false
    |none=>true)
  | .call ⟨.builtin .append,_,_⟩=>true
  |_=>false)
def xcl (G:XG D):Nat→List Oper→List Nat
 |_,[]=>[]
 |i,o::l=>bif hvO D G o then i::xcl G (i+1) l else xcl G (i+1) l
def xfk (G:XG D):List Oper→List Bool
 |[]=>[]
 |o::l=>bif hvO D G o then frO o.op::xfk G l else xfk G l
def wnB (fk:List Bool) (p:Nat) (ws:List Nat):Bool:=ws.all fun p'=>nle p p'&&(List.range (p'-p)).all fun d=>fk.getD (p+d) false
def posB (cl:List Nat) (i p:Nat):Bool:=match posN cl i 0 with
 |some k=>Nat.beq k p
 |none=>false
def posZ (cl:List Nat) (i:Nat):Bool:=match posN cl i 0 with
 |some _=>false
 |none=>true
def xdrw {R:Type} (G:XG D) (ops:Array Oper) (ms cl:List Nat) (fk:List Bool):Nat→Nat→List Oper→SEnv D→Sto D→xTn→XK D R→XT R
 |_,p,[],en,σ,tn,K=>bif Nat.beq p cl.length then K en σ tn else .opt none
 |i,p,o::l,en,σ,tn,K=>bif hvO D G o then(bif posB cl i p&&(fk.getD p false==frO o.op) then(match xguard D ops en o with
   |some none=>xheavy D P G (xrdo D G.GT en) en σ tn (fun v en' σ' tn'=>bif setOK D en' o.dst v then xdrw G ops ms cl fk (i+1) (p+1) l (xset D en' o.dst v) σ' tn' K else .opt (noO o)) o
   |_=>.opt (noO o)) else .opt (noO o))
  else(bif posZ cl i&&(wnB fk p (wins ms cl i cl.length)||hfO o) then(match xguard D ops en o with
   |some gd=>(match xl D P ⟨G.te,G.mp⟩ G.pt en (gim D en gd) σ tn (xrdo D G.GT en) o.op with
    |some lv=>lk D (tg o.dst) (hlk G.ht o.dst) (fun v=>bif setOK D en o.dst v then xdrw G ops ms cl fk (i+1) p l (xset D en o.dst v) σ tn K else .opt (noO o)) gd lv
    |none=>.opt (noO o))
   |none=>.opt (noO o)) else .opt (noO o))
def drwB (G:XG D) (ops:Array Oper) (ms cl:List Nat):Bool:=P.follows .mixedOrders&&(drawOk G.N ops&&((cl.all fun c=>nlt c ops.size)&&ordB ms cl))
def noRg {R:Type} (_:Array Oper):Option R:=none
def xdraw {R:Type} (G:XG D) (ops:Array Oper) (en:SEnv D) (σ:Sto D) (tn:xTn) (K:XK D R):XT R:=bif drwB D P G ops (ancs ops.toList []) (xcl D G 0 ops.toList) then xdrw D P G ops (ancs ops.toList []) (xcl D G 0 ops.toList) (xfk D G ops.toList) 0 0 ops.toList en σ tn K else .opt (noRg ops)
end
section
variable {D:SD} {P:Program} {ops:Array Oper} {h0:Hp} {O0:Nat→Prop} {ω0:Nat→AV} {F0:Nat→Prop}
theorem xdrw_sound{R:Type}{G:XG D}(hG:G.OK P){ms cl:List Nat}{fk:List Bool}{K:XK D R}{r:R}:∀(l:List Oper) (i p:Nat) {en:SEnv D} {σ:Sto D} {tn:xTn} {env:Env} {h:Hp} {ω:Nat→AV} {Rs:Nat→List Nat} (hl0:List Hp),
  dnf (xdrw D P G ops ms cl fk i p l en σ tn K)=some r→XR D h0 O0 ω0 F0 en σ tn env h ω Rs→hl0.length=p→
  ∃vs tl,DObl P ops ms cl (hl0++h::tl) i l vs env∧p+tl.length=cl.length∧(∀k,p≤k→k<cl.length→fk.getD k false=true→Fx ((hl0++h::tl).getD k []) ((hl0++h::tl).getD (k+1) []))∧
   ∃en' σ' tn' ω' Rs',XR D h0 O0 ω0 F0 en' σ' tn' (envAt env l vs) ((hl0++h::tl).getD cl.length []) ω' Rs'∧dnf (K en' σ' tn')=some r
 |[],i,p,en,σ,tn,env,h,ω,Rs,hl0,hx,X,hp=>by
  simp only[xdrw] at hx;have⟨h1,h2⟩:=Y95 hx;have h1:=Xe h1;refine⟨[],[],trivial,by omega,fun k h3 h4=>by omega,en,σ,tn,ω,Rs, ?_,h2⟩;have:(hl0++[h]).getD cl.length []=h:=by simp_all
  rw[this];exact X
 |o::l,i,p,en,σ,tn,env,h,ω,Rs,hl0,hx,X,hp=>by
  have hat:∀tl,(hl0++h::tl).getD p []=h:=fun tl=>by simp_all
  simp only[xdrw] at hx;cases hv:hvO D G o with
  |true=>
   rw[hv,cond_true] at hx;have⟨hb,hx⟩:=Y95 hx;simp only[X2,beq_iff_eq] at hb
   split at hx
   ·rename_i hgd;have⟨h',av,k1,kf,sv,en',σ',tn',ω',Rs',k2,k3,k4,k5⟩:=xheavy_sound hG X hx;have⟨hs,k5⟩:=Y95 k5;have⟨vs,tl,j1,j2,j3,j4⟩:=xdrw_sound hG l (i+1) (p+1) (hl0++[h]) k5 (env:=setd env o.dst av) ⟨k2.rep,k2.env.set _ k3,k2.cnd.set hs (fun t p g x e=>by subst e;cases k4),k2.fix,k2.frA,k2.frB⟩ (by simp[hp]);rw[Xh] at j1 j3 j4;refine⟨av::vs,h'::tl,⟨?_,j1⟩,by grind,fun k h3 h4 h5=> ?_,j4⟩
    ·have hpos:posN cl i 0=some p:=by
      have:=hb.1;unfold posB at this
      split at this
      ·rename_i k hk;rw[hk,Xe this]
      grind
     rw[hpos];show OStep P ops o env ((hl0++h::h'::tl).getD p []) ((hl0++h::h'::tl).getD (p+1) []) av;rw[hat,show(hl0++h::h'::tl).getD (p+1) []=h' by simp_all];exact .un hgd k1
    ·by_cases e:k=p
     ·simp_all
     grind
   ·exact(Y2a hx).elim
  |false=>
   rw[hv,cond_false] at hx;have⟨hb,hx⟩:=Y95 hx;simp only[X2] at hb
   split at hx
   ·rename_i gd hgd
    split at hx
    ·rename_i lv hlv;have⟨sv,av,k1,k3,k4,k5⟩:=lk_sound hG.gt hG.mp hG.pt X hgd hlv hx;have⟨hs,k5⟩:=Y95 k5;have⟨vs,tl,j1,j2,j3,j4⟩:=xdrw_sound hG l (i+1) p hl0 k5 (env:=setd env o.dst av) ⟨X.rep,X.env.set _ k3,X.cnd.set hs k4,X.fix,X.frA,X.frB⟩ hp;refine⟨av::vs,tl,⟨?_,j1⟩,j2,j3,j4⟩;have hpos:posN cl i 0=none:=by
      have:=hb.1;unfold posZ at this
      grind
     rw[hpos];intro p' hp';rcases X02 _ _▸hb.2 with hb2|hb2
     case inr=>simp_all
     have hw:=Xg.1 hb2 p' hp';simp only[X2,nle_eq,Xg,Xy] at hw;have hle:p'≤cl.length:=by
      have:=(List.mem_filter.1 hp').1
      grind
     have chain:∀d,d≤p'-p→Fx h ((hl0++h::tl).getD (p+d) []):=by
      intro d
      induction d with
      |zero=>intro _;rw[X0f,hat];exact Fx.refl h
      |succ d ih=>
       intro hd;exact(ih (by omega)).trans (j3 (p+d) (by omega) (by omega) (hw.2 d (by omega)))
     have:=chain (p'-p) (Xk _)
     simp_all
    ·exact(Y2a hx).elim
   ·exact(Y2a hx).elim
def XPost {D:SD} {R:Type} (h0:Hp) (O0:Nat→Prop) (ω0:Nat→AV) (F0:Nat→Prop) (K:Exit→XK D R) (r:R) (x:Exit) (env:Env) (h:Hp):Prop:=∃en σ tn ω Rs,XR D h0 O0 ω0 F0 en σ tn env h ω Rs∧dnf (K x en σ tn)=some r
theorem xdraw_sound{R:Type}{G:XG D}(hG:G.OK P){id:Nat}{K:Exit→XK D R}{r:R}{en:SEnv D}{σ:Sto D}{tn:xTn}{env:Env}{h:Hp}{ω:Nat→AV}{Rs:Nat→List Nat}(hx:dnf (xdraw D P G ops en σ tn (K .normal))=some r)(X:XR D h0 O0 ω0 F0 en σ tn env h ω Rs):GQ [] P G.N (.region id ops true) env h (XPost h0 O0 ω0 F0 K r):=by
 unfold xdraw at hx;have⟨hb,hx⟩:=Y95 hx;unfold drwB at hb;simp only[X2] at hb;have⟨vs,tl,j1,j2,_,en',σ',tn',ω',Rs',X',hk⟩:=xdrw_sound hG ops.toList 0 0 [] hx X rfl;exact Y1x hb.1 hb.2.1 vs _ (h::tl) _ hb.2.2.1 hb.2.2.2 rfl rfl j1 ⟨en',σ',tn',ω',Rs',X',hk⟩
end
section
variable {D:SD} {P:Program} {h h':Hp} {ω ω':Nat→AV} {σ σ':Sto D} {tn:xTn} {Rs:Nat→List Nat} {env:Env} {en:SEnv D} {h0:Hp} {O0:Nat→Prop} {ω0:Nat→AV} {F0:Nat→Prop}
theorem XR.frz(X:XR D h0 O0 ω0 F0 en σ tn env h ω Rs){s w:Nat}{e:TypeId}{ty:Ty}{ys:List (Den D.S ty)}(hs:xrd D en s= .vw w [])(hg:getB D σ w=some ⟨false,e,ty,ys⟩)(hp:plT D ty=true)(ht:tnOk tn w=true)(hset:setOK D (mskE D (idsB D w σ) en) (some s) (.d ty ys)=true):
  (∀i,FzS h (Rs w) (rd env i) (rd ((s,AV.im (.sl (fzC D ty ys) ys.length))::env) i))∧XR D h0 O0 ω0 F0 ((s,.d ty ys)::mskE D (idsB D w σ) en) (rmB D w σ) tn ((s,AV.im (.sl (fzC D ty ys) ys.length))::env) (h.kill (Rs w)) ω Rs:=by
 have hB:=X.rep.blk w _ hg;rw[tnOk_ok ht] at hB;have hE:=X.env s;rw[hs] at hE;simp only[SR,HdAt] at hE;have hH:HdR D h (LfR D h 9) none e ty ys (ω w) (Rs w):=hB;have⟨bs,hb1,hb2⟩:=hH.args hp;have apart:∀v b,getB D (rmB D w σ) v=some b→getB D σ v=some b∧∀q∈Rs v,q∉Rs w:=fun v b hv=>by
  have⟨h1,h2⟩:=rmB_get hv;exact⟨h2,X.rep.dj v b w _ h2 hg h1⟩
 refine⟨fun i=> ?_,⟨⟨fun v b hv=> ?_,fun v b hv=>X.rep.nd v b (apart v b hv).1,fun v b v' b' hv hv'=>X.rep.dj v b v' b' (apart v b hv).1 (apart v' b' hv').1⟩,fun i=> ?_,X.cnd.msk.set (d:=some s) hset (fun t p g x e=>by cases e),X.fix,fun q rt hq hO=> ?_,fun v b hv=>X.frB v b (apart v b hv).1⟩⟩
 ·simp only[rd]
  by_cases e:s=i
  ·subst e;rw[if_pos rfl,hE.2];have:=hb2 h (Fx.refl h);exact FzS.arg this.2 this.1 hb1 rfl
  ·rw[if_neg e];exact FzS.refl _ _ _
 ·have⟨h1,h2⟩:=apart v b hv;exact(X.rep.blk v b h1).frame fun q hq=>Hp.kill_ne (h2 q hq)
 ·simp only[xrd,rd];rcases beqS s i with⟨rfl,hb⟩|⟨hn,hb⟩
  ·rw[hb,cond_true,if_pos rfl];rfl
  ·rw[hb,cond_false,if_neg hn,xrd_msk];cases hk:mkS D (idsB D w σ) (xrd D en i) with
   |false=>rw[cond_false];simp only[SR]
   |true=>
    rw[cond_true];refine SR.frk (fun _ _=>rfl) (fun v q rt hv hq hrt=> ?_) hk (X.env i);have⟨h1,b,h2⟩:=idsB_mem hv;have h3:=(X.rep.blk v b h2).root hq;exact⟨rt,(Hp.kill_ne (X.rep.dj v b w _ h2 hg h1 q h3)).trans hrt,rfl,rfl⟩
 ·rw[Hp.kill_ne]
  ·exact X.frA q rt hq hO
  ·intro hm;rcases X.frB w _ hg q hm with h1|h1
   ·grind
   simp_all
end
def xfz {R:Type} (D:SD) (id:Nat):List (Nat×Nat)→SEnv D→Sto D→xTn→XK D R→XT R
  |[],en,σ,tn,K=>K en σ tn
  |(i,s)::r,en,σ,tn,K=>bif Nat.beq i id then(match xrd D en s with
    | .vw w []=>(match getB D σ w with
      |some ⟨false,_,ty,ys⟩=>bif plT D ty&&(tnOk tn w&&setOK D (mskE D (idsB D w σ) en) (some s) (.d ty ys)) then xfz D id r ((s,.d ty ys)::mskE D (idsB D w σ) en) (rmB D w σ) tn K else .opt none
      |_=>.opt none)
    |_=>xfz D id r en σ tn K) else xfz D id r en σ tn K
theorem xfz_sound{R:Type}{D:SD}{P:Program}{N:Nat}{c:Code}{id:Nat}{h0:Hp}{O0:Nat→Prop}{ω0:Nat→AV}{F0:Nat→Prop}{K:XK D R}{K':Exit→Env→Hp→Prop}{r:R}(hk:∀en σ tn env h ω Rs,XR D h0 O0 ω0 F0 en σ tn env h ω Rs→dnf (K en σ tn)=some r→GQ [] P N c env h K'):∀(l:List (Nat×Nat)) {en:SEnv D} {σ:Sto D} {tn:xTn} {env:Env} {h:Hp} {ω:Nat→AV} {Rs:Nat→List Nat},
  dnf (xfz D id l en σ tn K)=some r→XR D h0 O0 ω0 F0 en σ tn env h ω Rs→GQ [] P N c env h K'
 |[],en,σ,tn,env,h,ω,Rs,hx,X=>hk en σ tn env h ω Rs X hx
 |(i,s)::l,en,σ,tn,env,h,ω,Rs,hx,X=>by
  simp only[xfz] at hx;cases hb:Nat.beq i id with
  |false=>rw[hb,cond_false] at hx;exact xfz_sound hk l hx X
  |true=>
   rw[hb,cond_true] at hx
   split at hx
   ·rename_i w hw
    split at hx
    ·rename_i e ty ys hg;have⟨hc,hx⟩:=Y95 hx;simp only[X2] at hc;have⟨h1,h2⟩:=X.frz hw hg hc.1 hc.2.1 hc.2.2;exact EnvSubF.gq h1 rfl (xfz_sound hk l hx h2)
    ·exact(Y2a hx).elim
   ·exact xfz_sound hk l hx X
section
variable (D:SD) (P:Program)
abbrev XE (R:Type):=Exit→SEnv D→Sto D→xTn→XT R
def rid1:Code→Nat
 | .region id _ _=>id
 | .seq a _=>rid1 a
 | .block _ c=>rid1 c
 | .loop c=>rid1 c
 | .scope c=>rid1 c
 |_=>1000000
def ctg:Operand→Nat
 | .tmp t=>16*t+15
 |_=>0
def noL {R:Type} (_:Code) (_:XE D R):Option R:=none
def xrun {R:Type} (G:XG D) (cut:Nat→Option (XK D R)):Code→SEnv D→Sto D→xTn→XE D R→XT R
 | .skip,en,σ,tn,K=>K .normal en σ tn
 | .label _,en,σ,tn,K=>K .normal en σ tn
 | .exit id,en,σ,tn,K=>K (.exit id) en σ tn
 | .ret,en,σ,tn,K=>K .ret en σ tn
 | .region id ops false,en,σ,tn,K=>xfz D id G.fz en σ tn fun en σ tn=>xseq D P G ops ops.toList en σ tn (K .normal)
 | .region id ops true,en,σ,tn,K=>xfz D id G.fz en σ tn fun en σ tn=>xdraw D P G ops en σ tn (K .normal)
 | .seq a b,en,σ,tn,K=>xrun G cut a en σ tn fun x en' σ' tn'=>match x with
  | .normal=>(match cut (rid1 b) with
   |some f=>f en' σ' tn'
   |none=>xrun G cut b en' σ' tn' K)
  |x=>K x en' σ' tn'
 | .cond c a b,en,σ,tn,K=>(match xrdo D G.GT en c with
  | .b g=>.cond (ctg c) g (xrun G cut a en σ tn K) (xrun G cut b en σ tn K)
  |_=>.opt none)
 | .block id c,en,σ,tn,K=>xrun G cut c en σ tn fun x=>K (match x with
  | .exit j=>if j=id then .normal else .exit j
  |y=>y)
 | .scope c,en,σ,tn,K=>xrun G cut c en σ tn fun x en' σ' tn'=>match x with
  | .goto _=>.opt none
  |x=>K x en' σ' tn'
 | .loop c,en,σ,tn,K=>(match cut (rid1 c+2000000) with
  |some f=>f en σ tn
  |none=>.opt (noL D c K))
 |_,_,_,_,_=>.opt none
end
section
variable {D:SD} {P:Program} {G:XG D}
def XOb {R:Type} (D:SD) (P:Program) (N:Nat) (c:Code) (f:XK D R) (K:XE D R):Prop:=∀(en:SEnv D) (σ:Sto D) (tn:xTn) (r:R),dnf (f en σ tn)=some r→∀h0 O0 ω0 F0 env h ω Rs,XR D h0 O0 ω0 F0 en σ tn env h ω Rs→GQ [] P N c env h (XPost h0 O0 ω0 F0 K r)
def xafter {R:Type} (D:SD) (P:Program) (G:XG D) (cut:Nat→Option (XK D R)) (b:Code) (K:XE D R):XE D R:=fun x en' σ' tn'=>match x with
 | .normal=>(match cut (rid1 b) with
  |some f=>f en' σ' tn'
  |none=>xrun D P G cut b en' σ' tn' K)
 |x=>K x en' σ' tn'
def xblk {R:Type} {D:SD} (id:Nat) (K:XE D R):XE D R:=fun x=>K (match x with
  | .exit j=>if j=id then .normal else .exit j
  |y=>y)
def xscp {R:Type} {D:SD} (K:XE D R):XE D R:=fun x en' σ' tn'=>match x with
  | .goto _=>.opt none
  |x=>K x en' σ' tn'
def XH {R:Type} (D:SD) (P:Program) (G:XG D) (cut:Nat→Option (XK D R)):Code→XE D R→List Prop
 | .seq a b,K=>XH D P G cut a (xafter D P G cut b K)++(match cut (rid1 b) with
  |some f=>[XOb D P G.N b f K]
  |none=>XH D P G cut b K)
 | .cond _ a b,K=>XH D P G cut a K++XH D P G cut b K
 | .block id c,K=>XH D P G cut c (xblk id K)
 | .scope c,K=>XH D P G cut c (xscp K)
 | .loop c,K=>(match cut (rid1 c+2000000) with
  |some f=>[XOb D P G.N (.loop c) f K]
  |none=>[])
 |_,_=>[]
theorem GQ.scopeX{N:Nat}{c:Code}{env:Env}{h:Hp}{K K':Exit→Env→Hp→Prop}(H:GQ [] P N c env h K')(hk:∀x e h',K' x e h'→(∀l,x≠ .goto l)∧K x e h'):GQ [] P N (.scope c) env h K:=by
 have⟨x,e,h',g,k⟩:=H;have⟨h1,h2⟩:=hk x e h' k;exact⟨x,e,h',Goes.scope h1 g,h2⟩
theorem Y80{R:Type}{cut:Nat→Option (XK D R)}{h0:Hp}{O0:Nat→Prop}{ω0:Nat→AV}{F0:Nat→Prop}(hG:G.OK P){r:R}:∀(c:Code) {en:SEnv D} {σ:Sto D} {tn:xTn} {env:Env} {h:Hp} {ω:Nat→AV} {Rs:Nat→List Nat} {K:XE D R},
  dnf (xrun D P G cut c en σ tn K)=some r→XR D h0 O0 ω0 F0 en σ tn env h ω Rs→(∀p∈XH D P G cut c K,p)→GQ [] P G.N c env h (XPost h0 O0 ω0 F0 K r)
 | .skip,en,σ,tn,env,h,ω,Rs,K,hx,X,_=>Y02 ⟨en,σ,tn,ω,Rs,X,hx⟩
 | .label _,en,σ,tn,env,h,ω,Rs,K,hx,X,_=>GQ.label ⟨en,σ,tn,ω,Rs,X,hx⟩
 | .exit _,en,σ,tn,env,h,ω,Rs,K,hx,X,_=>Y8m ⟨en,σ,tn,ω,Rs,X,hx⟩
 | .ret,en,σ,tn,env,h,ω,Rs,K,hx,X,_=>Y0c ⟨en,σ,tn,ω,Rs,X,hx⟩
 | .region _ ops false,en,σ,tn,env,h,ω,Rs,K,hx,X,_=>by
  refine xfz_sound (fun en σ tn env h ω Rs X hx=> ?_) G.fz hx X;refine Y2 ?_;have⟨x,e,h',g,hx',k⟩:=xseq_sound hG ops.toList hx X;subst hx';exact⟨_,e,h',g,k⟩
 | .region _ ops true,en,σ,tn,env,h,ω,Rs,K,hx,X,_=>xfz_sound (fun en σ tn env h ω Rs X hx=>xdraw_sound hG hx X) G.fz hx X
 | .seq a b,en,σ,tn,env,h,ω,Rs,K,hx,X,H=>by
  have e:xrun D P G cut (.seq a b) en σ tn K=xrun D P G cut a en σ tn (xafter D P G cut b K):=by
   simp only[xrun];congr 1;funext x e s t;cases x<;>first
    |rfl
    |(simp only[xafter];cases cut (rid1 b)<;>rfl)
  rw[e] at hx;have ha:=Y80 hG a hx X fun p hp=>H p (by simp only[XH,Xi];grind);refine Y4 (ha.mono fun x e h' k=> ?_);have⟨en',σ',tn',ω',Rs',X',hk⟩:=k;cases x with
  |normal=>
   simp only[Ex.then];simp only[xafter] at hk;cases hc:cut (rid1 b) with
   |some f=>
    rw[hc] at hk;have ho:=H (XOb D P G.N b f K) (by simp only[XH,hc,Xi,X8];simp_all);exact ho en' σ' tn' r hk h0 O0 ω0 F0 e h' ω' Rs' X'
   |none=>
    rw[hc] at hk;exact Y80 hG b hk X' fun p hp=>H p (by simp only[XH,hc,Xi];grind)
  |_=>exact⟨en',σ',tn',ω',Rs',X',hk⟩
 | .cond c a b,en,σ,tn,env,h,ω,Rs,K,hx,X,H=>by
  simp only[xrun] at hx
  split at hx
  ·rename_i g hg;have hs:=xrdo_sr hG.gt X.env c;rw[hg] at hs;simp only[SR] at hs;simp only[dnf] at hx;refine Y3q hs (fun e=> ?_) (fun e=> ?_)
   ·subst e;exact Y80 hG a hx X fun p hp=>H p (by simp only[XH,Xi];grind)
   ·subst e;exact Y80 hG b hx X fun p hp=>H p (by simp only[XH,Xi];grind)
  ·cases hx
 | .block id c,en,σ,tn,env,h,ω,Rs,K,hx,X,H=>by
  have hc:=Y80 hG c (K:=xblk id K) hx X fun p hp=>H p hp;refine Y17 (hc.mono fun x e h' k=> ?_);have⟨en',σ',tn',ω',Rs',X',hk⟩:=k;cases x with
  |exit j=>
   simp only[Ex.inBlock];simp only[xblk] at hk
   split
   ·rename_i hj;rw[if_pos hj] at hk;exact⟨en',σ',tn',ω',Rs',X',hk⟩
   ·rename_i hj;rw[if_neg hj] at hk;exact⟨en',σ',tn',ω',Rs',X',hk⟩
  |_=>exact⟨en',σ',tn',ω',Rs',X',hk⟩
 | .scope c,en,σ,tn,env,h,ω,Rs,K,hx,X,H=>by
  have hc:=Y80 hG c (K:=xscp K) hx X fun p hp=>H p hp;refine GQ.scopeX hc fun x e h' k=> ?_;have⟨en',σ',tn',ω',Rs',X',hk⟩:=k;cases x with
  |goto l=>simp only[xscp] at hk;exact(Y2a hk).elim
  |_=>exact⟨fun l e=>(by cases e),en',σ',tn',ω',Rs',X',hk⟩
 | .loop c,en,σ,tn,env,h,ω,Rs,K,hx,X,H=>by
  simp only[xrun] at hx;cases hc:cut (rid1 c+2000000) with
  |some f=>
   rw[hc] at hx;exact H (XOb D P G.N (.loop c) f K) (by simp only[XH,hc,X8]) en σ tn r hx h0 O0 ω0 F0 env h ω Rs X
  |none=>rw[hc] at hx;cases hx
 | .goto _,en,σ,tn,env,h,ω,Rs,K,hx,X,_=>by simp only[xrun] at hx;exact(Y2a hx).elim
 | .refuse _,en,σ,tn,env,h,ω,Rs,K,hx,X,_=>by simp only[xrun] at hx;exact(Y2a hx).elim
 | .rangeFunc _ _ _ _,en,σ,tn,env,h,ω,Rs,K,hx,X,_=>by simp only[xrun] at hx;exact(Y2a hx).elim
end
section
variable (D:SD)
def scT:Ty→Bool
 | .int _=>true
 | .bool=>true
 | .str=>true
 |_=>false
def prO {A B:Type}:Option (Bool×A)→Option (Bool×B)→Option (Bool×(A×B))
 |some (b,d),some (c,e)=>some (b||c,(d,e))
 |_,_=>none
theorem prO_some{A B:Type}{x:Option (Bool×A)}{y:Option (Bool×B)}{b:Bool}{p:A×B}(h:prO x y=some (b,p)):∃b1 d c e,x=some (b1,d)∧y=some (c,e)∧(b1||c)=b∧(d,e)=p:=by
 unfold prO at h
 grind
def DenC (S:Nat→Type):Ty→List Ty→Type
 |t,[]=>Den S t
 |t,u::r=>Den S t×DenC S u r
def DenP (S:Nat→Type):List Ty→Type
 |[]=>Unit
 |t::r=>DenC S t r
def cv1 (σ:Sto D) (tn:xTn):(t:Ty)→SV D.S→Option (Bool×Den D.S t)
 | .int k,.i k' n=>if k=k' then some (false,n) else none
 | .bool,.b x=>some (false,x)
 | .str,.s x=>some (false,x)
 | .fz t,.d u xs=>(match tyEq u t with
  |some e=>some (false,(e.down▸xs:List (Den D.S t)))
  |none=>none)
 | .fz t,.c (.slice none 0 0)=>some (false,([]:List (Den D.S t)))
 | .fz t,.vw v l=>(match xnav D σ tn v l with
  |some ⟨u,ys⟩=>(match tyEq u t with
   |some e=>bif plT D t then some (true,(e.down▸ys:List (Den D.S t))) else none
   |none=>none)
  |none=>none)
 | .rp t,.ptr v [] 0 0=>(match getB D σ v with
  |some ⟨true,_,u,[y]⟩=>(match tyEq u t with
   |some e=>bif tnOk tn v&&plT D u then some (true,(e.down▸y:Den D.S t)) else none
   |none=>none)
  |_=>none)
 | .rp t,.fp u [y] 0 0=>(match tyEq u t with
  |some e=>some (false,(e.down▸y:Den D.S t))
  |none=>none)
 | .ks i,.k j x=>if h:j=i then some (false,(h▸x:D.S i)) else none
 | .st i,.agg cs=>(match svl D cs with
  |some ls=>(match D.un i ls with
   |some x=>some (false,x)
   |none=>none)
  |none=>none)
 | .arr n t,.agg cs=>(match svl D cs with
  |some ls=>(match unl D (.arr n t) ls with
   |some x=>some (false,x)
   |none=>none)
  |none=>none)
 |_,_=>none
def cvC (σ:Sto D) (tn:xTn):(t:Ty)→(r:List Ty)→SV D.S→List (SV D.S)→Option (Bool×DenC D.S t r)
 |t,[],x,[]=>cv1 D σ tn t x
 |t,u::r,x,y::xs=>prO (cv1 D σ tn t x) (cvC σ tn u r y xs)
 |_,_,_,_=>none
def cvP (σ:Sto D) (tn:xTn):(ts:List Ty)→List (SV D.S)→Option (Bool×DenP D.S ts)
 |[],[]=>some (false,())
 |t::r,x::xs=>cvC D σ tn t r x xs
 |_,_=>none
def encV1:(t:Ty)→Den D.S t→SV D.S
 | .int k,n=>.i k n
 | .bool,x=>.b x
 | .str,x=>.s x
 | .fz t,xs=>.d t xs
 | .st i,x=>.agg ((D.lv i x).map (lfS 0 []))
 | .arr n t,x=>.agg ((lvs D (.arr n t) x).map (lfS 0 []))
 | .rp t,x=>.fp t [x] 0 0
 | .ks i,x=>.k i x
 |_,_=>.any
def encVC:(t:Ty)→(r:List Ty)→DenC D.S t r→List (SV D.S)
 |t,[],d=>[encV1 D t d]
 |t,u::r,d=>encV1 D t d.1::encVC u r d.2
def encVP:(ts:List Ty)→DenP D.S ts→List (SV D.S)
 |[],_=>[]
 |t::r,d=>encVC D t r d
def Y8l:(t:Ty)→Den D.S t→AV
 | .int k,n=>.int k n
 | .bool,x=>.bool x
 | .str,x=>.string x
 | .fz t,xs=>.im (.sl (fzC D t xs) (List.length xs))
 | .st i,x=>.agg ((D.lv i x).map (lfA D))
 | .arr n t,x=>.agg ((lvs D (.arr n t) x).map (lfA D))
 | .rp t,x=>.ipt (fzC D t [x]) 0
 | .ks i,x=>.im (ksC (D.enc i x))
 |_,_=>.any
def encAC:(t:Ty)→(r:List Ty)→DenC D.S t r→List AV
 |t,[],d=>[Y8l D t d]
 |t,u::r,d=>Y8l D t d.1::encAC u r d.2
def encAP:(ts:List Ty)→DenP D.S ts→List AV
 |[],_=>[]
 |t::r,d=>encAC D t r d
def tupS:List (SV D.S)→SV D.S
 |[x]=>x
 |l=>.tup l
def pcF (ats rts:List Ty) (F:DenP D.S ats→Option (DenP D.S rts)) (z:DenP D.S rts):PC D where
 T:=DenP D.S rts
 z:=z
 call σ tn xs:=match cvP D σ tn ats xs with
  |some (b,ds)=>bif b&& !(rts.all scT) then none else some (F ds)
  |none=>none
 res d:=tupS D (encVP D rts d)
def args0S:Nat→List (SV D.S)→SEnv D
 |_,[]=>[]
 |i,x::r=>(i,x)::args0S (i+1) r
def rdR (P:Program) (en:SEnv D) (σ:Sto D) (tn:xTn):List ResultVar→Option (List (SV D.S))
 |[]=>some []
 | .tmp t::r=>(match rdR P en σ tn r with
  |some l=>some (xrd D en t::l)
  |none=>none)
 | .cell a t::r=>(match xrd D en a,rdR P en σ tn r with
  | .ptr v p j o,some l=>(match xld D P σ tn t (.ptr v p j o) with
   |some ([],x)=>some (x::l)
   |_=>none)
  |_,_=>none)
def xkR (P:Program) (rts:List Ty) (rs:List ResultVar):XK D (DenP D.S rts):=fun en σ tn=>match rdR D P en σ tn rs with
 |some xs=>(match cvP D σ tn rts xs with
  |some (_,d)=>.opt (some d)
  |none=>.opt none)
 |none=>.opt none
def KR (P:Program) (rts:List Ty) (rs:List ResultVar):XE D (DenP D.S rts):=fun x=>match x with
 | .normal=>xkR D P rts rs
 | .ret=>xkR D P rts rs
 |_=>fun _ _ _=>.opt none
end
section
variable {D:SD} {P:Program} {h:Hp} {ω:Nat→AV} {σ:Sto D} {tn:xTn} {Rs:Nat→List Nat}
theorem argS_mono{bs bs':List Nat}{x y:AV}(H:ArgS h bs x y)(hb:∀q∈bs,q∈bs')(hp:pur y=true):ArgS h bs' x y:=fun X ι w v Hh hv=>
 VR.pure (fun β _ hA=>⟨rfl,fun ho=>hA ⟨ho.1,fun r hr=>ho.2 r (hb r hr)⟩⟩) _ _ hp (H X ι w v Hh hv)
def lentS:SV D.S→Option Nat
 | .vw v _=>some v
 | .ptr v _ _ _=>some v
 |_=>none
theorem lfA_pur:∀(ls:List (xLf D.S)),purL (ls.map (lfA D))=true
 |[]=>rfl
 |_::ls=>by simp only[Xo,purL,lfA,pur,lfA_pur ls,X1r]
theorem encA1_pur:∀(t:Ty) (d:Den D.S t),pur (Y8l D t d)=true
 | .int _,_=>rfl
 | .bool,_=>rfl
 | .str,_=>rfl
 | .fz _,_=>rfl
 | .st i,x=>lfA_pur _
 | .sl _ _,_=>rfl
 | .arr _ _,_=>lfA_pur _
 | .rp _,_=>rfl
 | .ks _,_=>rfl
theorem cv1_sound(R:xRep D σ (tnF tn) ω Rs h){t:Ty}{x:SV D.S}{b:Bool}{d:Den D.S t}{a:AV}(hc:cv1 D σ tn t x=some (b,d))(ha:SR D h ω x a):
  ∃bs:List Nat,(b=false→bs=[])∧(∀q∈bs,∃v c,lentS x=some v∧getB D σ v=some c∧q∈Rs v)∧∀h',Fx h h'→(∀q∈bs,∃rt,h'.at q=some rt∧rt.live=true)∧ArgS h' bs a (Y8l D t d):=by
 have fin:∀{a':AV},a=a'→pur a'=true→a'=Y8l D t d→∃bs:List Nat,(b=false→bs=[])∧(∀q∈bs,∃v c,lentS x=some v∧getB D σ v=some c∧q∈Rs v)∧∀h',Fx h h'→(∀q∈bs,∃rt,h'.at q=some rt∧rt.live=true)∧ArgS h' bs a (Y8l D t d):=fun e hp e'=>by
  rw[e, ←e'];exact⟨[],fun _=>rfl,(fun q hq=>by cases hq),fun h' F=>⟨fun q hq=>by simp at hq,ArgS.pur hp⟩⟩
 unfold cv1 at hc
 split at hc
 ·split at hc
  ·rename_i hk;simp only[X0,Prod.mk.injEq] at hc;obtain⟨_,rfl⟩:=hc;simp only[SR] at ha;subst hk;exact fin ha rfl rfl
  ·cases hc
 ·simp only[X0,Prod.mk.injEq] at hc;obtain⟨_,rfl⟩:=hc;simp only[SR] at ha;exact fin ha rfl rfl
 ·simp only[X0,Prod.mk.injEq] at hc;obtain⟨_,rfl⟩:=hc;simp only[SR] at ha;exact fin ha rfl rfl
 ·split at hc
  ·rename_i e _;have⟨e⟩:=e;subst e;simp only[X0,Prod.mk.injEq] at hc;obtain⟨_,rfl⟩:=hc;simp only[SR] at ha;exact fin ha rfl rfl
  ·cases hc
 ·simp only[X0,Prod.mk.injEq] at hc;obtain⟨_,rfl⟩:=hc;simp only[SR] at ha;rw[ha];exact⟨[],fun _=>rfl,(fun q hq=>by cases hq),fun h' F=>⟨fun q hq=>by simp at hq,ArgS.nil⟩⟩
 ·split at hc
  ·rename_i v l u ys hn
   split at hc
   ·rename_i e _;have⟨e⟩:=e;subst e;have⟨hp,hc⟩:=condSu hc;simp only[X0,Prod.mk.injEq] at hc;obtain⟨rfl,rfl⟩:=hc;simp only[SR] at ha;have⟨n,e,r,H,hr⟩:=R.hd hn ha.2 ha.1;have⟨bs,hbs,hb⟩:=H.args hp;have⟨_,c,hc,_⟩:=xnav_some hn;exact⟨bs,fun e=>(by cases e),fun q hq=>⟨_,c,rfl,hc,hr q (hbs q hq)⟩,hb⟩
   ·cases hc
  ·cases hc
 ·split at hc
  ·rename_i v _ e0 u y hg
   split at hc
   ·rename_i e _;have⟨e⟩:=e;subst e;have⟨hp,hc⟩:=condSu hc;simp only[X2] at hp;simp only[X0,Prod.mk.injEq] at hc;obtain⟨rfl,rfl⟩:=hc;simp only[SR,HdAt] at ha;obtain⟨hd,r,ver,rt,rfl,e2,e3,e4,rfl⟩:=ha;have hB:=R.blk _ _ hg;rw[tnOk_ok hp.1] at hB;have⟨_,r',rt',rs',k1,k2,⟨k3,_,ds,post,k4,k5⟩,k6⟩:=hB;have:r'=r∧rt'.ver=ver:=by
     rcases e2 with⟨m,e,_⟩|⟨e,_⟩
     ·simp_all
     simp_all
    obtain⟨rfl,rfl⟩:=this;rw[k5.plain hp.2] at k4;refine⟨[r'],fun e=>(by cases e),fun q hq=>⟨_,_,rfl,hg, ?_⟩,fun h' F=>⟨fun q hq=> ?_, ?_⟩⟩
    ·simp_all
    ·rw[X8] at hq;subst hq;exact⟨rt',F _ _ k2,k3⟩
    ·show ArgS h' [r'] (.ref r' rt'.ver (0*rt.k+0)) _;rw[X0q,X0f];exact ArgS.boxX (by simp) (F _ _ k2) rfl k3 k4
   ·cases hc
  ·cases hc
 ·split at hc
  ·rename_i e _;have⟨e⟩:=e;subst e;simp only[X0,Prod.mk.injEq] at hc;obtain⟨_,rfl⟩:=hc;simp only[SR] at ha;refine fin ha.2 rfl ?_;rw[X0q,X0f]
   rfl
  ·cases hc
 ·split at hc
  ·rename_i e;subst e;simp only[X0,Prod.mk.injEq] at hc;obtain⟨_,rfl⟩:=hc;simp only[SR] at ha;exact fin ha rfl rfl
  ·cases hc
 ·split at hc
  ·rename_i i cs ls hs
   split at hc
   ·rename_i y hy;simp only[X0,Prod.mk.injEq] at hc;obtain⟨_,rfl⟩:=hc;simp only[SR] at ha;obtain⟨l,rfl,hl⟩:=ha;have:=Y7n hs hl;refine fin rfl ?_ ?_
    ·rw[this];exact lfA_pur _
    ·rw[this];simp only[Y8l,D.sound _ _ _ hy]
   ·cases hc
  ·cases hc
 ·split at hc
  ·rename_i cs ls hs
   split at hc
   ·rename_i y hy;simp only[X0,Prod.mk.injEq] at hc;obtain⟨_,rfl⟩:=hc;simp only[SR] at ha;obtain⟨l,rfl,hl⟩:=ha;have:=Y7n hs hl;refine fin rfl ?_ ?_
    ·rw[this];exact lfA_pur _
    ·rw[this];simp only[Y8l,Y7m _ _ _ hy]
   ·cases hc
  ·cases hc
 ·cases hc
theorem argL_mono{bs bs':List Nat}{xs ys:List AV}(H:ArgL h bs xs ys)(hb:∀q∈bs,q∈bs')(hp:purL ys=true):ArgL h bs' xs ys:=by
 induction H with
 |nil=>exact .nil
 |cons a l ih=>simp only[purL,X2] at hp;exact .cons (argS_mono a hb hp.1) (ih hp.2)
theorem encAC_pur:∀(t:Ty) (r:List Ty) (d:DenC D.S t r),purL (encAC D t r d)=true
 |t,[],d=>by show(pur (Y8l D t d)&&true)=true;rw[X1r];exact encA1_pur t d
 |t,u::r,d=>by show(pur (Y8l D t d.1)&&purL (encAC D u r d.2))=true;rw[encA1_pur,encAC_pur u r,X1r]
theorem encAP_pur:∀(ts:List Ty) (d:DenP D.S ts),purL (encAP D ts d)=true
 |[],_=>rfl
 |t::r,d=>encAC_pur t r d
theorem cvC_sound(R:xRep D σ (tnF tn) ω Rs h):∀{r:List Ty} {t:Ty} {x:SV D.S} {xs:List (SV D.S)} {b:Bool} {ds:DenC D.S t r} {vs:List AV},cvC D σ tn t r x xs=some (b,ds)→SRL D h ω (x::xs) vs→
  ∃bs:List Nat,(b=false→bs=[])∧∀h',Fx h h'→(∀q∈bs,∃rt,h'.at q=some rt∧rt.live=true)∧ArgL h' bs vs (encAC D t r ds)
 |[],t,x,[],b,ds,vs,hc,H=>by
  simp only[SRL] at H;obtain⟨a,l',rfl,k1,rfl⟩:=H;have⟨bs,h1,h2⟩:=cv1_sound (d:=ds) R hc k1;exact⟨bs,h1,fun h' F=>⟨(h2.2 h' F).1,.cons (h2.2 h' F).2 .nil⟩⟩
 |[],t,x,y::ys,b,ds,vs,hc,_=>by rw[show cvC D σ tn t [] x (y::ys)=none from rfl] at hc;simp_all
 |u::r,t,x,[],b,ds,vs,hc,_=>by rw[show cvC D σ tn t (u::r) x []=none from rfl] at hc;simp_all
 |u::r,t,x,y::xs,b,ds,vs,hc,H=>by
  rw[SRL] at H;obtain⟨a,l',rfl,k1,k2⟩:=H;rw[show cvC D σ tn t (u::r) x (y::xs)=prO (cv1 D σ tn t x) (cvC D σ tn u r y xs) from rfl] at hc;have⟨b1,d,c,e,h1,h2,h3,h4⟩:=prO_some hc
  ·subst h3 h4;have⟨bs1,g1,_,g2⟩:=cv1_sound R h1 k1;have⟨bs2,g3,g4⟩:=cvC_sound R h2 k2;refine⟨bs1++bs2,fun e=> ?_,fun h' F=>⟨fun q hq=> ?_,.cons (argS_mono (g2 h' F).2 (fun q hq=>by simp[hq]) (encA1_pur _ _)) (argL_mono (g4 h' F).2 (fun q hq=>by simp[hq]) (encAC_pur _ _ _))⟩⟩
   ·simp_all
   grind
theorem cvP_sound(R:xRep D σ (tnF tn) ω Rs h):∀{ts:List Ty} {xs:List (SV D.S)} {b:Bool} {ds:DenP D.S ts} {vs:List AV},cvP D σ tn ts xs=some (b,ds)→SRL D h ω xs vs→
  ∃bs:List Nat,(b=false→bs=[])∧∀h',Fx h h'→(∀q∈bs,∃rt,h'.at q=some rt∧rt.live=true)∧ArgL h' bs vs (encAP D ts ds)
 |[],[],b,ds,vs,_,H=>by
  simp only[SRL] at H;subst H;exact⟨[],fun _=>rfl,fun h' F=>⟨fun q hq=>by simp at hq,.nil⟩⟩
 |[],y::ys,b,ds,vs,hc,_=>by rw[show cvP D σ tn [] (y::ys)=none from rfl] at hc;simp_all
 |t::r,[],b,ds,vs,hc,_=>by rw[show cvP D σ tn (t::r) []=none from rfl] at hc;simp_all
 |t::r,x::xs,b,ds,vs,hc,H=>cvC_sound R hc H
theorem lfS_all:∀{ls:List (xLf D.S)},(∀l∈ls,ownB l.1=false)→SRL D h ω (ls.map (lfS 0 [])) (ls.map (lfA D))
 |[],_=>by rfl
 |l::ls,hl=>by
  simp only[Xo,SRL];exact⟨_,_,rfl,lfS_plain (hl l (by simp)) rfl,lfS_all fun l' h'=>hl l' (by simp[h'])⟩
theorem encV1_sr:∀{t:Ty} (d:Den D.S t),plT D t=true→SR D h ω (encV1 D t d) (Y8l D t d)
 | .int _,_,_=>by rfl
 | .bool,_,_=>by rfl
 | .str,_,_=>by rfl
 | .fz _,_,_=>by rfl
 | .st i,x,hp=>by
  simp only[encV1,Y8l,SR];exact⟨_,rfl,lfS_all (D.pln i hp x)⟩
 | .arr n t,x,hp=>by
  simp only[encV1,Y8l,SR];exact⟨_,rfl,lfS_all (plT_ok hp x)⟩
 | .sl _ _,_,hp=>by cases hp
 | .rp _,_,hp=>by cases hp
 | .ks _,_,_=>by rfl
def plA (D:SD):Ty→Bool
 | .rp _=>true
 |t=>plT D t
theorem encV1_srA:∀{t:Ty} (d:Den D.S t),plA D t=true→SR D h ω (encV1 D t d) (Y8l D t d)
 | .rp t,d,_=>by
  simp only[encV1,Y8l,SR,X0q,X0f]
  grind
 | .int _,d,h=>encV1_sr d h
 | .bool,d,h=>encV1_sr d h
 | .str,d,h=>encV1_sr d h
 | .fz _,d,h=>encV1_sr d h
 | .st _,d,h=>encV1_sr d h
 | .arr _ _,d,h=>encV1_sr d h
 | .sl _ _,d,h=>encV1_sr d h
 | .ks _,d,h=>encV1_sr d h
theorem plT_A:∀{t:Ty},plT D t=true→plA D t=true
 | .rp _,h=>by cases h
 | .int _,h=>h
 | .bool,h=>h
 | .str,h=>h
 | .fz _,h=>h
 | .st _,h=>h
 | .arr _ _,h=>h
 | .sl _ _,h=>h
 | .ks _,h=>h
theorem encVC_sr:∀{r:List Ty} {t:Ty} (d:DenC D.S t r),plA D t=true→r.all (plA D)=true→SRL D h ω (encVC D t r d) (encAC D t r d)
 |[],t,d,hp,_=>⟨_,_,rfl,encV1_srA d hp,by rw[SRL]⟩
 |u::r,t,d,hp,hr=>by
  simp only[X1a,X2] at hr;exact⟨_,_,rfl,encV1_srA d.1 hp,encVC_sr d.2 hr.1 hr.2⟩
theorem encVP_sr:∀{ts:List Ty} (d:DenP D.S ts),ts.all (plA D)=true→SRL D h ω (encVP D ts d) (encAP D ts d)
 |[],_,_=>by rw[encVP,encAP,SRL]
 |t::r,d,hp=>by
  simp only[X1a,X2] at hp;exact encVC_sr d hp.1 hp.2
theorem encV1_nc:∀(t:Ty) (d:Den D.S t),notC D (encV1 D t d)=true:=fun t d=>by cases t<;>rfl
theorem encVC_nc:∀(r:List Ty) (t:Ty) (d:DenC D.S t r),∀x∈encVC D t r d,notC D x=true
 |[],t,d,x,hx=>by rw[encVC,X8] at hx;subst hx;exact encV1_nc _ _
 |u::r,t,d,x,hx=>by
  rw[encVC,Xb] at hx;rcases hx with rfl|hx
  ·exact encV1_nc _ _
  ·exact encVC_nc r u d.2 x hx
theorem encVP_nc:∀{ts:List Ty} (d:DenP D.S ts),∀x∈encVP D ts d,notC D x=true
 |[],_,x,hx=>by rw[encVP] at hx;cases hx
 |t::r,d,x,hx=>encVC_nc r t d x hx
end
section
variable {D:SD} {P:Program} {h:Hp} {ω:Nat→AV} {σ:Sto D} {tn:xTn} {Rs:Nat→List Nat} {env:Env} {en:SEnv D}
theorem Hol.noRoots{X:Ctx}{ι:Nat→Bk}{w:World}(H:Hol X h ι w)(hp:∀r,X.pin r=none):Hol X [] ι w where
 roots r rt hr:=by simp[Hp.at] at hr
 inj r r' rt rt' g hr:=by simp[Hp.at] at hr
 place r rt g hr:=by simp[Hp.at] at hr
 os:=H.os
 tape:=H.tape
 output:=H.output
 size:=H.size
 frame:=H.frame
 old:=H.old
 glob:=H.glob
 pin r b k h:=by simp_all
theorem QSpec.of{f:FuncId}{ys:List AV}{av r:AV}{bs:List Nat}(hc:CallOK P f ys [] h av)(hb:∀q∈bs,∃rt,h.at q=some rt∧rt.live=true)(ha:ArgS h bs av r)(hp:Abs.pur r=true):QSpec P f ys r:=by
 intro w ι B vs H hv;refine(hc _ w ι vs H hv).mono ?_;rintro e w' ⟨v,ι',rfl,H',K',hv'⟩;refine⟨v,r,[],ι',rfl,rfl,H'.noRoots (fun q=>by rfl), ?_⟩;have:=ha _ ι' w' v H' hv';refine VR.pure (fun β _ hA=>⟨rfl,fun ho=>hA ?_⟩) _ _ hp this;have hB:B β:=by
  rcases ho with ho|⟨q,rt,hq,_⟩
  ·exact ho
  ·simp[Hp.at] at hq
 exact⟨.inl hB,fun q hq hblk=>by
  have⟨rt,h1,h2⟩:=hb q hq;exact(H'.place q rt β h1 h2 hblk).1 hB⟩
theorem argS_tup{bs:List Nat}{xs ys:List AV}(H:ArgL h bs xs ys):ArgS h bs (.tup xs) (.tup ys):=fun X ι w v Hh hv=>by
 simp only[VR] at hv⊢;have⟨l,hl,hr⟩:=hv;exact⟨l,hl,H.sound Hh l hr⟩
theorem argL_res{bs:List Nat}{xs ys:List AV}(H:ArgL h bs xs ys):ArgS h bs (Y8i xs) (Y8i ys):=by
 cases H with
 |nil=>exact argS_tup .nil
 |cons a l=>
  cases l with
  |nil=>exact a
  |cons b l=>exact argS_tup (.cons a (.cons b l))
theorem pur_res{ys:List AV}(hp:purL ys=true):pur (Y8i ys)=true:=by
 match ys,hp with
 |[],_=>rfl
 |[y],hp=>simp only[purL,X1r] at hp;exact hp
 |y::z::ys,hp=>exact hp
theorem SRL.res:∀{xs:List (SV D.S)} {ys:List AV},SRL D h ω xs ys→SR D h ω (tupS D xs) (Y8i ys)
 |[],ys,H=>by rw[SRL] at H;subst H;rw[tupS,SR];exact⟨_,rfl,by rw[SRL]⟩;simp_all
 |[x],ys,H=>by
  simp only[SRL] at H;obtain⟨a,l,rfl,k,rfl⟩:=H;exact k
 |x::y::xs,ys,H=>by
  have H':=H;simp only[SRL] at H;obtain⟨a,l,rfl,k,b,l',rfl,k',k''⟩:=H;show SR D h ω (.tup (x::y::xs)) (.tup (a::b::l'));rw[SR]
  simp_all
theorem ob_load{t:TypeId}{r ver off:Nat}(hl:Y7p h (lz P t) (.ref r ver off)):ob P h (fun _=>.ref r ver off) (.load t (.tmp 0))=some []:=by
 unfold Y7p at hl;simp only[ob,st,gl]
 split at hl
 ·simp_all
 ·simp_all
 ·rename_i hz e;cases e;rw[hz]
  split at hl
  ·rename_i rt hr;simp only[hr];simp[hl.1,hl.2.1,hl.2.2,chk]
  simp_all
 ·rename_i n hz e;cases e;rw[hz]
  split at hl
  ·rename_i rt hr;simp only[hr];simp[hl.1,hl.2.1,hl.2.2,chk]
  simp_all
 simp_all
theorem rdR_sound(R:xRep D σ (tnF tn) ω Rs h)(E:EnvR h ω en env):∀{rs:List ResultVar} {svs:List (SV D.S)},rdR D P en σ tn rs=some svs→∃xs,resE P h env rs=some xs∧SRL D h ω svs xs
 |[],svs,hr=>by
  simp only[rdR,X0] at hr;subst hr;exact⟨[],rfl,by rw[SRL]⟩
 | .tmp t::rs,svs,hr=>by
  simp only[rdR] at hr
  split at hr
  ·rename_i l hl;simp only[X0] at hr;subst hr;have⟨xs,h1,h2⟩:=rdR_sound R E hl;refine⟨rd env t::xs,by simp only[resE,h1], ?_⟩;rw[SRL];exact⟨_,_,rfl,E t,h2⟩
  ·cases hr
 | .cell a t::rs,svs,hr=>by
  simp only[rdR] at hr
  split at hr
  ·rename_i v p j o l he hl
   split at hr
   ·rename_i x hx;simp only[X0] at hr;subst hr;have⟨xs,h1,h2⟩:=rdR_sound R E hl;have hE:=E a;rw[he] at hE;have⟨k1,k2⟩:=xld_sound R hx hE;have hE':=hE;simp only[SR] at hE';have⟨_,r,ver,rt,_,_,_,_,e⟩:=hE';rw[e] at k1 k2;refine⟨Y5u h (lz P t) (.ref r ver (j*rt.k+o))::xs,by simp only[resE,e,ob_load k1,h1], ?_⟩;rw[SRL]
    grind
   ·cases hr
  ·cases hr
theorem args0S_env:∀{xs:List (SV D.S)} {ys:List AV} (i:Nat),SRL D h ω xs ys→EnvR h ω (args0S D i xs) (args0 i ys)
 |[],ys,i,H=>by rw[SRL] at H;subst H;intro j;simp only[args0S,args0,xrd,rd,SR]
 |x::xs,ys,i,H=>by
  rw[SRL] at H;obtain⟨a,l,rfl,k,k'⟩:=H;intro j;simp only[args0S,args0,xrd,rd];rcases beqS i j with⟨rfl,hb⟩|⟨hn,hb⟩
  ·simp_all
  ·rw[hb,cond_false,if_neg hn];exact args0S_env (i+1) k' j
theorem args0S_nc:∀{xs:List (SV D.S)} (i:Nat),(∀x∈xs,notC D x=true)→CndOK (args0S D i xs)
 |[],i,_=>fun j t p g x hx=>by simp only[args0S,xrd] at hx;cases hx
 |y::xs,i,H=>fun j t p g x hx=>by
  have key:∀(xs:List (SV D.S)) (i:Nat),(∀x∈xs,notC D x=true)→∀j,notC D (xrd D (args0S D i xs) j)=true:=fun xs=>by
   induction xs with
   |nil=>intro i _ j;rfl
   |cons a xs ih=>
    intro i H j;simp only[args0S,xrd]
    grind
  have:=key (y::xs) i H j;rw[hx] at this;cases this
theorem encAC_len:∀(r:List Ty) (t:Ty) (d:DenC D.S t r),(encAC D t r d).length=r.length+1
 |[],t,d=>rfl
 |u::r,t,d=>by rw[encAC,X7,encAC_len r u d.2,X7]
theorem encAP_len:∀(ts:List Ty) (d:DenP D.S ts),(encAP D ts d).length=ts.length
 |[],d=>rfl
 |t::r,d=>encAC_len r t d
abbrev xfn (D:SD) (P:Program) (G:XG D) (fn:Func) (ats rts:List Ty) (cut:Nat→Option (XK D (DenP D.S rts))) (ds:DenP D.S ats):XT (DenP D.S rts):=xrun D P G cut (fn.body.getD .skip) (args0S D 0 (encVP D ats ds)) [] none (KR D P rts fn.results.toList)
theorem xfn_q{G:XG D}(hG:G.OK P){f:FuncId}{fn:Func}(hf:P.funcs[f]? =some fn){ats rts:List Ty}{F:DenP D.S ats→Option (DenP D.S rts)}{cut:Nat→Option (XK D (DenP D.S rts))}{ds:DenP D.S ats}{x:DenP D.S rts}
  (hk:(fn.body.isSome&&(Nat.beq fn.ntmps G.N&&(Nat.ble ats.length G.N&&(ats.all (plA D)&&rts.all (plT D)))))=true) (hx:F ds=den (xfn D P G fn ats rts cut ds)) (ho:obL [] (xfn D P G fn ats rts cut ds)=obR (xfn D P G fn ats rts cut ds)) (hH:∀p∈XH D P G cut (fn.body.getD .skip) (KR D P rts fn.results.toList),p) (hF:F ds=some x):
  QSpec P f (encAP D ats ds) (Y8i (encAP D rts x)):=by
 simp only[X2] at hk;have⟨k1,k2,k3,k4,k5⟩:=hk;have k2:=Xe k2;have k3:=X9 k3;have⟨c,hb⟩:=X1v.1 k1;have hd:=dnf_of _ [] ho (fun d hd=>by cases hd) (hx▸hF);unfold xfn at hd;rw[hb,X0p] at hd hH;have xr0:XR D [] (fun _=>False) (fun _=>.any) (fun _=>False) (args0S D 0 (encVP D ats ds)) [] none (args0 0 (encAP D ats ds)) [] (fun _=>.any) (fun _=>[]):=
  ⟨⟨(fun v b hb=>by cases hb),(fun v b hb=>by cases hb),(fun v b v' b' hb=>by cases hb)⟩,args0S_env 0 (encVP_sr ds k4),args0S_nc 0 (encVP_nc ds),(fun v hv=>hv.elim),(fun q rt hq=>by cases hq),(fun v b hb=>by cases hb)⟩
 have hq:=Y80 hG c hd xr0 hH;have fin:∀(e:Env) (h:Hp) (en:SEnv D) (σ:Sto D) (tn:xTn) (ω:Nat→AV) (Rs:Nat→List Nat),XR D [] (fun _=>False) (fun _=>.any) (fun _=>False) en σ tn e h ω Rs→dnf (xkR D P rts fn.results.toList en σ tn)=some x→
   ∃xs,resE P h e fn.results.toList=some xs∧∃bs:List Nat,(∀q∈bs,∃rt,h.at q=some rt∧rt.live=true)∧ArgS h bs (Y8i xs) (Y8i (encAP D rts x)):=fun e h en σ tn ω Rs X hk=>by
  unfold xkR at hk
  split at hk
  ·rename_i svs hs;have⟨xs,h1,h2⟩:=rdR_sound X.rep X.env hs
   split at hk
   ·rename_i b d hc;simp only[dnf,X0] at hk;subst hk;have⟨bs,_,h3⟩:=cvP_sound X.rep hc h2;exact⟨xs,h1,bs,(h3 h (Fx.refl h)).1,argL_res (h3 h (Fx.refl h)).2⟩
   ·exact(Y2a hk).elim
  ·exact(Y2a hk).elim
 have hO:FnO P f (encAP D ats ds) [] (fun h av=>∃bs:List Nat,(∀q∈bs,∃rt,h.at q=some rt∧rt.live=true)∧ArgS h bs av (Y8i (encAP D rts x))) (fun _ _=>False):=by
  refine Y6t hf hb (by rw[encAP_len,k2];exact k3) ?_;rw[k2];refine hq.mono fun ex e h k=> ?_;have⟨en,σ,tn,ω,Rs,X,hk⟩:=k;cases ex with
  |normal=>exact fin e h en σ tn ω Rs X hk
  |ret=>exact fin e h en σ tn ω Rs X hk
  |_=>exact(Y2a hk).elim
 rcases hO with⟨h',av,hc,bs,hb,ha⟩|⟨_,_,_,hf⟩
 ·exact QSpec.of hc hb ha (pur_res (encAP_pur _ _))
 grind
theorem encVC_sc:∀{r:List Ty} {t:Ty} (d:DenC D.S t r),scT t=true→r.all scT=true→scalL (encAC D t r d)=true
 |[],t,d,ht,_=>by
  have:∀(t:Ty) (d:Den D.S t),scT t=true→scal (Y8l D t d)=true:=fun t d h=>by cases t<;>first|rfl|cases h
  show(scal (Y8l D t d)&&true)=true
  grind
 |u::r,t,d,ht,hr=>by
  have:∀(t:Ty) (d:Den D.S t),scT t=true→scal (Y8l D t d)=true:=fun t d h=>by cases t<;>first|rfl|cases h
  simp only[X1a,X2] at hr;show(scal (Y8l D t d.1)&&scalL (encAC D u r d.2))=true;rw[this t d.1 ht,encVC_sc d.2 hr.1 hr.2];rfl
theorem scal_res{ts:List Ty}(d:DenP D.S ts)(hs:ts.all scT=true):scal (Y8i (encAP D ts d))=true:=by
 cases ts with
 |nil=>rfl
 |cons t r=>
  simp only[X1a,X2] at hs;have h1:=encVC_sc d hs.1 hs.2
  match r,d,h1 with
  |[],d,h1=>
   have:(scal (Y8l D t d)&&true)=true:=h1;rw[X1r] at this;exact this
  |u::r,d,h1=>
   cases r with
   |nil=>exact h1
   |cons=>exact h1
theorem tupS_nc:∀{xs:List (SV D.S)},(∀x∈xs,notC D x=true)→notC D (tupS D xs)=true
 |[],_=>rfl
 |[x],h=>h x (by simp)
 |_::_::_,_=>rfl
theorem pcF_ok{f:FuncId}{ats rts:List Ty}{F:DenP D.S ats→Option (DenP D.S rts)}{z:DenP D.S rts}(hp:rts.all (plT D)=true)(hq:∀ds x,F ds=some x→QSpec P f (encAP D ats ds) (Y8i (encAP D rts x))):PCOK D P f (pcF D ats rts F z):=by
 intro σ tn args x hc;simp only[pcF] at hc
 split at hc
 ·rename_i b ds hv;cases hb:(b&& !(rts.all scT)) with
  |true=>simp_all
  |false=>
   rw[hb,cond_false,X0] at hc;refine⟨tupS_nc (encVP_nc _),fun h ω Rs vs R H=> ?_⟩;have⟨bs,h1,h2⟩:=cvP_sound R hv H;refine⟨bs,_,_,hq ds x hc,fun h' F=>(h2 h' F).2, ?_,(encVP_sr x (Xg.2 fun t ht=>plT_A (Xg.1 hp t ht))).res⟩;simp only[Bool.and_eq_false_iff,Bool.not_eq_false'] at hb;rcases hb with hb|hb
   ·exact .inl ⟨h1 hb,pur_res (encAP_pur _ _)⟩
   ·exact .inr (scal_res x hb)
 ·cases hc
end
end Go.Abs
