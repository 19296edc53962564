/- Own work. -/
import Derived.Test.YtfpcbalkioolmaaDoorXQ5
set_option linter.unusedSimpArgs false
set_option linter.unusedVariables false
namespace Go.Abs
abbrev Ren:=List (Nat×Option Nat)
def rnG:Ren→Nat→Option Nat
 |[],_=>none
 |(i,w)::r,v=>bif Nat.beq i v then w else rnG r v
def rnV:Ren→Nat→Bool
 |[],_=>false
 |(_,some w)::r,v=>bif Nat.beq w v then true else rnV r v
 |(_,none)::r,v=>rnV r v
def rnO:Ren→Bool
 |[]=>true
 |(_,some w)::r=> !(rnV r w)&&rnO r
 |(_,none)::r=>rnO r
theorem rnV_of{v w:Nat}:∀{r:Ren},rnG r v=some w→rnV r w=true
 |[],h=>by cases h
 |(i,x)::r,h=>by
  simp only[rnG] at h;rcases beqS i v with⟨_,hb⟩|⟨_,hb⟩
  ·rw[hb,cond_true] at h;subst h;simp[rnV]
  ·rw[hb,cond_false] at h;have:=rnV_of h;cases x with
   |none=>exact this
   |some y=>
    simp only[rnV]
    simp_all
theorem rnO_inj{v v' w:Nat}:∀{r:Ren},rnO r=true→rnG r v=some w→rnG r v'=some w→v=v'
 |[],_,h,_=>by cases h
 |(i,x)::r,ho,h,h'=>by
  have ho':rnO r=true:=by
   cases x with
   |none=>exact ho
   |some y=>simp only[rnO,X2] at ho;exact ho.2
  have hx:x=some w→rnV r w=false:=fun e=>by
   subst e;simp only[rnO,X2,X00] at ho;exact ho.1
  simp only[rnG] at h h';rcases beqS i v with⟨e,hb⟩|⟨_,hb⟩
  ·rw[hb,cond_true] at h;rcases beqS i v' with⟨e',hb'⟩|⟨_,hb'⟩
   ·rw[←e, ←e']
   ·rw[hb',cond_false] at h';have h1:=rnV_of h'
    simp_all
  ·rw[hb,cond_false] at h;rcases beqS i v' with⟨e',hb'⟩|⟨_,hb'⟩
   ·rw[hb',cond_true] at h';have h1:=rnV_of h
    simp_all
   ·rw[hb',cond_false] at h';exact rnO_inj ho' h h'
def rnW (r:Ren) (ω:Nat→AV):Nat→AV:=fun v=>match rnG r v with
 |some w=>ω w
 |none=>xnilA
def rnR (r:Ren) (Rs:Nat→List Nat):Nat→List Nat:=fun v=>match rnG r v with
 |some w=>Rs w
 |none=>[]
section
variable {D:SD} {P:Program} {h h':Hp} {ω ω':Nat→AV} {σ σ':Sto D} {tn:xTn} {Rs:Nat→List Nat} {env:Env} {en:SEnv D}
def RnB (D:SD) (σ:Sto D) (δ:Nat→Option Pth) (r:Ren) (σ':Sto D):Prop:=∀v b,getB D σ' v=some b→(∃w,rnG r v=some w∧getB D σ w=some b∧δ w=none)∨(rnG r v=none∧∃e t,b=⟨false,e,t,[]⟩)
theorem xRep.ren{δ:Nat→Option Pth}(R:xRep D σ δ ω Rs h){r:Ren}(ho:rnO r=true)(hb:RnB D σ δ r σ'):xRep D σ' (fun _=>none) (rnW r ω) (rnR r Rs) h:=by
 refine⟨fun v b hv=> ?_,fun v b hv=> ?_,fun v b v' b' hv hv' hn x hx=> ?_⟩
 ·rcases hb v b hv with⟨w,h1,h2,h3⟩|⟨h1,e,t,rfl⟩
  ·have:=R.blk w b h2;rw[h3] at this;simp only[rnW,rnR,h1];exact this
  ·simp only[rnW,rnR,h1];exact .inl ⟨rfl,rfl,rfl⟩
 ·rcases hb v b hv with⟨w,h1,h2,h3⟩|⟨h1,_⟩
  ·simp only[rnR,h1];exact R.nd w b h2
  ·simp only[rnR,h1];simp
 ·rcases hb v b hv with⟨w,h1,h2,h3⟩|⟨h1,_⟩
  ·simp only[rnR,h1] at hx;rcases hb v' b' hv' with⟨w',h1',h2',h3'⟩|⟨h1',_⟩
   ·simp only[rnR,h1'];exact R.dj w b w' b' h2 h2' (fun e=>hn (rnO_inj ho h1 (e▸h1'))) x hx
   ·simp only[rnR,h1'];simp
  ·simp only[rnR,h1] at hx;cases hx
end
inductive Lk {D:SD} (σ:Sto D) (δ:Nat→Option Pth):Sto D→Ren→Prop
 |nil:Lk σ δ [] []
 |one {v w:Nat} {b:Bv D} {s:Sto D} {r:Ren}:getB D σ w=some b→δ w=none→Lk σ δ s r→Lk σ δ ((v,b)::s) ((v,some w)::r)
 |nol {v:Nat} {e:TypeId} {t:Ty} {s:Sto D} {r:Ren}:Lk σ δ s r→Lk σ δ ((v,⟨false,e,t,[]⟩)::s) ((v,none)::r)
theorem Lk.rnB{D:SD}{σ s:Sto D}{δ:Nat→Option Pth}{r:Ren}(H:Lk σ δ s r):RnB D σ δ r s:=by
 induction H with
 |nil=>intro v b h;cases h
 |@one v w b s r h1 h2 _ ih=>
  intro u c hu;simp only[getB,rnG] at hu⊢;rcases beqS v u with⟨rfl,hb⟩|⟨_,hb⟩
  ·simp_all
  ·rw[hb,cond_false] at hu⊢;exact ih u c hu
 |@nol v e t s r _ ih=>
  intro u c hu;simp only[getB,rnG] at hu⊢;rcases beqS v u with⟨rfl,hb⟩|⟨_,hb⟩
  ·grind
  ·rw[hb,cond_false] at hu⊢;exact ih u c hu
theorem Lk.app{D:SD}{σ s s':Sto D}{δ:Nat→Option Pth}{r r':Ren}(H:Lk σ δ s r)(H':Lk σ δ s' r'):Lk σ δ (s++s') (r++r'):=by
 induction H with
 |nil=>exact H'
 |one h1 h2 _ ih=>exact .one h1 h2 ih
 |nol _ ih=>exact .nol ih
def rnF:Ren→Nat→Option (Option Nat)
 |[],_=>none
 |(i,x)::r,v=>bif Nat.beq i v then some x else rnF r v
def rnL (r:Ren) (ω:Nat→AV):Nat→AV:=fun v=>match rnF r v with
 |some (some w)=>ω w
 |some none=>xnilA
 |none=>ω v
theorem rnF_G{v:Nat}:∀{r:Ren} {x:Option Nat},rnF r v=some x→rnG r v=x
 |[],_,h=>by cases h
 |(i,y)::r,x,h=>by
  simp only[rnF] at h;simp only[rnG];cases hb:Nat.beq i v with
  |true=>simp_all
  |false=>rw[hb,cond_false] at h;rw[cond_false];exact rnF_G h
theorem rnF_mem{v:Nat}:∀{r:Ren} {x:Option Nat},rnF r v=some x→(v,x)∈r
 |[],_,h=>by cases h
 |(i,y)::r,x,h=>by
  simp only[rnF] at h;rcases beqS i v with⟨rfl,hb⟩|⟨_,hb⟩
  ·simp_all
  ·rw[hb,cond_false] at h;exact Xq _ (rnF_mem h)
def rnD:Ren→Bool
  |[]=>true
  |(v,_)::r=>(match rnF r v with
    |some _=>false
    |none=>true)&&rnD r
theorem rnF_of{p:Nat×Option Nat}:∀{r:Ren},rnD r=true→p∈r→rnF r p.1=some p.2
 |[],_,h=>by cases h
 |(i,x)::r,hd,h=>by
  simp only[rnD,X2] at hd;simp only[rnF];rcases Xb.1 h with rfl|h
  ·simp_all
  ·have ih:=rnF_of hd.2 h;rcases beqS i p.1 with⟨e,_⟩|⟨_,hb⟩
   ·simp_all
   simp_all
theorem Lk.key{D:SD}{σ s:Sto D}{δ:Nat→Option Pth}{r:Ren}{v:Nat}{b:Bv D}(H:Lk σ δ s r)(hv:getB D s v=some b):∃x,rnF r v=some x:=by
 induction H with
 |nil=>cases hv
 |@one u w b s r h1 h2 _ ih=>
  simp only[getB,rnF] at hv⊢;cases hb:Nat.beq u v with
  |true=>simp_all
  |false=>simp_all
 |@nol u e t s r _ ih=>
  simp only[getB,rnF] at hv⊢;cases hb:Nat.beq u v with
  |true=>simp_all
  |false=>simp_all
def EnvSub (env env':Env):Prop:=∀i,Sub (rd env i) (rd env' i)
section
variable {P:Program} {N:Nat} {da:DA} {h:Hp} {env env':Env}
theorem SlD.sub{ι:Nat→Bk}{A:Nat→Prop}{a:Act}{w:World}(he:EnvSub env env')(S:SlD da N env h ι A a w):SlD da N env' h ι A a w:=⟨S.size,S.defers,fun i=>he i _ _ _ _ _ (S.at_ i)⟩
theorem GQ.sub{c:Code}{K:Exit→Env→Hp→Prop}(he:EnvSub env env')(H:GQ da P N c env' h K):GQ da P N c env h K:=by
 have⟨x,e,h',g,k⟩:=H;exact⟨x,e,h',fun X a w ι H S=>g X a w ι H (S.sub he),k⟩
end
inductive LD where
 |s (i:Nat) (t:Ty)
 |bx (v:Nat) (e:TypeId) (t:Ty)
 |sl (i v:Nat) (e:TypeId) (t:Ty)
section
variable (D:SD)
def LD1 (S:Nat→Type):LD→Type
 | .s _ t=>Den S t
 | .bx _ _ t=>Den S t
 | .sl _ _ _ t=>List (Den S t)
def LDC (S:Nat→Type):LD→List LD→Type
 |d,[]=>LD1 S d
 |d,e::r=>LD1 S d×LDC S e r
def LDP (S:Nat→Type):List LD→Type
 |[]=>Unit
 |d::r=>LDC S d r
def lrn (en:SEnv D):List LD→Ren
 |[]=>[]
 | .s _ _::r=>lrn en r
 | .bx v _ _::r=>(v,some v)::lrn en r
 | .sl i v _ _::r=>(match xrd D en i with
  | .vw w []=>(v,some w)
  |_=>(v,none))::lrn en r
def rd1 (en:SEnv D) (σ:Sto D):(d:LD)→Option (LD1 D.S d)
 | .s i t=>(match cv1 D σ none t (xrd D en i) with
  |some (false,d)=>bif plA D t then some d else none
  |_=>none)
 | .bx v e t=>(match getB D σ v with
  |some ⟨true,e',t',[x]⟩=>(match tyEq t' t with
   |some h=>bif Nat.beq e' e then some (h.down▸x:Den D.S t) else none
   |none=>none)
  |_=>none)
 | .sl i v e t=>(match xrd D en i with
  | .vw w []=>(match getB D σ w with
   |some ⟨false,e',t',xs⟩=>(match tyEq t' t with
    |some h=>bif Nat.beq e' e then some (h.down▸xs:List (Den D.S t)) else none
    |none=>none)
   |_=>none)
  | .c (.slice none 0 0)=>some []
  |_=>none)
def prO' {A B:Type}:Option A→Option B→Option (A×B)
 |some a,some b=>some (a,b)
 |_,_=>none
def rdC (en:SEnv D) (σ:Sto D):(d:LD)→(r:List LD)→Option (LDC D.S d r)
 |d,[]=>rd1 D en σ d
 |d,e::r=>prO' (rd1 D en σ d) (rdC en σ e r)
def rdP (en:SEnv D) (σ:Sto D):(ds:List LD)→Option (LDP D.S ds)
 |[]=>some ()
 |d::r=>rdC D en σ d r
def en1:(d:LD)→LD1 D.S d→SEnv D→SEnv D
 | .s i t,x,l=>(i,encV1 D t x)::l
 | .bx _ _ _,_,l=>l
 | .sl i v _ _,_,l=>(i,.vw v [])::l
def enC (l:SEnv D):(d:LD)→(r:List LD)→LDC D.S d r→SEnv D
 |d,[],x=>en1 D d x l
 |d,e::r,x=>en1 D d x.1 (enC l e r x.2)
def enP (l:SEnv D):(ds:List LD)→LDP D.S ds→SEnv D
 |[],_=>l
 |d::r,x=>enC D l d r x
def st1:(d:LD)→LD1 D.S d→Sto D→Sto D
 | .s _ _,_,l=>l
 | .bx v e t,x,l=>(v,⟨true,e,t,[x]⟩)::l
 | .sl _ v e t,xs,l=>(v,⟨false,e,t,xs⟩)::l
def xstC:(d:LD)→(r:List LD)→LDC D.S d r→Sto D
 |d,[],x=>st1 D d x []
 |d,e::r,x=>st1 D d x.1 (xstC e r x.2)
def stP:(ds:List LD)→LDP D.S ds→Sto D
 |[],_=>[]
 |d::r,x=>xstC D d r x
def nrmA (D:SD) (n:Nat) (t:Ty) (xs:List (Den D.S t)):List (Den D.S t):=(List.range n).map fun j=>gt D t xs j
def nrmS:Sto D→Sto D
 |[]=>[]
 |(v,⟨true,e,.arr n t,[x]⟩)::r=>(v,⟨true,e,.arr n t,[(nrmA D n t x:List (Den D.S t))]⟩)::nrmS r
 |p::r=>p::nrmS r
def lbad:Ren→List Nat
 |[]=>[]
 |(v,some w)::r=>bif Nat.beq v w then lbad r else v::lbad r
 |(v,none)::r=>v::lbad r
def lcut {R:Type} (inv:SEnv D) (ds:List LD) (L:LDP D.S ds→XT R):XK D R:=fun en σ tn=>match tn,rdP D en (nrmS D σ) ds with
 |none,some s=>bif (rnO (lrn D en ds)&&rnD (lrn D en ds))&&(lbad (lrn D en ds)).all (fun v=>Nat.blt v 1000000&& !(mnE D v inv)) then .eqv (inv.map fun p=>xrd D en p.1) (inv.map fun p=>p.2) (L s) else .opt none
 |_,_=>.opt none
end
section
variable (D:SD)
def ev1 (env0:Env):(d:LD)→LD1 D.S d→Env→Env
 | .s i t,x,l=>(i,Y8l D t x)::l
 | .bx _ _ _,_,l=>l
 | .sl i _ _ _,_,l=>(i,rd env0 i)::l
def evC (env0:Env):(d:LD)→(r:List LD)→LDC D.S d r→Env
 |d,[],x=>ev1 D env0 d x env0
 |d,e::r,x=>ev1 D env0 d x.1 (evC env0 e r x.2)
def evP (env0:Env):(ds:List LD)→LDP D.S ds→Env
 |[],_=>env0
 |d::r,x=>evC D env0 d r x
end
section
variable {D:SD} {P:Program} {h:Hp} {ω:Nat→AV} {σ:Sto D} {tn:xTn} {Rs:Nat→List Nat} {env:Env} {en inv:SEnv D} {h0:Hp} {O0:Nat→Prop} {ω0:Nat→AV} {F0:Nat→Prop}
theorem cv1_sub{t:Ty}{x:SV D.S}{d:Den D.S t}{a:AV}(hc:cv1 D σ tn t x=some (false,d))(ha:SR D h ω x a):Sub a (Y8l D t d):=by
 have fin:∀{a':AV},a=a'→a'=Y8l D t d→Sub a (Y8l D t d):=fun e e'=>by rw[e, ←e'];exact Sub.refl _
 unfold cv1 at hc
 split at hc
 ·split at hc
  ·rename_i hk;simp only[X0,Prod.mk.injEq] at hc;obtain⟨_,rfl⟩:=hc;simp only[SR] at ha;subst hk;exact fin ha rfl
  ·cases hc
 ·simp only[X0,Prod.mk.injEq] at hc;obtain⟨_,rfl⟩:=hc;simp only[SR] at ha;exact fin ha rfl
 ·simp only[X0,Prod.mk.injEq] at hc;obtain⟨_,rfl⟩:=hc;simp only[SR] at ha;exact fin ha rfl
 ·split at hc
  ·rename_i e _;have⟨e⟩:=e;subst e;simp only[X0,Prod.mk.injEq] at hc;obtain⟨_,rfl⟩:=hc;simp only[SR] at ha;exact fin ha rfl
  ·cases hc
 ·simp only[X0,Prod.mk.injEq] at hc;obtain⟨_,rfl⟩:=hc;simp only[SR] at ha;rw[ha];exact Sub.nil
 ·grind
 ·grind
 ·split at hc
  ·rename_i e _;have⟨e⟩:=e;subst e;simp only[X0,Prod.mk.injEq] at hc;obtain⟨_,rfl⟩:=hc;simp only[SR] at ha;refine fin ha.2 ?_;rw[X0q,X0f]
   rfl
  ·cases hc
 ·split at hc
  ·rename_i e;subst e;simp only[X0,Prod.mk.injEq] at hc;obtain⟨_,rfl⟩:=hc;simp only[SR] at ha;exact fin ha rfl
  ·cases hc
 ·split at hc
  ·rename_i i cs ls hs
   split at hc
   ·rename_i y hy;simp only[X0,Prod.mk.injEq] at hc;obtain⟨_,rfl⟩:=hc;simp only[SR] at ha;obtain⟨l,rfl,hl⟩:=ha;refine fin rfl ?_;rw[Y7n hs hl];simp only[Y8l,D.sound _ _ _ hy]
   ·cases hc
  ·cases hc
 ·split at hc
  ·rename_i cs ls hs
   split at hc
   ·rename_i y hy;simp only[X0,Prod.mk.injEq] at hc;obtain⟨_,rfl⟩:=hc;simp only[SR] at ha;obtain⟨l,rfl,hl⟩:=ha;refine fin rfl ?_;rw[Y7n hs hl];simp only[Y8l,Y7m _ _ _ hy]
   ·cases hc
  ·cases hc
 ·cases hc
theorem rd1_sub(E:EnvR h ω en env){d:LD}{x:LD1 D.S d}{m:Env}(hr:rd1 D en σ d=some x)(H:EnvSub env m):EnvSub env (ev1 D env d x m):=by
 cases d with
 |bx v e t=>exact H
 |s i t=>
  simp only[rd1] at hr
  split at hr
  ·rename_i y hc;have⟨hp,hr⟩:=condSu hr;have hr:=X0a hr;subst hr;intro j;simp only[ev1,rd]
   by_cases e:i=j
   ·subst e;rw[if_pos rfl];exact cv1_sub hc (E i)
   ·rw[if_neg e];exact H j
  ·cases hr
 |sl i v e t=>
  intro j;simp only[ev1,rd]
  by_cases e:i=j
  ·subst e;rw[if_pos rfl];exact Sub.refl _
  ·rw[if_neg e];exact H j
theorem rd1_all(E:EnvR h ω en env){ωc:Nat→AV}{d:LD}{r:List LD}{x:LD1 D.S d}{l:SEnv D}{m:Env}{s:Sto D}(hr:rd1 D en σ d=some x)(hω:∀p∈lrn D en (d::r),ωc p.1=(match p.2 with
  |some w=>ω w
  |none=>xnilA)) (H:EnvR h ωc l m) (Hs:Lk σ (fun _=>none) s (lrn D en r)):EnvR h ωc (en1 D d x l) (ev1 D env d x m)∧Lk σ (fun _=>none) (st1 D d x s) (lrn D en (d::r)):=by
 cases d with
 |s i t=>
  simp only[rd1] at hr
  split at hr
  ·rename_i y hc;have⟨hp,hr⟩:=condSu hr;have hr:=X0a hr;subst hr;refine⟨fun j=> ?_,Hs⟩;simp only[en1,ev1,xrd,rd];rcases beqS i j with⟨rfl,hb⟩|⟨hn,hb⟩
   ·rw[hb,cond_true,if_pos rfl];exact encV1_srA y hp
   ·rw[hb,cond_false,if_neg hn];exact H j
  ·cases hr
 |bx v e t=>
  simp only[rd1] at hr
  split at hr
  ·rename_i e' t' y hg
   split at hr
   ·rename_i q _;have⟨q⟩:=q;subst q;have⟨hb,hr⟩:=condSu hr;have hr:=X0a hr;have he:=Xe hb;subst hr he;exact⟨H,.one hg rfl Hs⟩
   ·cases hr
  ·cases hr
 |sl i v e t=>
  have hE:=E i;simp only[rd1] at hr;simp only[lrn] at hω⊢
  split at hr
  ·rename_i w hi
   split at hr
   ·rename_i e' t' xs hg
    split at hr
    ·rename_i q _;have⟨q⟩:=q;subst q;have⟨hb,hr⟩:=condSu hr;have hr:=X0a hr;have he:=Xe hb;subst hr he;simp only[hi] at hω⊢;rw[hi] at hE;refine⟨fun j=> ?_,.one hg rfl Hs⟩;simp only[en1,ev1,xrd,rd];rcases beqS i j with⟨rfl,hb⟩|⟨hn,hb⟩
     ·rw[hb,cond_true,if_pos rfl];have:=hω _ X13;simp only at this;simp only[SR,HdAt] at hE⊢
      grind
     ·rw[hb,cond_false,if_neg hn];exact H j
    ·cases hr
   ·cases hr
  ·rename_i hi;have hr:=X0a hr;subst hr;simp only[hi] at hω⊢;rw[hi] at hE;refine⟨fun j=> ?_,.nol Hs⟩;simp only[en1,ev1,xrd,rd];rcases beqS i j with⟨rfl,hb⟩|⟨hn,hb⟩
   ·rw[hb,cond_true,if_pos rfl];have:=hω _ X13;simp only at this;simp only[SR,HdAt] at hE⊢;rw[this,hE];exact⟨.inl rfl,rfl⟩
   ·rw[hb,cond_false,if_neg hn];exact H j
  ·cases hr
theorem en1_nc{d:LD}{x:LD1 D.S d}{l:SEnv D}(H:∀p∈l,notC D p.2=true):∀p∈en1 D d x l,notC D p.2=true:=by
 cases d with
 |bx v e t=>exact H
 |s i t=>
  intro p hp;rcases Xb.1 hp with rfl|hp
  ·exact encV1_nc t x
  grind
 |sl i v e t=>
  intro p hp;rcases Xb.1 hp with rfl|hp
  ·rfl
  grind
theorem prO'_some{A B:Type}{x:Option A}{y:Option B}{p:A×B}(h:prO' x y=some p):x=some p.1∧y=some p.2:=by
 unfold prO' at h
 grind
theorem lrn_cons(d:LD)(r:List LD):∀p∈lrn D en r,p∈lrn D en (d::r):=fun p hp=>by
 cases d with
 |s _ _=>exact hp
 |bx _ _ _=>exact Xq _ hp
 |sl _ _ _ _=>exact Xq _ hp
theorem rdC_all{ωc:Nat→AV}(E:EnvR h ω en env)(hI:EnvR h ωc inv env)(hn:∀p∈inv,notC D p.2=true):∀{r:List LD} {d:LD} {x:LDC D.S d r},rdC D en σ d r=some x→(∀p∈lrn D en (d::r),ωc p.1=(match p.2 with
  |some w=>ω w
  |none=>xnilA))→
  EnvR h ωc (enC D inv d r x) (evC D env d r x)∧EnvSub env (evC D env d r x)∧Lk σ (fun _=>none) (xstC D d r x) (lrn D en (d::r))∧∀p∈enC D inv d r x,notC D p.2=true
 |[],d,x,hr,hω=>by
  have⟨k1,k2⟩:=rd1_all (r:=[]) E hr hω hI .nil;exact⟨k1,rd1_sub E hr (fun _=>Sub.refl _),k2,en1_nc hn⟩
 |e::r,d,x,hr,hω=>by
  have⟨h1,h2⟩:=prO'_some hr;have⟨k1,k2,k3,k4⟩:=rdC_all E hI hn h2 fun p hp=>hω p (lrn_cons d _ p hp);have⟨j1,j2⟩:=rd1_all E h1 hω k1 k3;exact⟨j1,rd1_sub E h1 k2,j2,en1_nc k4⟩
theorem rdP_all{ωc:Nat→AV}(E:EnvR h ω en env)(hI:EnvR h ωc inv env)(hn:∀p∈inv,notC D p.2=true){ds:List LD}{x:LDP D.S ds}(hr:rdP D en σ ds=some x)(hω:∀p∈lrn D en ds,ωc p.1=(match p.2 with
  |some w=>ω w
  |none=>xnilA)):
  EnvR h ωc (enP D inv ds x) (evP D env ds x)∧EnvSub env (evP D env ds x)∧Lk σ (fun _=>none) (stP D ds x) (lrn D en ds)∧∀p∈enP D inv ds x,notC D p.2=true:=by
 cases ds with
 |nil=>exact⟨hI,fun _=>Sub.refl _,.nil,hn⟩
 |cons d r=>exact rdC_all E hI hn hr hω
theorem nc_cnd{en:SEnv D}(H:∀p∈en,notC D p.2=true):CndOK en:=fun i t p g x hx=>by
 have:=H _ (xrd_mem hx);cases this
theorem inv_env(E:EnvR h ω en env):∀{inv:SEnv D},(inv.map fun p=>xrd D en p.1)=(inv.map fun p=>p.2)→EnvR h ω inv env
 |[],_,i=>by simp only[xrd,SR]
 |(j,v)::r,he,i=>by
  simp only[Xo,List.cons.injEq] at he;simp only[xrd];rcases beqS j i with⟨rfl,hb⟩|⟨_,hb⟩
  ·rw[hb,cond_true, ←he.1];exact E j
  ·rw[hb,cond_false];exact inv_env E he.2 i
theorem lbad_mem{v:Nat}{x:Option Nat}:∀{r:Ren},(v,x)∈r→x≠some v→v∈lbad r
 |[],h,_=>by cases h
 |(u,some w)::r,h,hn=>by
  simp only[lbad];rcases Xb.1 h with e|h
  ·cases e;rcases beqS v w with⟨e,_⟩|⟨_,hb⟩
   ·simp_all
   simp_all
  ·cases Nat.beq u w with
   |true=>exact lbad_mem h hn
   |false=>exact Xq _ (lbad_mem h hn)
 |(u,none)::r,h,hn=>by
  simp only[lbad];rcases Xb.1 h with e|h
  ·grind
  ·exact Xq _ (lbad_mem h hn)
theorem mnE_all{v:Nat}:∀{inv:SEnv D},mnE D v inv=false→∀i,mnS D v (xrd D inv i)=false
 |[],_,_=>rfl
 |(j,x)::r,hm,i=>by
  simp only[mnE,Bool.or_eq_false_iff] at hm;simp only[xrd];cases Nat.beq j i with
  |true=>exact hm.1
  |false=>exact mnE_all hm.2 i
theorem nrmA_lvs{n:Nat}{t:Ty}(x:List (Den D.S t)):lvs D (.arr n t) (nrmA D n t x:List (Den D.S t))=lvs D (.arr n t) x:=by
 simp only[lvs];have:∀l:List Nat,(∀j∈l,j<n)→l.flatMap (fun j=>lvs D t (List.getD (nrmA D n t x) j (dft D t)))=l.flatMap (fun j=>lvs D t (List.getD x j (dft D t))):=fun l hl=>by
  induction l with
  |nil=>rfl
  |cons a l ih=>
   rw[Xr,Xr,ih fun j hj=>hl j (Xq _ hj)];have ha:=hl a (by simp);have:List.getD (nrmA D n t x) a (dft D t)=List.getD x a (dft D t):=by
    unfold nrmA;rw[X6,X0g,List.getElem?_range ha]
    rfl
   rw[this]
 simp_all
theorem nrmS_get{v:Nat}{b:Bv D}:∀{σ:Sto D},getB D (nrmS D σ) v=some b→∃c,getB D σ v=some c∧∀h δ a rs,BkR D h δ c a rs→BkR D h δ b a rs
 |[],h=>by cases h
 |(i,c)::r,hg=>by
  have same:∀c',getB D ((i,c')::nrmS D r) v=some b→(∀h δ a rs,BkR D h δ c a rs→BkR D h δ c' a rs)→∃c2,getB D ((i,c)::r) v=some c2∧∀h δ a rs,BkR D h δ c2 a rs→BkR D h δ b a rs:=fun c' hg hc=>by
   simp only[getB] at hg⊢;cases hb:Nat.beq i v with
   |true=>simp_all
   |false=>rw[hb,cond_false] at hg;exact nrmS_get hg
  unfold nrmS at hg
  split at hg
  ·simp_all
  ·rename_i v' e n t x r' heq;cases heq;refine same _ hg fun h δ a rs H=> ?_;have⟨h1,r0,rt,rs',k1,k2,⟨k3,k4,dd,post,k5,k6⟩,k7⟩:=H;refine⟨h1,r0,rt,rs',k1,k2,⟨k3,k4,dd,post,k5, ?_⟩,k7⟩;have⟨c1,c2,r1,r2,e1,e2,e3,e4⟩:=k6;have hl:=nrmA_lvs (D:=D) (n:=n) (t:=t) x;exact⟨c1,c2,r1,r2,e1,e2,(show LsR D (LfR D h 9) (xsel δ 0) (lvs D (.arr n t) (nrmA D n t x:List (Den D.S t))) c1 r1 from hl▸e3),e4⟩
  grind
theorem XR.nrm(X:XR D h0 O0 ω0 F0 en σ tn env h ω Rs):XR D h0 O0 ω0 F0 en (nrmS D σ) tn env h ω Rs:=
 ⟨⟨fun v b hv=>by have⟨c,h1,h2⟩:=nrmS_get hv;exact h2 _ _ _ _ (X.rep.blk v c h1),fun v b hv=>by have⟨c,h1,_⟩:=nrmS_get hv;exact X.rep.nd v c h1,fun v b v' b' hv hv'=>by have⟨c,h1,_⟩:=nrmS_get hv;have⟨c',h2,_⟩:=nrmS_get hv';exact X.rep.dj v c v' c' h1 h2⟩,X.env,X.cnd,X.fix,X.frA,fun v b hv=>by have⟨c,h1,_⟩:=nrmS_get hv;exact X.frB v c h1⟩
theorem lcut_sound{R:Type}(hn:∀p∈inv,notC D p.2=true){ds:List LD}{L:LDP D.S ds→XT R}{r:R}(hx:dnf (lcut D inv ds L en σ tn)=some r)(X:XR D h0 O0 ω0 F0 en σ tn env h ω Rs):
  ∃s,dnf (L s)=some r∧∃env' ω' Rs',EnvSub env env'∧XR D h0 O0 ω0 F0 (enP D inv ds s) (stP D ds s) none env' h ω' Rs':=by
 unfold lcut at hx;replace X:=X.nrm
 split at hx
 ·rename_i s hs;have⟨hb,hx⟩:=Y95 hx;simp only[X2] at hb;have⟨⟨hO,hD⟩,hbad⟩:=hb;have⟨he,hx⟩:=eqv_some hx;have bad:∀v x,rnF (lrn D en ds) v=some x→x≠some v→v<1000000∧mnE D v inv=false:=fun v x hv hne=>by
   have:=Xg.1 hbad v (lbad_mem (rnF_mem hv) hne)
   simp_all
  have hI:EnvR h (rnL (lrn D en ds) ω) inv env:=fun i=>by
   refine SR.ext (fun w hw=> ?_) (inv_env X.env he i);unfold rnL;cases hF:rnF (lrn D en ds) w with
   |none=>rfl
   |some x=>
    by_cases e:x=some w
    ·grind
    ·have:=mnE_all (bad w x hF e).2 i
     simp_all
  --the keys' values
  have hval:∀v x,rnF (lrn D en ds) v=some x→rnL (lrn D en ds) ω v=(match x with
    |some w=>ω w
    |none=>xnilA):=fun v x hv=>by
   unfold rnL;rw[hv];cases x<;>rfl
  have hu:∀p∈lrn D en ds,rnF (lrn D en ds) p.1=some p.2:=fun p hp=>rnF_of hD hp
  ·have⟨k1,k2,k3,k4⟩:=rdP_all X.env hI hn hs fun p hp=>hval p.1 p.2 (hu p hp);have hB:=k3.rnB;have R2:=X.rep.ren hO hB;have same:∀v b,getB D (stP D ds s) v=some b→rnL (lrn D en ds) ω v=rnW (lrn D en ds) ω v:=fun v b hv=>by
    have⟨x,hk⟩:=k3.key hv;unfold rnL rnW;rw[hk,rnF_G hk];cases x<;>rfl
   refine⟨s,hx,_,rnL (lrn D en ds) ω,rnR (lrn D en ds) Rs,k2,⟨⟨fun v b hv=> ?_,R2.nd,R2.dj⟩,k1,nc_cnd k4,fun v hv=> ?_,X.frA,fun v b hv q hq=> ?_⟩⟩
   ·rw[same v b hv];exact R2.blk v b hv
   ·have⟨h1,h2⟩:=X.fix v hv;refine⟨?_,h2⟩;rw[←h1];unfold rnL
    grind
   ·rcases hB v b hv with⟨w,h1,h2,_⟩|⟨h1,_⟩
    ·simp only[rnR,h1] at hq;exact X.frB w b h2 q hq
    ·simp only[rnR,h1] at hq;cases hq
 ·exact(Y2a hx).elim
def KL {R:Type} (D:SD) (inv:SEnv D) (ds:List LD) (L:LDP D.S ds→Option R) (K:XE D R):XE D R:=fun x=>match x with
 | .normal=>lcut D inv ds fun s=>.opt (L s)
 |x=>K x
theorem xloop{R:Type}{G:XG D}(hG:G.OK P){c:Code}{inv:SEnv D}{ds:List LD}{pre:XKn}{d:Nat}{cd:List Nat}{b:(LDP D.S ds→Option R)→LDP D.S ds→Option R}{n:Nat}{K:XE D R}(cut:(LDP D.S ds→Option R)→Nat→Option (XK D R))
  (hn:inv.all (fun p=>notC D p.2)=true) (hb:∀L s,b L s=den (xrun D P G (cut L) c (enP D inv ds s) (stP D ds s) none (KL D inv ds L K)))
  (ho:∀L s,obL pre (xrun D P G (cut L) c (enP D inv ds s) (stP D ds s) none (KL D inv ds L K))=obR (xrun D P G (cut L) c (enP D inv ds s) (stP D ds s) none (KL D inv ds L K)))
  (hH:∀L,∀p∈XH D P G (cut L) c (KL D inv ds L K),p):XOb D P G.N (.loop c) (lcut D inv ds fun s=>hg d cd (pre.map (·.2)) (.opt (iter b n s))) K:=by
 intro en σ tn r hx h0 O0 ω0 F0 env h ω Rs X;have hn':∀p∈inv,notC D p.2=true:=fun p hp=>Xg.1 hn p hp;have⟨s,hs,env',ω',Rs',he,X'⟩:=lcut_sound hn' hx X;have⟨hpre,hs⟩:=hg_some hs;refine Y9m (fun m e h'=>∃s,iter b m s=some r∧∃e2 ω Rs,EnvSub e e2∧XR D h0 O0 ω0 F0 (enP D inv ds s) (stP D ds s) none e2 h' ω Rs) (fun m e h' hi=> ?_) n ⟨s,hs,env',ω',Rs',he,X'⟩;have⟨s,hs,e2,ω,Rs,he,X⟩:=hi;cases m with
 |zero=>cases hs
 |succ m=>
  refine GQ.sub he ?_;have hd:=dnf_of _ pre (ho (iter b m) s) (fun p hp=>hpre p.2 (Xp.2 ⟨p,hp,rfl⟩)) ((hb (iter b m) s).symm.trans hs);refine(Y80 hG c hd X (hH (iter b m))).mono fun x e h k=> ?_;have⟨en,σ,tn,ω,Rs,X,hk⟩:=k;cases x with
  |normal=>
   have⟨s',h1,e3,ω',Rs',h2,h3⟩:=lcut_sound hn' hk X;exact⟨m,Nat.lt_succ_self m,s',h1,e3,ω',Rs',h2,h3⟩
  |_=>exact⟨en,σ,tn,ω,Rs,X,hk⟩
def kcut {R:Type} (D:SD) (dc ds:List LD) (inv:LDP D.S dc→SEnv D) (L:LDP D.S dc→LDP D.S ds→XT R):XK D R:=fun en σ tn=>match rdP D en σ dc with
 |some k=>lcut D (enP D (inv k) dc k) ds (L k) en σ tn
 |none=>.opt none
theorem Y3j{R:Type}{N:Nat}{c:Code}{dc ds:List LD}{inv:LDP D.S dc→SEnv D}{L:LDP D.S dc→LDP D.S ds→XT R}{K:XE D R}(H:∀k,XOb D P N c (lcut D (enP D (inv k) dc k) ds (L k)) K):XOb D P N c (kcut D dc ds inv L) K:=by
 intro en σ tn r hx;unfold kcut at hx
 split at hx
 ·rename_i k _;exact H k en σ tn r hx
 ·exact(Y2a hx).elim
end
section
variable {D:SD} {P:Program} {G:XG D}
def XHA {R:Type} (D:SD) (P:Program) (G:XG D) (cut:Nat→Option (XK D R)):Code→XE D R→Prop→Prop
 | .seq a b,K,Q=>XHA D P G cut a (xafter D P G cut b K) (match cut (rid1 b) with
  |some f=>XOb D P G.N b f K∧Q
  |none=>XHA D P G cut b K Q)
 | .cond _ a b,K,Q=>XHA D P G cut a K (XHA D P G cut b K Q)
 | .block id c,K,Q=>XHA D P G cut c (xblk id K) Q
 | .scope c,K,Q=>XHA D P G cut c (xscp K) Q
 | .loop c,K,Q=>(match cut (rid1 c+2000000) with
  |some f=>XOb D P G.N (.loop c) f K∧Q
  |none=>Q)
 |_,_,Q=>Q
theorem XHA_all{R:Type}{cut:Nat→Option (XK D R)}:∀(c:Code) (K:XE D R) (Q:Prop),XHA D P G cut c K Q→(∀p∈XH D P G cut c K,p)∧Q
 | .seq a b,K,Q,H=>by
  simp only[XHA] at H;have⟨h1,h2⟩:=XHA_all a _ _ H;simp only[XH];cases hc:cut (rid1 b) with
  |some f=>
   grind
  |none=>
   rw[hc] at h2;have⟨h3,h4⟩:=XHA_all b _ _ h2
   grind
 | .cond _ a b,K,Q,H=>by
  simp only[XHA] at H;have⟨h1,h2⟩:=XHA_all a _ _ H;have⟨h3,h4⟩:=XHA_all b _ _ h2;simp only[XH]
  grind
 | .block id c,K,Q,H=>XHA_all c _ _ H
 | .scope c,K,Q,H=>XHA_all c _ _ H
 | .loop c,K,Q,H=>by
  simp only[XHA] at H;simp only[XH]
  grind
 | .skip,K,Q,H=>⟨fun p hp=>by simp[XH] at hp,H⟩
 | .region _ _ _,K,Q,H=>⟨fun p hp=>by simp[XH] at hp,H⟩
 | .exit _,K,Q,H=>⟨fun p hp=>by simp[XH] at hp,H⟩
 | .goto _,K,Q,H=>⟨fun p hp=>by simp[XH] at hp,H⟩
 | .label _,K,Q,H=>⟨fun p hp=>by simp[XH] at hp,H⟩
 | .ret,K,Q,H=>⟨fun p hp=>by simp[XH] at hp,H⟩
 | .refuse _,K,Q,H=>⟨fun p hp=>by simp[XH] at hp,H⟩
 | .rangeFunc _ _ _ _,K,Q,H=>⟨fun p hp=>by simp[XH] at hp,H⟩
theorem Y5k{R:Type}(hG:G.OK P){c:Code}{inv:SEnv D}{ds:List LD}{pre:XKn}{d:Nat}{cd:List Nat}{b:(LDP D.S ds→Option R)→LDP D.S ds→Option R}{n:Nat}{K:XE D R}(cut:(LDP D.S ds→Option R)→Nat→Option (XK D R))
  (hn:inv.all (fun p=>notC D p.2)=true) (hH:∀L,XHA D P G (cut L) c (KL D inv ds L K) True) (hb:∀L s,b L s=den (xrun D P G (cut L) c (enP D inv ds s) (stP D ds s) none (KL D inv ds L K)))
  (ho:∀L s,obL pre (xrun D P G (cut L) c (enP D inv ds s) (stP D ds s) none (KL D inv ds L K))=obR (xrun D P G (cut L) c (enP D inv ds s) (stP D ds s) none (KL D inv ds L K))):XOb D P G.N (.loop c) (lcut D inv ds fun s=>hg d cd (pre.map (·.2)) (.opt (iter b n s))) K:=
 xloop hG cut hn hb ho fun L=>(XHA_all c _ _ (hH L)).1
theorem xfnA{f:FuncId}(hG:G.OK P){fn:Func}(hf:P.funcs[f]? =some fn){ats rts:List Ty}{F:DenP D.S ats→Option (DenP D.S rts)}(cut:DenP D.S ats→Nat→Option (XK D (DenP D.S rts)))
  (hk:(fn.body.isSome&&(Nat.beq fn.ntmps G.N&&(Nat.ble ats.length G.N&&(ats.all (plA D)&&rts.all (plT D)))))=true) (hH:∀ds,XHA D P G (cut ds) (fn.body.getD .skip) (KR D P rts fn.results.toList) True) (hx:∀ds,F ds=den (xfn D P G fn ats rts (cut ds) ds)) (ho:∀ds,obL [] (xfn D P G fn ats rts (cut ds) ds)=obR (xfn D P G fn ats rts (cut ds) ds)) (ds:DenP D.S ats) (x:DenP D.S rts) (hF:F ds=some x):
  QSpec P f (encAP D ats ds) (Y8i (encAP D rts x)):=xfn_q hG hf hk (hx ds) (ho ds) (XHA_all _ _ _ (hH ds)).1 hF
end
inductive AK where
 |d (t:Ty)
 |sl (e:TypeId) (t:Ty)
 |al (p:Pth)
def akT:List AK→List Ty
 |[]=>[]
 | .d t::r=>t::akT r
 | .sl e t::r=>.sl e t::akT r
 | .al _::r=>akT r
section
variable {S:Nat→Type}
def toC:(t:Ty)→(r:List Ty)→DenC S t r→List (xLf S)
 |t,[],d=>[⟨t,d⟩]
 |t,u::r,d=>⟨t,d.1⟩::toC u r d.2
def toL:(ts:List Ty)→DenP S ts→List (xLf S)
 |[],_=>[]
 |t::r,d=>toC t r d
def ofC:(t:Ty)→(r:List Ty)→List (xLf S)→Option (DenC S t r)
 |t,[],[l]=>cst t l
 |t,u::r,l::ls=>prO' (cst t l) (ofC u r ls)
 |_,_,_=>none
def ofL:(ts:List Ty)→List (xLf S)→Option (DenP S ts)
 |[],[]=>some ()
 |t::r,ls=>ofC t r ls
 |_,_=>none
theorem ofC_sound:∀{r:List Ty} {t:Ty} {ls:List (xLf S)} {d:DenC S t r},ofC t r ls=some d→toC t r d=ls
 |[],t,[],d,h=>by rw[show ofC t [] ([]:List (xLf S))=none from rfl] at h;simp_all
 |[],t,[l],d,h=>by
  have h:cst t l=some d:=h;rw[cst_sound h];rfl
 |[],t,_::_::_,d,h=>by rw[show ofC t [] (_::_::_:List (xLf S))=none from rfl] at h;simp_all
 |u::r,t,[],d,h=>by rw[show ofC t (u::r) ([]:List (xLf S))=none from rfl] at h;simp_all
 |u::r,t,l::ls,d,h=>by
  have h:prO' (cst t l) (ofC u r ls)=some d:=h;have⟨h1,h2⟩:=prO'_some h;show(⟨t,d.1⟩:xLf S)::toC u r d.2=l::ls;rw[ofC_sound h2,cst_sound h1]
theorem ofL_sound{ts:List Ty}{ls:List (xLf S)}{d:DenP S ts}(h:ofL ts ls=some d):toL ts d=ls:=by
 cases ts with
 |nil=>
  cases ls with
  |nil=>rfl
  |cons=>rw[show ofL [] (_::_:List (xLf S))=none from rfl] at h;simp_all
 |cons t r=>exact ofC_sound h
end
section
variable {D:SD} {P:Program} {h h':Hp} {ω ω':Nat→AV} {σ σ':Sto D} {tn:xTn} {Rs:Nat→List Nat} {env:Env} {en:SEnv D}
inductive FzL (h:Hp) (bs:List Nat):List AV→List AV→Prop
 |nil:FzL h bs [] []
 |cons {x y:AV} {xs ys:List AV}:FzS h bs x y→FzL h bs xs ys→FzL h bs (x::xs) (y::ys)
theorem FzL.vr{bs:List Nat}{xs ys:List AV}(H:FzL h bs xs ys){X:Ctx}{ι:Nat→Bk}{w:World}(Hh:Hol X h ι w):∀{l:List Value},VRL w h ι (Own X.B h ι) xs l→VRL w (h.kill bs) ι (Own X.B (h.kill bs) ι) ys l:=by
 induction H with
 |nil=>intro l hv;simpa only[VRL] using hv
 |cons a l ih=>
  intro vs hv;simp only[VRL] at hv⊢;obtain⟨v,l',rfl,h1,h2⟩:=hv;exact⟨v,l',rfl,a X _ w v Hh h1,ih h2⟩
theorem FzL.res{bs:List Nat}{xs ys:List AV}(H:FzL h bs xs ys):FzS h bs (Y8i xs) (Y8i ys):=by
 cases H with
 |nil=>exact FzS.refl _ _ _
 |cons a l=>
  cases l with
  |nil=>exact a
  |cons b l=>
   intro X ι w v Hh hv;simp only[Y8i,VR] at hv⊢;have⟨l',e,hr⟩:=hv;exact⟨l',e,(FzL.cons a (.cons b l)).vr Hh hr⟩
theorem CallOK.frz{f:FuncId}{vs:List AV}{av av':AV}{bs:List Nat}(hc:CallOK P f vs h h' av)(hz:FzS h' bs av av'):CallOK P f vs h (h'.kill bs) av':=by
 intro X w ι l H hv;refine(hc X w ι l H hv).mono ?_;rintro e w' ⟨v,ι',rfl,H',K',hv'⟩;refine⟨v,ι',rfl,H'.kill bs,⟨fun β hβ hA=> ?_,fun r rt hr=> ?_⟩,hz X ι' w' v H' hv'⟩
 ·have⟨k1,k2⟩:=K'.blk β hβ hA;exact⟨k1,fun ho=>k2 (Hp.kill_own ho)⟩
 ·have⟨rt',k1,k2,k3⟩:=K'.hp r rt hr;refine⟨_,by rw[Hp.kill_at,k1];rfl, ?_,fun e=> ?_⟩
  ·split<;>exact k2
  grind
inductive SubA:List AV→List AV→Prop
 |nil:SubA [] []
 |cons {x y:AV} {xs ys:List AV}:Sub x y→SubA xs ys→SubA (x::xs) (y::ys)
theorem SubA.vr{xs ys:List AV}(H:SubA xs ys){w:World}{ι:Nat→Bk}{A:Nat→Prop}:∀{l:List Value},VRL w h ι A xs l→VRL w h ι A ys l:=by
 induction H with
 |nil=>simp_all
 |cons a l ih=>
  intro vs hv;simp only[VRL] at hv⊢;obtain⟨v,l',rfl,h1,h2⟩:=hv;exact⟨v,l',rfl,a _ _ _ _ _ h1,ih h2⟩
theorem CallOK.subA{f:FuncId}{vs ys:List AV}{av:AV}(hc:CallOK P f ys h h' av)(hs:SubA vs ys):CallOK P f vs h h' av:=fun X w ι l H hv=>hc X w ι l H (hs.vr hv)
end
section
variable (D:SD) (P:Program)
structure FC where
 bx:Option TypeId
 bt:List Ty
 ats:List AK
 rts:List Ty
 F:DenP D.S (bt++akT ats)→Option (DenP D.S (rts++bt))
def inV:Nat→List AK→List (xLf D.S)→List (SV D.S)
 |_,[],_=>[]
 |i,.d _::r,l::ls=>encV1 D l.1 l.2::inV (i+1) r ls
 |i,.sl _ _::r,_::ls=>.vw i []::inV (i+1) r ls
 |i,.al p::r,ls=>.vw 1000000 p::inV (i+1) r ls
 |_,_,[]=>[]
def inK:Nat→List AK→List (xLf D.S)→Sto D
 |_,[],_=>[]
 |i,.d _::r,_::ls=>inK (i+1) r ls
 |i,.sl e _::r,⟨.sl _ u,xs⟩::ls=>(i,⟨false,e,u,xs⟩)::inK (i+1) r ls
 |i,.sl _ _::r,_::ls=>inK (i+1) r ls
 |i,.al _::r,ls=>inK (i+1) r ls
 |_,_,[]=>[]
def inVB (bx:Option TypeId) (ats:List AK) (ls:List (xLf D.S)):List (SV D.S):=match bx,ls with
 |none,ls=>inV D 1000001 ats ls
 |some _,_::ls=>.ptr 1000000 [] 0 0::inV D 1000001 ats ls
 |some _,[]=>[]
def inKB (bx:Option TypeId) (ats:List AK) (ls:List (xLf D.S)):Sto D:=match bx,ls with
 |none,ls=>inK D 1000001 ats ls
 |some e,l::ls=>(1000000,⟨true,e,l.1,[l.2]⟩)::inK D 1000001 ats ls
 |some _,[]=>[]
def outV (f:Nat→Nat):Nat→List Ty→List (xLf D.S)→List (SV D.S)
 |_,[],_=>[]
 |i,.sl _ _::r,⟨.sl _ _,_⟩::ls=>.vw (f i) []::outV f (i+1) r ls
 |_,.sl _ _::_,_::_=>[]
 |i,_::r,l::ls=>bif plA D l.1 then encV1 D l.1 l.2::outV f (i+1) r ls else[]
 |_,_,[]=>[]
def outB (f:Nat→Nat):Nat→List Ty→List (xLf D.S)→Sto D
 |_,[],_=>[]
 |i,.sl e _::r,⟨.sl _ u,xs⟩::ls=>(f i,⟨false,e,u,xs⟩)::outB f (i+1) r ls
 |_,.sl _ _::_,_::_=>[]
 |i,_::r,_::ls=>outB f (i+1) r ls
 |_,_,[]=>[]
def boxB (v:Nat) (bx:Option TypeId) (ls:List (xLf D.S)):Sto D:=match bx,ls with
 |some e,[l]=>[(v,⟨true,e,l.1,[l.2]⟩)]
 |_,_=>[]
def bxD (bx:Option TypeId) (ls:List (xLf D.S)):List (xLf D.S):=match bx with
 |none=>ls
 |some _=>ls.drop 1
def outS (c:FC D) (ls ls':List (xLf D.S)):Sto D:=outB D (fun i=>i) 0 c.rts ls'++(boxB D 1000000 c.bx (ls'.drop c.rts.length)++inK D 1000001 c.ats (bxD D c.bx ls))
def IOK (f:FuncId) (c:FC D):Prop:=∀ds y,c.F ds=some y→∀h ω Rs vs,xRep D (inKB D c.bx c.ats (toL _ ds)) (fun _=>none) ω Rs h→SRL D h ω (inVB D c.bx c.ats (toL _ ds)) vs→
 ∃h' ω' Rs' ys,CallOK P f vs h h' (Y8i ys)∧(∀v b,getB D (inKB D c.bx c.ats (toL _ ds)) v=some b→ω' v=ω v)∧xRep D (outS D c (toL _ ds) (toL _ y)) (fun _=>none) ω' Rs' h'∧SRL D h' ω' (outV D (fun i=>i) 0 c.rts (toL _ y)) ys∧
  (∀q rt,h.at q=some rt→(∀v b,getB D (inKB D c.bx c.ats (toL _ ds)) v=some b→q∉Rs v)→h'.at q=some rt)∧(∀v b,getB D (outS D c (toL _ ds) (toL _ y)) v=some b→∀q∈Rs' v,(∃v' b',getB D (inKB D c.bx c.ats (toL _ ds)) v'=some b'∧q∈Rs v')∨h.at q=none)
def xar (σ:Sto D) (tn:xTn) (v:Option Nat):Nat→List AK→List (SV D.S)→Option (List (xLf D.S)×Ren)
 |_,[],[]=>some ([],[])
 |i,.d t::r,x::xs=>(match cv1 D σ tn t x,xar σ tn v (i+1) r xs with
  |some (false,d),some (ls,al)=>bif plA D t then some (⟨t,d⟩::ls,al) else none
  |_,_=>none)
 |i,.sl e t::r,.vw w []::xs=>(match getB D σ w,xar σ tn v (i+1) r xs with
  |some ⟨false,e',u,ys⟩,some (ls,al)=>(match tyEq u t with
   |some h=>bif Nat.beq e' e&&tnOk tn w then some (⟨.sl e t,(h.down▸ys:List (Den D.S t))⟩::ls,(i,some w)::al) else none
   |none=>none)
  |_,_=>none)
 |i,.sl e t::r,.c (.slice none 0 0)::xs=>(match xar σ tn v (i+1) r xs with
  |some (ls,al)=>some (⟨.sl e t,([]:List (Den D.S t))⟩::ls,(i,none)::al)
  |none=>none)
 |i,.al p::r,.vw w q::xs=>bif (match v with
  |some v=>Nat.beq w v
  |none=>false)&&decide (p=q) then xar σ tn v (i+1) r xs else none
 |_,_,_=>none
def xbr (σ:Sto D) (tn:xTn) (bx:Option TypeId) (ats:List AK) (xs:List (SV D.S)):Option (List (xLf D.S)×Ren):=match bx,xs with
 |none,xs=>xar D σ tn none 1000001 ats xs
 |some e,.ptr v [] 0 0::xs=>(match getB D σ v,xar D σ tn (some v) 1000001 ats xs with
  |some ⟨true,e',u,[y]⟩,some (ls,al)=>bif Nat.beq e' e&&tnOk tn v then some (⟨u,y⟩::ls,(1000000,some v)::al) else none
  |_,_=>none)
 |_,_=>none
def newOK (en:SEnv D) (σ:Sto D) (tn:xTn):Sto D→Bool
  |[]=>true
  |(w,_)::r=>(match getB D σ w with
    |none=>Nat.blt w 1000000&&(tnOk tn w&& !(mnE D w en))
    |some _=>false)&&newOK en σ tn r
def xnumR (dst:Option Nat) (i:Nat):Nat:=dst.getD 900000+1000*i
def newS (σ:Sto D):Option TypeId→Sto D→Option Nat→Option (Sto D)
 |none,_,_=>some σ
 |some _,[(_,b)],some v=>(match getB D σ v with
  |some b0=>(match tyEq b0.t b.t with
   |some _=>some (xsetB D σ v b)
   |none=>none)
  |none=>none)
 |_,_,_=>none
def xio {R:Type} (c:FC D) (dst:Option Nat) (vs:List (SV D.S)) (en:SEnv D) (σ:Sto D) (tn:xTn) (K:SV D.S→SEnv D→Sto D→xTn→XT R):XT R:=match xbr D σ tn c.bx c.ats vs with
 |some (ls,al)=>(match ofL (c.bt++akT c.ats) ls with
  |some ds=>bif rnO al&&Nat.blt c.rts.length 1000000 then .bind (c.F ds) fun y=>
    (match newS D σ c.bx (boxB D 1000000 c.bx ((toL _ y).drop c.rts.length)) (rnG al 1000000) with
    |some σ1=>bif newOK D en σ tn (outB D (xnumR dst) 0 c.rts (toL _ y)) then
      K (tupS D (outV D (xnumR dst) 0 c.rts (toL _ y))) (mskE D (idsA D σ) en) (outB D (xnumR dst) 0 c.rts (toL _ y)++σ1) tn
     else .opt none
    |none=>.opt none)
   else .opt none
  |none=>.opt none)
 |none=>.opt none
def ctrF (c:FC D):Ctr D:=⟨fun dst vs en σ tn K=>xio D c dst vs en σ tn K⟩
end
def rnK:Nat→Ren→Prop
 |_,[]=>True
 |i,(j,_)::r=>i≤j∧rnK (j+1) r
theorem rnK.mono:∀{r:Ren} {i i':Nat},rnK i r→i'≤i→rnK i' r
 |[],_,_,_,_=>trivial
 |(j,_)::r,i,i',h,hi=>⟨X0x hi h.1,h.2⟩
theorem rnK.ge:∀{r:Ren} {i:Nat},rnK i r→∀p∈r,i≤p.1
 |[],_,_,p,hp=>by cases hp
 |(j,x)::r,i,h,p,hp=>by
  rcases Xb.1 hp with rfl|hp
  ·exact h.1
  ·have:=rnK.ge h.2 p hp;have:=h.1;omega
theorem rnK.get:∀{r:Ren} {i:Nat},rnK i r→∀p∈r,rnG r p.1=p.2
 |[],_,_,p,hp=>by cases hp
 |(j,x)::r,i,h,p,hp=>by
  simp only[rnG];rcases Xb.1 hp with rfl|hp
  ·simp_all
  ·have:=rnK.ge h.2 p hp;rcases beqS j p.1 with⟨e,_⟩|⟨_,hb⟩
   ·omega
   ·rw[hb,cond_false];exact rnK.get h.2 p hp
theorem rnG_mem{v w:Nat}:∀{r:Ren},rnG r v=some w→(v,some w)∈r
 |[],h=>by cases h
 |(j,x)::r,h=>by
  simp only[rnG] at h;rcases beqS j v with⟨rfl,hb⟩|⟨_,hb⟩
  ·simp_all
  ·rw[hb,cond_false] at h;exact Xq _ (rnG_mem h)
def rnI:Ren→Nat→Option Nat
 |[],_=>none
 |(c,some w)::r,v=>bif Nat.beq w v then some c else rnI r v
 |(_,none)::r,v=>rnI r v
theorem rnI_mem{v c:Nat}:∀{r:Ren},rnI r v=some c→(c,some v)∈r
 |[],h=>by cases h
 |(j,some w)::r,h=>by
  simp only[rnI] at h;rcases beqS w v with⟨rfl,hb⟩|⟨_,hb⟩
  ·simp_all
  ·rw[hb,cond_false] at h;exact Xq _ (rnI_mem h)
 |(j,none)::r,h=>Xq _ (rnI_mem (r:=r) h)
theorem rnI_none{v c:Nat}:∀{r:Ren},rnI r v=none→(c,some v)∉r
 |[],_,h=>by cases h
 |(j,some w)::r,h,hm=>by
  simp only[rnI] at h;rcases beqS w v with⟨rfl,hb⟩|⟨hn,hb⟩
  ·simp_all
  ·rw[hb,cond_false] at h;rcases Xb.1 hm with e|hm
   ·simp_all
   ·exact rnI_none h hm
 |(j,none)::r,h,hm=>by
  rcases Xb.1 hm with e|hm
  ·cases e
  ·exact rnI_none (r:=r) h hm
theorem getB_app{D:SD}{v:Nat}:∀(a b:Sto D),getB D (a++b) v=(match getB D a v with
  |some x=>some x
  |none=>getB D b v)
 |[],b=>rfl
 |(i,x)::a,b=>by
  simp only[Xv,getB];cases Nat.beq i v with
  |true=>rfl
  |false=>simp only[cond_false];exact getB_app a b
section
variable {D:SD} {P:Program} {h h':Hp} {ω ω':Nat→AV} {σ σ':Sto D} {tn:xTn} {Rs:Nat→List Nat} {env:Env} {en:SEnv D} {h0:Hp} {O0:Nat→Prop} {ω0:Nat→AV} {F0:Nat→Prop}
theorem xar_sound{v:Option Nat}{ωc:Nat→AV}(hv:∀u,v=some u→ωc 1000000=ω u):∀{ats:List AK} {i:Nat} {xs:List (SV D.S)} {ls:List (xLf D.S)} {al:Ren} {vs:List AV},xar D σ tn v i ats xs=some (ls,al)→SRL D h ω xs vs→
  rnK i al∧Lk σ (tnF tn) (inK D i ats ls) al∧((∀p∈al,ωc p.1=(match p.2 with
   |some w=>ω w
   |none=>xnilA))→∃vs',SubA vs vs'∧SRL D h ωc (inV D i ats ls) vs')
 |[],i,[],ls,al,vs,hx,H=>by
  simp only[xar,X0,Prod.mk.injEq] at hx;obtain⟨rfl,rfl⟩:=hx;simp only[SRL] at H;subst H;exact⟨trivial,.nil,fun _=>⟨[],.nil,by rfl⟩⟩
 |[],i,_::_,ls,al,vs,hx,H=>by simp only[xar] at hx;cases hx
 | .d t::r,i,[],ls,al,vs,hx,H=>by simp only[xar] at hx;cases hx
 | .d t::r,i,x::xs,ls,al,vs,hx,H=>by
  simp only[xar] at hx
  split at hx
  ·rename_i d ls' al' h1 h2;have⟨hp,hx⟩:=Y2l hx;simp only[X0,Prod.mk.injEq] at hx;obtain⟨rfl,rfl⟩:=hx;simp only[SRL] at H;obtain⟨a,l',rfl,k1,k2⟩:=H;have⟨g1,g2,g3⟩:=xar_sound hv h2 k2;refine⟨g1.mono (by omega),g2,fun hp'=> ?_⟩;have⟨vs',j1,j2⟩:=g3 hp';refine⟨Y8l D t d::vs',.cons (cv1_sub h1 k1) j1, ?_⟩;simp only[inV,SRL];exact⟨_,_,rfl,encV1_srA d hp,j2⟩
  ·cases hx
 | .al p::r,i,[],ls,al,vs,hx,H=>by simp only[xar] at hx;cases hx
 | .al p::r,i,x::xs,ls,al,vs,hx,H=>by
  cases x<;>simp only[xar,reduceCtorEq] at hx;rename_i w q;have⟨hb,hx'⟩:=Y2l hx;clear hx;simp only[X2,decide_eq_true_eq] at hb;have⟨hw,hpq⟩:=hb;subst hpq;have hw:ωc 1000000=ω w:=by
   cases v with
   |none=>cases hw
   |some u=>simp_all
  simp only[SRL] at H;obtain⟨a,l',rfl,k1,k2⟩:=H;have⟨g1,g2,g3⟩:=xar_sound hv hx' k2;refine⟨g1.mono (by omega),by simpa only[inK] using g2,fun hp'=> ?_⟩;have⟨vs',j1,j2⟩:=g3 hp';refine⟨a::vs',.cons (Sub.refl _) j1, ?_⟩;have:inV D i (.al p::r) ls= .vw 1000000 p::inV D (i+1) r ls:=by cases ls<;>rfl
  rw[this];simp only[SRL];refine⟨_,_,rfl, ?_,j2⟩;simp only[SR] at k1⊢
  simp_all
 | .sl e t::r,i,[],ls,al,vs,hx,H=>by simp only[xar] at hx;cases hx
 | .sl e t::r,i,x::xs,ls,al,vs,hx,H=>by
  simp only[SRL] at H;obtain⟨a,l',rfl,k1,k2⟩:=H;unfold xar at hx
  split at hx
  ·simp_all
  ·simp_all
  ·rename_i e1 t1 r1 w xs1 heq1 heq2;cases heq1;cases heq2
   split at hx
   ·rename_i e' u ys ls' al' h1 h2
    split at hx
    ·rename_i hq _;have⟨hq⟩:=hq;subst hq;have⟨hb,hx⟩:=Y2l hx;simp only[X2] at hb;have he:=Xe hb.1;subst he;simp only[X0,Prod.mk.injEq] at hx;obtain⟨rfl,rfl⟩:=hx;have⟨g1,g2,g3⟩:=xar_sound hv h2 k2;refine⟨⟨Xk _,g1⟩,.one h1 (tnOk_ok hb.2) g2,fun hp'=> ?_⟩;have⟨vs',j1,j2⟩:=g3 fun p hp=>hp' p (Xq _ hp);refine⟨a::vs',.cons (Sub.refl _) j1, ?_⟩;simp only[inV,SRL];refine⟨_,_,rfl, ?_,j2⟩;simp only[SR,HdAt] at k1⊢;have:=hp' _ X13
     grind
    ·cases hx
   ·cases hx
  ·rename_i e1 t1 r1 xs1 heq1 heq2;cases heq1;cases heq2
   split at hx
   ·rename_i ls' al' h2;simp only[X0,Prod.mk.injEq] at hx;obtain⟨rfl,rfl⟩:=hx;have⟨g1,g2,g3⟩:=xar_sound hv h2 k2;refine⟨⟨Xk _,g1⟩,.nol g2,fun hp'=> ?_⟩;have⟨vs',j1,j2⟩:=g3 fun p hp=>hp' p (Xq _ hp);refine⟨a::vs',.cons (Sub.refl _) j1, ?_⟩;simp only[inV,SRL];refine⟨_,_,rfl, ?_,j2⟩;simp only[SR,HdAt] at k1⊢;have:=hp' _ X13;simp only at this;rw[this,k1];exact⟨.inl rfl,rfl⟩
   ·cases hx
  ·simp_all
  ·cases hx
end
end Go.Abs
