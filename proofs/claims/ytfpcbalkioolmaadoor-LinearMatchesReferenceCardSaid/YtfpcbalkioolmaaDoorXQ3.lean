/- Own work. -/
import Derived.Test.YtfpcbalkioolmaaDoorXQ2
set_option linter.unusedSimpArgs false
set_option linter.unusedVariables false
namespace Go.Abs
def Fx (h h':Hp):Prop:=∀q rt,h.at q=some rt→h'.at q=some rt
section
variable {P:Program} {h h':Hp}
theorem Fx.refl(h:Hp):Fx h h:=fun _ _ e=>e
theorem Fx.trans{h2:Hp}(a:Fx h h')(b:Fx h' h2):Fx h h2:=fun q rt e=>b q rt (a q rt e)
theorem Fx.new{r:Nat}{rt:Rt}(hr:h.at r=none):Fx h ((r,rt)::h):=fun q rt' hq=>by
 simp only[Hp.at]
 grind
theorem Fx.map{α:Type}{f:Rt→α}{r:Nat}{v:α}(F:Fx h h')(H:(h.at r).map f=some v):(h'.at r).map f=some v:=by
 cases hr:h.at r with
 |none=>simp_all
 |some rt=>rw[hr] at H;rw[F r rt hr];exact H
theorem Fx.hkeep(F:Fx h h'):HKeep h h':=fun q rt hq=>⟨rt,F q rt hq,rfl,rfl,fun _ _ hc _=>hc⟩
theorem oneA_fr(F:Fx h h'){x:AV}(H:oneA h x):oneA h' x:=by
 unfold oneA at H
 split at H
 ·exact H
 ·trivial
 ·trivial
 ·trivial
 ·exact F.map H
 ·exact F.map H
 simp_all
theorem okC_fr(F:Fx h h'){x:AV}(H:okC h x):okC h' x:=by
 cases x with
 |agg cs=>exact fun x hx=>oneA_fr F (H x hx)
 |im y=>exact oneA_fr (x:=.im y) F H
 |ref a b c=>exact oneA_fr (x:=.ref a b c) F H
 |rsl a b c d=>exact oneA_fr (x:=.rsl a b c d) F H
 |fnv a b=>exact trivial
 |_=>exact(show False from H).elim
theorem fillA_h{place:Nat→Option (Nat×Nat)}:∀{qs:List (Nat×AV)} {cells:List AV},Y7a h' place cells qs=Y7a h place cells qs
 |[],_=>rfl
 |(i,v)::qs,cells=>by simp only[Y7a];cases place i<;>simp only[fillA_h (qs:=qs)]
theorem po_fr{ρ:Operand→AV}{op:Op}(F:Fx h h')(hp:po P h ρ op):po P h' ρ op∧pv P h' ρ op=pv P h ρ op:=by
 unfold po at hp
 split at hp
 all_goals first
  |exact⟨hp,rfl⟩
  |skip
 ·refine⟨⟨hp.1, ?_⟩,rfl⟩;have hp:=hp.2;unfold poField at hp⊢
  split at hp<;>first|exact hp|exact F.map hp
 ·refine⟨⟨hp.1,hp.2.1, ?_⟩,rfl⟩;have hp:=hp.2.2;unfold poIdx at hp⊢
  split at hp
  ·exact hp
  ·exact⟨hp.1,F.map hp.2.1,hp.2.2⟩
  ·split at hp
   ·exact⟨F.map hp.1,hp.2⟩
   ·exact hp
  ·exact hp
  ·exact hp
 ·rename_i t x;have hq:=hp.2;have:Y7p h' (lz P t) (st (ρ x))∧Y5u h' (lz P t) (st (ρ x))=Y5u h (lz P t) (st (ρ x)):=by
   unfold Y7p at hq;unfold Y7p Y5u
   split at hq
   ·simp_all
   ·simp_all
   ·split at hq
    ·rename_i rt hr;simp only[F _ rt hr,hr];simp_all
    simp_all
   ·split at hq
    ·rename_i rt hr;simp only[F _ rt hr,hr];simp_all
    simp_all
   simp_all
  exact⟨⟨hp.1,this.1⟩,this.2⟩
 ·refine⟨⟨hp.1,hp.2.1,hp.2.2.1, ?_⟩,rfl⟩;have hp:=hp.2.2.2;unfold Y91 at hp⊢
  split at hp
  ·exact hp
  ·exact⟨hp.1,F.map hp.2.1,hp.2.2⟩
  ·exact hp
  ·exact hp
 ·have h1:=hp.2;unfold poBuild at h1;refine⟨⟨hp.1,fun q hq=>okC_fr F (h1.1 q hq), ?_⟩, ?_⟩
  ·have:=h1.2;simp only[fillA_h (h:=h) (h':=h')];exact this
  ·simp only[pv,pvBuild,fillA_h (h:=h) (h':=h')]
 ·refine⟨⟨hp.1, ?_⟩,rfl⟩;have hp:=hp.2;unfold poLen at hp⊢
  split at hp<;>first|exact hp|exact⟨hp.1,F.map hp.2⟩
 simp_all
end
def hfO (o:Oper):Bool:=(match o.guard with
 |none=>true
 |some _=>false)&&(match o.op with
 | .move _=>true
 | .assign _=>true
 | .binOp _ _ _ _ _=>true
 | .unOp _ _ _=>true
 | .convert _ _ _=>true
 | .extract _ _=>true
 | .field _ _ _=>true
 |_=>false)
theorem po_hf{P:Program}{h h':Hp}{ρ:Operand→AV}{o:Oper}(hf:hfO o=true)(hp:po P h ρ o.op):po P h' ρ o.op∧pv P h' ρ o.op=pv P h ρ o.op:=by
 unfold hfO at hf;simp only[X2] at hf;cases hop:o.op<;>rw[hop] at hf hp<;>first
  |exact⟨hp,rfl⟩
  |simp_all
inductive XT (R:Type):Type 1 where
 |opt (o:Option R)
 |g (n:Nat) (c:XC) (t:XT R)
 |skip (n:Nat) (c:XC) (t:XT R)
 |dec (c:XC) (t:XT R)
 |cond (n:Nat) (b:Bool) (t u:XT R)
 |bind {T:Type} (o:Option T) (f:T→XT R)
 |eqv {T:Type} (a b:T) (t:XT R)
def den {R:Type}:XT R→Option R
 | .opt o=>o
 | .g _ c t=>G c.P (den t)
 | .skip _ _ t=>den t
 | .dec _ t=>den t
 | .cond _ b t u=>cond b (den t) (den u)
 | .bind o f=>o.bind fun x=>den (f x)
 | .eqv _ _ t=>den t
open Classical in
noncomputable def dnf {R:Type}:XT R→Option R
 | .opt o=>o
 | .g _ c t=>G c.P (dnf t)
 | .skip _ c t=>G c.P (dnf t)
 | .dec c t=>G c.P (dnf t)
 | .cond _ b t u=>cond b (dnf t) (dnf u)
 | .bind o f=>o.bind fun x=>dnf (f x)
 | .eqv a b t=>if a=b then dnf t else none
inductive OT:Type 1 where
 |nil
 |pr (c:XC) (t:OT)
 |two (a b:OT)
 |pe {T:Type} (a:T) (t:OT)
 |all {T:Type} (f:T→OT)
abbrev XKn:=List (Nat×XC)
def knG:XKn→Nat→XC
 |[],_=>.tr true
 |(i,c)::r,n=>bif Nat.beq i n then c else knG r n
theorem knG_ok{n:Nat}:∀{kn:XKn},(∀p∈kn,p.2.P)→(knG kn n).P
 |[],_=>rfl
 |(i,c)::r,h=>by
  simp only[knG];cases Nat.beq i n with
  |true=>simp_all
  |false=>exact knG_ok fun p hp=>h p (Xq _ hp)
def obL {R:Type}:XKn→XT R→OT
 |_,.opt _=>.nil
 |kn,.g n c t=>obL ((n,c)::kn) t
 |kn,.skip n _ t=>.pr (knG kn n) (obL kn t)
 |kn,.dec _ t=>.pr (.tr true) (obL kn t)
 |kn,.cond n b t u=>.two (obL ((n,.tr b)::kn) t) (obL ((n,.tr (!b))::kn) u)
 |kn,.bind _ f=>.all fun x=>obL kn (f x)
 |kn,.eqv a _ t=>.pe a (obL kn t)
def obR {R:Type}:XT R→OT
 | .opt _=>.nil
 | .g _ _ t=>obR t
 | .skip _ c t=>.pr c (obR t)
 | .dec c t=>.pr (.tr c.chk) (obR t)
 | .cond _ _ t u=>.two (obR t) (obR u)
 | .bind _ f=>.all fun x=>obR (f x)
 | .eqv _ b t=>.pe b (obR t)
theorem G_true{R:Type}{p:Prop}[Decidable p]{x:Option R}(h:p):G p x=x:=by unfold G;rw[if_pos h]
theorem dnf_of{R:Type}{r:R}:∀(t:XT R) (kn:XKn),obL kn t=obR t→(∀p∈kn,p.2.P)→den t=some r→dnf t=some r
 | .opt o,kn,_,_,h=>h
 | .g _ c t,kn,e,hk,h=>by
  simp only[obL,obR] at e;simp only[den,dnf] at h⊢;have⟨h1,h2⟩:=G_some h;rw[G_true h1];refine dnf_of t _ e (fun d hd=> ?_) h2
  grind
 | .skip n c t,kn,e,hk,h=>by
  simp only[obL,obR,OT.pr.injEq] at e;simp only[den,dnf] at h⊢;have h1:c.P:=by
   rw[←e.1];exact knG_ok hk
  rw[G_true h1];exact dnf_of t _ e.2 hk h
 | .dec c t,kn,e,hk,h=>by
  simp only[obL,obR,OT.pr.injEq,XC.tr.injEq] at e;simp only[den,dnf] at h⊢;have h1:c.P:=XC.chk_ok e.1.symm;rw[G_true h1];exact dnf_of t _ e.2 hk h
 | .cond _ b t u,kn,e,hk,h=>by
  simp only[obL,obR,OT.two.injEq] at e;simp only[den,dnf] at h⊢;cases b with
  |true=>exact dnf_of t _ e.1 (fun d hd=>by rcases Xb.1 hd with rfl|hd;exact rfl;grind) h
  |false=>exact dnf_of u _ e.2 (fun d hd=>by rcases Xb.1 hd with rfl|hd;exact rfl;grind) h
 | .bind o f,kn,e,hk,h=>by
  simp only[obL,obR] at e;simp only[den,dnf] at h⊢;cases o with
  |none=>cases h
  |some x=>
   simp only[X1] at h⊢;injection e with _ e;exact dnf_of (f x) _ (congrFun e x) hk h
 | .eqv a b t,kn,e,hk,h=>by
  simp only[obL,obR] at e;injection e with _ e1 e2;simp only[den,dnf] at h⊢;rw[if_pos e1];exact dnf_of t _ e2 hk h
theorem eqv_some{R T:Type}{a b:T}{t:XT R}{r:R}(h:dnf (.eqv a b t)=some r):a=b∧dnf t=some r:=by
 simp only[dnf] at h
 simp_all
abbrev HT:=List (Nat×List Nat)
def hlk:HT→Option Nat→List Nat
 |[],_=>[]
 |_,none=>[]
 |(d,l)::r,some e=>bif Nat.beq d e then l else hlk r (some e)
def skc {R:Type} (d k:Nat) (c:XC) (t:XT R):XT R:=match k with
 |0=>.g d c t
 |1=>.dec c t
 |k+2=>(match k%2,c with
  |0,c=>.skip (k/2) c t
  |_,.imp _ c=>.skip (k/2) c t
  |_,.imn _ c=>.skip (k/2) c t
  |_,c=>.g d c t)
def hg {R:Type}:Nat→List Nat→XCs→XT R→XT R
 |_,_,[],t=>t
 |d,[],c::cs,t=>.g d c (hg (d+1) [] cs t)
 |d,k::hs,c::cs,t=>skc d k c (hg (d+1) hs cs t)
def tg (dst:Option Nat):Nat:=match dst with
 |some d=>16*d
 |none=>0
theorem skc_some{R:Type}{d k:Nat}{c:XC}{t:XT R}{r:R}(h:dnf (skc d k c t)=some r):c.P∧dnf t=some r:=by
 unfold skc at h
 split at h
 ·exact G_some h
 ·exact G_some h
 ·split at h
  ·exact G_some h
  ·have⟨h1,h2⟩:=G_some h;exact⟨fun _=>h1,h2⟩
  ·have⟨h1,h2⟩:=G_some h;exact⟨fun _=>h1,h2⟩
  ·exact G_some h
theorem hg_some{R:Type}:∀{d:Nat} {hs:List Nat} {cs:XCs} {t:XT R} {r:R},dnf (hg d hs cs t)=some r→XOk cs∧dnf t=some r
 |_,_,[],t,r,h=>⟨fun c hc=>(by simp at hc),by cases ‹List Nat› <;>exact h⟩
 |d,[],c::cs,t,r,h=>by
  have⟨h1,h2⟩:=G_some h;have⟨h3,h4⟩:=hg_some (hs:=[]) h2;refine⟨fun d hd=> ?_,h4⟩;rcases Xb.1 hd with rfl|hd
  ·exact h1
  ·exact h3 d hd
 |d,k::hs,c::cs,t,r,h=>by
  have⟨h1,h2⟩:=skc_some h;have⟨h3,h4⟩:=hg_some (hs:=hs) h2;refine⟨fun d hd=> ?_,h4⟩;rcases Xb.1 hd with rfl|hd
  ·exact h1
  ·exact h3 d hd
structure XR (D:SD) (h0:Hp) (O0:Nat→Prop) (ω0:Nat→AV) (F0:Nat→Prop) (en:SEnv D) (σ:Sto D) (tn:xTn) (env:Env) (h:Hp) (ω:Nat→AV) (Rs:Nat→List Nat):Prop where
 rep:xRep D σ (tnF tn) ω Rs h
 env:EnvR h ω en env
 cnd:CndOK en
 fix:∀v,F0 v→ω v=ω0 v∧1000000≤v
 frA:∀q rt,h0.at q=some rt→¬O0 q→h.at q=some rt
 frB:∀v b,getB D σ v=some b→∀q,q∈Rs v→O0 q∨h0.at q=none
section
variable (D:SD) (P:Program)
def notC:SV D.S→Bool
 | .cnd _ _ _ _=>false
 |_=>true
structure PC where
 {T:Type}
 z:T
 call:Sto D→xTn→List (SV D.S)→Option (Option T)
 res:T→SV D.S
def PCOK (f:FuncId) (pc:PC D):Prop:=∀σ tn args x,pc.call σ tn args=some (some x)→notC D (pc.res x)=true∧∀h ω Rs vs,xRep D σ (tnF tn) ω Rs h→SRL D h ω args vs→∃bs ys r,QSpec P f ys r∧(∀h',Fx h h'→ArgL h' bs vs ys)∧((bs=[]∧pur r=true)∨scal r=true)∧SR D h ω (pc.res x) r
abbrev PCT:=FuncId→Option (PC D)
inductive LV:Type 1 where
 |v (cs:XCs) (x:SV D.S)
 |c (cs:XCs) {T:Type} (o:Option T) (z:T) (res:T→SV D.S)
def xguard (ops:Array Oper) (en:SEnv D) (o:Oper):Option (Option (Nat×Bool×Bool)):=match o.guard with
 |none=>some none
 |some (j,b)=>match (ops[j]?).bind (·.dst) with
  |some t=>(match gfl D en t b with
   |some g=>some (some (t,b,g))
   |none=>none)
  |none=>none
def gim (en:SEnv D):Option (Nat×Bool×Bool)→Nat→Bool→Bool
 |none=>fun _ _=>false
 |some (t,p,_)=>impB D en 5 t p
def xoks (im:Nat→Bool→Bool):List (SV D.S)→Option (XCs×List (SV D.S))
 |[]=>some ([],[])
 |x::xs=>match xok D im x,xoks im xs with
  |some (c,v),some (cs,vs)=>some (c++cs,v::vs)
  |_,_=>none
def svV:SV D.S→Option Value
 | .c v=>some v
 | .i k n=>some (.int k n)
 | .b x=>some (.bool x)
 | .s x=>some (.string x)
 |_=>none
def svVs:List (SV D.S)→Option (List Value)
 |[]=>some []
 |x::xs=>match svV D x,svVs xs with
  |some v,some vs=>some (v::vs)
  |_,_=>none
def xcmp (op:BinOp) (t:TypeId) (x y:SV D.S):XV D:=match x,y with
 | .agg cs,.agg ds=>(match svVs D cs,svVs D ds with
  |some us,some vs=>(match P.eqGuardType P.depth t,op,eqV P Op.maxDepth t (.agg us.toArray) (.agg vs.toArray) with
   |false,.eql,some l=>some ([],.b (xor false (l.all id)))
   |false,.neq,some l=>some ([],.b (xor true (l.all id)))
   |_,_,_=>none)
  |_,_=>none)
 |_,_=>none
structure TM where
 te:TE
 mp:Nat→Option (List (Int×List Int))
def z3B:Option Value→Bool
 |some (.agg ⟨[.int .u8 a,.int .u8 b,.int .u8 c]⟩)=>decide (a=0)&&(decide (b=0)&&decide (c=0))
 |_=>false
def xlook (mp:Nat→Option (List (Int×List Int))) (t:TypeId) (x y:SV D.S):Option (SV D.S):=match x,y,P.underlying t with
 | .k i _,.i .i64 n,some (.map kt et)=>(match mp i,ik P kt with
  |some tab,some .i64=>bif z3B (zv P et) then some (.agg [.i .u8 ((Y71 tab n).getD 0 0),.i .u8 ((Y71 tab n).getD 1 0),.i .u8 ((Y71 tab n).getD 2 0)]) else none
  |_,_=>none)
 |_,_,_=>none
def xlq (tm:TM) (en:SEnv D) (im:Nat→Bool→Bool) (σ:Sto D) (tn:xTn) (ρ:Operand→SV D.S):Op→XV D
 | .nilCheck x=>x1 D im (ρ x) fun v=>match v with
  | .ptr v l j o=>some ([],.ptr v l j o)
  | .fp t xs j o=>some ([],.fp t xs j o)
  |_=>none
 | .binOp op t x y ty=>(match xlite D P en im σ tn ρ (.binOp op t x y ty) with
  |some r=>some r
  |none=>x2 D im (ρ x) (ρ y) (xcmp D P op t))
 | .build t ⟨ps⟩=>xbuild D P im t (ps.map fun p=>(p.1,ρ p.2))
 | .buildSlice t n ⟨ps⟩=>xbsl D P tm.te im t n (ps.map fun p=>(p.1,ρ p.2))
 | .lookup t x y false=>(match xlook D P tm.mp t (ρ x) (ρ y) with
  |some sv=>some ([],sv)
  |none=>none)
 |op=>xlite D P en im σ tn ρ op
def xpure (pt:PCT D) (im:Nat→Bool→Bool) (σ:Sto D) (tn:xTn) (ρ:Operand→SV D.S):Op→Option (LV D)
 | .call ⟨.value (.func f),⟨xs⟩,_⟩=>bif Y4g P f then(match pt f,xoks D im (xs.map ρ) with
  |some pc,some (cs,vs)=>(match pc.call σ tn vs with
   |some o=>some (.c cs o pc.z pc.res)
   |none=>none)
  |_,_=>none) else none
 |_=>none
def xl (tm:TM) (pt:PCT D) (en:SEnv D) (im:Nat→Bool→Bool) (σ:Sto D) (tn:xTn) (ρ:Operand→SV D.S) (op:Op):Option (LV D):=match xlq D P tm en im σ tn ρ op with
 |some (cs,v)=>some (.v cs v)
 |none=>xpure D P pt im σ tn ρ op
def lk {R:Type} (d:Nat) (hs:List Nat) (K:SV D.S→XT R):Option (Nat×Bool×Bool)→LV D→XT R
 |none,.v cs x=>bif notC D x then hg d hs cs (K x) else .opt none
 |none,.c cs o _ res=>hg d hs cs (.bind o fun y=>K (res y))
 |some (t,p,g),.v cs x=>hg d hs (cs.map (.imp g)) (K (.cnd t p g x))
 |some (t,p,g),.c cs o z res=>hg d hs (cs.map (.imp g)) (.bind (cond g o (some z)) fun y=>K (.cnd t p g (res y)))
end
section
variable {D:SD} {P:Program} {h:Hp} {ω:Nat→AV} {σ:Sto D} {tn:xTn} {Rs:Nat→List Nat} {env:Env} {en:SEnv D} {ops:Array Oper} {h0:Hp} {O0:Nat→Prop} {ω0:Nat→AV} {F0:Nat→Prop}
theorem EnvR.keep{h':Hp}(K:HKeep h h')(H:EnvR h ω en env):EnvR h' ω en env:=fun i=>SR.keep K _ _ (H i)
theorem OStep.cnd{o:Oper}{t0:Nat}{p0 g:Bool}{av:AV}(hg:xguard D ops en o=some (some (t0,p0,g)))(H:EnvR h ω en env)(hs:g=true→HStep P o env h h av):OStep P ops o env h h (.cnd g av):=by
 intro X a w ι Q next Hh hl hn;have hw:Region.wanted o (yielded ops a.tmps)=g:=by
  unfold xguard at hg
  split at hg
  ·cases hg
  ·rename_i j b h1
   split at hg
   ·rename_i t ht;have hv:=hl t (looks_guard h1 ht);have hy:=yielded_iff (ops:=ops) (tmps:=a.tmps) (b:=b) ht;have hsr:=H t;simp only[Region.wanted,h1];have fin:∀{g':Bool},VR w h ι (Own X.B h ι) (.bool g') (a.tmps.getD t undef)→(yielded ops a.tmps j==some b)=(bif b then g' else !g'):=by
     intro g' hv;rw[Y7y] at hv
     grind
    split at hg
    ·rename_i gg hgf;simp only[X0,Prod.mk.injEq] at hg;obtain⟨_,_,rfl⟩:=hg;unfold gfl at hgf
     split at hgf
     ·rename_i g' hr;simp only[X0] at hgf;subst hgf;rw[hr] at hsr;simp only[SR] at hsr
      grind
     ·rename_i t1 p1 g1 g' hr;simp only[X0] at hgf;subst hgf;rw[hr] at hsr;simp only[SR] at hsr;have⟨b',e1,e2⟩:=hsr;rw[e1] at hv;simp only[VR] at hv;cases g1 with
      |true=>grind
      |false=>
       have:=hv.2 rfl;rw[this] at hy;have h3:yielded ops a.tmps j≠some b:=fun e2=>by have:=hy.1 e2;cases this
       simp_all
     grind
    ·cases hg
   ·cases hg
 rw[hw];cases g with
 |true=>
  rw[if_pos rfl];exact hs rfl X a w ι Q next Hh (operand_vr Hh.globOK hl) fun ι' w' v H' K' hv=>hn ι' w' v H' K' (by simp only[VR];simp_all)
 |false=>
  rw[if_neg (by simp)];exact hn ι w undef Hh (Keep.refl _ _ _ _) (by simp only[VR];simp_all)
theorem xguard_gfl{o:Oper}{t:Nat}{p g:Bool}(hg:xguard D ops en o=some (some (t,p,g))):gfl D en t p=some g:=by
 unfold xguard at hg
 grind
theorem OStep.un{o:Oper}{h':Hp}{av:AV}(hg:xguard D ops en o=some none)(hs:HStep P o env h h' av):OStep P ops o env h h' av:=by
 have:o.guard=none:=by
  unfold xguard at hg
  grind
 exact .yes (by unfold gB;rw[this]) hs
theorem xoks_sound{im:Nat→Bool→Bool}:∀{xs vs:List (SV D.S)} {cs:XCs} {aa:List AV},xoks D im xs=some (cs,vs)→XOk cs→(∀x∈xs,∀t p g y,x= .cnd t p g y→im t p=true→g=true)→SRL D h ω xs aa→(∀a∈aa,gd a)∧SRL D h ω vs (aa.map st)
 |[],vs,cs,aa,hx,_,_,H=>by
  simp only[xoks,X0,Prod.mk.injEq] at hx;obtain⟨_,rfl⟩:=hx;simp only[SRL] at H;subst H;exact⟨fun a h=>by simp at h,by rfl⟩
 |x::xs,vs,cs,aa,hx,hc,hm,H=>by
  simp only[xoks] at hx
  split at hx
  ·rename_i c v cs' vs' h1 h2;simp only[X0,Prod.mk.injEq] at hx;obtain⟨rfl,rfl⟩:=hx;simp only[SRL] at H;obtain⟨a,l',rfl,k1,k2⟩:=H;have⟨g1,g2⟩:=Y5j h1 hc.app.1 (hm x (by simp)) k1;have⟨g3,g4⟩:=xoks_sound h2 hc.app.2 (fun y hy=>hm y (by simp[hy])) k2;refine⟨fun b hb=> ?_, ?_⟩
   ·grind
   ·simp only[Xo,SRL]
    grind
  ·cases hx
theorem SRL.map{ρ:Operand→SV D.S}{ρa:Operand→AV}(hρ:∀x,SR D h ω (ρ x) (ρa x)):∀xs:List Operand,SRL D h ω (xs.map ρ) (xs.map ρa)
 |[]=>by rfl
 |x::xs=>by simp only[Xo,SRL];exact⟨_,_,rfl,hρ x,SRL.map hρ xs⟩
variable {GT:GTab D} {pt:PCT D} {tm:TM}
theorem xrdo_cnd{en:SEnv D}(hC:CndOK en){x:Operand}{t:Nat}{p g:Bool}{y:SV D.S}(hx:xrdo D GT en x= .cnd t p g y):gfl D en t p=some g:=by
 cases x with
 |tmp s=>exact hC s t p g y hx
 |const v=>
  simp only[xrdo,ofA] at hx
  split at hx<;>cases hx
 |global q=>
  simp only[xrdo] at hx
  split at hx<;>cases hx
 |func f=>simp only[xrdo] at hx;cases hx
theorem z3B_ok{v:Option Value}(h:z3B v=true):v=some (.agg #[.int .u8 0,.int .u8 0,.int .u8 0]):=by
 unfold z3B at h
 grind
theorem svVs_sound:∀{cs:List (SV D.S)} {us:List Value} {l:List AV},svVs D cs=some us→SRL D h ω cs l→l=us.map fun u=>.im (.val u)
 |[],us,l,hs,H=>by
  simp only[svVs,X0] at hs;subst hs;simp only[SRL] at H
  grind
 |x::xs,us,l,hs,H=>by
  simp only[svVs] at hs
  split at hs
  ·rename_i v vs h1 h2;cases hs;simp only[SRL] at H;obtain⟨a,l',rfl,k1,k2⟩:=H;rw[svVs_sound h2 k2,Xo];congr 1;cases x<;>simp only[svV,X0,reduceCtorEq] at h1<;>(subst h1;simp only[SR] at k1;exact k1)
  ·cases hs
theorem xlq_sound(hG:GTOk D GT)(hM:∀i tab,tm.mp i=some tab→(∀x,D.enc i x=[.mp (mapV tab)])∧(tab.all fun p=>p.2.length==3)=true)(X:XR D h0 O0 ω0 F0 en σ tn env h ω Rs){im:Nat→Bool→Bool}(hI:∀t p,im t p=true→gfl D en t p=some true){o:Oper}{cs:XCs}{v:SV D.S}(hx:xlq D P tm en im σ tn (xrdo D GT en) o.op=some (cs,v))(hc:XOk cs):∃av,(∀h',(Fx h h'∨hfO o=true)→HStep P o env h' h' av)∧SR D h ω v av:=by
 have hρ:=xrdo_sr hG X.env;have nf:∀{h':Hp},(Fx h h'∨hfO o=true)→hfO o=false→Fx h h':=fun H hn=>by
  simp_all
 have hE:∀x t p g y,xrdo D GT en x= .cnd t p g y→gfl D en t p=some g:=fun x t p g y e=>xrdo_cnd X.cnd e;have hm:∀x t p g y,xrdo D GT en x= .cnd t p g y→im t p=true→g=true:=fun x t p g y e hi=>by
  grind
 unfold xlq at hx
 split at hx
 ·rename_i x ho;have⟨g1,w,d,h1,h2,h3⟩:=x1_some hx hc (fun t p g y e hi=>by
   grind) (hρ x)
  split at h1
  ·rename_i v' l j p;simp only[X0,Prod.mk.injEq] at h1;obtain⟨_,rfl⟩:=h1;have h3':=h3;simp only[SR] at h3';have⟨hd,rr,ver,rt,k1,k2,k3,k4,k5⟩:=h3';refine⟨_,fun h' F=>Y2c (Quiet.nilCheck (o:={o with guard:=none}) (x:=x) ho (gpoU rfl ⟨g1,k5,(nf F (by unfold hfO;grind)).map (Has.mk k3 k4)⟩)), ?_⟩;rw[←k5];exact h3
  ·rename_i t xs j p;simp only[X0,Prod.mk.injEq] at h1;obtain⟨_,rfl⟩:=h1;have h3':=h3;simp only[SR] at h3';have⟨_,k5⟩:=h3';refine⟨_,fun h' F=>Y2c (Quiet.nilCheckI (o:={o with guard:=none}) (x:=x) ho (gpoU rfl ⟨g1,k5⟩)), ?_⟩;rw[←k5];exact h3
  ·cases h1
 ·rename_i op t x y ty ho
  split at hx
  ·rename_i r hr;cases hx;have⟨k1,k2⟩:=xlite_sound X.rep X.cnd hI hE (fun _=>rfl) hρ hr hc;rw[←ho] at k1 k2;exact⟨_,fun h' F=>F.elim (fun F=>Yq (po_fr F k1).1 (po_fr F k1).2) (fun F=>Yq (po_hf F k1).1 (po_hf F k1).2),k2⟩
  ·have⟨g1,g2,w,w',d,h1,h2,h3,h4⟩:=x2_some hx hc (fun t p g z e hi=>by
    grind) (hρ x) (hρ y)
   unfold xcmp at h1
   split at h1
   ·rename_i cs1 ds1
    split at h1
    ·rename_i us vs hu hv;simp only[SR] at h3 h4;have⟨l1,e1,h3⟩:=h3;have⟨l2,e2,h4⟩:=h4;rw[svVs_sound hu h3] at e1;rw[svVs_sound hv h4] at e2
     split at h1
     ·simp only[X0,Prod.mk.injEq] at h1;obtain⟨_,rfl⟩:=h1;exact⟨_,fun h' F=>Y2c (Quiet.eqAgg (o:={o with guard:=none}) us vs _ false ho rfl ‹_› ‹_› (gpoU rfl ⟨g1,e1,g2,e2⟩)),by rfl⟩
     ·simp only[X0,Prod.mk.injEq] at h1;obtain⟨_,rfl⟩:=h1;exact⟨_,fun h' F=>Y2c (Quiet.eqAgg (o:={o with guard:=none}) us vs _ true ho rfl ‹_› ‹_› (gpoU rfl ⟨g1,e1,g2,e2⟩)),by rfl⟩
     ·cases h1
    ·cases h1
   ·cases h1
 ·rename_i t ps ho;have⟨k1,k2⟩:=xbuild_sound (ps:=⟨ps⟩) hρ hx hc hm;rw[←ho] at k1 k2;exact⟨_,fun h' F=>F.elim (fun F=>Yq (po_fr F k1).1 (po_fr F k1).2) (fun F=>Yq (po_hf F k1).1 (po_hf F k1).2),k2⟩
 ·rename_i t n ps ho;have⟨av,k1,k2⟩:=xbsl_sound hρ ho hx hc hm;exact⟨av,fun h' F=>k1 h' (nf F (by unfold hfO;grind)) fun x hx=>okC_fr (nf F (by unfold hfO;grind)) hx,k2⟩
 ·rename_i t x y ho
  split at hx
  ·rename_i sv hl;simp only[X0,Prod.mk.injEq] at hx;obtain⟨_,rfl⟩:=hx;unfold xlook at hl
   split at hl
   ·rename_i i z n kt et hrx hry hu
    split at hl
    ·rename_i tab hmp hik;cases hz:z3B (zv P et) with
     |false=>grind
     |true=>
      rw[hz,cond_true] at hl;cases hl;have⟨m1,m2⟩:=hM i tab hmp;have h1:=hρ x;have h2:=hρ y;rw[hrx] at h1;rw[hry] at h2;simp only[SR,m1] at h1 h2;refine⟨_,fun h' F=>Y9z ho h1 h2 hu hik (z3B_ok hz) m2, ?_⟩;simp only[SR,SRL]
      grind
    ·cases hl
   ·cases hl
  ·cases hx
 ·have⟨k1,k2⟩:=xlite_sound X.rep X.cnd hI hE (fun _=>rfl) hρ hx hc;exact⟨_,fun h' F=>F.elim (fun F=>Yq (po_fr F k1).1 (po_fr F k1).2) (fun F=>Yq (po_hf F k1).1 (po_hf F k1).2),k2⟩
theorem condSu{α:Type _}{b:Bool}{x:Option α}{y:α}(h:(bif b then x else none)=some y):b=true∧x=some y:=by
 grind
theorem lk_sound{R:Type}(hG:GTOk D GT)(hM:∀i tab,tm.mp i=some tab→(∀x,D.enc i x=[.mp (mapV tab)])∧(tab.all fun p=>p.2.length==3)=true)(hpt:∀f pc,pt f=some pc→PCOK D P f pc)(X:XR D h0 O0 ω0 F0 en σ tn env h ω Rs){o:Oper}{gd:Option (Nat×Bool×Bool)}{d:Nat}{hs:List Nat}{lv:LV D}{K:SV D.S→XT R}{r:R}(hgd:xguard D ops en o=some gd)(hx:xl D P tm pt en (gim D en gd) σ tn (xrdo D GT en) o.op=some lv)(hk:dnf (lk D d hs K gd lv)=some r):
  ∃sv av,(∀h',(Fx h h'∨hfO o=true)→OStep P ops o env h' h' av)∧SR D h ω sv av∧(∀t p g x,sv= .cnd t p g x→gfl D en t p=some g)∧dnf (K sv)=some r:=by
 have hρ:=xrdo_sr hG X.env;have nc:∀{sv:SV D.S},notC D sv=true→∀t p g x,sv= .cnd t p g x→gfl D en t p=some g:=fun hn t p g x e=>by subst e;cases hn
 --what the condition of the operation says
 have hI:∀t p g,gd=some (t,p,g)→g=true→∀t' p',gim D en gd t' p'=true→gfl D en t' p'=some true:=fun t p g e hg t' p' hi=>by
  subst e hg;exact impB_sound X.cnd 5 t p t' p' (xguard_gfl hgd) hi
 --a value
 have hv:∀(cs:XCs) (v:SV D.S),xlq D P tm en (gim D en gd) σ tn (xrdo D GT en) o.op=some (cs,v)→(∀t p g,gd=some (t,p,g)→g=true)→XOk cs→∃av,(∀h',(Fx h h'∨hfO o=true)→HStep P o env h' h' av)∧SR D h ω v av:=fun cs v hq hg hc=>by
  refine xlq_sound hG hM X (fun t' p' hi=> ?_) hq hc;cases gd with
  |none=>cases hi
  |some q=>grind
 --a call
 have hcall:∀(f:FuncId) (xs:List Operand) (ts:Array TypeId) (pc:PC D) (cs:XCs) (vs:List (SV D.S)) (x:pc.T),o.op= .call ⟨.value (.func f),⟨xs⟩,ts⟩→Y4g P f=true→pt f=some pc→xoks D (gim D en gd) (xs.map (xrdo D GT en))=some (cs,vs)→pc.call σ tn vs=some (some x)→(∀t p g,gd=some (t,p,g)→g=true)→XOk cs→
   notC D (pc.res x)=true∧∃av,(∀h',(Fx h h'∨hfO o=true)→HStep P o env h' h' av)∧SR D h ω (pc.res x) av:=fun f xs ts pc cs vs x ho hca hp hxs hcv hg hc=>by
  have⟨g1,g2⟩:=xoks_sound hxs hc (fun y hy t p g z e hi=>by
   obtain⟨w,hw,rfl⟩:=Xp.1 hy;have k1:=xrdo_cnd X.cnd e;cases gd with
   |none=>cases hi
   |some q=>
    grind) (SRL.map hρ xs)
  have⟨n1,n2⟩:=hpt f pc hp σ tn vs x hcv;have⟨bs,ys,rr,k1,k2,k3,k4⟩:=n2 h ω Rs _ X.rep g2;refine⟨n1,rr,fun h' F=>Y2c (Quiet.call (o:={o with guard:=none}) ho hca bs ys rr (gpoU rfl ⟨fun y hy=>g1 _ (Xp.2 ⟨y,hy,rfl⟩), ?_,k1,k3⟩)),k4⟩;have F:Fx h h':=F.elim id (fun F=>by unfold hfO at F;grind);have:=k2 h' F;rw[X1o] at this;exact this
 have fin:∀(t:Nat) (p g:Bool) (v:SV D.S),gd=some (t,p,g)→(g=true→∃av,(∀h',(Fx h h'∨hfO o=true)→HStep P o env h' h' av)∧SR D h ω v av)→dnf (K (.cnd t p g v))=some r→
   ∃sv av,(∀h',(Fx h h'∨hfO o=true)→OStep P ops o env h' h' av)∧SR D h ω sv av∧(∀t p g x,sv= .cnd t p g x→gfl D en t p=some g)∧dnf (K sv)=some r:=fun t p g v e hs hkk=>by
  subst e;have hgf:=xguard_gfl hgd;have gf:∀{h':Hp},(Fx h h'∨hfO o=true)→Fx h h':=fun H=>H.elim id (fun F=>by
   unfold hfO at F;unfold xguard at hgd
   grind)
  cases g with
  |true=>
   have⟨av,k1,k2⟩:=hs rfl;exact⟨.cnd t p true v,_,fun h' F=>.cnd hgd (X.env.keep (gf F).hkeep) (fun _=>k1 h' F),by simp only[SR];simp_all,(fun t' p' g' x e=>by grind),hkk⟩
  |false=>exact⟨.cnd t p false v,.cnd false .any,fun h' F=>.cnd hgd (X.env.keep (gf F).hkeep) (fun e=>by cases e),by simp only[SR];simp_all,(fun t' p' g' x e=>by simp_all),hkk⟩
 have himp:∀(g:Bool) (cs:XCs),XOk (cs.map (.imp g))→g=true→XOk cs:=fun g cs hc e c hc'=>hc (.imp g c) (Xp.2 ⟨c,hc',rfl⟩) e;unfold xl at hx
 split at hx
 ·rename_i cs v hq;simp only[X0] at hx;subst hx;cases gd with
  |none=>
   simp only[lk] at hk;cases hn:notC D v with
   |false=>rw[hn] at hk;cases hk
   |true=>
    rw[hn,cond_true] at hk;have⟨hc,hk⟩:=hg_some hk;have⟨av,k1,k2⟩:=hv cs v hq (fun t p g e=>by cases e) hc;exact⟨v,av,fun h' F=>.un hgd (k1 h' F),k2,nc hn,hk⟩
  |some q=>
   have⟨t,p,g⟩:=q;simp only[lk] at hk;have⟨hc,hk⟩:=hg_some hk;exact fin t p g v rfl (fun e=>hv cs v hq (fun t p g' e'=>by grind) (himp g cs hc e)) hk
 ·unfold xpure at hx
  split at hx
  ·rename_i f xs ts ho;have⟨hca,hx⟩:=condSu hx
   split at hx
   ·rename_i pc cs vs hp hxs
    split at hx
    ·rename_i oo hcv;simp only[X0] at hx;subst hx;cases gd with
     |none=>
      simp only[lk] at hk;have⟨hc,hk⟩:=hg_some hk;simp only[dnf] at hk;cases oo with
      |none=>cases hk
      |some x=>
       have⟨n1,av,k1,k2⟩:=hcall f xs ts pc cs vs x ho hca hp hxs hcv (fun t p g e=>by cases e) hc;exact⟨pc.res x,av,fun h' F=>.un hgd (k1 h' F),k2,nc n1,hk⟩
     |some q=>
      have⟨t,p,g⟩:=q;simp only[lk] at hk;have⟨hc,hk⟩:=hg_some hk;simp only[dnf] at hk;cases g with
      |false=>exact fin t p false (pc.res pc.z) rfl (fun e=>by cases e) hk
      |true=>
       rw[cond_true] at hk;cases oo with
       |none=>cases hk
       |some x=>grind
    ·cases hx
   ·cases hx
  ·cases hx
end
theorem Hp.freshR(h h0:Hp):∃r,h.at r=none∧h0.at r=none:=by
 have key:∀(h:Hp),∃n,∀r,n≤r→h.at r=none:=by
  intro h
  induction h with
  |nil=>exact⟨0,fun r _=>rfl⟩
  |cons p h ih=>
   have⟨i,v⟩:=p;have⟨n,hn⟩:=ih;refine⟨n+i+1,fun r hr=> ?_⟩;simp only[Hp.at]
   grind
 have⟨n,hn⟩:=key h;have⟨m,hm⟩:=key h0;exact⟨n+m,hn _ (by omega),hm _ (by omega)⟩
section
variable {D:SD} {h h':Hp}
theorem LsR.mem{R:LRel D}{Q:Nat→Prop}(hR:∀δ l a rs,R δ l a rs→∀q∈rs,Q q):∀{ls:List (xLf D.S)} {δ:Nat→Option Pth} {cs:List AV} {rs:List Nat},LsR D R δ ls cs rs→∀q∈rs,Q q
 |[],_,_,_,H,q,hq=>by rw[H.2] at hq;cases hq
 |l::ls,δ,cs,rs,H,q,hq=>by
  obtain⟨a,cs',r,rs',rfl,rfl,h1,h2⟩:=H;rcases Xi.1 hq with hq|hq
  ·grind
  ·exact LsR.mem hR h2 q hq
theorem ElR.mem{R:LRel D}{Q:Nat→Prop}{t:Ty}(hR:∀δ l a rs,R δ l a rs→∀q∈rs,Q q):∀{xs:List (Den D.S t)} {δ:Nat→Nat→Option Pth} {cs:List AV} {rs:List Nat},ElR D R t δ xs cs rs→∀q∈rs,Q q
 |[],_,_,_,H,q,hq=>by rw[H.2] at hq;cases hq
 |x::xs,δ,cs,rs,H,q,hq=>by
  obtain⟨c,cs',r,rs',rfl,rfl,h1,h2⟩:=H;rcases Xi.1 hq with hq|hq
  ·exact h1.mem hR q hq
  ·exact ElR.mem hR h2 q hq
theorem LfR.mem:∀(n:Nat) {δ:Option Pth} {l:xLf D.S} {a:AV} {rs:List Nat},LfR D h n δ l a rs→∀q∈rs,∃rt,h.at q=some rt
 |0,_,_,_,_,H,q,hq=>by rw[H.2.2.2] at hq;cases hq
 |n+1,δ,l,a,rs,H,q,hq=>by
  rcases H with H|H|⟨_,e,t,xs,_,h2⟩
  ·simp_all
  ·simp_all
  ·rcases h2 with h2|⟨r,rt,rs',_,a2,_,⟨_,_,ds,post,_,a4⟩,rfl⟩
   ·simp_all
   ·rcases Xb.1 hq with rfl|hq
    ·simp_all
    ·exact a4.mem (fun δ l a rs H=>LfR.mem n H) q hq
theorem BkR.mem{δ:Option Pth}{b:Bv D}{a:AV}{rs:List Nat}(H:BkR D h δ b a rs):∀q∈rs,∃rt,h.at q=some rt:=by
 intro q hq;unfold BkR at H
 split at H
 ·obtain⟨_,r,rt,rs',_,a2,⟨_,_,ds,post,_,a4⟩,rfl⟩:=H;rcases Xb.1 hq with rfl|hq
  ·simp_all
  ·exact a4.mem (fun δ l a rs H=>LfR.mem 9 H) q hq
 ·rcases H with h2|⟨r,rt,rs',_,a2,_,⟨_,_,ds,post,_,a4⟩,rfl⟩
  ·simp_all
  ·rcases Xb.1 hq with rfl|hq
   ·simp_all
   ·exact a4.mem (fun δ l a rs H=>LfR.mem 9 H) q hq
end
section
variable (D:SD)
mutual
def mnS (v:Nat):SV D.S→Bool
 | .ptr w _ _ _=>Nat.beq w v
 | .vw w _=>Nat.beq w v
 | .vp w _ _=>Nat.beq w v
 | .agg cs=>mnL v cs
 | .tup cs=>mnL v cs
 | .fn _ cs=>mnL v cs
 | .cnd _ _ _ x=>mnS v x
 |_=>false
def mnL (v:Nat):List (SV D.S)→Bool
 |[]=>false
 |x::xs=>mnS v x||mnL v xs
end
def mnE (v:Nat):SEnv D→Bool
 |[]=>false
 |(_,x)::r=>mnS D v x||mnE v r
def updN {α:Type} (f:Nat→α) (v:Nat) (x:α):Nat→α:=fun w=>if w=v then x else f w
end
section
variable {D:SD} {P:Program} {h h':Hp} {ω:Nat→AV} {σ:Sto D} {tn:xTn} {Rs:Nat→List Nat} {env:Env} {en:SEnv D} {h0:Hp} {O0:Nat→Prop} {ω0:Nat→AV} {F0:Nat→Prop}
theorem Y13{α:Type}(f:Nat→α)(v:Nat)(x:α):updN f v x v=x:=by simp[updN]
theorem Y2e{α:Type}{f:Nat→α}{v w:Nat}{x:α}(e:w≠v):updN f v x w=f w:=by simp[updN,e]
mutual
theorem SR.ext{ω':Nat→AV}:∀{x:SV D.S} {a:AV},(∀w,mnS D w x=true→ω' w=ω w)→SR D h ω x a→SR D h ω' x a
 | .any,_,_,_=>by simp only[SR]
 | .c _,_,_,H=>by simpa only[SR] using H
 | .i _ _,_,_,H=>by simpa only[SR] using H
 | .b _,_,_,H=>by simpa only[SR] using H
 | .s _,_,_,H=>by simpa only[SR] using H
 | .k _ _,_,_,H=>by simpa only[SR] using H
 | .d _ _,_,_,H=>by simpa only[SR] using H
 | .fp _ _ _ _,_,_,H=>by simpa only[SR] using H
 | .agg cs,a,hm,H=>by
  simp only[SR] at H⊢;have⟨l,e,H⟩:=H;exact⟨l,e,SRL.ext (fun w hw=>hm w (by simpa only[mnS] using hw)) H⟩
 | .tup cs,a,hm,H=>by
  simp only[SR] at H⊢;have⟨l,e,H⟩:=H;exact⟨l,e,SRL.ext (fun w hw=>hm w (by simpa only[mnS] using hw)) H⟩
 | .ptr w l j o,a,hm,H=>by
  simp only[SR] at H⊢;rw[hm w (by simp[mnS])];exact H
 | .vw w l,a,hm,H=>by
  simp only[SR] at H⊢;rw[hm w (by simp[mnS])];exact H
 | .vp w l n,a,hm,H=>by
  simp only[SR] at H⊢;rw[hm w (by simp[mnS])];exact H
 | .cnd _ _ g x,a,hm,H=>by
  simp only[SR] at H⊢;have⟨b,e,H⟩:=H;exact⟨b,e,fun hg=>SR.ext (fun w hw=>hm w (by simpa only[mnS] using hw)) (H hg)⟩
 | .fn f cs,a,hm,H=>by
  simp only[SR] at H⊢;have⟨l,e,H⟩:=H;exact⟨l,e,SRL.ext (fun w hw=>hm w (by simpa only[mnS] using hw)) H⟩
theorem SRL.ext{ω':Nat→AV}:∀{xs:List (SV D.S)} {l:List AV},(∀w,mnL D w xs=true→ω' w=ω w)→SRL D h ω xs l→SRL D h ω' xs l
 |[],_,_,H=>by simpa only[SRL] using H
 |x::xs,l,hm,H=>by
  simp only[SRL] at H⊢;have⟨a,l',e,h1,h2⟩:=H;exact⟨a,l',e,SR.ext (fun w hw=>hm w (by simp[mnL,hw])) h1,SRL.ext (fun w hw=>hm w (by simp[mnL,hw])) h2⟩
end
theorem SR.upd{v:Nat}{a0:AV}{x:SV D.S}{a:AV}(hm:mnS D v x=false)(H:SR D h ω x a):SR D h (updN ω v a0) x a:=SR.ext (fun w hw=>Y2e fun e=>by simp_all) H
theorem EnvR.upd{v:Nat}{a0:AV}:∀{en:SEnv D},mnE D v en=false→EnvR h ω en env→EnvR h (updN ω v a0) en env:=fun {en} hm H i=>by
 refine SR.upd ?_ (H i);have key:∀(en:SEnv D),mnE D v en=false→mnS D v (xrd D en i)=false:=fun en=>by
  induction en with
  |nil=>intro _;rfl
  |cons p en ih=>
   have⟨j,x⟩:=p;intro hm;simp only[mnE,Bool.or_eq_false_iff] at hm;simp only[xrd]
   grind
 simp_all
theorem XR.new(X:XR D h0 O0 ω0 F0 en σ tn env h ω Rs){v r:Nat}{rt:Rt}{b:Bv D}{a:AV}(hv:getB D σ v=none)(hlt:Nat.blt v 1000000=true)(ht:tnOk tn v=true)(hm:mnE D v en=false)(hr:h.at r=none)(hr0:h0.at r=none)(hb:BkR D ((r,rt)::h) none b a [r]):
  XR D h0 O0 ω0 F0 en ((v,b)::σ) tn env ((r,rt)::h) (updN ω v a) (updN Rs v [r]):=by
 have hne:∀q,(∃rt,h.at q=some rt)→q≠r:=fun q hq e=>by simp_all
 have hat:∀q,q≠r→Hp.at ((r,rt)::h) q=h.at q:=fun q hq=>by simp only[Hp.at];rw[if_neg fun e=>hq e.symm]
 have hgs:∀w,w≠v→getB D ((v,b)::σ) w=getB D σ w:=fun w hw=>by
  simp only[getB];rcases beqS v w with⟨e,_⟩|⟨_,hb⟩
  ·omega
  simp_all
 have hg0:getB D ((v,b)::σ) v=some b:=by
  simp only[getB]
  simp_all
 have hmem:∀w c,getB D σ w=some c→∀q∈Rs w,q≠r:=fun w c hw q hq=>hne q ((X.rep.blk w c hw).mem q hq);refine⟨⟨fun w c hw=> ?_,fun w c hw=> ?_,fun w c w' c' hw hw' hn x hx=> ?_⟩,(X.env.keep (HKeep.new hr)).upd hm,X.cnd,fun w hw=> ?_,fun q rt' hq hO=> ?_,fun w c hw q hq=> ?_⟩
 ·by_cases e:w=v
  ·subst e;rw[hg0] at hw;cases hw;rw[tnOk_ok ht,Y13,Y13];exact hb
  ·rw[hgs w e] at hw;rw[Y2e e,Y2e e];exact(X.rep.blk w c hw).frame fun q hq=>hat q (hmem w c hw q hq)
 ·by_cases e:w=v
  ·subst e;rw[Y13];simp
  ·rw[hgs w e] at hw;rw[Y2e e];exact X.rep.nd w c hw
 ·by_cases e:w=v
  ·subst e;have e':w'≠w:=fun e=>hn e.symm;rw[hgs w' e'] at hw';rw[Y13,X8] at hx;rw[Y2e e',hx]
   grind
  ·rw[hgs w e] at hw;rw[Y2e e] at hx
   by_cases e':w'=v
   ·subst e';rw[Y13,X8]
    grind
   ·rw[hgs w' e'] at hw';rw[Y2e e'];exact X.rep.dj w c w' c' hw hw' hn x hx
 ·have⟨h1,h2⟩:=X.fix w hw;have e:w≠v:=fun e=>by
   subst e;have:w+1≤1000000:=X9 hlt;omega
  exact⟨by rw[Y2e e];exact h1,h2⟩
 ·have:=X.frA q rt' hq hO
  simp_all
 ·by_cases e:w=v
  ·subst e;rw[Y13,X8] at hq
   simp_all
  ·rw[hgs w e] at hw;rw[Y2e e] at hq;exact X.frB w c hw q hq
theorem LsR.ofPlain{n:Nat}:∀{ls:List (xLf D.S)},(∀l∈ls,ownB l.1=false)→LsR D (LfR D h n) (fun _=>none) ls (ls.map (lfA D)) []
 |[],_=>⟨rfl,rfl⟩
 |l::ls,hp=>by
  refine⟨lfA D l,ls.map (lfA D),[],[],rfl,rfl, ?_,LsR.ofPlain fun l hl=>hp l (by simp[hl])⟩;have:=hp l (by simp);cases n with
  |zero=>exact⟨rfl,this,rfl,rfl⟩
  |succ n=>exact .inl ⟨rfl,this,rfl,rfl⟩
end
inductive SubL:List AV→List AV→Prop
 |nil:SubL [] []
 |cons {x y:AV} {xs ys:List AV}:Sub x y→SubL xs ys→SubL (x::xs) (y::ys)
theorem SubL.len{xs ys:List AV}(H:SubL xs ys):xs.length=ys.length:=by
 induction H with
 |nil=>rfl
 |cons _ _ ih=>simp[ih]
theorem SubL.vr{w:World}{h:Hp}{ι:Nat→Bk}{A:Nat→Prop}{xs ys:List AV}(H:SubL xs ys):∀{l:List Value},VRL w h ι A xs l→VRL w h ι A ys l:=by
 induction H with
 |nil=>simp_all
 |cons hs _ ih=>
  intro l hl;simp only[VRL] at hl⊢;obtain⟨v,l',rfl,h1,h2⟩:=hl;exact⟨v,l',rfl,hs _ _ _ _ _ h1,ih h2⟩
section
variable {P:Program} {h:Hp} {env:Env}
theorem Y9v{o:Oper}{r:Nat}{rt:Rt}{cs:List AV}{av:AV}(hs:HStep P o env h ((r,rt)::h) av)(hc:SubL rt.cs cs):HStep P o env h ((r,{rt with cs:=cs})::h) av:=by
 intro X a w ι Q next H hop hn;refine hs X a w ι Q next H hop fun ι' w' v H' K' hv=> ?_;have hat:∀q,q≠r→Hp.at ((r,{rt with cs:=cs})::h) q=Hp.at ((r,rt)::h) q:=fun q hq=>by
  simp only[Hp.at];rw[if_neg fun e=>hq e.symm,if_neg fun e=>hq e.symm]
 have s1:Hp.at ((r,rt)::h) r=some rt:=by simp[Hp.at]
 have s2:Hp.at ((r,{rt with cs:=cs})::h) r=some {rt with cs:=cs}:=by simp[Hp.at]
 --each root of the one is one of the other
 have to2:∀q rt0,Hp.at ((r,rt)::h) q=some rt0→∃rt1,Hp.at ((r,{rt with cs:=cs})::h) q=some rt1∧rt1.ver=rt0.ver∧rt1.live=rt0.live∧rt1.k=rt0.k:=fun q rt0 hq=>by
  grind
 have to1:∀q rt1,Hp.at ((r,{rt with cs:=cs})::h) q=some rt1→∃rt0,Hp.at ((r,rt)::h) q=some rt0∧rt0.live=rt1.live:=fun q rt1 hq=>by
  grind
 have hown:∀β,Own X.B ((r,{rt with cs:=cs})::h) ι' β→Own X.B ((r,rt)::h) ι' β:=fun β ho=>by
  rcases ho with ho|⟨q,rt1,hq,hl,hb⟩
  ·exact .inl ho
  ·have⟨rt0,h1,h2⟩:=to1 q rt1 hq;exact .inr ⟨q,rt0,h1,h2▸hl,hb⟩
 have K0:Keep w' ((r,rt)::h) ι' (Own X.B ((r,rt)::h) ι') w' ((r,{rt with cs:=cs})::h) ι' (Own X.B ((r,{rt with cs:=cs})::h) ι'):=
  ⟨fun β _ hA=>⟨rfl,fun ho=>hA (hown β ho)⟩,fun q rt0 hq=>by
   grind⟩
 refine hn ι' w' v ?_ (K'.trans K0) (VR.keep K0 _ _ hv);refine⟨fun q rt1 hq hl=> ?_,fun q q' rt1 rt1' g hq hq' hl hl' hb hb'=> ?_,fun q rt1 g hq hl hb=> ?_,H'.os,H'.tape,H'.output,H'.size,H'.frame,H'.old,H'.glob,fun q b k hp=> ?_⟩
 ·by_cases e:q=r
  ·subst e;rw[s2] at hq;cases hq;rcases H'.roots q rt s1 hl with⟨a1,a2,a3⟩|⟨g,arr,a1,a2,a3,a4,a5,a6⟩
   ·refine .inl ⟨a1, ?_,a3⟩;have:=hc.len
    grind
   ·refine .inr ⟨g,arr,a1,a2,a3,a4, ?_, ?_⟩
    ·have:=hc.vr (VRL.keep K0 _ _ a5);rw[hc.len] at this;exact this
    ·rw[←hc.len];exact a6
  ·rw[hat q e] at hq;rcases H'.roots q rt1 hq hl with h1|⟨g,arr,a1,a2,a3,a4,a5,a6⟩
   ·exact .inl h1
   ·exact .inr ⟨g,arr,a1,a2,a3,a4,VRL.keep K0 _ _ a5,a6⟩
 ·have⟨rt0,h1,h2⟩:=to1 q rt1 hq;have⟨rt0',h1',h2'⟩:=to1 q' rt1' hq';exact H'.inj q q' rt0 rt0' g h1 h1' (h2▸hl) (h2'▸hl') hb hb'
 ·have⟨rt0,h1,h2⟩:=to1 q rt1 hq;exact H'.place q rt0 g h1 (h2▸hl) hb
 ·have⟨h1,rt0,h2,h3⟩:=H'.pin q b k hp
  grind
end
section
variable (D:SD) (P:Program)
def intB (a b:Int):Bool:=decide (a=b)
theorem intB_ok{a b:Int}(h:intB a b=true):a=b:=of_decide_eq_true h
def bolB (a b:Bool):Bool:=a==b
def strB (a b:ByteArray):Bool:=Nat.beq a.size 0&&Nat.beq b.size 0
def zo1:xLf D.S→Value→Bool
 |⟨.int k,n⟩,.int k' m=>decide (k=k')&&intB n m
 |⟨.bool,p⟩,.bool q=>bolB p q
 |⟨.str,s⟩,.string u=>strB s u
 |⟨.fz _,xs⟩,.slice none 0 0=>List.isEmpty xs
 |⟨.sl _ _,xs⟩,.slice none 0 0=>List.isEmpty xs
 |_,_=>false
def zoL:List (xLf D.S)→List Value→Bool
 |[],[]=>true
 |l::ls,v::vs=>zo1 D l v&&zoL ls vs
 |_,_=>false
def sv1 (z:xLf D.S):SV D.S→Option (xLf D.S)
 | .c (.slice none 0 0)=>(match z.1 with
  | .fz t=>some ⟨.fz t,([]:List (Den D.S t))⟩
  | .sl e t=>some ⟨.sl e t,([]:List (Den D.S t))⟩
  |_=>none)
 |x=>(match svl D [x] with
  |some [l]=>some l
  |_=>none)
def svT:List (xLf D.S)→List (SV D.S)→Option (List (xLf D.S))
 |[],[]=>some []
 |z::zs,x::xs=>(match sv1 D z x,svT zs xs with
  |some l,some ls=>some (l::ls)
  |_,_=>none)
 |_,_=>none
def xnew (te:TE) (en:SEnv D) (σ:Sto D) (tn:xTn) (dst:Option Nat) (e:TypeId) (d:(t:Ty)→Option (Den D.S t)):Option (Sto D×SV D.S):=match dst,te e with
 |some v,some t=>(match getB D σ v,d t with
  |none,some x=>bif Nat.blt v 1000000&&(tnOk tn v&& !(mnE D v en)) then some ((v,⟨true,e,t,[x]⟩)::σ,.ptr v [] 0 0) else none
  |_,_=>none)
 |_,_=>none
def xbox (te:TE) (en:SEnv D) (σ:Sto D) (tn:xTn) (dst:Option Nat) (e:TypeId) (x:SV D.S):Option (Sto D×SV D.S):=match x with
 | .agg cs=>(match te e with
  |some t0=>(match svT D (lvs D t0 (dft D t0)) cs with
   |some ls=>xnew D te en σ tn dst e fun t=>unl D t ls
   |none=>none)
  |none=>none)
 |x=>(match svl D [x] with
  |some ls=>xnew D te en σ tn dst e fun t=>unl D t ls
  |none=>none)
def xalloc (te:TE) (en:SEnv D) (σ:Sto D) (tn:xTn) (dst:Option Nat) (e:TypeId):Option (Sto D×SV D.S):=xnew D te en σ tn dst e fun t=>match zc P e with
 |some z=>bif zoL D (lvs D t (dft D t)) z&&z.all (·.oneCell') then some (dft D t) else none
 |none=>none
end
section
variable {D:SD} {P:Program} {h:Hp} {ω:Nat→AV} {σ:Sto D} {tn:xTn} {Rs:Nat→List Nat} {env:Env} {en:SEnv D} {h0:Hp} {O0:Nat→Prop} {ω0:Nat→AV} {F0:Nat→Prop}
theorem xnew_some{te:TE}{dst:Option Nat}{e:TypeId}{d:(t:Ty)→Option (Den D.S t)}{σ':Sto D}{sv:SV D.S}(hx:xnew D te en σ tn dst e d=some (σ',sv)):
  ∃v t x,d t=some x∧getB D σ v=none∧Nat.blt v 1000000=true∧tnOk tn v=true∧mnE D v en=false∧σ'=(v,⟨true,e,t,[x]⟩)::σ∧sv= .ptr v [] 0 0:=by
 unfold xnew at hx
 grind
theorem XR.box(X:XR D h0 O0 ω0 F0 en σ tn env h ω Rs){v r:Nat}{e:TypeId}{t:Ty}{x:Den D.S t}{cs:List AV}(hv:getB D σ v=none)(hlt:Nat.blt v 1000000=true)(ht:tnOk tn v=true)(hm:mnE D v en=false)(hr:h.at r=none)(hr0:h0.at r=none)
  (hL:LsR D (LfR D ((r,⟨0,true,e,cs.length,cs⟩)::h) 9) (fun _=>none) (lvs D t x) cs []):
  XR D h0 O0 ω0 F0 en ((v,⟨true,e,t,[x]⟩)::σ) tn env ((r,⟨0,true,e,cs.length,cs⟩)::h) (updN ω v (.ref r 0 0)) (updN Rs v [r])∧SR D ((r,⟨0,true,e,cs.length,cs⟩)::h) (updN ω v (.ref r 0 0)) (.ptr v [] 0 0) (.ref r 0 0):=by
 have hself:Hp.at ((r,⟨0,true,e,cs.length,cs⟩)::h) r=some ⟨0,true,e,cs.length,cs⟩:=by simp[Hp.at]
 refine⟨X.new hv hlt ht hm hr hr0 ?_, ?_⟩
 ·refine⟨rfl,r,_,[],rfl,hself,⟨rfl, ?_,cs,[],by simp,cs,[],[],[],by simp,rfl,hL,rfl,rfl⟩,rfl⟩;show cs.length=nl D t;rw[hL.len,lvs_len]
 ·simp only[SR,HdAt];exact⟨.ref r 0 0,r,0,_,(Y13 ω v _).symm,.inr ⟨rfl,rfl⟩,hself,rfl,by simp⟩
theorem sv1_soft{z l:xLf D.S}{x:SV D.S}{a:AV}(hs:sv1 D z x=some l)(ha:SR D h ω x a):oneA h a∧∃b,Sub a b∧∀h',LfR D h' 9 none l b []:=by
 have ex:∀{l:xLf D.S},svl D [x]=some [l]→oneA h a∧∃b,Sub a b∧∀h',LfR D h' 9 none l b []:=fun {l} hl=>by
  have e:=Y7n hl (show SRL D h ω [x] [a] from by simp only[SRL];simp_all);simp only[Xo,X0s,List.cons.injEq,and_true] at e;have h1:=(plain_one (D:=D) (h:=h) (svl_pl hl l (by simp))).1;rw[←e] at h1;have h2:oneA h a:=by
   have⟨t,y⟩:=l;rw[e] at h1⊢;exact h1
  exact⟨h2,a,Sub.refl _,fun h'=>.inl ⟨rfl,svl_plain hl l (by simp),e,rfl⟩⟩
 unfold sv1 at hs
 split at hs
 ·simp only[SR] at ha;subst ha
  split at hs
  ·cases hs;exact⟨rfl,.im (.sl [] 0),Sub.nil,fun h'=>.inl ⟨rfl,rfl,rfl,rfl⟩⟩
  ·rename_i e t _;cases hs;exact⟨rfl,_,Sub.refl _,fun h'=>.inr (.inr ⟨by simp,e,t,[],rfl,.inl ⟨rfl,rfl,rfl⟩⟩)⟩
  ·cases hs
 grind
theorem svT_soft:∀{zs ls:List (xLf D.S)} {xs:List (SV D.S)} {l:List AV},svT D zs xs=some ls→SRL D h ω xs l→(∀x∈l,oneA h x)∧∃cs,SubL l cs∧∀h',LsR D (LfR D h' 9) (fun _=>none) ls cs []
 |[],ls,[],l,hs,H=>by
  simp only[svT,X0] at hs;simp only[SRL] at H;subst hs H;exact⟨(fun x hx=>by cases hx),[],.nil,fun h'=>⟨rfl,rfl⟩⟩
 |[],_,_::_,_,hs,_=>by cases hs
 |_::_,_,[],_,hs,_=>by cases hs
 |z::zs,ls,x::xs,l,hs,H=>by
  simp only[svT] at hs
  split at hs
  ·rename_i l1 ls' h1 h2;cases hs;simp only[SRL] at H;obtain⟨a,l',rfl,k1,k2⟩:=H;have⟨g1,b,g2,g3⟩:=sv1_soft h1 k1;have⟨g4,cs,g5,g6⟩:=svT_soft h2 k2;exact⟨fun y hy=>by grind,b::cs,.cons g2 g5,fun h'=>⟨b,cs,[],[],rfl,rfl,g3 h',g6 h'⟩⟩
  ·cases hs
theorem xbox_sound(X:XR D h0 O0 ω0 F0 en σ tn env h ω Rs){te:TE}{o:Oper}{e:TypeId}{y:Operand}{x:SV D.S}{σ':Sto D}{sv:SV D.S}(ho:o.op= .box e y)(hx:xbox D te en σ tn o.dst e x=some (σ',sv))(hy:SR D h ω x (rdo env y)):
  ∃h' av,HStep P o env h h' av∧Fx h h'∧∃ω' Rs',XR D h0 O0 ω0 F0 en σ' tn env h' ω' Rs'∧SR D h' ω' sv av∧notC D sv=true:=by
 have key:∃(ls:List (xLf D.S)) (cs:List AV),SubL (Y1r (rdo env y)) cs∧(∀h',LsR D (LfR D h' 9) (fun _=>none) ls cs [])∧okC h (rdo env y)∧xnew D te en σ tn o.dst e (fun t=>unl D t ls)=some (σ',sv):=by
  unfold xbox at hx
  split at hx
  ·split at hx
   ·rename_i cs _ t0 _
    split at hx
    ·rename_i ls hs;simp only[SR] at hy;have⟨l,e1,hl⟩:=hy;have⟨k1,c2,k2,k3⟩:=svT_soft hs hl;exact⟨ls,c2,by rw[e1];exact k2,k3,by rw[e1];exact k1,hx⟩
    ·cases hx
   ·cases hx
  ·split at hx
   ·rename_i _ ls hs;have e:=Y7n hs (show SRL D h ω [x] [rdo env y] from by simp only[SRL];simp_all);have hp:=svl_plain hs;have h1:oneA h (rdo env y):=by
     have h2:∀z∈ls.map (lfA D),oneA h z:=fun z hz=>by
      obtain⟨lf,hl,rfl⟩:=Xp.1 hz;exact(plain_one (D:=D) (h:=h) (svl_pl hs lf hl)).1
     grind
    refine⟨ls,[rdo env y], ?_,fun h'=> ?_,Y6b h1,hx⟩
    ·rw[Y5o h1];exact .cons (Sub.refl _) .nil
    ·rw[e];exact LsR.ofPlain hp
   ·cases hx
 have⟨ls,cs,hc,hp,hok,hx⟩:=key;obtain⟨v,t,d,h1,h2,h5,h3,h4,rfl,rfl⟩:=xnew_some hx;have⟨r,hr,hr0⟩:=Hp.freshR h h0;have hs:HStep P o env h ((r,⟨0,true,e,cs.length,cs⟩)::h) (.ref r 0 0):=by
  rw[←hc.len];exact Y9v (Y30 (RStep.box (P:=P) (env:=env) ho r hr hok)) hc
 have hl:=Y7m _ _ _ h1;have⟨k1,k2⟩:=X.box (v:=v) (e:=e) (x:=d) (cs:=cs) h2 h5 h3 h4 hr hr0 (by simp_all);exact⟨_,_,hs,Fx.new hr,_,_,k1,k2,rfl⟩
theorem zo1_soft{l:xLf D.S}{v:Value}(hz:zo1 D l v=true){h:Hp}:∃a,Sub (.im (.val v)) a∧LfR D h 9 none l a []:=by
 unfold zo1 at hz
 split at hz
 ·simp only[X2,decide_eq_true_eq] at hz;obtain⟨rfl,hz⟩:=hz;have:=intB_ok hz;subst this;exact⟨_,Sub.refl _,.inl ⟨rfl,rfl,rfl,rfl⟩⟩
 ·have:=eq_of_beq hz;subst this;exact⟨_,Sub.refl _,.inl ⟨rfl,rfl,rfl,rfl⟩⟩
 ·rename_i s u;unfold strB at hz;simp only[X2] at hz;have h1:=Xe hz.1;have h2:=Xe hz.2;have h0:∀b:ByteArray,b.size=0→b=⟨#[]⟩:=fun b hb=>by
   have⟨d⟩:=b;have:d= #[]:=Array.eq_empty_of_size_eq_zero hb;rw[this]
  rw[h0 u h2];exact⟨_,Sub.refl _,.inl ⟨rfl,rfl,by show _=lfA D ⟨.str,s⟩;rw[h0 s h1];rfl,rfl⟩⟩
 ·rename_i t xs;have:xs=[]:=X14.1 hz;subst this;exact⟨.im (.sl [] 0),Sub.nil,.inl ⟨rfl,rfl,rfl,rfl⟩⟩
 ·rename_i e t xs;have:xs=[]:=X14.1 hz;subst this;exact⟨_,Sub.refl _,.inr (.inr ⟨by simp,e,t,[],rfl,.inl ⟨rfl,rfl,rfl⟩⟩)⟩
 ·cases hz
theorem zoL_soft{h:Hp}:∀{ls:List (xLf D.S)} {z:List Value},zoL D ls z=true→∃cs,SubL (z.map fun v=>.im (.val v)) cs∧LsR D (LfR D h 9) (fun _=>none) ls cs []
 |[],[],_=>⟨[],.nil,rfl,rfl⟩
 |[],_::_,hz=>by cases hz
 |_::_,[],hz=>by cases hz
 |l::ls,v::vs,hz=>by
  simp only[zoL,X2] at hz;have⟨a,h1,h2⟩:=zo1_soft (h:=h) hz.1;have⟨cs,h3,h4⟩:=zoL_soft (h:=h) hz.2;exact⟨a::cs,.cons h1 h3,a,cs,[],[],rfl,rfl,h2,h4⟩
theorem xalloc_sound(X:XR D h0 O0 ω0 F0 en σ tn env h ω Rs){te:TE}{o:Oper}{e:TypeId}{σ':Sto D}{sv:SV D.S}(ho:o.op= .alloc e)(hx:xalloc D P te en σ tn o.dst e=some (σ',sv)):
  ∃h' av,HStep P o env h h' av∧Fx h h'∧∃ω' Rs',XR D h0 O0 ω0 F0 en σ' tn env h' ω' Rs'∧SR D h' ω' sv av∧notC D sv=true:=by
 obtain⟨v,t,d,h1,h2,h5,h3,h4,rfl,rfl⟩:=xnew_some hx
 split at h1
 ·rename_i z hz;have⟨hb,h1⟩:=Y2l h1;simp only[X2] at hb;simp only[X0] at h1;subst h1;have⟨r,hr,hr0⟩:=Hp.freshR h h0;have hs:=Y30 (RStep.alloc (P:=P) (env:=env) ho r hr hz hb.2);have⟨cs2,k3,k4⟩:∃cs2,SubL (z.map fun v=>AV.im (.val v)) cs2∧LsR D (LfR D ((r,⟨0,true,e,cs2.length,cs2⟩)::h) 9) (fun _=>none) (lvs D t (dft D t)) cs2 []:=by
   have⟨cs,k1,k2⟩:=zoL_soft (h:=h) hb.1;refine⟨cs,k1,k2.mono fun q l a rs hr H=>LfR.frame 9 H fun q' hq'=> ?_⟩
   simp_all
  have hs':=Y9v hs k3;have hl2:cs2.length=z.length:=by rw[←k3.len];simp
  have⟨j1,j2⟩:=X.box (v:=v) (e:=e) (x:=dft D t) (cs:=cs2) h2 h5 h3 h4 hr hr0 k4;rw[hl2] at j1 j2;exact⟨_,_,hs',Fx.new hr,_,_,j1,j2,rfl⟩
 ·cases h1
end
def noI:Nat→Bool→Bool:=fun _ _=>false
section
variable (D:SD) (P:Program)
def stN (v:Nat) (l:Pth) (j:Nat):Sto D→Nat→List (xLf D.S)→Option (Sto D)
 |σ,_,[]=>some σ
 |σ,o,y::ys=>match getB D σ v with
  |some b=>(match navL D b.t b.xs l with
   |some ⟨u,zs⟩=>(match (lvs D u (gt D u zs j))[o]? with
    |some x0=>bif ownB x0.1 then none else(match updL D b.t b.xs l (stF D j o y) with
     |some ws=>stN v l j (xsetB D σ v {b with xs:=ws}) (o+1) ys
     |none=>none)
    |none=>none)
   |none=>none)
  |none=>none
def svY:SV D.S→Option (List (xLf D.S))
 | .agg cs=>svl D cs
 |x=>svl D [x]
def xst (σ:Sto D) (tn:xTn) (t:TypeId) (x y:SV D.S):Option (XCs×Sto D):=match xok D noI x,xok D noI y with
 |some (c,.ptr v l j o),some (c',y)=>bif tnOk tn v then(match svY D y with
  |some ls=>bif szt P t==some ls.length&& !(ls.isEmpty) then(match stN D v l j σ o ls with
   |some σ'=>some (c++c',σ')
   |none=>none) else none
  |none=>none) else none
 |_,_=>none
end
section
variable {D:SD} {P:Program} {h:Hp} {ω:Nat→AV} {σ:Sto D} {tn:xTn} {Rs:Nat→List Nat} {env:Env} {en:SEnv D} {h0:Hp} {O0:Nat→Prop} {ω0:Nat→AV} {F0:Nat→Prop}
theorem putA_cons{α:Type}{cs bs:List α}{off:Nat}{a:α}(h:off<cs.length):putA (cs.set off a) (off+1) bs=putA cs off (a::bs):=by
 unfold putA;rw[X1w,if_pos h];have hl:(cs.take off).length=off:=by grind
 have e1:(cs.take off++a::cs.drop (off+1)).take (off+1)=cs.take off++[a]:=by
  grind
 have e2:(cs.take off++a::cs.drop (off+1)).drop (off+1+bs.length)=cs.drop (off+(a::bs).length):=by
  rw[List.drop_append,hl,List.drop_eq_nil_of_le (by omega),Xt,show off+1+bs.length-off=bs.length+1 by omega,X0z,X1u,X7]
  grind
 simp_all
theorem xRep.stN{v:Nat}{l:Pth}{j:Nat}{δ:Nat→Option Pth}(ho:okP (δ v) l):∀(ys:List (xLf D.S)) {σ σ':Sto D} {h:Hp} {o:Nat} {a:AV},ys≠[]→(∀y∈ys,plainB y.1=true)→Abs.stN D v l j σ o ys=some σ'→xRep D σ δ ω Rs h→SR D h ω (.ptr v l j o) a→
  ∃r off rt h1,a= .ref r rt.ver off∧h.at r=some rt∧rt.live=true∧off+ys.length≤rt.cs.length∧Hp.eqv ((r,⟨rt.ver,true,rt.e,rt.k,putA rt.cs off (ys.map (lfA D))⟩)::h) h1∧xRep D σ' δ ω Rs h1∧HKeep h h1∧(∀q,q∉Rs v→h1.at q=h.at q)∧(∃b,getB D σ v=some b)∧(∀w,w≠v→getB D σ' w=getB D σ w)∧∃b,getB D σ' v=some b
 |[],_,_,_,_,_,hn,_,_,_,_=>absurd rfl hn
 |y::ys,σ,σ',h,o,a,_,hp,hs,R,ha=>by
  simp only[Abs.stN] at hs
  split at hs
  ·rename_i b hgb
   split at hs
   ·rename_i u zs hnav
    split at hs
    ·rename_i x0 hx0;cases hown:ownB x0.1 with
     |true=>simp_all
     |false=>
      rw[hown,cond_false] at hs
      split at hs
      ·rename_i ws hu;obtain⟨r,ver,off,h1,rfl,⟨rt,a1,a2,a3,a4,a5,e1⟩,k2,k3,k4⟩:=R.st hgb hnav hx0 hown (hp y (by simp)) hu ho ha;have⟨z1,z2,z3⟩:=plain_one (h:=h) (hp y (by simp));rw[z3] at a4 e1;simp only[Xc] at a4;subst a2;have hself:h1.at r=some ⟨rt.ver,true,rt.e,rt.k,putA rt.cs off [lfA D y]⟩:=by rw[e1];simp[Hp.at]
       cases ys with
       |nil=>
        simp only[Abs.stN,X0] at hs;subst hs;refine⟨r,off,rt,h1,rfl,a1,a3,a4,fun i=>by grind,k2,k3,k4,⟨b,hgb⟩,fun w hw=>Y3k hw,_,Y87 hgb⟩
       |cons y2 ys=>
        have ha':SR D h1 ω (.ptr v l j (o+1)) (.ref r rt.ver (off+1)):=by
         have:=SR.keep k3 _ _ ha;simp only[SR] at this⊢;have⟨hd,r',ver',rt',b1,b2,b3,b4,b5⟩:=this;refine⟨hd,r',ver',rt',b1,b2,b3,b4, ?_⟩;injection b5 with c1 c2 c3;rw[c1,c2,c3,X0d]
        have⟨r',off',rt',h2,b1,b2,b3,b4,b5,b6,b7,b8,b9,b10,b11⟩:=xRep.stN ho (y2::ys) (by simp) (fun y hy=>hp y (by simp_all)) hs k2 ha';injection b1 with c1 c2 c3;subst c1 c3;rw[hself] at b2;cases b2;refine⟨r,off,rt,h2,rfl,a1,a3, ?_,fun i=> ?_,b6,k3.trans b7,fun q hq=>(b8 q hq).trans (k4 q hq),⟨b,hgb⟩,fun w hw=>(b10 w hw).trans (Y3k hw),b11⟩
        ·have:(putA rt.cs off [lfA D y]).length=rt.cs.length:=by rw[putA_one (by omega),List.length_set]
         grind
        ·have e2:h2.at i=Hp.at ((r,(⟨rt.ver,true,rt.e,rt.k,putA (putA rt.cs off [lfA D y]) (off+1) ((y2::ys).map (lfA D))⟩:Rt))::h1) i:=b5 i;have hpp:putA (putA rt.cs off [lfA D y]) (off+1) ((y2::ys).map (lfA D))=putA rt.cs off ((y::y2::ys).map (lfA D)):=by
          rw[putA_one (by omega),putA_cons (by omega)]
          rfl
         rw[hpp] at e2;rw[e2];have n1:∀(x:Rt) (g:Hp),i≠r→Hp.at ((r,x)::g) i=g.at i:=fun x g e=>by simp only[Hp.at];rw[if_neg fun e'=>e e'.symm]
         have n2:∀(x:Rt) (g:Hp),i=r→Hp.at ((r,x)::g) i=some x:=fun x g e=>by simp only[Hp.at];rw[if_pos e.symm]
         grind
      ·cases hs
    ·cases hs
   ·cases hs
  ·cases hs
theorem xst_sound(X:XR D h0 O0 ω0 F0 en σ tn env h ω Rs){o:Oper}{t:TypeId}{x y:Operand}{vx vy:SV D.S}{cs:XCs}{σ':Sto D}(ho:o.op= .store t x y)(hs:xst D P σ tn t vx vy=some (cs,σ'))(hc:XOk cs)(hx:SR D h ω vx (rdo env x))(hy:SR D h ω vy (rdo env y)):
  ∃h',HStep P o env h h' .any∧XR D h0 O0 ω0 F0 en σ' tn env h' ω Rs:=by
 unfold xst at hs
 split at hs
 ·rename_i c v l j p c' y' h1 h2;have⟨htn,hs⟩:=Y2l hs
  split at hs
  ·rename_i ls hls;have⟨hb,hs⟩:=Y2l hs;simp only[X2,beq_iff_eq,X00,List.isEmpty_eq_false_iff] at hb
   split at hs
   ·rename_i σ1 hst;simp only[X0,Prod.mk.injEq] at hs;obtain⟨rfl,rfl⟩:=hs;have⟨g1,g2⟩:=Y5j h1 hc.app.1 (fun _ _ _ _ _ e=>by cases e) hx;have⟨g3,g4⟩:=Y5j h2 hc.app.2 (fun _ _ _ _ _ e=>by cases e) hy;have hpl:(∀l∈ls,plainB l.1=true)∧Y1r (st (rdo env y))=ls.map (lfA D)∧okC h (st (rdo env y)):=by
     unfold svY at hls;have hone:∀{cs:List (SV D.S)} {ls:List (xLf D.S)},svl D cs=some ls→∀x∈ls.map (lfA D),oneA h x:=fun hs x hx=>by
      obtain⟨lf,hl,rfl⟩:=Xp.1 hx;exact(plain_one (D:=D) (h:=h) (svl_pl hs lf hl)).1
     split at hls
     ·simp only[SR] at g4;have⟨l',e1,e2⟩:=g4;have e3:=Y7n hls e2;rw[e1];exact⟨svl_pl hls,e3,by rw[e3];exact hone hls⟩
     ·have e3:=Y7n hls (show SRL D h ω [y'] [st (rdo env y)] from by simp only[SRL];simp_all);have h1:=hone hls (st (rdo env y)) (by grind);exact⟨svl_pl hls,by rw[Y5o h1];exact e3,Y6b h1⟩
    have⟨p1,p2,p3⟩:=hpl;have⟨r,off,rt,h',e1,a1,a2,a3,a4,a5,a6,a7,a8,a9,a10⟩:=xRep.stN (Rs:=Rs) (by rw[tnOk_ok htn];exact okP_none _) ls hb.2 p1 hst X.rep g2;have hstep:=RStep.store (P:=P) (env:=env) (h:=h) ho (r:=r) (ver:=rt.ver) (off:=off) (rt:=rt) e1 g1 g3 a1 rfl a2 (by simp_all) p3 (by simp_all);rw[p2] at hstep;have⟨b,hgb⟩:=a8;refine⟨h',Y9k a4 (Y30 hstep),⟨a5,X.env.keep a6,X.cnd,fun w hw=> ?_,fun q rt hq hO=> ?_,fun w b' hw q hq=> ?_⟩⟩
    ·exact X.fix w hw
    ·by_cases hm:q∈Rs v
     ·rcases X.frB v b hgb q hm with h|h
      ·simp_all
      simp_all
     ·rw[a7 q hm];exact X.frA q rt hq hO
    ·by_cases e:w=v
     ·subst e;exact X.frB w b hgb q hq
     ·rw[a9 w e] at hw;exact X.frB w b' hw q hq
   ·cases hs
  ·cases hs
 ·cases hs
end
end Go.Abs
