/- Own work. -/
import Derived.Test.YtfpcbalkioolmaaDoorXQ1
set_option linter.unusedSimpArgs false
set_option linter.unusedVariables false
namespace Go.Abs
inductive XC where
 |inr (n:Int)
 |ge0 (n:Int)
 |ne0 (n:Int)
 |idx (j:Int) (n:Nat)
 |lim (j:Int) (n:Nat)
 |room (b n:Nat)
 |tr (g:Bool)
 |imp (g:Bool) (c:XC)
 |imn (g:Bool) (c:XC)
def XC.P:XC→Prop
 | .inr n=>inR n
 | .ge0 n=>0≤n
 | .ne0 n=>n≠0
 | .idx j n=>0≤j∧j<(n:Int)
 | .lim j n=>0≤j∧j≤(n:Int)
 | .room b n=>Go.Abs.room b n
 | .tr g=>g=true
 | .imp g c=>g=true→c.P
 | .imn g c=>g=false→c.P
instance XC.dec:(c:XC)→Decidable c.P
 | .inr n=>inferInstanceAs (Decidable (inR n))
 | .ge0 n=>inferInstanceAs (Decidable (0≤n))
 | .ne0 n=>inferInstanceAs (Decidable (n≠0))
 | .idx j n=>inferInstanceAs (Decidable (0≤j∧j<(n:Int)))
 | .lim j n=>inferInstanceAs (Decidable (0≤j∧j≤(n:Int)))
 | .room b n=>inferInstanceAs (Decidable (Go.Abs.room b n))
 | .tr g=>inferInstanceAs (Decidable (g=true))
 | .imp g c=>have:=XC.dec c;inferInstanceAs (Decidable (g=true→c.P))
 | .imn g c=>have:=XC.dec c;inferInstanceAs (Decidable (g=false→c.P))
def XC.chk:XC→Bool
 | .imp g c=>c.chk|| !g
 | .imn g c=>c.chk||g
 |c=>decide c.P
theorem XC.chk_ok:∀{c:XC},c.chk=true→c.P
 | .imp g c,h=>by
  simp only[XC.chk,X02,X00] at h;exact fun e=>h.elim XC.chk_ok fun h=>by simp_all
 | .imn g c,h=>by
  simp only[XC.chk,X02] at h;exact fun e=>h.elim XC.chk_ok fun h=>by simp_all
 | .inr _,h=>of_decide_eq_true h
 | .ge0 _,h=>of_decide_eq_true h
 | .ne0 _,h=>of_decide_eq_true h
 | .idx _ _,h=>of_decide_eq_true h
 | .lim _ _,h=>of_decide_eq_true h
 | .room _ _,h=>of_decide_eq_true h
 | .tr _,h=>of_decide_eq_true h
abbrev XCs:=List XC
def XOk (cs:XCs):Prop:=∀c∈cs,c.P
theorem XOk.app{a b:XCs}(h:XOk (a++b)):XOk a∧XOk b:=⟨fun c hc=>h c (by simp[hc]),fun c hc=>h c (by simp[hc])⟩
def gs {R:Type}:XCs→Option R→Option R
 |[],x=>x
 |c::cs,x=>G c.P (gs cs x)
abbrev XV (D:SD):=Option (XCs×SV D.S)
section
variable (D:SD) (P:Program)
def xok (im:Nat→Bool→Bool):SV D.S→XV D
 | .any=>none
 | .cnd t p g x=>(match x with
  | .any=>none
  | .cnd _ _ _ _=>none
  |x=>bif im t p then some ([],x) else some ([.tr g],x))
 |x=>some ([],x)
def tA:SV D.S→Option AV
 | .c v=>some (.im (.val v))
 | .i k n=>some (.int k n)
 | .b x=>some (.bool x)
 | .s x=>some (.string x)
 | .d t xs=>some (.im (.sl (fzC D t xs) xs.length))
 |_=>none
def ofA:AV→SV D.S
 | .im (.val (.int k n))=>.i k n
 | .im (.val (.bool x))=>.b x
 | .im (.val (.string x))=>.s x
 | .im (.val v)=>.c v
 |_=>.any
def okX (k:IntKind) (n:Int):XCs:=match k with
 | .i64=>[.inr n]
 |_=>[]
def obX (t:TypeId) (op:BinOp) (x y:AV):Option XCs:=match x,y with
 | .im (.val (.int k a)),.im (.val (.int k' b))=>match op with
  | .shl=>some [.ge0 b]
  | .shr=>some [.ge0 b]
  | .add=>if k=k' then some (okX k (a+b)) else none
  | .sub=>if k=k' then some (okX k (a-b)) else none
  | .mul=>if k=k' then some (okX k (a*b)) else none
  | .quo=>if k=k' then some (.ne0 b::okX k (a.tdiv b)) else none
  | .rem=>if k=k' then some [.ne0 b] else none
  |_=>if k=k' then some [] else none
 | .im (.val (.bool _)),.im (.val (.bool _))=>match op with
  | .eql=>if tk P t=5 then some [] else none
  | .neq=>if tk P t=5 then some [] else none
  |_=>none
 | .im (.val (.string _)),.im (.val (.string _))=>match op with
  | .eql=>some []| .neq=>some []| .lss=>some []| .leq=>some []| .gtr=>some []| .geq=>some []
  |_=>none
 |_,_=>none
def xbin (t:TypeId) (op:BinOp) (x y:SV D.S):XV D:=match tA D x,tA D y with
 |some a,some b=>(match obX P t op a b with
  |some cs=>some (cs,ofA D (pvBin op a b))
  |none=>none)
 |_,_=>none
def xun (op:UnOp) (x:SV D.S):XV D:=match op,x with
 | .not,.b x=>some ([],.b (!x))
 | .neg,.i k n=>some (okX k (0-n),.i k (nw k (0-n)))
 |_,_=>none
def xconv (s d:TypeId) (x:SV D.S):XV D:=match x,ik P d with
 | .i _ n,some k=>if tk P s=0 then none else some ([],.i k (k.wrap n))
 | .s x,none=>if tk P s=2∧tk P d=2 then some ([],.s x) else none
 |_,_=>none
def xselB (g:Bool) (x y:SV D.S):Option (SV D.S):=match x,y with
 | .b p,.b q=>some (.b (cond g p q))
 | .i k p,.i k' q=>if k=k' then some (.i k (cond g p q)) else none
 | .s p,.s q=>some (.s (cond g p q))
 |_,_=>none
end
section
variable {D:SD} {P:Program} {h:Hp} {ω:Nat→AV}
theorem Y5j{im:Nat→Bool→Bool}{x v:SV D.S}{cs:XCs}{a:AV}(hx:xok D im x=some (cs,v))(hc:XOk cs)(him:∀t p g y,x= .cnd t p g y→im t p=true→g=true)(ha:SR D h ω x a):gd a∧SR D h ω v (st a):=by
 cases x with
 |any=>cases hx
 |cnd t p g y=>
  simp only[SR] at ha;obtain⟨b,rfl,hb⟩:=ha;have key:g=true∧v=y:=by
   unfold xok at hx;simp only at hx
   split at hx
   ·cases hx
   ·cases hx
   ·cases hi:im t p with
    |true=>
     grind
    |false=>
     rw[hi,cond_false] at hx;simp only[X0,Prod.mk.injEq] at hx;obtain⟨rfl,e⟩:=hx;exact⟨hc (.tr g) (by simp),e.symm⟩
  obtain⟨rfl,rfl⟩:=key;exact⟨rfl,hb rfl⟩
 |c u=>
  simp only[xok,X0,Prod.mk.injEq] at hx;obtain⟨rfl,rfl⟩:=hx
  have ha':=ha;simp only[SR] at ha';subst ha'
  exact⟨trivial,ha⟩
 |i k n=>
  simp only[xok,X0,Prod.mk.injEq] at hx;obtain⟨rfl,rfl⟩:=hx
  have ha':=ha;simp only[SR] at ha';subst ha'
  exact⟨trivial,ha⟩
 |b n=>
  simp only[xok,X0,Prod.mk.injEq] at hx;obtain⟨rfl,rfl⟩:=hx
  have ha':=ha;simp only[SR] at ha';subst ha'
  exact⟨trivial,ha⟩
 |s n=>
  simp only[xok,X0,Prod.mk.injEq] at hx;obtain⟨rfl,rfl⟩:=hx
  have ha':=ha;simp only[SR] at ha';subst ha'
  exact⟨trivial,ha⟩
 |k j n=>
  simp only[xok,X0,Prod.mk.injEq] at hx;obtain⟨rfl,rfl⟩:=hx
  have ha':=ha;simp only[SR] at ha';subst ha'
  exact⟨trivial,ha⟩
 |d t n=>
  simp only[xok,X0,Prod.mk.injEq] at hx;obtain⟨rfl,rfl⟩:=hx
  have ha':=ha;simp only[SR] at ha';subst ha'
  exact⟨trivial,ha⟩
 |fp t xs j o=>
  simp only[xok,X0,Prod.mk.injEq] at hx;obtain⟨rfl,rfl⟩:=hx
  have ha':=ha;simp only[SR] at ha';obtain⟨_,rfl⟩:=ha'
  exact⟨trivial,ha⟩
 |agg l=>
  simp only[xok,X0,Prod.mk.injEq] at hx;obtain⟨rfl,rfl⟩:=hx
  have ha':=ha;simp only[SR] at ha';obtain⟨_,rfl,_⟩:=ha'
  exact⟨trivial,ha⟩
 |tup l=>
  simp only[xok,X0,Prod.mk.injEq] at hx;obtain⟨rfl,rfl⟩:=hx
  have ha':=ha;simp only[SR] at ha';obtain⟨_,rfl,_⟩:=ha'
  exact⟨trivial,ha⟩
 |ptr v' l j o=>
  simp only[xok,X0,Prod.mk.injEq] at hx;obtain⟨rfl,rfl⟩:=hx
  have ha':=ha;simp only[SR] at ha';obtain⟨_,_,_,_,_,_,_,_,rfl⟩:=ha'
  exact⟨trivial,ha⟩
 |vw v' l=>
  simp only[xok,X0,Prod.mk.injEq] at hx;obtain⟨rfl,rfl⟩:=hx
  have ha':=ha;simp only[SR] at ha'
  rcases ha'.1 with rfl|⟨r,ver,m,rfl⟩
  ·exact⟨trivial,ha⟩
  ·exact⟨trivial,ha⟩
 |vp v' l n=>
  simp only[xok,X0,Prod.mk.injEq] at hx;obtain⟨rfl,rfl⟩:=hx
  have ha':=ha;simp only[SR] at ha';obtain⟨_,_,_,_,_,_,rfl⟩:=ha'
  exact⟨trivial,ha⟩
 |fn f l=>
  simp only[xok,X0,Prod.mk.injEq] at hx;obtain⟨rfl,rfl⟩:=hx
  have ha':=ha;simp only[SR] at ha';obtain⟨_,rfl,_⟩:=ha'
  exact⟨trivial,ha⟩
theorem tA_sound{x:SV D.S}{a b:AV}(hx:tA D x=some b)(ha:SR D h ω x a):a=b:=by
 cases x<;>simp only[tA,X0,reduceCtorEq] at hx<;>(simp only[SR] at ha;rw[ha, ←hx])
theorem ofA_sr(a:AV):SR D h ω (ofA D a) a:=by
 unfold ofA
 split<;>simp only[SR]
theorem okX_ok{k:IntKind}{n:Int}(hc:XOk (okX k n)):okA k n:=by
 cases k<;>first|trivial|exact hc (.inr n) (by simp[okX])
theorem obX_sound {t : TypeId} {op : BinOp} {x y : AV} {cs : XCs} (hb : obX P t op x y = some cs) (hc : XOk cs) : poBin P t op x y := by
  unfold obX at hb
  unfold poBin
  split at hb
  · rename_i k a k' b
    cases op <;> simp only at hb ⊢ <;> first
      | (simp only [X0] at hb; subst hb; exact hc (.ge0 _) (by simp))
      | (split at hb
         · rename_i hk
           simp only [X0] at hb
           subst hb
           first
             | exact hk
             | exact ⟨hk, okX_ok hc⟩
             | exact ⟨hk, hc (.ne0 _) (by simp), okX_ok fun c h => hc c (by simp [h])⟩
             | exact ⟨hk, hc (.ne0 _) (by simp)⟩
         · cases hb)
  · cases op <;> simp only at hb ⊢ <;> first
      | (split at hb
         · assumption
         grind)
      | cases hb
  · cases op <;> simp only at hb ⊢ <;> first
      | trivial
      | cases hb
  grind
theorem xbin_sound{t:TypeId}{op:BinOp}{x y v:SV D.S}{cs:XCs}{a b:AV}(hb:xbin D P t op x y=some (cs,v))(hc:XOk cs)(ha:SR D h ω x a)(hb':SR D h ω y b):poBin P t op a b∧SR D h ω v (pvBin op a b):=by
 unfold xbin at hb
 split at hb
 ·rename_i a' b' h1 h2;obtain rfl:=tA_sound h1 ha;obtain rfl:=tA_sound h2 hb'
  split at hb
  ·rename_i cs' h3;simp only[X0,Prod.mk.injEq] at hb;obtain⟨rfl,rfl⟩:=hb;exact⟨obX_sound h3 hc,ofA_sr _⟩
  ·cases hb
 ·cases hb
theorem xun_sound{op:UnOp}{x v:SV D.S}{cs:XCs}{a:AV}(hb:xun D op x=some (cs,v))(hc:XOk cs)(ha:SR D h ω x a):poUn op a∧SR D h ω v (pvUn op a):=by
 unfold xun at hb
 split at hb
 ·simp only[X0,Prod.mk.injEq] at hb;obtain⟨rfl,rfl⟩:=hb;simp only[SR] at ha;subst ha;exact⟨trivial,by rfl⟩
 ·simp only[X0,Prod.mk.injEq] at hb;obtain⟨rfl,rfl⟩:=hb;simp only[SR] at ha;subst ha;exact⟨okX_ok hc,by rfl⟩
 ·cases hb
theorem xconv_sound{s d:TypeId}{x v:SV D.S}{cs:XCs}{a:AV}(hb:xconv D P s d x=some (cs,v))(ha:SR D h ω x a):poConv P s d a∧SR D h ω v (pvConv P d a):=by
 unfold xconv at hb
 split at hb
 ·rename_i k0 n k hk
  split at hb
  ·cases hb
  ·rename_i hs;simp only[X0,Prod.mk.injEq] at hb;obtain⟨rfl,rfl⟩:=hb;simp only[SR] at ha;subst ha;exact⟨by simp only[poConv,hk];exact hs,by simp only[pvConv,hk,SR]⟩
 ·rename_i x hk
  split at hb
  ·rename_i hs;simp only[X0,Prod.mk.injEq] at hb;obtain⟨rfl,rfl⟩:=hb;simp only[SR] at ha;subst ha;exact⟨by simp only[poConv,hk];exact hs,by simp only[pvConv,hk,SR]⟩
  ·cases hb
 ·cases hb
theorem xsel_sound{g:Bool}{x y v:SV D.S}(hb:xselB D g x y=some v):(g=true→∀a,SR D h ω x a→SR D h ω v a)∧(g=false→∀a,SR D h ω y a→SR D h ω v a):=by
 unfold xselB at hb
 grind
end
section
variable {D:SD} {h:Hp} {ω:Nat→AV}
theorem BkR.hd{δ:Option Pth}{b:Bv D}{a hd:AV}{rs:List Nat}{l:Pth}{u:Ty}{ys:List (Den D.S u)}(H:BkR D h δ b a rs)(hb:HdAt h a l hd)(hn:navL D b.t b.xs l=some ⟨u,ys⟩)(ho:okP δ l)(hh:IsHd hd):∃n e p r s,rs=p++(r++s)∧HdR D h (LfR D h n) (selP δ l) e u ys hd r:=by
 cases l with
 |nil=>
  simp only[HdAt] at hb;subst hb;simp only[navL,X0,Sigma.mk.injEq] at hn;obtain⟨rfl,hn⟩:=hn;obtain rfl:=eq_of_heq hn;unfold BkR at H
  split at H
  ·obtain⟨_,r,rt,rs',rfl,_⟩:=H;rcases hh with e|⟨_,_,_,e⟩<;>cases e
  ·exact⟨9,b.e,[],rs,[],by simp,H⟩
 |cons x l=>
  have⟨i0,o0⟩:=x;simp only[HdAt] at hb;have⟨r0,ver0,rt0,c,e1,e2,e3,e4,eh,e5⟩:=hb;obtain⟨hi0,rt0',rs0,k1,k2,k3,rfl,k5⟩:=H.ent e1;rw[e2] at k1;cases k1;simp only[navL] at hn
  split at hn
  ·rename_i e' u' ys' hl;obtain⟨c',m,p,r1,s,hm,g1,rfl,g3,g4⟩:=k3.step hi0 hl ho.1;rw[e4] at g1;cases g1;obtain⟨m',e'',p',r2,s',rfl,q2,_⟩:=HdR.focus l m g3 e5 hn ho.2;exact⟨m',e'',r0::(p++p'),r2,s'++s,by simp,q2⟩
  ·cases hn
abbrev xTn:=Option (Nat×Pth)
def tnF (tn:xTn) (w:Nat):Option Pth:=match tn with
 |some (v,p)=>if v=w then some p else none
 |none=>none
def tnOk (tn:xTn) (w:Nat):Bool:=match tn with
 |some (v,_)=> !(Nat.beq v w)
 |none=>true
theorem tnOk_ok{tn:xTn}{w:Nat}(h:tnOk tn w=true):tnF tn w=none:=by
 unfold tnOk at h;unfold tnF
 split at h
 ·rename_i v p;simp only[X00] at h;show(if v=w then some p else none)=none;rw[if_neg (fun e=>by simp_all)]
 ·rfl
end
section
variable (D:SD) (P:Program)
def xnav (σ:Sto D) (tn:xTn) (v:Nat) (l:Pth):Option (Σ u:Ty,List (Den D.S u)):=bif tnOk tn v then(match getB D σ v with
 |some b=>navL D b.t b.xs l
 |none=>none) else none
def xlen (σ:Sto D) (tn:xTn) (t:TypeId):SV D.S→XV D
 | .d _ xs=>if tk P t=1 then some ([],.i .i64 xs.length) else none
 | .s x=>if tk P t=2 then some ([],.i .i64 x.size) else none
 | .c (.slice none 0 0)=>if tk P t=1 then some ([],.i .i64 0) else none
 | .vw v l=>(match xnav D σ tn v l with
  |some ⟨_,ys⟩=>if tk P t=1 then some ([],.i .i64 ys.length) else none
  |none=>none)
 | .vp _ _ n=>if tk P t=1 then some ([],.i .i64 n) else none
 |_=>none
def xidx (σ:Sto D) (tn:xTn) (t:TypeId) (x i:SV D.S):XV D:=match i with
 | .i _ j=>(match x with
  | .d u xs=>if tk P t=1∧ez P t=some (nl D u) then some ([.idx j xs.length],.fp u xs j.toNat 0) else none
  | .vw v l=>(match xnav D σ tn v l with
   |some ⟨u,ys⟩=>if tk P t=1∧ez P t=some (nl D u) then some ([.idx j ys.length],.ptr v l j.toNat 0) else none
   |none=>none)
  | .vp v l n=>(match xnav D σ tn v l with
   |some ⟨u,ys⟩=>if tk P t=1∧ez P t=some (nl D u) then some ([.idx j n],.ptr v l j.toNat 0) else none
   |none=>none)
  |_=>none)
 |_=>none
def xfa (s:TypeId) (f:Nat):SV D.S→XV D
 | .fp t xs j o=>(match fo P s f with
  |some d=>some ([],.fp t xs j (o+d))
  |none=>none)
 | .ptr v l j o=>(match fo P s f with
  |some d=>some ([],.ptr v l j (o+d))
  |none=>none)
 |_=>none
def fzS:List (xLf D.S)→List (SV D.S)
 |[]=>[]
 |x::ls=>lfS 0 [] x::fzS ls
def noOwn:List (xLf D.S)→Bool
 |[]=>true
 |x::ls=> !(ownB x.1)&&noOwn ls
def xld (σ:Sto D) (tn:xTn) (t:TypeId):SV D.S→XV D
 | .fp u xs j o=>(match lz P t with
  |some none=>(match (lvs D u (gt D u xs j))[o]? with
   |some x=>bif ownB x.1 then none else some ([],lfS 0 [] x)
   |none=>none)
  |some (some n)=>if o+n≤nl D u then(bif noOwn D (((lvs D u (gt D u xs j)).drop o).take n) then some ([],.agg (fzS D (((lvs D u (gt D u xs j)).drop o).take n))) else none) else none
  |none=>none)
 | .ptr v l j o=>(match xnav D σ tn v l with
  |some ⟨u,ys⟩=>(match lz P t with
   |some none=>(match (lvs D u (gt D u ys j))[o]? with
    |some x=>some ([],lfS v (l++[(j,o)]) x)
    |none=>none)
   |some (some n)=>if o+n≤nl D u then some ([],.agg (lvS v l j o (((lvs D u (gt D u ys j)).drop o).take n))) else none
   |none=>none)
  |none=>none)
 |_=>none
def xpart (cs:List (SV D.S)) (off:Nat):Option (Option Nat)→XV D
 |some none=>(match cs[off]? with
  |some x=>some ([],x)
  |none=>none)
 |some (some n)=>if off+n≤cs.length then some ([],.agg ((cs.drop off).take n)) else none
 |none=>none
end
section
variable {D:SD} {P:Program} {h:Hp} {ω:Nat→AV} {σ:Sto D} {tn:xTn} {Rs:Nat→List Nat}
theorem xnav_some{v:Nat}{l:Pth}{u:Ty}{ys:List (Den D.S u)}(hx:xnav D σ tn v l=some ⟨u,ys⟩):tnF tn v=none∧∃b,getB D σ v=some b∧navL D b.t b.xs l=some ⟨u,ys⟩:=by
 unfold xnav at hx;have⟨h1,h2⟩:=Y2l hx;refine⟨tnOk_ok h1, ?_⟩
 grind
theorem xRep.hd(R:xRep D σ (tnF tn) ω Rs h){v:Nat}{l:Pth}{u:Ty}{ys:List (Den D.S u)}{a:AV}(hx:xnav D σ tn v l=some ⟨u,ys⟩)(hd:HdAt h (ω v) l a)(hh:IsHd a):∃n e r,HdR D h (LfR D h n) none e u ys a r∧∀q∈r,q∈Rs v:=by
 have⟨h1,b,h2,h3⟩:=xnav_some hx;have H:=R.blk v b h2;rw[h1] at H;have⟨n,e,p,r,s,hq,H⟩:=H.hd hd h3 (okP_none l) hh;rw[selP_none] at H
 grind
theorem HdR.has{n:Nat}{δ:Option Pth}{e:TypeId}{u:Ty}{ys:List (Den D.S u)}{a:AV}{r:List Nat}(H:HdR D h (LfR D h n) δ e u ys a r):(ys=[]∧a=xnilA)∨∃q ver,a= .rsl q ver 0 ys.length∧HasK h q ver (nl D u):=by
 rcases H with⟨h1,h2,_⟩|⟨q,rt,rs',rfl,h2,_,h4,_⟩
 ·simp_all
 ·exact .inr ⟨q,rt.ver,rfl,HasK.mk h2 rfl h4.2.1⟩
theorem xlen_sound(R:xRep D σ (tnF tn) ω Rs h){t:TypeId}{x v:SV D.S}{cs:XCs}{a:AV}(hx:xlen D P σ tn t x=some (cs,v))(ha:SR D h ω x a):poLen P h t a∧SR D h ω v (pvLen a):=by
 unfold xlen at hx
 split at hx
 ·split at hx
  ·rename_i ht;simp only[X0,Prod.mk.injEq] at hx;obtain⟨rfl,rfl⟩:=hx;simp only[SR] at ha;subst ha;exact⟨ht,by rfl⟩
  ·cases hx
 ·split at hx
  ·rename_i ht;simp only[X0,Prod.mk.injEq] at hx;obtain⟨rfl,rfl⟩:=hx;simp only[SR] at ha;subst ha;exact⟨ht,by rfl⟩
  ·cases hx
 ·split at hx
  ·rename_i ht;simp only[X0,Prod.mk.injEq] at hx;obtain⟨rfl,rfl⟩:=hx;simp only[SR] at ha;subst ha;exact⟨ht,by rfl⟩
  ·cases hx
 ·split at hx
  ·rename_i v' l u ys hn
   split at hx
   ·rename_i ht;simp only[X0,Prod.mk.injEq] at hx;obtain⟨rfl,rfl⟩:=hx;simp only[SR] at ha;have⟨n,e,r,H,_⟩:=R.hd hn ha.2 ha.1;rcases H.has with⟨rfl,rfl⟩|⟨q,ver,rfl,hk⟩
    ·exact⟨ht,by rfl⟩
    ·exact⟨⟨ht,hk.has⟩,by rfl⟩
   ·cases hx
  ·cases hx
 ·split at hx
  ·rename_i v' l n ht;simp only[X0,Prod.mk.injEq] at hx;obtain⟨rfl,rfl⟩:=hx;simp only[SR] at ha;obtain⟨r,ver,m,hd,hle,hhas,rfl⟩:=ha;exact⟨⟨ht,hhas⟩,by rfl⟩
  ·cases hx
 ·cases hx
end
theorem flatMap_len{α β:Type}{f:α→List β}{k:Nat}(hf:∀y,(f y).length=k):∀(xs:List α),(xs.flatMap f).length=xs.length*k
 |[]=>by simp
 |x::xs=>by rw[Xr,X4,hf,flatMap_len hf xs,X7,X0w,X0r]
theorem flatMap_seg{α β:Type}{f:α→List β}{k:Nat}(hf:∀y,(f y).length=k)(d:α):∀(xs:List α) (j o n:Nat),j<xs.length→o+n≤k→((xs.flatMap f).drop (j*k+o)).take n=((f (xs.getD j d)).drop o).take n
 |[],j,o,n,hj,_=>by simp at hj
 |x::xs,0,o,n,_,hn=>by
  grind
 |x::xs,j+1,o,n,hj,hn=>by
  have e:(j+1)*k+o=(f x).length+(j*k+o):=by grind
  rw[Xr,e, ←X1u,List.drop_left,flatMap_seg hf d xs j o n (by simp_all) hn]
  rfl
section
variable {D:SD} {P:Program} {h:Hp} {ω:Nat→AV} {σ:Sto D} {tn:xTn} {Rs:Nat→List Nat}
theorem encT_len(t:Ty)(x:Den D.S t):(encT D t x).length=nl D t:=by rw[encT_lvs,Xw,lvs_len]
theorem fzC_seg{u:Ty}{xs:List (Den D.S u)}{j o n:Nat}(hj:j<xs.length)(hn:o+n≤nl D u):((fzC D u xs).drop (j*nl D u+o)).take n=(((lvs D u (gt D u xs j)).drop o).take n).map (lfIV D):=by
 have:=flatMap_seg (f:=encT D u) (encT_len u) (dft D u) xs j o n hj hn;unfold fzC;rw[this,encT_lvs,List.map_take,List.map_drop];rfl
theorem fzC_get{u:Ty}{xs:List (Den D.S u)}{j o:Nat}{x:xLf D.S}(hj:j<xs.length)(hx:(lvs D u (gt D u xs j))[o]? =some x):(fzC D u xs)[j*nl D u+o]? =some (lfIV D x):=by
 have ho:=(Xj.1 hx).1;rw[lvs_len] at ho;have:=fzC_seg (n:=1) hj (o:=o) (by omega);have h2:((fzC D u xs).drop (j*nl D u+o)).take 1=[lfIV D x]:=by
  rw[this];have:((lvs D u (gt D u xs j)).drop o).take 1=[x]:=by
   have⟨h1,h2⟩:=Xj.1 hx;rw[X06 h1,h2];rfl
  simp_all
 have h3:(((fzC D u xs).drop (j*nl D u+o)).take 1)[0]? =some (lfIV D x):=by grind
 grind
theorem xidx_sound(R:xRep D σ (tnF tn) ω Rs h){t:TypeId}{x i v:SV D.S}{cs:XCs}{a b:AV}(hx:xidx D P σ tn t x i=some (cs,v))(hc:XOk cs)(ha:SR D h ω x a)(hb:SR D h ω i b):poIdx P h t a b∧SR D h ω v (pvIdx (ez P t) a b):=by
 unfold xidx at hx
 split at hx
 ·rename_i kk j;simp only[SR] at hb;subst hb;have place:∀{v':Nat} {l:Pth} {u:Ty} {ys:List (Den D.S u)} {r ver m n:Nat},xnav D σ tn v' l=some ⟨u,ys⟩→HdAt h (ω v') l (.rsl r ver 0 m)→n≤m→tk P t=1→ez P t=some (nl D u)→0≤j∧j<(n:Int)→poIdx P h t (.rsl r ver 0 n) (.int kk j)∧SR D h ω (.ptr v' l j.toNat 0) (pvIdx (ez P t) (.rsl r ver 0 n) (.int kk j)):=by
   intro v' l u ys r ver m n hn hd hle ht he hj;have⟨nn,e,rs,H,_⟩:=R.hd hn hd (.inr ⟨r,ver,m,rfl⟩);rcases H.has with⟨_,e2⟩|⟨q,ver',e2,hk⟩
   ·cases e2
   ·cases e2;have hk':=hk;unfold HasK at hk';cases hr:h.at r with
    |none=>simp_all
    |some rt=>
     rw[hr] at hk';simp only[X0b,X0,Prod.mk.injEq] at hk';refine⟨by simp only[poIdx,he];simp_all, ?_⟩;rw[he];simp only[pvIdx,SR];exact⟨_,r,ver,rt,hd,.inl ⟨ys.length,rfl,by omega⟩,hr,hk'.1,by simp_all⟩
  split at hx
  ·rename_i u xs
   split at hx
   ·rename_i hk;simp only[X0,Prod.mk.injEq] at hx;obtain⟨rfl,rfl⟩:=hx;have hj:0≤j∧j<(xs.length:Int):=hc (.idx j xs.length) (by simp);simp only[SR] at ha;subst ha;refine⟨by simp only[poIdx,hk.2];omega, ?_⟩;rw[hk.2];simp only[pvIdx,SR]
    simp_all
   ·cases hx
  ·rename_i v' l
   split at hx
   ·rename_i u ys hn
    split at hx
    ·rename_i hk;simp only[X0,Prod.mk.injEq] at hx;obtain⟨rfl,rfl⟩:=hx;have hj:0≤j∧j<(ys.length:Int):=hc (.idx j ys.length) (by simp);simp only[SR] at ha;rcases ha.1 with rfl|⟨r,ver,m,rfl⟩
     ·have⟨nn,e,rs,H,_⟩:=R.hd hn ha.2 ha.1;rcases H.has with⟨rfl,_⟩|⟨q,ver',e2,_⟩
      ·grind
      ·cases e2
     ·have⟨nn,e,rs,H,_⟩:=R.hd hn ha.2 ha.1;rcases H.has with⟨_,e2⟩|⟨q,ver',e2,_⟩
      ·cases e2
      ·cases e2;exact place hn ha.2 (Xk _) hk.1 hk.2 hj
    ·cases hx
   ·cases hx
  ·rename_i v' l n
   split at hx
   ·rename_i u ys hn
    split at hx
    ·rename_i hk;simp only[X0,Prod.mk.injEq] at hx;obtain⟨rfl,rfl⟩:=hx;have hj:0≤j∧j<(n:Int):=hc (.idx j n) (by simp);simp only[SR] at ha
     grind
    ·cases hx
   ·cases hx
  ·cases hx
 ·cases hx
theorem xfa_sound{s:TypeId}{f:Nat}{x v:SV D.S}{cs:XCs}{a:AV}(hx:xfa D P s f x=some (cs,v))(ha:SR D h ω x a):poField h (fo P s f) a∧SR D h ω v (pvField (fo P s f) a):=by
 unfold xfa at hx
 split at hx
 ·split at hx
  ·rename_i t xs j o d hd;simp only[X0,Prod.mk.injEq] at hx;obtain⟨rfl,rfl⟩:=hx;simp only[SR] at ha;obtain⟨h1,rfl⟩:=ha;rw[hd];exact⟨trivial,by simp only[pvField,SR];grind⟩
  ·cases hx
 ·split at hx
  ·rename_i v' l j o d hd;simp only[X0,Prod.mk.injEq] at hx;obtain⟨rfl,rfl⟩:=hx;simp only[SR] at ha;obtain⟨hd',r,ver,rt,h1,h2,h3,h4,rfl⟩:=ha;rw[hd];refine⟨by simp only[poField,h3,X0b,h4], ?_⟩;simp only[pvField,SR]
   grind
  ·cases hx
 ·cases hx
theorem fzS_sr:∀{ls:List (xLf D.S)},noOwn D ls=true→SRL D h ω (fzS D ls) ((ls.map (lfIV D)).map .im)
 |[],_=>by rfl
 |x::ls,hn=>by
  simp only[noOwn,X2,X00] at hn;simp only[fzS,Xo,SRL];exact⟨_,_,rfl,lfS_plain hn.1 rfl,fzS_sr hn.2⟩
theorem xld_sound(R:xRep D σ (tnF tn) ω Rs h){t:TypeId}{x v:SV D.S}{cs:XCs}{a:AV}(hx:xld D P σ tn t x=some (cs,v))(ha:SR D h ω x a):Y7p h (lz P t) a∧SR D h ω v (Y5u h (lz P t) a):=by
 unfold xld at hx
 split at hx
 ·rename_i u xs j o;have ha':=ha;simp only[SR] at ha;obtain⟨hj,rfl⟩:=ha
  split at hx
  ·rename_i hz
   split at hx
   ·rename_i y hl;cases ho:ownB y.1 with
    |true=>simp_all
    |false=>
     rw[ho,cond_false] at hx;simp only[X0,Prod.mk.injEq] at hx;obtain⟨rfl,rfl⟩:=hx;have hg:=fzC_get hj hl;rw[hz];refine⟨(Xj.1 hg).1, ?_⟩;simp only[Y5u,hg];exact lfS_plain ho rfl
   ·cases hx
  ·rename_i n hz
   split at hx
   ·rename_i hle;cases ho:noOwn D (((lvs D u (gt D u xs j)).drop o).take n) with
    |false=>simp_all
    |true=>
     rw[ho,cond_true] at hx;simp only[X0,Prod.mk.injEq] at hx;obtain⟨rfl,rfl⟩:=hx;rw[hz];refine⟨?_, ?_⟩
     ·show _≤(fzC D u xs).length;unfold fzC;rw[flatMap_len (encT_len u)];have:(j+1)*nl D u≤xs.length*nl D u:=X16 _ hj
      grind
     ·simp only[Y5u,SR];exact⟨_,rfl,by rw[fzC_seg hj hle];exact fzS_sr ho⟩
   ·cases hx
  ·cases hx
 ·rename_i v' l j o
  split at hx
  ·rename_i u ys hn;have⟨ht,b,hb,hnav⟩:=xnav_some hn
   split at hx
   ·rename_i hz
    split at hx
    ·rename_i y hl;simp only[X0,Prod.mk.injEq] at hx;obtain⟨rfl,rfl⟩:=hx;obtain⟨r,ver,off,c,rfl,⟨rt,k1,k2,k3,k4⟩,hs⟩:=R.ld hb hnav hl (by rw[ht];exact okP_none _) ha;rw[hz];refine⟨?_, ?_⟩
     ·simp only[Y7p,k1]
      grind
     ·simp only[Y5u,k1,k4];exact hs
    ·cases hx
   ·rename_i n hz
    split at hx
    ·rename_i hle;simp only[X0,Prod.mk.injEq] at hx;obtain⟨rfl,rfl⟩:=hx;obtain⟨r,ver,off,c,rfl,⟨rt,k1,k2,k3,k4,k5⟩,hs⟩:=R.ldN hb hnav hle (by rw[ht];exact okP_none _) (fun i=>by rw[ht,selP_none];simp[xsel]) ha;rw[hz];refine⟨?_, ?_⟩
     ·simp only[Y7p,k1]
      simp_all
     ·simp only[Y5u,k1,SR]
      simp_all
    ·cases hx
   ·cases hx
  ·cases hx
 ·cases hx
theorem SRL.len:∀{xs:List (SV D.S)} {l:List AV},SRL D h ω xs l→l.length=xs.length
 |[],l,H=>by simp only[SRL] at H;grind
 |x::xs,l,H=>by
  simp only[SRL] at H;obtain⟨a,l',rfl,_,h2⟩:=H;simp[SRL.len h2]
theorem SRL.get:∀{xs:List (SV D.S)} {l:List AV} {i:Nat} {x:SV D.S},SRL D h ω xs l→xs[i]? =some x→∃a,l[i]? =some a∧SR D h ω x a
 |[],l,i,x,H,hx=>by simp at hx
 |y::xs,l,i,x,H,hx=>by
  simp only[SRL] at H;obtain⟨a,l',rfl,h1,h2⟩:=H;cases i with
  |zero=>simp_all
  |succ i=>simpa using SRL.get h2 (by simp_all)
theorem SRL.drop:∀{xs:List (SV D.S)} {l:List AV} (n:Nat),SRL D h ω xs l→SRL D h ω (xs.drop n) (l.drop n)
 |[],l,n,H=>by simp only[SRL] at H;subst H;simp[SRL]
 |x::xs,l,0,H=>by grind
 |x::xs,l,n+1,H=>by
  simp only[SRL] at H;obtain⟨a,l',rfl,h1,h2⟩:=H;simpa using SRL.drop n h2
theorem SRL.take:∀{xs:List (SV D.S)} {l:List AV} (n:Nat),SRL D h ω xs l→SRL D h ω (xs.take n) (l.take n)
 |[],l,n,H=>by simp only[SRL] at H;subst H;simp[SRL]
 |x::xs,l,0,H=>by rfl
 |x::xs,l,n+1,H=>by
  simp only[SRL] at H;obtain⟨a,l',rfl,h1,h2⟩:=H;simp only[X07,SRL];exact⟨a,_,rfl,h1,SRL.take n h2⟩
theorem xpart_sound{xs:List (SV D.S)}{l:List AV}{off:Nat}{s:Option (Option Nat)}{cs:XCs}{v:SV D.S}(hx:xpart D xs off s=some (cs,v))(hl:SRL D h ω xs l):poPart l off s∧SR D h ω v (pvPart l off s):=by
 unfold xpart at hx
 split at hx
 ·split at hx
  ·rename_i x hg;simp only[X0,Prod.mk.injEq] at hx;obtain⟨rfl,rfl⟩:=hx;have⟨a,h1,h2⟩:=hl.get hg;refine⟨(Xj.1 h1).1, ?_⟩;simp only[pvPart,h1];exact h2
  ·cases hx
 ·split at hx
  ·rename_i n hle;simp only[X0,Prod.mk.injEq] at hx;obtain⟨rfl,rfl⟩:=hx;refine⟨by show _≤l.length;rw[hl.len];exact hle, ?_⟩;simp only[pvPart,SR];exact⟨_,rfl,(hl.drop off).take n⟩
  ·cases hx
 ·cases hx
end
abbrev SEnv (D:SD):=List (Nat×SV D.S)
abbrev GTab (D:SD):=Nat→Option (Σ t:Ty,List (Den D.S t))
section
variable (D:SD) (P:Program)
def xrd:SEnv D→Nat→SV D.S
 |[],_=>.any
 |(i,v)::r,t=>bif Nat.beq i t then v else xrd r t
def xrdo (GT:GTab D) (en:SEnv D):Operand→SV D.S
 | .tmp t=>xrd D en t
 | .const v=>ofA D (.im (.val v))
 | .global g=>(match GT g with
  |some ⟨t,xs⟩=>.fp t xs 0 0
  |none=>.any)
 | .func f=>.c (.func (.func f) #[] #[])
def GTOk (GT:GTab D):Prop:=∀g t xs,GT g=some ⟨t,xs⟩→globAt globs g=some (fzC D t xs)∧0<xs.length
def gfl (en:SEnv D) (t:Nat) (p:Bool):Option Bool:=match xrd D en t with
 | .b g=>some (bif p then g else !g)
 | .cnd _ _ g1 (.b g)=>some (cond g1 (bif p then g else !g) false)
 |_=>none
def impB (en:SEnv D):Nat→Nat→Bool→Nat→Bool→Bool
  |0,_,_,_,_=>false
  |n+1,t,p,t',p'=>(Nat.beq t t'&&(p==p'))||(match xrd D en t with
    | .cnd t1 p1 _ (.b _)=>impB en n t1 p1 t' p'
    |_=>false)
variable (en:SEnv D) (im:Nat→Bool→Bool)
def x1 (x:SV D.S) (f:SV D.S→XV D):XV D:=match xok D im x with
 |some (c,v)=>(match f v with
  |some (d,w)=>some (c++d,w)
  |none=>none)
 |none=>none
def x2 (x y:SV D.S) (f:SV D.S→SV D.S→XV D):XV D:=match xok D im x,xok D im y with
 |some (c,v),some (c',v')=>(match f v v' with
  |some (d,w)=>some (c++(c'++d),w)
  |none=>none)
 |_,_=>none
def impO (en:SEnv D) (im:Nat→Bool→Bool) (c:Operand) (p:Bool) (t:Nat) (q:Bool):Bool:=im t q||(match c with
  | .tmp s=>impB D en 5 s p t q
  |_=>false)
def xpick (ρ:Operand→SV D.S) (c a b:Operand):XV D:=match xok D im (ρ c),xok D (impO D en im c true) (ρ a),xok D (impO D en im c false) (ρ b) with
 |some (cc,.b g),some (ca,x),some (cb,y)=>(match xselB D g x y with
  |some v=>some (cc++(ca.map (.imp g)++cb.map (.imn g)),v)
  |none=>none)
 |_,_,_=>none
def xidx2 (σ:Sto D) (tn:xTn) (t:TypeId) (x i:SV D.S):XV D:=match x,i with
 | .fp (.arr an at_) xs m o,.i _ j=>(match alen P t,ez P t with
  |some n,some k=>some ([.idx j n],.fp (.arr an at_) xs m (o+j.toNat*k))
  |_,_=>none)
 | .fp u xs 0 0,.i kk j=>(match alen P t with
  |some n=>if n≤xs.length∧ez P t=some (nl D u) then some ([.idx j n],.fp u xs j.toNat 0) else none
  |none=>none)
 | .ptr v l m o,.i _ j=>(match alen P t,ez P t with
  |some n,some k=>some ([.idx j n],.ptr v l m (o+j.toNat*k))
  |_,_=>none)
 |x,i=>xidx D P σ tn t x i
def xmin (x y:SV D.S):XV D:=match x,y with
 | .i k a,.i _ b=>some ([],.i k (if b<a then b else a))
 |_,_=>none
def xmax (x y:SV D.S):XV D:=match x,y with
 | .i k a,.i _ b=>some ([],.i k (if b>a then b else a))
 |_,_=>none
def xstr (t:TypeId) (x i:SV D.S):XV D:=match x,i with
 | .s s,.i _ j=>if tk P t=2 then some ([.idx j s.size],.i .u8 (s.data.toList.getD j.toNat 0).toNat) else none
 |_,_=>none
def xslc (t:TypeId) (x:SV D.S) (lo hi:Option (SV D.S)):XV D:=match x,lo,hi with
 | .d u xs,none,some (.i _ j)=>(match ez P t with
  |some k=>bif tk P t==1&&Nat.beq k (nl D u) then some ([.lim j (List.length xs)],.d u (List.take j.toNat xs)) else none
  |none=>none)
 | .d u xs,some (.i _ j),none=>(match ez P t with
  |some k=>bif tk P t==1&&Nat.beq k (nl D u) then some ([.lim j (List.length xs)],.d u (List.drop j.toNat xs)) else none
  |none=>none)
 |_,_,_=>none
def xlite (σ:Sto D) (tn:xTn) (ρ:Operand→SV D.S):Op→XV D
 | .move x=>xok D im (ρ x)
 | .assign x=>xok D im (ρ x)
 | .pick c a b=>xpick D en im ρ c a b
 | .binOp op t x y _=>x2 D im (ρ x) (ρ y) (xbin D P t op)
 | .unOp op _ x=>x1 D im (ρ x) (xun D op)
 | .convert s d x=>x1 D im (ρ x) (xconv D P s d)
 | .fieldAddr s x f=>x1 D im (ρ x) (xfa D P s f)
 | .field t x f=>x1 D im (ρ x) fun v=>match v,fl P t f with
  | .agg cs,some (off,ty)=>xpart D cs off (lz P ty)
  |_,_=>none
 | .indexAddr t x i=>x2 D im (ρ x) (ρ i) (xidx2 D P σ tn t)
 | .index t x i=>x2 D im (ρ x) (ρ i) (xstr D P t)
 | .load t x=>x1 D im (ρ x) (xld D P σ tn t)
 | .extract x i=>x1 D im (ρ x) fun v=>match v with
  | .tup vs=>(match vs[i]? with
   |some w=>some ([],w)
   |none=>none)
  |_=>none
 | .slice t x none (some hi) none=>x2 D im (ρ x) (ρ hi) fun v w=>xslc D P t v none (some w)
 | .slice t x (some lo) none none=>x2 D im (ρ x) (ρ lo) fun v w=>xslc D P t v (some w) none
 | .call ⟨.builtin .len,⟨[x]⟩,⟨[t]⟩⟩=>x1 D im (ρ x) (xlen D P σ tn t)
 | .call ⟨.builtin .min,⟨[x,y]⟩,_⟩=>x2 D im (ρ x) (ρ y) (xmin D)
 | .call ⟨.builtin .max,⟨[x,y]⟩,_⟩=>x2 D im (ρ x) (ρ y) (xmax D)
 |_=>none
end
section
variable {D:SD} {P:Program} {h:Hp} {ω:Nat→AV} {σ:Sto D} {tn:xTn} {Rs:Nat→List Nat} {env:Env}
def EnvR (h:Hp) (ω:Nat→AV) (en:SEnv D) (env:Env):Prop:=∀i,SR D h ω (xrd D en i) (rd env i)
theorem xrdo_sr{GT:GTab D}(hG:GTOk D GT){en:SEnv D}(H:EnvR h ω en env)(x:Operand):SR D h ω (xrdo D GT en x) (rdo env x):=by
 cases x with
 |tmp t=>exact H t
 |const v=>exact ofA_sr _
 |global g=>
  cases hg:GT g with
  |none=>simp only[xrdo,hg,SR]
  |some p=>
   have⟨t,xs⟩:=p;have⟨h1,h2⟩:=hG g t xs hg;simp only[xrdo,hg,rdo,h1,SR]
   simp_all
 |func f=>rfl
theorem x1_some{im:Nat→Bool→Bool}{x v:SV D.S}{f:SV D.S→XV D}{cs:XCs}{a:AV}(hx:x1 D im x f=some (cs,v))(hc:XOk cs)(him:∀t p g y,x= .cnd t p g y→im t p=true→g=true)(ha:SR D h ω x a):gd a∧∃w d,f w=some (d,v)∧XOk d∧SR D h ω w (st a):=by
 unfold x1 at hx
 split at hx
 ·rename_i c w h1
  split at hx
  ·rename_i d u h2;simp only[X0,Prod.mk.injEq] at hx;obtain⟨rfl,rfl⟩:=hx;have⟨g1,g2⟩:=Y5j h1 hc.app.1 him ha;exact⟨g1,w,d,h2,hc.app.2,g2⟩
  ·cases hx
 ·cases hx
theorem x2_some{im:Nat→Bool→Bool}{x y v:SV D.S}{f:SV D.S→SV D.S→XV D}{cs:XCs}{a b:AV}(hx:x2 D im x y f=some (cs,v))(hc:XOk cs)(him:∀t p g z,(x= .cnd t p g z∨y= .cnd t p g z)→im t p=true→g=true)(ha:SR D h ω x a)(hb:SR D h ω y b):gd a∧gd b∧∃w w' d,f w w'=some (d,v)∧XOk d∧SR D h ω w (st a)∧SR D h ω w' (st b):=by
 unfold x2 at hx
 split at hx
 ·rename_i c w c' w' h1 h2
  split at hx
  ·rename_i d u h3;simp only[X0,Prod.mk.injEq] at hx;obtain⟨rfl,rfl⟩:=hx;have⟨g1,g2⟩:=Y5j h1 hc.app.1 (fun t p g y e=>him t p g y (.inl e)) ha;have⟨g3,g4⟩:=Y5j h2 hc.app.2.app.1 (fun t p g y e=>him t p g y (.inr e)) hb;exact⟨g1,g3,w,w',d,h3,hc.app.2.app.2,g2,g4⟩
  ·cases hx
 ·cases hx
theorem xidx2_sound(R:xRep D σ (tnF tn) ω Rs h){t:TypeId}{x i v:SV D.S}{cs:XCs}{a b:AV}(hx:xidx2 D P σ tn t x i=some (cs,v))(hc:XOk cs)(ha:SR D h ω x a)(hb:SR D h ω i b):poIdx P h t a b∧SR D h ω v (pvIdx (ez P t) a b):=by
 unfold xidx2 at hx
 split at hx
 ·rename_i an at_ xs m o _ j
  split at hx
  ·rename_i n k hn hk;simp only[X0,Prod.mk.injEq] at hx;obtain⟨rfl,rfl⟩:=hx;have hj:0≤j∧j<(n:Int):=hc (.idx j n) (by simp);simp only[SR] at ha hb;obtain⟨h1,rfl⟩:=ha;subst hb;refine⟨by simp only[poIdx,hk,hn];exact hj, ?_⟩;rw[hk];simp only[pvIdx,SR]
   grind
  ·cases hx
 ·rename_i u xs kk j _
  split at hx
  ·rename_i n hn
   split at hx
   ·rename_i hk;simp only[X0,Prod.mk.injEq] at hx;obtain⟨rfl,rfl⟩:=hx;have hj:0≤j∧j<(n:Int):=hc (.idx j n) (by simp);simp only[SR] at ha hb;obtain⟨_,rfl⟩:=ha;subst hb;refine⟨by simp only[poIdx,hk.2,hn];exact hj, ?_⟩;rw[hk.2];simp only[pvIdx,SR]
    grind
   ·cases hx
  ·cases hx
 ·rename_i v' l m o _ j
  split at hx
  ·rename_i n k hn hk;simp only[X0,Prod.mk.injEq] at hx;obtain⟨rfl,rfl⟩:=hx;have hj:0≤j∧j<(n:Int):=hc (.idx j n) (by simp);simp only[SR] at ha hb;obtain⟨hd',r,ver,rt,h1,h2,h3,h4,rfl⟩:=ha;subst hb;refine⟨by simp only[poIdx,hk,hn,h3,X0b,h4];simp_all, ?_⟩;rw[hk];simp only[pvIdx,SR]
   grind
  ·cases hx
 ·exact xidx_sound R hx hc ha hb
def CndOK (en:SEnv D):Prop:=∀i t p g x,xrd D en i= .cnd t p g x→gfl D en t p=some g
theorem impB_sound{en:SEnv D}(hC:CndOK en):∀(n t:Nat) (p:Bool) (t':Nat) (p':Bool),gfl D en t p=some true→impB D en n t p t' p'=true→gfl D en t' p'=some true
 |0,_,_,_,_,_,h=>by cases h
 |n+1,t,p,t',p',hg,h=>by
  simp only[impB,X02,X2,beq_iff_eq] at h;rcases h with⟨h1,h2⟩|h
  ·simp_all
  ·split at h
   ·rename_i t1 p1 g1 g hx;refine impB_sound hC n t1 p1 t' p' ?_ h;rw[hC _ _ _ _ _ hx];unfold gfl at hg
    simp_all
   ·cases h
theorem fmx_take{α β:Type}{f:α→List β}{k:Nat}(hf:∀y,(f y).length=k):∀(xs:List α) (j:Nat),(xs.take j).flatMap f=(xs.flatMap f).take (j*k)∧(xs.drop j).flatMap f=(xs.flatMap f).drop (j*k)
 |[],j=>by simp
 |x::xs,0=>by simp
 |x::xs,j+1=>by
  have⟨h1,h2⟩:=fmx_take hf xs j;have e:(j+1)*k=(f x).length+j*k:=by rw[hf,X0w,X0r]
  simp only[X07,X0z,Xr,e];exact⟨by rw[List.take_length_add_append,h1],by rw[List.drop_length_add_append,h2]⟩
theorem xslc_sound{t:TypeId}{x v:SV D.S}{lo hi:Option (SV D.S)}{cs:XCs}{a:AV}{la ha:Option AV}(hx:xslc D P t x lo hi=some (cs,v))(hc:XOk cs)(h1:SR D h ω x a)(h2:∀y,lo=some y→∃b,la=some b∧SR D h ω y b)(h3:∀y,hi=some y→∃b,ha=some b∧SR D h ω y b)(h4:lo=none→la=none)(h5:hi=none→ha=none):
  Y91 P h t a la ha∧SR D h ω v (Y8k (ez P t) a la ha):=by
 unfold xslc at hx
 split at hx
 ·rename_i u xs k' j
  split at hx
  ·rename_i k hk;have⟨hb,hx'⟩:=Y2l hx;clear hx;simp only[X2,beq_iff_eq] at hb;have hk':=Xe hb.2;subst hk';simp only[X0,Prod.mk.injEq] at hx';obtain⟨rfl,rfl⟩:=hx';have hj:0≤j∧j≤(xs.length:Int):=hc (.lim j xs.length) (by simp);have⟨b,e,hb'⟩:=h3 _ rfl;rw[h4 rfl,e];simp only[SR] at h1 hb';subst h1 hb';simp only[Y91,Y8k,hk,okLo,Y86,Y4i,SR];refine⟨⟨hb.1,hj,trivial⟩, ?_⟩;have hle:j.toNat≤xs.length:=by omega
   rw[X0q,X1b,Nat.sub_zero,Xz,Nat.min_eq_left hle];show _=AV.im (.sl ((xs.take j.toNat).flatMap (encT D u)) _);rw[(fmx_take (encT_len u) xs j.toNat).1]
   rfl
  ·cases hx
 ·rename_i u xs k' j
  split at hx
  ·rename_i k hk;have⟨hb,hx'⟩:=Y2l hx;clear hx;simp only[X2,beq_iff_eq] at hb;have hk':=Xe hb.2;subst hk';simp only[X0,Prod.mk.injEq] at hx';obtain⟨rfl,rfl⟩:=hx';have hj:0≤j∧j≤(xs.length:Int):=hc (.lim j xs.length) (by simp);have⟨b,e,hb'⟩:=h2 _ rfl;rw[h5 rfl,e];simp only[SR] at h1 hb';subst h1 hb';simp only[Y91,Y8k,hk,okLo,Y86,Y4i,SR];refine⟨⟨hb.1,trivial,hj⟩, ?_⟩;rw[X0k];show _=AV.im (.sl ((xs.drop j.toNat).flatMap (encT D u)) _);rw[(fmx_take (encT_len u) xs j.toNat).2,Xu]
   ·rfl
   ·rw[X0k,fzC,flatMap_len (encT_len u),Nat.sub_mul];exact Xk _
  ·cases hx
 ·cases hx
theorem xlite_sound(R:xRep D σ (tnF tn) ω Rs h){en:SEnv D}{im:Nat→Bool→Bool}{ρ:Operand→SV D.S}{ρa:Operand→AV}(hC:CndOK en)(hI:∀t p,im t p=true→gfl D en t p=some true)(hE:∀x t p g y,ρ x= .cnd t p g y→gfl D en t p=some g)(hT:∀s,ρ (.tmp s)=xrd D en s)(hρ:∀x,SR D h ω (ρ x) (ρa x)){op:Op}{cs:XCs}{v:SV D.S}(hx:xlite D P en im σ tn ρ op=some (cs,v))(hc:XOk cs):po P h ρa op∧SR D h ω v (pv P h ρa op):=by
 have hm:∀x t p g y,ρ x= .cnd t p g y→im t p=true→g=true:=fun x t p g y e hi=>by
  grind
 have hm2:∀x y t p g z,(ρ x= .cnd t p g z∨ρ y= .cnd t p g z)→im t p=true→g=true:=fun x y t p g z e hi=>by
  grind
 unfold xlite at hx
 split at hx
 ·exact Y5j hx hc (hm _) (hρ _)
 ·exact Y5j hx hc (hm _) (hρ _)
 ·rename_i c a b;unfold xpick at hx
  split at hx
  ·rename_i cc g ca x cb y h1 h2 h3
   split at hx
   ·rename_i w h4;simp only[X0,Prod.mk.injEq] at hx;obtain⟨rfl,rfl⟩:=hx;have⟨g1,g2⟩:=Y5j h1 hc.app.1 (hm _) (hρ c)
    --what the condition of the choice says
    have hsel:∀q:Bool,g=q→∀t p,impO D en im c q t p=true→gfl D en t p=some true:=fun q hq t p hi=>by
     unfold impO at hi;simp only[X02] at hi;rcases hi with hi|hi
     ·grind
     ·split at hi
      ·rename_i s;refine impB_sound hC 5 s q t p ?_ hi;have e:=hT s;have h1':=h1;rw[e] at h1';unfold gfl;unfold xok at h1'
       split at h1'
       ·cases h1'
       ·rename_i t1 p1 gg y he;have hcnd:gg=true:=by
         have hx1:=hE (.tmp s) t1 p1 gg y (by rw[e,he])
         split at h1'
         ·cases h1'
         ·cases h1'
         ·cases him:im t1 p1 with
          |true=>grind
          |false=>
           rw[him,cond_false] at h1';simp only[X0,Prod.mk.injEq] at h1';exact hc.app.1 (.tr gg) (by grind)
        have hy:y= .b g:=by
         grind
        rw[he,hy];subst hcnd hq;cases g<;>rfl
       grind
      ·cases hi
    have hA:g=true→gd (ρa a)∧SR D h ω x (st (ρa a)):=fun e=>Y5j h2 (fun c hc'=>hc.app.2.app.1 (.imp g c) (Xp.2 ⟨c,hc',rfl⟩) e) (fun t p g' y e' hi=>by
     grind) (hρ a)
    have hB:g=false→gd (ρa b)∧SR D h ω y (st (ρa b)):=fun e=>Y5j h3 (fun c hc'=>hc.app.2.app.2 (.imn g c) (Xp.2 ⟨c,hc',rfl⟩) e) (fun t p g' y e' hi=>by
     grind) (hρ b)
    have⟨s1,s2⟩:=xsel_sound (h:=h) (ω:=ω) h4;simp only[SR] at g2;refine⟨⟨g1, ?_⟩, ?_⟩
    ·unfold poPick
     grind
    ·simp only[pv,pvPick];rw[g2];cases g with
     |true=>show SR D h ω w (selA true _ _);rw[selA_true];grind
     |false=>show SR D h ω w (selA false _ _);rw[selA_false];grind
   ·cases hx
  ·cases hx
 ·rename_i op t x y _;have⟨g1,g2,w,w',d,h1,h2,h3,h4⟩:=x2_some hx hc (hm2 _ _) (hρ x) (hρ y);have⟨k1,k2⟩:=xbin_sound h1 h2 h3 h4;exact⟨⟨g1,g2,k1⟩,k2⟩
 ·rename_i op _ x;have⟨g1,w,d,h1,h2,h3⟩:=x1_some hx hc (hm _) (hρ x);have⟨k1,k2⟩:=xun_sound h1 h2 h3;exact⟨⟨g1,k1⟩,k2⟩
 ·rename_i s d x;have⟨g1,w,d,h1,h2,h3⟩:=x1_some hx hc (hm _) (hρ x);have⟨k1,k2⟩:=xconv_sound h1 h3;exact⟨⟨g1,k1⟩,k2⟩
 ·rename_i s x f;have⟨g1,w,d,h1,h2,h3⟩:=x1_some hx hc (hm _) (hρ x);have⟨k1,k2⟩:=xfa_sound h1 h3;exact⟨⟨g1,k1⟩,k2⟩
 ·rename_i t x f;have⟨g1,w,d,h1,h2,h3⟩:=x1_some hx hc (hm _) (hρ x)
  split at h1
  ·rename_i l off ty hf;simp only[SR] at h3;have⟨l',e,h3⟩:=h3;have⟨k1,k2⟩:=xpart_sound h1 h3;refine⟨⟨g1, ?_⟩, ?_⟩
   ·unfold poFld;grind
   ·simp only[pv,pvFld];grind
  ·cases h1
 ·rename_i t x i;have⟨g1,g2,w,w',d,h1,h2,h3,h4⟩:=x2_some hx hc (hm2 _ _) (hρ x) (hρ i);have⟨k1,k2⟩:=xidx2_sound R h1 h2 h3 h4;exact⟨⟨g1,g2,k1⟩,k2⟩
 ·rename_i t x i;have⟨g1,g2,w,w',d,h1,h2,h3,h4⟩:=x2_some hx hc (hm2 _ _) (hρ x) (hρ i);unfold xstr at h1
  split at h1
  ·rename_i s _ j
   split at h1
   ·rename_i ht;simp only[X0,Prod.mk.injEq] at h1;obtain⟨rfl,rfl⟩:=h1;have hj:0≤j∧j<(s.size:Int):=h2 (.idx j s.size) (by simp);simp only[SR] at h3 h4;refine⟨⟨g1,g2, ?_⟩, ?_⟩
    ·rw[h3,h4];exact⟨ht,hj⟩
    ·simp only[pv];rw[h3,h4];rfl
   ·cases h1
  ·cases h1
 ·rename_i t x;have⟨g1,w,d,h1,h2,h3⟩:=x1_some hx hc (hm _) (hρ x);have⟨k1,k2⟩:=xld_sound R h1 h3;exact⟨⟨g1,k1⟩,k2⟩
 ·rename_i x i;have⟨g1,w,d,h1,h2,h3⟩:=x1_some hx hc (hm _) (hρ x)
  split at h1
  ·split at h1
   ·rename_i vs w' hg;simp only[X0,Prod.mk.injEq] at h1;obtain⟨rfl,rfl⟩:=h1;simp only[SR] at h3;have⟨l,e,h3⟩:=h3;have⟨b,k1,k2⟩:=h3.get hg;refine⟨⟨g1, ?_⟩, ?_⟩
    ·rw[e];exact(Xj.1 k1).1
    ·simp only[pv,pvExt];grind
   ·cases h1
  ·cases h1
 ·rename_i t x hi;have⟨g1,g2,w,w',d,h1,h2,h3,h4⟩:=x2_some hx hc (hm2 _ _) (hρ x) (hρ hi);have⟨k1,k2⟩:=xslc_sound (la:=none) (ha:=some (st (ρa hi))) h1 h2 h3 (fun y e=>by cases e) (fun y e=>by grind) (fun _=>rfl) (fun e=>by cases e);exact⟨⟨g1,trivial,g2,k1⟩,k2⟩
 ·rename_i t x lo;have⟨g1,g2,w,w',d,h1,h2,h3,h4⟩:=x2_some hx hc (hm2 _ _) (hρ x) (hρ lo);have⟨k1,k2⟩:=xslc_sound (la:=some (st (ρa lo))) (ha:=none) h1 h2 h3 (fun y e=>by grind) (fun y e=>by cases e) (fun e=>by cases e) (fun _=>rfl);exact⟨⟨g1,g2,trivial,k1⟩,k2⟩
 ·rename_i x t;have⟨g1,w,d,h1,h2,h3⟩:=x1_some hx hc (hm _) (hρ x);have⟨k1,k2⟩:=xlen_sound R h1 h3;exact⟨⟨g1,k1⟩,k2⟩
 ·rename_i x y _;have⟨g1,g2,w,w',d,h1,h2,h3,h4⟩:=x2_some hx hc (hm2 _ _) (hρ x) (hρ y);unfold xmin at h1
  split at h1
  ·simp only[X0,Prod.mk.injEq] at h1;obtain⟨rfl,rfl⟩:=h1;simp only[SR] at h3 h4;refine⟨⟨g1,g2, ?_⟩, ?_⟩
   ·rw[h3,h4];trivial
   ·simp only[pv];rw[h3,h4];rfl
  ·cases h1
 ·rename_i x y _;have⟨g1,g2,w,w',d,h1,h2,h3,h4⟩:=x2_some hx hc (hm2 _ _) (hρ x) (hρ y);unfold xmax at h1
  split at h1
  ·simp only[X0,Prod.mk.injEq] at h1;obtain⟨rfl,rfl⟩:=h1;simp only[SR] at h3 h4;refine⟨⟨g1,g2, ?_⟩, ?_⟩
   ·rw[h3,h4];trivial
   ·simp only[pv];rw[h3,h4];rfl
  ·cases h1
 ·cases hx
end
abbrev TE:=TypeId→Option Ty
section
variable (D:SD) (P:Program)
def svl:List (SV D.S)→Option (List (xLf D.S))
 |[]=>some []
 |x::r=>match x,svl r with
  | .i k n,some l=>some (⟨.int k,n⟩::l)
  | .b p,some l=>some (⟨.bool,p⟩::l)
  | .s p,some l=>some (⟨.str,p⟩::l)
  | .d t xs,some l=>some (⟨.fz t,xs⟩::l)
  | .k i x,some l=>some (⟨.ks i,x⟩::l)
  |_,_=>none
def svO:SV D.S→Bool
 | .i _ _=>true
 | .b _=>true
 | .s _=>true
 | .d _ _=>true
 | .k _ _=>true
 | .c v=>v.oneCell'
 |_=>false
def svCs:SV D.S→Option (List (SV D.S))
 | .agg cs=>bif cs.all (svO D) then some cs else none
 |x=>bif svO D x then some [x] else none
def plc (place:Nat→Option (Nat×Nat)):List (SV D.S)→List (Nat×List (SV D.S))→Option (List (SV D.S))
 |cells,[]=>some cells
 |cells,(i,cs)::rest=>match place i with
  |none=>none
  |some (off,size)=>bif Nat.beq cs.length size&&Nat.ble (off+cs.length) cells.length then plc place (cells.take off++cs++cells.drop (off+cs.length)) rest else none
def xps (im:Nat→Bool→Bool):List (Nat×SV D.S)→Option (XCs×List (Nat×List (SV D.S)))
 |[]=>some ([],[])
 |(i,x)::r=>match xok D im x,xps im r with
  |some (c,v),some (cs,ps)=>(match svCs D v with
   |some l=>some (c++cs,(i,l)::ps)
   |none=>none)
  |_,_=>none
def ofZ (z:List Value):List (SV D.S):=z.map fun v=>ofA D (.im (.val v))
def xbuild (im:Nat→Bool→Bool) (t:TypeId) (ps:List (Nat×SV D.S)):XV D:=match zc P t,fps P t,xps D im ps with
 |some z,some fs,some (cs,qs)=>(match plc D (fs[·]?) (ofZ D z) qs with
  |some l=>some (cs,.agg l)
  |none=>none)
 |some z,none,some (cs,qs)=>(match alen P t,ez P t with
  |some _,some k=>(match plc D (fun i=>some (i*k,k)) (ofZ D z) qs with
   |some l=>some (cs,.agg l)
   |none=>none)
  |_,_=>none)
 |_,_,_=>none
def dchk (t:Ty) (k:Nat):Nat→List (xLf D.S)→Option (List (Den D.S t))
 |0,[]=>some []
 |n+1,ls=>(match unl D t (ls.take k),dchk t k n (ls.drop k) with
  |some x,some xs=>some (x::xs)
  |_,_=>none)
 |_,_=>none
def xbsl (te:TE) (im:Nat→Bool→Bool) (t:TypeId) (n:Nat) (ps:List (Nat×SV D.S)):XV D:=match elemE P t,xps D im ps with
 |some (e,k,_,z),some (cs,qs)=>(match te e,plc D (fun i=>some (i*k,k)) (ofZ D (List.replicate n z).flatten) qs with
  |some ty,some l=>(match svl D l with
   |some ls=>bif Nat.ble (n*k) 16777216&&Nat.beq ls.length (n*k) then(match dchk D ty k n ls with
    |some xs=>some (cs,.d ty xs)
    |none=>none) else none
   |none=>none)
  |_,_=>none)
 |_,_=>none
end
section
variable {D:SD} {P:Program} {h:Hp} {ω:Nat→AV} {env:Env}
theorem Y7n : ∀ {cs : List (SV D.S)} {ls : List (xLf D.S)} {l : List AV}, svl D cs = some ls → SRL D h ω cs l → l = ls.map (lfA D)
  | [], ls, l, hs, H => by
    simp only [svl, X0] at hs
    simp only [SRL] at H
    simp_all
  | x :: r, ls, l, hs, H => by
    simp only [SRL] at H
    obtain ⟨a, l', rfl, k1, k2⟩ := H
    simp only [svl] at hs
    split at hs <;> first
      | (rename_i h1
         simp only [X0] at hs
         subst hs
         rw [Y7n h1 k2]
         simp only [SR] at k1
         rw [k1]
         rfl)
      | cases hs
theorem svl_plain : ∀ {cs : List (SV D.S)} {ls : List (xLf D.S)}, svl D cs = some ls → ∀ l ∈ ls, ownB l.1 = false
  | [], ls, hs, l, hl => by
    simp only [svl, X0] at hs
    simp_all
  | x :: r, ls, hs, l, hl => by
    simp only [svl] at hs
    split at hs <;> first
      | (rename_i h1
         simp only [X0] at hs
         subst hs
         rcases Xb.1 hl with rfl | hl
         · rfl
         · exact svl_plain h1 l hl)
      | cases hs
theorem svl_pl : ∀ {cs : List (SV D.S)} {ls : List (xLf D.S)}, svl D cs = some ls → ∀ l ∈ ls, plainB l.1 = true
  | [], ls, hs, l, hl => by simp only [svl, X0] at hs; simp_all
  | c :: cs, ls, hs, l, hl => by
    simp only [svl] at hs
    split at hs <;> first
      | (rename_i h1
         simp only [X0] at hs
         subst hs
         rcases Xb.1 hl with rfl | hl
         · rfl
         · exact svl_pl h1 l hl)
      | cases hs
theorem SRL.app:∀{xs ys:List (SV D.S)} {l m:List AV},SRL D h ω xs l→SRL D h ω ys m→SRL D h ω (xs++ys) (l++m)
 |[],ys,l,m,H,H'=>by rw[SRL] at H;simp_all
 |x::xs,ys,l,m,H,H'=>by
  rw[SRL] at H;obtain⟨a,l',rfl,k1,k2⟩:=H;show SRL D h ω (x::(xs++ys)) (a::(l'++m));rw[SRL];exact⟨_,_,rfl,k1,SRL.app k2 H'⟩
theorem svO_one{x:SV D.S}{a:AV}(hx:svO D x=true)(ha:SR D h ω x a):oneA h a:=by
 cases x<;>first
  |(cases hx;done)
  |(simp only[SR] at ha;rw[ha];first|exact hx|exact trivial|exact rfl|exact ksC_one h _)
theorem svCs_ok{x:SV D.S}{cs:List (SV D.S)}{a:AV}(hx:svCs D x=some cs)(ha:SR D h ω x a):okC h a∧SRL D h ω cs (Y1r a):=by
 unfold svCs at hx
 split at hx
 ·rename_i l;have⟨hb,hx⟩:=Y2l hx;simp only[X0] at hx;subst hx;simp only[SR] at ha;obtain⟨m,rfl,hm⟩:=ha;refine⟨?_,hm⟩;have key:∀(l:List (SV D.S)) (m:List AV),l.all (svO D)=true→SRL D h ω l m→∀y∈m,oneA h y:=fun l=>by
   induction l with
   |nil=>intro m _ hm y hy;rw[SRL] at hm;simp_all
   |cons c l ih=>
    intro m hb hm y hy;rw[SRL] at hm;obtain⟨a,m',rfl,k1,k2⟩:=hm;simp only[X1a,X2] at hb;rcases Xb.1 hy with rfl|hy
    ·exact svO_one hb.1 k1
    grind
  exact key l m hb hm
 ·have⟨hb,hx⟩:=Y2l hx;simp only[X0] at hx;subst hx;have h1:=svO_one hb ha;rw[Y5o h1];exact⟨Y6b h1,by rw[SRL];exact⟨_,_,rfl,ha,by rw[SRL]⟩⟩
def PsR (D:SD) (h:Hp) (ω:Nat→AV):List (Nat×List (SV D.S))→List (Nat×AV)→Prop
 |[],l=>l=[]
 |(i,cs)::r,l=>∃a l',l=(i,a)::l'∧okC h a∧SRL D h ω cs (Y1r a)∧PsR D h ω r l'
theorem PsR.ok:∀{qs:List (Nat×List (SV D.S))} {l:List (Nat×AV)},PsR D h ω qs l→∀p∈l,okC h p.2
 |[],l,H,p,hp=>by rw[PsR] at H;simp_all
 |(i,cs)::r,l,H,p,hp=>by
  rw[PsR] at H;obtain⟨a,l',rfl,k1,_,k3⟩:=H;rcases Xb.1 hp with rfl|hp
  ·exact k1
  ·exact PsR.ok k3 p hp
theorem plc_sound{place:Nat→Option (Nat×Nat)}:∀{qs:List (Nat×List (SV D.S))} {cells out:List (SV D.S)} {ac:List AV} {l:List (Nat×AV)},plc D place cells qs=some out→SRL D h ω cells ac→PsR D h ω qs l→∃ao,Y7a h place ac l=some ao∧SRL D h ω out ao
 |[],cells,out,ac,l,hp,hc,hq=>by
  simp only[plc,X0] at hp;subst hp;rw[PsR] at hq;subst hq;exact⟨ac,rfl,hc⟩
 |(i,cs)::r,cells,out,ac,l,hp,hc,hq=>by
  rw[PsR] at hq;obtain⟨a,l',rfl,_,k2,k3⟩:=hq;simp only[plc] at hp
  split at hp
  ·cases hp
  ·rename_i off size hpl;have⟨hb,hp⟩:=Y2l hp;simp only[X2] at hb;have h1:=Xe hb.1;have h2:=X9 hb.2;have⟨ao,g1,g2⟩:=plc_sound hp (SRL.app (SRL.app (hc.take off) k2) (hc.drop (off+cs.length))) k3;refine⟨ao, ?_,g2⟩;have e1:=k2.len;have e2:=hc.len;simp only[Y7a,hpl];rw[if_pos ⟨by omega,by omega⟩];unfold putA
   simp_all
theorem xps_sound{im:Nat→Bool→Bool}{ρ:Operand→SV D.S}{ρa:Operand→AV}(hρ:∀x,SR D h ω (ρ x) (ρa x)):∀{ps:List (Nat×Operand)} {cs:XCs} {qs:List (Nat×List (SV D.S))},xps D im (ps.map fun p=>(p.1,ρ p.2))=some (cs,qs)→XOk cs→(∀x t p g y,ρ x= .cnd t p g y→im t p=true→g=true)→
  (∀p∈ps,gd (ρa p.2))∧PsR D h ω qs (ps.map fun p=>(p.1,st (ρa p.2)))
 |[],cs,qs,hx,_,_=>by
  simp only[X0s,xps,X0,Prod.mk.injEq] at hx;obtain⟨_,rfl⟩:=hx;exact⟨fun p hp=>(by cases hp),by rw[X0s,PsR]⟩
 |(i,x)::r,cs,qs,hx,hc,hm=>by
  simp only[Xo,xps] at hx
  split at hx
  ·rename_i c v cs' ps' h1 h2
   split at hx
   ·rename_i l hl;simp only[X0,Prod.mk.injEq] at hx;obtain⟨rfl,rfl⟩:=hx;have⟨g1,g2⟩:=Y5j h1 hc.app.1 (fun t p g y e=>hm x t p g y e) (hρ x);have⟨g3,g4⟩:=xps_sound hρ h2 hc.app.2 hm;have⟨k1,k2⟩:=svCs_ok hl g2;refine⟨fun p hp=> ?_, ?_⟩
    ·grind
    ·rw[Xo,PsR]
     grind
   ·cases hx
  ·cases hx
theorem ofZ_sr:∀(z:List Value),SRL D h ω (ofZ D z) (z.map fun v=>.im (.val v))
 |[]=>by rfl
 |v::z=>by
  show SRL D h ω (ofA D (.im (.val v))::ofZ D z) _;rw[SRL];exact⟨_,_,rfl,ofA_sr _,ofZ_sr z⟩
theorem xbuild_sound{im:Nat→Bool→Bool}{ρ:Operand→SV D.S}{ρa:Operand→AV}(hρ:∀x,SR D h ω (ρ x) (ρa x)){t:TypeId}{ps:Array (Nat×Operand)}{cs:XCs}{v:SV D.S}(hx:xbuild D P im t (ps.toList.map fun p=>(p.1,ρ p.2))=some (cs,v))(hc:XOk cs)(hm:∀x t p g y,ρ x= .cnd t p g y→im t p=true→g=true):
  po P h ρa (.build t ps)∧SR D h ω v (pv P h ρa (.build t ps)):=by
 unfold xbuild at hx
 split at hx
 ·rename_i z fs cs' qs hz hf hq
  split at hx
  ·rename_i l hl;simp only[X0,Prod.mk.injEq] at hx;obtain⟨rfl,rfl⟩:=hx;have⟨k1,k2⟩:=xps_sound hρ hq hc hm;have⟨ao,g1,g2⟩:=plc_sound hl (ofZ_sr z) k2;refine⟨⟨k1,k2.ok, ?_⟩, ?_⟩
   ·simp_all
   ·simp only[pv,pvBuild,hz,hf,g1,SR]
    simp_all
  ·cases hx
 ·rename_i z cs' qs hz hf hq
  split at hx
  ·rename_i n k hn hk
   split at hx
   ·rename_i l hl;simp only[X0,Prod.mk.injEq] at hx;obtain⟨rfl,rfl⟩:=hx;have⟨k1,k2⟩:=xps_sound hρ hq hc hm;have⟨ao,g1,g2⟩:=plc_sound hl (ofZ_sr z) k2;refine⟨⟨k1,k2.ok, ?_⟩, ?_⟩
    ·simp_all
    ·simp only[pv,pvBuild,hz,hf,hn,hk,g1,SR]
     simp_all
   ·cases hx
  ·cases hx
 ·cases hx
theorem dchk_sound{t:Ty}{k:Nat}:∀{n:Nat} {ls:List (xLf D.S)} {xs:List (Den D.S t)},dchk D t k n ls=some xs→xs.length=n∧fzC D t xs=ls.map (lfIV D)
 |0,[],xs,hc=>by simp only[dchk,X0] at hc;subst hc;exact⟨rfl,rfl⟩
 |0,_::_,xs,hc=>by simp only[dchk] at hc;cases hc
 |n+1,ls,xs,hc=>by
  simp only[dchk] at hc
  split at hc
  ·rename_i x ys h1 h2;simp only[X0] at hc;subst hc;have⟨g1,g2⟩:=dchk_sound h2;refine⟨by simp[g1], ?_⟩;show encT D t x++fzC D t ys=_;rw[g2,encT_lvs,Y7m _ _ _ h1, ←X0j,X0i]
  ·cases hc
theorem xbsl_sound{te:TE}{im:Nat→Bool→Bool}{ρ:Operand→SV D.S}(hρ:∀x,SR D h ω (ρ x) (rdo env x)){o:Oper}{t:TypeId}{n:Nat}{ps:List (Nat×Operand)}{cs:XCs}{v:SV D.S}(ho:o.op= .buildSlice t n ps.toArray)(hx:xbsl D P te im t n (ps.map fun p=>(p.1,ρ p.2))=some (cs,v))(hc:XOk cs)(hm:∀x t p g y,ρ x= .cnd t p g y→im t p=true→g=true):
  ∃av,(∀h',(∀q rt,h.at q=some rt→h'.at q=some rt)→(∀x,okC h x→okC h' x)→HStep P o env h' h' av)∧SR D h ω v av:=by
 unfold xbsl at hx
 split at hx
 ·rename_i e k bytes z cs' qs hE hq
  split at hx
  ·rename_i ty l hty hl
   split at hx
   ·rename_i ls hls;have⟨hb,hx⟩:=Y2l hx;simp only[X2] at hb;have hb1:=X9 hb.1;have hb2:=Xe hb.2
    split at hx
    ·rename_i xs hxs;simp only[X0,Prod.mk.injEq] at hx;obtain⟨rfl,rfl⟩:=hx;have⟨k1,k2⟩:=xps_sound hρ hq hc hm;have⟨ao,g1,g2⟩:=plc_sound hl (ofZ_sr _) k2;have e1:=Y7n hls g2;have⟨c1,c2⟩:=dchk_sound hxs;have e2:ao=(fzC D ty xs).map AV.im:=by rw[e1,c2,X1o];rfl
     refine⟨.im (.sl (fzC D ty xs) n),fun h' _ F=> ?_,by simp only[SR];rw[c1]⟩;refine Y2c (Quiet.buildI (o:={o with guard:=none}) (ps:=ps) (ys:=fzC D ty xs) ho (Y33 hE) hb1 (gpoU rfl ⟨k1,fun p hp=>F _ (k2.ok (p.1,st (rdo env p.2)) (Xp.2 ⟨p,hp,rfl⟩)), ?_,fun x hx=> ?_,by rw[c2,Xw,hb2]⟩))
     ·have:∀(qs:List (Nat×AV)) (cells:List AV),Y7a h' (fun i=>some (i*k,k)) cells qs=Y7a h (fun i=>some (i*k,k)) cells qs:=fun qs=>by
       induction qs with
       |nil=>intro cells;rfl
       |cons q qs ih=>intro cells;have⟨i,v⟩:=q;simp only[Y7a,ih]
      rw[this, ←e2];have ez:zerosA z n=((List.replicate n z).flatten.map fun v=>AV.im (.val v)):=rfl
      simp_all
     ·rw[←e2,e1] at hx;obtain⟨lf,hlf,rfl⟩:=Xp.1 hx;exact(plain_one (D:=D) (h:=h') (svl_pl hls lf hlf)).1
    ·cases hx
   ·cases hx
  ·cases hx
 ·cases hx
theorem xbsl_cells{te:TE}{im:Nat→Bool→Bool}{ρ:Operand→SV D.S}(hρ:∀x,SR D h ω (ρ x) (rdo env x)){t:TypeId}{n:Nat}{ps:List (Nat×Operand)}{cs:XCs}{v:SV D.S}(hx:xbsl D P te im t n (ps.map fun p=>(p.1,ρ p.2))=some (cs,v))(hc:XOk cs)(hm:∀x t p g y,ρ x= .cnd t p g y→im t p=true→g=true):
  ∃e k bytes z ty,∃xs:List (Den D.S ty),v= .d ty xs∧elemE P t=some (e,k,bytes,z)∧n*k≤16777216∧(∀p∈ps,gd (rdo env p.2))∧(∀p∈ps,okC h (st (rdo env p.2)))∧Y7a h (fun i=>some (i*k,k)) (zerosA z n) (ps.map fun p=>(p.1,st (rdo env p.2)))=some ((fzC D ty xs).map AV.im)∧(∀x∈(fzC D ty xs).map AV.im,oneA h x)∧xs.length=n∧((fzC D ty xs).map AV.im).length=n*k:=by
 unfold xbsl at hx
 split at hx
 ·rename_i e k bytes z cs' qs hE hq
  split at hx
  ·rename_i ty l hty hl
   split at hx
   ·rename_i ls hls;have⟨hb,hx⟩:=Y2l hx;simp only[X2] at hb;have hb1:=X9 hb.1;have hb2:=Xe hb.2
    split at hx
    ·rename_i xs hxs;simp only[X0,Prod.mk.injEq] at hx;obtain⟨rfl,rfl⟩:=hx;have⟨k1,k2⟩:=xps_sound hρ hq hc hm;have⟨ao,g1,g2⟩:=plc_sound hl (ofZ_sr _) k2;have e1:=Y7n hls g2;have⟨c1,c2⟩:=dchk_sound hxs;have e2:ao=(fzC D ty xs).map AV.im:=by rw[e1,c2,X1o];rfl
     refine⟨e,k,bytes,z,ty,xs,rfl,hE,hb1,k1,fun p hp=>k2.ok (p.1,st (rdo env p.2)) (Xp.2 ⟨p,hp,rfl⟩), ?_,fun x hx=> ?_,c1,by rw[←e2,e1,Xw,hb2]⟩
     ·rw[←e2];exact g1
     ·rw[←e2,e1] at hx;obtain⟨lf,hlf,rfl⟩:=Xp.1 hx;exact(plain_one (D:=D) (h:=h) (svl_pl hls lf hlf)).1
    ·cases hx
   ·cases hx
  ·cases hx
 ·cases hx
end
end Go.Abs
