/- Own work. -/
import Derived.Test.YtfpcbalkioolmaaDoorSymA
set_option linter.unusedSimpArgs false
set_option linter.unusedVariables false
namespace Go.Abs
inductive Ty where
 |int (k:IntKind)|bool|str|fz (t:Ty)|sl (e:TypeId) (t:Ty)|st (i:Nat)|arr (n:Nat) (t:Ty)|rp (t:Ty)|ks (i:Nat)
def Den (S:Nat→Type):Ty→Type
 | .int _=>Int
 | .bool=>Bool
 | .str=>ByteArray
 | .fz t=>List (Den S t)
 | .sl _ t=>List (Den S t)
 | .st i=>S i
 | .arr _ t=>List (Den S t)
 | .rp t=>Den S t
 | .ks i=>S i
abbrev xLf (S:Nat→Type):=Σ t:Ty,Den S t
def dftS (S:Nat→Type) (z:(i:Nat)→S i):(t:Ty)→Den S t
 | .int _=>(0:Int)
 | .bool=>false
 | .str=>⟨#[]⟩
 | .fz _=>[]
 | .sl _ _=>[]
 | .st i=>z i
 | .arr n t=>List.replicate n (dftS S z t)
 | .rp t=>dftS S z t
 | .ks i=>z i
def ksC:List IV→IV
 | .mp m::_=>.mp m
 |_=>.mp []
def encS (S:Nat→Type) (z:(i:Nat)→S i) (enc:(i:Nat)→S i→List IV):(t:Ty)→Den S t→List IV
 | .int k,x=>[.val (.int k x)]
 | .bool,x=>[.val (.bool x)]
 | .str,x=>[.val (.string x)]
 | .fz t,xs=>[.sl (List.flatMap (encS S z enc t) xs) (List.length xs)]
 | .sl _ t,xs=>[.sl (List.flatMap (encS S z enc t) xs) (List.length xs)]
 | .st i,x=>enc i x
 | .arr n t,xs=>(List.range n).flatMap fun j=>encS S z enc t (List.getD xs j (dftS S z t))
 | .rp _,_=>[.val undef]
 | .ks i,x=>[ksC (enc i x)]
def lfS' (S:Nat→Type) (z:(i:Nat)→S i) (enc:(i:Nat)→S i→List IV) (l:xLf S):IV:=(encS S z enc l.1 l.2).headD (.val undef)
def oneT:Ty→Bool
 | .st _=>false
 | .arr _ _=>false
 |_=>true
def ownB:Ty→Bool
 | .sl _ _=>true
 |_=>false
structure SD where
 S:Nat→Type
 n:Nat→Nat
 z:(i:Nat)→S i
 enc:(i:Nat)→S i→List IV
 lv:(i:Nat)→S i→List (xLf S)
 un:(i:Nat)→List (xLf S)→Option (S i)
 len:∀i x,(lv i x).length=n i
 sound:∀i ls x,un i ls=some x→lv i x=ls
 ok:∀i x,enc i x=(lv i x).map (lfS' S z enc)
 one:∀i x,∀l∈lv i x,oneT l.1=true
 pl:Nat→Bool
 pln:∀i,pl i=true→∀x,∀l∈lv i x,ownB l.1=false
section
variable (D:SD)
def nl:Ty→Nat
 | .st i=>D.n i
 | .arr n t=>n*nl t
 |_=>1
abbrev dft:=dftS D.S D.z
def gt (t:Ty) (xs:List (Den D.S t)) (j:Nat):Den D.S t:=xs.getD j (dft D t)
def lvs:(t:Ty)→Den D.S t→List (xLf D.S)
 | .int k,x=>[⟨.int k,x⟩]
 | .bool,x=>[⟨.bool,x⟩]
 | .str,x=>[⟨.str,x⟩]
 | .fz t,x=>[⟨.fz t,x⟩]
 | .sl e t,x=>[⟨.sl e t,x⟩]
 | .st i,x=>D.lv i x
 | .arr n t,xs=>(List.range n).flatMap fun j=>lvs t (List.getD xs j (dft D t))
 | .rp t,x=>[⟨.rp t,x⟩]
 | .ks i,x=>[⟨.ks i,x⟩]
theorem lvs_len:∀(t:Ty) (x:Den D.S t),(lvs D t x).length=nl D t
 | .int _,_=>rfl
 | .bool,_=>rfl
 | .str,_=>rfl
 | .fz _,_=>rfl
 | .sl _ _,_=>rfl
 | .st i,x=>D.len i x
 | .rp _,_=>rfl
 | .ks _,_=>rfl
 | .arr n t,xs=>by
  simp only[lvs,nl];have:∀l:List Nat,(l.flatMap fun j=>lvs D t (List.getD xs j (dft D t))).length=l.length*nl D t:=fun l=>by
   induction l with
   |nil=>simp
   |cons a l ih=>rw[Xr,X4,lvs_len t,ih,X7,X0w,X0r]
  rw[this,List.length_range]
end
def tyEq:(a b:Ty)→Option (PLift (a=b))
 | .int k,.int k'=>if h:k=k' then some ⟨h▸rfl⟩ else none
 | .bool,.bool=>some ⟨rfl⟩
 | .str,.str=>some ⟨rfl⟩
 | .fz t,.fz u=>match tyEq t u with
  |some h=>some ⟨h.down▸rfl⟩
  |none=>none
 | .rp t,.rp u=>match tyEq t u with
  |some h=>some ⟨h.down▸rfl⟩
  |none=>none
 | .sl e t,.sl f u=>if h:e=f then(match tyEq t u with
  |some h'=>some ⟨by rw[h,h'.down]⟩
  |none=>none) else none
 | .st i,.st j=>if h:i=j then some ⟨h▸rfl⟩ else none
 | .ks i,.ks j=>if h:i=j then some ⟨h▸rfl⟩ else none
 | .arr n t,.arr m u=>if h:n=m then(match tyEq t u with
  |some h'=>some ⟨by rw[h,h'.down]⟩
  |none=>none) else none
 |_,_=>none
def cst {S:Nat→Type} (t:Ty) (l:xLf S):Option (Den S t):=match tyEq l.1 t with
 |some h=>some (h.down▸l.2)
 |none=>none
theorem cst_sound{S:Nat→Type}{t:Ty}{l:xLf S}{x:Den S t}(h:cst t l=some x):l=⟨t,x⟩:=by
 have⟨u,y⟩:=l;unfold cst at h
 grind
def unN {α β:Type} (F:List α→Option β) (k:Nat) (ls:List α):Nat→Nat→Option (List β)
 |0,_=>some []
 |m+1,s=>match unN F k ls m (s+1),F ((ls.drop (s*k)).take k) with
  |some xs,some x=>some (x::xs)
  |_,_=>none
theorem unN_sound{α β:Type}{F:List α→Option β}{k:Nat}{ls:List α}:∀{m s:Nat} {xs:List β},unN F k ls m s=some xs→xs.length=m∧∀j,j<m→∃x,xs[j]? =some x∧F ((ls.drop ((s+j)*k)).take k)=some x
 |0,s,xs,h=>by
  simp only[unN,X0] at h
  simp_all
 |m+1,s,xs,h=>by
  simp only[unN] at h
  split at h
  ·rename_i ys x h1 h2;simp only[X0] at h;subst h;have⟨g1,g2⟩:=unN_sound h1
   grind
  ·cases h
def oneL {S:Nat→Type} (t:Ty):List (xLf S)→Option (Den S t)
 |[l]=>cst t l
 |_=>none
theorem oneL_sound{S:Nat→Type}{t:Ty}{ls:List (xLf S)}{x:Den S t}(h:oneL t ls=some x):ls=[⟨t,x⟩]:=by
 unfold oneL at h
 split at h
 ·rw[cst_sound h]
 ·cases h
section
variable (D:SD)
def unl:(t:Ty)→List (xLf D.S)→Option (Den D.S t)
 | .st i,ls=>D.un i ls
 | .arr n t,ls=>if ls.length=n*nl D t then unN (unl t) (nl D t) ls n 0 else none
 | .int k,ls=>oneL (.int k) ls
 | .bool,ls=>oneL .bool ls
 | .str,ls=>oneL .str ls
 | .fz t,ls=>oneL (.fz t) ls
 | .sl e t,ls=>oneL (.sl e t) ls
 | .rp t,ls=>oneL (.rp t) ls
 | .ks i,ls=>oneL (.ks i) ls
end
section
variable (D:SD)
abbrev encT:=encS D.S D.z D.enc
abbrev lfIV:=lfS' D.S D.z D.enc
def lfA (l:xLf D.S):AV:=.im (lfIV D l)
abbrev xnilA:AV:=.im (.val (.slice none 0 0))
abbrev Pth:=List (Nat×Nat)
abbrev LRel:=Option Pth→xLf D.S→AV→List Nat→Prop
def LsR (R:LRel D):(Nat→Option Pth)→List (xLf D.S)→List AV→List Nat→Prop
 |_,[],cs,rs=>cs=[]∧rs=[]
 |δ,l::ls,cs,rs=>∃a cs' r rs',cs=a::cs'∧rs=r++rs'∧R (δ 0) l a r∧LsR R (fun j=>δ (j+1)) ls cs' rs'
def ElR (R:LRel D) (t:Ty):(Nat→Nat→Option Pth)→List (Den D.S t)→List AV→List Nat→Prop
 |_,[],cs,rs=>cs=[]∧rs=[]
 |δ,x::xs,cs,rs=>∃c cs' r rs',cs=c++cs'∧rs=r++rs'∧LsR D R (δ 0) (lvs D t x) c r∧ElR R t (fun j=>δ (j+1)) xs cs' rs'
def xsel (δ:Option Pth) (i o:Nat):Option Pth:=match δ with
 |some ((i',o')::q)=>if i'=i∧o'=o then some q else none
 |_=>none
def BlkR (R:LRel D) (δ:Option Pth) (rt:Rt) (t:Ty) (xs:List (Den D.S t)) (rs:List Nat):Prop:=
 rt.live=true∧rt.k=nl D t∧∃ds post,rt.cs=ds++post∧ElR D R t (xsel δ) xs ds rs
def HdR (h:Hp) (R:LRel D) (δ:Option Pth) (e:TypeId) (t:Ty) (xs:List (Den D.S t)) (a:AV) (rs:List Nat):Prop:=
 (xs=[]∧a=xnilA∧rs=[])∨∃r rt rs',a= .rsl r rt.ver 0 xs.length∧h.at r=some rt∧rt.e=e∧BlkR D R δ rt t xs rs'∧rs=r::rs'
def LfR (h:Hp):Nat→LRel D
 |0,δ,l,a,rs=>δ=none∧ownB l.1=false∧a=lfA D l∧rs=[]
 |n+1,δ,l,a,rs=>(δ=none∧ownB l.1=false∧a=lfA D l∧rs=[])∨(δ=some []∧(∃e t,l=⟨.sl e t,[]⟩)∧rs=[])∨(δ≠some []∧∃e t xs,l=⟨.sl e t,xs⟩∧HdR D h (LfR h n) δ e t xs a rs)
structure Bv where
 box:Bool
 e:TypeId
 t:Ty
 xs:List (Den D.S t)
def BkR (h:Hp) (δ:Option Pth) (b:Bv D) (a:AV) (rs:List Nat):Prop:=
 if b.box=true then b.xs.length=1∧∃r rt rs',a= .ref r rt.ver 0∧h.at r=some rt∧BlkR D (LfR D h 9) δ rt b.t b.xs rs'∧rs=r::rs'
 else HdR D h (LfR D h 9) δ b.e b.t b.xs a rs
end
def Ent (a:AV) (i r ver:Nat):Prop:=(∃m,a= .rsl r ver 0 m∧i<m)∨(a= .ref r ver 0∧i=0)
def IsHd (a:AV):Prop:=a=xnilA∨∃r ver m,a= .rsl r ver 0 m
def HdAt (h:Hp):AV→Pth→AV→Prop
 |a,[],b=>b=a
 |a,(i,o)::l,b=>∃r ver rt c,Ent a i r ver∧h.at r=some rt∧rt.ver=ver∧rt.cs[i*rt.k+o]? =some c∧IsHd c∧HdAt h c l b
section
variable {D:SD} {h h':Hp}
theorem LsR.mono{R R':LRel D}:∀{ls:List (xLf D.S)} {δ:Nat→Option Pth} {cs:List AV} {rs:List Nat},LsR D R δ ls cs rs→(∀q l a r,r ⊆ rs→R q l a r→R' q l a r)→LsR D R' δ ls cs rs
 |[],_,_,_,H,_=>H
 |l::ls,δ,cs,rs,H,hk=>by
  obtain⟨a,cs',r,rs',rfl,rfl,h1,h2⟩:=H;exact⟨a,cs',r,rs',rfl,rfl,hk _ l a r (fun x hx=>by simp[hx]) h1,LsR.mono h2 fun q l a r hr=>hk q l a r fun x hx=>by grind⟩
theorem ElR.mono{R R':LRel D}{t:Ty}:∀{xs:List (Den D.S t)} {δ:Nat→Nat→Option Pth} {cs:List AV} {rs:List Nat},ElR D R t δ xs cs rs→(∀q l a r,r ⊆ rs→R q l a r→R' q l a r)→ElR D R' t δ xs cs rs
 |[],_,_,_,H,_=>H
 |x::xs,δ,cs,rs,H,hk=>by
  obtain⟨c,cs',r,rs',rfl,rfl,h1,h2⟩:=H;exact⟨c,cs',r,rs',rfl,rfl,h1.mono fun q l a r' hr=>hk q l a r' fun y hy=>by grind,ElR.mono h2 fun q l a r' hr=>hk q l a r' fun y hy=>by grind⟩
theorem BlkR.mono{R R':LRel D}{δ:Option Pth}{rt:Rt}{t:Ty}{xs:List (Den D.S t)}{rs:List Nat}(H:BlkR D R δ rt t xs rs)(hk:∀q l a r,r ⊆ rs→R q l a r→R' q l a r):BlkR D R' δ rt t xs rs:=by
 have⟨h1,h2,ds,post,h3,h4⟩:=H;exact⟨h1,h2,ds,post,h3,h4.mono hk⟩
theorem LfR.frame:∀(n:Nat) {δ:Option Pth} {l:xLf D.S} {a:AV} {rs:List Nat},LfR D h n δ l a rs→(∀r∈rs,h'.at r=h.at r)→LfR D h' n δ l a rs
 |0,_,_,_,_,H,_=>H
 |n+1,δ,l,a,rs,H,hf=>by
  rcases H with H|H|⟨h0,e,t,xs,h1,h2⟩
  ·exact .inl H
  ·exact .inr (.inl H)
  ·refine .inr (.inr ⟨h0,e,t,xs,h1, ?_⟩);rcases h2 with h2|⟨r,rt,rs',a1,a2,a3,a4,rfl⟩
   ·exact .inl h2
   ·exact .inr ⟨r,rt,rs',a1,(hf r (by simp)).trans a2,a3,a4.mono fun q l a r' hr hl=>LfR.frame n hl fun y hy=>hf y (by grind),rfl⟩
theorem HdR.frame{n:Nat}{δ:Option Pth}{e:TypeId}{t:Ty}{xs:List (Den D.S t)}{a:AV}{rs:List Nat}(H:HdR D h (LfR D h n) δ e t xs a rs)(hf:∀r∈rs,h'.at r=h.at r):HdR D h' (LfR D h' n) δ e t xs a rs:=by
 rcases H with H|⟨r,rt,rs',a1,a2,a3,a4,rfl⟩
 ·exact .inl H
 ·exact .inr ⟨r,rt,rs',a1,(hf r (by simp)).trans a2,a3,a4.mono fun q l a r' hr hl=>LfR.frame n hl fun y hy=>hf y (by grind),rfl⟩
theorem BkR.frame{δ:Option Pth}{b:Bv D}{a:AV}{rs:List Nat}(H:BkR D h δ b a rs)(hf:∀r∈rs,h'.at r=h.at r):BkR D h' δ b a rs:=by
 unfold BkR at H⊢
 split
 ·rename_i hb;rw[if_pos hb] at H;obtain⟨h0,r,rt,rs',a1,a2,a4,rfl⟩:=H;exact⟨h0,r,rt,rs',a1,(hf r (by simp)).trans a2,a4.mono fun q l a r' hr hl=>LfR.frame 9 hl fun y hy=>hf y (by grind),rfl⟩
 ·rename_i hb;rw[if_neg hb] at H;exact H.frame hf
end
section
variable {D:SD} {h h':Hp} {R:LRel D}
theorem LsR.len:∀{ls:List (xLf D.S)} {δ:Nat→Option Pth} {cs:List AV} {rs:List Nat},LsR D R δ ls cs rs→cs.length=ls.length
 |[],_,_,_,H=>by rw[H.1];rfl
 |l::ls,δ,cs,rs,H=>by
  obtain⟨a,cs',r,rs',rfl,rfl,h1,h2⟩:=H;simp[LsR.len h2]
theorem LsR.at:∀{ls:List (xLf D.S)} {δ:Nat→Option Pth} {cs:List AV} {rs:List Nat} (o:Nat) {l:xLf D.S},LsR D R δ ls cs rs→ls[o]? =some l→
  ∃a p r s,cs[o]? =some a∧rs=p++(r++s)∧R (δ o) l a r∧∀(R':LRel D) (δ':Nat→Option Pth) (l':xLf D.S) (a':AV) (r':List Nat),(∀j,j≠o→δ' j=δ j)→(∀q l a r0,(∀x∈r0,x∈p∨x∈s)→R q l a r0→R' q l a r0)→R' (δ' o) l' a' r'→
   LsR D R' δ' (ls.set o l') (cs.set o a') (p++(r'++s))
 |[],_,_,_,o,l,_,hl=>by simp at hl
 |x::ls,δ,cs,rs,0,l,H,hl=>by
  obtain⟨a,cs',r,rs',rfl,rfl,h1,h2⟩:=H;simp only[X18,X0] at hl;subst hl;refine⟨a,[],r,rs',by simp,by simp,h1,fun R' δ' l' a' r' hδ hk hR=> ?_⟩;refine⟨a',cs',r',rs',by simp,by simp,hR, ?_⟩;have e:(fun j=>δ' (j+1))=fun j=>δ (j+1):=funext fun j=>hδ _ (by omega);rw[e];exact h2.mono fun q l a r0 hr=>hk q l a r0 fun x hx=>.inr (hr hx)
 |x::ls,δ,cs,rs,o+1,l,H,hl=>by
  obtain⟨a,cs',r,rs',rfl,rfl,h1,h2⟩:=H;simp only[X19] at hl;obtain⟨b,p,r1,s,g1,rfl,g3,g4⟩:=LsR.at o h2 hl;refine⟨b,r++p,r1,s,by simp_all,by simp,g3,fun R' δ' l' a' r' hδ hk hR=> ?_⟩;refine⟨a,cs'.set o a',r,p++(r'++s),by simp,by simp, ?_,g4 R' _ l' a' r' (fun j hj=>hδ _ (by omega)) (fun q l a r0 hr=>hk q l a r0 fun x hx=>by rcases hr x hx with h|h<;>simp[h]) hR⟩
  simp_all
theorem ElR.at{t:Ty}:∀{xs:List (Den D.S t)} {δ:Nat→Nat→Option Pth} {cs:List AV} {rs:List Nat} (i:Nat),ElR D R t δ xs cs rs→i<xs.length→
  ∃pre c post p r s,cs=pre++(c++post)∧pre.length=i*nl D t∧rs=p++(r++s)∧LsR D R (δ i) (lvs D t (gt D t xs i)) c r∧
   ∀(R':LRel D) (δ':Nat→Nat→Option Pth) (x':Den D.S t) (c':List AV) (r':List Nat),(∀j,j≠i→δ' j=δ j)→(∀q l a r0,(∀x∈r0,x∈p∨x∈s)→R q l a r0→R' q l a r0)→LsR D R' (δ' i) (lvs D t x') c' r'→
    ElR D R' t δ' (xs.set i x') (pre++(c'++post)) (p++(r'++s))
 |[],_,_,_,i,_,hi=>by simp at hi
 |x::xs,δ,cs,rs,0,H,hi=>by
  obtain⟨c,cs',r,rs',rfl,rfl,h1,h2⟩:=H;refine⟨[],c,cs',[],r,rs',by simp,by simp,by simp,h1,fun R' δ' x' c' r' hδ hk hR=> ?_⟩;refine⟨c',cs',r',rs',by simp,by simp,hR, ?_⟩;have e:(fun j=>δ' (j+1))=fun j=>δ (j+1):=funext fun j=>hδ _ (by omega);rw[e];exact h2.mono fun q l a r0 hr=>hk q l a r0 fun x hx=>.inr (hr hx)
 |x::xs,δ,cs,rs,i+1,H,hi=>by
  obtain⟨c,cs',r,rs',rfl,rfl,h1,h2⟩:=H;obtain⟨pre,c1,post,p,r1,s,rfl,g2,rfl,g3,g4⟩:=ElR.at i h2 (by simp_all);refine⟨c++pre,c1,post,r++p,r1,s,by simp, ?_,by simp,g3,fun R' δ' x' c' r' hδ hk hR=> ?_⟩
  ·rw[X4,g2,h1.len,lvs_len,X0w,X0r]
  ·refine⟨c,pre++(c'++post),r,p++(r'++s),by simp,by simp, ?_,g4 R' _ x' c' r' (fun j hj=>hδ _ (by omega)) (fun q l a r0 hr=>hk q l a r0 fun x hx=>by rcases hr x hx with h|h<;>simp[h]) hR⟩;rw[hδ 0 (by omega)];exact h1.mono fun q l a r0 hr=>hk q l a r0 fun y hy=>.inl (by grind)
theorem ElR.len{t:Ty}:∀{xs:List (Den D.S t)} {δ:Nat→Nat→Option Pth} {cs:List AV} {rs:List Nat},ElR D R t δ xs cs rs→cs.length=xs.length*nl D t
 |[],_,_,_,H=>by rw[H.1];simp
 |x::xs,δ,cs,rs,H=>by
  obtain⟨c,cs',r,rs',rfl,rfl,h1,h2⟩:=H;rw[X4,h1.len,lvs_len,ElR.len h2,X7,X0w,X0r]
theorem xset_mid{α:Type}{pre c post:List α}{o:Nat}{a:α}(ho:o<c.length):(pre++(c++post)).set (pre.length+o) a=pre++(c.set o a++post):=by
 rw[List.set_append_right _ _ (by omega),Nat.add_sub_cancel_left,List.set_append_left _ _ ho]
theorem BlkR.at{δ:Option Pth}{rt:Rt}{t:Ty}{xs:List (Den D.S t)}{rs:List Nat}(H:BlkR D R δ rt t xs rs){i o:Nat}{l:xLf D.S}(hi:i<xs.length)(hl:(lvs D t (gt D t xs i))[o]? =some l):
  ∃a p r s,rt.cs[i*rt.k+o]? =some a∧rs=p++(r++s)∧R (xsel δ i o) l a r∧∀(R':LRel D) (δ':Option Pth) (rt':Rt) (x':Den D.S t) (l':xLf D.S) (a':AV) (r':List Nat),(∀i' o',¬(i'=i∧o'=o)→xsel δ' i' o'=xsel δ i' o')→
   (∀q l a r0,(∀x∈r0,x∈p∨x∈s)→R q l a r0→R' q l a r0)→lvs D t x'=(lvs D t (gt D t xs i)).set o l'→R' (xsel δ' i o) l' a' r'→rt'.live=true→rt'.k=rt.k→rt'.cs=rt.cs.set (i*rt.k+o) a'→BlkR D R' δ' rt' t (xs.set i x') (p++(r'++s)):=by
 have⟨h1,h2,ds,post0,h3,h4⟩:=H;obtain⟨pre,c,post,p,r,s,rfl,g2,rfl,g3,g4⟩:=h4.at i hi;obtain⟨a,p1,r1,s1,k1,rfl,k3,k4⟩:=g3.at o hl;have hoc:o<c.length:=(Xj.1 k1).1;have hidx:i*rt.k+o=pre.length+o:=by rw[g2,h2]
 refine⟨a,p++p1,r1,s1++s, ?_,by simp,k3,fun R' δ' rt' x' l' a' r' hδ hk hx hR e1 e2 e3=> ?_⟩
 ·grind
 ·refine⟨e1,e2.trans h2,pre++(c.set o a'++post),post0, ?_, ?_⟩
  ·simp_all
  grind
end
section
variable (D:SD)
def navL:(t:Ty)→List (Den D.S t)→Pth→Option (Σ u:Ty,List (Den D.S u))
 |t,xs,[]=>some ⟨t,xs⟩
 |t,xs,(i,o)::l=>match (lvs D t (gt D t xs i))[o]? with
  |some ⟨.sl _ u,ys⟩=>navL u ys l
  |_=>none
def updL:(t:Ty)→List (Den D.S t)→Pth→((u:Ty)→List (Den D.S u)→Option (List (Den D.S u)))→Option (List (Den D.S t))
 |t,xs,[],f=>f t xs
 |t,xs,(i,o)::l,f=>match (lvs D t (gt D t xs i))[o]? with
  |some ⟨.sl e u,ys⟩=>(match updL u ys l f with
   |some zs=>(match unl D t ((lvs D t (gt D t xs i)).set o ⟨.sl e u,zs⟩) with
    |some x=>some (xs.set i x)
    |none=>none)
   |none=>none)
  |_=>none
end
section
variable {D:SD}
theorem getD_some{α:Type}{l:List α}{j:Nat}{y d:α}(h:l[j]? =some y):l.getD j d=y:=by simp_all
theorem chunksL{α:Type}(k:Nat):∀(n:Nat) (ls:List α),ls.length=n*k→(List.range n).flatMap (fun j=>(ls.drop (j*k)).take k)=ls
 |0,ls,h=>by simp_all
 |n+1,ls,h=>by
  rw[List.range_succ_eq_map,Xr,List.flatMap_map];have e:(fun j=>(ls.drop ((j+1)*k)).take k)=fun j=>((ls.drop k).drop (j*k)).take k:=funext fun j=>by rw[X1u,X0w,X0r]
  have:=chunksL k n (ls.drop k) (by grind);show(ls.drop (0*k)).take k++(List.range n).flatMap (fun j=>(ls.drop ((j+1)*k)).take k)=ls;rw[e,this,X0q,X1b,X0i]
theorem Y7m:∀(t:Ty) (ls:List (xLf D.S)) (x:Den D.S t),unl D t ls=some x→lvs D t x=ls
 | .st i,ls,x,h=>D.sound i ls x h
 | .int k,ls,x,h=>(oneL_sound h).symm
 | .bool,ls,x,h=>(oneL_sound h).symm
 | .str,ls,x,h=>(oneL_sound h).symm
 | .fz t,ls,x,h=>(oneL_sound h).symm
 | .sl e t,ls,x,h=>(oneL_sound h).symm
 | .rp t,ls,x,h=>(oneL_sound h).symm
 | .ks i,ls,x,h=>(oneL_sound h).symm
 | .arr n t,ls,x,h=>by
  have h:@Eq (Option (List (Den D.S t))) (if ls.length=n*nl D t then unN (unl D t) (nl D t) ls n 0 else none) (some x):=h
  by_cases hl:ls.length=n*nl D t
  ·rw[if_pos hl] at h;have⟨g1,g2⟩:=unN_sound h;have key:∀j,j∈List.range n→lvs D t (List.getD x j (dft D t))=(ls.drop (j*nl D t)).take (nl D t):=fun j hj=>by
    have⟨y,y1,y2⟩:=g2 j (Xy.1 hj);rw[X05] at y2;have e:List.getD x j (dft D t)=y:=getD_some y1;rw[e];exact Y7m t _ y y2
   have h2:∀l:List Nat,(∀j∈l,lvs D t (List.getD x j (dft D t))=(ls.drop (j*nl D t)).take (nl D t))→l.flatMap (fun j=>lvs D t (List.getD x j (dft D t)))=l.flatMap (fun j=>(ls.drop (j*nl D t)).take (nl D t)):=fun l hl=>by
    induction l with
    |nil=>rfl
    |cons a l ih=>rw[Xr,Xr,hl a (by simp),ih fun j hj=>hl j (by simp[hj])]
   simp only[lvs];rw[h2 _ key,chunksL (nl D t) n ls hl]
  simp_all
def selP:Option Pth→Pth→Option Pth
 |δ,[]=>δ
 |δ,(i,o)::l=>selP (xsel δ i o) l
def okP:Option Pth→Pth→Prop
 |_,[]=>True
 |δ,(i,o)::l=>xsel δ i o≠some []∧okP (xsel δ i o) l
def agP:Option Pth→Option Pth→Pth→Prop
 |_,_,[]=>True
 |δ,δ',(i,o)::l=>(∀i' o',¬(i'=i∧o'=o)→xsel δ' i' o'=xsel δ i' o')∧agP (xsel δ i o) (xsel δ' i o) l
theorem okP_none:∀l:Pth,okP none l
 |[]=>trivial
 |(i,o)::l=>⟨by simp[xsel],okP_none l⟩
theorem agP_refl:∀(δ:Option Pth) (l:Pth),agP δ δ l
 |_,[]=>trivial
 |δ,(i,o)::l=>⟨fun _ _ _=>rfl,agP_refl _ l⟩
theorem selP_none:∀l:Pth,selP none l=none
 |[]=>rfl
 |(i,o)::l=>selP_none l
variable {h:Hp}
theorem BlkR.step{n:Nat}{δ:Option Pth}{rt:Rt}{t:Ty}{xs:List (Den D.S t)}{rs:List Nat}(H:BlkR D (LfR D h n) δ rt t xs rs){i o:Nat}{e:TypeId}{u:Ty}{ys:List (Den D.S u)}(hi:i<xs.length)
  (hl:(lvs D t (gt D t xs i))[o]? =some ⟨.sl e u,ys⟩) (hδ:xsel δ i o≠some []):
  ∃c m p r s,n=m+1∧rt.cs[i*rt.k+o]? =some c∧rs=p++(r++s)∧HdR D h (LfR D h m) (xsel δ i o) e u ys c r∧
   ∀(h':Hp) (δ':Option Pth) (x':Den D.S t) (zs:List (Den D.S u)) (r':List Nat),(∀x,x∈p∨x∈s→h'.at x=h.at x)→(∀i' o',¬(i'=i∧o'=o)→xsel δ' i' o'=xsel δ i' o')→xsel δ' i o≠some []→
    lvs D t x'=(lvs D t (gt D t xs i)).set o ⟨.sl e u,zs⟩→HdR D h' (LfR D h' m) (xsel δ' i o) e u zs c r'→BlkR D (LfR D h' n) δ' rt t (xs.set i x') (p++(r'++s)):=by
 have⟨c,p,r,s,h1,h2,h3,h4⟩:=H.at hi hl;cases n with
 |zero=>exact absurd h3.2.1 (by simp[ownB])
 |succ m=>
  rcases h3 with h3|h3|⟨_,e',u',ys',h5,h6⟩
  ·exact absurd h3.2.1 (by simp[ownB])
  ·simp_all
  ·cases h5;refine⟨c,m,p,r,s,rfl,h1,h2,h6,fun h' δ' x' zs r' hf hag hok hx hH=> ?_⟩;refine h4 (LfR D h' (m+1)) δ' rt x' ⟨.sl e u,zs⟩ c r' hag (fun q l a r0 hr hl=>LfR.frame _ hl fun x hx=>hf x (hr x hx)) hx (.inr (.inr ⟨hok,e,u,zs,rfl,hH⟩)) H.1 rfl ?_;have⟨hlt,hge⟩:=Xj.1 h1;rw[←hge,List.set_getElem_self]
theorem HdR.ent{R:LRel D}{δ:Option Pth}{e:TypeId}{t:Ty}{xs:List (Den D.S t)}{a:AV}{rs:List Nat}(H:HdR D h R δ e t xs a rs){i r ver:Nat}(he:Ent a i r ver):i<xs.length∧∃rt rs',h.at r=some rt∧rt.ver=ver∧rt.e=e∧BlkR D R δ rt t xs rs'∧rs=r::rs'∧a= .rsl r ver 0 xs.length:=by
 rcases H with⟨_,rfl,_⟩|⟨r',rt,rs',rfl,h2,h3,h4,rfl⟩
 ·rcases he with⟨m,e1,_⟩|⟨e1,_⟩<;>cases e1
 ·rcases he with⟨m,e1,e2⟩|⟨e1,_⟩
  ·simp_all
  ·cases e1
theorem HdR.focus:∀(l:Pth) (n:Nat) {δ:Option Pth} {e:TypeId} {t:Ty} {xs:List (Den D.S t)} {a b:AV} {rs:List Nat} {u:Ty} {ys:List (Den D.S u)},HdR D h (LfR D h n) δ e t xs a rs→HdAt h a l b→navL D t xs l=some ⟨u,ys⟩→okP δ l→
  ∃m e' p r s,rs=p++(r++s)∧HdR D h (LfR D h m) (selP δ l) e' u ys b r∧∀(h':Hp) (δ':Option Pth) (f:(u:Ty)→List (Den D.S u)→Option (List (Den D.S u))) (zs:List (Den D.S t)) (ws:List (Den D.S u)) (r':List Nat),updL D t xs l f=some zs→f u ys=some ws→(∀x,x∈p∨x∈s→h'.at x=h.at x)→
   agP δ δ' l→okP δ' l→ws.length=ys.length→HdR D h' (LfR D h' m) (selP δ' l) e' u ws b r'→HdR D h' (LfR D h' n) δ' e t zs a (p++(r'++s))∧HdAt h' a l b∧zs.length=xs.length
 |[],n,δ,e,t,xs,a,b,rs,u,ys,H,hb,hn,ho=>by
  simp only[HdAt] at hb;subst hb;simp only[navL,X0,Sigma.mk.injEq] at hn;obtain⟨rfl,hn⟩:=hn;obtain rfl:=eq_of_heq hn;refine⟨n,e,[],rs,[],by simp,H,fun h' δ' f zs ws r' h1 h2 h3 h4 h5 hlen h6=> ?_⟩;simp only[updL] at h1;rw[h1] at h2;simp only[X0] at h2;subst h2;exact⟨by simpa [selP] using h6,rfl,hlen⟩
 |(i,o)::l,n,δ,e,t,xs,a,b,rs,u,ys,H,hb,hn,ho=>by
  simp only[HdAt] at hb;have⟨r0,ver,rt,c,e1,e2,e3,e4,eh,e5⟩:=hb;obtain⟨hi,rt',rs0,k1,k2,k3,k4,rfl,ka⟩:=H.ent e1;rw[e2] at k1;cases k1;simp only[navL] at hn
  split at hn
  ·rename_i e' u' ys' hl;obtain⟨c',m,p,r,s,rfl,g1,rfl,g3,g4⟩:=k4.step hi hl ho.1;rw[e4] at g1;cases g1;obtain⟨m',e'',p',r1,s',rfl,q2,q3⟩:=HdR.focus l m g3 e5 hn ho.2;refine⟨m',e'',r0::(p++p'),r1,s'++s,by simp,q2,fun h' δ' f zs ws r' h1 h2 h3 h4 h5 hlen h6=> ?_⟩;simp only[updL,hl] at h1
   split at h1
   ·rename_i zs' hz
    split at h1
    ·rename_i x' hx;simp only[X0] at h1;subst h1;have hr0:h'.at r0=some rt:=(h3 r0 (.inl (by simp))).trans e2;have⟨w1,w2,w3⟩:=q3 h' (xsel δ' i o) f zs' ws r' hz h2 (fun x hx=>h3 x (by rcases hx with h|h<;>simp[h])) h4.2 h5.2 hlen h6
     have w:=g4 h' δ' x' zs' (p'++(r'++s')) (fun x hx=>h3 x (by rcases hx with h|h<;>simp[h])) h4.1 h5.1 (Y7m t _ x' hx) w1;refine⟨.inr ⟨r0,rt,p++((p'++(r'++s'))++s), ?_,hr0,k3,w,by simp⟩,⟨r0,ver,rt,c,e1,hr0,e3,e4,eh,w2⟩,by simp⟩;rw[List.length_set,ka,e3]
    ·cases h1
   ·cases h1
  ·cases hn
end
section
variable {D:SD} {h:Hp}
theorem BkR.ent{δ:Option Pth}{b:Bv D}{a:AV}{rs:List Nat}(H:BkR D h δ b a rs){i r ver:Nat}(he:Ent a i r ver):i<b.xs.length∧∃rt rs',h.at r=some rt∧rt.ver=ver∧BlkR D (LfR D h 9) δ rt b.t b.xs rs'∧rs=r::rs'∧
  ∀(h':Hp) (δ':Option Pth) (rt':Rt) (ws:List (Den D.S b.t)) (rs'':List Nat),ws.length=b.xs.length→h'.at r=some rt'→rt'.ver=rt.ver→rt'.e=rt.e→BlkR D (LfR D h' 9) δ' rt' b.t ws rs''→BkR D h' δ' {b with xs:=ws} a (r::rs''):=by
 have⟨box,e,t,xs⟩:=b;unfold BkR at H;cases box with
 |true=>
  rw[if_pos rfl] at H;obtain⟨h1,r',rt,rs',rfl,h2,h3,rfl⟩:=H;rcases he with⟨m,e1,_⟩|⟨e1,e2⟩
  ·cases e1
  ·cases e1;refine⟨by omega,rt,rs',h2,rfl,h3,rfl,fun h' δ' rt' ws rs'' g1 g2 g3 g4 g5=> ?_⟩;unfold BkR;rw[if_pos rfl];exact⟨g1.trans h1,r,rt',rs'',by rw[g3],g2,g5,rfl⟩
 |false=>
  rw[if_neg (by simp)] at H;have⟨hi,rt,rs',k1,k2,k3,k4,k5,k6⟩:=H.ent he;refine⟨hi,rt,rs',k1,k2,k4,k5,fun h' δ' rt' ws rs'' g1 g2 g3 g4 g5=> ?_⟩;unfold BkR;rw[if_neg (by simp)];refine .inr ⟨r,rt',rs'', ?_,g2,g4.trans k3,g5,rfl⟩;rw[k6,g3,k2];show AV.rsl r ver 0 xs.length= .rsl r ver 0 ws.length;rw[show ws.length=xs.length from g1]
theorem BkR.at{δ:Option Pth}{b:Bv D}{a hd:AV}{rs:List Nat}{l:Pth}{u:Ty}{ys:List (Den D.S u)}{i r ver:Nat}(H:BkR D h δ b a rs)(hb:HdAt h a l hd)(hn:navL D b.t b.xs l=some ⟨u,ys⟩)(ho:okP δ l)(he:Ent hd i r ver):
  i<ys.length∧∃n rt p rs' s,h.at r=some rt∧rt.ver=ver∧rs=p++(r::(rs'++s))∧BlkR D (LfR D h n) (selP δ l) rt u ys rs'∧
   ∀(h':Hp) (δ':Option Pth) (f:(u:Ty)→List (Den D.S u)→Option (List (Den D.S u))) (zs:List (Den D.S b.t)) (ws:List (Den D.S u)) (rt':Rt) (rs'':List Nat),updL D b.t b.xs l f=some zs→f u ys=some ws→ws.length=ys.length→(∀x,x∈p∨x∈s→h'.at x=h.at x)→
    h'.at r=some rt'→rt'.ver=rt.ver→rt'.e=rt.e→BlkR D (LfR D h' n) (selP δ' l) rt' u ws rs''→agP δ δ' l→okP δ' l→BkR D h' δ' {b with xs:=zs} a (p++(r::(rs''++s)))∧HdAt h' a l hd:=by
 cases l with
 |nil=>
  simp only[HdAt] at hb;subst hb;simp only[navL,X0,Sigma.mk.injEq] at hn;obtain⟨rfl,hn⟩:=hn;obtain rfl:=eq_of_heq hn;obtain⟨hi,rt,rs',k1,k2,k3,rfl,k5⟩:=H.ent he;refine⟨hi,9,rt,[],rs',[],k1,k2,by simp,k3,fun h' δ' f zs ws rt' rs'' h1 h2 h3 h4 h5 h6 h7 h8 h9 h10=> ?_⟩;simp only[updL] at h1;rw[h1] at h2;simp only[X0] at h2;subst h2;exact⟨by simpa using k5 h' δ' rt' zs rs'' h3 h5 h6 h7 h8,rfl⟩
 |cons x l=>
  have⟨i0,o0⟩:=x;simp only[HdAt] at hb;have⟨r0,ver0,rt0,c,e1,e2,e3,e4,eh,e5⟩:=hb;obtain⟨hi0,rt0',rs0,k1,k2,k3,rfl,k5⟩:=H.ent e1;rw[e2] at k1;cases k1;simp only[navL] at hn
  split at hn
  ·rename_i e' u' ys' hl;obtain⟨c',m,p,r1,s,hm,g1,rfl,g3,g4⟩:=k3.step hi0 hl ho.1;rw[e4] at g1;cases g1;obtain⟨m',e'',p',r2,s',rfl,q2,q3⟩:=HdR.focus l m g3 e5 hn ho.2;obtain⟨hi,rt,rs',w1,w2,w3,w4,rfl,w6⟩:=q2.ent he;refine⟨hi,m',rt,r0::(p++p'),rs',s'++s,w1,w2,by simp,w4,fun h' δ' f zs ws rt' rs'' h1 h2 h3 h4 h5 h6 h7 h8 h9 h10=> ?_⟩;simp only[updL,hl] at h1
   split at h1
   ·rename_i zs' hz
    split at h1
    ·rename_i x' hx;simp only[X0] at h1;subst h1;have hr0:h'.at r0=some rt0:=(h4 r0 (.inl (by simp))).trans e2;have hH:HdR D h' (LfR D h' m') (selP δ' ((i0,o0)::l)) e'' u ws hd (r::rs''):=by
      refine .inr ⟨r,rt',rs'', ?_,h5,h7.trans w3,h8,rfl⟩;rw[w6,h6,w2,h3]
     have⟨v1,v2,v3⟩:=q3 h' (xsel δ' i0 o0) f zs' ws (r::rs'') hz h2 (fun x hx=>h4 x (by rcases hx with h|h<;>simp[h])) h9.2 h10.2 h3 hH;have v:=g4 h' δ' x' zs' (p'++((r::rs'')++s')) (fun x hx=>h4 x (by rcases hx with h|h<;>simp[h])) h9.1 h10.1 (Y7m b.t _ x' hx) v1
     have fin:=k5 h' δ' rt0 (b.xs.set i0 x') (p++((p'++((r::rs'')++s'))++s)) (by simp) hr0 rfl rfl (hm▸v);refine⟨?_,⟨r0,ver0,rt0,c,e1,hr0,e3,e4,eh,v2⟩⟩
     simp_all
    ·cases h1
   ·cases h1
  ·cases hn
end
inductive SV (S:Nat→Type) where
 |any
 |c (v:Value)
 |i (k:IntKind) (n:Int)
 |b (x:Bool)
 |s (x:ByteArray)
 |k (i:Nat) (x:S i)
 |d (t:Ty) (xs:List (Den S t))
 |fp (t:Ty) (xs:List (Den S t)) (j o:Nat)
 |agg (cs:List (SV S))
 |tup (cs:List (SV S))
 |ptr (v:Nat) (l:Pth) (j o:Nat)
 |vw (v:Nat) (l:Pth)
 |vp (v:Nat) (l:Pth) (n:Nat)
 |cnd (t:Nat) (p:Bool) (g:Bool) (x:SV S)
 |fn (f:FuncId) (cs:List (SV S))
section
variable (D:SD)
def fzC (t:Ty) (xs:List (Den D.S t)):List IV:=xs.flatMap (encT D t)
mutual
def SR (h:Hp) (ω:Nat→AV):SV D.S→AV→Prop
 | .any,_=>True
 | .c v,a=>a= .im (.val v)
 | .i k n,a=>a= .int k n
 | .b x,a=>a= .bool x
 | .s x,a=>a= .string x
 | .k i x,a=>a= .im (ksC (D.enc i x))
 | .d t xs,a=>a= .im (.sl (fzC D t xs) xs.length)
 | .fp t xs j o,a=>j<xs.length∧a= .ipt (fzC D t xs) (j*nl D t+o)
 | .agg cs,a=>∃l,a= .agg l∧SRL h ω cs l
 | .tup cs,a=>∃l,a= .tup l∧SRL h ω cs l
 | .ptr v l j o,a=>∃hd r ver rt,HdAt h (ω v) l hd∧Ent hd j r ver∧h.at r=some rt∧rt.ver=ver∧a= .ref r ver (j*rt.k+o)
 | .vw v l,a=>IsHd a∧HdAt h (ω v) l a
 | .vp v l n,a=>∃r ver m,HdAt h (ω v) l (.rsl r ver 0 m)∧n≤m∧Has h r ver∧a= .rsl r ver 0 n
 | .cnd _ _ g x,a=>∃b,a= .cnd g b∧(g=true→SR h ω x b)
 | .fn f cs,a=>∃l,a= .fnv f l∧SRL h ω cs l
def SRL (h:Hp) (ω:Nat→AV):List (SV D.S)→List AV→Prop
 |[],l=>l=[]
 |x::xs,l=>∃a l',l=a::l'∧SR h ω x a∧SRL h ω xs l'
end
abbrev Sto:=List (Nat×Bv D)
def getB:Sto D→Nat→Option (Bv D)
 |[],_=>none
 |(i,b)::r,v=>bif Nat.beq i v then some b else getB r v
def xsetB:Sto D→Nat→Bv D→Sto D
 |[],_,_=>[]
 |(i,b)::r,v,c=>bif Nat.beq i v then(i,c)::r else(i,b)::xsetB r v c
structure xRep (σ:Sto D) (δ:Nat→Option Pth) (ω:Nat→AV) (Rs:Nat→List Nat) (h:Hp):Prop where
 blk:∀v b,getB D σ v=some b→BkR D h (δ v) b (ω v) (Rs v)
 nd:∀v b,getB D σ v=some b→(Rs v).Nodup
 dj:∀v b v' b',getB D σ v=some b→getB D σ v'=some b'→v≠v'→∀x,x∈Rs v→x∉Rs v'
end
def HKeep (h h':Hp):Prop:=∀q rt,h.at q=some rt→∃rt',h'.at q=some rt'∧rt'.ver=rt.ver∧rt'.k=rt.k∧∀(j:Nat) c,rt.cs[j]? =some c→IsHd c→rt'.cs[j]? =some c
theorem HKeep.trans{h h1 h2:Hp}(K1:HKeep h h1)(K2:HKeep h1 h2):HKeep h h2:=fun q rt hq=>by
 have⟨r1,a1,a2,a3,a4⟩:=K1 q rt hq;have⟨r2,b1,b2,b3,b4⟩:=K2 q r1 a1
 simp_all
theorem HKeep.new{h:Hp}{r:Nat}{rt:Rt}(hr:h.at r=none):HKeep h ((r,rt)::h):=fun q rt' hq=>by
 refine⟨rt', ?_,rfl,rfl,fun _ _ hc _=>hc⟩;simp only[Hp.at]
 grind
theorem HdAt.keep{h h':Hp}(K:HKeep h h'):∀{l:Pth} {a b:AV},HdAt h a l b→HdAt h' a l b
 |[],_,_,H=>H
 |(i,o)::l,a,b,H=>by
  simp only[HdAt] at H⊢;have⟨r,ver,rt,c,e1,e2,e3,e4,eh,e5⟩:=H;have⟨rt',k1,k2,k3,k4⟩:=K r rt e2;exact⟨r,ver,rt',c,e1,k1,k2.trans e3,by simp_all,eh,HdAt.keep K e5⟩
section
variable {D:SD} {h h':Hp} {ω:Nat→AV}
mutual
theorem SR.keep(K:HKeep h h'):∀(x:SV D.S) (a:AV),SR D h ω x a→SR D h' ω x a
 | .any,_,_=>trivial
 | .c _,_,H=>by simpa only[SR] using H
 | .i _ _,_,H=>by simpa only[SR] using H
 | .b _,_,H=>by simpa only[SR] using H
 | .s _,_,H=>by simpa only[SR] using H
 | .k _ _,_,H=>by simpa only[SR] using H
 | .d _ _,_,H=>by simpa only[SR] using H
 | .fp _ _ _ _,_,H=>by simpa only[SR] using H
 | .agg cs,a,H=>by
  simp only[SR] at H⊢;have⟨l,e,H⟩:=H;exact⟨l,e,SRL.keep K cs l H⟩
 | .tup cs,a,H=>by
  simp only[SR] at H⊢;have⟨l,e,H⟩:=H;exact⟨l,e,SRL.keep K cs l H⟩
 | .ptr v l j o,a,H=>by
  simp only[SR] at H⊢;have⟨hd,r,ver,rt,e1,e2,e3,e4,e5⟩:=H;have⟨rt',k1,k2,k3,_⟩:=K r rt e3;exact⟨hd,r,ver,rt',e1.keep K,e2,k1,k2.trans e4,by simp_all⟩
 | .vw v l,a,H=>by
  simp only[SR] at H⊢;exact⟨H.1,H.2.keep K⟩
 | .vp v l n,a,H=>by
  simp only[SR] at H⊢;have⟨r,ver,m,e1,e2,e3,e4⟩:=H;refine⟨r,ver,m,e1.keep K,e2, ?_,e4⟩;unfold Has at e3⊢;cases hr:h.at r with
  |none=>simp_all
  |some rt=>
   have⟨rt',k1,k2,_⟩:=K r rt hr
   simp_all
 | .cnd _ _ g x,a,H=>by
  simp only[SR] at H⊢;have⟨b,e,H⟩:=H;exact⟨b,e,fun hg=>SR.keep K x b (H hg)⟩
 | .fn f cs,a,H=>by
  simp only[SR] at H⊢;have⟨l,e,H⟩:=H;exact⟨l,e,SRL.keep K cs l H⟩
theorem SRL.keep(K:HKeep h h'):∀(xs:List (SV D.S)) (l:List AV),SRL D h ω xs l→SRL D h' ω xs l
 |[],_,H=>by simpa only[SRL] using H
 |x::xs,l,H=>by
  simp only[SRL] at H⊢;have⟨a,l',e,h1,h2⟩:=H;exact⟨a,l',e,SR.keep K x a h1,SRL.keep K xs l' h2⟩
end
def lfS {S:Nat→Type} (v:Nat) (l:Pth):xLf S→SV S
 |⟨.int k,x⟩=>.i k x
 |⟨.bool,x⟩=>.b x
 |⟨.str,x⟩=>.s x
 |⟨.fz t,x⟩=>.d t x
 |⟨.ks i,x⟩=>.k i x
 |⟨.sl _ _,_⟩=>.vw v l
 |_=>.any
theorem lfS_plain{v:Nat}{l:Pth}:∀{x:xLf D.S} {a:AV},ownB x.1=false→a=lfA D x→SR D h ω (lfS v l x) a
 |⟨.int k,x⟩,a,_,e=>by simp only[lfS,SR];exact e
 |⟨.bool,x⟩,a,_,e=>by simp only[lfS,SR];exact e
 |⟨.str,x⟩,a,_,e=>by simp only[lfS,SR];exact e
 |⟨.fz t,x⟩,a,_,e=>by simp only[lfS,SR];exact e
 |⟨.sl _ _,_⟩,a,h,_=>by simp[ownB] at h
 |⟨.st _,_⟩,a,_,_=>by simp only[lfS,SR]
 |⟨.arr _ _,_⟩,a,_,_=>by simp only[lfS,SR]
 |⟨.rp _,_⟩,a,_,_=>by simp only[lfS,SR]
 |⟨.ks _,_⟩,a,_,e=>by simp only[lfS,SR];exact e
end
section
variable {D:SD} {h:Hp} {ω:Nat→AV}
theorem HdAt.snoc:∀{l:Pth} {a hd:AV} {j o r ver:Nat} {rt:Rt} {c:AV},HdAt h a l hd→Ent hd j r ver→h.at r=some rt→rt.ver=ver→rt.cs[j*rt.k+o]? =some c→IsHd c→HdAt h a (l++[(j,o)]) c
 |[],a,hd,j,o,r,ver,rt,c,H,e1,e2,e3,e4,e5=>by
  simp only[HdAt] at H;subst H;simp only[Xt,HdAt]
  grind
 |(i,p)::l,a,hd,j,o,r,ver,rt,c,H,e1,e2,e3,e4,e5=>by
  simp only[Xv,HdAt] at H⊢;have⟨r0,v0,rt0,c0,k1,k2,k3,k4,k5,k6⟩:=H;exact⟨r0,v0,rt0,c0,k1,k2,k3,k4,k5,HdAt.snoc k6 e1 e2 e3 e4 e5⟩
theorem okP_snoc:∀{l:Pth} {δ:Option Pth} {j o:Nat},okP δ (l++[(j,o)])↔okP δ l∧xsel (selP δ l) j o≠some []
 |[],δ,j,o=>by simp[okP,selP]
 |(i,p)::l,δ,j,o=>by simp only[Xv,okP,selP,okP_snoc];grind
theorem ksC_ne(l:List IV):∀v,ksC l= .val v→False:=fun v e=>by
 unfold ksC at e
 split at e<;>cases e
theorem lfIV_notHd:∀l:xLf D.S,oneT l.1=true→¬IsHd (lfA D l):=by
 rintro⟨t,x⟩ h1 (e|⟨r,ver,m,e⟩)
 ·cases t<;>first|(cases h1;done)|(cases e;done)|exact ksC_ne _ _ (AV.im.inj e)
 ·cases t<;>first|(cases h1;done)|(cases e;done)
theorem lvs_one:∀(t:Ty) (x:Den D.S t),∀l∈lvs D t x,oneT l.1=true
 | .int _,x,l,h=>by simp only[lvs,X8] at h;subst h;rfl
 | .bool,x,l,h=>by simp only[lvs,X8] at h;subst h;rfl
 | .str,x,l,h=>by simp only[lvs,X8] at h;subst h;rfl
 | .fz _,x,l,h=>by simp only[lvs,X8] at h;subst h;rfl
 | .sl _ _,x,l,h=>by simp only[lvs,X8] at h;subst h;rfl
 | .rp _,x,l,h=>by simp only[lvs,X8] at h;subst h;rfl
 | .ks _,x,l,h=>by simp only[lvs,X8] at h;subst h;rfl
 | .st i,x,l,h=>D.one i x l h
 | .arr n t,x,l,h=>by
  simp only[lvs,List.mem_flatMap] at h;have⟨j,_,hj⟩:=h;exact lvs_one t _ l hj
theorem encT_lvs:∀(t:Ty) (x:Den D.S t),encT D t x=(lvs D t x).map (lfIV D)
 | .int _,_=>rfl
 | .bool,_=>rfl
 | .str,_=>rfl
 | .fz _,_=>rfl
 | .sl _ _,_=>rfl
 | .rp _,_=>rfl
 | .ks _,_=>rfl
 | .st i,x=>D.ok i x
 | .arr n t,xs=>by
  simp only[lvs,encS,List.map_flatMap];congr 1;funext j;exact encT_lvs t _
def plainB:Ty→Bool
 | .int _=>true
 | .bool=>true
 | .str=>true
 | .fz _=>true
 | .ks _=>true
 |_=>false
theorem ksC_one(h:Hp)(l:List IV):oneA h (.im (ksC l)):=by
 unfold ksC
 split
 ·trivial
 ·trivial
theorem plain_one{l:xLf D.S}(hp:plainB l.1=true):okC h (lfA D l)∧NC (lfA D l)∧Y1r (lfA D l)=[lfA D l]:=by
 have⟨t,x⟩:=l;cases t<;>first|(cases hp;done)|exact⟨rfl,⟨trivial,rfl⟩,rfl⟩|exact⟨trivial,⟨trivial,rfl⟩,rfl⟩|exact⟨ksC_one h _,⟨trivial,rfl⟩,rfl⟩
theorem plain_own{t:Ty}(hp:plainB t=true):ownB t=false:=by cases t<;>first|rfl|cases hp
theorem LfR.sv{n:Nat}{δ:Option Pth}{x:xLf D.S}{a:AV}{rs:List Nat}(H:LfR D h n δ x a rs)(hδ:δ≠some []){v:Nat}{l:Pth}(hh:IsHd a→HdAt h (ω v) l a):SR D h ω (lfS v l x) a:=by
 have hdr:∀{m:Nat} {δ:Option Pth} {e:TypeId} {t:Ty} {xs:List (Den D.S t)} {rs:List Nat},HdR D h (LfR D h m) δ e t xs a rs→IsHd a:=fun H=>by
  rcases H with⟨_,rfl,_⟩|⟨r,rt,rs',rfl,_⟩
  ·exact .inl rfl
  ·exact .inr ⟨r,rt.ver,_,rfl⟩
 cases n with
 |zero=>exact lfS_plain H.2.1 H.2.2.1
 |succ n=>
  rcases H with H|H|⟨_,e,t,xs,rfl,H⟩
  ·exact lfS_plain H.2.1 H.2.2.1
  ·simp_all
  ·simp only[lfS,SR]
   grind
variable {σ:Sto D} {δ:Nat→Option Pth} {Rs:Nat→List Nat}
theorem xRep.ld(R:xRep D σ δ ω Rs h){v:Nat}{b:Bv D}{l:Pth}{u:Ty}{ys:List (Den D.S u)}{j o:Nat}{x:xLf D.S}{a:AV}(hb:getB D σ v=some b)(hn:navL D b.t b.xs l=some ⟨u,ys⟩)(hl:(lvs D u (gt D u ys j))[o]? =some x)(ho:okP (δ v) (l++[(j,o)]))(ha:SR D h ω (.ptr v l j o) a):
  ∃r ver off c,a= .ref r ver off∧Ld h r ver off c∧SR D h ω (lfS v (l++[(j,o)]) x) c:=by
 simp only[SR] at ha;obtain⟨hd,r,ver,rt,h1,h2,h3,h4,rfl⟩:=ha;rw[okP_snoc] at ho;have⟨hj,n,rt',p,rs',s,k1,k2,k3,k4,_⟩:=(R.blk v b hb).at h1 hn ho.1 h2;rw[h3] at k1;cases k1;have⟨c,p1,r1,s1,g1,_,g3,_⟩:=k4.at hj hl;exact⟨r,ver,_,c,rfl,⟨rt,h3,h4,k4.1,g1⟩,g3.sv ho.2 fun hc=>h1.snoc h2 h3 h4 g1 hc⟩
def lvS {S:Nat→Type} (v:Nat) (l:Pth) (j:Nat):Nat→List (xLf S)→List (SV S)
 |_,[]=>[]
 |o,x::ls=>lfS v (l++[(j,o)]) x::lvS v l j (o+1) ls
theorem LsR.sv{n:Nat}{v:Nat}{l:Pth}{j:Nat}:∀{ls:List (xLf D.S)} {δ:Nat→Option Pth} {cs:List AV} {rs:List Nat} (o:Nat),LsR D (LfR D h n) δ ls cs rs→(∀i,δ i≠some [])→(∀i c,cs[i]? =some c→IsHd c→HdAt h (ω v) (l++[(j,o+i)]) c)→SRL D h ω (lvS v l j o ls) cs
 |[],_,_,_,_,H,_,_=>by simp only[lvS,SRL];exact H.1
 |x::ls,δ,cs,rs,o,H,hδ,hh=>by
  obtain⟨a,cs',r,rs',rfl,rfl,h1,h2⟩:=H;simp only[lvS,SRL];exact⟨a,cs',rfl,h1.sv (hδ 0) fun hc=>hh 0 a rfl hc,LsR.sv (o+1) h2 (fun i=>hδ (i+1)) fun i c hc hd=>by have:=hh (i+1) c (by simp_all) hd;rwa[show o+(i+1)=o+1+i by omega] at this⟩
theorem LsR.cut{R:LRel D}:∀{ls:List (xLf D.S)} {δ:Nat→Option Pth} {cs:List AV} {rs:List Nat} (o m:Nat),LsR D R δ ls cs rs→∃rs',LsR D R (fun i=>δ (o+i)) ((ls.drop o).take m) ((cs.drop o).take m) rs'
 |[],_,cs,_,o,m,H=>by
  rw[H.1];exact⟨[],by simp[LsR]⟩
 |x::ls,δ,cs,rs,0,0,H=>⟨[],by simp[LsR]⟩
 |x::ls,δ,cs,rs,0,m+1,H=>by
  obtain⟨a,cs',r,rs',rfl,rfl,h1,h2⟩:=H;have⟨q,hq⟩:=LsR.cut 0 m h2;refine⟨r++q, ?_⟩;simp only[X1b,X07] at hq⊢;refine⟨a,_,r,q,rfl,rfl,h1, ?_⟩;omega
 |x::ls,δ,cs,rs,o+1,m,H=>by
  obtain⟨a,cs',r,rs',rfl,rfl,h1,h2⟩:=H;have⟨q,hq⟩:=LsR.cut o m h2
  grind
theorem xRep.ldN(R:xRep D σ δ ω Rs h){v:Nat}{b:Bv D}{l:Pth}{u:Ty}{ys:List (Den D.S u)}{j o m:Nat}{a:AV}(hb:getB D σ v=some b)(hn:navL D b.t b.xs l=some ⟨u,ys⟩)(hm:o+m≤nl D u)(ho:okP (δ v) l)(ho2:∀i,xsel (selP (δ v) l) j i≠some [])(ha:SR D h ω (.ptr v l j o) a):
  ∃r ver off cs,a= .ref r ver off∧LdN h r ver off m cs∧SRL D h ω (lvS v l j o (((lvs D u (gt D u ys j)).drop o).take m)) cs:=by
 simp only[SR] at ha;obtain⟨hd,r,ver,rt,h1,h2,h3,h4,rfl⟩:=ha;have⟨hj,n,rt',p,rs',s,k1,k2,k3,k4,_⟩:=(R.blk v b hb).at h1 hn ho h2;rw[h3] at k1;cases k1;have⟨hlive,hk,ds,post0,hcs,hel⟩:=k4;obtain⟨pre,c,post,p1,r1,s1,rfl,g2,_,g3,_⟩:=hel.at j hj;have hcl:c.length=nl D u:=by rw[g3.len,lvs_len]
 have hoff:j*rt.k+o=pre.length+o:=by rw[g2,hk]
 have hdrop:(rt.cs.drop (j*rt.k+o)).take m=(c.drop o).take m:=by
  rw[hcs,hoff,Xh, ←X1u,List.drop_left,Xh,List.drop_append_of_le_length (by omega),X1k (by grind)]
 refine⟨r,ver,_,(c.drop o).take m,rfl,⟨rt,h3,h4,hlive, ?_,hdrop⟩, ?_⟩
 ·grind
 ·have⟨q,hq⟩:=g3.cut o m;refine LsR.sv o hq (fun i=>ho2 _) fun i x hx hd'=> ?_;refine h1.snoc h2 h3 h4 ?_ hd'
  grind
end
section
variable (D:SD)
def stF (j o:Nat) (y:xLf D.S) (u:Ty) (xs:List (Den D.S u)):Option (List (Den D.S u)):=match unl D u ((lvs D u (gt D u xs j)).set o y) with
 |some x=>some (xs.set j x)
 |none=>none
end
section
variable {D:SD} {h:Hp} {ω:Nat→AV}
theorem getB_set:∀{σ:Sto D} {v:Nat} {c:Bv D} (w:Nat),getB D (xsetB D σ v c) w=if w=v then(getB D σ v).map fun _=>c else getB D σ w
 |[],v,c,w=>by simp[getB,xsetB]
 |(i,b)::r,v,c,w=>by
  simp only[xsetB];rcases beqS i v with⟨rfl,hb⟩|⟨hn,hb⟩
  ·rw[hb,cond_true];simp only[getB];rcases beqS i w with⟨rfl,hb2⟩|⟨hn2,hb2⟩
   ·simp_all
   grind
  ·rw[hb,cond_false];simp only[getB];rw[hb,cond_false,getB_set w]
   grind
theorem Y87{σ:Sto D}{v:Nat}{b c:Bv D}(hb:getB D σ v=some b):getB D (xsetB D σ v c) v=some c:=by rw[getB_set,if_pos rfl,hb];rfl
theorem Y3k{σ:Sto D}{v w:Nat}{c:Bv D}(hn:w≠v):getB D (xsetB D σ v c) w=getB D σ w:=by rw[getB_set,if_neg hn]
theorem xRep.set{σ:Sto D}{δ δ':Nat→Option Pth}{Rs Rs':Nat→List Nat}{h h':Hp}(R:xRep D σ δ ω Rs h){v:Nat}{b c:Bv D}(hb:getB D σ v=some b)(hc:BkR D h' (δ' v) c (ω v) (Rs' v))(hR:Rs' v ⊆ Rs v)(hnd:(Rs' v).Nodup)(ho:∀w,w≠v→Rs' w=Rs w∧δ' w=δ w)(hf:∀q,q∉Rs v→h'.at q=h.at q):
  xRep D (xsetB D σ v c) δ' ω Rs' h' where
 blk w b' hw:=by
  by_cases e:w=v
  ·subst e;rw[Y87 hb] at hw
   simp_all
  ·rw[Y3k e] at hw;rw[(ho w e).1,(ho w e).2];exact(R.blk w b' hw).frame fun r hr=>hf r (R.dj w b' v b hw hb e r hr)
 nd w b' hw:=by
  by_cases e:w=v
  ·simp_all
  ·rw[Y3k e] at hw;rw[(ho w e).1];exact R.nd w b' hw
 dj w b1 w' b2 hw hw' hne x hx:=by
  have key:∀w b1,getB D (xsetB D σ v c) w=some b1→∃b0,getB D σ w=some b0∧Rs' w ⊆ Rs w:=fun w b1 hw=>by
   by_cases e:w=v
   ·simp_all
   ·rw[Y3k e] at hw
    simp_all
  have⟨c1,d1,e1⟩:=key w b1 hw;have⟨c2,d2,e2⟩:=key w' b2 hw';exact fun hx'=>R.dj w c1 w' c2 d1 d2 hne x (e1 hx) (e2 hx')
theorem LfR.plain{n:Nat}{δ:Option Pth}{x:xLf D.S}{a:AV}{rs:List Nat}(H:LfR D h n δ x a rs)(hx:ownB x.1=false):δ=none∧a=lfA D x∧rs=[]:=by
 cases n with
 |zero=>exact⟨H.1,H.2.2⟩
 |succ n=>
  rcases H with H|⟨_,⟨e,t,rfl⟩,_⟩|⟨_,e,t,xs,rfl,_⟩
  ·simp_all
  ·simp[ownB] at hx
  ·simp[ownB] at hx
theorem LfR.ofPlain{n:Nat}{x:xLf D.S}(hx:ownB x.1=false):LfR D h n none x (lfA D x) []:=by
 cases n with
 |zero=>exact⟨rfl,hx,rfl,rfl⟩
 |succ n=>exact .inl ⟨rfl,hx,rfl,rfl⟩
theorem putA_one{α:Type}{l:List α}{i:Nat}{x:α}(hi:i<l.length):putA l i [x]=l.set i x:=by
 unfold putA;rw[Xc,X1w,if_pos hi];simp
variable {σ:Sto D} {δ:Nat→Option Pth} {Rs:Nat→List Nat}
theorem xRep.st(R:xRep D σ δ ω Rs h){v:Nat}{b:Bv D}{l:Pth}{u:Ty}{ys:List (Den D.S u)}{j o:Nat}{x y:xLf D.S}{a:AV}{zs:List (Den D.S b.t)}(hb:getB D σ v=some b)(hn:navL D b.t b.xs l=some ⟨u,ys⟩)(hl:(lvs D u (gt D u ys j))[o]? =some x)(hx:ownB x.1=false)(hy:plainB y.1=true)
  (hu:updL D b.t b.xs l (stF D j o y)=some zs) (ho:okP (δ v) l) (ha:SR D h ω (.ptr v l j o) a):
  ∃r ver off h1,a= .ref r ver off∧St h r ver off (lfA D y) h1∧xRep D (xsetB D σ v {b with xs:=zs}) δ ω Rs h1∧HKeep h h1∧∀q,q∉Rs v→h1.at q=h.at q:=by
 simp only[SR] at ha;obtain⟨hd,r,ver,rt,h1,h2,h3,h4,rfl⟩:=ha;have⟨hj,n,rt',p,rs',s,k1,k2,k3,k4,k5⟩:=(R.blk v b hb).at h1 hn ho h2;rw[h3] at k1;cases k1;obtain⟨c,p1,r1,s1,g1,rfl,g3,g4⟩:=k4.at hj hl;obtain⟨e1,rfl,rfl⟩:=g3.plain hx;have⟨z1,z2,z3⟩:=plain_one (h:=h) hy;have hlt:=(Xj.1 g1).1;have hnd:=R.nd v b hb;rw[k3] at hnd
 let rt1:Rt:=⟨rt.ver,true,rt.e,rt.k,putA rt.cs (j*rt.k+o) (Y1r (lfA D y))⟩
 have hat:∀q,q≠r→Hp.at ((r,rt1)::h) q=h.at q:=fun q hq=>by simp only[Hp.at];rw[if_neg fun e=>hq e.symm]
 have hself:Hp.at ((r,rt1)::h) r=some rt1:=by simp[Hp.at]
 have hcs:rt1.cs=rt.cs.set (j*rt.k+o) (lfA D y):=by
  show putA _ _ (Y1r (lfA D y))=_;rw[z3,putA_one hlt]
 refine⟨r,ver,_,(r,rt1)::h,rfl,⟨rt,h3,h4,k4.1,by grind,z1,rfl⟩, ?_, ?_,fun q hq=>hat q fun e=>hq (by simp_all)⟩
 · --the data
  have hf:∃x',unl D u ((lvs D u (gt D u ys j)).set o y)=some x':=by
   have key:∀(l:Pth) (t:Ty) (xs:List (Den D.S t)) (u:Ty) (ys:List (Den D.S u)) (zs:List (Den D.S t)),navL D t xs l=some ⟨u,ys⟩→updL D t xs l (stF D j o y)=some zs→∃x',unl D u ((lvs D u (gt D u ys j)).set o y)=some x':=by
    intro l
    induction l with
    |nil=>
     intro t xs u ys zs hn hu;simp only[navL,X0,Sigma.mk.injEq] at hn;obtain⟨rfl,hn⟩:=hn;obtain rfl:=eq_of_heq hn;simp only[updL,stF] at hu
     grind
    |cons q l ih=>
     have⟨i0,o0⟩:=q;intro t xs u ys zs hn hu;simp only[navL] at hn
     split at hn
     ·rename_i e' u' ys' hl';simp only[updL,hl'] at hu
      grind
     ·cases hn
   grind
  have⟨x',hx'⟩:=hf;have hnr:∀q,(q∈p∨q∈s)∨q∈p1∨q∈s1→q≠r:=by
   grind
  have hB:=g4 (LfR D ((r,rt1)::h) n) (selP (δ v) l) rt1 x' y (lfA D y) [] (fun _ _ _=>rfl) (fun q l a r0 hr hl=>LfR.frame _ hl fun z hz=>hat z (hnr z (.inr (hr z hz)))) (Y7m u _ x' hx') (by rw[e1];exact LfR.ofPlain (plain_own hy)) rfl rfl hcs;have fin:=(k5 ((r,rt1)::h) (δ v) (stF D j o y) zs (ys.set j x') rt1 _ hu (by simp only[stF,hx']) (by simp) (fun z hz=>hat z (hnr z (.inl hz))) hself rfl rfl hB (agP_refl _ _) ho).1;exact R.set hb (by simp_all) (fun _ hq=>hq) (R.nd v b hb) (fun _ _=>⟨rfl,rfl⟩) fun q hq=>hat q fun e=>hq (by simp_all)
 · --what keeps its place
  intro q rq hq
  by_cases e:q=r
  ·subst e;rw[h3] at hq;cases hq;refine⟨rt1,hself,rfl,rfl,fun i c hc hd=> ?_⟩;rw[hcs]
   by_cases ei:i=j*rt.k+o
   ·subst ei;rw[g1] at hc;cases hc;exact absurd hd (lfIV_notHd x (lvs_one u _ x (X0c hl)))
   grind
  simp_all
end
end Go.Abs
