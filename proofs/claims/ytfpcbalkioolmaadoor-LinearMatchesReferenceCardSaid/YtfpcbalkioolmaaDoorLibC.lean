/- Own work. -/
import Derived.Test.YtfpcbalkioolmaaDoorLibB
import Derived.Laws.BytesString
import Derived.Laws.IdiomStrings
import Derived.Laws.CopyRow
set_option linter.unusedSimpArgs false
set_option linter.unusedVariables false
namespace Go.Abs
open Go.RowKit
def inR (n:Int):Prop:= -9223372036854775808≤n∧n≤9223372036854775807
instance (n:Int):Decidable (inR n):=inferInstanceAs (Decidable (_∧_))
def G (p:Prop) [Decidable p] {α:Type} (x:Option α):Option α:=if p then x else none
theorem G_some{p:Prop}[Decidable p]{α:Type}{x:Option α}{r:α}(h:G p x=some r):p∧x=some r:=by
 unfold G at h
 simp_all
theorem Y2s{p:Prop}[Decidable p]{α:Type}(hp:p)(x:Option α):G p x=x:=if_pos hp
def iter {S R:Type} (b:(S→Option R)→S→Option R):Nat→S→Option R
 |0,_=>none
 |n+1,s=>b (iter b n) s
theorem Yw{S R:Type}(b:(S→Option R)→S→Option R)(n:Nat)(s:S):iter b (n+1) s=b (iter b n) s:=rfl
def AllP:List Prop→Prop
 |[]=>True
 |p::ps=>p∧AllP ps
theorem AllP.append{ps qs:List Prop}(h:AllP (ps++qs)):AllP ps∧AllP qs:=by
 induction ps with
 |nil=>exact⟨trivial,h⟩
 |cons p ps ih=>
  simp only[Xv,AllP] at h⊢
  simp_all
theorem AllP.map_imp{c:Prop}{ps:List Prop}(h:AllP (ps.map fun p=>c→p))(hc:c):AllP ps:=by
 simp_all
def gl:AV→List Prop
 | .cnd g _=>[g=true]
 |_=>[]
theorem Y72{x:AV}(h:AllP (gl x)):gd x:=by
 cases x<;>simp_all[gl,gd,AllP]
def glo (ρ:Operand→AV):Option Operand→List Prop
 |some x=>gl (ρ x)
 |none=>[]
theorem glo_gdo{ρ:Operand→AV}{o:Option Operand}(h:AllP (glo ρ o)):gdo ρ o:=by
 cases o with
 |none=>trivial
 |some x=>exact Y72 h
def okL (k:IntKind) (n:Int):List Prop:=match k with
 | .i64=>[inR n]
 |_=>[]
theorem okL_okA{k:IntKind}{n:Int}(h:AllP (okL k n)):okA k n:=by
 cases k<;>simp_all[okL,okA,AllP,inR]
def obBin (P:Program) (t:TypeId) (op:BinOp) (x y:AV):Option (List Prop):=match x,y with
 | .im (.val (.int k a)),.im (.val (.int k' b))=>match op with
  | .shl=>some [0≤b]
  | .shr=>some [0≤b]
  | .add=>if k=k' then some (okL k (a+b)) else none
  | .sub=>if k=k' then some (okL k (a-b)) else none
  | .mul=>if k=k' then some (okL k (a*b)) else none
  | .quo=>if k=k' then some ((b≠0)::okL k (a.tdiv b)) else none
  | .rem=>if k=k' then some [b≠0] else none
  |_=>if k=k' then some [] else none
 | .im (.val (.bool _)),.im (.val (.bool _))=>match op with
  | .eql=>if tk P t=5 then some [] else none
  | .neq=>if tk P t=5 then some [] else none
  |_=>none
 | .im (.val (.string a)),.im (.val (.string b))=>match op with
  | .add=>some [a.size+b.size≤9223372036854775807]
  | .eql=>some []| .neq=>some []| .lss=>some []| .leq=>some []| .gtr=>some []| .geq=>some []
  |_=>none
 |_,_=>none
theorem obBin_sound {P : Program} {t : TypeId} {op : BinOp} {x y : AV} {ps : List Prop} (h : obBin P t op x y = some ps) (hp : AllP ps) : poBin P t op x y := by
  unfold obBin at h
  split at h
  · rename_i k a k' b
    unfold poBin
    cases op <;> simp only at h ⊢ <;> first
      | (simp only [X0] at h; subst h; exact hp.1)
      | (split at h
         · rename_i hk
           simp only [X0] at h
           subst h
           first
             | exact hk
             | exact ⟨hk, okL_okA hp⟩
             | exact ⟨hk, hp.1, okL_okA hp.2⟩
             | exact ⟨hk, hp.1⟩
         · cases h)
  · unfold poBin
    cases op <;> simp only at h ⊢ <;> first
      | (split at h
         · assumption
         · cases h)
      | cases h
  · unfold poBin
    cases op <;> simp only at h ⊢ <;> first
      | trivial
      | (simp only [X0] at h; subst h; exact hp.1)
      | cases h
  · cases h
def oneAb (h:Hp):AV→Bool
 | .im (.val u)=>u.oneCell'
 | .im (.sl _ _)=>true
 | .im (.mp _)=>true
 | .fnv _ _=>true
 | .ref r ver _=>(h.at r).map (·.ver)==some ver
 | .rsl r ver _ _=>(h.at r).map (·.ver)==some ver
 |_=>false
theorem oneAb_sound{h:Hp}{x:AV}(hx:oneAb h x=true):oneA h x:=by
 unfold oneAb at hx;unfold oneA
 split at hx<;>simp_all
def okCb (h:Hp):AV→Bool
 | .agg cs=>cs.all (oneAb h)
 |v=>oneAb h v
theorem okCb_sound{h:Hp}{x:AV}(hx:okCb h x=true):okC h x:=by
 unfold okCb at hx;unfold okC
 split at hx
 ·intro y hy;exact oneAb_sound (Xg.1 hx y hy)
 ·split
  ·simp_all
  ·exact oneAb_sound hx
def obLo (hi:Nat):Option AV→Option (List Prop)
 |none=>some []
 |some (.im (.val (.int _ l)))=>some [0≤l∧l≤hi]
 |_=>none
theorem obLo_sound{hi:Nat}{x:Option AV}{ps:List Prop}(h:obLo hi x=some ps)(hp:AllP ps):okLo hi x:=by
 unfold obLo at h;unfold okLo
 split at h
 ·trivial
 ·simp only[X0] at h;subst h;exact hp.1
 ·cases h
def cat2 (x y:Option (List Prop)):Option (List Prop):=match x,y with
 |some a,some b=>some (a++b)
 |_,_=>none
theorem cat2_some{x y:Option (List Prop)}{ps:List Prop}(h:cat2 x y=some ps)(hp:AllP ps):∃a b,x=some a∧y=some b∧AllP a∧AllP b:=by
 unfold cat2 at h
 split at h
 ·rename_i a b;simp only[X0] at h;subst h;exact⟨a,b,rfl,rfl,hp.append.1,hp.append.2⟩
 ·cases h
def chk (p:Prop) [Decidable p] (x:Option (List Prop)):Option (List Prop):=if p then x else none
theorem Y6i{p:Prop}[Decidable p]{x:Option (List Prop)}{ps:List Prop}(h:chk p x=some ps):p∧x=some ps:=by
 unfold chk at h
 simp_all
def obPart (cs:List AV) (off:Nat) (s:Option (Option Nat)):Option (List Prop):=match s with
 |some none=>chk (off<cs.length) (some [])
 |some (some n)=>chk (off+n≤cs.length) (some [])
 |none=>none
theorem obPart_sound{cs:List AV}{off:Nat}{s:Option (Option Nat)}{ps:List Prop}(h:obPart cs off s=some ps):poPart cs off s:=by
 unfold obPart at h;unfold poPart
 split at h
 ·exact(Y6i h).1
 ·exact(Y6i h).1
 ·cases h
def glAll (ρ:Operand→AV):List Operand→List Prop
 |[]=>[]
 |x::xs=>gl (ρ x)++glAll ρ xs
theorem glAll_sound{ρ:Operand→AV}:∀{xs:List Operand},AllP (glAll ρ xs)→∀x∈xs,gd (ρ x)
 |[],_,x,hx=>by simp at hx
 |y::ys,h,x,hx=>by
  have:=h.append;rcases Xb.1 hx with rfl|hx
  ·exact Y72 this.1
  ·exact glAll_sound this.2 x hx
def ob (P:Program) (h:Hp) (ρ:Operand→AV):Op→Option (List Prop)
 | .move x=>some (gl (ρ x))
 | .assign x=>some (gl (ρ x))
 | .pick c a b=>match st (ρ c) with
  | .im (.val (.bool g))=>some (gl (ρ c)++((gl (ρ a)).map fun p=>g=true→p)++((gl (ρ b)).map fun p=>g=false→p))
  |_=>none
 | .binOp op t x y _=>cat2 (some (gl (ρ x)++gl (ρ y))) (obBin P t op (st (ρ x)) (st (ρ y)))
 | .unOp op _ x=>match op,st (ρ x) with
  | .not,.im (.val (.bool _))=>some (gl (ρ x))
  | .neg,.im (.val (.int k n))=>some (gl (ρ x)++okL k (0-n))
  |_,_=>none
 | .convert s d x=>match st (ρ x),ik P d with
  | .im (.val (.int _ _)),some _=>chk (tk P s≠0) (some (gl (ρ x)))
  | .im (.val (.string _)),none=>chk (tk P s=2∧tk P d=2) (some (gl (ρ x)))
  |_,_=>none
 | .fieldAddr s x f=>match fo P s f,st (ρ x) with
  |some _,.ipt _ _=>some (gl (ρ x))
  |some _,.ref r ver _=>chk ((h.at r).map (·.ver)=some ver) (some (gl (ρ x)))
  |_,_=>none
 | .field t x f=>match st (ρ x),fl P t f with
  | .agg cs,some (off,ty)=>cat2 (some (gl (ρ x))) (obPart cs off (lz P ty))
  |_,_=>none
 | .indexAddr t x i=>match ez P t,st (ρ x),st (ρ i) with
  |some _,.im (.sl _ n),.im (.val (.int _ j))=>chk (tk P t=1) (some (gl (ρ x)++gl (ρ i)++[0≤j∧j<(n:Int)]))
  |some k,.rsl r ver _ n,.im (.val (.int _ j))=>chk (tk P t=1∧(h.at r).map (fun rt=>(rt.ver,rt.k))=some (ver,k)) (some (gl (ρ x)++gl (ρ i)++[0≤j∧j<(n:Int)]))
  |some _,.ref r ver _,.im (.val (.int _ j))=>(match alen P t with|some n=>chk ((h.at r).map (·.ver)=some ver) (some (gl (ρ x)++gl (ρ i)++[0≤j∧j<(n:Int)]))|none=>none)
  |some _,.ipt _ _,.im (.val (.int _ j))=>(match alen P t with|some n=>some (gl (ρ x)++gl (ρ i)++[0≤j∧j<(n:Int)])|none=>none)
  |_,_,_=>none
 | .index t x i=>match st (ρ x),st (ρ i) with
  | .im (.val (.string s)),.im (.val (.int _ j))=>chk (tk P t=2) (some (gl (ρ x)++gl (ρ i)++[0≤j∧j<(s.size:Int)]))
  | .agg cs,.im (.val (.int _ j))=>(match ez P t,aty P t,alen P t with
   |some k,some e,some n=>cat2 (some (gl (ρ x)++gl (ρ i)++[0≤j∧j<(n:Int)])) (obPart cs (j.toNat*k) (lz P e))
   |_,_,_=>none)
  |_,_=>none
 | .load t x=>match lz P t,st (ρ x) with
  |some none,.ref r ver off=>(match h.at r with|some rt=>chk (rt.ver=ver∧rt.live=true∧off<rt.cs.length) (some (gl (ρ x)))|none=>none)
  |some (some n),.ref r ver off=>(match h.at r with|some rt=>chk (rt.ver=ver∧rt.live=true∧off+n≤rt.cs.length) (some (gl (ρ x)))|none=>none)
  |_,_=>none
 | .extract x i=>match st (ρ x) with
  | .tup vs=>chk (i<vs.length) (some (gl (ρ x)))
  |_=>none
 | .slice t x lo hi none=>match st (ρ x) with
  | .im (.val (.string s))=>chk (tk P t=2) (cat2 (some (gl (ρ x)++glo ρ lo++glo ρ hi)) (cat2 (obLo s.size (hi.map fun y=>st (ρ y))) (obLo (Y4i s.size (hi.map fun y=>st (ρ y))) (lo.map fun y=>st (ρ y)))))
  | .rsl r ver _ n=>(match ez P t with|some k=>chk (tk P t=1∧(h.at r).map (fun rt=>(rt.ver,rt.k))=some (ver,k)) (cat2 (some (gl (ρ x)++glo ρ lo++glo ρ hi)) (cat2 (obLo n (hi.map fun y=>st (ρ y))) (obLo (Y4i n (hi.map fun y=>st (ρ y))) (lo.map fun y=>st (ρ y)))))|none=>none)
  |_=>none
 | .build t ps=>chk ((ps.toList.all fun p=>okCb h (st (ρ p.2)))=true∧(match zc P t,fps P t,alen P t,ez P t with
   |some z,some fs,_,_=>(Y7a h (fs[·]?) (z.map fun v=>.im (.val v)) (ps.toList.map fun p=>(p.1,st (ρ p.2)))).isSome
   |some z,none,some _,some k=>(Y7a h (fun i=>some (i*k,k)) (z.map fun v=>.im (.val v)) (ps.toList.map fun p=>(p.1,st (ρ p.2)))).isSome
   |_,_,_,_=>false)=true) (some (glAll ρ (ps.toList.map (·.2))))
 | .call ⟨.builtin .len,⟨[x]⟩,⟨[t]⟩⟩=>match st (ρ x) with
  | .im (.sl _ _)=>chk (tk P t=1) (some (gl (ρ x)))
  | .im (.val (.slice _ _ _))=>chk (tk P t=1) (some (gl (ρ x)))
  | .rsl r ver _ _=>chk (tk P t=1∧(h.at r).map (·.ver)=some ver) (some (gl (ρ x)))
  | .im (.val (.string _))=>chk (tk P t=2) (some (gl (ρ x)))
  |_=>none
 | .call ⟨.builtin .min,⟨[x,y]⟩,_⟩=>match st (ρ x),st (ρ y) with
  | .im (.val (.int _ _)),.im (.val (.int _ _))=>some (gl (ρ x)++gl (ρ y))
  |_,_=>none
 | .call ⟨.builtin .max,⟨[x,y]⟩,_⟩=>match st (ρ x),st (ρ y) with
  | .im (.val (.int _ _)),.im (.val (.int _ _))=>some (gl (ρ x)++gl (ρ y))
  |_,_=>none
 |_=>none
theorem ob_sound {P : Program} {h : Hp} {ρ : Operand → AV} {op : Op} {qs : List Prop} (ho : ob P h ρ op = some qs) (hq : AllP qs) : po P h ρ op := by
  unfold ob at ho
  split at ho
  case h_1 x => simp only [X0] at ho; subst ho; exact Y72 hq
  case h_2 x => simp only [X0] at ho; subst ho; exact Y72 hq
  case h_3 c a b =>
    split at ho
    · rename_i g hg
      simp only [X0] at ho; subst ho
      have h1 := hq.append
      have h2 := h1.1.append
      refine ⟨Y72 h2.1, ?_⟩
      unfold poPick
      rw [hg]
      exact ⟨fun e => Y72 (h2.2.map_imp e), fun e => Y72 (h1.2.map_imp e)⟩
    grind
  case h_4 op t x y _ =>
    obtain ⟨a, b, h1, h2, h3, h4⟩ := cat2_some ho hq
    simp only [X0] at h1
    subst h1
    have h5 := h3.append
    exact ⟨Y72 h5.1, Y72 h5.2, obBin_sound h2 h4⟩
  case h_5 op _ x =>
    split at ho
    · rename_i b hb
      simp only [X0] at ho; subst ho
      refine ⟨Y72 hq, ?_⟩
      rw [hb]
      trivial
    · rename_i k n hn
      simp only [X0] at ho; subst ho
      have h5 := hq.append
      refine ⟨Y72 h5.1, ?_⟩
      rw [hn]
      exact okL_okA h5.2
    grind
  case h_6 s d x =>
    split at ho
    · rename_i k n k' hn hk
      obtain ⟨h1, h2⟩ := Y6i ho
      simp only [X0] at h2; subst h2
      refine ⟨Y72 hq, ?_⟩
      unfold poConv
      simp_all
    · rename_i s' hn hk
      obtain ⟨h1, h2⟩ := Y6i ho
      simp only [X0] at h2; subst h2
      refine ⟨Y72 hq, ?_⟩
      unfold poConv
      simp_all
    grind
  case h_7 s x f =>
    split at ho
    · rename_i d cs off hd hx
      simp only [X0] at ho; subst ho
      refine ⟨Y72 hq, ?_⟩
      unfold poField
      simp_all
    · rename_i d r ver off hd hx
      obtain ⟨h1, h2⟩ := Y6i ho
      simp only [X0] at h2; subst h2
      refine ⟨Y72 hq, ?_⟩
      unfold poField
      simp_all
    grind
  case h_8 t x f =>
    split at ho
    · rename_i cs off ty hx hf
      obtain ⟨a, b, h1, h2, h3, h4⟩ := cat2_some ho hq
      simp only [X0] at h1
      subst h1
      refine ⟨Y72 h3, ?_⟩
      unfold poFld
      rw [hx, hf]
      exact obPart_sound h2
    grind
  case h_9 t x i =>
    split at ho
    · rename_i k cs n k' j he hx hi
      obtain ⟨h1, h2⟩ := Y6i ho
      simp only [X0] at h2; subst h2
      have h5 := hq.append
      have h6 := h5.1.append
      refine ⟨Y72 h6.1, Y72 h6.2, ?_⟩
      unfold poIdx
      rw [he, hx, hi]
      exact ⟨h1, h5.2.1⟩
    · rename_i k r ver off n k' j he hx hi
      obtain ⟨h1, h2⟩ := Y6i ho
      simp only [X0] at h2; subst h2
      have h5 := hq.append
      have h6 := h5.1.append
      refine ⟨Y72 h6.1, Y72 h6.2, ?_⟩
      unfold poIdx
      rw [he, hx, hi]
      exact ⟨h1.1, h1.2, h5.2.1⟩
    · rename_i k r ver off k' j he hx hi
      split at ho
      · rename_i n hn
        obtain ⟨h1, h2⟩ := Y6i ho
        simp only [X0] at h2; subst h2
        have h5 := hq.append
        have h6 := h5.1.append
        refine ⟨Y72 h6.1, Y72 h6.2, ?_⟩
        unfold poIdx
        rw [he, hx, hi, hn]
        exact ⟨h1, h5.2.1⟩
      grind
    · rename_i k cs off k' j he hx hi
      split at ho
      · rename_i n hn
        simp only [X0] at ho; subst ho
        have h5 := hq.append
        have h6 := h5.1.append
        refine ⟨Y72 h6.1, Y72 h6.2, ?_⟩
        unfold poIdx
        rw [he, hx, hi]
        simp only [hn]
        exact h5.2.1
      grind
    grind
  case h_10 t x i =>
    split at ho
    · rename_i s k j hx hi
      obtain ⟨h1, h2⟩ := Y6i ho
      simp only [X0] at h2; subst h2
      have h5 := hq.append
      have h6 := h5.1.append
      refine ⟨Y72 h6.1, Y72 h6.2, ?_⟩
      unfold poIndex
      rw [hx, hi]
      exact ⟨h1, h5.2.1⟩
    · rename_i cs k j hx hi
      split at ho
      · rename_i k e n hk he hn
        obtain ⟨a, b, h1, h2, h3, h4⟩ := cat2_some ho hq
        simp only [X0] at h1
        subst h1
        have h5 := h3.append
        have h6 := h5.1.append
        refine ⟨Y72 h6.1, Y72 h6.2, ?_⟩
        unfold poIndex
        rw [hx, hi, hk, he, hn]
        exact ⟨h5.2.1.1, h5.2.1.2, obPart_sound h2⟩
      grind
    grind
  case h_11 t x =>
    split at ho
    · rename_i r ver off hl hx
      split at ho
      · rename_i rt hrt
        obtain ⟨h1, h2⟩ := Y6i ho
        simp only [X0] at h2; subst h2
        refine ⟨Y72 hq, ?_⟩
        unfold Y7p
        simp_all
      grind
    · rename_i n r ver off hl hx
      split at ho
      · rename_i rt hrt
        obtain ⟨h1, h2⟩ := Y6i ho
        simp only [X0] at h2; subst h2
        refine ⟨Y72 hq, ?_⟩
        unfold Y7p
        simp_all
      grind
    grind
  case h_12 x i =>
    split at ho
    · rename_i vs hx
      obtain ⟨h1, h2⟩ := Y6i ho
      simp only [X0] at h2; subst h2
      refine ⟨Y72 hq, ?_⟩
      rw [hx]
      exact h1
    grind
  case h_13 t x lo hi =>
    split at ho
    · rename_i s hx
      obtain ⟨h1, h2⟩ := Y6i ho
      obtain ⟨a, b, h3, h4, h5, h6⟩ := cat2_some h2 hq
      obtain ⟨c, d, h7, h8, h9, h10⟩ := cat2_some h4 h6
      simp only [X0] at h3
      subst h3
      have h11 := h5.append
      have h12 := h11.1.append
      refine ⟨Y72 h12.1, glo_gdo h12.2, glo_gdo h11.2, ?_⟩
      unfold Y91
      rw [hx]
      have he : ez P t = none := by
        have := tk_str h1
        unfold ez
        rw [this]
      rw [he]
      exact ⟨h1, obLo_sound h7 h9, obLo_sound h8 h10⟩
    · rename_i r ver off n hx
      split at ho
      · rename_i k hk
        obtain ⟨h1, h2⟩ := Y6i ho
        obtain ⟨a, b, h3, h4, h5, h6⟩ := cat2_some h2 hq
        obtain ⟨c, d, h7, h8, h9, h10⟩ := cat2_some h4 h6
        simp only [X0] at h3
        subst h3
        have h11 := h5.append
        have h12 := h11.1.append
        refine ⟨Y72 h12.1, glo_gdo h12.2, glo_gdo h11.2, ?_⟩
        unfold Y91
        rw [hx, hk]
        exact ⟨h1.1, h1.2, obLo_sound h7 h9, obLo_sound h8 h10⟩
      grind
    grind
  case h_14 t ps =>
    obtain ⟨⟨h1, h2⟩, h3⟩ := Y6i ho
    simp only [X0] at h3; subst h3
    have hg := glAll_sound hq
    refine ⟨fun p hp => hg p.2 (Xp.2 ⟨p, hp, rfl⟩), ?_⟩
    unfold poBuild
    refine ⟨fun p hp => ?_, ?_⟩
    · obtain ⟨q, hq', rfl⟩ := Xp.1 hp
      exact okCb_sound (Xg.1 h1 q hq')
    grind
  case h_15 x t =>
    split at ho
    all_goals first
      | (rename_i hx
         obtain ⟨h1, h2⟩ := Y6i ho
         simp only [X0] at h2
         subst h2
         refine ⟨Y72 hq, ?_⟩
         unfold poLen
         simp_all)
      | cases ho
  case h_16 x y _ =>
    split at ho
    · rename_i hx hy
      simp only [X0] at ho; subst ho
      have h5 := hq.append
      refine ⟨Y72 h5.1, Y72 h5.2, ?_⟩
      unfold poMin
      simp_all
    grind
  case h_17 x y _ =>
    split at ho
    · rename_i hx hy
      simp only [X0] at ho; subst ho
      have h5 := hq.append
      refine ⟨Y72 h5.1, Y72 h5.2, ?_⟩
      unfold poMin
      simp_all
    grind
  simp_all
section
variable {P:Program} {N:Nat} {ops:Array Oper} {env:Env} {h:Hp}
def kept (l:List Nat):Option (List Prop×Env)→Option (List Prop×Env)
 |some (qs,e)=>some (qs,e.keep l)
 |none=>none
theorem Env.le_keep(env:Env)(l:List Nat):Env.le env (env.keep l):=fun i=>by rw[rd_keep];split<;>simp
end
section
variable {P:Program} {N:Nat} {ops:Array Oper} {env:Env} {h:Hp} {Q:Exit→Env→Hp→Prop}
end
def eL {α:Type} (enc:α→List IV) (l:List α):List IV:=[.sl (l.flatMap enc) l.length]
abbrev slA {α:Type} (enc:α→List IV) (l:List α):AV:=.im (.sl (l.flatMap enc) l.length)
section
variable {P:Program} {N:Nat} {ops:Array Oper} {env:Env} {h:Hp}
def room (bytes n:Nat):Prop:=n*bytes≤140737488355328∧n≤140737488355328
instance (bytes n:Nat):Decidable (room bytes n):=inferInstanceAs (Decidable (_∧_))
end
section
variable {P:Program} {N:Nat} {ops:Array Oper} {env:Env} {h:Hp}
end
section
variable {P:Program} {N:Nat} {ops:Array Oper} {env:Env} {h:Hp} {Q:Exit→Env→Hp→Prop}
inductive ResV (P:Program) (h:Hp) (env:Env):List ResultVar→List AV→Prop
 |nil:ResV P h env [] []
 |tmp {t:Nat} {rs:List ResultVar} {xs:List AV}:ResV P h env rs xs→ResV P h env (.tmp t::rs) (rd env t::xs)
 |cell {a t r ver off:Nat} {rs:List ResultVar} {xs:List AV}:rd env a= .ref r ver off→ob P h (fun _=>.ref r ver off) (.load t (.tmp 0))=some []→ResV P h env rs xs→ResV P h env (.cell a t::rs) (Y5u h (lz P t) (.ref r ver off)::xs)
 |cellW {a t r ver n:Nat} {rt:Rt} {rs:List ResultVar} {xs:List AV}:rd env a= .ref r ver 0→lz P t=some (some n)→h.at r=some rt→rt.ver=ver→rt.live=true→rt.cs.length=n→ResV P h env rs xs→ResV P h env (.cell a t::rs) (.agg rt.cs::xs)
def Y8i:List AV→AV
 |[x]=>x
 |xs=>.tup xs
theorem loadAt_loadVar{t:TypeId}{u v:Value}{w:World}(hl:(Instr.loadAt t u).run P w= .ok v w){g off:Nat}(hu:u= .pointer (some ⟨g,off,none⟩)):(do loadVar t (←asAddr u):Sem Value).run P w= .ok v w:=by
 subst hu;simp[Instr.loadAt,Instr.sureAddr,Xa,asAddr] at hl⊢;exact hl
def resOne (tmps:Array Value):ResultVar→Sem Value
 | .tmp t=>pure (tmps.getD t undef)
 | .cell b t=>do loadVar t (←asAddr (tmps.getD b undef))
theorem results_resOne(fn:Func)(tmps:Array Value):results fn tmps=(do
  let vs ←fn.results.mapM (resOne tmps)
  pure (if h:vs.size=1 then vs[0] else .tuple vs)):=by
 rfl
theorem ResV.run{rs:List ResultVar}{xs:List AV}(hv:ResV P h env rs xs){X:Ctx}{a:Act}{w:World}{ι:Nat→Bk}(H:Hol X h ι w)(S:Slots N env h ι (Own X.B h ι) a w):
  ∃vs:List Value,(rs.mapM (resOne a.tmps)).run P w= .ok vs w∧VRL w h ι (Own X.B h ι) xs vs:=by
 induction hv with
 |nil=>exact⟨[],by simp,by rfl⟩
 |@tmp t rs xs _ ih=>
  have⟨vs,h1,h2⟩:=ih;refine⟨a.tmps.getD t undef::vs, ?_,by simp only[VRL];exact⟨_,_,rfl,S.at_ t,h2⟩⟩;rw[List.mapM_cons,Xa];have e:(resOne a.tmps (.tmp t)).run P w= .ok (a.tmps.getD t undef) w:=by rfl
  simp_all
 |@cell b t r ver off rs xs h3 h4 _ ih=>
  have⟨vs,h1,h2⟩:=ih;have hp:=ob_sound h4 trivial;have hb:=S.at_ b;rw[h3] at hb;have hx:VR w h ι (Own X.B h ι) (.ref r ver off) (a.tmps.getD b undef):=hb;have⟨v,h5,h6⟩:=load_sound (P:=P) (t:=t) H hp.2 hx;have hn:(h.at r).map (·.ver)=some ver:=by
   have hpl:=hp.2;simp only[st] at hpl;unfold Y7p at hpl
   grind
  have⟨rt,g,_,_,_,hu⟩:=Y61 hx hn;refine⟨v::vs, ?_,by simp only[VRL];exact⟨_,_,rfl,h6,h2⟩⟩;have h7:(resOne a.tmps (.cell b t)).run P w= .ok v w:=loadAt_loadVar h5 hu
  simp_all
 |@cellW b t r ver n rt rs xs h3 h4 h5 h6 h7 h8 _ ih=>
  have⟨vs,h1,h2⟩:=ih;have hx:=S.at_ b;rw[h3] at hx;have hpl:Y7p h (lz P t) (.ref r ver 0):=by
   unfold Y7p
   simp_all
  have⟨v,g5,g6⟩:=load_sound (P:=P) (t:=t) H hpl hx;have⟨rt',g,_,_,_,hu⟩:=Y61 hx (by grind);have e:Y5u h (lz P t) (.ref r ver 0)= .agg rt.cs:=by
   unfold Y5u;rw[h4];simp only[h5,X1b];rw[Xu (by omega)]
  rw[e] at g6;refine⟨v::vs, ?_,by simp only[VRL];grind⟩;have g7:(resOne a.tmps (.cell b t)).run P w= .ok v w:=loadAt_loadVar g5 hu
  simp_all
theorem Done.gen{fn:Func}{rs:List ResultVar}{xs:List AV}{R:AV→Hp→Prop}(hres:fn.results=rs.toArray)(hv:ResV P h env rs xs)(hR:R (Y8i xs) h):Done P fn R .ret env h:=by
 refine⟨Y8i xs,fun X a w ι H S=> ?_,hR⟩;have⟨vs,h1,h2⟩:=hv.run H S;have hlen:=h2.length;refine⟨if h:vs.length=1 then vs[0] else .tuple vs.toArray, ?_, ?_⟩
 ·rw[results_resOne,hres,List.mapM_toArray,Xa]
  simp_all
 ·cases xs with
  |nil=>
   simp at hlen;subst hlen;simp only[Y8i,VR]
   simp_all
  |cons x xs=>
   cases xs with
   |nil=>
    simp only[VRL] at h2;obtain⟨v,l',rfl,hx,rfl⟩:=h2;simpa [Y8i] using hx
   |cons y ys=>
    have:¬vs.length=1:=by simp_all
    rw[dif_neg this];simp only[Y8i,VR]
    simp_all
end
section
variable {P:Program} {N:Nat} {ops:Array Oper} {env:Env} {h:Hp}
end
def okInt:IntKind→Int→Prop
 | .u8,n=>0≤n∧n≤255
 | .u16,n=>0≤n∧n≤65535
 | .u32,n=>0≤n∧n≤4294967295
 | .u64,n=>0≤n∧n≤18446744073709551615
 | .i8,n=> -128≤n∧n≤127
 | .i16,n=> -32768≤n∧n≤32767
 | .i32,n=> -2147483648≤n∧n≤2147483647
 | .i64,n=> -9223372036854775808≤n∧n≤9223372036854775807
theorem okInt_of{k:IntKind}{n:Int}(h:(Lit.int k n).wf=true):okInt k n:=by
 cases k<;>simpa [okInt,Lit.wf,IntKind.min,IntKind.max,IntKind.signed,IntKind.bits] using h
def okList {α:Type} (ok:α→Prop) (l:List α):Prop:=(∀x∈l,ok x)∧l.length≤maxLen
def okArr {α:Type} (n:Nat) (ok:α→Prop) (l:List α):Prop:=(∀x∈l,ok x)∧l.length=n
def Typ (P:Program) (t:TypeId) {α:Type} (enc:α→List IV) (ok:α→Prop):Prop:=∀xs,Shp P t xs→∃v,xs=enc v∧ok v
section
variable {P:Program} {α:Type} {enc:α→List IV} {ok:α→Prop}
theorem Typ.int{t:TypeId}{k:IntKind}(ht:P.underlying t=some (.int k)):Typ P t (eI k) (okInt k):=fun xs hs=>by
 obtain⟨n,rfl,hn⟩:=hs.int_inv ht;exact⟨n,rfl,okInt_of hn⟩
theorem Typ.each{e:TypeId}(he:Typ P e enc ok):∀(xss:List (List IV)),(∀ys∈xss,Shp P e ys)→∃l:List α,xss=l.map enc∧∀x∈l,ok x
 |[],_=>⟨[],rfl,by simp⟩
 |y::ys,h=>by
  obtain⟨v,rfl,hv⟩:=he y (h y (by simp));obtain⟨l,rfl,hl⟩:=Typ.each he ys fun z hz=>h z (by simp[hz]);exact⟨v::l,rfl,fun x hx=>by grind⟩
theorem flatten_map(l:List α):(l.map enc).flatten=l.flatMap enc:=by
 rfl
theorem Typ.sl{t e:TypeId}(ht:P.underlying t=some (.slice e))(he:Typ P e enc ok):Typ P t (eL enc) (okList ok):=fun xs hs=>by
 obtain⟨xss,rfl,h1,h2⟩:=hs.sl_inv ht;obtain⟨l,rfl,hl⟩:=Typ.each he xss h1;refine⟨l, ?_,hl,by simp_all⟩;unfold eL;rw[flatten_map,Xw]
theorem Typ.arr{t e:TypeId}{n:Nat}(ht:P.underlying t=some (.array n e))(he:Typ P e enc ok):Typ P t (fun l=>l.flatMap enc) (okArr n ok):=fun xs hs=>by
 obtain⟨xss,rfl,h1,h2⟩:=hs.arr_inv ht;obtain⟨l,rfl,hl⟩:=Typ.each he xss h1;exact⟨l,flatten_map l,hl,by simp_all⟩
end
section
variable {P:Program} {N:Nat} {ops:Array Oper} {env:Env} {h:Hp}
theorem gpoU{o:Oper}{φ:Prop}(hgu:o.guard=none)(h:φ):gpo ops env o φ:=by unfold gpo;simp_all
end
section
variable {P:Program} {N:Nat} {ops:Array Oper} {env:Env} {h:Hp}
end
end Go.Abs
