/- Own work. -/
import Derived.Test.YtfpcbalkioolmaaDoorLibG
set_option linter.unusedSimpArgs false
set_option linter.unusedVariables false
namespace Go.Abs
open Go.RowKit
section
variable {P:Program} {N:Nat} {ops:Array Oper} {env:Env} {h:Hp}
theorem Keep.trans{w w1 w2:World}{h h1 h2:Hp}{ι ι1 ι2:Nat→Bk}{A A1 A2:Nat→Prop}(K1:Keep w h ι A w1 h1 ι1 A1)(K2:Keep w1 h1 ι1 A1 w2 h2 ι2 A2):Keep w h ι A w2 h2 ι2 A2 where
 blk β hβ hA:=by
  have⟨e1,e2⟩:=K1.blk β hβ hA
  have hlt:β<w1.heap.size:=(Xt.1 (e1.trans (Xc hβ))).1
  have⟨e3,e4⟩:=K2.blk β hlt e2
  exact⟨e3.trans e1,e4⟩
 hp r rt hr:=by
  have⟨rt1,a1,b1,c1⟩:=K1.hp r rt hr
  have⟨rt2,a2,b2,c2⟩:=K2.hp r rt1 a1
  refine⟨rt2,a2,X0q b1 b2,fun e=> ?_⟩
  have e1:rt2.ver=rt1.ver:=by omega
  have e2:rt1.ver=rt.ver:=by omega
  exact⟨(c2 e1).1.trans (c1 e2).1,(c2 e1).2.trans (c1 e2).2⟩
theorem Keep.refl(w:World)(h:Hp)(ι:Nat→Bk)(A:Nat→Prop):Keep w h ι A w h ι A:=
 ⟨fun _ _ hA=>⟨rfl,hA⟩,fun _ rt hr=>⟨rt,hr,Xn _,fun _=>⟨rfl,rfl⟩⟩⟩
def HStep (P:Program) (o:Oper) (env:Env) (h h':Hp) (av:AV):Prop:=
 ∀(X:Ctx) (a:Act) (w:World) (ι:Nat→Bk) (Q:Exit→Act→World→Prop) (next:Act→World→Prop),Hol X h ι w→
  (∀x,x∈o.op.operands→VR w h ι (Own X.B h ι) (rdo env x) (a.eval x))→
  (∀ι' w' v,Hol X h' ι' w'→Keep w h ι (Own X.B h ι) w' h' ι' (Own X.B h' ι')→VR w' h' ι' (Own X.B h' ι') av v→next (a.put o.dst v) w')→o.wp P a w next Q
theorem Y43{o:Oper}{r:Nat}{rt:Rt}{av:AV}(hs:RStep P o env h r rt av):HStep P o env h ((r,rt)::h) av:=
 fun X a w ι Q next H hop hn=>hs X a w ι Q next H hop fun b' w' v H' K' hv=>hn _ w' v H' K' hv
theorem Y3e{o:Oper}{av:AV}(hq:Quiet P #[] {o with guard:=none} env h av):HStep P o env h h av:=by
 intro X a w ι Q next H hop hn;have h1:=hq X a w ι Q H (fun s hs=>by
  simp only[Oper.looksAt,X1b,List.mem_filterMap] at hs;have⟨x,hx,he⟩:=hs
  split at he
  ·simp only[X0] at he;subst he;exact hop _ (by simpa using hx)
  ·cases he) next (fun v w' hb hv=>hn ι w' v (H.below hb) (Keep.below hb) hv)
 simp only[Region.wanted,if_true] at h1;exact h1
theorem Y6n{o:Oper}{h' h'':Hp}{av:AV}(he:Hp.eqv h' h'')(hs:HStep P o env h h' av):HStep P o env h h'' av:=
 fun X a w ι Q next H hop hn=>hs X a w ι Q next H hop fun ι' w' v H' K' hv=>by
  refine hn ι' w' v (H'.eqv he) ?_ ?_
  ·rw[Own.eqv he];exact K'.trans (Keep.eqv he)
  ·rw[Own.eqv he];exact VR.keep (Keep.eqv he) _ _ hv
def gdb:AV→Bool
 | .cnd g _=>g
 |_=>true
theorem Y0y{x:AV}(hx:gdb x=true):gd x:=by cases x<;>first|exact hx|trivial
def gdbo (ρ:Operand→AV):Option Operand→Bool
 |some x=>gdb (ρ x)
 |none=>true
theorem gdbo_sound{ρ:Operand→AV}{o:Option Operand}(hx:gdbo ρ o=true):gdo ρ o:=by
 cases o with
 |none=>trivial
 |some x=>exact Y0y hx
def okAb (k:IntKind) (n:Int):Bool:=match k with
 | .i64=>decide (-9223372036854775808≤n)&&decide (n≤9223372036854775807)
 |_=>true
theorem okAb_sound{k:IntKind}{n:Int}(hx:okAb k n=true):okA k n:=by
 cases k<;>simp_all[okAb,okA]
def binB (P:Program) (t:TypeId) (op:BinOp) (x y:AV):Bool:=match x,y with
 | .im (.val (.int k a)),.im (.val (.int k' b))=>match op with
  | .shl=>decide (0≤b)
  | .shr=>decide (0≤b)
  | .add=>decide (k=k')&&okAb k (a+b)
  | .sub=>decide (k=k')&&okAb k (a-b)
  | .mul=>decide (k=k')&&okAb k (a*b)
  | .quo=>decide (k=k')&&(decide (b≠0)&&okAb k (a.tdiv b))
  | .rem=>decide (k=k')&&decide (b≠0)
  |_=>decide (k=k')
 | .im (.val (.bool _)),.im (.val (.bool _))=>match op with
  | .eql=>tk P t==5
  | .neq=>tk P t==5
  |_=>false
 | .im (.val (.string a)),.im (.val (.string b))=>match op with
  | .add=>decide (a.size+b.size≤9223372036854775807)
  | .eql=>true| .neq=>true| .lss=>true| .leq=>true| .gtr=>true| .geq=>true
  |_=>false
 |_,_=>false
theorem binB_sound{t:TypeId}{op:BinOp}{x y:AV}(hb:binB P t op x y=true):poBin P t op x y:=by
 unfold binB at hb;unfold poBin
 split at hb
 ·cases op<;>simp only[X3,decide_eq_true_eq] at hb⊢ <;>first|exact hb|exact⟨hb.1,okAb_sound hb.2⟩|exact⟨hb.1,hb.2.1,okAb_sound hb.2.2⟩
 ·cases op<;>simp at hb⊢ <;>exact hb
 ·cases op<;>simp at hb⊢ <;>exact hb
 ·cases hb
def verB (h:Hp) (r ver:Nat):Bool:=match h.at r with
 |some rt=>rt.ver==ver
 |none=>false
theorem verB_sound{r ver:Nat}(hv:verB h r ver=true):(h.at r).map (·.ver)=some ver:=by
 unfold verB at hv
 split at hv
 ·rename_i rt hr;simp[hr];simpa using hv
 ·cases hv
def verK (h:Hp) (r ver k:Nat):Bool:=match h.at r with
 |some rt=>rt.ver==ver&&rt.k==k
 |none=>false
theorem verK_sound{r ver k:Nat}(hv:verK h r ver k=true):(h.at r).map (fun rt=>(rt.ver,rt.k))=some (ver,k):=by
 unfold verK at hv
 split at hv
 ·rename_i rt hr;simp[hr];simpa using hv
 ·cases hv
def partB (cs:List AV) (off:Nat) (s:Option (Option Nat)):Bool:=match s with
 |some none=>decide (off<cs.length)
 |some (some n)=>decide (off+n≤cs.length)
 |none=>false
theorem partB_sound{cs:List AV}{off:Nat}{s:Option (Option Nat)}(hp:partB cs off s=true):poPart cs off s:=by
 unfold partB at hp;unfold poPart
 split at hp<;>simp_all
def loB (hi:Nat):Option AV→Bool
 |none=>true
 |some (.im (.val (.int _ l)))=>decide (0≤l)&&decide (l≤hi)
 |_=>false
theorem loB_sound{hi:Nat}{x:Option AV}(hx:loB hi x=true):okLo hi x:=by
 unfold loB at hx;unfold okLo
 split at hx<;>simp_all
def inB (j:Int) (n:Nat):Bool:=decide (0≤j)&&decide (j<(n:Int))
theorem inB_sound{j:Int}{n:Nat}(hx:inB j n=true):0≤j∧j<(n:Int):=by simpa [inB] using hx
def pb (P:Program) (h:Hp) (ρ:Operand→AV):Op→Bool
 | .move x=>gdb (ρ x)
 | .assign x=>gdb (ρ x)
 | .pick c a b=>gdb (ρ c)&&match st (ρ c) with
  | .im (.val (.bool g))=>(!g||gdb (ρ a))&&(g||gdb (ρ b))
  |_=>false
 | .binOp op t x y _=>gdb (ρ x)&&(gdb (ρ y)&&binB P t op (st (ρ x)) (st (ρ y)))
 | .unOp op _ x=>gdb (ρ x)&&match op,st (ρ x) with
  | .not,.im (.val (.bool _))=>true
  | .neg,.im (.val (.int k n))=>okAb k (0-n)
  |_,_=>false
 | .convert s d x=>gdb (ρ x)&&match st (ρ x),ik P d with
  | .im (.val (.int _ _)),some _=>tk P s !=0
  | .im (.val (.string _)),none=>tk P s==2&&tk P d==2
  |_,_=>false
 | .fieldAddr s x f=>gdb (ρ x)&&match fo P s f,st (ρ x) with
  |some _,.ipt _ _=>true
  |some _,.ref r ver _=>verB h r ver
  |_,_=>false
 | .field t x f=>gdb (ρ x)&&match st (ρ x),fl P t f with
  | .agg cs,some (off,ty)=>partB cs off (lz P ty)
  |_,_=>false
 | .indexAddr t x i=>gdb (ρ x)&&(gdb (ρ i)&&match ez P t,st (ρ x),st (ρ i) with
  |some _,.im (.sl _ n),.im (.val (.int _ j))=>tk P t==1&&inB j n
  |some k,.rsl r ver _ n,.im (.val (.int _ j))=>tk P t==1&&(verK h r ver k&&inB j n)
  |some _,.ref r ver _,.im (.val (.int _ j))=>(match alen P t with|some n=>verB h r ver&&inB j n|none=>false)
  |some _,.ipt _ _,.im (.val (.int _ j))=>(match alen P t with|some n=>inB j n|none=>false)
  |_,_,_=>false)
 | .index t x i=>gdb (ρ x)&&(gdb (ρ i)&&match st (ρ x),st (ρ i) with
  | .agg cs,.im (.val (.int _ j))=>(match ez P t,aty P t,alen P t with|some k,some e,some n=>inB j n&&partB cs (j.toNat*k) (lz P e)|_,_,_=>false)
  | .im (.val (.string s)),.im (.val (.int _ j))=>tk P t==2&&inB j s.size
  |_,_=>false)
 | .load t x=>gdb (ρ x)&&match lz P t,st (ρ x) with
  |some none,.ipt cs off=>decide (off<cs.length)
  |some (some n),.ipt cs off=>decide (off+n≤cs.length)
  |some none,.ref r ver off=>(match h.at r with|some rt=>rt.ver==ver&&(rt.live&&decide (off<rt.cs.length))|none=>false)
  |some (some n),.ref r ver off=>(match h.at r with|some rt=>rt.ver==ver&&(rt.live&&decide (off+n≤rt.cs.length))|none=>false)
  |_,_=>false
 | .extract x i=>gdb (ρ x)&&match st (ρ x) with
  | .tup vs=>decide (i<vs.length)
  |_=>false
 | .slice t x lo hi none=>gdb (ρ x)&&(gdbo ρ lo&&(gdbo ρ hi&&match ez P t,st (ρ x) with
  |some _,.im (.sl _ n)=>tk P t==1&&(loB n (hi.map fun y=>st (ρ y))&&loB (Y32 n (hi.map fun y=>st (ρ y))) (lo.map fun y=>st (ρ y)))
  |some k,.rsl r ver _ n=>tk P t==1&&(verK h r ver k&&(loB n (hi.map fun y=>st (ρ y))&&loB (Y32 n (hi.map fun y=>st (ρ y))) (lo.map fun y=>st (ρ y))))
  |none,.im (.val (.string s))=>tk P t==2&&(loB s.size (hi.map fun y=>st (ρ y))&&loB (Y32 s.size (hi.map fun y=>st (ρ y))) (lo.map fun y=>st (ρ y)))
  |_,_=>false))
 | .build t ps=>(ps.toList.all fun p=>gdb (ρ p.2))&&((ps.toList.all fun p=>okCb h (st (ρ p.2)))&&match zc P t,fps P t,alen P t,ez P t with
  |some z,some fs,_,_=>(Y4p h (fs[·]?) (z.map fun v=>.im (.val v)) (ps.toList.map fun p=>(p.1,st (ρ p.2)))).isSome
  |some z,none,some _,some k=>(Y4p h (fun i=>some (i*k,k)) (z.map fun v=>.im (.val v)) (ps.toList.map fun p=>(p.1,st (ρ p.2)))).isSome
  |_,_,_,_=>false)
 | .call ⟨.builtin .len,⟨[x]⟩,⟨[t]⟩⟩=>gdb (ρ x)&&match st (ρ x) with
  | .im (.sl _ _)=>tk P t==1
  | .im (.val (.slice _ _ _))=>tk P t==1
  | .rsl r ver _ _=>tk P t==1&&verB h r ver
  | .im (.val (.string _))=>tk P t==2
  |_=>false
 | .call ⟨.builtin .min,⟨[x,y]⟩,_⟩=>gdb (ρ x)&&(gdb (ρ y)&&match st (ρ x),st (ρ y) with
  | .im (.val (.int _ _)),.im (.val (.int _ _))=>true
  |_,_=>false)
 | .call ⟨.builtin .max,⟨[x,y]⟩,_⟩=>gdb (ρ x)&&(gdb (ρ y)&&match st (ρ x),st (ρ y) with
  | .im (.val (.int _ _)),.im (.val (.int _ _))=>true
  |_,_=>false)
 |_=>false
theorem pb_sound{ρ:Operand→AV}{op:Op}(hb:pb P h ρ op=true):po P h ρ op:=by
 unfold pb at hb
 split at hb
 case h_1 x=>exact Y0y hb
 case h_2 x=>exact Y0y hb
 case h_3 c a b=>
  rw[X3] at hb;refine⟨Y0y hb.1, ?_⟩;have h2:=hb.2
  split at h2
  ·rename_i g hg;unfold poPick;rw[hg];simp only[X3,X07,X0a] at h2;refine⟨fun e=> ?_,fun e=> ?_⟩
   ·rcases h2.1 with h3|h3
    ·rw[h3] at e;cases e
    ·exact Y0y h3
   ·rcases h2.2 with h3|h3
    ·rw[h3] at e;cases e
    ·exact Y0y h3
  ·cases h2
 case h_4 op t x y _=>
  simp only[X3] at hb;exact⟨Y0y hb.1,Y0y hb.2.1,binB_sound hb.2.2⟩
 case h_5 op _ x=>
  rw[X3] at hb;refine⟨Y0y hb.1, ?_⟩;have h2:=hb.2;unfold poUn
  split at h2
  ·rename_i hx;rw[hx];trivial
  ·rename_i k n hn;rw[hn];exact okAb_sound h2
  ·cases h2
 case h_6 s d x=>
  rw[X3] at hb;refine⟨Y0y hb.1, ?_⟩;have h2:=hb.2;unfold poConv
  split at h2
  ·rename_i hn hk;rw[hn,hk];simpa using h2
  ·rename_i hn hk;rw[hn,hk];simpa using h2
  ·cases h2
 case h_7 s x f=>
  rw[X3] at hb;refine⟨Y0y hb.1, ?_⟩;have h2:=hb.2;unfold poField
  split at h2
  ·rename_i h3 h4;rw[h3,h4];trivial
  ·rename_i h3 h4;rw[h3,h4];exact verB_sound h2
  ·cases h2
 case h_8 t x f=>
  rw[X3] at hb;refine⟨Y0y hb.1, ?_⟩;have h2:=hb.2;unfold poFld
  split at h2
  ·rename_i h3 h4;rw[h3,h4];exact partB_sound h2
  ·cases h2
 case h_9 t x i=>
  simp only[X3] at hb;refine⟨Y0y hb.1,Y0y hb.2.1, ?_⟩;have h2:=hb.2.2;unfold poIdx
  split at h2
  ·rename_i h3 h4 h5;rw[h3,h4,h5];simp only[X3,beq_iff_eq] at h2;exact⟨h2.1,inB_sound h2.2⟩
  ·rename_i h3 h4 h5;rw[h3,h4,h5];simp only[X3,beq_iff_eq] at h2;exact⟨h2.1,verK_sound h2.2.1,inB_sound h2.2.2⟩
  ·rename_i h3 h4 h5;rw[h3,h4,h5]
   split at h2
   ·rename_i n hn;simp only[hn];simp only[X3] at h2;exact⟨verB_sound h2.1,inB_sound h2.2⟩
   ·cases h2
  ·rename_i h3 h4 h5;rw[h3,h4,h5]
   split at h2
   ·rename_i n hn;simp only[hn];exact inB_sound h2
   ·cases h2
  ·cases h2
 case h_10 t x i=>
  simp only[X3] at hb;refine⟨Y0y hb.1,Y0y hb.2.1, ?_⟩;have h2:=hb.2.2;unfold poIndex
  split at h2
  ·rename_i h3 h4;rw[h3,h4]
   split at h2
   ·rename_i h5 h6 h7;simp only[h5,h6,h7];simp only[X3] at h2;exact⟨(inB_sound h2.1).1,(inB_sound h2.1).2,partB_sound h2.2⟩
   ·cases h2
  ·rename_i h3 h4;rw[h3,h4];simp only[X3,beq_iff_eq] at h2;exact⟨h2.1,inB_sound h2.2⟩
  ·cases h2
 case h_11 t x=>
  rw[X3] at hb;refine⟨Y0y hb.1, ?_⟩;have h2:=hb.2;unfold poLoad
  split at h2
  ·rename_i h3 h4;rw[h3,h4];simpa using h2
  ·rename_i h3 h4;rw[h3,h4];simpa using h2
  ·rename_i h3 h4;rw[h3,h4]
   split at h2
   ·rename_i rt hr;simp only[hr];simpa using h2
   ·cases h2
  ·rename_i h3 h4;rw[h3,h4]
   split at h2
   ·rename_i rt hr;simp only[hr];simpa using h2
   ·cases h2
  ·cases h2
 case h_12 x i=>
  rw[X3] at hb;refine⟨Y0y hb.1, ?_⟩;have h2:=hb.2;unfold poExt
  split at h2
  ·rename_i h3;rw[h3];simpa using h2
  ·cases h2
 case h_13 t x lo hi=>
  simp only[X3] at hb;refine⟨Y0y hb.1,gdbo_sound hb.2.1,gdbo_sound hb.2.2.1, ?_⟩;have h2:=hb.2.2.2;unfold poSlice
  split at h2
  ·rename_i h3 h4;rw[h3,h4];simp only[X3,beq_iff_eq] at h2;exact⟨h2.1,loB_sound h2.2.1,loB_sound h2.2.2⟩
  ·rename_i h3 h4;rw[h3,h4];simp only[X3,beq_iff_eq] at h2;exact⟨h2.1,verK_sound h2.2.1,loB_sound h2.2.2.1,loB_sound h2.2.2.2⟩
  ·rename_i h3 h4;rw[h3,h4];simp only[X3,beq_iff_eq] at h2;exact⟨h2.1,loB_sound h2.2.1,loB_sound h2.2.2⟩
  ·cases h2
 case h_14 t ps=>
  simp only[X3] at hb;refine⟨fun p hp=>Y0y (Xd.1 hb.1 p hp), ?_⟩;unfold poBuild;refine⟨fun p hp=> ?_, ?_⟩
  ·obtain⟨q,hq,rfl⟩:=X00.1 hp;exact Y0v (Xd.1 hb.2.1 q hq)
  ·have h2:=hb.2.2
   split at h2
   ·rename_i e1 e2;rw[e1,e2];exact h2
   ·rename_i e1 e2 e3 e4;rw[e1,e2,e3,e4];exact h2
   ·cases h2
 case h_15 x t=>
  rw[X3] at hb;refine⟨Y0y hb.1, ?_⟩;have h2:=hb.2;unfold poLen
  split at h2
  ·rename_i h3;rw[h3];simpa using h2
  ·rename_i h3;rw[h3];simpa using h2
  ·rename_i h3;rw[h3];simp only[X3,beq_iff_eq] at h2;exact⟨h2.1,verB_sound h2.2⟩
  ·rename_i h3;rw[h3];simpa using h2
  ·cases h2
 case h_16 x y _=>
  simp only[X3] at hb;refine⟨Y0y hb.1,Y0y hb.2.1, ?_⟩;have h2:=hb.2.2;unfold poMin
  split at h2
  ·rename_i h3 h4;rw[h3,h4];trivial
  ·cases h2
 case h_17 x y _=>
  simp only[X3] at hb;refine⟨Y0y hb.1,Y0y hb.2.1, ?_⟩;have h2:=hb.2.2;unfold poMin
  split at h2
  ·rename_i h3 h4;rw[h3,h4];trivial
  ·cases h2
 case h_18=>cases hb
end
def Hp.rem:Hp→Nat→Hp
 |[],_=>[]
 |(i,v)::t,r=>bif Nat.beq i r then t else(i,v)::Hp.rem t r
theorem beqS(i r:Nat):(i=r∧Nat.beq i r=true)∨(i≠r∧Nat.beq i r=false):=by
 cases hb:Nat.beq i r with
 |true=>exact .inl ⟨X06 hb,rfl⟩
 |false=>exact .inr ⟨fun e=>by subst e;simp at hb,rfl⟩
def Hp.put (h:Hp) (r:Nat) (rt:Rt):Hp:=(r,rt)::h.rem r
section
variable {P:Program} {N:Nat} {env:Env} {h:Hp}
def elemE (P:Program) (t:TypeId):Option (TypeId×Nat×Nat×List Value):=match sle P t with
 |some e=>match zc P e,(P.info? e).map fun i=>(i.size,i.bytes) with
  |some z,some (k,bytes)=>if(z.length==k&&(z.all (·.oneCell')&&decide (0<k)))=true then some (e,k,bytes,z) else none
  |_,_=>none
 |none=>none
theorem Y3x{t e:TypeId}{k bytes:Nat}{z:List Value}(he:elemE P t=some (e,k,bytes,z)):Elem P t e k bytes z:=by
 unfold elemE at he
 split at he
 ·rename_i e' h1
  split at he
  ·rename_i z' k' b' h2 h3
   split at he
   ·rename_i h4;simp only[X0,Prod.mk.injEq] at he;obtain⟨rfl,rfl,rfl,rfl⟩:=he;simp only[X3,beq_iff_eq,decide_eq_true_eq] at h4;exact⟨h1,h2,h3,h4.1,h4.2.1,h4.2.2⟩
   ·cases he
  ·cases he
 ·cases he
theorem RStep.box{o:Oper}{e:TypeId}{x:Operand}(ho:o.op= .box e x)(r:Nat)(hr:h.at r=none)(hx:okC h (rdo env x)):
  RStep P o env h r ⟨0,true,e,(Y1l (rdo env x)).length,Y1l (rdo env x)⟩ (.ref r 0 0):=by
 intro X a w ι Q next H hop hn;have⟨h1,h2⟩:=hx.sound (hop x (by simp[ho,Op.operands]));have hlen:(a.eval x).cells.size=(Y1l (rdo env x)).length:=by simpa using h1.length
 have htk:(a.eval x).cells.toList.take (Y1l (rdo env x)).length=(a.eval x).cells.toList:=take_all (by simpa using hlen);have⟨H',K'⟩:=H.alloc r hr e (Y1l (rdo env x)).length 1 (Y1l (rdo env x)) (a.eval x).cells (by omega) (by simp[maxLen]) (by rw[htk];exact h1) (by rw[htk];exact h2);have hrun:(execOp a.eval o).run P w= .ok (.value (.pointer (some ⟨w.heap.size,0,none⟩))) (w.alloc (.cells (a.eval x).cells e)):=by
  simp[execOp,ho,Instr.box,newVar,newRow,Xb]
 simp only[Oper.wp,hrun,Oper.upon];exact hn _ _ _ H' K' (VR.newref (rt:=⟨0,true,e,_,_⟩) rfl 0)
theorem RStep.build{o:Oper}{t e:TypeId}{len k bytes:Nat}{z:List Value}{ps:List (Nat×Operand)}(ho:o.op= .buildSlice t len ps.toArray)
  (r:Nat) (hr:h.at r=none) (E:Elem P t e k bytes z) (hlen:len*k≤16777216) (hgd:∀p∈ps,gd (rdo env p.2)) (hok:∀p∈ps,okC h (st (rdo env p.2))) (cs:List AV)
  (hf:Y4p h (fun i=>some (i*k,k)) (Y4g z len) (ps.map fun p=>(p.1,st (rdo env p.2)))=some cs) (hone:∀x∈cs,oneA h x) (hcl:cs.length=len*k):
  RStep P o env h r ⟨0,true,e,k,cs⟩ (.rsl r 0 0 len):=by
 intro X a w ι Q next H hop hn;have hvp:=VRP.mk (h:=h) (w:=w) (ι:=ι) (A:=Own X.B h ι) (η:=a.eval) ps hgd (fun p hp=>hop p.2 (by
  rw[ho];simp only[Op.operands,X17,List.mem_toArray];exact X00.2 ⟨p,hp,rfl⟩))
 have⟨u,hu,hcu⟩:=zc_some (w:=w) E.zc;have⟨i,zu,hi,hisz,hiby,hiz,hzu⟩:=E.info;have husz:u.cells.size=k:=by rw[←E.zlen, ←hcu];simp
 have hz0:VRL w h ι (Own X.B h ι) (Y4g z len) ((Array.range (len*k)).map (u.cells[· %u.cells.size]!)).toList:=by
  rw[zeros_eq u.cells k len husz E.pos,hcu];exact VRL.vals _
 have⟨arr,h1,h2⟩:=fill_sound (arr:=(Array.range (len*k)).map (u.cells[· %u.cells.size]!)) hf hvp (fun p hp=>by
  obtain⟨q,hq,rfl⟩:=X00.1 hp;exact hok q hq) hz0
 have hal:arr.size=len*k:=by rw[←hcl];simpa using h2.length
 have htk:arr.toList.take cs.length=arr.toList:=take_all (by rw[hcl];simpa using hal);have hlm:len≤maxLen:=by
  have:len≤len*k:=Nat.le_mul_of_pos_right _ E.pos;simp only[maxLen];omega
 have⟨H',K'⟩:=H.alloc r hr e k len cs arr hal hlm (by rw[htk];exact h2) (by rw[htk];exact Y4h hone h2);have hrun:(execOp a.eval o).run P w= .ok (.value (.slice (some ⟨w.heap.size,0,none⟩) len len)) (w.alloc (.cells arr e)):=by
  have hbig:¬(len*k>2^24):=by omega
  simp only[execOp,ho,Instr.buildSlice,Xb,run_underlying (Y63 E.sle),sizeOf,typeInfo,program,Sem.run,hi,Xr,Xz,hisz]
  by_cases h0:len*k=0
  ·have hl0:len=0:=by
    rcases Nat.mul_eq_zero.1 h0 with h|h
    ·exact h
    ·have:=E.pos;omega
   have e0:Array.range 0= #[]:=rfl;simp only[hl0,X1k,e0,X17,X10] at h1;simp[hl0,e0,h1,newRow,Xb]
  ·simp[h0,hbig,hu,h1,newRow,Xb]
 simp only[Oper.wp,hrun,Oper.upon];refine hn _ _ _ H' K' (VR.newrsl (rt:=⟨0,true,e,k,_⟩) ?_);exact⟨_,_,rfl,Xn _,.inr ⟨w.heap.size,rfl,.inl ⟨rfl,by simp⟩⟩⟩
theorem Y6o{o:Oper}{s x:Operand}{t u e:TypeId}{k bytes:Nat}{z:List Value}(ho:o.op= .call ⟨.builtin .append, #[s,x], #[t,u]⟩)
  {r m:Nat} {news:List AV} (E:Elem P t e k bytes z) (hs:rdo env s= .im (.val (.slice none 0 0))) (hr:h.at r=none)
  (hx:gd (rdo env x)) (src:SrcA P h u k (st (rdo env x)) m news) (hsz:(0+m)*bytes≤140737488355328) (hmx:0+m≤140737488355328):
  HStep P o env h ((r,⟨1,true,e,k,news⟩)::(r,⟨0,true,e,k,[]⟩)::h) (.rsl r 1 0 m):=by
 intro X a w ι Q next H hop hnx;have⟨hud,hsrc⟩:=src;have⟨hlen,l,hvl,hl1,hll,hfc⟩:=hsrc X ι w (a.eval x) H ((hop x (by simp[ho,Op.operands,Call.operands])).st hx);have hsv:=hop s (by simp[ho,Op.operands,Call.operands]);rw[hs,Y0i] at hsv;have⟨H0,K0⟩:=H.upd r ⟨0,true,e,k,[]⟩ ⟨none,0⟩ w rfl rfl rfl (Xn _) (fun β _ _=>rfl) (fun rt h2=>by rw[hr] at h2;cases h2) (fun _ g hg=>by simp at hg) (fun _ _=>.inl ⟨rfl,rfl,rfl⟩);have hs0:VR w ((r,⟨0,true,e,k,[]⟩)::h) (upd ι r ⟨none,0⟩) (Own X.B ((r,⟨0,true,e,k,[]⟩)::h) (upd ι r ⟨none,0⟩)) (.rsl r 0 0 0) (a.eval s):=by
  rw[hsv];exact VR.newrsl (rt:=⟨0,true,e,k,[]⟩) ⟨none,0,rfl,Xn _,.inl ⟨rfl,rfl,rfl,rfl,rfl⟩⟩
 have:=append_core (n:=0) ho E (Y38 r ⟨0,true,e,k,[]⟩ h) rfl rfl rfl rfl (by simp) hsz hmx hud H0 hs0 hlen (VRL.keep K0 _ _ hvl) hl1 hll hfc (next:=next) (Q:=Q) (a:=a) (fun b' w' v H' K' hv=>by
  simp only[List.take_nil,X04,X03] at H' K' hv;exact hnx _ w' v H' (K0.trans K') hv)
 exact this
theorem Y6s{o:Oper}{f:FuncId}{xs:List Operand}(ho:o.op= .makeFunc (.func f) xs.toArray #[])(hg:∀x∈xs,gd (rdo env x)):
  HStep P o env h h (.fnv f (xs.map fun x=>st (rdo env x))):=by
 intro X a w ι Q next H hop hn;have hvs:=args_vr xs hg (fun x hx=>hop x (by simp[ho,Op.operands,hx]));have hex:(execOp a.eval o).run P w= .ok (.value (.func (.func f) (xs.map a.eval).toArray #[])) w:=by
  simp[execOp,ho,Instr.makeFunc,Xb]
 simp only[Oper.wp,hex,Oper.upon];refine hn ι w _ H (Keep.refl _ _ _ _) ?_;simp only[VR];exact⟨_,rfl,hvs⟩
def valsA:List AV→Option (List Value)
 |[]=>some []
 | .im (.val u)::r=>match valsA r with
  |some us=>some (u::us)
  |none=>none
 |_::_=>none
theorem valsA_sound:∀(cs:List AV) (us:List Value),valsA cs=some us→cs=us.map fun u=>.im (.val u)
 |[],us,hv=>by simp[valsA] at hv;subst hv;rfl
 | .im (.val u)::r,us,hv=>by
  simp only[valsA] at hv
  split at hv
  ·rename_i us' h1;simp only[X0] at hv;subst hv;rw[valsA_sound r us' h1]
   rfl
  ·cases hv
 | .any::_,_,hv=>by simp[valsA] at hv
 | .im (.sl _ _)::_,_,hv=>by simp[valsA] at hv
 | .im (.mp _)::_,_,hv=>by simp[valsA] at hv
 | .agg _::_,_,hv=>by simp[valsA] at hv
 | .tup _::_,_,hv=>by simp[valsA] at hv
 | .ipt _ _::_,_,hv=>by simp[valsA] at hv
 | .ref _ _ _::_,_,hv=>by simp[valsA] at hv
 | .rsl _ _ _ _::_,_,hv=>by simp[valsA] at hv
 | .cnd _ _::_,_,hv=>by simp[valsA] at hv
 | .fnv _ _::_,_,hv=>by simp[valsA] at hv
theorem Y3n{o:Oper}{t:TypeId}{x y:Operand}{r:AV}(ho:o.op= .lookup t x y false)(hl:lookE P t (rdo env x) (rdo env y)=some r):HStep P o env h h r:=by
 have hnc:gd (rdo env x)∧st (rdo env x)=rdo env x∧gd (rdo env y)∧st (rdo env y)=rdo env y:=by
  unfold lookE at hl
  split at hl
  ·rename_i h1 h2;rw[h1,h2];exact⟨trivial,rfl,trivial,rfl⟩
  ·cases hl
 exact Y3e (Quiet.lookup (o:={o with guard:=none}) ho (gpoU rfl ⟨hnc.1,hnc.2.2.1,by rw[hnc.2.1,hnc.2.2.2];exact hl⟩))
def intsV:List AV→Option (List Int)
 |[]=>some []
 | .im (.val (.int .u8 n))::r=>match intsV r with
  |some l=>some (n::l)
  |none=>none
 |_::_=>none
def rdq:Env→Nat→AV
 |[],_=>.any
 |(i,v)::r,t=>bif Nat.beq i t then v else rdq r t
theorem rdq_eq:∀(env:Env) (t:Nat),rdq env t=rd env t
 |[],_=>rfl
 |(i,v)::r,t=>by
  simp only[rdq,rd]
  by_cases e:i=t
  ·rw[if_pos e,show Nat.beq i t=true by simp[e]];rfl
  ·rw[if_neg e,show Nat.beq i t=false by cases hb:Nat.beq i t with|false=>rfl|true=>exact absurd (X06 hb) e];exact rdq_eq r t
def atq:Hp→Nat→Option Rt
 |[],_=>none
 |(i,v)::r,t=>bif Nat.beq i t then some v else atq r t
def rdoq (env:Env):Operand→AV
 | .tmp t=>rdq env t
 | .const v=>.im (.val v)
 | .global g=>rdo env (.global g)
 | .func f=>.im (.val (.func (.func f) #[] #[]))
abbrev Look:=Nat→Option Rt
def nle (n m:Nat):Bool:=Nat.ble n m
def nlt (n m:Nat):Bool:=Nat.ble (n+1) m
def atG (n:Nat) (h:Hp):Look:=fun r=>bif nlt r n then atq h r else none
def cutH (n:Nat) (h:Hp):Hp:=h.filter fun p=>nlt p.1 n
theorem nle_eq(n m:Nat):(nle n m=true)=(n≤m):=by simp[nle]
theorem nlt_eq(n m:Nat):(nlt n m=true)=(n<m):=by simp[nlt,Nat.succ_le_iff]
def verQ (A:Look) (r ver:Nat):Bool:=match A r with
 |some rt=>Nat.beq rt.ver ver
 |none=>false
def verKQ (A:Look) (r ver k:Nat):Bool:=match A r with
 |some rt=>Nat.beq rt.ver ver&&Nat.beq rt.k k
 |none=>false
def oneQ (A:Look):AV→Bool
 | .im (.val u)=>u.oneCell'
 | .im (.sl _ _)=>true
 | .im (.mp _)=>true
 | .fnv _ _=>true
 | .ref r ver _=>verQ A r ver
 | .rsl r ver _ _=>verQ A r ver
 |_=>false
def okQ (A:Look):AV→Bool
 | .agg cs=>cs.all (oneQ A)
 |v=>oneQ A v
variable {A:Look}
def srcQ (P:Program) (A:Look) (u:TypeId) (k:Nat) (x:AV):Option (Nat×List AV):=match x with
 | .im (.sl ys m)=>bif Nat.beq (tk P u) 1&&Nat.beq ys.length (m*k) then some (m,ys.map .im) else none
 | .im (.val (.slice none 0 0))=>bif Nat.beq (tk P u) 1 then some (0,[]) else none
 | .rsl r ver off m=>match A r with
  |some rt=>bif Nat.beq (tk P u) 1&&(Nat.beq rt.ver ver&&(rt.live&&(Nat.beq rt.k k&&nle (off+m*k) rt.cs.length))) then some (m,(rt.cs.drop off).take (m*k)) else none
  |none=>none
 | .im (.val (.string s))=>bif Nat.beq (tk P u) 2&&Nat.beq k 1 then some (s.size,s.data.toList.map fun b=>.int .u8 b.toNat) else none
 |_=>none
def slQ (A:Look):AV→Bool
 | .im (.sl _ _)=>true
 | .im (.val (.slice none 0 0))=>true
 | .rsl r ver _ _=>verQ A r ver
 |_=>false
def liMove:AV→Option AV
 | .cnd _ _=>none
 |v=>some v
def liPart (cs:List AV) (off:Nat) (s:Option (Option Nat)):Option AV:=match s with
 |some none=>cs[off]?
 |some (some n)=>bif nle (off+n) cs.length then some (.agg ((cs.drop off).take n)) else none
 |none=>none
def iv (k:IntKind) (n:Int):Option AV:=some (.im (.val (.int k n)))
def bv (b:Bool):Option AV:=some (.im (.val (.bool b)))
def ariB (k:IntKind) (n:Int):Option AV:=bif okAb k n then iv k (nw k n) else none
def liInt (op:BinOp) (k:IntKind) (a b:Int):Option AV:=match op with
 | .add=>ariB k (a+b)
 | .sub=>ariB k (a-b)
 | .mul=>ariB k (a*b)
 | .quo=>bif decide (b≠0) then ariB k (a.tdiv b) else none
 | .rem=>bif decide (b≠0) then iv k (a.tmod b) else none
 | .eql=>bv (a==b)
 | .neq=>bv (a !=b)
 | .lss=>bv (a<b)
 | .leq=>bv (a≤b)
 | .gtr=>bv (b<a)
 | .geq=>bv (b≤a)
 |_=>none
def liStr (op:BinOp) (a b:ByteArray):Option AV:=match op with
 | .eql=>bv (a.toList==b.toList)
 | .neq=>bv (!(a.toList==b.toList))
 | .add=>bif decide (a.size+b.size≤9223372036854775807) then some (.im (.val (.string (a++b)))) else none
 |_=>none
def liAgg (P:Program) (b:BinOp) (t:TypeId) (us vs:List AV):Option AV:=match valsA us,valsA vs with
 |some us,some vs=>if P.eqGuardType P.depth t=false then(match b,eqV P Op.maxDepth t (.agg us.toArray) (.agg vs.toArray) with
  | .eql,some l=>some (.bool (xor false (l.all id)))
  | .neq,some l=>some (.bool (xor true (l.all id)))
  |_,_=>none) else none
 |_,_=>none
def liBool (P:Program) (op:BinOp) (t:TypeId) (a b:Bool):Option AV:=bif Nat.beq (tk P t) 5 then(match op with
 | .eql=>bv (a==b)
 | .neq=>bv (a !=b)
 |_=>none) else none
def liBin (P:Program) (op:BinOp) (t:TypeId) (x y:AV):Option AV:=match x,y with
 | .im (.val (.int k a)),.im (.val (.int k' b))=>bif decide (k=k') then liInt op k a b else none
 | .im (.val (.bool a)),.im (.val (.bool b))=>liBool P op t a b
 | .im (.val (.string a)),.im (.val (.string b))=>liStr op a b
 | .agg us,.agg vs=>liAgg P op t us vs
 |_,_=>none
def liUn (op:UnOp) (x:AV):Option AV:=match x with
 | .im (.val (.bool b))=>(match op with| .not=>bv (!b)|_=>none)
 | .im (.val (.int k n))=>(match op with| .neg=>ariB k (0-n)|_=>none)
 |_=>none
def liVer (A:Look) (r ver:Nat) (x:AV):Option AV:=match A r with
 |some rt=>bif Nat.beq rt.ver ver then some x else none
 |none=>none
def liFieldAddr (P:Program) (A:Look) (s:TypeId) (f:Nat) (x:AV):Option AV:=match fo P s f with
 |some d=>(match x with
  | .ref r ver off=>liVer A r ver (.ref r ver (off+d))
  | .ipt cs off=>some (.ipt cs (off+d))
  |_=>none)
 |none=>none
def liField (P:Program) (t:TypeId) (f:Nat) (x:AV):Option AV:=match x with
 | .agg cs=>(match fl P t f with|some (off,ty)=>liPart cs off (lz P ty)|none=>none)
 |_=>none
def liIdxA (P:Program) (A:Look) (t:TypeId) (k:Nat) (x:AV) (j:Int):Option AV:=match x with
 | .im (.sl cs n)=>bif Nat.beq (tk P t) 1&&inB j n then some (.ipt cs (j.toNat*k)) else none
 | .rsl r ver off n=>bif Nat.beq (tk P t) 1&&inB j n then(match A r with|some rt=>bif Nat.beq rt.ver ver&&Nat.beq rt.k k then some (.ref r ver (off+j.toNat*k)) else none|none=>none) else none
 | .ref r ver off=>(match alen P t with|some n=>bif inB j n then liVer A r ver (.ref r ver (off+j.toNat*k)) else none|none=>none)
 | .ipt cs off=>(match alen P t with|some n=>bif inB j n then some (.ipt cs (off+j.toNat*k)) else none|none=>none)
 |_=>none
def liIdxAddr (P:Program) (A:Look) (t:TypeId) (x i:AV):Option AV:=match i with
 | .im (.val (.int _ j))=>(match ez P t with|some k=>liIdxA P A t k x j|none=>none)
 |_=>none
def liIndex (P:Program) (t:TypeId) (x i:AV):Option AV:=match i with
 | .im (.val (.int _ j))=>(match x with
  | .agg cs=>(match ez P t,aty P t,alen P t with|some k,some e,some n=>bif inB j n then liPart cs (j.toNat*k) (lz P e) else none|_,_,_=>none)
  | .im (.val (.string s))=>bif Nat.beq (tk P t) 2&&inB j s.size then iv .u8 (s.data.toList.getD j.toNat 0).toNat else none
  |_=>none)
 |_=>none
def liLoad (P:Program) (A:Look) (t:TypeId) (x:AV):Option AV:=match x with
 | .ref r ver off=>(match A r with
  |some rt=>bif Nat.beq rt.ver ver&&rt.live then liPart rt.cs off (lz P t) else none
  |none=>none)
 | .ipt cs off=>(match lz P t with
  |some none=>(match cs[off]? with|some c=>some (.im c)|none=>none)
  |some (some n)=>bif nle (off+n) cs.length then some (.agg (((cs.drop off).take n).map .im)) else none
  |none=>none)
 |_=>none
def liExt (x:AV) (i:Nat):Option AV:=match x with
 | .tup vs=>vs[i]?
 |_=>none
def liSlice (P:Program) (A:Look) (t:TypeId) (x:AV) (lo hi:Option AV):Option AV:=match x with
 | .im (.sl cs n)=>(match ez P t with|some k=>bif Nat.beq (tk P t) 1&&(loB n hi&&loB (Y32 n hi) lo) then some (.im (.sl ((cs.drop (Y5w lo*k)).take ((Y32 n hi-Y5w lo)*k)) (Y32 n hi-Y5w lo))) else none|none=>none)
 | .rsl r ver off n=>(match ez P t with|some k=>bif Nat.beq (tk P t) 1&&(verKQ A r ver k&&(loB n hi&&loB (Y32 n hi) lo)) then some (.rsl r ver (off+Y5w lo*k) (Y32 n hi-Y5w lo)) else none|none=>none)
 | .im (.val (.string s))=>(match ez P t with|none=>bif Nat.beq (tk P t) 2&&(loB s.size hi&&loB (Y32 s.size hi) lo) then some (.im (.val (.string (s.extract (Y5w lo) (Y32 s.size hi))))) else none|some _=>none)
 |_=>none
def liFill (place:Nat→Option (Nat×Nat)) (z:List Value) (parts:List (Nat×AV)):Option AV:=match Y4p [] place (z.map fun v=>.im (.val v)) parts with
 |some cs=>some (.agg cs)
 |none=>none
def liBuild (P:Program) (A:Look) (t:TypeId) (parts:List (Nat×AV)):Option AV:=bif parts.all fun p=>okQ A p.2 then(match zc P t with
 |some z=>(match fps P t with
  |some fs=>liFill (fs[·]?) z parts
  |none=>(match alen P t,ez P t with|some _,some k=>liFill (fun i=>some (i*k,k)) z parts|_,_=>none))
 |none=>none) else none
def liLen (P:Program) (A:Look) (t:TypeId) (x:AV):Option AV:=match x with
 | .im (.sl _ n)=>bif Nat.beq (tk P t) 1 then iv .i64 n else none
 | .im (.val (.slice _ n _))=>bif Nat.beq (tk P t) 1 then iv .i64 n else none
 | .rsl r ver _ n=>bif Nat.beq (tk P t) 1 then liVer A r ver (.im (.val (.int .i64 n))) else none
 | .im (.val (.string s))=>bif Nat.beq (tk P t) 2 then iv .i64 s.size else none
 |_=>none
def liMin (x y:AV):Option AV:=match x,y with
 | .im (.val (.int k a)),.im (.val (.int _ b))=>iv k (if b<a then b else a)
 |_,_=>none
def liMax (x y:AV):Option AV:=match x,y with
 | .im (.val (.int k a)),.im (.val (.int _ b))=>iv k (if b>a then b else a)
 |_,_=>none
def liBuiltin (P:Program) (A:Look) (ρ:Operand→AV) (b:Builtin) (xs:List Operand) (ts:List TypeId):Option AV:=match b with
 | .len=>(match xs,ts with|[x],[t]=>liLen P A t (ρ x)|_,_=>none)
 | .min=>(match xs with|[x,y]=>liMin (ρ x) (ρ y)|_=>none)
 | .max=>(match xs with|[x,y]=>liMax (ρ x) (ρ y)|_=>none)
 |_=>none
def liCall (P:Program) (A:Look) (ρ:Operand→AV):Call→Option AV
 |⟨.builtin b,⟨xs⟩,⟨ts⟩⟩=>liBuiltin P A ρ b xs ts
 |_=>none
def liNil (A:Look) (x:AV):Option AV:=match x with
 | .ref r ver off=>liVer A r ver (.ref r ver off)
 | .ipt cs off=>some (.ipt cs off)
 |_=>none
def liToStr (P:Program) (A:Look) (s:TypeId) (x:AV):Option AV:=if slQ A x=true then(match srcQ P A s 1 x with
 |some (m,cs)=>(match intsV cs with|some l=>if m=l.length then some (.string (strOf l)) else none|none=>none)
 |none=>none) else none
def liConvS (P:Program) (A:Look) (s d:TypeId) (x:AV):Option AV:=match P.underlying s,P.underlying d with
 |some (.slice e),some .string=>if ik P e=some .u8 then liToStr P A s x else none
 |some .string,some (.slice e)=>if ik P e=some .u8 then(match x with
  | .im (.val (.string b))=>some (slA (eI .u8) (bytesOf b))
  |_=>none) else none
 |_,_=>none
def liConv (P:Program) (A:Look) (s d:TypeId) (x:AV):Option AV:=match x with
 | .im (.val (.int _ n))=>(match ik P d with|some k=>bif tk P s !=0 then iv k (k.wrap n) else none|none=>none)
 | .im (.val (.string b))=>(match ik P d with|some _=>none|none=>bif Nat.beq (tk P s) 2&&Nat.beq (tk P d) 2 then some (.im (.val (.string b))) else liConvS P A s d x)
 |x=>liConvS P A s d x
def liFunc (ρ:Operand→AV) (f:Fn) (xs ys:List Operand):Option AV:=match f,ys with
 | .func f,[]=>if(xs.all fun x=>gdb (ρ x))=true then some (.fnv f (xs.map fun x=>st (ρ x))) else none
 |_,_=>none
def optV (ρ:Operand→AV):Option Operand→Option AV
 |some x=>some (ρ x)
 |none=>none
def lite (P:Program) (A:Look) (ρ:Operand→AV) (op:Op):Option AV:=match op with
 | .move x=>liMove (ρ x)
 | .assign x=>liMove (ρ x)
 | .pick c a b=>(match ρ c with| .im (.val (.bool g))=>(bif g then liMove (ρ a) else liMove (ρ b))|_=>none)
 | .binOp op t x y _=>liBin P op t (ρ x) (ρ y)
 | .unOp op _ x=>liUn op (ρ x)
 | .convert s d x=>liConv P A s d (ρ x)
 | .fieldAddr s x f=>liFieldAddr P A s f (ρ x)
 | .field t x f=>liField P t f (ρ x)
 | .indexAddr t x i=>liIdxAddr P A t (ρ x) (ρ i)
 | .index t x i=>liIndex P t (ρ x) (ρ i)
 | .load t x=>liLoad P A t (ρ x)
 | .extract x i=>liExt (ρ x) i
 | .slice t x lo hi m=>(match m with|none=>liSlice P A t (ρ x) (optV ρ lo) (optV ρ hi)|some _=>none)
 | .build t ⟨ps⟩=>liBuild P A t (ps.map fun p=>(p.1,ρ p.2))
 | .call c=>liCall P A ρ c
 | .nilCheck x=>liNil A (ρ x)
 | .makeFunc f ⟨xs⟩ ⟨ys⟩=>liFunc ρ f xs ys
 | .lookup t x y b=>(bif b then none else lookE P t (ρ x) (ρ y))
 |_=>none
theorem Y27(x:IV):st (.im x)= .im x:=rfl
theorem Y1a(x:List AV):st (.agg x)= .agg x:=rfl
theorem Y17(x:List AV):st (.tup x)= .tup x:=rfl
theorem Y19(x:List IV)(n:Nat):st (.ipt x n)= .ipt x n:=rfl
theorem Y18(r v o:Nat):st (.ref r v o)= .ref r v o:=rfl
theorem Y11(r v o n:Nat):st (.rsl r v o n)= .rsl r v o n:=rfl
theorem Y36(x:IV):gdb (.im x)=true:=rfl
theorem Y2u(x:List AV):gdb (.agg x)=true:=rfl
theorem Y2r(x:List AV):gdb (.tup x)=true:=rfl
theorem Y2t(x:List IV)(n:Nat):gdb (.ipt x n)=true:=rfl
theorem Y2s(r v o:Nat):gdb (.ref r v o)=true:=rfl
theorem Y2m(r v o n:Nat):gdb (.rsl r v o n)=true:=rfl
def hvAlloc (P:Program) (n:Nat) (e:TypeId):Option (AV×Nat×Rt×Bool):=match zc P e with
  |some z=>bif z.all (·.oneCell') then some (.ref n 0 0,n,⟨0,true,e,z.length,z.map fun v=>.im (.val v)⟩,true) else none
  |none=>none
def hvBox (A:Look) (n:Nat) (e:TypeId) (x:AV):Option (AV×Nat×Rt×Bool):=bif okQ A x then some (.ref n 0 0,n,⟨0,true,e,(Y1l x).length,Y1l x⟩,true) else none
def hvFill (A:Look) (n:Nat) (e:TypeId) (len k:Nat) (z:List Value) (parts:List (Nat×AV)):Option (AV×Nat×Rt×Bool):=match Y4p [] (fun i=>some (i*k,k)) (Y4g z len) parts with
 |some cs=>bif (cs.all (oneQ A))&&Nat.beq cs.length (len*k) then some (.rsl n 0 0 len,n,⟨0,true,e,k,cs⟩,true) else none
 |none=>none
def hvBuild (P:Program) (A:Look) (n:Nat) (t:TypeId) (len:Nat) (parts:List (Nat×AV)):Option (AV×Nat×Rt×Bool):=match elemE P t with
 |some (e,k,_,z)=>bif nle (len*k) 16777216&&(parts.all fun p=>okQ A p.2) then hvFill A n e len k z parts else none
 |none=>none
def hvMake (P:Program) (n:Nat) (t:TypeId) (x y:AV):Option (AV×Nat×Rt×Bool):=match elemE P t,x,y with
 |some (e,k,bytes,z),.im (.val (.int _ l)),.im (.val (.int _ c))=>bif decide (0≤l)&&(decide (l≤c)&&(decide ((bytes:Int)*c≤281474976710656)&&decide (c≤9223372036854775807))) then
  some (.rsl n 0 0 l.toNat,n,⟨0,true,e,k,Y4g z l.toNat⟩,true) else none
 |_,_,_=>none
def hvStore (P:Program) (A:Look) (t:TypeId) (x y:AV):Option (AV×Nat×Rt×Bool):=match x with
 | .ref r ver off=>match A r with
  |some rt=>bif Nat.beq rt.ver ver&&(rt.live&&(szt P t==some (Y1l y).length&&(okQ A y&&nle (off+(Y1l y).length) rt.cs.length))) then
   some (.any,r,⟨rt.ver,true,rt.e,rt.k,putA rt.cs off (Y1l y)⟩,false) else none
  |none=>none
 |_=>none
def hvApp (A:Look) (n:Nat) (s:AV) (e:TypeId) (k bytes m:Nat) (news:List AV):Option (AV×Nat×Rt×Bool):=match s with
 | .rsl r ver 0 j=>(match A r with
  |some rt=>bif Nat.beq rt.ver ver&&(rt.live&&(Nat.beq rt.e e&&(Nat.beq rt.k k&&(nle (j*k) rt.cs.length&&(nle ((j+m)*bytes) 140737488355328&&nle (j+m) 140737488355328))))) then
   some (.rsl r (ver+1) 0 (j+m),r,⟨ver+1,true,e,k,rt.cs.take (j*k)++news⟩,false) else none
  |none=>none)
 | .im (.val (.slice none 0 0))=>bif nle ((0+m)*bytes) 140737488355328&&nle (0+m) 140737488355328 then some (.rsl n 1 0 m,n,⟨1,true,e,k,news⟩,true) else none
 |_=>none
def hvAppend (P:Program) (A:Look) (n:Nat) (s x:AV) (t u:TypeId):Option (AV×Nat×Rt×Bool):=match elemE P t with
 |some (e,k,bytes,_)=>(match srcQ P A u k (st x) with
  |some (m,news)=>bif gdb x then hvApp A n s e k bytes m news else none
  |none=>none)
 |none=>none
def hvCall (P:Program) (A:Look) (n:Nat) (ρ:Operand→AV):Call→Option (AV×Nat×Rt×Bool)
 |⟨.builtin .append,⟨[s,x]⟩,⟨[t,u]⟩⟩=>hvAppend P A n (ρ s) (ρ x) t u
 |_=>none
def heavy (P:Program) (A:Look) (n:Nat) (ρ:Operand→AV) (op:Op):Option (AV×Nat×Rt×Bool):=match op with
 | .alloc e=>hvAlloc P n e
 | .box e x=>hvBox A n e (ρ x)
 | .buildSlice t len ⟨ps⟩=>hvBuild P A n t len (ps.map fun p=>(p.1,ρ p.2))
 | .makeSlice t x y=>hvMake P n t (ρ x) (ρ y)
 | .store t x y=>hvStore P A t (ρ x) (ρ y)
 | .call c=>hvCall P A n ρ c
 |_=>none
end
end Go.Abs
