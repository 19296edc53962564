/- Own work. -/
import Derived.Test.YtfpcbalkioolmaaDoorLibG
set_option linter.unusedSimpArgs false
set_option linter.unusedVariables false
namespace Go.Abs
open Go.RowKit
section
variable {P:Program} {N:Nat} {ops:Array Oper} {env:Env} {h:Hp}
theorem Keep.trans{w w1 w2:World}{h h1 h2:Hp}{ι ι1 ι2:Nat→Bk}{A A1 A2:Nat→Prop}(K1:Keep w h ι A w1 h1 ι1 A1)(K2:Keep w1 h1 ι1 A1 w2 h2 ι2 A2):Keep w h ι A w2 h2 ι2 A2 where
 blk β hβ hA:=by
  have⟨e1,e2⟩:=K1.blk β hβ hA
  have hlt:β<w1.heap.size:=(X03.1 (e1.trans (X0m hβ))).1
  have⟨e3,e4⟩:=K2.blk β hlt e2
  simp_all
 hp r rt hr:=by
  have⟨rt1,a1,b1,c1⟩:=K1.hp r rt hr
  have⟨rt2,a2,b2,c2⟩:=K2.hp r rt1 a1
  grind
theorem Keep.refl(w:World)(h:Hp)(ι:Nat→Bk)(A:Nat→Prop):Keep w h ι A w h ι A:=
 ⟨fun _ _ hA=>⟨rfl,hA⟩,fun _ rt hr=>⟨rt,hr,Xk _,fun _=>⟨rfl,rfl⟩⟩⟩
def HStep (P:Program) (o:Oper) (env:Env) (h h':Hp) (av:AV):Prop:=
 ∀(X:Ctx) (a:Act) (w:World) (ι:Nat→Bk) (Q:Exit→Act→World→Prop) (next:Act→World→Prop),Hol X h ι w→
  (∀x,x∈o.op.operands→VR w h ι (Own X.B h ι) (rdo env x) (a.eval x))→
  (∀ι' w' v,Hol X h' ι' w'→Keep w h ι (Own X.B h ι) w' h' ι' (Own X.B h' ι')→VR w' h' ι' (Own X.B h' ι') av v→next (a.put o.dst v) w')→o.wp P a w next Q
theorem Y30{o:Oper}{r:Nat}{rt:Rt}{av:AV}(hs:RStep P o env h r rt av):HStep P o env h ((r,rt)::h) av:=
 fun X a w ι Q next H hop hn=>hs X a w ι Q next H hop fun b' w' v H' K' hv=>hn _ w' v H' K' hv
theorem Y2c{o:Oper}{av:AV}(hq:Quiet P #[] {o with guard:=none} env h av):HStep P o env h h av:=by
 intro X a w ι Q next H hop hn;have h1:=hq X a w ι Q H (fun s hs=>by
  simp only[Oper.looksAt,X0l,List.mem_filterMap] at hs;have⟨x,hx,he⟩:=hs
  split at he
  ·simp only[X0] at he;subst he;exact hop _ (by simpa using hx)
  ·cases he) next (fun v w' hb hv=>hn ι w' v (H.below hb) (Keep.below hb) hv)
 simp only[Region.wanted,if_true] at h1;exact h1
theorem Y9k{o:Oper}{h' h'':Hp}{av:AV}(he:Hp.eqv h' h'')(hs:HStep P o env h h' av):HStep P o env h h'' av:=
 fun X a w ι Q next H hop hn=>hs X a w ι Q next H hop fun ι' w' v H' K' hv=>by
  refine hn ι' w' v (H'.eqv he) ?_ ?_
  ·rw[Own.eqv he];exact K'.trans (Keep.eqv he)
  ·rw[Own.eqv he];exact VR.keep (Keep.eqv he) _ _ hv
def gdb:AV→Bool
 | .cnd g _=>g
 |_=>true
theorem Y1d{x:AV}(hx:gdb x=true):gd x:=by cases x<;>first|exact hx|trivial
def gdbo (ρ:Operand→AV):Option Operand→Bool
 |some x=>gdb (ρ x)
 |none=>true
theorem gdbo_sound{ρ:Operand→AV}{o:Option Operand}(hx:gdbo ρ o=true):gdo ρ o:=by
 cases o with
 |none=>trivial
 |some x=>exact Y1d hx
def okAb (k:IntKind) (n:Int):Bool:=match k with
 | .i64=>decide (-9223372036854775808≤n)&&decide (n≤9223372036854775807)
 |_=>true
theorem okAb_sound{k:IntKind}{n:Int}(hx:okAb k n=true):okA k n:=by
 cases k<;>simp_all[okAb,okA]
def binB (P:Program) (t:TypeId) (op:BinOp) (x y:AV):Bool:=match x,y with
 | .im (.val (.int k a)),.im (.val (.int k' b))=>match op with
  | .shl=>decide (0≤b)
  | .shr=>decide (0≤b)
  | .add=>decide (k=k')&&okAb k (a+b)
  | .sub=>decide (k=k')&&okAb k (a-b)
  | .mul=>decide (k=k')&&okAb k (a*b)
  | .quo=>decide (k=k')&&(decide (b≠0)&&okAb k (a.tdiv b))
  | .rem=>decide (k=k')&&decide (b≠0)
  |_=>decide (k=k')
 | .im (.val (.bool _)),.im (.val (.bool _))=>match op with
  | .eql=>tk P t==5
  | .neq=>tk P t==5
  |_=>false
 | .im (.val (.string a)),.im (.val (.string b))=>match op with
  | .add=>decide (a.size+b.size≤9223372036854775807)
  | .eql=>true| .neq=>true| .lss=>true| .leq=>true| .gtr=>true| .geq=>true
  |_=>false
 |_,_=>false
theorem binB_sound{t:TypeId}{op:BinOp}{x y:AV}(hb:binB P t op x y=true):poBin P t op x y:=by
 unfold binB at hb;unfold poBin
 split at hb
 ·cases op<;>simp only[X2,decide_eq_true_eq] at hb⊢ <;>first|exact hb|exact⟨hb.1,okAb_sound hb.2⟩|exact⟨hb.1,hb.2.1,okAb_sound hb.2.2⟩
 ·cases op<;>simp at hb⊢ <;>exact hb
 ·cases op<;>simp at hb⊢ <;>exact hb
 ·cases hb
def verB (h:Hp) (r ver:Nat):Bool:=match h.at r with
 |some rt=>rt.ver==ver
 |none=>false
theorem verB_sound{r ver:Nat}(hv:verB h r ver=true):(h.at r).map (·.ver)=some ver:=by
 unfold verB at hv
 grind
def verK (h:Hp) (r ver k:Nat):Bool:=match h.at r with
 |some rt=>rt.ver==ver&&rt.k==k
 |none=>false
theorem verK_sound{r ver k:Nat}(hv:verK h r ver k=true):(h.at r).map (fun rt=>(rt.ver,rt.k))=some (ver,k):=by
 unfold verK at hv
 grind
def partB (cs:List AV) (off:Nat) (s:Option (Option Nat)):Bool:=match s with
 |some none=>decide (off<cs.length)
 |some (some n)=>decide (off+n≤cs.length)
 |none=>false
theorem partB_sound{cs:List AV}{off:Nat}{s:Option (Option Nat)}(hp:partB cs off s=true):poPart cs off s:=by
 unfold partB at hp;unfold poPart
 split at hp<;>simp_all
def loB (hi:Nat):Option AV→Bool
 |none=>true
 |some (.im (.val (.int _ l)))=>decide (0≤l)&&decide (l≤hi)
 |_=>false
theorem loB_sound{hi:Nat}{x:Option AV}(hx:loB hi x=true):okLo hi x:=by
 unfold loB at hx;unfold okLo
 split at hx<;>simp_all
def inB (j:Int) (n:Nat):Bool:=decide (0≤j)&&decide (j<(n:Int))
theorem inB_sound{j:Int}{n:Nat}(hx:inB j n=true):0≤j∧j<(n:Int):=by simpa [inB] using hx
def pb (P:Program) (h:Hp) (ρ:Operand→AV):Op→Bool
 | .move x=>gdb (ρ x)
 | .assign x=>gdb (ρ x)
 | .pick c a b=>gdb (ρ c)&&match st (ρ c) with
  | .im (.val (.bool g))=>(!g||gdb (ρ a))&&(g||gdb (ρ b))
  |_=>false
 | .binOp op t x y _=>gdb (ρ x)&&(gdb (ρ y)&&binB P t op (st (ρ x)) (st (ρ y)))
 | .unOp op _ x=>gdb (ρ x)&&match op,st (ρ x) with
  | .not,.im (.val (.bool _))=>true
  | .neg,.im (.val (.int k n))=>okAb k (0-n)
  |_,_=>false
 | .convert s d x=>gdb (ρ x)&&match st (ρ x),ik P d with
  | .im (.val (.int _ _)),some _=>tk P s !=0
  | .im (.val (.string _)),none=>tk P s==2&&tk P d==2
  |_,_=>false
 | .fieldAddr s x f=>gdb (ρ x)&&match fo P s f,st (ρ x) with
  |some _,.ipt _ _=>true
  |some _,.ref r ver _=>verB h r ver
  |_,_=>false
 | .field t x f=>gdb (ρ x)&&match st (ρ x),fl P t f with
  | .agg cs,some (off,ty)=>partB cs off (lz P ty)
  |_,_=>false
 | .indexAddr t x i=>gdb (ρ x)&&(gdb (ρ i)&&match ez P t,st (ρ x),st (ρ i) with
  |some _,.im (.sl _ n),.im (.val (.int _ j))=>tk P t==1&&inB j n
  |some k,.rsl r ver _ n,.im (.val (.int _ j))=>tk P t==1&&(verK h r ver k&&inB j n)
  |some _,.ref r ver _,.im (.val (.int _ j))=>(match alen P t with|some n=>verB h r ver&&inB j n|none=>false)
  |some _,.ipt _ _,.im (.val (.int _ j))=>(match alen P t with|some n=>inB j n|none=>false)
  |_,_,_=>false)
 | .index t x i=>gdb (ρ x)&&(gdb (ρ i)&&match st (ρ x),st (ρ i) with
  | .agg cs,.im (.val (.int _ j))=>(match ez P t,aty P t,alen P t with|some k,some e,some n=>inB j n&&partB cs (j.toNat*k) (lz P e)|_,_,_=>false)
  | .im (.val (.string s)),.im (.val (.int _ j))=>tk P t==2&&inB j s.size
  |_,_=>false)
 | .load t x=>gdb (ρ x)&&match lz P t,st (ρ x) with
  |some none,.ipt cs off=>decide (off<cs.length)
  |some (some n),.ipt cs off=>decide (off+n≤cs.length)
  |some none,.ref r ver off=>(match h.at r with|some rt=>rt.ver==ver&&(rt.live&&decide (off<rt.cs.length))|none=>false)
  |some (some n),.ref r ver off=>(match h.at r with|some rt=>rt.ver==ver&&(rt.live&&decide (off+n≤rt.cs.length))|none=>false)
  |_,_=>false
 | .extract x i=>gdb (ρ x)&&match st (ρ x) with
  | .tup vs=>decide (i<vs.length)
  |_=>false
 | .slice t x lo hi none=>gdb (ρ x)&&(gdbo ρ lo&&(gdbo ρ hi&&match ez P t,st (ρ x) with
  |some _,.im (.sl _ n)=>tk P t==1&&(loB n (hi.map fun y=>st (ρ y))&&loB (Y4i n (hi.map fun y=>st (ρ y))) (lo.map fun y=>st (ρ y)))
  |some k,.rsl r ver _ n=>tk P t==1&&(verK h r ver k&&(loB n (hi.map fun y=>st (ρ y))&&loB (Y4i n (hi.map fun y=>st (ρ y))) (lo.map fun y=>st (ρ y))))
  |none,.im (.val (.string s))=>tk P t==2&&(loB s.size (hi.map fun y=>st (ρ y))&&loB (Y4i s.size (hi.map fun y=>st (ρ y))) (lo.map fun y=>st (ρ y)))
  |_,_=>false))
 | .build t ps=>(ps.toList.all fun p=>gdb (ρ p.2))&&((ps.toList.all fun p=>okCb h (st (ρ p.2)))&&match zc P t,fps P t,alen P t,ez P t with
  |some z,some fs,_,_=>(Y7a h (fs[·]?) (z.map fun v=>.im (.val v)) (ps.toList.map fun p=>(p.1,st (ρ p.2)))).isSome
  |some z,none,some _,some k=>(Y7a h (fun i=>some (i*k,k)) (z.map fun v=>.im (.val v)) (ps.toList.map fun p=>(p.1,st (ρ p.2)))).isSome
  |_,_,_,_=>false)
 | .call ⟨.builtin .len,⟨[x]⟩,⟨[t]⟩⟩=>gdb (ρ x)&&match st (ρ x) with
  | .im (.sl _ _)=>tk P t==1
  | .im (.val (.slice _ _ _))=>tk P t==1
  | .rsl r ver _ _=>tk P t==1&&verB h r ver
  | .im (.val (.string _))=>tk P t==2
  |_=>false
 | .call ⟨.builtin .min,⟨[x,y]⟩,_⟩=>gdb (ρ x)&&(gdb (ρ y)&&match st (ρ x),st (ρ y) with
  | .im (.val (.int _ _)),.im (.val (.int _ _))=>true
  |_,_=>false)
 | .call ⟨.builtin .max,⟨[x,y]⟩,_⟩=>gdb (ρ x)&&(gdb (ρ y)&&match st (ρ x),st (ρ y) with
  | .im (.val (.int _ _)),.im (.val (.int _ _))=>true
  |_,_=>false)
 |_=>false
theorem pb_sound{ρ:Operand→AV}{op:Op}(hb:pb P h ρ op=true):po P h ρ op:=by
 unfold pb at hb
 split at hb
 case h_1 x=>exact Y1d hb
 case h_2 x=>exact Y1d hb
 case h_3 c a b=>
  rw[X2] at hb;refine⟨Y1d hb.1, ?_⟩;have h2:=hb.2
  split at h2
  ·rename_i g hg;unfold poPick;rw[hg];simp only[X2,X02,X00] at h2;refine⟨fun e=> ?_,fun e=> ?_⟩
   ·rcases h2.1 with h3|h3
    ·simp_all
    ·exact Y1d h3
   ·rcases h2.2 with h3|h3
    ·simp_all
    ·exact Y1d h3
  ·cases h2
 case h_4 op t x y _=>
  simp only[X2] at hb;exact⟨Y1d hb.1,Y1d hb.2.1,binB_sound hb.2.2⟩
 case h_5 op _ x=>
  rw[X2] at hb;refine⟨Y1d hb.1, ?_⟩;have h2:=hb.2;unfold poUn
  split at h2
  ·simp_all
  ·rename_i k n hn;rw[hn];exact okAb_sound h2
  ·cases h2
 case h_6 s d x=>
  rw[X2] at hb;refine⟨Y1d hb.1, ?_⟩;have h2:=hb.2;unfold poConv
  grind
 case h_7 s x f=>
  rw[X2] at hb;refine⟨Y1d hb.1, ?_⟩;have h2:=hb.2;unfold poField
  split at h2
  ·simp_all
  ·rename_i h3 h4;rw[h3,h4];exact verB_sound h2
  ·cases h2
 case h_8 t x f=>
  rw[X2] at hb;refine⟨Y1d hb.1, ?_⟩;have h2:=hb.2;unfold poFld
  split at h2
  ·rename_i h3 h4;rw[h3,h4];exact partB_sound h2
  ·cases h2
 case h_9 t x i=>
  simp only[X2] at hb;refine⟨Y1d hb.1,Y1d hb.2.1, ?_⟩;have h2:=hb.2.2;unfold poIdx
  split at h2
  ·rename_i h3 h4 h5;rw[h3,h4,h5];simp only[X2,beq_iff_eq] at h2;exact⟨h2.1,inB_sound h2.2⟩
  ·rename_i h3 h4 h5;rw[h3,h4,h5];simp only[X2,beq_iff_eq] at h2;exact⟨h2.1,verK_sound h2.2.1,inB_sound h2.2.2⟩
  ·rename_i h3 h4 h5;rw[h3,h4,h5]
   split at h2
   ·rename_i n hn;simp only[hn];simp only[X2] at h2;exact⟨verB_sound h2.1,inB_sound h2.2⟩
   ·cases h2
  ·rename_i h3 h4 h5;rw[h3,h4,h5]
   split at h2
   ·rename_i n hn;simp only[hn];exact inB_sound h2
   ·cases h2
  ·cases h2
 case h_10 t x i=>
  simp only[X2] at hb;refine⟨Y1d hb.1,Y1d hb.2.1, ?_⟩;have h2:=hb.2.2;unfold poIndex
  split at h2
  ·rename_i h3 h4;rw[h3,h4]
   split at h2
   ·rename_i h5 h6 h7;simp only[h5,h6,h7];simp only[X2] at h2;exact⟨(inB_sound h2.1).1,(inB_sound h2.1).2,partB_sound h2.2⟩
   ·cases h2
  ·rename_i h3 h4;rw[h3,h4];simp only[X2,beq_iff_eq] at h2;exact⟨h2.1,inB_sound h2.2⟩
  ·cases h2
 case h_11 t x=>
  rw[X2] at hb;refine⟨Y1d hb.1, ?_⟩;have h2:=hb.2;unfold Y7p
  grind
 case h_12 x i=>
  rw[X2] at hb;refine⟨Y1d hb.1, ?_⟩;have h2:=hb.2;unfold poExt
  grind
 case h_13 t x lo hi=>
  simp only[X2] at hb;refine⟨Y1d hb.1,gdbo_sound hb.2.1,gdbo_sound hb.2.2.1, ?_⟩;have h2:=hb.2.2.2;unfold Y91
  split at h2
  ·rename_i h3 h4;rw[h3,h4];simp only[X2,beq_iff_eq] at h2;exact⟨h2.1,loB_sound h2.2.1,loB_sound h2.2.2⟩
  ·rename_i h3 h4;rw[h3,h4];simp only[X2,beq_iff_eq] at h2;exact⟨h2.1,verK_sound h2.2.1,loB_sound h2.2.2.1,loB_sound h2.2.2.2⟩
  ·rename_i h3 h4;rw[h3,h4];simp only[X2,beq_iff_eq] at h2;exact⟨h2.1,loB_sound h2.2.1,loB_sound h2.2.2⟩
  ·cases h2
 case h_14 t ps=>
  simp only[X2] at hb;refine⟨fun p hp=>Y1d (Xg.1 hb.1 p hp), ?_⟩;unfold poBuild;refine⟨fun p hp=> ?_, ?_⟩
  ·obtain⟨q,hq,rfl⟩:=Xp.1 hp;exact okCb_sound (Xg.1 hb.2.1 q hq)
  grind
 case h_15 x t=>
  rw[X2] at hb;refine⟨Y1d hb.1, ?_⟩;have h2:=hb.2;unfold poLen
  split at h2
  ·simp_all
  ·simp_all
  ·rename_i h3;rw[h3];simp only[X2,beq_iff_eq] at h2;exact⟨h2.1,verB_sound h2.2⟩
  ·simp_all
  ·cases h2
 case h_16 x y _=>
  simp only[X2] at hb;refine⟨Y1d hb.1,Y1d hb.2.1, ?_⟩;have h2:=hb.2.2;unfold poMin
  grind
 case h_17 x y _=>
  simp only[X2] at hb;refine⟨Y1d hb.1,Y1d hb.2.1, ?_⟩;have h2:=hb.2.2;unfold poMin
  grind
 simp_all
end
theorem beqS(i r:Nat):(i=r∧Nat.beq i r=true)∨(i≠r∧Nat.beq i r=false):=by
 cases hb:Nat.beq i r with
 |true=>simp_all
 |false=>exact .inr ⟨fun e=>by simp_all,rfl⟩
section
variable {P:Program} {N:Nat} {env:Env} {h:Hp}
def elemE (P:Program) (t:TypeId):Option (TypeId×Nat×Nat×List Value):=match sle P t with
 |some e=>match zc P e,(P.info? e).map fun i=>(i.size,i.bytes) with
  |some z,some (k,bytes)=>if(z.length==k&&(z.all (·.oneCell')&&decide (0<k)))=true then some (e,k,bytes,z) else none
  |_,_=>none
 |none=>none
theorem Y33{t e:TypeId}{k bytes:Nat}{z:List Value}(he:elemE P t=some (e,k,bytes,z)):Elem P t e k bytes z:=by
 unfold elemE at he
 split at he
 ·rename_i e' h1
  split at he
  ·rename_i z' k' b' h2 h3
   split at he
   ·rename_i h4;simp only[X0,Prod.mk.injEq] at he;obtain⟨rfl,rfl,rfl,rfl⟩:=he;simp only[X2,beq_iff_eq,decide_eq_true_eq] at h4;exact⟨h1,h2,h3,h4.1,h4.2.1,h4.2.2⟩
   ·cases he
  ·cases he
 ·cases he
theorem RStep.box{o:Oper}{e:TypeId}{x:Operand}(ho:o.op= .box e x)(r:Nat)(hr:h.at r=none)(hx:okC h (rdo env x)):
  RStep P o env h r ⟨0,true,e,(Y1r (rdo env x)).length,Y1r (rdo env x)⟩ (.ref r 0 0):=by
 intro X a w ι Q next H hop hn;have⟨h1,h2⟩:=hx.sound (hop x (by simp[ho,Op.operands]));have hlen:(a.eval x).cells.size=(Y1r (rdo env x)).length:=by simpa using h1.length
 have htk:(a.eval x).cells.toList.take (Y1r (rdo env x)).length=(a.eval x).cells.toList:=take_all (by omega);have⟨H',K'⟩:=H.alloc r hr e (Y1r (rdo env x)).length 1 (Y1r (rdo env x)) (a.eval x).cells (by omega) (by simp[maxLen]) (by simp_all) (by simp_all);have hrun:(execOp a.eval o).run P w= .ok (.value (.pointer (some ⟨w.heap.size,0,none⟩))) (w.alloc (.cells (a.eval x).cells e)):=by
  simp[execOp,ho,Instr.box,newVar,newRow,Xa]
 simp only[Oper.wp,hrun,Oper.upon];exact hn _ _ _ H' K' (VR.newref (rt:=⟨0,true,e,_,_⟩) rfl 0)
theorem RStep.build{o:Oper}{t e:TypeId}{len k bytes:Nat}{z:List Value}{ps:List (Nat×Operand)}(ho:o.op= .buildSlice t len ps.toArray)
  (r:Nat) (hr:h.at r=none) (E:Elem P t e k bytes z) (hlen:len*k≤16777216) (hgd:∀p∈ps,gd (rdo env p.2)) (hok:∀p∈ps,okC h (st (rdo env p.2))) (cs:List AV)
  (hf:Y7a h (fun i=>some (i*k,k)) (zerosA z len) (ps.map fun p=>(p.1,st (rdo env p.2)))=some cs) (hone:∀x∈cs,oneA h x) (hcl:cs.length=len*k):
  RStep P o env h r ⟨0,true,e,k,cs⟩ (.rsl r 0 0 len):=by
 intro X a w ι Q next H hop hn;have hvp:=VRP.mk (h:=h) (w:=w) (ι:=ι) (A:=Own X.B h ι) (η:=a.eval) ps hgd (fun p hp=>hop p.2 (by
  rw[ho];simp only[Op.operands,X1m,List.mem_toArray]
  grind))
 have⟨u,hu,hcu⟩:=zc_some (w:=w) E.zc;have⟨i,zu,hi,hisz,hiby,hiz,hzu⟩:=E.info;have husz:u.cells.size=k:=by rw[←E.zlen, ←hcu];simp
 have hz0:VRL w h ι (Own X.B h ι) (zerosA z len) ((Array.range (len*k)).map (u.cells[· %u.cells.size]!)).toList:=by
  rw[zeros_eq u.cells k len husz E.pos,hcu];exact VRL.vals _
 have⟨arr,h1,h2⟩:=fill_sound (arr:=(Array.range (len*k)).map (u.cells[· %u.cells.size]!)) hf hvp (fun p hp=>by
  grind) hz0
 have hal:arr.size=len*k:=by rw[←hcl];simpa using h2.length
 have htk:arr.toList.take cs.length=arr.toList:=take_all (by simp_all);have hlm:len≤maxLen:=by
  have:len≤len*k:=Nat.le_mul_of_pos_right _ E.pos;simp only[maxLen];omega
 have⟨H',K'⟩:=H.alloc r hr e k len cs arr hal hlm (by simp_all) (by rw[htk];exact Y7q hone h2);have hrun:(execOp a.eval o).run P w= .ok (.value (.slice (some ⟨w.heap.size,0,none⟩) len len)) (w.alloc (.cells arr e)):=by
  have hbig:¬(len*k>2^24):=by omega
  simp only[execOp,ho,Instr.buildSlice,Xa,run_underlying (sle_some E.sle),sizeOf,typeInfo,program,Sem.run,hi,Xn,X01,hisz]
  by_cases h0:len*k=0
  ·have hl0:len=0:=by
    rcases Nat.mul_eq_zero.1 h0 with h|h
    ·exact h
    ·have:=E.pos;omega
   have e0:Array.range 0= #[]:=rfl;simp only[hl0,X0q,e0,X1m,X0s] at h1;simp[hl0,e0,h1,newRow,Xa]
  ·simp[h0,hbig,hu,h1,newRow,Xa]
 simp only[Oper.wp,hrun,Oper.upon];refine hn _ _ _ H' K' (VR.newrsl (rt:=⟨0,true,e,k,_⟩) ?_);exact⟨_,_,rfl,Xk _,.inr ⟨w.heap.size,rfl,.inl ⟨rfl,by simp⟩⟩⟩
theorem Y9p{o:Oper}{s x:Operand}{t u e:TypeId}{k bytes:Nat}{z:List Value}(ho:o.op= .call ⟨.builtin .append, #[s,x], #[t,u]⟩)
  {r m:Nat} {news:List AV} (E:Elem P t e k bytes z) (hs:rdo env s= .im (.val (.slice none 0 0))) (hr:h.at r=none)
  (hx:gd (rdo env x)) (src:SrcA P h u k (st (rdo env x)) m news) (hsz:(0+m)*bytes≤140737488355328) (hmx:0+m≤140737488355328):
  HStep P o env h ((r,⟨1,true,e,k,news⟩)::(r,⟨0,true,e,k,[]⟩)::h) (.rsl r 1 0 m):=by
 intro X a w ι Q next H hop hnx;have⟨hud,hsrc⟩:=src;have⟨hlen,l,hvl,hl1,hll,hfc⟩:=hsrc X ι w (a.eval x) H ((hop x (by simp[ho,Op.operands,Call.operands])).st hx);have hsv:=hop s (by simp[ho,Op.operands,Call.operands]);rw[hs,Y0z] at hsv;have⟨H0,K0⟩:=H.upd r ⟨0,true,e,k,[]⟩ ⟨none,0⟩ w rfl rfl rfl (Xk _) (fun β _ _=>rfl) (fun rt h2=>by simp_all) (fun _ g hg=>by simp at hg) (fun _ _=>.inl ⟨rfl,rfl,rfl⟩);have hs0:VR w ((r,⟨0,true,e,k,[]⟩)::h) (upd ι r ⟨none,0⟩) (Own X.B ((r,⟨0,true,e,k,[]⟩)::h) (upd ι r ⟨none,0⟩)) (.rsl r 0 0 0) (a.eval s):=by
  rw[hsv];exact VR.newrsl (rt:=⟨0,true,e,k,[]⟩) ⟨none,0,rfl,Xk _,.inl ⟨rfl,rfl,rfl,rfl,rfl⟩⟩
 have:=append_core (n:=0) ho E (Y5c r ⟨0,true,e,k,[]⟩ h) rfl rfl rfl rfl (by simp) hsz hmx hud H0 hs0 hlen (VRL.keep K0 _ _ hvl) hl1 hll hfc (next:=next) (Q:=Q) (a:=a) (fun b' w' v H' K' hv=>by
  simp only[List.take_nil,Xt,X05] at H' K' hv;exact hnx _ w' v H' (K0.trans K') hv)
 exact this
theorem Y9u{o:Oper}{f:FuncId}{xs:List Operand}(ho:o.op= .makeFunc (.func f) xs.toArray #[])(hg:∀x∈xs,gd (rdo env x)):
  HStep P o env h h (.fnv f (xs.map fun x=>st (rdo env x))):=by
 intro X a w ι Q next H hop hn;have hvs:=args_vr xs hg (fun x hx=>hop x (by simp[ho,Op.operands,hx]));have hex:(execOp a.eval o).run P w= .ok (.value (.func (.func f) (xs.map a.eval).toArray #[])) w:=by
  simp[execOp,ho,Instr.makeFunc,Xa]
 simp only[Oper.wp,hex,Oper.upon];refine hn ι w _ H (Keep.refl _ _ _ _) ?_;simp only[VR]
 simp_all
def valsA:List AV→Option (List Value)
 |[]=>some []
 | .im (.val u)::r=>match valsA r with
  |some us=>some (u::us)
  |none=>none
 |_::_=>none
theorem valsA_sound:∀(cs:List AV) (us:List Value),valsA cs=some us→cs=us.map fun u=>.im (.val u)
 |[],us,hv=>by simp[valsA] at hv;grind
 | .im (.val u)::r,us,hv=>by
  simp only[valsA] at hv
  split at hv
  ·rename_i us' h1;simp only[X0] at hv;subst hv;rw[valsA_sound r us' h1]
   rfl
  ·cases hv
 | .any::_,_,hv=>by simp[valsA] at hv
 | .im (.sl _ _)::_,_,hv=>by simp[valsA] at hv
 | .im (.mp _)::_,_,hv=>by simp[valsA] at hv
 | .agg _::_,_,hv=>by simp[valsA] at hv
 | .tup _::_,_,hv=>by simp[valsA] at hv
 | .ipt _ _::_,_,hv=>by simp[valsA] at hv
 | .ref _ _ _::_,_,hv=>by simp[valsA] at hv
 | .rsl _ _ _ _::_,_,hv=>by simp[valsA] at hv
 | .cnd _ _::_,_,hv=>by simp[valsA] at hv
 | .fnv _ _::_,_,hv=>by simp[valsA] at hv
theorem Y5d{o:Oper}{t:TypeId}{x y:Operand}{r:AV}(ho:o.op= .lookup t x y false)(hl:lookE P t (rdo env x) (rdo env y)=some r):HStep P o env h h r:=by
 have hnc:gd (rdo env x)∧st (rdo env x)=rdo env x∧gd (rdo env y)∧st (rdo env y)=rdo env y:=by
  unfold lookE at hl
  split at hl
  ·rename_i h1 h2;rw[h1,h2];exact⟨trivial,rfl,trivial,rfl⟩
  ·cases hl
 exact Y2c (Quiet.lookup (o:={o with guard:=none}) ho (gpoU rfl ⟨hnc.1,hnc.2.2.1,by simp_all⟩))
def rdq:Env→Nat→AV
 |[],_=>.any
 |(i,v)::r,t=>bif Nat.beq i t then v else rdq r t
theorem rdq_eq:∀(env:Env) (t:Nat),rdq env t=rd env t
 |[],_=>rfl
 |(i,v)::r,t=>by
  simp only[rdq,rd]
  by_cases e:i=t
  ·simp_all
  ·rw[if_neg e,show Nat.beq i t=false by cases hb:Nat.beq i t with|false=>rfl|true=>simp_all];exact rdq_eq r t
abbrev Look:=Nat→Option Rt
def nle (n m:Nat):Bool:=Nat.ble n m
def nlt (n m:Nat):Bool:=Nat.ble (n+1) m
theorem nle_eq(n m:Nat):(nle n m=true)=(n≤m):=by simp[nle]
theorem nlt_eq(n m:Nat):(nlt n m=true)=(n<m):=by simp[nlt,Nat.succ_le_iff]
variable {A:Look}
theorem Y2l{b:Bool}{α:Type}{x:Option α}{v:α}(hc:(bif b then x else none)=some v):b=true∧x=some v:=by
 grind
end
end Go.Abs
