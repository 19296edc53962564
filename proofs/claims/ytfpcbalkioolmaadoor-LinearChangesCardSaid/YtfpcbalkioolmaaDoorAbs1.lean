/- Own work. -/
import Derived.WalkKit
import Derived.WalkSpells
import Derived.WalkLawsBesides
set_option linter.unusedSimpArgs false
set_option linter.unusedVariables false
namespace Go.Abs
abbrev X0:=@Option.some.injEq
abbrev X1:=@Bool.eq_false_or_eq_true
abbrev X2:=@List.getElem?_eq_getElem
abbrev X3:=@Bool.and_eq_true
abbrev X4:=@Array.getD_eq_getD_getElem?
abbrev X5:=@List.length_append
abbrev X6:=@Option.some.inj
abbrev X7:=@List.getD_eq_getElem?_getD
abbrev X8:=@Option.bind_some
abbrev X9:=@Nat.le_of_ble_eq_true
abbrev Xa:=@List.length_cons
abbrev Xb:=@Sem.run_bind
abbrev Xc:=@Array.getElem?_eq_getElem
abbrev Xd:=@List.all_eq_true
abbrev Xe:=@Array.getElem?_setIfInBounds_self_of_lt
abbrev Xf:=@List.append_assoc
abbrev Xg:=@Array.all_eq_true_iff_forall_mem
abbrev Xh:=@List.mem_singleton
abbrev Xi:=@List.getElem?_take
abbrev Xj:=@List.length_nil
abbrev Xk:=@List.length_singleton
abbrev Xl:=@Array.getElem?_setIfInBounds_ne
abbrev Xm:=@List.mem_cons
abbrev Xn:=@Nat.le_refl
abbrev Xo:=@List.mem_range
abbrev Xp:=@List.getElem?_eq_some_iff
abbrev Xq:=@Option.getD_some
abbrev Xr:=@Result.andThen_ok
abbrev Xs:=@List.mem_append
abbrev Xt:=@Array.getElem?_eq_some_iff
abbrev Xu:=@List.cons_append
abbrev Xv:=@Option.map_some
abbrev Xw:=@List.map_cons
abbrev Xx:=@List.eq_nil_of_length_eq_zero
abbrev Xy:=@List.take_of_length_le
abbrev Xz:=@Sem.run_pure
abbrev X00:=@List.mem_map
abbrev X01:=@List.flatMap_cons
abbrev X02:=@Int.toNat_natCast
abbrev X03:=@Nat.zero_add
abbrev X04:=@List.nil_append
abbrev X05:=@List.not_mem_nil
abbrev X06:=@Nat.eq_of_beq_eq_true
abbrev X07:=@Bool.or_eq_true
abbrev X08:=@Array.getElem?_replicate
abbrev X09:=@List.length_map
abbrev X0a:=@Bool.not_eq_true'
abbrev X0b:=@List.length_take
abbrev X0c:=@List.drop_eq_getElem_cons
abbrev X0d:=@List.singleton_append
abbrev X0e:=@List.take_succ_cons
abbrev X0f:=@List.mem_filter
abbrev X0g:=@List.map_congr_left
abbrev X0h:=@List.getElem?_append_right
abbrev X0i:=@List.getElem?_map
abbrev X0j:=@List.length_eq_zero_iff
abbrev X0k:=@List.getElem?_append_left
abbrev X0l:=@List.mem_of_getElem?
abbrev X0m:=@Nat.add_zero
abbrev X0n:=@List.take_take
abbrev X0o:=@Nat.mul_le_mul_right
abbrev X0p:=@Nat.add_mul
abbrev X0q:=@Nat.le_trans
abbrev X0r:=@List.head?_cons
abbrev X0s:=@Nat.add_assoc
abbrev X0t:=@Nat.lt_of_lt_of_le
abbrev X0u:=@List.map_append
abbrev X0v:=@List.getElem?_drop
abbrev X0w:=@Array.any_eq_true'
abbrev X0x:=@List.mem_of_mem_take
abbrev X0y:=@Bool.false_or
abbrev X0z:=@List.take_append_drop
abbrev X10:=@List.map_nil
abbrev X11:=@List.getElem?_eq_none
abbrev X12:=@Bool.not_false
abbrev X13:=@List.flatten_cons
abbrev X14:=@Int.emod_eq_of_lt
abbrev X15:=@List.getD_cons_zero
abbrev X16:=@List.drop_eq_nil_of_le
abbrev X17:=@List.map_toArray
abbrev X18:=@List.length_drop
abbrev X19:=@Array.getElem?_toList
abbrev X1a:=@Nat.pow_le_pow_right
abbrev X1b:=@List.append_nil
abbrev X1c:=@List.getElem?_cons_zero
abbrev X1d:=@List.getElem?_cons_succ
abbrev X1e:=@List.drop_succ_cons
abbrev X1f:=@Array.length_toList
abbrev X1g:=@Bool.not_eq_true
abbrev X1h:=@List.filter_eq_nil_iff
abbrev X1i:=@List.dropLast_concat_getLast
abbrev X1j:=@Bool.not_eq_false'
abbrev X1k:=@Nat.zero_mul
abbrev X1l:=@Nat.add_comm
abbrev X1m:=@List.length_filter_le
abbrev X1n:=@List.size_toArray
abbrev X1o:=@Array.getElem?_append_left
abbrev X1p:=@List.take_append
theorem Vn.{u}{c:Prop}[h:Decidable c]{α:Sort u}{t e:α}(k:¬c:=by omega):ite c t e=e:=if_neg k
theorem Vp.{u}{c:Prop}[h:Decidable c]{α:Sort u}{t e:α}(k:c:=by omega):ite c t e=t:=if_pos k
open Go.RowKit
inductive IV where
 |val (v:Value)
 |sl (cs:List IV) (n:Nat)
 |mp (es:List (Value×Value))
inductive AV where
 |any
 |im (x:IV)
 |agg (cs:List AV)
 |tup (vs:List AV)
 |ipt (cs:List IV) (off:Nat)
 |ref (r ver off:Nat)
 |rsl (r ver off n:Nat)
 |cnd (g:Bool) (v:AV)
 |fnv (f:FuncId) (cs:List AV)
structure Rt where
 ver:Nat
 live:Bool
 e:TypeId
 k:Nat
 cs:List AV
abbrev Env:=List (Nat×AV)
abbrev Hp:=List (Nat×Rt)
def rd:Env→Nat→AV
 |[],_=>.any
 |(i,v)::r,t=>if i=t then v else rd r t
def Hp.at:Hp→Nat→Option Rt
 |[],_=>none
 |(i,v)::r,t=>if i=t then some v else Hp.at r t
structure Bk where
 blk:Option Nat
 cap:Nat
def SlR (k:Nat) (b:Bk) (off n:Nat) (v:Value):Prop:=
 ∃ao c,v= .slice ao n c∧n≤c∧((b.blk=none∧ao=none∧n=0∧c=0∧off=0)∨
  ∃g,b.blk=some g∧((ao=some ⟨g,off,none⟩∧off+c*k=b.cap*k)∨(n=0∧c=0)))
def Lie (w:World) (A:Nat→Prop) (a:Addr) (l:List Value):Prop:=
 ∀(i:Nat) (u:Value),l[i]? =some u→w.cell? (a.add i)=some u∧¬A a.block∧u.oneCell'=true
mutual
def VRI (w:World) (A:Nat→Prop):IV→Value→Prop
 | .val u,v=>v=u
 | .sl cs n,v=>∃(ao:Option Addr) (cap:Nat) (l:List Value),v= .slice ao n cap∧n≤cap∧(ao=none→n=0∧cap=0∧l=[])∧
   (∀a,ao=some a→Lie w A a l)∧VRIL w A cs l
 | .mp es,v=>∃(g:Nat) (ents:Array MapEntry) (clock:Nat),v= .map (some g)∧w.heap[g]? =some (.map ents clock)∧¬A g∧ents.toList.map (fun e=>(e.key,e.val))=es
def VRIL (w:World) (A:Nat→Prop):List IV→List Value→Prop
 |[],l=>l=[]
 |c::cs,l=>∃v l',l=v::l'∧VRI w A c v∧VRIL w A cs l'
end
mutual
def VR (w:World) (h:Hp) (ι:Nat→Bk) (A:Nat→Prop):AV→Value→Prop
 | .any,_=>True
 | .im x,v=>VRI w A x v
 | .agg cs,v=>∃l:List Value,v= .agg l.toArray∧VRL w h ι A cs l
 | .tup cs,v=>∃l:List Value,v= .tuple l.toArray∧VRL w h ι A cs l
 | .ipt cs off,v=>∃(a:Addr) (l:List Value),v= .pointer (some (a.add off))∧Lie w A a l∧VRIL w A cs l
 | .ref r ver off,v=>∃rt,h.at r=some rt∧ver≤rt.ver∧(ver=rt.ver→∃g,(ι r).blk=some g∧v= .pointer (some ⟨g,off,none⟩))
 | .rsl r ver off n,v=>∃rt,h.at r=some rt∧ver≤rt.ver∧(ver=rt.ver→SlR rt.k (ι r) off n v)
 | .cnd g x,v=>(g=true→VR w h ι A x v)∧(g=false→v=undef)
 | .fnv f cs,v=>∃l:List Value,v= .func (.func f) l.toArray #[]∧VRL w h ι A cs l
def VRL (w:World) (h:Hp) (ι:Nat→Bk) (A:Nat→Prop):List AV→List Value→Prop
 |[],l=>l=[]
 |c::cs,l=>∃v l',l=v::l'∧VR w h ι A c v∧VRL w h ι A cs l'
end
structure Keep (w:World) (h:Hp) (ι:Nat→Bk) (A:Nat→Prop) (w':World) (h':Hp) (ι':Nat→Bk) (A':Nat→Prop):Prop where
 blk:∀β,β<w.heap.size→¬A β→w'.heap[β]? =w.heap[β]?∧¬A' β
 hp:∀r rt,h.at r=some rt→∃rt',h'.at r=some rt'∧rt.ver≤rt'.ver∧(rt'.ver=rt.ver→ι' r=ι r∧rt'.k=rt.k)
theorem add_block(a:Addr)(i:Nat):(a.add i).block=a.block:=by unfold Addr.add;split<;>rfl
theorem Lie.keep{w w':World}{A A':Nat→Prop}{a:Addr}{l:List Value}(hk:∀β,β<w.heap.size→¬A β→w'.heap[β]? =w.heap[β]?∧¬A' β)
  (h:Lie w A a l):Lie w' A' a l:=by
 intro i u hu;have⟨hc,hA,h1c⟩:=h i u hu;have hlt:=World.block_lt_of_cell? w _ hc;rw[add_block] at hlt;have⟨h1,h2⟩:=hk _ hlt hA;exact⟨(World.cell?_of_block (w:=w) (w':=w') (a:=a.add i) (by rw[add_block];exact h1)).trans hc,h2,h1c⟩
mutual
theorem VRI.keep{w w':World}{A A':Nat→Prop}(hk:∀β,β<w.heap.size→¬A β→w'.heap[β]? =w.heap[β]?∧¬A' β):∀(x:IV) (v:Value),VRI w A x v→VRI w' A' x v
 | .val _,_,h=>by simpa only[VRI] using h
 | .sl cs n,v,h=>by
  simp only[VRI] at h⊢;have⟨ao,cap,l,hv,hn,hnone,hlie,hl⟩:=h;exact⟨ao,cap,l,hv,hn,hnone,fun a ha=>(hlie a ha).keep hk,VRIL.keep hk cs l hl⟩
 | .mp es,v,h=>by
  simp only[VRI] at h⊢;have⟨g,ents,clock,hv,hg,hA,he⟩:=h;have⟨h1,h2⟩:=hk g (Xt.1 hg).1 hA;exact⟨g,ents,clock,hv,h1.trans hg,h2,he⟩
theorem VRIL.keep{w w':World}{A A':Nat→Prop}(hk:∀β,β<w.heap.size→¬A β→w'.heap[β]? =w.heap[β]?∧¬A' β):∀(cs:List IV) (l:List Value),VRIL w A cs l→VRIL w' A' cs l
 |[],_,h=>by simpa only[VRIL] using h
 |c::cs,l,h=>by
  simp only[VRIL] at h⊢;have⟨v,l',hl,hv,hr⟩:=h;exact⟨v,l',hl,VRI.keep hk c v hv,VRIL.keep hk cs l' hr⟩
end
mutual
theorem VR.keep{w w':World}{h h':Hp}{ι ι':Nat→Bk}{A A':Nat→Prop}(K:Keep w h ι A w' h' ι' A'):∀(x:AV) (v:Value),VR w h ι A x v→VR w' h' ι' A' x v
 | .any,_,_=>by simp only[VR]
 | .im x,v,hv=>by simp only[VR] at hv⊢;exact VRI.keep K.blk x v hv
 | .agg cs,v,hv=>by
  simp only[VR] at hv⊢;have⟨l,hl,hr⟩:=hv;exact⟨l,hl,VRL.keep K cs l hr⟩
 | .tup cs,v,hv=>by
  simp only[VR] at hv⊢;have⟨l,hl,hr⟩:=hv;exact⟨l,hl,VRL.keep K cs l hr⟩
 | .ipt cs off,v,hv=>by
  simp only[VR] at hv⊢;have⟨a,l,hl,hlie,hr⟩:=hv;exact⟨a,l,hl,hlie.keep K.blk,VRIL.keep K.blk cs l hr⟩
 | .ref r ver off,v,hv=>by
  simp only[VR] at hv⊢;have⟨rt,hrt,hle,himp⟩:=hv;have⟨rt',hrt',hle',himp'⟩:=K.hp r rt hrt;refine⟨rt',hrt',X0q hle hle',fun he=> ?_⟩;have h1:rt'.ver=rt.ver:=by omega
  rw[(himp' h1).1];exact himp (by omega)
 | .rsl r ver off n,v,hv=>by
  simp only[VR] at hv⊢;have⟨rt,hrt,hle,himp⟩:=hv;have⟨rt',hrt',hle',himp'⟩:=K.hp r rt hrt;refine⟨rt',hrt',X0q hle hle',fun he=> ?_⟩;have h1:rt'.ver=rt.ver:=by omega
  rw[(himp' h1).1,(himp' h1).2];exact himp (by omega)
 | .cnd g x,v,hv=>by simp only[VR] at hv⊢;exact⟨fun hg=>VR.keep K x v (hv.1 hg),hv.2⟩
 | .fnv f cs,v,hv=>by
  simp only[VR] at hv⊢;have⟨l,hl,hr⟩:=hv;exact⟨l,hl,VRL.keep K cs l hr⟩
theorem VRL.keep{w w':World}{h h':Hp}{ι ι':Nat→Bk}{A A':Nat→Prop}(K:Keep w h ι A w' h' ι' A'):∀(cs:List AV) (l:List Value),VRL w h ι A cs l→VRL w' h' ι' A' cs l
 |[],_,hv=>by simpa only[VRL] using hv
 |c::cs,l,hv=>by
  simp only[VRL] at hv⊢;have⟨v,l',hl,hv,hr⟩:=hv;exact⟨v,l',hl,VR.keep K c v hv,VRL.keep K cs l' hr⟩
end
theorem VRL.length{w:World}{h:Hp}{ι:Nat→Bk}{A:Nat→Prop}:∀{cs:List AV} {l:List Value},VRL w h ι A cs l→l.length=cs.length
 |[],l,hv=>by simp only[VRL] at hv;simp[hv]
 |c::cs,l,hv=>by
  simp only[VRL] at hv;obtain⟨v,l',rfl,_,hr⟩:=hv;simp[VRL.length hr]
theorem VRL.get{w:World}{h:Hp}{ι:Nat→Bk}{A:Nat→Prop}:∀{cs:List AV} {l:List Value},VRL w h ι A cs l→∀(i:Nat) (c:AV),cs[i]? =some c→∃v,l[i]? =some v∧VR w h ι A c v
 |[],l,_,i,c,hc=>by simp at hc
 |c::cs,l,hv,i,d,hd=>by
  simp only[VRL] at hv;obtain⟨v,l',rfl,hv,hr⟩:=hv;cases i with
  |zero=>simp at hd;subst hd;exact⟨v,by simp,hv⟩
  |succ i=>simp at hd⊢;exact VRL.get hr i d hd
theorem VRIL.length{w:World}{A:Nat→Prop}:∀{cs:List IV} {l:List Value},VRIL w A cs l→l.length=cs.length
 |[],l,hv=>by simp only[VRIL] at hv;simp[hv]
 |c::cs,l,hv=>by
  simp only[VRIL] at hv;obtain⟨v,l',rfl,_,hr⟩:=hv;simp[VRIL.length hr]
theorem VRIL.get{w:World}{A:Nat→Prop}:∀{cs:List IV} {l:List Value},VRIL w A cs l→∀(i:Nat) (c:IV),cs[i]? =some c→∃v,l[i]? =some v∧VRI w A c v
 |[],l,_,i,c,hc=>by simp at hc
 |c::cs,l,hv,i,d,hd=>by
  simp only[VRIL] at hv;obtain⟨v,l',rfl,hv,hr⟩:=hv;cases i with
  |zero=>simp at hd;subst hd;exact⟨v,by simp,hv⟩
  |succ i=>simp at hd⊢;exact VRIL.get hr i d hd
theorem VRL.append{w:World}{h:Hp}{ι:Nat→Bk}{A:Nat→Prop}:∀{cs ds:List AV} {l m:List Value},VRL w h ι A cs l→VRL w h ι A ds m→VRL w h ι A (cs++ds) (l++m)
 |[],ds,l,m,hv,hm=>by simp only[VRL] at hv;subst hv;simpa using hm
 |c::cs,ds,l,m,hv,hm=>by
  simp only[VRL] at hv;obtain⟨v,l',rfl,hv,hr⟩:=hv;simp only[Xu,VRL];exact⟨v,l'++m,rfl,hv,VRL.append hr hm⟩
theorem VRL.take{w:World}{h:Hp}{ι:Nat→Bk}{A:Nat→Prop}:∀{cs:List AV} {l:List Value} (n:Nat),VRL w h ι A cs l→VRL w h ι A (cs.take n) (l.take n)
 |[],l,n,hv=>by simp only[VRL] at hv;subst hv;simp[VRL]
 |c::cs,l,n,hv=>by
  simp only[VRL] at hv;obtain⟨v,l',rfl,hv,hr⟩:=hv;cases n with
  |zero=>simp[VRL]
  |succ n=>simp only[X0e,VRL];exact⟨v,_,rfl,hv,VRL.take n hr⟩
theorem VRL.drop{w:World}{h:Hp}{ι:Nat→Bk}{A:Nat→Prop}:∀{cs:List AV} {l:List Value} (n:Nat),VRL w h ι A cs l→VRL w h ι A (cs.drop n) (l.drop n)
 |[],l,n,hv=>by simp only[VRL] at hv;subst hv;simp[VRL]
 |c::cs,l,n,hv=>by
  cases n with
  |zero=>simpa using hv
  |succ n=>
   simp only[VRL] at hv;obtain⟨v,l',rfl,hv,hr⟩:=hv;simpa using VRL.drop n hr
theorem VRIL.take{w:World}{A:Nat→Prop}:∀{cs:List IV} {l:List Value} (n:Nat),VRIL w A cs l→VRIL w A (cs.take n) (l.take n)
 |[],l,n,hv=>by simp only[VRIL] at hv;subst hv;simp[VRIL]
 |c::cs,l,n,hv=>by
  simp only[VRIL] at hv;obtain⟨v,l',rfl,hv,hr⟩:=hv;cases n with
  |zero=>simp[VRIL]
  |succ n=>simp only[X0e,VRIL];exact⟨v,_,rfl,hv,VRIL.take n hr⟩
theorem VRIL.drop{w:World}{A:Nat→Prop}:∀{cs:List IV} {l:List Value} (n:Nat),VRIL w A cs l→VRIL w A (cs.drop n) (l.drop n)
 |[],l,n,hv=>by simp only[VRIL] at hv;subst hv;simp[VRIL]
 |c::cs,l,n,hv=>by
  cases n with
  |zero=>simpa using hv
  |succ n=>
   simp only[VRIL] at hv;obtain⟨v,l',rfl,hv,hr⟩:=hv;simpa using VRIL.drop n hr
theorem VRL.ofI{w:World}{h:Hp}{ι:Nat→Bk}{A:Nat→Prop}:∀{cs:List IV} {l:List Value},VRIL w A cs l→VRL w h ι A (cs.map .im) l
 |[],l,hv=>by simpa only[VRIL,X10,VRL] using hv
 |c::cs,l,hv=>by
  simp only[VRIL] at hv;obtain⟨v,l',rfl,hv,hr⟩:=hv;simp only[Xw,VRL];exact⟨v,l',rfl,by simpa only[VR] using hv,VRL.ofI hr⟩
theorem VRL.toI{w:World}{h:Hp}{ι:Nat→Bk}{A:Nat→Prop}:∀{cs:List IV} {l:List Value},VRL w h ι A (cs.map .im) l→VRIL w A cs l
 |[],l,hv=>by simpa only[VRIL,X10,VRL] using hv
 |c::cs,l,hv=>by
  simp only[Xw,VRL] at hv;obtain⟨v,l',rfl,hv,hr⟩:=hv;simp only[VRIL];exact⟨v,l',rfl,by simpa only[VR] using hv,VRL.toI hr⟩
def eI (k:IntKind) (n:Int):List IV:=[.val (.int k n)]
end Go.Abs
