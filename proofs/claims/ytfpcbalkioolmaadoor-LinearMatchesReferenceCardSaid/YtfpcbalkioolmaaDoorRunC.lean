/- Own work. -/
import Derived.Test.YtfpcbalkioolmaaDoorRunB
set_option linter.unusedSimpArgs false
set_option linter.unusedVariables false
namespace Go.Abs
open Go.RowKit
section
variable {P:Program} {N:Nat} {env:Env} {h:Hp}
theorem CallOK.ofQ{f:FuncId}{args:List AV}{r:AV}(hq:QSpec P f args r)(ha:Abs.purL args=true)(hr:Abs.pur r=true)(h:Hp):CallOK P f args h h r:=by
 intro X w ι vs H hv;have hBO:Own (Brw X.B h ι []) [] ι=Brw X.B h ι []:=by
  funext β;simp[Own,Hp.at]
 have hv':VRL w [] ι (Brw X.B h ι []) args vs:=VRL.pure (fun _ _ hA=>⟨rfl,fun hb=>hA hb.1⟩) args vs ha hv;refine(hq w ι (Brw X.B h ι []) _ (H.start []) (by simp_all)).mono ?_;rintro e w' ⟨v,r',h',ι',rfl,rfl,H',hvr⟩;refine⟨v,ι,rfl,H.below H'.after,Keep.below H'.after, ?_⟩;exact VR.pure (fun β hβ hA=>⟨rfl,fun ho=>hA (.inl ⟨ho,by simp⟩)⟩) _ _ hr hvr
theorem insert_run{w:World}{g:Nat}{es:Array MapEntry}{clock:Nat}{t kt et:TypeId}{k:IntKind}{n:Int}{v:Value}(hg:w.heap[g]? =some (.map es clock))(hu:P.underlying t=some (.map kt et))(hk:ik P kt=some k)
  (hf:findM k n (es.toList.map fun e=>(e.key,e.val))=some none):
  (Instr.mapUpdate t (.map (some g)) (.int k n) v).run P w= .ok () {w with heap:=w.heap.setIfInBounds g (.map (es.push {key:=.int k n,val:=v,born:=clock}) (clock+1))}:=by
 have hk':=ik_some hk;have hget:(getObj g).run P w= .ok (.map es clock) w:=by simp[getObj,Sem.run,hg]
 have hset:∀o,(setObj g o).run P w= .ok () {w with heap:=w.heap.setIfInBounds g o}:=fun o=>by simp[setObj,Sem.run,hg]
 have hck:(Instr.checkKey false 10000 kt (.int k n)).run P w= .ok () w:=by
  rw[show(10000:Nat)=9999+1 from rfl,Instr.checkKey];simp[Xa,run_underlying hk']
 have⟨q,hq1,hq2⟩:=findM_sound (.int k) rfl es.toList 0 none hf;have hq:q=none:=by
  grind
 subst hq;have hfk:(Instr.findKey kt (.int k n) es.toList).run P w= .ok none w:=by
  simp[Instr.findKey,Xa,run_underlying hk',hq1]
 simp[Instr.mapUpdate,Xa,run_underlying hu,hget,hck,hfk,hset]
structure Making (N:Nat) (w0:World) (g m:Nat) (es:List (Value×Value)) (a:Act) (w:World):Prop where
 size:a.tmps.size=N
 defers:a.defers=[]
 slot:a.tmps.getD m undef= .map (some g)
 obj:∃ents clock,w.heap[g]? =some (.map ents clock)∧ents.toList.map (fun e=>(e.key,e.val))=es
 new:w0.heap.size≤g
 below:Below w0.heap.size w0 w
def pairsM (P:Program) (N m:Nat):List Oper→List (Value×Value)→Option (List (Value×Value)×List Oper)
 |o1::o2::l,es=>match o1.guard,o2.guard,o1.dst,o2.dst,o1.op,o2.op with
  |none,none,some d,none,.build t ps,.insert mt (.tmp m') (.const (.int k n)) (.tmp d')=>
   if(decide (m'=m)&&(decide (d'=d)&&(decide (d≠m)&&(decide (d<N)&&pb P [] (rdo []) (.build t ps)))))=true then(match P.underlying mt,pv P [] (rdo []) (.build t ps) with
    |some (.map kt _),.agg cs=>if ik P kt=some k then(match valsA cs,findM k n es with
     |some us,some none=>pairsM P N m l (es++[(.int k n,.agg us.toArray)])
     |_,_=>none) else none
    |_,_=>none) else none
  |_,_,_,_,_,_=>some (es,o1::o2::l)
 |l,es=>some (es,l)
theorem Below.set{w0 w:World}{g:Nat}{o:Obj}(hb:Below w0.heap.size w0 w)(hg:w0.heap.size≤g):Below w0.heap.size w0 {w with heap:=w.heap.setIfInBounds g o} where
 os:=hb.os
 tape:=hb.tape
 output:=hb.output
 size:=by simpa using hb.size
 block β hβ:=by
  show(w.heap.setIfInBounds g o)[β]? =_
  rw[Xx (by omega)]
  exact hb.block β hβ
theorem pairsM_sound{m:Nat}{X:Ctx}{ι:Nat→Bk}{w0:World}{g:Nat}(H:Hol X [] ι w0)(hm:m<N){ops:Array Oper}{Q:Exit→Act→World→Prop}:∀(l:List Oper) (es es':List (Value×Value)) (l':List Oper),pairsM P N m l es=some (es',l')→
  ∀(a:Act) (w:World),Making N w0 g m es a w→(∀a' w',Making N w0 g m es' a' w'→wpList P ops Q l' a' w')→wpList P ops Q l a w
 |[],es,es',l',hp,a,w,M,hn=>by
  simp only[pairsM,X0,Prod.mk.injEq] at hp
  simp_all
 |[o],es,es',l',hp,a,w,M,hn=>by
  simp only[pairsM,X0,Prod.mk.injEq] at hp
  simp_all
 |o1::o2::l,es,es',l',hp,a,w,M,hn=>by
  unfold pairsM at hp
  split at hp
  ·rename_i d t ps mt m' k n d' g1 g2 hd1 hd2 ho1 ho2
   split at hp
   ·rename_i hc;simp only[X2,decide_eq_true_eq] at hc;obtain⟨rfl,rfl,hdm,hdN,hpb⟩:=hc
    split at hp
    ·rename_i kt et cs hu hcs
     split at hp
     ·rename_i hk
      split at hp
      ·rename_i us hus hf;have Hw:Hol X [] ι w:=by
        have:=H.below M.below;exact this
       --the value
       have⟨v,hrun,hvr⟩:=pv_sound (P:=P) Hw (ρ:=rdo []) (η:=a.eval) (o:=o1) (by rw[ho1];exact pb_sound hpb) (fun x hx=>by
        cases x with
        |tmp t=>simp[rdo,rd,VR]
        |global g=>
         cases hc:globAt globs g with
         |some cs=>simp only[rdo,hc,Act.eval];exact Hw.globOK.vr hc
         |none=>simp[rdo,hc,Act.eval,VR,VRI]
        |_=>rfl)
       have hv:v= .agg us.toArray:=by
        rw[ho1] at hvr;rw[hcs] at hvr;simp only[VR] at hvr;have⟨l0,h1,h2⟩:=hvr;rw[valsA_sound _ _ hus] at h2;rw[h1,VRL.of_vals _ _ h2]
       subst hv;refine wpList_plain g1 fun K1 hK1=> ?_;simp only[Oper.wp,hrun,Oper.upon,hd1];refine hK1 _ _ (wpList_plain g2 fun K2 hK2=> ?_);have hsz:d'<a.tmps.size:=by rw[M.size];exact hdN
       have e1:(a.put (some d') (.agg us.toArray)).tmps.getD m' undef= .map (some g):=by
        simp only[Act.put,Xf,Xx hdm];have:=M.slot
        simp_all
       have e2:(a.put (some d') (.agg us.toArray)).tmps.getD d' undef= .agg us.toArray:=by
        simp only[Act.put,Xf,Xm hsz,X0p]
       have⟨ents,clock,hg,he⟩:=M.obj;have hr2:=insert_run (P:=P) (v:=.agg us.toArray) hg hu hk (by rw[he];exact hf);have hrun2:(execOp (a.put (some d') (.agg us.toArray)).eval o2).run P w= .ok .skip {w with heap:=w.heap.setIfInBounds g (.map (ents.push {key:=.int k n,val:=.agg us.toArray,born:=clock}) (clock+1))}:=by
        simp only[execOp,ho2,Xa,Act.eval,e1,e2,hr2,Xn,X01]
       simp only[Oper.wp,hrun2,Oper.upon,hd2];refine hK2 _ _ ?_;have hglt:g<w.heap.size:=(X03.1 hg).1;refine pairsM_sound H hm l _ es' l' hp _ _ ⟨by simp[Act.put,M.size],by simp[Act.put,M.defers], ?_,⟨ents.push {key:=.int k n,val:=.agg us.toArray,born:=clock},clock+1, ?_, ?_⟩,M.new,Below.set M.below M.new⟩ hn
       ·simpa [Act.put] using e1
       ·simp_all
       grind
      ·cases hp
     ·cases hp
    ·cases hp
   ·cases hp
  simp_all
theorem litMap{f:FuncId}{fn:Func}{i0 i1 m d r t N:Nat}{o0 om o1 o2:Oper}{ops0 ops1:Array Oper}{l:List Oper}{es:List (Value×Value)}{v0:Value}(hf:P.funcs[f]? =some fn)(hN:fn.ntmps=N)
  (hb:fn.body=some (.seq (.region i0 ops0 false) (.seq (.region i1 ops1 false) .ret))) (h0:ops0.toList=[o0]) (h1:ops1.toList=om::l) (ho0:o0.op= .assign (.const v0)) (hg0:o0.guard=none)
  (hom:om.op= .makeMap t none) (hgm:om.guard=none) (hdm:om.dst=some m) (hm:m<N) (hp:pairsM P N m l []=some (es,[o1,o2])) (ho1:o1.op= .move (.tmp m)) (hg1:o1.guard=none) (hd1:o1.dst=some d) (hd:d<N)
  (ho2:o2.op= .assign (.tmp d)) (hg2:o2.guard=none) (hd2:o2.dst=some r) (hr:r<N) (hres:fn.results= #[.tmp r]):QSpec P f [] (.im (.mp es)):=by
 intro w ι B vs H hv;obtain rfl:vs=[]:=by simpa [VRL] using hv
 refine calls_of_wp hf hb ?_;rw[hN];generalize hA:(({tmps:=([]:List Value).toArray++Array.replicate (N-([]:List Value).toArray.size) undef,defers:=[]}:Act))=a;have hsz:a.tmps.size=N:=by grind
 have hdf:a.defers=[]:=by rw[←hA]
 refine wp_seq (wp_region_list ?_);rw[h0];refine wpList_plain hg0 fun K0 hK0=> ?_;have hex0:(execOp a.eval o0).run P w= .ok (.value v0) w:=by simp[execOp,ho0,Act.eval]
 simp only[Oper.wp,hex0,Oper.upon];refine hK0 _ _ ?_;show(Code.seq _ _).wp P _ _ _;have hsz0:(a.put o0.dst v0).tmps.size=N:=by rw[←hsz];unfold Act.put;split<;>simp
 have hdf0:(a.put o0.dst v0).defers=[]:=by rw[←hdf];unfold Act.put;split<;>rfl
 generalize a.put o0.dst v0=a0 at hsz0 hdf0;refine wp_seq (wp_region_list ?_);rw[h1];refine wpList_plain hgm fun K1 hK1=> ?_;have hexm:(execOp a0.eval om).run P w= .ok (.value (.map (some w.heap.size))) (w.alloc (.map #[] 0)):=by
  simp[execOp,hom,Instr.makeMap,Xa,run_newObj_alloc]
 simp only[Oper.wp,hexm,Oper.upon,hdm];refine hK1 _ _ ?_;have hslot:(a0.put (some m) (.map (some w.heap.size))).tmps.getD m undef= .map (some w.heap.size):=by
  simp only[Act.put,Xf]
  simp_all
 refine pairsM_sound H hm l [] es [o1,o2] hp _ _ (g:=w.heap.size) ⟨by simp[Act.put,hsz0],by simp[Act.put,hdf0],hslot,⟨#[],0,heap_alloc_new w _,rfl⟩,Xk _,(Below.refl _ _).alloc (Xk _) _⟩ ?_;intro a1 w1 M;refine wpList_plain hg1 fun K2 hK2=> ?_;have hex1:(execOp a1.eval o1).run P w1= .ok (.value (.map (some w.heap.size))) w1:=by simp only[execOp,ho1,Act.eval,M.slot,X01]
 simp only[Oper.wp,hex1,Oper.upon,hd1];refine hK2 _ _ (wpList_plain hg2 fun K3 hK3=> ?_);have hd':(a1.put (some d) (.map (some w.heap.size))).tmps.getD d undef= .map (some w.heap.size):=by
  simp only[Act.put,Xf];rw[Xm (by rw[M.size];exact hd)]
  rfl
 have hex2:(execOp (a1.put (some d) (.map (some w.heap.size))).eval o2).run P w1= .ok (.value (.map (some w.heap.size))) w1:=by simp only[execOp,ho2,Act.eval,hd',X01]
 simp only[Oper.wp,hex2,Oper.upon,hd2];refine hK3 _ _ ?_;show Code.ret.wp P _ _ _;refine wp_ret ?_;have hdfF:((a1.put (some d) (.map (some w.heap.size))).put (some r) (.map (some w.heap.size))).defers=[]:=by simp[Act.put,M.defers]
 have hrF:((a1.put (some d) (.map (some w.heap.size))).put (some r) (.map (some w.heap.size))).tmps.getD r undef= .map (some w.heap.size):=by
  simp only[Act.put,Xf];rw[Xm (by simp;rw[M.size];exact hr)]
  rfl
 refine⟨hdfF,.map (some w.heap.size), ?_,.map (some w.heap.size),.im (.mp es),[],ι,rfl,rfl,H.below M.below, ?_⟩
 ·rw[results_tmp hres,hrF]
 ·have⟨ents,clock,hg,he⟩:=M.obj;simp only[VR,VRI];refine⟨w.heap.size,ents,clock,rfl,hg, ?_,he⟩;rintro(hb|⟨r',rt,hr',_⟩)
  ·have:=(H.old _ hb).1
   grind
  ·simp[Hp.at] at hr'
def litMapE (P:Program) (f:FuncId):Option (List (Value×Value)):=match P.funcs[f]? with
 |some fn=>match fn.body,fn.results with
  |some (.seq (.region _ ⟨[o0]⟩ false) (.seq (.region _ ⟨om::l⟩ false) .ret)),⟨[.tmp r]⟩=>match o0.guard,o0.op,om.guard,om.op,om.dst with
   |none,.assign (.const _),none,.makeMap _ none,some m=>(match pairsM P fn.ntmps m l [] with
    |some (es,[o1,o2])=>(match o1.guard,o1.op,o1.dst,o2.guard,o2.op,o2.dst with
     |none,.move (.tmp m'),some d,none,.assign (.tmp d'),some r'=>if(decide (m'=m)&&(decide (d'=d)&&(decide (r'=r)&&(decide (m<fn.ntmps)&&(decide (d<fn.ntmps)&&decide (r<fn.ntmps))))))=true then some es else none
     |_,_,_,_,_,_=>none)
    |_=>none)
   |_,_,_,_,_=>none
  |_,_=>none
 |none=>none
theorem litMapE_sound{f:FuncId}{es:List (Value×Value)}(hl:litMapE P f=some es):QSpec P f [] (.im (.mp es)):=by
 unfold litMapE at hl
 split at hl
 ·rename_i fn hf
  split at hl
  ·rename_i i0 o0 i1 om l r hb hres
   split at hl
   ·rename_i v0 t m hg0 ho0 hgm hom hdm
    split at hl
    ·rename_i es' o1 o2 hp
     split at hl
     ·rename_i m' d d' r' hg1 ho1 hd1 hg2 ho2 hd2
      split at hl
      ·rename_i hc;simp only[X2,decide_eq_true_eq] at hc;obtain⟨rfl,rfl,rfl,h1,h2,h3⟩:=hc;simp only[X0] at hl;subst hl;exact litMap hf rfl hb rfl rfl ho0 hg0 hom hgm hdm h1 hp ho1 hg1 hd1 h2 ho2 hg2 hd2 h3 hres
      ·cases hl
     ·cases hl
    ·cases hl
   ·cases hl
  ·cases hl
 ·cases hl
end
section
variable {P:Program}
mutual
def fz (h:Hp):AV→AV→Bool
 | .rsl r ver off n,.im (.sl ys m)=>match h.at r with
  |some rt=>decide (rt.ver=ver)&&(rt.live&&(decide (n=m)&&(aveqL ((rt.cs.drop off).take (n*rt.k)) (ys.map .im)&&decide (ys.length=n*rt.k))))
  |none=>false
 | .im (.val (.slice none 0 0)),.im (.sl [] 0)=>true
 | .tup xs,.tup ys=>fzL h xs ys
 | .agg xs,.agg ys=>fzL h xs ys
 | .im x,.im y=>aveq (.im x) (.im y)
 |_,_=>false
def fzL (h:Hp):List AV→List AV→Bool
 |[],[]=>true
 |x::xs,y::ys=>fz h x y&&fzL h xs ys
 |_,_=>false
end
end
section
variable {P:Program} {N:Nat} {ops:Array Oper} {env:Env} {h:Hp} {da:DA}
def CallPan (P:Program) (f:FuncId) (args:List AV) (h h':Hp) (ch:List PanicEntry):Prop:=
 ∀(X:Ctx) (w:World) (ι:Nat→Bk) (vs:List Value),Hol X h ι w→VRL w h ι (Own X.B h ι) args vs→
  Calls P f vs.toArray w fun e w'=>e= .panicked ch∧∃ι',Hol X h' ι' w'∧Keep w h ι (Own X.B h ι) w' h' ι' (Own X.B h' ι')
end
end Go.Abs
