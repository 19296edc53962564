/- Own work. -/
import Derived.Test.YtfpcbalkioolmaaDoorLibC
import Derived.Shelf.SlicesE.Reverse
set_option linter.unusedSimpArgs false
set_option linter.unusedVariables false
namespace Go.Abs
section
open Go.RowKit
variable {P:Program}
end
open Go.RowKit
section
variable {P:Program} {N:Nat} {ops:Array Oper} {env:Env} {h:Hp}
theorem Quiet.sliceNil{o:Oper}{t:TypeId}{x y:Operand}(ho:o.op= .slice t x none (some y) none)(ht:tk P t=1)(hi:(ez P t).isSome=true)
  (hg:gpo ops env o (gd (rdo env x)∧st (rdo env x)= .im (.val (.slice none 0 0))∧gd (rdo env y)∧st (rdo env y)= .int .i64 0)):
  Quiet P ops o env h (gav ops env o (.im (.val (.slice none 0 0)))):=
 Y4a hg fun⟨hgd,hsl,hgy,hy⟩ X a w ι Q H hop next hn=>by
  have hv:=(hop x (by simp[ho,Op.operands])).st hgd;have hw:=(hop y (by simp[ho,Op.operands])).st hgy;rw[hsl,Y0z] at hv;rw[hy,Y53] at hw;have⟨k,hk⟩:=X1v.1 hi;have⟨e,i,he,hi,hs⟩:=ez_slice ht hk;have hex:(execOp a.eval o).run P w= .ok (.value (.slice none 0 0)) w:=by
   simp[execOp,ho,Instr.sliceAt,Instr.slice,Instr.sliceBounds,Instr.sliceBound,asIntOf,hv,hw,run_underlying he,sizeOf,typeInfo,hi,Xa]
  simp only[Oper.wp,hex,Oper.upon];exact hn _ _ (Below.refl _ _) (by rfl)
end
section
variable {P:Program} {N:Nat} {ops:Array Oper} {env:Env} {h:Hp}
def partP (P:Program) (t:TypeId) (cs:Array Value) (off:Nat):Option Value:=match lz P t with
 |some none=>cs[off]?
 |some (some n)=>some (.agg (cs.extract off (off+n)))
 |none=>none
theorem partP_run{t:TypeId}{cs:Array Value}{off:Nat}{v:Value}{w:World}(hp:partP P t cs off=some v):(part t cs off).run P w= .ok v w:=by
 unfold partP at hp;unfold part;cases hl:lz P t with
 |none=>simp_all
 |some o=>
  cases o with
  |none=>
   simp only[hl] at hp;simp[Xa,lz_none hl,hp]
  |some n=>
   simp only[hl,X0] at hp;subst hp;simp[Xa,(lz_some (w:=w) hl).1,(lz_some (w:=w) hl).2]
def catO:List (Option (List Bool))→Option (List Bool)
 |[]=>some []
 |none::_=>none
 |some l::r=>(catO r).map (l++ ·)
theorem catO_map{α:Type}(f:α→Option (List Bool)):∀(l:List α) (L:List Bool),catO (l.map f)=some L→(∀a∈l,f a=some ((f a).getD []))∧L=l.flatMap fun a=>(f a).getD []
 |[],L,h=>by simp[catO] at h;grind
 |a::l,L,h=>by
  cases hf:f a with
  |none=>simp[catO,hf] at h
  |some x=>
   simp only[Xo,hf,catO,Option.map_eq_some_iff] at h;obtain⟨M,hM,rfl⟩:=h;have⟨h1,h2⟩:=catO_map f l M hM
   grind
def eqV (P:Program):Nat→TypeId→Value→Value→Option (List Bool)
 |0,_,_,_=>none
 |d+1,t,x,y=>match P.underlying t with
  |some .bool=>(match x,y with| .bool a,.bool b=>some [a==b]|_,_=>none)
  |some (.int _)=>(match x,y with| .int k a,.int k' b=>if k=k' then some [a==b] else none|_,_=>none)
  |some .string=>(match x,y with| .string a,.string b=>some [a==b]|_,_=>none)
  |some (.struct fs)=>(match x,y with
   | .agg xs,.agg ys=>if P.stoodInHeld t then none else catO (fs.toList.map fun f=>if f.name= "_" then some [] else match partP P f.type xs f.offset,partP P f.type ys f.offset with|some u,some v=>eqV P d f.type u v|_,_=>none)
   |_,_=>none)
  |some (.array n e)=>(match x,y with
   | .agg xs,.agg ys=>(match P.info? e with
    |some i=>catO ((List.range' 0 n).map fun j=>match partP P e xs (j*i.size),partP P e ys (j*i.size) with|some u,some v=>eqV P d e u v|_,_=>none)
    |none=>none)
   |_,_=>none)
  |_=>none
theorem loop_all{α:Type}{w:World}(B:α→Option Bool×Unit→Sem (ForInStep (Option Bool×Unit)))(r:α→List Bool):∀(l:List α),(∀a∈l,∀s,(B a s).run P w= .ok (if(r a).all id=true then .yield (none,()) else .done (some false,())) w)→
  (forIn l (none,()) B).run P w= .ok (if(l.flatMap r).all id=true then(none,()) else(some false,())) w
 |[],h=>by simp
 |a::l,h=>by
  rw[List.forIn_cons,Xa,h a (by simp)];simp only[Xn,Xr,List.all_append]
  by_cases ha:(r a).all id=true
  ·rw[if_pos ha,ha];simp only[Bool.true_and];exact loop_all B r l fun b hb=>h b (by simp[hb])
  simp_all
theorem eqV_sound{w:World}:∀(d:Nat) (t:TypeId) (x y:Value) (l:List Bool),eqV P d t x y=some l→(Op.equalIn d t x y).run P w= .ok (l.all id) w
 |0,t,x,y,l,h=>by simp[eqV] at h
 |d+1,t,x,y,l,h=>by
  unfold eqV at h;unfold Op.equalIn
  split at h
  ·rename_i hu
   split at h
   ·simp only[X0] at h;subst h
    simp[Xa,run_underlying hu]
   ·cases h
  ·rename_i k hu
   split at h
   ·rename_i k1 a k2 b
    split at h
    ·rename_i hk;simp only[X0] at h;subst h
     simp[Xa,run_underlying hu,hk]
    ·cases h
   ·cases h
  ·rename_i hu
   split at h
   ·simp only[X0] at h;subst h
    simp[Xa,run_underlying hu]
   ·cases h
  ·rename_i fs hu
   split at h
   ·rename_i xs ys
    split at h
    ·cases h
    ·rename_i hs;have hs':P.stoodInHeld t=false:=by simp_all
     have⟨h1,hL⟩:=catO_map _ _ _ h;generalize hb:l.all id=b;simp only[Xa,run_underlying hu,Xn];simp[hs'];rw[←Array.forIn_toList];rw[loop_all _ (fun f=>(if f.name= "_" then some [] else match partP P f.type xs f.offset,partP P f.type ys f.offset with|some u,some v=>eqV P d f.type u v|_,_=>none).getD []) fs.toList (fun f hf s=> ?_)]
     ·simp only[Xn];rw[←hL,hb];cases b<;>rfl
     ·have h2:=h1 f hf
      by_cases hn:f.name= "_"
      ·simp[hn]
      ·rw[if_neg hn] at h2⊢;rw[if_neg hn]
       split at h2
       ·rename_i u v hu' hv';simp only[Xa,partP_run hu',partP_run hv',Xn,eqV_sound d _ u v _ h2];generalize ((eqV P d f.type u v).getD []).all id=c;cases c<;>rfl
       ·cases h2
   ·cases h
  ·rename_i n e hu
   split at h
   ·rename_i xs ys
    split at h
    ·rename_i i hi;have⟨h1,hL⟩:=catO_map _ _ _ h;generalize hb:l.all id=b;simp only[Xa,run_underlying hu,Xn];simp[sizeOf,typeInfo,hi];rw[loop_all _ (fun j=>(match partP P e xs (j*i.size),partP P e ys (j*i.size) with|some u,some v=>eqV P d e u v|_,_=>none).getD []) (List.range' 0 n) (fun f hf s=> ?_)]
     ·simp only[Xn];rw[←hL,hb];cases b<;>rfl
     ·have h2:=h1 f hf
      split at h2
      ·rename_i u v hu' hv';simp only[Xa,partP_run hu',partP_run hv',Xn,eqV_sound d _ u v _ h2];generalize ((eqV P d e u v).getD []).all id=c;cases c<;>rfl
      ·cases h2
    ·cases h
   ·cases h
  ·cases h
theorem VRL.of_vals{w:World}{ι:Nat→Bk}{A:Nat→Prop}:∀(us l:List Value),VRL w h ι A (us.map fun u=>.im (.val u)) l→l=us
 |[],l,hv=>by simpa [VRL] using hv
 |u::us,l,hv=>by
  simp only[Xo,VRL,VR,VRI] at hv;obtain⟨v,l',rfl,rfl,hr⟩:=hv;rw[VRL.of_vals us l' hr]
theorem Quiet.eqAgg{o:Oper}{t ty:TypeId}{x y:Operand}{op:BinOp}(us vs:List Value)(l:List Bool)(neg:Bool)(ho:o.op= .binOp op t x y ty)(hop:op=if neg then .neq else .eql)(hgt:P.eqGuardType P.depth t=false)
  (hl:eqV P Op.maxDepth t (.agg us.toArray) (.agg vs.toArray)=some l)
  (hg:gpo ops env o (gd (rdo env x)∧st (rdo env x)= .agg (us.map fun u=>.im (.val u))∧gd (rdo env y)∧st (rdo env y)= .agg (vs.map fun u=>.im (.val u)))):
  Quiet P ops o env h (gav ops env o (.bool (xor neg (l.all id)))):=
 Y4a hg fun⟨hgx,hx,hgy,hy⟩ X a w ι Q H hops next hn=>by
  have hv:=(hops x (by simp[ho,Op.operands])).st hgx;have hw:=(hops y (by simp[ho,Op.operands])).st hgy;rw[hx] at hv;rw[hy] at hw;simp only[VR] at hv hw;obtain⟨l1,hv,h1⟩:=hv;obtain⟨l2,hw,h2⟩:=hw;obtain rfl:=VRL.of_vals us l1 h1;obtain rfl:=VRL.of_vals vs l2 h2;have he:=eqV_sound (w:=w) _ _ _ _ _ hl;have hex:(execOp a.eval o).run P w= .ok (.value (.bool (xor neg (l.all id)))) w:=by
   cases neg<;>simp at hop<;>subst hop<;>simp[execOp,ho,eqGuard,binOp,Op.equal,Xa,hv,hw,hgt,he]
  simp only[Oper.wp,hex,Oper.upon];exact hn _ _ (Below.refl _ _) (by rfl)
end
section
variable {P:Program} {N:Nat} {ops:Array Oper} {env:Env} {h:Hp}
abbrev OC:={v:Value//v.oneCell'=true}
instance:Inhabited OC:=⟨⟨.int .i64 0,rfl⟩⟩
open Go.Shelf Go.Lib Go.Sort Go.Proofs in
end
section
variable {P:Program} {N:Nat} {ops:Array Oper} {env:Env} {h:Hp}
end
section
variable {P:Program} {N:Nat} {ops:Array Oper} {env:Env} {h:Hp}
end
section
variable {P:Program} {N:Nat} {ops:Array Oper} {env:Env} {h:Hp}
theorem Quiet.nilCheck{o:Oper}{x:Operand}{r ver off:Nat}(ho:o.op= .nilCheck x)(hg:gpo ops env o (gd (rdo env x)∧st (rdo env x)= .ref r ver off∧(h.at r).map (·.ver)=some ver)):
  Quiet P ops o env h (gav ops env o (.ref r ver off)):=
 Y4a hg fun⟨hgd,hsl,hn⟩ X a w ι Q H hop next hnx=>by
  have hv:=(hop x (by simp[ho,Op.operands])).st hgd;rw[hsl] at hv;have hv':=hv;have⟨rt,g,_,_,_,hp⟩:=Y61 hv hn;have hex:(execOp a.eval o).run P w= .ok (.value (.pointer (some ⟨g,off,none⟩))) w:=by simp[execOp,ho,hp]
  simp only[Oper.wp,hex,Oper.upon];refine hnx _ _ (Below.refl _ _) ?_
  simp_all
theorem Quiet.nilCheckI{o:Oper}{x:Operand}{cs:List IV}{off:Nat}(ho:o.op= .nilCheck x)(hg:gpo ops env o (gd (rdo env x)∧st (rdo env x)= .ipt cs off)):
  Quiet P ops o env h (gav ops env o (.ipt cs off)):=
 Y4a hg fun⟨hgd,hsl⟩ X a w ι Q H hop next hnx=>by
  have hv:=(hop x (by simp[ho,Op.operands])).st hgd;rw[hsl] at hv;have hv':=hv;simp only[VR] at hv;have⟨b,l,hp,_⟩:=hv;have hex:(execOp a.eval o).run P w= .ok (.value (.pointer (some (b.add off)))) w:=by simp[execOp,ho,hp]
  simp only[Oper.wp,hex,Oper.upon];refine hnx _ _ (Below.refl _ _) ?_
  simp_all
end
section
variable {P:Program} {N:Nat} {ops:Array Oper} {env:Env} {h:Hp}
def RStep (P:Program) (o:Oper) (env:Env) (h:Hp) (r:Nat) (rt':Rt) (av:AV):Prop:=
 ∀(X:Ctx) (a:Act) (w:World) (ι:Nat→Bk) (Q:Exit→Act→World→Prop) (next:Act→World→Prop),Hol X h ι w→(∀x,x∈o.op.operands→VR w h ι (Own X.B h ι) (rdo env x) (a.eval x))→
  (∀b' w' v,Hol X ((r,rt')::h) (upd ι r b') w'→Keep w h ι (Own X.B h ι) w' ((r,rt')::h) (upd ι r b') (Own X.B ((r,rt')::h) (upd ι r b'))→
   VR w' ((r,rt')::h) (upd ι r b') (Own X.B ((r,rt')::h) (upd ι r b')) av v→next (a.put o.dst v) w')→o.wp P a w next Q
theorem RStep.alloc{o:Oper}{e:TypeId}{z:List Value}(ho:o.op= .alloc e)(r:Nat)(hr:h.at r=none)(hz:zc P e=some z)(hz1:z.all (·.oneCell')=true):RStep P o env h r ⟨0,true,e,z.length,z.map fun v=>.im (.val v)⟩ (.ref r 0 0):=by
 intro X a w ι Q next H hop hn;have⟨u,hu,hcu⟩:=zc_some (w:=w) hz;have hlen:u.cells.size=z.length:=by grind
 have htk:u.cells.toList.take (z.map fun v=>AV.im (.val v)).length=z:=by simp_all
 have⟨H',K'⟩:=H.alloc r hr e z.length 1 (z.map fun v=>.im (.val v)) u.cells (by omega) (by simp[maxLen]) (by rw[htk];exact VRL.vals z) (by simp_all);have hrun:(execOp a.eval o).run P w= .ok (.value (.pointer (some ⟨w.heap.size,0,none⟩))) (w.alloc (.cells u.cells e)):=by
  simp[execOp,ho,Instr.alloc,newVar,newRow,Xa,hu]
 simp only[Oper.wp,hrun,Oper.upon];exact hn _ _ _ H' K' (VR.newref (rt:=⟨0,true,e,_,_⟩) rfl 0)
theorem RStep.append{o:Oper}{s x:Operand}{t u e:TypeId}{k bytes:Nat}{z:List Value}(ho:o.op= .call ⟨.builtin .append, #[s,x], #[t,u]⟩)
  {r ver n m:Nat} {rt:Rt} {news:List AV} (E:Elem P t e k bytes z) (hs:rdo env s= .rsl r ver 0 n) (hrt:h.at r=some rt) (hver:rt.ver=ver) (hl:rt.live=true) (he:rt.e=e) (hk:rt.k=k) (hn:n*k≤rt.cs.length)
  (hx:gd (rdo env x)) (src:SrcA P h u k (st (rdo env x)) m news) (hsz:(n+m)*bytes≤140737488355328) (hmx:n+m≤140737488355328):
  RStep P o env h r ⟨ver+1,true,e,k,rt.cs.take (n*k)++news⟩ (.rsl r (ver+1) 0 (n+m)):=by
 intro X a w ι Q next H hop hnx;have⟨hud,hsrc⟩:=src;have⟨hlen,l,hvl,hl1,hll,hfc⟩:=hsrc X ι w (a.eval x) H ((hop x (by simp[ho,Op.operands,Call.operands])).st hx);exact append_core ho E hrt hver hl he hk hn hsz hmx hud H (hs▸hop s (by simp[ho,Op.operands,Call.operands])) hlen hvl hl1 hll hfc hnx
end
end Go.Abs
