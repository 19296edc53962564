/- Own work. -/
import Derived.Test.YtfpcbalkioolmaaDoorRunA
set_option linter.unusedSimpArgs false
set_option linter.unusedVariables false
namespace Go.Abs
open Go.RowKit
section
variable {P:Program} {N:Nat} {ops:Array Oper} {env:Env} {h:Hp}
def undA:AV:=.im (.val undef)
def gB (ops:Array Oper) (env:Env) (o:Oper):Option Bool:=match o.guard with
 |none=>some true
 |some (j,b)=>match (ops[j]?).bind (·.dst) with
  |some t=>match rdq env t with
   | .im (.val (.bool g))=>some (g==b)
   | .im (.val (.tuple ⟨[]⟩))=>some false
   |_=>none
  |none=>none
theorem gB_sound{w:World}{ι:Nat→Bk}{A:Nat→Prop}{a:Act}{o:Oper}{g:Bool}(hg:gB ops env o=some g)(hs:∀s,s∈o.looksAt ops→VR w h ι A (rd env s) (a.tmps.getD s undef)):
  Region.wanted o (yielded ops a.tmps)=g:=by
 unfold gB at hg
 split at hg
 ·rename_i h0;simp only[X0] at hg;subst hg;simp[Region.wanted,h0]
 ·rename_i j b h0
  split at hg
  ·rename_i t ht;have hv:=hs t (looks_guard h0 ht);have hy:=yielded_iff (ops:=ops) (tmps:=a.tmps) (b:=b) ht;simp only[Region.wanted,h0];rw[rdq_eq] at hg
   split at hg
   ·rename_i g' hr;simp only[X0] at hg;subst hg;rw[hr,Y7y] at hv
    grind
   ·rename_i hr;simp only[X0] at hg;subst hg;rw[hr,Y0z] at hv
    simp_all
   ·cases hg
  ·cases hg
def OStep (P:Program) (ops:Array Oper) (o:Oper) (env:Env) (h h':Hp) (av:AV):Prop:=
 ∀(X:Ctx) (a:Act) (w:World) (ι:Nat→Bk) (Q:Exit→Act→World→Prop) (next:Act→World→Prop),Hol X h ι w→
  (∀s,s∈o.looksAt ops→VR w h ι (Own X.B h ι) (rd env s) (a.tmps.getD s undef))→
  (∀ι' w' v,Hol X h' ι' w'→Keep w h ι (Own X.B h ι) w' h' ι' (Own X.B h' ι')→VR w' h' ι' (Own X.B h' ι') av v→next (a.put o.dst v) w')→
  if Region.wanted o (yielded ops a.tmps) then o.wp P a w next Q else next (a.put o.dst undef) w
theorem OStep.yes{o:Oper}{h':Hp}{av:AV}(hg:gB ops env o=some true)(hs:HStep P o env h h' av):OStep P ops o env h h' av:=by
 intro X a w ι Q next H hl hn;rw[gB_sound hg hl,if_pos rfl];exact hs X a w ι Q next H (operand_vr H.globOK hl) hn
theorem OStep.no{o:Oper}(hg:gB ops env o=some false):OStep P ops o env h h undA:=by
 intro X a w ι Q next H hl hn;rw[gB_sound hg hl,if_neg (by simp)];exact hn ι w undef H (Keep.refl _ _ _ _) (by rfl)
def CallOK (P:Program) (f:FuncId) (args:List AV) (h h':Hp) (av:AV):Prop:=
 ∀(X:Ctx) (w:World) (ι:Nat→Bk) (vs:List Value),Hol X h ι w→VRL w h ι (Own X.B h ι) args vs→
  Calls P f vs.toArray w fun e w'=>∃v ι',e= .returned v∧Hol X h' ι' w'∧Keep w h ι (Own X.B h ι) w' h' ι' (Own X.B h' ι')∧VR w' h' ι' (Own X.B h' ι') av v
theorem Y9l{o:Oper}{x:Operand}{f:FuncId}{first:List AV}{xs:List Operand}{ts:Array TypeId}{h':Hp}{av:AV}(ho:o.op= .call ⟨.value x,xs.toArray,ts⟩)(hc:Y4g P f=true)
  (hx:(rdo env x= .im (.val (.func (.func f) #[] #[]))∧first=[])∨rdo env x= .fnv f first) (hgd:∀y∈xs,gd (rdo env y)) (hs:CallOK P f (first++xs.map fun y=>st (rdo env y)) h h' av):HStep P o env h h' av:=by
 intro X a w ι Q next H hop hn;have hvx:=hop x (by simp[ho,Op.operands,Call.operands]);have hvs:=args_vr xs hgd (fun y hy=>hop y (by simp[ho,Op.operands,Call.operands,hy]));have⟨l,hl,hvl⟩:∃l:List Value,a.eval x= .func (.func f) l.toArray #[]∧VRL w h ι (Own X.B h ι) first l:=by
  rcases hx with⟨hx,rfl⟩|hx
  ·rw[hx,Y0z] at hvx;exact⟨[],hvx,by rfl⟩
  ·rw[hx] at hvx;simpa only[VR] using hvx
 have hr:(execOp a.eval o).run P w= .ok (.enter f (l++xs.map a.eval).toArray) w:=by
  simp only[execOp,ho,resolve,Xa,hl];have hof:Deferred.ofValue (.func (.func f) l.toArray #[]) (xs.toArray.map a.eval)=Pure.pure ({target:=.fn (.func f) #[],args:=l.toArray++xs.toArray.map a.eval}:Deferred):=rfl;simp only[hof,X01,Xn,invoke,Array.append_empty,callFunc_run hc];simp
 simp only[Oper.wp,hr,Oper.upon];refine(hs X w ι _ H (hvl.append hvs)).mono ?_
 grind
abbrev DA:=List (FuncId×List AV×List AV)
def DR (w:World) (h:Hp) (ι:Nat→Bk) (A:Nat→Prop):DA→List Deferred→Prop
 |[],ds=>ds=[]
 |(f,xs,ys)::da,ds=>∃(ds':List Deferred) (l m:List Value),ds={target:=.fn (.func f) m.toArray,args:=l.toArray}::ds'∧VRL w h ι A xs l∧VRL w h ι A ys m∧DR w h ι A da ds'
theorem DR.keep{w w':World}{h h':Hp}{ι ι':Nat→Bk}{A A':Nat→Prop}(K:Keep w h ι A w' h' ι' A'):∀(da:DA) (ds:List Deferred),DR w h ι A da ds→DR w' h' ι' A' da ds
 |[],_,hd=>hd
 |(_,xs,ys)::da,ds,hd=>by
  simp only[DR] at hd⊢;obtain⟨ds',l,m,rfl,h1,h2,h3⟩:=hd;exact⟨ds',l,m,rfl,VRL.keep K _ _ h1,VRL.keep K _ _ h2,DR.keep K da ds' h3⟩
structure SlD (da:DA) (N:Nat) (env:Env) (h:Hp) (ι:Nat→Bk) (A:Nat→Prop) (a:Act) (w:World):Prop where
 size:a.tmps.size=N
 defers:DR w h ι A da a.defers
 at_:∀i,VR w h ι A (rd env i) (a.tmps.getD i undef)
theorem SlD.keep{da:DA}{env:Env}{h h':Hp}{ι ι':Nat→Bk}{A A':Nat→Prop}{a:Act}{w w':World}(S:SlD da N env h ι A a w)(K:Keep w h ι A w' h' ι' A'):SlD da N env h' ι' A' a w':=
 ⟨S.size,DR.keep K _ _ S.defers,fun i=>VR.keep K _ _ (S.at_ i)⟩
theorem SlD.below{da:DA}{env:Env}{h:Hp}{ι:Nat→Bk}{A:Nat→Prop}{a:Act}{w w':World}(S:SlD da N env h ι A a w)(hb:Below w.heap.size w w'):SlD da N env h ι A a w':=S.keep (Keep.below hb)
theorem put_defers(a:Act)(d:Option Nat)(v:Value):(a.put d v).defers=a.defers:=by unfold Act.put;split<;>rfl
theorem SlD.putd{da:DA}{env:Env}{h:Hp}{ι:Nat→Bk}{A:Nat→Prop}{a:Act}{w:World}(S:SlD da N env h ι A a w){d:Option Nat}(hd:d.all (· <N)=true){v:Value}{av:AV}
  (hv:VR w h ι A av v):SlD da N (Abs.setd env d av) h ι A (a.put d v) w:=by
 have S0:Slots N env h ι A {a with defers:=[]} w:=⟨S.size,rfl,S.at_⟩;have S1:=S0.putd hd hv;refine⟨?_,by rw[put_defers];exact S.defers,fun i=> ?_⟩
 ·have:=S1.size;revert this;unfold Act.put;split<;>exact id
 ·have:=S1.at_ i;revert this;unfold Act.put;split<;>exact id
theorem SlD.eval{da:DA}{env:Env}{h:Hp}{ι:Nat→Bk}{A:Nat→Prop}{a:Act}{w:World}(S:SlD da N env h ι A a w)(hg:GlobOK w A)(x:Operand):VR w h ι A (rdo env x) (a.eval x):=by
 have S0:Slots N env h ι A {a with defers:=[]} w:=⟨S.size,rfl,S.at_⟩;have:=S0.eval hg x;cases x<;>exact this
theorem SlD.le{da:DA}{env env':Env}{h:Hp}{ι:Nat→Bk}{A:Nat→Prop}{a:Act}{w:World}(hle:Env.le env env')(S:SlD da N env h ι A a w):SlD da N env' h ι A a w:=
 ⟨S.size,S.defers,fun i=>by
  rcases hle i with he|he
  ·rw[he];simp[VR]
  ·rw[←he];exact S.at_ i⟩
theorem SlD.slots{env:Env}{h:Hp}{ι:Nat→Bk}{A:Nat→Prop}{a:Act}{w:World}(S:SlD [] N env h ι A a w):Slots N env h ι A a w:=⟨S.size,S.defers,S.at_⟩
structure MidD (da:DA) (N:Nat) (ops:Array Oper) (env:Env) (vs:List AV) (h:Hp) (ι:Nat→Bk) (A:Nat→Prop) (S:Nat→Bool) (a:Act) (w:World):Prop where
 size:a.tmps.size=N
 defers:DR w h ι A da a.defers
 put:∀(i:Nat) (o:Oper) (v:AV) (s:Nat),S i=true→ops[i]? =some o→vs[i]? =some v→o.dst=some s→VR w h ι A v (a.tmps.getD s undef)
 left:∀s,(∀(i:Nat) (o:Oper),S i=true→ops[i]? =some o→o.dst≠some s)→VR w h ι A (rd env s) (a.tmps.getD s undef)
 down:∀(i:Nat) (o:Oper),S i=true→ops[i]? =some o→∀e∈o.after,Region.binds .any e=true→S e.on=true
variable {da:DA}
def dstB (N:Nat):Option Nat→Bool
 |none=>true
 |some d=>nlt d N
theorem dstB_sound{d:Option Nat}(hd:dstB N d=true):d.all (· <N)=true:=by
 cases d with
 |none=>rfl
 |some d=>simp only[dstB,nlt_eq] at hd;simp_all
theorem SlD.setd{X:Ctx}{w w':World}{h':Hp}{ι ι':Nat→Bk}{a:Act}(S:SlD da N env h ι (Own X.B h ι) a w)(K:Keep w h ι (Own X.B h ι) w' h' ι' (Own X.B h' ι')){d:Option Nat}(hd:d.all (· <N)=true){v:Value}{av:AV}
  (hv:VR w' h' ι' (Own X.B h' ι') av v):SlD da N (Abs.setd env d av) h' ι' (Own X.B h' ι') (a.put d v) w':=
 SlD.putd (S.keep K) hd hv
def Down (ops:Array Oper) (S:Nat→Bool):Prop:=∀(i:Nat) (o:Oper),S i=true→ops[i]? =some o→∀e∈o.after,Region.binds .any e=true→S e.on=true
def Anc (ops:Array Oper) (j i:Nat):Prop:=∀S:Nat→Bool,Down ops S→S i=true→S j=true
theorem draw_sound{id:Nat}(hm:P.follows .mixedOrders=true)(hk:drawOk N ops=true)(vs:List AV)(hlen:vs.length=ops.size)(m:Nat)(cs:Nat→Nat)(hs:Nat→Hp)
  (inc:∀j k,j<k→k<m→cs j≠cs k) (ord:∀j k,j<k→k<m→Anc ops (cs j) (cs k))
  (heavyOK:∀k,k<m→∃o v,ops[cs k]? =some o∧vs[cs k]? =some v∧OStep P ops o (envAt env (ops.toList.take (cs k)) (vs.take (cs k))) (hs k) (hs (k+1)) v)
  (liteOK:∀(i:Nat) (o:Oper) (v:AV),ops[i]? =some o→vs[i]? =some v→(∀k,k<m→cs k≠i)→∀p,p≤m→
   (∃k,k<p∧Anc ops i (cs k))∨(∃k,p≤k∧k<m∧Anc ops (cs k) i)∨OStep P ops o (envAt env (ops.toList.take i) (vs.take i)) (hs p) (hs p) v)
  {X:Ctx} {a:Act} {w:World} {ι:Nat→Bk} (H:Hol X (hs 0) ι w) (S:SlD da N env (hs 0) ι (Own X.B (hs 0) ι) a w):
  (Code.region id ops true).wp P (fun e a' w'=>e= .normal∧∃ι',Hol X (hs m) ι' w'∧SlD da N (envAt env ops.toList vs) (hs m) ι' (Own X.B (hs m) ι') a' w'∧Keep w (hs 0) ι (Own X.B (hs 0) ι) w' (hs m) ι' (Own X.B (hs m) ι')) a w:=by
 have D:=drawOk.spec hk;refine wp_region_any hm ?_;have hdrew:Below w.heap.size w {w with drawn:=w.drawn+1}:=⟨rfl,rfl,rfl,Xk _,fun _ _=>rfl⟩;have H':=H.below hdrew;have S':=S.below hdrew;have K':Keep w (hs 0) ι (Own X.B (hs 0) ι) {w with drawn:=w.drawn+1} (hs 0) ι (Own X.B (hs 0) ι):=Keep.below hdrew;generalize hQd:(fun(e:Exit) (a':Act) (w':World)=>e= .normal∧∃ι',Hol X (hs m) ι' w'∧SlD da N (envAt env ops.toList vs) (hs m) ι' (Own X.B (hs m) ι') a' w'∧Keep w (hs 0) ι (Own X.B (hs 0) ι) w' (hs m) ι' (Own X.B (hs m) ι'))=Q;generalize ({w with drawn:=w.drawn+1}:World)=w1 at H' S' K';have main:∀(fuel:Nat) (listed:Array Bool) (a:Act) (w2:World) (p:Nat) (ι2:Nat→Bk),listed.size=ops.size→((List.range ops.size).filter fun j=> !listed.getD j true).length≤fuel→p≤m→
   (∀k,k<p→listed.getD (cs k) false=true)→(∀k,p≤k→k<m→listed.getD (cs k) false=false)→Hol X (hs p) ι2 w2→Keep w (hs 0) ι (Own X.B (hs 0) ι) w2 (hs p) ι2 (Own X.B (hs p) ι2)→
   MidD da N ops env vs (hs p) ι2 (Own X.B (hs p) ι2) (fun i=>listed.getD i false) a w2→wpAny P .any ops Q fuel listed a w2:=by
  have fin:∀(listed:Array Bool) (a:Act) (w2:World) (p:Nat) (ι2:Nat→Bk),listed.size=ops.size→Region.ready .any ops listed=[]→p≤m→(∀k,p≤k→k<m→listed.getD (cs k) false=false)→Hol X (hs p) ι2 w2→
    Keep w (hs 0) ι (Own X.B (hs 0) ι) w2 (hs p) ι2 (Own X.B (hs p) ι2)→MidD da N ops env vs (hs p) ι2 (Own X.B (hs p) ι2) (fun i=>listed.getD i false) a w2→Q .normal a w2:=by
   intro listed a w2 p ι2 hsz hr hpm hun H K M;have all:∀i,i<ops.size→listed.getD i false=true:=by
    intro i
    induction i using Nat.strongRecOn with
    |_ i ih=>
     intro hi;cases hl:listed.getD i false with
     |true=>rfl
     |false=>
      exfalso
      have hmem:i∈Region.ready .any ops listed:=by
       unfold Region.ready;refine List.mem_filter.2 ⟨Xy.2 hi, ?_⟩;have ho:ops[i]? =some ops[i]:=X0m hi;have hl':listed.getD i true=false:=by
        simp_all
       simp only[hl',X1g,Bool.true_and,ho,X0b,X0p];refine X1x.2 fun e he=> ?_;cases hb:Region.binds .any e with
       |false=>simp
       |true=>
        have:=D.back i _ ho e he hb
        grind
      simp_all
   have hpe:p=m:=by
    by_cases h1:p=m
    ·exact h1
    ·exfalso
     have⟨o,v,ho,_⟩:=heavyOK p (by omega)
     grind
   subst hpe;rw[←hQd];refine⟨rfl,ι2,H,⟨M.size,M.defers,fun s=> ?_⟩,K⟩
   by_cases hex:∃(i:Nat) (o:Oper),ops[i]? =some o∧o.dst=some s
   ·have⟨i,o,ho,hd⟩:=hex;have hi:i<ops.size:=(X03.1 ho).1;have hv:vs[i]? =some (vs[i]'(by omega)):=X5 (by omega);rw[envAt_some ops.toList vs env i o _ (by simp_all) hv hd (fun j p hp e=>(D.one i j o p s ho (by simp_all) hd e).symm)];exact M.put i o _ s (all i hi) ho hv hd
   ·rw[envAt_none ops.toList vs env (fun i o ho e=>hex ⟨i,o,by simp_all,e⟩)];exact M.left s (fun i o _ ho e=>hex ⟨i,o,ho,e⟩)
  intro fuel
  induction fuel with
  |zero=>
   intro listed a w2 p ι2 hsz hc hpm hli hun H K M;have hr:Region.ready .any ops listed=[]:=by
    have h0:((List.range ops.size).filter fun j=> !listed.getD j true)=[]:=X08 (by omega);unfold Region.ready;rw[List.filter_eq_nil_iff] at h0⊢
    grind
   exact⟨hr,fin listed a w2 p ι2 hsz hr hpm hun H K M⟩
  |succ fuel ih=>
   intro listed a w2 p ι2 hsz hc hpm hli hun H K M;refine⟨fun hr=>fin listed a w2 p ι2 hsz hr hpm hun H K M,fun i hi=> ?_⟩;unfold Region.ready at hi;have⟨hir,hi2⟩:=List.mem_filter.1 hi;have hi':i<ops.size:=Xy.1 hir;have ho:ops[i]? =some ops[i]:=X0m hi';simp only[ho,X0b,X0p,X2,X00] at hi2;have⟨hul,hpred⟩:=hi2;have hpred':∀e∈(ops[i]).after,Region.binds .any e=true→listed.getD e.on false=true:=fun e he hb=>by
    have:=X1x.1 hpred e he
    grind
   have hulf:listed.getD i false=false:=by
    grind
   have hv:vs[i]? =some (vs[i]'(by omega)):=X5 (by omega);have hdown:Down ops (fun i=>listed.getD i false):=M.down
   --what an ancestor of `i` is
   have hanc:∀j,Anc ops j i→j≠i→listed.getD j false=true:=by
    intro j hj hne;have:=hj (fun k=>(listed.setIfInBounds i true).getD k false) (by
     intro k o hk hok e he hb;have hset:∀k,(listed.setIfInBounds i true).getD k false=if k=i then true else listed.getD k false:=by
      intro k;simp only[Xf]
      by_cases hki:k=i
      ·grind
      grind
     simp only[hset] at hk⊢
     by_cases hki:k=i
     ·subst hki;rw[ho] at hok;cases hok
      have:=hpred' e he hb
      split
      ·rfl
      omega
     ·rw[if_neg hki] at hk;have:=M.down k o hk hok e he hb
      split
      ·rfl
      omega) (by
     simp only[Xf]
     grind)
    simp only[Xf] at this⊢;rwa[Xx (fun e=>hne e.symm)] at this
   simp only[wpOp,ho]
   --the slots that it looks at hold what they hold in the order of the text
   have hlook:∀s,s∈(ops[i]).looksAt ops→VR w2 (hs p) ι2 (Own X.B (hs p) ι2) (rd (envAt env (ops.toList.take i) (vs.take i)) s) (a.tmps.getD s undef):=by
    intro s hss
    by_cases hex:∃(j:Nat) (q:Oper),ops[j]? =some q∧q.dst=some s
    ·have⟨j,q,hq,hd⟩:=hex;have hj:j<ops.size:=(X03.1 hq).1;have hij:i≠j:=by
      rintro rfl;rw[ho] at hq;cases hq;exact D.self i _ s ho hd hss
     rcases D.look i j _ q s ho hq hij hd hss with⟨hlt,e,he,hb,hon⟩|⟨hlt,e,he,hb,hon⟩
     ·have hS:listed.getD j false=true:=hon▸hpred' e he hb;have hvj:vs[j]? =some (vs[j]'(by omega)):=X5 (by omega);rw[envAt_some (ops.toList.take i) (vs.take i) env j q (vs[j]'(by omega)) (by grind) (by grind) hd
       (fun k q' hq' e=>by
        rw[Xs] at hq'
        split at hq'
        ·exact(D.one j k q q' s hq (by grind) hd e).symm
        grind)]
      exact M.put j q _ s hS hq hvj hd
     ·rw[envAt_none (ops.toList.take i) (vs.take i) env (fun k q' hq' e=>by
       rw[Xs] at hq'
       split at hq'
       ·have:=D.one j k q q' s hq (by grind) hd e;omega
       grind)]
      refine M.left s (fun k q' hk hq' e=> ?_);have hjk:=D.one j k q q' s hq hq' hd e;subst hjk;rw[hq] at hq';cases hq';have:=M.down j q hk hq _ he hb
      grind
    ·rw[envAt_none (ops.toList.take i) (vs.take i) env (fun k q hq e=>by
      rw[Xs] at hq
      split at hq
      ·grind
      ·cases hq)]
     exact M.left s (fun k q _ hq e=>hex ⟨k,q,hq,e⟩)
   --how it goes on
   have cont:∀(p':Nat),p'≤m→(∀k,k<p'→(k<p∨cs k=i))→(∀k,p'≤k→k<m→(p≤k∧cs k≠i))→
     OStep P ops (ops[i]) (envAt env (ops.toList.take i) (vs.take i)) (hs p) (hs p') (vs[i]'(by omega))→
     (if Region.wanted (ops[i]) (yielded ops a.tmps) then(ops[i]).wp P a w2 (wpAny P .any ops Q fuel (listed.setIfInBounds i true)) Q∨((ops[i]).asks P a w2∧LetsOut Q) else wpAny P .any ops Q fuel (listed.setIfInBounds i true) (a.put (ops[i]).dst undef) w2):=by
    intro p' hp' hbel habv hstep;have step:=hstep X a w2 ι2 Q (wpAny P .any ops Q fuel (listed.setIfInBounds i true)) H hlook ?_
    ·grind
    ·intro ι3 w3 v H3 K3 hvv;have hset:∀k,(listed.setIfInBounds i true).getD k false=if k=i then true else listed.getD k false:=by
      intro k;simp only[Xf]
      by_cases hki:k=i
      ·grind
      grind
     refine ih _ _ _ p' ι3 (by grind) ?_ hp' (fun k hk=> ?_) (fun k hk1 hk2=> ?_) H3 (K.trans K3) ?_
     ·have:=unlisted_lt hi' hsz hul;omega
     ·rw[hset];rcases hbel k hk with h1|h1
      ·split
       ·rfl
       grind
      grind
     ·grind
     ·have hother:∀s,(ops[i]).dst≠some s→(a.put (ops[i]).dst v).tmps.getD s undef=a.tmps.getD s undef:=by
       intro s hs;cases hd:(ops[i]).dst with
       |none=>rfl
       |some d=>
        have:d≠s:=fun e=>hs (by rw[hd,e]);simp only[Act.put,Xf,Xx this]
      have hself:∀s,(ops[i]).dst=some s→(a.put (ops[i]).dst v).tmps.getD s undef=v:=by
       intro s hs;have hsN:s<N:=by have:=D.dst i _ ho;grind
       rw[hs];simp only[Act.put,Xf];rw[Xm (by rw[M.size];exact hsN)]
       rfl
      refine⟨?_, ?_, ?_, ?_, ?_⟩
      ·rw[←M.size];unfold Act.put;split<;>simp
      ·rw[put_defers];exact DR.keep K3 _ _ M.defers
      ·intro k o u s hk hok huk hd;simp only[hset] at hk
       by_cases hki:k=i
       ·grind
       ·rw[if_neg hki] at hk;rw[hother s (fun e=>hki (D.one k i o _ s hok ho hd e))];exact VR.keep K3 _ _ (M.put k o u s hk hok huk hd)
      ·intro s hs;have hne:(ops[i]).dst≠some s:=hs i _ (by grind) ho;rw[hother s hne];refine VR.keep K3 _ _ (M.left s fun k o hk hok=>hs k o ?_ hok);simp only[hset]
       split
       ·rfl
       ·exact hk
      ·intro k o hk hok e he hb';simp only[hset] at hk⊢
       by_cases hki:k=i
       ·subst hki;rw[ho] at hok;cases hok
        have:=hpred' e he hb'
        split
        ·rfl
        omega
       ·rw[if_neg hki] at hk;have:=M.down k o hk hok e he hb'
        split
        ·rfl
        omega
   by_cases hcs:∃k,k<m∧cs k=i
   ·have⟨k,hkm,hki⟩:=hcs;have h1:p≤k:=by
     grind
    have h2:k≤p:=by
     grind
    have hpk:p=k:=by omega
    subst hpk;have⟨o,v,ho2,hv2,hst⟩:=heavyOK p hkm;rw[hki,ho] at ho2;cases ho2;rw[hki,hv] at hv2;cases hv2;rw[hki] at hst;refine cont (p+1) (by omega) (fun k hk=> ?_) (fun k hk1 hk2=>⟨by omega, ?_⟩) hst
    ·grind
    grind
   ·have hcs':∀k,k<m→cs k≠i:=fun k hk e=>hcs ⟨k,hk,e⟩;rcases liteOK i _ _ ho hv hcs' p hpm with⟨k,hk,ha⟩|⟨k,hk1,hk2,ha⟩|hst
    ·exfalso
     have:=ha _ hdown (hli k hk)
     grind
    ·grind
    ·exact cont p hpm (fun k hk=>.inl hk) (fun k hk1 hk2=>⟨hk1,hcs' k hk2⟩) hst
 refine main ops.size _ a w1 0 ι (by simp) ?_ (Nat.zero_le _) (fun k hk=>by omega) (fun k _ _=> ?_) H' K' ⟨S'.size,S'.defers, ?_, ?_, ?_⟩
 ·grind
 ·simp only[Xf,Array.getElem?_replicate];split<;>rfl
 ·intro i o v s hS
  exfalso
  have:(Array.replicate ops.size false).getD i false=false:=by
   simp only[Xf,Array.getElem?_replicate];split<;>rfl
  grind
 ·exact fun s _=>S'.at_ s
 ·intro i o hS
  exfalso
  have:(Array.replicate ops.size false).getD i false=false:=by
   simp only[Xf,Array.getElem?_replicate];split<;>rfl
  grind
end
section
variable {P:Program} {N:Nat} {ops:Array Oper} {env:Env} {h:Hp} {da:DA}
def veq:Value→Value→Bool
 | .int k a,.int k' b=>decide (k=k')&&decide (a=b)
 | .bool a,.bool b=>decide (a=b)
 | .string a,.string b=>decide (a=b)
 | .slice none a b,.slice none c d=>decide (a=c)&&decide (b=d)
 | .pointer none,.pointer none=>true
 | .tuple ⟨[]⟩,.tuple ⟨[]⟩=>true
 | .func (.func f) ⟨[]⟩ ⟨[]⟩,.func (.func g) ⟨[]⟩ ⟨[]⟩=>decide (f=g)
 | .nilFunc,.nilFunc=>true
 | .nilIface,.nilIface=>true
 |_,_=>false
def veqL:List Value→List Value→Bool
 |[],[]=>true
 |a::l,b::m=>veq a b&&veqL l m
 |_,_=>false
def veqA:Value→Value→Bool
 | .agg ⟨a⟩,.agg ⟨b⟩=>veqL a b
 |a,b=>veq a b
def mpeq:List (Value×Value)→List (Value×Value)→Bool
 |[],[]=>true
 |(a,c)::l,(b,d)::m=>veqA a b&&(veqA c d&&mpeq l m)
 |_,_=>false
mutual
def ieq:IV→IV→Bool
 | .val a,.val b=>veq a b
 | .sl cs n,.sl ds m=>decide (n=m)&&ieqL cs ds
 | .mp a,.mp b=>mpeq a b
 |_,_=>false
def ieqL:List IV→List IV→Bool
 |[],[]=>true
 |c::cs,d::ds=>ieq c d&&ieqL cs ds
 |_,_=>false
end
mutual
def aveq:AV→AV→Bool
 | .any,.any=>true
 | .im a,.im b=>ieq a b
 | .agg a,.agg b=>aveqL a b
 | .tup a,.tup b=>aveqL a b
 | .ipt cs off,.ipt ds off'=>decide (off=off')&&ieqL cs ds
 | .ref r v o,.ref r' v' o'=>decide (r=r')&&(decide (v=v')&&decide (o=o'))
 | .rsl r v o n,.rsl r' v' o' n'=>decide (r=r')&&(decide (v=v')&&(decide (o=o')&&decide (n=n')))
 | .fnv f a,.fnv g b=>decide (f=g)&&aveqL a b
 |_,_=>false
def aveqL:List AV→List AV→Bool
 |[],[]=>true
 |c::cs,d::ds=>aveq c d&&aveqL cs ds
 |_,_=>false
end
def ancM (ms:List Nat):List Edge→Nat
 |[]=>0
 |e::l=>if Region.binds .any e=true then ancM ms l|||(2^e.on|||ms.getD e.on 0) else ancM ms l
def ancs:List Oper→List Nat→List Nat
 |[],ms=>ms
 |o::l,ms=>ancs l (ms++[ancM ms o.after.toList])
theorem ancM_bit{ms:List Nat}{j:Nat}:∀{l:List Edge},(ancM ms l).testBit j=true→∃e∈l,Region.binds .any e=true∧(j=e.on∨(ms.getD e.on 0).testBit j=true)
 |[],hb=>by simp[ancM] at hb
 |e::l,hb=>by
  simp only[ancM] at hb
  split at hb
  ·rename_i he;simp only[Nat.testBit_or,X02] at hb;rcases hb with hb|hb|hb
   ·have⟨e',h1,h2⟩:=ancM_bit hb
    grind
   ·grind
   simp_all
  ·have⟨e',h1,h2⟩:=ancM_bit hb
   grind
theorem ancs_bit:∀(l pre:List Oper) (ms:List Nat),ops.toList=pre++l→ms.length=pre.length→(∀i j,(ms.getD i 0).testBit j=true→Anc ops j i)→∀i j,((ancs l ms).getD i 0).testBit j=true→Anc ops j i
 |[],pre,ms,_,_,hm=>hm
 |o::l,pre,ms,he,hl,hm=>by
  unfold ancs;refine ancs_bit l (pre++[o]) _ (by simp_all) (by simp[hl]) fun i j hb=> ?_
  by_cases hi:i<ms.length
  ·grind
  ·by_cases hi2:i=ms.length
   ·subst hi2;rw[X6,X09 (Xk _)] at hb;simp only[Nat.sub_self,X18,X0p] at hb;have⟨e,h1,h2,h3⟩:=ancM_bit hb;have ho:ops[ms.length]? =some o:=by
     rw[←X1f,he,hl,X09 (Xk _)];simp
    intro S hd hS;have h4:=hd _ o hS ho e (by simp_all) h2;rcases h3 with rfl|h3
    ·exact h4
    ·exact hm _ _ h3 S hd h4
   grind
def ordB (ms:List Nat):List Nat→Bool
 |[]=>true
 |c::l=>(l.all fun d=>(ms.getD d 0).testBit c&&c !=d)&&ordB ms l
theorem ordB_sound{ms:List Nat}:∀{cl:List Nat},ordB ms cl=true→∀j k,j<k→k<cl.length→(ms.getD (cl.getD k 0) 0).testBit (cl.getD j 0)=true∧cl.getD j 0≠cl.getD k 0
 |[],_,j,k,_,hk=>by simp at hk
 |c::cl,ho,j,k,hjk,hk=>by
  simp only[ordB,X2] at ho;cases k with
  |zero=>omega
  |succ k=>
   simp at hk;cases j with
   |zero=>
    simp_all
   |succ j=>simpa using ordB_sound ho.2 j k (by omega) hk
end
section
variable {P:Program} {N:Nat} {env:Env} {h:Hp} {da:DA}
def Goes (da:DA) (P:Program) (N:Nat) (c:Code) (env:Env) (h:Hp) (x:Exit) (env':Env) (h':Hp):Prop:=
 ∀(X:Ctx) (a:Act) (w:World) (ι:Nat→Bk),Hol X h ι w→SlD da N env h ι (Own X.B h ι) a w→
  c.wp P (fun e a' w'=>e=x∧∃ι',Hol X h' ι' w'∧SlD da N env' h' ι' (Own X.B h' ι') a' w'∧Keep w h ι (Own X.B h ι) w' h' ι' (Own X.B h' ι')) a w
theorem Goes.seq{c d:Code}{x:Exit}{e1 e2:Env}{h1 h2:Hp}(hc:Goes da P N c env h .normal e1 h1)(hd:Goes da P N d e1 h1 x e2 h2):Goes da P N (.seq c d) env h x e2 h2:=by
 intro X a w ι H S;refine wp_seq (wp_mono (hc X a w ι H S) ?_);rintro e a' w' ⟨rfl,ι',H',S',K'⟩;refine wp_mono (hd X a' w' ι' H' S') ?_;rintro e a'' w'' ⟨he,ι'',H'',S'',K''⟩;exact⟨he,ι'',H'',S'',K'.trans K''⟩
theorem Goes.seqOut{c d:Code}{x:Exit}{e1:Env}{h1:Hp}(hx:x≠ .normal)(hc:Goes da P N c env h x e1 h1):Goes da P N (.seq c d) env h x e1 h1:=by
 intro X a w ι H S;refine wp_seq (wp_mono (hc X a w ι H S) ?_);rintro e a' w' ⟨rfl,hr⟩;cases e with
 |normal=>simp_all
 |_=>exact⟨rfl,hr⟩
theorem Goes.cond{c:Operand}{y z:Code}{b:Bool}{x:Exit}{e1:Env}{h1:Hp}(hc:rdo env c= .bool b)(hg:Goes da P N (bif b then y else z) env h x e1 h1):Goes da P N (.cond c y z) env h x e1 h1:=by
 intro X a w ι H S;have hv:=S.eval H.globOK c;rw[hc,Y7y] at hv;refine wp_cond_split hv (fun e=> ?_) (fun e=> ?_)
 ·subst e;exact hg X a w ι H S
 ·subst e;exact hg X a w ι H S
theorem Goes.block{id:Nat}{c:Code}{x:Exit}{e1:Env}{h1:Hp}(hc:Goes da P N c env h x e1 h1):Goes da P N (.block id c) env h (match x with| .exit j=>if j=id then .normal else .exit j|y=>y) e1 h1:=by
 intro X a w ι H S;refine wp_block (wp_mono (hc X a w ι H S) ?_);rintro e a' w' ⟨rfl,hr⟩;cases e with
 |exit j=>
  simp only[Exit.inBlock]
  simp_all
 |_=>exact⟨rfl,hr⟩
theorem Goes.scope{c:Code}{x:Exit}{e1:Env}{h1:Hp}(hx:∀l,x≠ .goto l)(hc:Goes da P N c env h x e1 h1):Goes da P N (.scope c) env h x e1 h1:=by
 intro X a w ι H S;refine wp_scope_straight (wp_mono (hc X a w ι H S) ?_);rintro e a' w' ⟨rfl,hr⟩;cases e with
 |goto l=>simp_all
 |_=>exact⟨rfl,hr⟩
def resE (P:Program) (h:Hp) (env:Env):List ResultVar→Option (List AV)
 |[]=>some []
 | .tmp t::rs=>match resE P h env rs with
  |some xs=>some (rd env t::xs)
  |none=>none
 | .cell a t::rs=>match rd env a with
  | .ref r ver off=>(match ob P h (fun _=>.ref r ver off) (.load t (.tmp 0)),resE P h env rs with
   |some [],some xs=>some (Y5u h (lz P t) (.ref r ver off)::xs)
   |_,_=>none)
  |_=>none
theorem resE_sound:∀(rs:List ResultVar) (xs:List AV),resE P h env rs=some xs→ResV P h env rs xs
 |[],xs,hr=>by simp only[resE,X0] at hr;subst hr;exact .nil
 | .tmp t::rs,xs,hr=>by
  simp only[resE] at hr
  split at hr
  ·rename_i ys h1;simp only[X0] at hr;subst hr;exact .tmp (resE_sound rs ys h1)
  ·cases hr
 | .cell a t::rs,xs,hr=>by
  simp only[resE] at hr
  split at hr
  ·rename_i r ver off h0
   split at hr
   ·rename_i ys h1 h2;simp only[X0] at hr;subst hr;exact .cell h0 h1 (resE_sound rs ys h2)
   ·cases hr
  ·cases hr
end
end Go.Abs
