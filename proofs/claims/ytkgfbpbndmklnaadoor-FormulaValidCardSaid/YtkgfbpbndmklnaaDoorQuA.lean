/- Own work. -/
import Derived.Test.YtkgfbpbndmklnaaDoorFmX
import Derived.Test.YtkgfbpbndmklnaaDoorPrB
import Derived.Test.YtkgfbpbndmklnaaDoorPrP
set_option linter.unusedSimpArgs false
set_option linter.unusedVariables false
namespace Go.Proofs.YtkgfbpbndmklnaaDoor
open Go.Abs
def Ys (t:ByteArray) (i:Int):Int:=if i<(t.size:Nat) then Y45 t i else 0
inductive Lf (α:Type) where
 |ok (a:α) (j:Int)
 |bad (j:Int)
def Lf.bind {α β:Type}:Lf α→(α→Int→Lf β)→Lf β
 | .ok a j,k=>k a j
 | .bad j,_=>.bad j
def dg (t:ByteArray):Nat→Int→Int→Int→Int×Int×Int
 |0,n,d,i=>(n,d,i)
 |k+1,n,d,i=>if Ys t i<48∨57<Ys t i∨(0<d∧n=0) then(n,d,i) else dg t k (10*n+(Ys t i-48)) (d+1) (i+1)
def qNum (t:ByteArray) (i:Int):Lf Tr:=if(dg t 5 0 0 i).2.1=0 then .bad (dg t 5 0 0 i).2.2 else .ok (.node ⟨0,(dg t 5 0 0 i).1⟩ []) (dg t 5 0 0 i).2.2
def qWant (t:ByteArray) (b i:Int):Lf Unit:=if Ys t i=b then .ok () (i+1) else .bad i
def qSumL (t:ByteArray):Nat→List Tr→Int→Lf (List Tr)
 |0,l,i=>.ok l i
 |k+1,l,i=>if Ys t i=44 then(qNum t (i+1)).bind fun x j=>qSumL t k (l++[x]) j else .ok l i
def qSumR (t:ByteArray) (l:List Tr) (i:Int):Lf Tr:=
 if l.length<2 then .bad i else(qWant t 59 i).bind fun _ j=>(qNum t j).bind fun x j=>(qWant t 41 j).bind fun _ j=>.ok (.node ⟨12,(l.length:Nat)⟩ (l++[x])) j
def qSum (t:ByteArray) (i:Int):Lf Tr:=(qNum t i).bind fun x j=>(qSumL t 4 [x] j).bind fun l j=>qSumR t l j
def qName (t n:ByteArray):Nat→Int→Lf Unit
 |0,i=>.ok () i
 |k+1,i=>(qWant t (Y45 n ((n.size-(k+1):Nat):Int)) i).bind fun _ j=>qName t n k j
def qWordL (t:ByteArray):List Int→Int→Lf Int
 |[],i=>.ok 1 (i+1)
 |op::l,i=>if Ys t i=Y45 (Y2a op) 0∧i+1<(t.size:Nat)∧Y45 t (i+1)=Y45 (Y2a op) 1 then(qName t (Y2a op) (Y2a op).size i).bind fun _ j=>(qWant t 40 j).bind fun _ j=>.ok op j else qWordL t l i
def qWord (t:ByteArray) (i:Int):Lf Int:=qWordL t opsW i
structure Qf where
 op:Int
 ops:List Tr
 ts:List Tr
 ss:List Int
 cols:Int
 rows:Int
 ents:Int
structure Qs where
 at_:Int
 F:List Qf
 f:Qf
inductive QR where
 |bad (j:Int)
 |go (y:Int) (q:Qs)
def noTr:Tr:=.node ⟨0,0⟩ []
def mkB (o:Int):List Tr→List Tr
 |x2::x1::ts=>.node ⟨o,0⟩ [x1,x2]::ts
 |ts=>ts
def qJ (m:Int):List Int→List Tr→List Tr×List Int
 |[],ts=>(ts,[])
 |o::ss,ts=>if m≤prec o then qJ m ss (mkB o ts) else(ts,o::ss)
def qTerm (x:Tr) (j:Int) (q:Qs):Qs:=⟨j,q.F,{q.f with ts:=x::q.f.ts}⟩
def qPush (op j:Int) (q:Qs):Qs:=⟨j,q.f::q.F,⟨op,[],[],[],0,0,0⟩⟩
def qLf (q:Qs):Lf Tr→QR
 | .bad j=>.bad j
 | .ok x j=>.go 1 (qTerm x j q)
def qOp (t:ByteArray) (q:Qs):Lf Int→QR
 | .bad j=>.bad j
 | .ok op j=>if op=1 then .go 1 (qTerm (.node ⟨1,Ys t q.at_-97⟩ []) j q) else if op=12 then qLf q (qSum t j) else .go 0 (qPush op j q)
def qBegin (t:ByteArray) (q:Qs):QR:=
 if 48≤Ys t q.at_∧Ys t q.at_≤57 then qLf q (qNum t q.at_)
 else if Ys t q.at_=40 then .go 0 (qPush 10 (q.at_+1) q)
 else if 97≤Ys t q.at_∧Ys t q.at_≤122 then qOp t q (qWord t q.at_)
 else .bad q.at_
def opOf (b:Int):Option Int:=if b=43 then some 2 else if b=45 then some 3 else if b=42 then some 4 else if b=61 then some 5 else none
def qSign (op:Int) (q:Qs):Qs:=⟨q.at_+1,q.F,{q.f with ts:=(qJ (prec op) q.f.ss q.f.ts).1,ss:=op::(qJ (prec op) q.f.ss q.f.ts).2}⟩
def qOpI (q:Qs):Tr:=(qJ 0 q.f.ss q.f.ts).1.headD noTr
def qOpd (q:Qs):Qs:=⟨q.at_+1,q.F,{q.f with ops:=q.f.ops++[qOpI q],ts:=[],ss:=[]}⟩
def qClose (op n:Int) (q:Qs):Qs:=
 match q.F with
 |[]=>q
 |f::F=>⟨q.at_,F,{f with ts:=.node ⟨op,n⟩ q.f.ops::f.ts}⟩
def qFin (c:Int) (q:Qs):QR:=if c=41 then .go 1 (qClose 13 (8*q.f.rows+q.f.cols) (qOpd q)) else .go 0 (qOpd q)
def qMatrix (t:ByteArray) (q:Qs):QR:=
 if Ys t q.at_=44∧q.f.ents+1<(if q.f.cols=0 then 4 else q.f.cols) then qFin (Ys t q.at_) {q with f:={q.f with ents:=q.f.ents+1}}
 else if(Ys t q.at_=59∧(q.f.cols=0∨q.f.ents+1=q.f.cols)∧q.f.rows+1<4)∨(Ys t q.at_=41∧(q.f.cols=0∨q.f.ents+1=q.f.cols)) then qFin (Ys t q.at_) {q with f:={q.f with cols:=q.f.ents+1,ents:=0,rows:=q.f.rows+1}}
 else .bad q.at_
def qRest (t:ByteArray) (q:Qs):QR:=
 if q.f.op= -1 then(if q.at_<(t.size:Nat) then .bad q.at_ else .go 2 q)
 else if q.f.op=13 then qMatrix t q
 else if((q.f.ops.length:Nat):Int)+1<pNeed q.f.op then(if Ys t q.at_=44 then .go 0 (qOpd q) else .bad q.at_)
 else(if Ys t q.at_=41 then .go 1 (qClose q.f.op 0 (qOpd q)) else .bad q.at_)
def qFollow (t:ByteArray) (q:Qs):QR:=
 match opOf (Ys t q.at_) with
 |some o=>.go 0 (qSign o q)
 |none=>qRest t q
inductive Fin' where
 |bad (j:Int)
 |ok (x:Tr)
inductive Gs (t:ByteArray):Int→Qs→Fin'→Prop where
 |b0 {q:Qs} {j:Int}:qBegin t q= .bad j→Gs t 0 q (.bad j)
 |b1 {q q':Qs} {y:Int} {r:Fin'}:qBegin t q= .go y q'→Gs t y q' r→Gs t 0 q r
 |f0 {q:Qs} {j:Int}:qFollow t q= .bad j→Gs t 1 q (.bad j)
 |f1 {q q':Qs} {y:Int} {r:Fin'}:qFollow t q= .go y q'→Gs t y q' r→Gs t 1 q r
 |e {q:Qs}:q.F=[]→q.f.ops=[]→Gs t 2 q (.ok (qOpI q))
inductive Rr where
 |ok (l:List Tr) (j:Int)
 |err (j:Int)
 |out
def Rr.bind:Rr→(List Tr→Int→Rr)→Rr
 | .ok l j,k=>k l j
 | .err j,_=>.err j
 | .out,_=>.out
inductive Tk where
 |E (p i:Int)
 |L (p:Int) (l:List Tr) (j:Int)
 |A (i:Int)
 |M (l:List Tr) (c r e j:Int)
def ofLf:Lf Tr→Rr
 | .ok x j=>.ok [x] j
 | .bad j=>.err j
def Y4f (t:ByteArray) (op:Int) (l:List Tr) (j:Int):Rr:=if Ys t j=41 then .ok [.node ⟨op,0⟩ l] (j+1) else .err j
def rd (t:ByteArray):Nat→Tk→Rr
 |0,_=>.out
 |k+1,.E p i=>(rd t k (.A i)).bind fun l j=>rd t k (.L p l j)
 |k+1,.L p l j=>
  match opOf (Ys t j) with
  |some o=>if p≤prec o then(rd t k (.E (prec o+1) (j+1))).bind fun l2 j2=>rd t k (.L p [.node ⟨o,0⟩ (l++l2)] j2) else .ok l j
  |none=>.ok l j
 |k+1,.A i=>
  if 48≤Ys t i∧Ys t i≤57 then ofLf (qNum t i)
  else if Ys t i=40 then(rd t k (.E 1 (i+1))).bind fun l j=>Y4f t 10 l j
  else if 97≤Ys t i∧Ys t i≤122 then
   match qWord t i with
   | .bad j=>.err j
   | .ok op j=>
    if op=1 then .ok [.node ⟨1,Ys t i-97⟩ []] j else if op=12 then ofLf (qSum t j)
    else(rd t k (.E 1 j)).bind fun l j=>
     if op=13 then rd t k (.M l 0 0 0 j)
     else if pNeed op=2 then(if Ys t j=44 then(rd t k (.E 1 (j+1))).bind fun l2 j=>Y4f t op (l++l2) j else .err j)
     else Y4f t op l j
  else .err i
 |k+1,.M l c r e j=>
  if Ys t j=44∧e+1<(if c=0 then 4 else c) then(rd t k (.E 1 (j+1))).bind fun l2 j=>rd t k (.M (l++l2) c r (e+1) j)
  else if Ys t j=59∧(c=0∨e+1=c)∧r+1<4 then(rd t k (.E 1 (j+1))).bind fun l2 j=>rd t k (.M (l++l2) (e+1) (r+1) 0 j)
  else if Ys t j=41∧(c=0∨e+1=c) then .ok [.node ⟨13,8*(r+1)+(e+1)⟩ l] (j+1)
  else .err j
def HD (ss:List Int) (p:Int):Prop:=∀o,ss.head? =some o→prec o<p
def OkE (t:ByteArray) (p:Int) (q:Qs) (ts:List Tr) (ss:List Int) (y:Int):Rr→Prop
 | .out=>True
 | .err n=>Gs t y q (.bad n)
 | .ok l j=>∃x,l=[x]∧∀r,(∀us rs,qJ p rs us=(x::ts,ss)→Gs t 1 ⟨j,q.F,{q.f with ts:=us,ss:=rs}⟩ r)→Gs t y q r
def OkA (t:ByteArray) (q q':Qs) (y:Int):Rr→Prop
 | .out=>True
 | .err n=>Gs t y q (.bad n)
 | .ok l j=>∃x,l=[x]∧∀r,Gs t 1 (qTerm x j q') r→Gs t y q r
structure Spec (t:ByteArray) (k:Nat):Prop where
 e:∀(p:Int) (q:Qs),1≤p→HD q.f.ss p→p≤4→OkE t p q q.f.ts q.f.ss 0 (rd t k (.E p q.at_))
 l:∀(p q0:Int) (x:Tr) (q:Qs) (ts:List Tr) (ss:List Int),1≤p→HD ss p→p≤q0→(∀m,p≤m→m≤q0→qJ m q.f.ss q.f.ts=(x::ts,ss))→(∀o,opOf (Ys t q.at_)=some o→prec o≤q0)→OkE t p q ts ss 1 (rd t k (.L p [x] q.at_))
 a:∀q:Qs,OkA t q q 0 (rd t k (.A q.at_))
 m:∀(q:Qs) (x:Tr) (f:Qf) (F:List Qf),q.f.op=13→q.F=f::F→qJ 0 q.f.ss q.f.ts=([x],[])→opOf (Ys t q.at_)=none→OkA t q ⟨0,F,f⟩ 1 (rd t k (.M (q.f.ops++[x]) q.f.cols q.f.rows q.f.ents q.at_))
theorem OkA.pre{t:ByteArray}{q q1 q':Qs}{y y1:Int}(h:∀r,Gs t y1 q1 r→Gs t y q r):∀{R:Rr},OkA t q1 q' y1 R→OkA t q q' y R
 | .out,_=>trivial
 | .err _,a=>h _ a
 | .ok _ _,a=>by
  obtain⟨x,e,c⟩:=a;exact⟨x,e,fun r hr=>h r (c r hr)⟩
def q0:Qs:=⟨0,[],⟨-1,[],[],[],0,0,0⟩⟩
def trT (T:List Tn):Nat→Int→Tr
 |0,_=>noTr
 |k+1,i=>.node ⟨(T.getD i.toNat noT).op,(T.getD i.toNat noT).n⟩ ((T.getD i.toNat noT).ops.map (trT T k))
def tr (T:List Tn) (i:Int):Tr:=trT T (i.toNat+1) i
theorem trT_eq{T:List Tn}(hT:OkT T):∀(k k':Nat) (i:Int),0≤i→i<(T.length:Nat)→i<(k:Nat)→i<(k':Nat)→trT T k i=trT T k' i
 |0,_,i,h0,_,hk,_=>by omega
 |_+1,0,i,h0,_,_,hk=>by omega
 |k+1,k'+1,i,h0,h1,hk,hk'=>by
  rw[trT,trT];congr 1;refine X04 fun o ho=> ?_;have:=hT.ops ⟨h0,h1⟩ o ho;exact trT_eq hT k k' o (by omega) (by omega) (by push_cast at hk;omega) (by push_cast at hk';omega)
theorem tr_step{T:List Tn}(hT:OkT T){i:Int}(h:0≤i∧i<(T.length:Nat)):tr T i= .node ⟨(T.getD i.toNat noT).op,(T.getD i.toNat noT).n⟩ ((T.getD i.toNat noT).ops.map (tr T)):=by
 rw[tr,trT];congr 1;refine X04 fun o ho=> ?_;have:=hT.ops h o ho;exact trT_eq hT _ _ o (by omega) (by omega) (by omega) (by omega)
theorem trT_app{T T':List Tn}(hT:OkT T):∀(k:Nat) (i:Int),0≤i→i<(T.length:Nat)→trT (T++T') k i=trT T k i
 |0,i,h0,h1=>rfl
 |k+1,i,h0,h1=>by
  rw[trT,trT,getD_app ⟨h0,h1⟩];congr 1;refine X04 fun o ho=> ?_;have:=hT.ops ⟨h0,h1⟩ o ho;exact trT_app hT k o (by omega) (by omega)
theorem tr_app{T T':List Tn}(hT:OkT T){i:Int}(h:0≤i∧i<(T.length:Nat)):tr (T++T') i=tr T i:=trT_app hT _ i h.1 h.2
theorem trs_app{T T':List Tn}(hT:OkT T){l:List Int}(h:Val T l):l.map (tr (T++T'))=l.map (tr T):=X04 fun i hi=>tr_app hT (h i hi)
theorem new_at{T:List Tn}(t:Tn):(T++[t]).getD ((T.length:Nat):Int).toNat noT=t:=by
 rw[Xc,show(((T.length:Nat):Int)).toNat=T.length by omega,X0b (Xk _)];simp
theorem tr_new{T:List Tn}(hT:OkT T){op n:Int}{l:List Int}(hv:Val T l):tr (T++[⟨op,n,l,depOf T l⟩]) ((T.length:Nat):Int)= .node ⟨op,n⟩ (l.map (tr T)):=by
 rw[tr_step (okT_add hT hv) ⟨by omega,by simp;omega⟩,new_at];simp only;rw[trs_app hT hv]
def DepOk (T:List Tn):Prop:=∀i:Int,0≤i→i<(T.length:Nat)→(T.getD i.toNat noT).dep=(tr T i).dep
theorem depOf_tr{T:List Tn}(hd:DepOk T):∀(l:List Int) (d:Int),Val T l→l.foldl (depS T) d=depL d (l.map (tr T))
 |[],d,_=>rfl
 |i::l,d,h=>by
  have:=h i (by simp);rw[List.foldl_cons,Xt,depL,depOf_tr hd l _ fun j hj=>h j (by simp[hj]),depS,hd i this.1 this.2]
theorem DepOk.add{T:List Tn}(hT:OkT T)(hd:DepOk T){op n:Int}{l:List Int}(hv:Val T l):DepOk (T++[⟨op,n,l,depOf T l⟩]):=fun i h0 h1=>by
 by_cases hi:i<(T.length:Nat)
 ·rw[getD_app ⟨h0,hi⟩,tr_app hT ⟨h0,hi⟩];exact hd i h0 hi
 ·have:i=((T.length:Nat):Int):=by simp at h1;omega
  subst this;rw[new_at,tr_new hT hv,Tr.dep];exact depOf_tr hd l 1 hv
def alf (T:List Tn) (f:Fr):Qf:=⟨f.op,f.ops.map (tr T),(f.terms.map (tr T)).reverse,f.signs.reverse,f.cols,f.rows,f.ents⟩
theorem alf_app{T T':List Tn}(hT:OkT T){f:Fr}(h1:Val T f.terms)(h2:Val T f.ops):alf (T++T') f=alf T f:=by rw[alf,alf,trs_app hT h1,trs_app hT h2]
structure Sim (s:Ps) (q:Qs):Prop where
 dep:DepOk s.T
 at_:q.at_=s.at_
 F:q.F=(s.F.map (alf s.T)).reverse
 f:q.f=alf s.T s.f
section
variable {t:ByteArray} {s s':Ps} {q:Qs} {r:Int} {d:Nat}
theorem fs_app{T:List Tn}(v:VS s):(s.F.map (alf (s.T++T))).reverse=(s.F.map (alf s.T)).reverse:=by
 rw[X04 fun f hf=>alf_app v.okT (v.vF f hf).1 (v.vF f hf).2]
theorem Sim.ext{c:Int}(S:Sim s q)(v:VS s)(e:Ext s s' c)(hd:DepOk s'.T):Sim s' ⟨s'.at_,q.F,q.f⟩:=by
 obtain⟨T,hT,_⟩:=e.T;refine⟨hd,rfl, ?_, ?_⟩
 ·rw[e.F,hT,fs_app v];exact S.F
 ·rw[e.f,hT,alf_app v.okT v.vf.1 v.vf.2];exact S.f
theorem Sim.term(S:Sim s q){i:Int}{x:Tr}(hx:tr s.T i=x):Sim (pTerm i s) (qTerm x q.at_ q):=by
 refine⟨S.dep,S.at_,S.F, ?_⟩;rw[qTerm,pTerm,S.f];simp only[alf,X0k,Xt,X0t,List.reverse_append,X1m,List.reverse_nil,X0j,List.singleton_append,hx]
theorem Sim.push(S:Sim s q)(op:Int):Sim (pPush op s) (qPush op q.at_ q):=by
 refine⟨S.dep,S.at_, ?_,rfl⟩;rw[qPush,pPush,S.f,S.F];simp
theorem jStep_eq(I:InvJ s)(h0:0<s.f.signs.length):∃A x1 x2 B op,s.f.terms=A++[x1,x2]∧s.f.signs=B++[op]∧s.f.signs.getD (s.f.signs.length-1) 0=op∧Val s.T [x1,x2]∧
  jStep s={s with T:=s.T++[⟨op,0,[x1,x2],depOf s.T [x1,x2]⟩],f:={s.f with signs:=B,terms:=A++[(s.T.length:Int)]}}:=by
 have hl:=I.len;have e2:s.f.terms=s.f.terms.take (s.f.terms.length-2)++[s.f.terms.getD (s.f.terms.length-2) 0,s.f.terms.getD (s.f.terms.length-1) 0]:=by
  have:=list_last2 (l:=s.f.terms) (n:=s.f.terms.length-2) (by omega);rwa[show s.f.terms.length-2+1=s.f.terms.length-1 by omega] at this
 have e3:s.f.signs=s.f.signs.take (s.f.terms.length-2)++[s.f.signs.getD (s.f.terms.length-2) 0]:=by
  conv=>lhs;rw[←X0i (s.f.terms.length-2) s.f.signs]
  congr 1;rw[X0u (by omega),List.drop_of_length_le (by omega),Xc,X2 (by omega)]
  rfl
 exact⟨_,_,_,_,_,e2,e3,by rw[show s.f.signs.length-1=s.f.terms.length-2 by omega],I.val2 h0,rfl⟩
theorem sim_join(m:Int):∀(k:Nat) (s:Ps),VS s→InvJ s→k=s.f.signs.length→DepOk s.T→DepOk (Y13 m k s).T∧
  alf (Y13 m k s).T (Y13 m k s).f={alf s.T s.f with ts:=(qJ m (alf s.T s.f).ss (alf s.T s.f).ts).1,ss:=(qJ m (alf s.T s.f).ss (alf s.T s.f).ts).2}
 |0,s,v,I,hk,hd=>by
  have:s.f.signs=[]:=X0x.1 hk.symm;refine⟨hd, ?_⟩;simp[Y13,alf,this,qJ]
 |k+1,s,v,I,hk,hd=>by
  obtain⟨A,x1,x2,B,op,e1,e2,e3,hv,e4⟩:=jStep_eq I (by omega);have eq:(alf s.T s.f).ss=op::B.reverse:=by simp[alf,e2]
  have eq2:(alf s.T s.f).ts=tr s.T x2::tr s.T x1::(A.map (tr s.T)).reverse:=by simp[alf,e1]
  rw[Y13,e3,eq,eq2,qJ,mkB]
  by_cases hp:m≤prec op
  ·rw[if_pos ⟨by omega,hp⟩,if_pos hp];obtain⟨h1,h2⟩:=I.step (by omega);have hT:(jStep s).T=s.T++[⟨op,0,[x1,x2],depOf s.T [x1,x2]⟩]:=by rw[e4]
   obtain⟨a,b⟩:=sim_join m k (jStep s) (v.step I (by omega)) h1 (by omega) (by rw[hT];exact hd.add v.okT hv);refine⟨a, ?_⟩;have vA:Val s.T A:=fun i hi=>v.vf.1 i (by rw[e1];simp[hi]);have ef:alf (jStep s).T (jStep s).f={alf s.T s.f with ts:=.node ⟨op,0⟩ [tr s.T x1,tr s.T x2]::(A.map (tr s.T)).reverse,ss:=B.reverse}:=by
    rw[e4];simp only[alf,X0k,Xt,X0t,List.reverse_append,X1m,List.reverse_nil,X0j,List.singleton_append];rw[trs_app v.okT v.vf.2,trs_app v.okT vA,tr_new v.okT hv]
    rfl
   rw[b,ef]
  ·rw[if_neg (fun h=>hp h.2),if_neg hp];refine⟨hd, ?_⟩;rw[←eq, ←eq2]
theorem join_F(m:Int)(k:Nat)(v:VS s)(I:InvJ s)(hk:k=s.f.signs.length):((Y13 m k s).F.map (alf (Y13 m k s).T)).reverse=(s.F.map (alf s.T)).reverse:=by
 obtain⟨T,hT⟩:=(pJoin_f m k s).2;rw[(Y3a m k s I hk).2.1,hT,fs_app v]
theorem Sim.sign(S:Sim s q)(w:W t s 1 r)(op:Int):Sim (pSign op s) (qSign op q):=by
 have v:VS {s with at_:=s.at_+1}:=⟨w.vs.okT,w.vs.vF,w.vs.vf⟩;have I:InvJ {s with at_:=s.at_+1}:=⟨w.invJ.okT,w.invJ.val,w.invJ.len,w.invJ.bT,w.invJ.bF⟩;obtain⟨a,b⟩:=sim_join (prec op) _ {s with at_:=s.at_+1} v I rfl S.dep;have c:=join_F (prec op) _ v I rfl;refine⟨a, ?_, ?_, ?_⟩
 ·show q.at_+1=(Y13 _ _ _).at_;rw[(Y3a _ _ _ I rfl).2.2.1,S.at_]
 ·show q.F=((Y13 _ _ _).F.map (alf (Y13 _ _ _).T)).reverse;rw[c];exact S.F
 ·show {q.f with ts:=(qJ (prec op) q.f.ss q.f.ts).1,ss:=op::(qJ (prec op) q.f.ss q.f.ts).2}=alf (Y13 (prec op) s.f.signs.length {s with at_:=s.at_+1}).T {(Y13 (prec op) s.f.signs.length {s with at_:=s.at_+1}).f with signs:=(Y13 (prec op) s.f.signs.length {s with at_:=s.at_+1}).f.signs++[op]};have e:∀(T:List Tn) (f:Fr),alf T {f with signs:=f.signs++[op]}={alf T f with ss:=op::(alf T f).ss}:=fun T f=>by simp[alf]
  rw[e,b,S.f]
theorem opd_one(w:W t s 1 r):(Y13 0 s.f.signs.length s).f.terms=[Y1d s]∧(Y13 0 s.f.signs.length s).f.signs=[]:=by
 have p1:=pJoin_all _ _ w.invJ rfl;obtain⟨b1,_⟩:=Y3a 0 _ _ w.invJ rfl;have hl:=b1.len;refine⟨?_,X0x.1 p1⟩;unfold Y1d;generalize (Y13 0 s.f.signs.length s).f.terms=l at hl;cases l with
 |nil=>simp at hl
 |cons a l=>
  cases l with
  |nil=>rfl
  |cons b l=>rw[p1] at hl;simp at hl
theorem sim_opI(S:Sim s q)(w:W t s 1 r):qOpI q=tr (Y13 0 s.f.signs.length s).T (Y1d s):=by
 obtain⟨a,b⟩:=sim_join 0 _ s w.vs w.invJ rfl S.dep;have h1:=(opd_one w).1;have:(alf (Y13 0 s.f.signs.length s).T (Y13 0 s.f.signs.length s).f).ts=[tr (Y13 0 s.f.signs.length s).T (Y1d s)]:=by simp[alf,h1]
 rw[b] at this;rw[qOpI,S.f];simp only at this;rw[this]
 rfl
theorem Sim.opd(S:Sim s q)(w:W t s 1 r)(hw:s.at_<(t.size:Nat)):Sim (pOpd {s with at_:=s.at_+1}) (qOpd q):=by
 have w1:W t {s with at_:=s.at_+1} 1 r:=w.adv (by omega) (by omega);have S1:Sim {s with at_:=s.at_+1} ⟨q.at_+1,q.F,q.f⟩:=⟨S.dep,by rw[S.at_],S.F,S.f⟩;have v:=w1.vs;obtain⟨a,b⟩:=sim_join 0 _ {s with at_:=s.at_+1} v w1.invJ rfl S.dep;have c:=join_F 0 _ v w1.invJ rfl;have h1:=opd_one w1;have e:=sim_opI S1 w1;have jf:=pJoin_f 0 s.f.signs.length {s with at_:=s.at_+1};refine⟨a, ?_, ?_, ?_⟩
 ·show q.at_+1=(Y13 _ _ _).at_;rw[(Y3a _ _ _ w1.invJ rfl).2.2.1,S.at_]
 ·show q.F=((Y13 _ _ _).F.map (alf (Y13 _ _ _).T)).reverse;rw[c];exact S.F
 ·show {q.f with ops:=q.f.ops++[qOpI q],ts:=[],ss:=[]}=alf (Y13 0 s.f.signs.length {s with at_:=s.at_+1}).T {(Y13 0 s.f.signs.length {s with at_:=s.at_+1}).f with terms:=[],ops:=(Y13 0 s.f.signs.length {s with at_:=s.at_+1}).f.ops++[Y1d {s with at_:=s.at_+1}]};rw[show qOpI q=_ from e];have e2:∀(T:List Tn) (f:Fr) (i:Int),f.signs=[]→alf T {f with terms:=[],ops:=f.ops++[i]}={alf T f with ops:=(alf T f).ops++[tr T i],ts:=[],ss:=[]}:=fun T f i hf=>by simp[alf,hf]
  rw[e2 _ _ _ h1.2,b,S.f]
theorem Sim.close(S:Sim s q)(v:VS s)(hF:s.F≠[])(op n:Int):Sim (pClose op n s) (qClose op n q):=by
 obtain⟨F',f',hF⟩:=last_split hF;have hd:=S.dep.add v.okT (op:=op) (n:=n) v.vf.2;have vF:∀f∈F',Val s.T f.terms∧Val s.T f.ops:=fun f hf=>v.vF f (by rw[hF];simp[hf]);have vf:=v.vF f' (by rw[hF];simp);have qF:q.F=alf s.T f'::(F'.map (alf s.T)).reverse:=by rw[S.F,hF];simp
 rw[qClose,qF];simp only;refine⟨hd,S.at_, ?_, ?_⟩
 ·show(F'.map (alf s.T)).reverse=(s.F.dropLast.map (alf (s.T++[_]))).reverse;rw[hF,List.dropLast_concat,X04 fun f hf=>alf_app v.okT (vF f hf).1 (vF f hf).2]
 ·show _=alf (s.T++[_]) {(s.F.getLast?.getD s.f) with terms:=(s.F.getLast?.getD s.f).terms++[((s.T.length:Nat):Int)]};have e:s.F.getLast?.getD s.f=f':=by rw[hF];simp
  rw[e];simp only[alf,X0k,Xt,X0t,List.reverse_append,X1m,List.reverse_nil,X0j,List.singleton_append];rw[trs_app v.okT vf.1,trs_app v.okT vf.2,tr_new v.okT v.vf.2,S.f]
  rfl
end
section
variable {t:ByteArray} {s s':Ps} {q:Qs} {r:Int} {d:Nat}
def SimLs (s:Ps):Lf (List Tr)→Res (List Int)→Prop
 | .bad j,.bad s'=>s'.at_=j
 | .ok x j,.ok s' l=>s'.at_=j∧Ext s s' 1000∧DepOk s'.T∧l.map (tr s'.T)=x∧Val s'.T l
 |_,_=>False
theorem SimLs.pre{s s1:Ps}{c:Int}(e:Ext s s1 c)(hc:∀s2,Ext s1 s2 1000→Ext s s2 1000):∀{x:Lf (List Tr)} {y:Res (List Int)},SimLs s1 x y→SimLs s x y
 | .bad _,.bad _,h=>h
 | .ok _ _,.ok _ _,⟨a,b,c⟩=>⟨a,hc _ b,c⟩
def SimN (c:Int) (s:Ps):Lf (List Tr)→Res (List Int)→Prop
 | .bad j,.bad s'=>s'.at_=j
 | .ok x j,.ok s' l=>s'.at_=j∧Ext s s' c∧DepOk s'.T∧l.map (tr s'.T)=x∧Val s'.T l
 |_,_=>False
theorem SimN.up{s s1:Ps}{c d e:Int}(h:Ext s s1 c)(he:c+d≤e):∀{x:Lf (List Tr)} {y:Res (List Int)},SimN d s1 x y→SimN e s x y
 | .bad _,.bad _,g=>g
 | .ok _ _,.ok _ _,⟨a,b,g⟩=>⟨a,(h.trans b).mono he,g⟩
def SimM (c:Int) (s:Ps):Lf Tr→Res Int→Prop
 | .bad j,.bad s'=>s'.at_=j
 | .ok x j,.ok s' i=>s'.at_=j∧Ext s s' c∧DepOk s'.T∧tr s'.T i=x∧0≤i∧i<(s'.T.length:Nat)
 |_,_=>False
theorem SimM.trans{s s1:Ps}{c d:Int}(e:Ext s s1 c):∀{x:Lf Tr} {y:Res Int},SimM d s1 x y→SimM (c+d) s x y
 | .bad _,.bad _,h=>h
 | .ok _ _,.ok _ _,⟨a,b,h⟩=>⟨a,e.trans b,h⟩
theorem SimM.mono{s:Ps}{c d:Int}(h:c≤d):∀{x:Lf Tr} {y:Res Int},SimM c s x y→SimM d s x y
 | .bad _,.bad _,g=>g
 | .ok _ _,.ok _ _,⟨a,b,g⟩=>⟨a,b.mono h,g⟩
end
section
variable {t:ByteArray} {s s':Ps} {q:Qs} {r:Int} {d:Nat}
theorem Tot.push(h:Tot s 0)(op n:Int):Tot (pPush op {s with at_:=n}) 0:=by
 unfold Tot at h⊢;simp only[pPush,tt_app];simp only[tf,szl_nil] at h⊢;omega
end
end Go.Proofs.YtkgfbpbndmklnaaDoor
