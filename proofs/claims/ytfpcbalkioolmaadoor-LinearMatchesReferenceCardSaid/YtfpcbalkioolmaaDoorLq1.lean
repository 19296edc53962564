/- Own work. -/
import Derived.Test.YtfpcbalkioolmaaDoorFmY
set_option linter.unusedSimpArgs false
set_option linter.unusedVariables false
namespace Go.Proofs.YtfpcbalkioolmaaDoor
open Go.Abs
structure Cu where
 at_:Int
 wr:Bool
structure Qf where
 op:Int
 ops:List Tr
 ts:List Tr
 ss:List Int
 cols:Int
 rows:Int
 ents:Int
structure Qs where
 c:Cu
 F:List Qf
 f:Qf
 lv:List Int
 base:Int
 dn:Bool
def cAt (t:List Int) (i:Int):Int:=t.getD i.toNat 0
def hit (t:List Int) (c:Int) (u:Cu):Bool:= !u.wr&&(decide (u.at_<(t.length:Nat))&&(cAt t u.at_==c))
def Cu.adv (u:Cu):Cu:=⟨u.at_+1,u.wr⟩
def Cu.bad (u:Cu):Cu:=⟨u.at_,true⟩
def nxt (t:List Int) (c:Int) (u:Cu):Cu:=if hit t c u=true then u.adv else u
def xpc (t:List Int):List Int→Cu→Cu
 |[],u=>u
 |c::l,u=>xpc t l (if hit t c u=true then u.adv else u.bad)
def lfind (c:Int):List Int→Int→Int
 |[],_=> -1
 |x::l,i=>if x=c then i else lfind c l (i+1)
def chrI (t:List Int) (n:Nat) (u:Cu):Int:=if u.wr=true∨(t.length:Int)≤u.at_ then-1 else lfind (cAt t u.at_) (Y8.take n) 0
def chrU (t:List Int) (n:Nat) (u:Cu):Cu:=if chrI t n u<0 then u else u.adv
def dgs (t:List Int):Nat→Int→Int→Cu→Int×Int×Cu
 |0,n,d,u=>(n,d,u)
 |k+1,n,d,u=>if d=0∨0<n then(if chrI t 10 u<0 then(n,d,u) else dgs t k (10*n+(chrI t 10 u+1)%10) (d+1) u.adv) else(n,d,u)
def numN (t:List Int) (u:Cu):Int:=(dgs t 5 0 0 u).1
def numU (t:List Int) (u:Cu):Cu:=if(dgs t 5 0 0 u).2.1=0 then(dgs t 5 0 0 u).2.2.bad else(dgs t 5 0 0 u).2.2
def numT (n:Int):Tr:=.node ⟨0,n⟩ []
def sumL (t:List Int):Nat→List Int→Cu→List Int×Cu
 |0,l,u=>(l,u)
 |k+1,l,u=>if hit t 32 u=true then sumL t k (l++[numN t (xpc t [60] u.adv)]) (numU t (xpc t [60] u.adv)) else(l,u)
def sumA (t:List Int) (u:Cu):List Int×Cu:=sumL t 4 [numN t (xpc t [60] u)] (numU t (xpc t [60] u))
def sumV (t:List Int) (u:Cu):Cu:=xpc t [51,60] (if(sumA t u).1.length<2 then(sumA t u).2.bad else(sumA t u).2)
def sumT (t:List Int) (u:Cu):Tr:=.node ⟨12,((sumA t u).1.length:Nat)⟩ (((sumA t u).1++[numN t (sumV t u)]).map numT)
def sumU (t:List Int) (u:Cu):Cu:=xpc t [34] (numU t (sumV t u))
def noTr:Tr:=.node ⟨0,0⟩ []
def opn:Tr→Int
 | .node n _=>n.Op
def Y2k (o:Int):Int:=if o=5 then 1 else if o=4 then 3 else 2
def mkB (o:Int):List Tr→List Tr
 |x2::x1::ts=>.node ⟨o,0⟩ [x1,x2]::ts
 |ts=>ts
def qJ (m:Int):List Int→List Tr→List Tr×List Int
 |[],ts=>(ts,[])
 |o::ss,ts=>if m≤Y2k o then qJ m ss (mkB o ts) else(ts,o::ss)
def Y1z (x:Tr) (b:Int) (q:Qs):Qs:={q with f:={q.f with ts:=x::q.f.ts},base:=b}
def fr0 (op:Int) (l:List Tr):Qf:=⟨op,l,[],[],0,0,0⟩
def Y8j (op:Int) (l:List Tr) (q:Qs):Qs:={q with F:=q.f::q.F,f:=fr0 op l}
def qJoin (m:Int) (q:Qs):Qs:={q with f:={q.f with ts:=(qJ m q.f.ss q.f.ts).1,ss:=(qJ m q.f.ss q.f.ts).2}}
def qOpI (q:Qs):Tr:=(qJ 0 q.f.ss q.f.ts).1.headD noTr
def qOpd (q:Qs):Qs:={q with f:={q.f with ops:=q.f.ops++[qOpI q],ts:=[],ss:=[]}}
def Y5x (q:Qs):Qs:=
 match q.F with
 |[]=>q
 |f::F=>{q with F:=F,f:=f}
def Y2y (op n b:Int) (q:Qs):Qs:=Y1z (.node ⟨op,n⟩ q.f.ops) b (Y5x q)
def Y9f (op:Int) (q:Qs):Qs:={qJoin (Y2k op) q with f:={(qJoin (Y2k op) q).f with ss:=op::(qJoin (Y2k op) q).f.ss}}
def qU (u:Cu) (q:Qs):Qs:={q with c:=u}
def qBad (q:Qs):Qs:=qU q.c.bad q
def Y0x (t:List Int) (q:Qs):Bool×Qs:=
 if hit t 60 q.c=true then(false,Y1z (numT (numN t q.c.adv)) 1 (qU (numU t q.c.adv) q))
 else if hit t 48 q.c=true then(false,Y1z (.node ⟨1,chrI t 26 q.c.adv⟩ []) 1 (qU (if chrI t 26 q.c.adv<0 then q.c.adv.bad else q.c.adv.adv) q))
 else if hit t 35 q.c=true then(true,Y8j (-2) [] (qU q.c.adv q))
 else if hit t 56 q.c=true then(false,Y1z (sumT t q.c.adv) 1 (qU (sumU t q.c.adv) q))
 else if hit t 57 q.c=true then(true,Y8j 6 [] (qU q.c.adv q))
 else if hit t 28 q.c=true then(true,Y8j 9 [] (qU q.c.adv q))
 else if hit t 55 q.c=true then(true,Y8j 10 [] (qU q.c.adv q))
 else if hit t 42 q.c=true then(true,Y8j 11 [] (qU q.c.adv q))
 else if hit t 41 q.c=true then(true,Y8j 13 [] (qU q.c.adv q))
 else(true,qBad q)
def simO (o:Int):Bool:=o==0||(o==1||(o==6||(o==9||(o==10||(o==11||(o==12||o==13))))))
def Y4e (t:List Int) (q:Qs):Bool×Qs:=
 if(q.f.ss=[]∧simO (opn (q.f.ts.headD noTr))=true)∨hit t 50 q.c=false then(true,qBad q)
 else(false,Y1z (qOpI q) 2 (Y5x (qU q.c.adv q)))
def qEnd (ends:Bool) (q:Qs):Bool×Qs:=
 if ends=true then(false,Y2y q.f.op 0 0 (qOpd {q with lv:=q.lv.dropLast})) else(true,qBad q)
def qExp (op c:Int) (q:Qs):Qs:=Y8j op [q.f.ts.headD noTr] {q with c:=q.c.adv,lv:=q.lv++[c],f:={q.f with ts:=q.f.ts.tail}}
def qSgB (t:List Int) (q:Qs):Bool×Qs:=
 if hit t 24 q.c=true then(true,qExp 7 24 q) else if hit t 6 q.c=true then(true,qExp 8 6 q) else(true,qBad q)
def qEnds (q:Qs):Bool:=(q.f.op==7||q.f.op==8)&&q.base !=2
def qBegs (q:Qs):Bool:=q.base !=0
def qSgn (t:List Int) (q:Qs):Bool×Qs:=
 if qBegs q=false∧qEnds q=false then(true,qU ⟨q.c.at_-1,true⟩ q)
 else if q.lv=[] then qSgB t q
 else if(xpc t q.lv.dropLast q.c).wr=true then(true,qU (xpc t q.lv.dropLast q.c) q)
 else if qBegs q=true∧hit t (q.lv.getLastD 0) (xpc t q.lv.dropLast q.c)=true then qSgB t (qU (xpc t q.lv.dropLast q.c).adv q)
 else qEnd (qEnds q) (qU (xpc t q.lv.dropLast q.c) q)
def qRow (q:Qs):Qs:={q with f:={q.f with cols:=q.f.ents+1,ents:=0,rows:=q.f.rows+1}}
def Y3y (t:List Int) (q:Qs):Bool×Qs:=
 if q.f.ents+1<(if q.f.cols=0 then 4 else q.f.cols)∧hit t 32 q.c=true then(true,qOpd {qU q.c.adv q with f:={q.f with ents:=q.f.ents+1}})
 else if q.f.cols≠0∧q.f.ents+1≠q.f.cols then(true,qBad q)
 else if q.f.rows+1<4∧hit t 51 q.c=true then(true,qOpd (qRow (qU q.c.adv q)))
 else(false,Y2y 13 (8*(q.f.rows+1)+(q.f.ents+1)) 1 (qOpd (qRow (qU (xpc t [43] q.c) q))))
def clB (o:Int):Int:=(Y71 Y57 o).getD 2 0
def qRest (t:List Int) (q:Qs):Bool×Qs:=
 if q.f.op= -1 then(false,{q with c:=⟨q.c.at_,q.c.at_ !=(t.length:Nat)⟩,dn:=q.c.at_==(t.length:Nat)})
 else if q.f.op= -2 then Y4e t q
 else if q.f.op=13 then Y3y t q
 else if q.f.op=6∧q.f.ops=[] then(true,qOpd (qU (xpc t [12] q.c) q))
 else if q.f.op=7∨q.f.op=8 then(true,qBad q)
 else(false,Y2y q.f.op 0 1 (qOpd (qU (xpc t [clB q.f.op] q.c) q)))
def Yk (t:List Int) (q:Qs):Bool×Qs:=
 if hit t 16 q.c=true then qSgn t (qU q.c.adv q)
 else if q.base=2 then(true,qBad q)
 else if hit t 44 q.c=true then(true,Y9f 2 (qU q.c.adv q))
 else if hit t 36 q.c=true then(true,Y9f 3 (qU q.c.adv q))
 else if hit t 33 q.c=true then(true,Y9f 4 (qU q.c.adv q))
 else if hit t 0 q.c=true then(true,Y9f 5 (qU (xpc t [54,0] q.c.adv) q))
 else qRest t q
def Y54 (t:List Int) (b:Bool) (q:Qs):Bool×Qs:=if b=true then Y0x t q else Yk t q
def qRun (t:List Int):Nat→Bool→Qs→Qs
 |0,_,q=>q
 |k+1,b,q=>if q.c.wr=true∨q.dn=true then q else qRun t k (Y54 t b q).1 (Y54 t b q).2
def q00:Qs:=⟨⟨0,false⟩,[],fr0 (-1) [],[],0,false⟩
end Go.Proofs.YtfpcbalkioolmaaDoor
