/- Own work. -/
import Derived.Test.YtfpcbalkioolmaaDoorLibF
set_option linter.unusedSimpArgs false
set_option linter.unusedVariables false
namespace Go.Abs
open Go.RowKit
section
variable {P:Program} {N:Nat} {ops:Array Oper} {env:Env} {h:Hp}
end
section
variable {P:Program} {N:Nat} {ops:Array Oper} {env:Env} {h:Hp}
theorem RStep.store{o:Oper}{t:TypeId}{x y:Operand}(ho:o.op= .store t x y){r ver off:Nat}{rt:Rt}
  (hx:st (rdo env x)= .ref r ver off) (hgx:gd (rdo env x)) (hgy:gd (rdo env y)) (hrt:h.at r=some rt) (hver:rt.ver=ver) (hl:rt.live=true) (hsz:szt P t=some (Y1r (st (rdo env y))).length) (hok:okC h (st (rdo env y)))
  (hfit:off+(Y1r (st (rdo env y))).length≤rt.cs.length):RStep P o env h r ⟨rt.ver,true,rt.e,rt.k,putA rt.cs off (Y1r (st (rdo env y)))⟩ .any:=by
 intro X a w ι Q next H hop hnx;have⟨rt',g,hrt',_,hg,hxv⟩:=Y61 (hx▸(hop x (by simp[ho,Op.operands])).st hgx) (by simp_all);rw[hrt] at hrt';cases hrt';have⟨arr,c1,c2,c3,c4,c5⟩:=(H.roots r rt hrt hl).row hg;have⟨hv1,hv2⟩:=hok.sound ((hop y (by simp[ho,Op.operands])).st hgy);have hvl:(a.eval y).cells.toList.length=(Y1r (st (rdo env y))).length:=hv1.length;have hcl:(arr.toList.take rt.cs.length).length=rt.cs.length:=c4.length;have hal:rt.cs.length≤arr.size:=by grind
 have hst:=run_storeCells_at P g off rt.e (a.eval y).cells.toList 0 arr w c1 (by omega) hv2;simp only[X0f] at hst;have hrun:(execOp a.eval o).run P w= .ok .skip (w.setRow g (putA arr.toList off (a.eval y).cells.toList).toArray):=by
  have hi:∃i,P.info? t=some i∧i.size=(a.eval y).cells.size:=by
   unfold szt at hsz
   simp_all
  have⟨i,hi,his⟩:=hi;simp only[execOp,ho,Instr.storeAt,hxv,Instr.sureAddr,storeVar,sizeOf,typeInfo,program,Xa,Sem.run,X01,hi,Xn,his,ne_eq,not_true_eq_false,if_false,hst,putA]
 simp only[Oper.wp,hrun,Oper.upon];have htk:(putA arr.toList off (a.eval y).cells.toList).take rt.cs.length=putA (arr.toList.take rt.cs.length) off (a.eval y).cells.toList:=by
  unfold putA;have e1:arr.toList.take off=(arr.toList.take rt.cs.length).take off:=by grind
  rw[Xh,Xh,X1l,X1l];have l1:(arr.toList.take off).length=off:=by grind
  rw[l1];have l2:(List.take rt.cs.length (List.take off arr.toList))=List.take off arr.toList:=by grind
  rw[l2,e1];congr 1;have l3:(List.take (rt.cs.length-off) (a.eval y).cells.toList)=(a.eval y).cells.toList:=Xu (by omega);rw[l3];congr 1;rw[List.drop_take]
  grind
 have hpl:(putA rt.cs off (Y1r (st (rdo env y)))).length=rt.cs.length:=by
  unfold putA;grind
 have hup:=H.upd r ⟨rt.ver,true,rt.e,rt.k,putA rt.cs off (Y1r (st (rdo env y)))⟩ (ι r) (w.setRow g (putA arr.toList off (a.eval y).cells.toList).toArray) rfl rfl rfl (by simp)
  (fun β hβ hne=>setRow_other w g β _ (fun ee=>hne rt hrt hl (by simp_all))) (fun rt2 h2=>by simp_all) (fun _ g' hg'=>.inr ⟨rt,hrt,hl,hg'⟩) (fun _ Kp=>by
   refine .inr ⟨g,_,hg,setRow_heap w g arr _ rt.e _ c1, ?_,c3, ?_, ?_⟩
   ·simp only[putA,X1p,X4,Xz,X0k,X1j] at hvl⊢;omega
   ·rw[hpl];show VRL _ _ _ _ _ (List.take rt.cs.length (putA arr.toList off (a.eval y).cells.toList));rw[htk];exact VRL.putA off (VRL.keep Kp _ _ c4) (VRL.keep Kp _ _ hv1)
   ·rw[hpl];show ∀u∈(List.take rt.cs.length (putA arr.toList off (a.eval y).cells.toList)),u.oneCell'=true;rw[htk];intro u hu;unfold putA at hu
    grind)
 exact hnx _ _ _ hup.1 hup.2 (by simp only[VR])
end
end Go.Abs
namespace Go
end Go
namespace Go.Abs
open Go.RowKit
section
variable {P:Program} {N:Nat} {ops:Array Oper} {env:Env} {h:Hp}
def findM (k:IntKind) (n:Int):List (Value×Value)→Option (Option Value)
 |[]=>some none
 |(.int k' m,v)::es=>if k=k' then(if n=m then some (some v) else findM k n es) else none
 |_::_=>none
theorem findM_sound{k:IntKind}{n:Int}(d:TypeDesc)(hd:d= .int k):∀(es:List MapEntry) (i:Nat) (r:Option Value),findM k n (es.map fun e=>(e.key,e.val))=some r→
  ∃q,Instr.findNow d (.int k n) es i=some q∧(match q,r with|some (_,v),some u=>v=u|none,none=>True|_,_=>False)
 |[],i,r,hf=>by simp[findM] at hf;subst hf;exact⟨none,by rfl,trivial⟩
 |e::es,i,r,hf=>by
  simp only[Xo] at hf;cases hk:e.key with
  |int k' m=>
   rw[hk] at hf;simp only[findM] at hf
   split at hf
   ·rename_i ek;subst ek
    split at hf
    ·rename_i en;subst en;simp only[X0] at hf;subst hf;exact⟨some (i,e.val),by simp[Instr.findNow,hk,hd,Instr.sameNow],rfl⟩
    ·rename_i en;have⟨q,h1,h2⟩:=findM_sound d hd es (i+1) r hf;have hb:(n==m)=false:=by simp_all
     exact⟨q,by rw[hd] at h1;simp[Instr.findNow,hk,hd,Instr.sameNow,hb,h1],h2⟩
   ·cases hf
  |_=>rw[hk] at hf;simp[findM] at hf
def ofV:Value→AV
 | .agg cs=>.agg (cs.toList.map fun u=>.im (.val u))
 | .tuple _=>.any
 |v=>.im (.val v)
theorem ofV_sound{w:World}{ι:Nat→Bk}{A:Nat→Prop}(v:Value):VR w h ι A (ofV v) v:=by
 cases v with
 |agg cs=>simp only[ofV,VR];exact⟨cs.toList,by simp,VRL.vals _⟩
 |_=>simp[ofV,VR,VRI]
def zv (P:Program) (t:TypeId):Option Value:=match P.info? t with
 |some i=>i.zero
 |none=>none
theorem zv_run{t:TypeId}{v:Value}{w:World}(hz:zv P t=some v):(zeroValue t).run P w= .ok v w:=by
 unfold zv at hz
 split at hz
 ·rename_i i hi;simp[zeroValue,typeInfo,program,Sem.run,Xa,hi,hz]
 ·cases hz
def lookE (P:Program) (t:TypeId) (x i:AV):Option AV:=match x,i with
 | .im (.mp es),.im (.val (.int k n))=>match P.underlying t with
  |some (.map kt et)=>if ik P kt=some k then(match findM k n es with
   |some (some v)=>some (ofV v)
   |some none=>(zv P et).map ofV
   |none=>none) else none
  |_=>none
 |_,_=>none
theorem Quiet.lookup{o:Oper}{t:TypeId}{x y:Operand}{r:AV}(ho:o.op= .lookup t x y false)(hg:gpo ops env o (gd (rdo env x)∧gd (rdo env y)∧lookE P t (st (rdo env x)) (st (rdo env y))=some r)):Quiet P ops o env h (gav ops env o r):=
 Y4a hg fun⟨hgx,hgy,hl⟩ X a w ι Q H hop next hn=>by
 have hx:=(hop x (by simp[ho,Op.operands])).st hgx;have hy:=(hop y (by simp[ho,Op.operands])).st hgy;unfold lookE at hl
 split at hl
 ·rename_i es k n h1 h2;rw[h1] at hx;rw[h2,Y0z] at hy
  split at hl
  ·rename_i kt et hu
   split at hl
   ·rename_i hk0;have hk:=ik_some hk0;simp only[VR,VRI] at hx;have⟨g,ents,clock,hv,hg,_,he⟩:=hx;have hget:(getObj g).run P w= .ok (.map ents clock) w:=by simp[getObj,Sem.run,hg]
    have hck:(Instr.checkKey ents.isEmpty 10000 kt (.int k n)).run P w= .ok () w:=by
     rw[show(10000:Nat)=9999+1 from rfl,Instr.checkKey];simp[Xa,run_underlying hk]
    have hfin:∀rr v,findM k n es=some rr→(match rr with|some u=>v=u|none=>zv P et=some v)→(execOp a.eval o).run P w= .ok (.value v) w:=by
     intro rr v hf hz;rw[←he] at hf;have⟨q,hq1,hq2⟩:=findM_sound (.int k) rfl ents.toList 0 rr hf;have hfk:(Instr.findKey kt (.int k n) ents.toList).run P w= .ok q w:=by
      simp[Instr.findKey,Xa,run_underlying hk,hq1]
     simp only[execOp,ho,Instr.lookup,hv,hy,Xa,run_underlying hu,hget,Xn,X01,hck,hfk];cases q with
     |none=>
      cases rr with
      |none=>simp[Xa,zv_run hz]
      |some u=>simp_all
     |some p=>
      have⟨j,v'⟩:=p;cases rr with
      |none=>simp_all
      |some u=>simp_all
    split at hl
    ·rename_i v hf;simp only[X0] at hl;subst hl;simp only[Oper.wp,hfin (some v) v hf rfl,Oper.upon];exact hn v w (Below.refl _ _) (ofV_sound v)
    ·rename_i hf;cases hz:zv P et with
     |none=>simp_all
     |some v=>
      rw[hz] at hl;simp only[X0b,X0] at hl;subst hl;simp only[Oper.wp,hfin none v hf hz,Oper.upon];exact hn v w (Below.refl _ _) (ofV_sound v)
    ·cases hl
   ·cases hl
  ·cases hl
 ·cases hl
def mapV (tab:List (Int×List Int)):List (Value×Value):=tab.map fun p=>(.int .i64 p.1,.agg (p.2.map (Value.int .u8)).toArray)
def Y71 (tab:List (Int×List Int)) (n:Int):List Int:=match tab with
 |[]=>[0,0,0]
 |(m,l)::r=>if n=m then l else Y71 r n
theorem mapAt_len:∀(tab:List (Int×List Int)) (n:Int),(tab.all fun p=>p.2.length==3)=true→(Y71 tab n).length=3
 |[],n,_=>rfl
 |(m,l)::r,n,ht=>by
  rw[X1a,X2] at ht;unfold Y71
  split
  ·simp_all
  ·exact mapAt_len r n ht.2
theorem findM_tab{n:Int}:∀(tab:List (Int×List Int)),findM .i64 n (mapV tab)=some (some (Value.agg ((Y71 tab n).map (Value.int .u8)).toArray))∨(findM .i64 n (mapV tab)=some none∧Y71 tab n=[0,0,0])
 |[]=>.inr ⟨rfl,rfl⟩
 |(m,l)::r=>by
  simp only[mapV,Xo,findM,if_true,Y71]
  split
  ·simp_all
  ·exact findM_tab r
theorem look3{tab:List (Int×List Int)}{n:Int}{t kt et:TypeId}(hu:P.underlying t=some (.map kt et))(hk:ik P kt=some .i64)(hz:zv P et=some (.agg #[.int .u8 0,.int .u8 0,.int .u8 0]))(ht:(tab.all fun p=>p.2.length==3)=true):
  lookE P t (.im (.mp (mapV tab))) (.int .i64 n)=some (.agg [.int .u8 ((Y71 tab n).getD 0 0),.int .u8 ((Y71 tab n).getD 1 0),.int .u8 ((Y71 tab n).getD 2 0)]):=by
 have hl:=mapAt_len tab n ht;have h3:∃a b c,Y71 tab n=[a,b,c]:=by
  match hm:Y71 tab n,hl with
  |[a,b,c],_=>simp_all
 have⟨a,b,c,hm⟩:=h3;unfold lookE;simp only[hu,hk,if_true];rcases findM_tab (n:=n) tab with h1|⟨h1,h2⟩
 ·rw[h1,hm];rfl
 ·rw[h1,hz,h2];rfl
end
section
variable {P:Program} {N:Nat} {ops:Array Oper} {env:Env} {h:Hp}
end
section
variable {P:Program} {N:Nat} {ops:Array Oper} {env:Env} {h:Hp}
end
end Go.Abs
