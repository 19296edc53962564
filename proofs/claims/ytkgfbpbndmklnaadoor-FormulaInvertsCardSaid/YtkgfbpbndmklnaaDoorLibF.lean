/- Own work. -/
import Derived.Test.YtkgfbpbndmklnaaDoorLibE
set_option linter.unusedSimpArgs false
set_option linter.unusedVariables false
namespace Go.Abs
open Go.RowKit
section
variable {P:Program} {N:Nat} {ops:Array Oper} {env:Env} {h:Hp}
theorem CstL.get{h h':Hp}{φ:Nat→Option Nat}:∀{xs ys:List AV},xs.length=ys.length→(∀(i:Nat) (x y:AV),xs[i]? =some x→ys[i]? =some y→Cst h h' φ x y)→CstL h h' φ xs ys
 |[],[],_,_=>.nil
 |[],_::_,hl,_=>by simp at hl
 |_::_,[],hl,_=>by simp at hl
 |x::xs,y::ys,hl,hg=>.cons (hg 0 x y rfl rfl) (CstL.get (by simpa using hl) fun i a b ha hb=>hg (i+1) a b (by simpa using ha) (by simpa using hb))
end
section
variable {P:Program} {N:Nat} {ops:Array Oper} {env:Env} {h h':Hp} {φ:Nat→Option Nat} {X:Ctx} {ι:Nat→Bk} {w:World}
theorem RStep.make{o:Oper}{t e:TypeId}{k bytes:Nat}{z:List Value}{x y:Operand}(ho:o.op= .makeSlice t x y)(r:Nat)(hr:h.at r=none)(E:Elem P t e k bytes z){kx ky:IntKind}{l c:Int}(hx:rdo env x= .int kx l)(hy:rdo env y= .int ky c)(h0:0≤l)(hlc:l≤c)(hb:(bytes:Int)*c≤281474976710656)(h63:c≤9223372036854775807):
  RStep P o env h r ⟨0,true,e,k,Y3y z l.toNat⟩ (.rsl r 0 0 l.toNat):=by
 intro X a w ι Q next H hop hn;obtain⟨i,zu,hi,hisz,hiby,hiz,hzu⟩:=E.info;have hxv:=hop x (by simp[ho,Op.operands]);have hyv:=hop y (by simp[ho,Op.operands]);rw[hx,Y26] at hxv;rw[hy,Y26] at hyv;have hzs:zu.cells.size=k:=by rw[←E.zlen, ←hzu];simp
 have hr1:=run_make (P:=P) w t e i zu (Y58 E.sle) hi hiz kx ky l c h0 hlc (by rw[hiby];exact hb) h63;rw[hisz] at hr1;have hal:(madeCells zu.cells (c.toNat*k)).toList=(List.replicate c.toNat z).flatten:=by
  unfold madeCells;rw[zeros_eq zu.cells k c.toNat hzs E.pos,hzu]
 have htk:(madeCells zu.cells (c.toNat*k)).toList.take (Y3y z l.toNat).length=(List.replicate l.toNat z).flatten:=by
  have h1:(Y3y z l.toNat).length=((List.replicate l.toNat z).flatten).length:=by simp[Y3y]
  rw[hal,h1];have h2:List.replicate c.toNat z=List.replicate l.toNat z++List.replicate (c.toNat-l.toNat) z:=by rw[List.replicate_append_replicate];congr 1;omega
  rw[h2,X17];exact List.take_left
 obtain⟨H',K'⟩:=H.alloc r hr e k c.toNat (Y3y z l.toNat) (madeCells zu.cells (c.toNat*k)) (size_madeCells _ _) (by simp only[maxLen];omega) (by rw[htk];exact VRL.vals _) (by
  rw[htk];intro u hu;obtain⟨y,hy,huy⟩:=List.mem_flatten.1 hu;rw[List.eq_of_mem_replicate hy] at huy;exact Xb.1 E.one u huy)
 have hrun:(execOp a.eval o).run P w= .ok (.value (.slice (some ⟨w.heap.size,0,none⟩) l.toNat c.toNat)) (w.alloc (.cells (madeCells zu.cells (c.toNat*k)) e)):=by
  simp only[execOp,ho,X7,hxv,hyv,hr1,Xl,Xz]
 simp only[Oper.wp,hrun,Oper.upon];refine hn _ _ _ H' K' (VR.newrsl (rt:=⟨0,true,e,k,_⟩) ?_);exact⟨_,_,rfl,by omega,.inr ⟨w.heap.size,rfl,.inl ⟨rfl,by simp⟩⟩⟩
end
section
variable {P:Program} {N:Nat} {ops:Array Oper} {env:Env} {h:Hp}
def effX:List (Nat×Nat×List Nat)→Nat→Option Nat
 |[],_=>none
 |(i,r,_)::l,j=>if i=j then some r else effX l j
def depX:List (Nat×Nat×List Nat)→Nat→List Nat
 |[],_=>[]
 |(i,_,ds)::l,j=>if i=j then ds else depX l j
def DOpsX (P:Program) (ops:Array Oper) (h:Hp) (effs:List (Nat×Nat×List Nat)):Nat→List Oper→Env→Hp→(Env→Hp→Prop)→Prop
 |_,[],env,g,K=>K env g
 |i,o::l,env,g,K=>match effX effs i with
  |none=>∃av,Quiet P ops o env h av∧DOpsX P ops h effs (i+1) l (setd env o.dst av) g K
  |some r=>∃rt' av,o.guard=none∧h.at r=none∧(∀g':Hp,(∀q,q∈r::depX effs i→g'.at q=g.at q)→(∀s rt,h.at s=some rt→g'.at s=some rt)→RStep P o env g' r rt' av)∧DOpsX P ops h effs (i+1) l (setd env o.dst av) ((r,rt')::g) K
theorem DOpsX.nil{effs:List (Nat×Nat×List Nat)}{i:Nat}{g:Hp}{K:Env→Hp→Prop}(hK:K env g):DOpsX P ops h effs i [] env g K:=hK
theorem DOpsX.q{effs:List (Nat×Nat×List Nat)}{g:Hp}{K:Env→Hp→Prop}:∀(n:Nat) {i:Nat} {l:List Oper} {env:Env},((List.range n).all fun j=>(effX effs (i+j)).isNone)=true→QOps P ops h (l.take n) env (fun e=>DOpsX P ops h effs (i+n) (l.drop n) e g K)→DOpsX P ops h effs i l env g K
 |0,i,l,env,_,hq=>by simpa [QOps] using hq
 |n+1,i,[],env,_,hq=>by simpa [QOps,DOpsX] using hq
 |n+1,i,o::l,env,ha,hq=>by
  simp only[X07,QOps,X19] at hq;obtain⟨av,h1,h2⟩:=hq;have h0:=Xb.1 ha 0 (by simp);simp only[X0p,Option.isNone_iff_eq_none] at h0;simp only[DOpsX,h0];refine⟨av,h1,DOpsX.q n (Xb.2 fun j hj=> ?_) (by rwa[show i+1+n=i+(n+1) by omega])⟩;have:=Xb.1 ha (j+1) (by simpa using hj);rwa[show i+(j+1)=i+1+j by omega] at this
theorem DOpsX.e{effs:List (Nat×Nat×List Nat)}{i:Nat}{o:Oper}{l:List Oper}{g:Hp}{K:Env→Hp→Prop}{rt':Rt}{av:AV}(r:Nat)(he:effX effs i=some r)(hg:o.guard=none)(hr:h.at r=none)
  (hs:∀g':Hp,(∀q,q∈r::depX effs i→g'.at q=g.at q)→(∀s rt,h.at s=some rt→g'.at s=some rt)→RStep P o env g' r rt' av) (hw:DOpsX P ops h effs (i+1) l (setd env o.dst av) ((r,rt')::g) K):DOpsX P ops h effs i (o::l) env g K:=by
 simp only[DOpsX,he];exact⟨rt',av,hg,hr,hs,hw⟩
def effOkX (ops:Array Oper) (m:Nat) (effs:List (Nat×Nat×List Nat)):Bool:=
 ((List.range m).all fun j=>(effX effs j).isSome||match ops[j]? with
  |none=>true
  |some o=>(List.range m).all fun i=>(effX effs i).isNone||match (ops[i]?).bind (·.dst) with
   |some d=> !(o.looksAt ops).contains d
   |none=>true)&&
 (((List.range m).all fun j=>(List.range j).all fun i=>(effX effs i).isNone||effX effs i !=effX effs j||reachB ops ops.size j i)&&
 ((List.range m).all fun j=>(depX effs j).all fun q=>(List.range m).all fun i=>decide (i=j)||(effX effs i !=some q)||(if i<j then reachB ops ops.size j i else reachB ops ops.size i j)))
theorem effOkX.look{m:Nat}{effs:List (Nat×Nat×List Nat)}(hk:effOkX ops m effs=true){j i r d:Nat}{o p:Oper}(hj:j<m)(hi:i<m)(ho:ops[j]? =some o)(hp:ops[i]? =some p)(hq:effX effs j=none)(he:effX effs i=some r)(hd:p.dst=some d):d∉o.looksAt ops:=by
 unfold effOkX at hk;simp only[X3] at hk;have h1:=Xb.1 hk.1 j (Xp.2 hj);simp only[hq,Option.isSome_none,Bool.false_or,ho] at h1;have h2:=Xb.1 h1 i (Xp.2 hi);simp only[he,Option.isNone_some,Bool.false_or,hp,X9,hd] at h2;simpa using h2
theorem effOkX.dep{m:Nat}{effs:List (Nat×Nat×List Nat)}(hk:effOkX ops m effs=true){j i q:Nat}(hj:j<m)(hi:i<m)(hij:i≠j)(hq:q∈depX effs j)(he:effX effs i=some q):(i<j→reachB ops ops.size j i=true)∧(j<i→reachB ops ops.size i j=true):=by
 unfold effOkX at hk;simp only[X3] at hk;have h1:=Xb.1 (Xb.1 (Xb.1 hk.2.2 j (Xp.2 hj)) q hq) i (Xp.2 hi);simp only[he,hij,decide_false,Bool.false_or,bne_self_eq_false] at h1;refine⟨fun h=> ?_,fun h=> ?_⟩
 ·rw[if_pos h] at h1;exact h1
 ·rw[Vn] at h1;exact h1
end
end Go.Abs
