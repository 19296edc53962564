/- Own work. -/
import Derived.Test.YtkgfbpbndmklnaaDoorLibG
set_option linter.unusedSimpArgs false
set_option linter.unusedVariables false
namespace Go.Abs
open Go.RowKit
section
variable {P:Program} {N:Nat} {ops:Array Oper} {env:Env} {h:Hp}
theorem ArgS.box{bs:List Nat}{r ver:Nat}{rt:Rt}{ys:List IV}(hb:r∈bs)(hrt:h.at r=some rt)(hver:rt.ver=ver)(hl:rt.live=true)(hcs:rt.cs=ys.map .im):ArgS h bs (.ref r ver 0) (.ipt ys 0):=by
  intro X ι w v H hv;obtain⟨rt',g,hrt',_,hg,rfl⟩:=Y4g hv (by simp[hrt,hver]);rw[hrt] at hrt';cases hrt';have hR:=H.roots r rt hrt hl;have⟨arr,h1,h2,h3,h4,h5⟩:=hR.row hg;have hA:¬Brw X.B h ι bs g:=fun hbr=>hbr.2 r hb hg;rw[hcs] at h4;simp only[Xr] at h4;simp only[VR];refine⟨⟨g,0,none⟩,arr.toList.take ys.length,by simp[Y4q], ?_,VRIL.keep (fun β hβ hA'=>⟨rfl,fun hb=>hA' hb.1⟩) _ _ (VRL.toI h4)⟩;intro i u hu;refine⟨?_,hA, ?_⟩
  · rw[Xh] at hu
    split at hu
    · rw[Y4q,X08,cell_of_row w g i arr rt.e (0,0) h1];simpa using hu
    · cases hu
  · apply h5;rw[hcs,Xr];exact X0x hu
theorem OpsW.rstep{o:Oper}{rest:List Oper}{K:Env→Hp→Prop}{r:Nat}{rt':Rt}{av:AV}(hgu:o.guard=none)(hd:o.dst.all (· <N)=true)(hR:RStep P o env h r rt' av)(hw:OpsW P N ops rest (setd env o.dst av) ((r,rt')::h) K):OpsW P N ops (o::rest) env h K:=
  OpsW.root hgu hd r _ _ (fun X a w ι Q next H hop hnx=>hR X a w ι Q next H (fun x _=>hop x) hnx) hw
theorem Y2v{o:Oper}{f:FuncId}{xs:List Operand}{ts:Array TypeId}{rest:List Oper}{K:Env→Hp→Prop}{ys:List AV}{r2:AV}{h2:Hp}(k q k2:Hp)(φ:Nat→Option Nat)(ho:o.op= .call ⟨.value (.func f),xs.toArray,ts⟩)(hs:Spec P f ys k2 (fun x h=>x=r2∧h=h2))(ha:RnL (k++q) k2 φ (xs.map fun x=>st (rdo env x)) ys)(hrn:RnH (k++q) k2 φ k2)
    (r:AV) (hcc:Hp) (ψ:Nat→Option Nat) (hn2:RnH h2 hcc ψ hcc) (hl:RnL h2 hcc ψ [r2] [r]) (hw:OpsW P N ops rest (setd env o.dst r) (hcc++q) K)
    (hgu:o.guard=none:=by rfl) (hc:Y2b P f=true:=by kernel_rfl) (hd:o.dst.all (· <N)=true:=by rfl) (hgd:∀x∈xs,gd (rdo env x):=by exact Ys trivial)
    (f1:∀i rt,k.at i=some rt→q.at i=none:=by exact fresh_of (by kernel_rfl)) (b1:bijB k k2 φ=true:=by kernel_rfl) (f2:∀i rt,hcc.at i=some rt→q.at i=none:=by exact fresh_of (by kernel_rfl)) (b2:backB k k2 h2 hcc φ ψ=true:=by kernel_rfl) (b3:injB hcc ψ=true:=by kernel_rfl):OpsW P N ops (o::rest) env (k++q) K:=
  OpsW.callR k q k2 φ ho hgu hc ys _ hd hgd ha hs f1 b1 hrn (by rintro _ _ ⟨rfl,rfl⟩;exact⟨r,hcc,ψ,f2,b2,b3,hn2,hl,hw⟩)
theorem Y0s{o:Oper}{x:Operand}{r ver off:Nat}{rest:List Oper}{K:Env→Hp→Prop}(ho:o.op= .nilCheck x)(hx:rdo env x= .ref r ver off)(hn:(h.at r).map (·.ver)=some ver)(hw:OpsW P N ops rest (setd env o.dst (.ref r ver off)) h K)(hgu:o.guard=none:=by rfl) (hd:o.dst.all (· <N)=true:=by rfl):OpsW P N ops (o::rest) env h K:=
  OpsW.quietU (.ref r ver off) hgu hd (Quiet.nilCheck ho (gpoU hgu ⟨by rw[hx];trivial,by rw[hx];rfl,hn⟩)) hw
theorem RnH.b{h k:Hp}{φ:Nat→Option Nat}{r r':Nat}{rt rt':Rt}{l:Hp}(c:RnL h k φ rt.cs rt'.cs)(m:RnH h k φ l)(e:(φ r',h.at r,rt'.live,rt'.e,rt'.k)=(some r,some rt,rt.live,rt.e,rt.k):=by rfl):RnH h k φ ((r',rt')::l):=by
  simp only[Prod.mk.injEq] at e;exact .cons e.1 e.2.1 e.2.2.1 e.2.2.2.1 e.2.2.2.2 c m
end
end Go.Abs
