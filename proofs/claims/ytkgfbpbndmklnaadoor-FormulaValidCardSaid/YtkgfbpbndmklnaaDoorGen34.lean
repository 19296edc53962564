/- Own work. -/
import Derived.Test.YtkgfbpbndmklnaaDoorLibG
set_option linter.unusedSimpArgs false
set_option linter.unusedVariables false
namespace Go.Abs
open Go.RowKit
section
variable {P:Program} {N:Nat} {ops:Array Oper} {env:Env} {h:Hp}
theorem ArgS.box{bs:List Nat}{r ver:Nat}{rt:Rt}{ys:List IV}(hb:r∈bs)(hrt:h.at r=some rt)(hver:rt.ver=ver)(hl:rt.live=true)(hcs:rt.cs=ys.map .im):ArgS h bs (.ref r ver 0) (.ipt ys 0):=by
  intro X ι w v H hv;obtain⟨rt',g,hrt',_,hg,rfl⟩:=Y43 hv (by simp[hrt,hver]);rw[hrt] at hrt';cases hrt';have hR:=H.roots r rt hrt hl;obtain⟨arr,h1,h2,h3,h4,h5⟩:=hR.row hg;have hA:¬Brw X.B h ι bs g:=fun hbr=>hbr.2 r hb hg;rw[hcs] at h4;simp only[X00] at h4;simp only[VR];refine⟨⟨g,0,none⟩,arr.toList.take ys.length,by simp[Y4c], ?_,VRIL.keep (fun β hβ hA'=>⟨rfl,fun hb=>hA' hb.1⟩) _ _ (VRL.toI h4)⟩;intro i u hu;refine⟨?_,hA, ?_⟩
  · rw[Xg] at hu
    split at hu
    · rw[Y4c,X06,cell_of_row w g i arr rt.e (0,0) h1];simpa using hu
    · cases hu
  · apply h5;rw[hcs,X00];exact X0r hu
theorem OpsW.rstep{o:Oper}{rest:List Oper}{K:Env→Hp→Prop}{r:Nat}{rt':Rt}{av:AV}(hgu:o.guard=none)(hd:o.dst.all (· <N)=true)(hR:RStep P o env h r rt' av)(hw:OpsW P N ops rest (setd env o.dst av) ((r,rt')::h) K):OpsW P N ops (o::rest) env h K:=
  OpsW.root hgu hd r _ _ (fun X a w ι Q next H hop hnx=>hR X a w ι Q next H (fun x _=>hop x) hnx) hw
end
end Go.Abs
