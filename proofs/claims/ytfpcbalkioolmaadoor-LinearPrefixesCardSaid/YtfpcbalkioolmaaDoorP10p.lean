/- Own work. -/
import Derived.Test.YtfpcbalkioolmaaDoorP10q
set_option linter.unusedSimpArgs false
set_option linter.unusedVariables false
namespace Go.Proofs.YtfpcbalkioolmaaDoor
open Go.Abs
theorem prefix_one{T:Tr}(hg:T.good 5)(hl:T.flat.length<=60)(hd:T.dep<=5)(h4:(T.cells []).length<=400)(k:Nat)(hk:k<(T.cells []).length)(K:Option Bool):
    ((f_linear_Read ((T.cells []).take k)).bind fun x10=>
      cond (cond (cond (x10.2.2==(100:Int)) (x10.2.1==(k:Int)) false) ((x10.1.length:Int)==(0:Int)) false) K (
        cond (cond (x10.2.2 !=(0:Int)) true (x10.2.1 !=(k:Int))) (some false) (
          (Y33 x10.1).bind fun x13=>
          (cond (!(x13.2 !=(0:Int))) (f_R01_Same x13.1 ((T.cells []).take k)) (some false)).bind fun x14=>
          cond (cond (x13.2 !=(0:Int)) true (!x14)) (some false) K)))=K:=by
  have nn:∀x∈T.cells [],0<=x:=(cells_nn 5 T [] hg (by simp)).1;have hu:((T.cells []).take k).length=k:=by rw[X0a];omega
  have ag:Ag ((T.cells []).take k) (T.cells []) ((((T.cells []).take k).length:Nat)-1):=Ag.of fun j hj=>by
    rw[hu] at hj;rw[List.getElem?_take_of_lt (by omega)]
  have N1:Nn ((T.cells []).take k):=Nn.of fun x hx=>nn x (X0w hx);have N2:Nn (T.cells []):=Nn.of nn;have⟨g1,g2⟩:=good_read hg;rw[f_linear_Read,Y4r (by omega),X8];rcases read_cases ((T.cells []).take k) with⟨hw,e,h0,h1⟩|⟨hw,x,hx,ec,eK,e⟩
  · have hat:(mRun ((T.cells []).take k)).c.at_=(k:Int):=by
      rw[hu] at h1
      by_cases hlt:(mRun ((T.cells []).take k)).c.at_<(k:Int)
      · have:=m_loc N1 N2 (m:=(mRun ((T.cells []).take k)).c.at_) (by omega) (ag.le (by rw[hu];omega));rw[this,hw] at g1;cases g1
      · omega
    rw[e];simp only[hat,beq_self_eq_true,cond_true];rw[cond_pos (by rfl)]
  · have le:=m_pre N1 N2 ag hw g1;rw[eK,g2] at le;have l1:x.flat.length<=60:=X0l le.1 hl;have l2:x.dep<=5:=Int.le_trans le.2 hd;rw[Vn,Vn] at e;have ew:=write_read hx (by omega) (by omega);rw[ec] at ew;rw[e];simp only[hu];rw[ew,X8];simp only[f_same _ _ (show((T.cells []).take k).length<900000 by omega)];simp only[show((0:Int)==100)=false from rfl,bne_self_eq_false,cond_false,X11,cond_true,decide_true,X8,Bool.not_true]
theorem prefix_step{T:Tr}(hg:T.good 5)(hl:T.flat.length<=60)(hd:T.dep<=5)(h4:(T.cells []).length<=400)(loop:Int->Option Bool)(k:Nat)(hk:k<(T.cells []).length):Y19 true (T.cells [],0) loop (k:Int)=loop ((k+1:Nat):Int):=by
  unfold Y19;simp only[];rw[cond_pos (by simpa using hk),Y4r (by omega),X01];refine(prefix_one hg hl hd h4 k hk _).trans ?_;unfold Y2x;rw[Y52 (by omega)];rw[show((k:Int)+1)=((k+1:Nat):Int) by omega]
theorem plain_LinearPrefixes{t0:List Int}(h0:okList (okInt .u8) t0):Y4b t0=some true:=by
  have⟨T,hM,hg,hl,hd,hW,h6⟩:=Made_cells h0;unfold Y4b;rw[sanity_true,X8,hM,X8,hW,X8];simp only[bne_self_eq_false,cond_false,beq_self_eq_true,cond_true]
  by_cases h4:(T.cells []).length<=400
  · rw[cond_neg (by simp;omega)];have⟨r,e1,e2⟩:=loop_all (b:=fun loop s=>Y19 true (T.cells [],0) loop s) (T.cells []).length (fun _=>true) (by omega) (fun loop k hk=>by
      rw[if_pos rfl];exact prefix_step hg hl hd h4 loop k hk) (fun loop=>by
      show Y19 true (T.cells [],0) loop ((T.cells []).length:Int)=_;unfold Y19;rw[cond_neg (by simp)])
    rw[e1,e2.2 fun _ _=>rfl]
  · rw[cond_pos (by simp;omega)]
end Go.Proofs.YtfpcbalkioolmaaDoor
