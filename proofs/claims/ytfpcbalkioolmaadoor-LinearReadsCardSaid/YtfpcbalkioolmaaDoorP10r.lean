/- Own work. -/
import Derived.Test.YtfpcbalkioolmaaDoorP10a
set_option linter.unusedSimpArgs false
set_option linter.unusedVariables false
namespace Go.Proofs.YtfpcbalkioolmaaDoor
open Go.Abs
theorem Read_good{d:Nat}{T:Tr}(h:T.good d)(hl:T.flat.length≤60)(hd:T.dep≤8)(h6:(T.cells []).length≤6000):f_linear_Read (T.cells [])=some (T.flat,(((T.cells []).length:Nat):Int),(0:Int)):=by
  rw[f_linear_Read,Y4d (by omega),read_good h,Vn,Vn]
theorem plain_LinearReads{t0 t1:List Int}(h0:okList (okInt .u8) t0)(h1:okList (okInt .u8) t1):Y5a t0 t1=some true:=by
  have⟨T,hM,hg,hl,hd,hW,h6⟩:=Made_cells h0;have⟨U,hM',hg',hl',hd',hW',h6'⟩:=Made_cells h1;have⟨r,e1,e2⟩:=Same_iff (a:=T.flat) (b:=U.flat) (by omega);have⟨r0,e3,e4⟩:=Same_iff (a:=T.flat) (b:=T.flat) (by omega);have er:r0=true:=e4.2 rfl;subst er;have key:decide (T.cells []=U.cells [])=r:=by
    rw[Bool.eq_iff_iff,e2,decide_eq_true_eq]
    constructor
    · intro h;rw[cells_inj hg hg' h]
    · intro h;rw[h,hW'] at hW;simp only[X0,Prod.mk.injEq] at hW;exact hW.1.symm
  unfold Y5a;rw[sanity_true,X6,hM,X6,hM',X6,hW,X6,hW',X6];simp only[bne_self_eq_false,cond_false];rw[Read_good hg hl (by omega) h6,X6];simp only[beq_self_eq_true,cond_true,e3,X6];rw[f_same _ _ (by omega),X6,e1,X6,key,beq_self_eq_true]
end Go.Proofs.YtfpcbalkioolmaaDoor
