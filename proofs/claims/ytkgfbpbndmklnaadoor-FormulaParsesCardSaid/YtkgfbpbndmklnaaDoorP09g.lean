/- Own work. -/
import Derived.Test.YtkgfbpbndmklnaaDoorP09f
import Derived.Test.YtkgfbpbndmklnaaDoorQuE
set_option linter.unusedSimpArgs false
set_option linter.unusedVariables false
namespace Go.Proofs.YtkgfbpbndmklnaaDoor
open Go.Abs
theorem plain_FormulaParses{t0:List Int}(h0:okList (okInt .u8) t0):Y4o t0=some true:=by
  have⟨n,hn,h60,hnl⟩:∃n:Nat,(if(60:Int)<(t0.length:Int) then(60:Int) else(t0.length:Int))=(n:Int)∧n≤60∧n≤t0.length:=by
    split
    · exact⟨60,by omega,by omega,by omega⟩
    · exact⟨t0.length,by omega,by omega,by omega⟩
  unfold Y4o;rw[show f_L09_sanity=some true from rfl,X2,hn,Y1j (by omega),X02];have sz:(strOf (t0.take n)).size≤40000:=by rw[strOf_sz,X0k];omega
  generalize strOf (t0.take n)=s at sz⊢;have⟨a,e1,e2,e3,e4⟩:=parsers sz;have⟨r,s1,s2⟩:=Same_iff (a:=a.1) (b:=a.1) (by omega);have er:r=true:=s2.2 rfl;subst er;rw[e1,X2,e2,X2,s1,X2,beq_self_eq_true,beq_self_eq_true];simp only[cond_true,X0v]
  by_cases h:a.2.2=0
  · have⟨x,x1,x2,x3,x4⟩:=e4 h;have hg8:=good_at _ x x3 8 (by omega);rw[x2] at e3⊢;rw[show(a.2.2 !=0)=false by rw[h];rfl,Xy,cond_true,formula_Valid_ok (good_IsT 8 x hg8) (by omega) e3,X2,X0v,cond_true,formula_Print_ok (by omega) hg8 e3,X2, ←rdF_txt x1,beq_self_eq_true]
    rfl
  · rw[show(a.2.2 !=0)=true by rw[bne_iff_ne];exact h,X0z,cond_false,X2,Bool.false_and,cond_false,X2]
    rfl
end Go.Proofs.YtkgfbpbndmklnaaDoor
