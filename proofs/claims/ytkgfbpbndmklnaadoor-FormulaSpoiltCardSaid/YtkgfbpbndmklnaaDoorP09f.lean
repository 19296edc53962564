/- Own work. -/
import Derived.Test.YtkgfbpbndmklnaaDoorQuE
import Derived.Test.YtkgfbpbndmklnaaDoorP09e
import Derived.Test.YtkgfbpbndmklnaaDoorP09k
set_option linter.unusedSimpArgs false
set_option linter.unusedVariables false
namespace Go.Proofs.YtkgfbpbndmklnaaDoor
open Go.Abs
theorem parsers{t:ByteArray}(hs:t.size≤40000):∃a:List Y2×Int×Int,Y1o t=some a∧Y5y t=some a∧a.1.length≤60∧(a.2.2=0→∃x:Tr,rdF t= .ok [x] (t.size:Nat)∧a.1=x.flat∧Gd x∧x.dep≤8):=by
  rcases stops_or t with⟨n,h⟩|⟨x,h⟩
  · exact⟨_,h.parse (by omega),parse9_stop hs h,by simp,fun h=>by cases h⟩
  · have g:=rdF_gd h;have hp:=parse_read (by omega) h;have h9:=parse9_read hs h;have hN:=good_okN _ x g;have⟨b,e1,e2,e3⟩:=Valid_agree hN;rw[e2,X0] at h9
    by_cases hc:60<(x.flat.length:Int)∨8<x.dep
    · rw[if_pos hc] at hp;cases b with
      |false=>exact⟨_,hp,h9,by simp,fun h=>by cases h⟩
      |true=>
        have⟨q1,d,q2,q3⟩:=e3 rfl;have⟨y,q4,q5⟩:=IsT_good d _ q3;have hd:x.dep≤100:=by
          have:=dep_flat x;omega
        have:y=x:=flat_inj (by omega) (by omega) q5 g q4 (by rw[q4];omega);subst this;have:=good_dep_le d y q5;omega
    · rw[if_neg hc] at hp;have hg8:=good_at _ x g 8 (by omega);have hv:=formula_Valid_ok (good_IsT 8 x hg8) (by omega) (by omega);rw[e1] at hv;cases hv;exact⟨_,hp,h9,by simp only;omega,fun _=>⟨x,h,rfl,g,by omega⟩⟩
theorem spoilt_k{v:ByteArray}(hs:v.size≤40000):Y1u true v=some true:=by
  have⟨a,h1,h2,h3,_⟩:=parsers hs;have⟨r,e3,e4⟩:=Same_iff (a:=a.1) (b:=a.1) (by omega);have er:r=true:=e4.2 rfl;subst er;unfold Y1u;rw[h1,X0,h2,X0,e3,X0,beq_self_eq_true,beq_self_eq_true]
  rfl
def signsB:ByteArray:=⟨#[48,49,50,51,52,53,54,55,56,57,97,98,99,102,109,114,115,116,40,41,44,59,43,45,42,61,32]⟩
theorem strOf_sz(l:List Int):(Y3x l).size=l.length:=by rw[strOf_B,B_size,toU,Xq]
theorem app_sz(a b:ByteArray):(a++b).size=a.size+b.size:=ByteArray.size_append
theorem ext_sz(a:ByteArray)(i j:Nat):(a.extract i j).size=min j a.size-i:=ByteArray.size_extract
theorem plain_FormulaSpoilt{t0:List Int}{t1:Int}{t2:List Int}(h0:okList (okInt .u8) t0)(h1:okInt .u8 t1)(h2:okArr 2 (okInt .u8) t2):Y53 t0 t1 t2=some true:=by
  have⟨T,hM,hg,hl,hx⟩:=Made_gd h0;have h1':0≤t1∧t1≤255:=h1;have fp:=flat_pos T;have tp:1≤T.tx.length:=tx_pos hg;obtain⟨a,b,rfl⟩:∃a b,t2=[a,b]:=by
    match t2,h2.2 with
    |[a,b],_=>exact⟨a,b,rfl⟩
  have ha:0≤a∧a≤255:=h2.1 a (by simp);have hb:0≤b∧b≤255:=h2.1 b (by simp);unfold Y53;rw[show f_L09_sanity=some true from rfl,X0,hM,X0,R09_Print_ok (by omega) hg hl,X0];rw[show(⟨#[48,49,50,51,52,53,54,55,56,57,97,98,99,102,109,114,115,116,40,41,44,59,43,45,42,61,32]⟩:ByteArray)=signsB from rfl];have sg:signsB.size=27:=rfl;have hm1:0≤Int.tmod (IntKind.wrap .i64 t1) ((B T.tx).size:Int)∧Int.tmod (IntKind.wrap .i64 t1) ((B T.tx).size:Int)<((B T.tx).size:Int):=by
    rw[wrap_i64 (by omega),B_size,X10 (by omega)];exact⟨Int.emod_nonneg _ (by omega),Int.emod_lt_of_pos _ (by omega)⟩
  have hm2:0≤Int.tmod (IntKind.wrap .i64 ([a,b].getD 1 0)) (signsB.size:Int)∧Int.tmod (IntKind.wrap .i64 ([a,b].getD 1 0)) (signsB.size:Int)<(signsB.size:Int):=by
    rw[show[a,b].getD 1 0=b from rfl,wrap_i64 (by omega),sg,X10 (by omega)];exact⟨Int.emod_nonneg _ (by omega),Int.emod_lt_of_pos _ (by omega)⟩
  have hB:(B T.tx).size=T.tx.length:=B_size _;generalize Int.tmod (IntKind.wrap .i64 t1) ((B T.tx).size:Int)=i at hm1⊢;generalize Int.tmod (IntKind.wrap .i64 ([a,b].getD 1 0)) (signsB.size:Int)=q at hm2⊢;generalize hS:B T.tx=S at hm1 hB⊢;generalize hC:Y3x [bAt signsB q]=C;have hCs:C.size=1:=by rw[←hC,strOf_sz];rfl
  have s1:=ext_sz S 0 i.toNat;have s2:=ext_sz S (i+1).toNat S.size;have s3:=ext_sz S i.toNat S.size;rw[Y14 (by omega),Y14 (by rw[sg];omega),Y14 hm2,Y14 (by omega),Y14 (by omega),Y2k (by omega),Y14 (by omega),Y14 (by rw[app_sz];omega)];generalize (Int.tmod ([a,b].getD 0 0) 3==1)=c1;generalize (Int.tmod ([a,b].getD 0 0) 3==2)=c2;cases c1 with
  |true=>
    rw[cond_true,Y14 (by omega)];exact spoilt_k (by rw[app_sz];omega)
  |false=>
    rw[cond_false];cases c2 with
    |true=>
      rw[cond_true,Y14 (by rw[app_sz];omega)];exact spoilt_k (by rw[app_sz,app_sz];omega)
    |false=>
      rw[cond_false];exact spoilt_k (by rw[app_sz,app_sz];omega)
end Go.Proofs.YtkgfbpbndmklnaaDoor
