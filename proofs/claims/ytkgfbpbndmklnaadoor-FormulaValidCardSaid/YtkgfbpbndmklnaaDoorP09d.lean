/- Own work. -/
import Derived.Test.YtkgfbpbndmklnaaDoorQB
import Derived.Test.YtkgfbpbndmklnaaDoorFm7
import Derived.Test.YtkgfbpbndmklnaaDoorSh
set_option linter.unusedSimpArgs false
set_option linter.unusedVariables false
namespace Go.Proofs.YtkgfbpbndmklnaaDoor
open Go.Abs
theorem ar_okN{n:Y4}{k:Nat}(h:ar n=some k):okN n:=by
  have hc:=ar_cases h;obtain⟨o,N⟩:=n;have:0≤N∧N≤99999:=by
    unfold ar at h;simp only at h
    repeat' split at h
    all_goals first
      |omega
      |cases h
  simp only at hc;exact⟨⟨by simp only;omega,by simp only;omega⟩,⟨by simp only;omega,by simp only;omega⟩⟩
mutual
theorem good_okN:∀(d:Nat) (T:Tr),Tr.good d T→∀n∈T.flat,okN n
  |0,T,h,_,_=>by cases T;exact h.elim
  |d+1,.node n ks,h,m,hm=>by
    rw[Tr.flat,X05] at hm;rcases hm with rfl|hm
    · exact ar_okN h.1
    · exact goodL_okN d ks h.2.1 m hm
theorem goodL_okN:∀(d:Nat) (ks:List Tr),goodL d ks→∀n∈Y39 ks,okN n
  |d,[],_,m,hm=>by rw[Y39] at hm;cases hm
  |d,k::ks,h,m,hm=>by
    rw[Y39,X02] at hm;rcases hm with hm|hm
    · exact good_okN d k h.1 m hm
    · exact goodL_okN d ks h.2 m hm
end
theorem okS_N{n:Y4}(h:okS_Node n):okN n:=h
theorem Print_agree{f:List Y4}(hN:∀n∈f,okN n):∃(b:Bool) (s:ByteArray),Y1z f=some b∧Y3f f=some b∧Y3d f=some s∧Y5d f=some s:=by
  obtain⟨b,e1,e2,h⟩:=Valid_agree hN;cases b with
  |false=>
    refine⟨false,⟨#[]⟩,e1,e2, ?_, ?_⟩
    · unfold Y3d;rw[e1];rfl
    · unfold Y5d;rw[e2];rfl
  |true=>
    obtain⟨hl,d,hd,ht⟩:=h rfl;obtain⟨T,rfl,hg⟩:=IsT_good d f ht;exact⟨true,B T.tx,e1,e2,formula_Print_ok hd hg hl,R09_Print_ok hd hg hl⟩
def vB (t0:List Y4) (t1:List Int) (t2:Y4) (x3:List Y4):(Int→Option Bool)→Int→Option Bool:=fun loop s=>Y25 t0 t1 t2 true x3 loop s
theorem v_step{t0:List Y4}{t1:List Int}{t2:Y4}{x3:List Y4}{loop:Int→Option Bool}{k:Nat}(hk:k<2)(h:∀n∈[t0,(([]:List Y4)++x3).set (Int.tmod (t1.length:Int) (((([]:List Y4)++x3).length:Nat):Int)).toNat t2].getD ((k:Nat):Int).toNat [],okN n):
    vB t0 t1 t2 x3 loop (k:Int)=loop ((k:Int)+1):=by
  obtain⟨b,s,e1,e2,e3,e4⟩:=Print_agree h;unfold vB Y25;rw[Y2p (by omega),Y1q (by omega),Y1q (by rfl),e1,X6,e2,X6,bne_self_eq_false,X0v,cond_true,cond_true,e3,X6,e4,X6,beq_self_eq_true,cond_false,X1e,cond_false,Y3k (by omega)]
theorem plain_FormulaValid{t0:List Y4}{t1:List Int}{t2:Y4}(h0:okList okS_Node t0)(h1:okList (okInt .u8) t1)(h2:okS_Node t2):Y4v t0 t1 t2=some true:=by
  obtain⟨f,hM,hT,hl⟩:=Made_tree h1;obtain⟨T,rfl,hg⟩:=IsT_good 5 f hT;unfold Y4v;rw[show f_L09_sanity=some true from rfl,X6]
  by_cases hc:(100:Int)<(t0.length:Int)
  · rw[Y2p hc]
  · have fp:=flat_pos T;have hm:0≤Int.tmod (t1.length:Int) ((T.flat.length:Nat):Int)∧Int.tmod (t1.length:Int) ((T.flat.length:Nat):Int)<((T.flat.length:Nat):Int):=by
      rw[X16 (by omega)];exact⟨Int.emod_nonneg _ (by omega),Int.emod_lt_of_pos _ (by omega)⟩
    rw[Y2q hc,hM,X6,Y1q (by unfold room;simp only[Xq];omega),Y1q (by rw[X0j];omega),Y1q (by rw[X0j];exact hm)];have hN:∀k:Nat,k<2→∀n∈[t0,(([]:List Y4)++T.flat).set (Int.tmod (t1.length:Int) (((([]:List Y4)++T.flat).length:Nat):Int)).toNat t2].getD ((k:Nat):Int).toNat [],okN n:=by
      intro k hk n hn;have:k=0∨k=1:=by omega
      rcases this with rfl|rfl
      · exact okS_N (h0.1 n hn)
      · have hn':n∈(([]:List Y4)++T.flat).set (Int.tmod (t1.length:Int) (((([]:List Y4)++T.flat).length:Nat):Int)).toNat t2:=hn;rcases List.mem_or_eq_of_mem_set hn' with hn'|rfl
        · rw[X0j] at hn';exact good_okN 5 T hg n hn'
        · exact okS_N h2
    show iter (vB t0 t1 t2 T.flat) 1000000 (0:Int)=some true;rw[show(1000000:Nat)=999997+1+1+1 from rfl,Y0b];refine Eq.trans (v_step (k:=0) (by omega) (hN 0 (by omega))) ?_;rw[Y0b];refine Eq.trans (v_step (k:=1) (by omega) (hN 1 (by omega))) ?_;rw[Y0b];unfold vB Y25;rw[Y2q (by omega)]
end Go.Proofs.YtkgfbpbndmklnaaDoor
