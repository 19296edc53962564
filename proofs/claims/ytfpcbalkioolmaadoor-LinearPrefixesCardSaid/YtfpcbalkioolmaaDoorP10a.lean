/- Own work. -/
import Derived.Test.YtfpcbalkioolmaaDoorLq7
import Derived.Test.YtfpcbalkioolmaaDoorW6
import Derived.Test.YtfpcbalkioolmaaDoorFmX
set_option linter.unusedSimpArgs false
set_option linter.unusedVariables false
namespace Go.Proofs.YtfpcbalkioolmaaDoor
open Go.Abs
theorem sanity_true:f_L10_sanity=some true:=by kernel_rfl
theorem same_loop(t0 t1:List Int)(hl:t0.length=t1.length)(hb:t0.length<1000000000):∀(n i:Nat),t0.length<n+i->i<=t0.length->
    iter (fun loop (s:Int)=>f_R01_Same_b1 t0 t1 loop s) n (i:Int)=some (decide (t0.drop i=t1.drop i))
  |0,i,h1,h2=>by omega
  |n+1,i,h1,h2=>by
    rw[Y1x];rw[f_R01_Same_b1]
    by_cases h:i<t0.length
    · have ih:=same_loop t0 t1 hl hb n (i+1) (by omega) (by omega);rw[cond_pos (by simpa using h),Y4r (by omega),Y4r (by omega),Y52 (by omega)];rw[getD_drop t0 i 0 h,getD_drop t1 i 0 (by omega)];simp only[X01]
      by_cases he:t0.getD i 0=t1.getD i 0
      · rw[cond_neg (by rw[he];exact bne_self_eq_false _)];rw[show((i:Int)+1)=((i+1:Nat):Int) from by omega,ih];simp only[he,List.cons.injEq,true_and]
      · rw[cond_pos (bne_iff_ne.2 he)];have:¬(t0.getD i 0::t0.drop (i+1)=t1.getD i 0::t1.drop (i+1)):=fun e=>he (List.cons.inj e).1;rw[decide_eq_false this]
    · rw[cond_neg (by simpa using h)];have e:i=t0.length:=by omega
      rw[X1h (by omega),X1h (by omega)];simp
theorem f_same(t0 t1:List Int)(hb:t0.length<900000):f_R01_Same t0 t1=some (decide (t0=t1)):=by
  unfold f_R01_Same
  by_cases hl:t0.length=t1.length
  · rw[cond_neg (by simp[hl])];have:=same_loop t0 t1 hl (by omega) 1000000 0 (by omega) (by omega);simpa using this
  · rw[cond_pos (by simp;omega)];have:¬t0=t1:=fun e=>hl (by rw[e]);simp[this]
theorem loop_all{b:(Int->Option Bool)->Int->Option Bool}(n:Nat)(p:Nat->Bool)(hn:n<900000)(step:∀(loop:Int->Option Bool) (k:Nat),k<n->b loop (k:Int)=if p k=true then loop ((k+1:Nat):Int) else some false)(fin:∀loop:Int->Option Bool,b loop (n:Int)=some true):
    ∃r:Bool,iter b 1000000 (0:Int)=some r/\(r=true↔∀k,k<n->p k=true):=by
  have run:∀(j k q:Nat),k+j=n->∃r:Bool,iter b (q+1+j) (k:Int)=some r/\(r=true↔∀i,k<=i->i<n->p i=true):=by
    intro j
    induction j with
    |zero=>
      intro k q hk
      obtain rfl:k=n:=by omega
      rw[X0m,Y1x,fin]
      exact⟨true,rfl,by simp;omega⟩
    |succ j ih=>
      intro k q hk
      rw[show q+1+(j+1)=(q+1+j)+1 by omega,Y1x,step _ k (by omega)]
      by_cases hp:p k=true
      · rw[if_pos hp]
        obtain⟨r,e1,e2⟩:=ih (k+1) q (by omega)
        refine⟨r,e1,e2.trans ⟨fun h i h1 h2=> ?_,fun h i h1 h2=>h i (by omega) h2⟩⟩
        by_cases e:i=k
        · rw[e];exact hp
        · exact h i (by omega) h2
      · rw[if_neg hp]
        exact ⟨false, rfl, by constructor
                              · intro h;cases h
                              · intro h;exact absurd (h k (Xn _) (by omega)) hp⟩
  obtain⟨r,e1,e2⟩:=run n 0 (999999-n) (by omega)
  rw[show 999999-n+1+n=1000000 by omega] at e1
  exact⟨r,e1,e2.trans ⟨fun h k hk=>h k (Nat.zero_le _) hk,fun h k _ hk=>h k hk⟩⟩
theorem Made_cells{t0:List Int}(h0:okList (okInt .u8) t0):∃T:Tr,f_R09_Made t0=some T.flat/\T.good 5/\T.flat.length<=60/\T.dep<=5/\Y33 T.flat=some (T.cells [],0)/\(T.cells []).length<=6000:=by
  have⟨f,hf,hT,hl⟩:=Made_tree h0;obtain⟨T,rfl,hg⟩:=IsT_good 5 f hT;have⟨w1,w2⟩:=Write_cells hg (by omega) hl;exact⟨T,hf,hg,hl,good_dep_le 5 T hg,w1,w2⟩
end Go.Proofs.YtfpcbalkioolmaaDoor
