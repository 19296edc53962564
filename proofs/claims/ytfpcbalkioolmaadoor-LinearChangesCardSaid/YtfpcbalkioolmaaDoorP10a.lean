/- Own work. -/
import Derived.Test.YtfpcbalkioolmaaDoorLq7
import Derived.Test.YtfpcbalkioolmaaDoorW6
import Derived.Test.YtfpcbalkioolmaaDoorFmX
set_option linter.unusedSimpArgs false
set_option linter.unusedVariables false
namespace Go.Proofs.YtfpcbalkioolmaaDoor
open Go.Abs
theorem sanity_true:f_L10_sanity=some true:=by kernel_rfl
theorem same_loop(t0 t1:List Int)(hl:t0.length=t1.length)(hb:t0.length<1000000000):∀(n i:Nat),t0.length<n+i→i≤t0.length→
    iter (fun loop (s:Int)=>f_R01_Same_b1 t0 t1 loop s) n (i:Int)=some (decide (t0.drop i=t1.drop i))
  |0,i,h1,h2=>by omega
  |n+1,i,h1,h2=>by
    rw[Y1v];rw[f_R01_Same_b1]
    by_cases h:i<t0.length
    · have ih:=same_loop t0 t1 hl hb n (i+1) (by omega) (by omega);rw[cond_pos (by simpa using h),Y42 (by omega),Y42 (by omega),Y53 (by omega)];rw[getD_drop t0 i 0 h,getD_drop t1 i 0 (by omega)];simp only[X02]
      by_cases he:t0.getD i 0=t1.getD i 0
      · rw[cond_neg (by rw[he];exact bne_self_eq_false _)];rw[show((i:Int)+1)=((i+1:Nat):Int) from by omega,ih];simp only[he,List.cons.injEq,true_and]
      · rw[cond_pos (bne_iff_ne.2 he)];have:¬(t0.getD i 0::t0.drop (i+1)=t1.getD i 0::t1.drop (i+1)):=fun e=>he (List.cons.inj e).1;rw[decide_eq_false this]
    · rw[cond_neg (by simpa using h)];have e:i=t0.length:=by omega
      rw[X16 (by omega),X16 (by omega)];simp
theorem f_same(t0 t1:List Int)(hb:t0.length<900000):Y5s t0 t1=some (decide (t0=t1)):=by
  unfold Y5s
  by_cases hl:t0.length=t1.length
  · rw[cond_neg (by simp[hl])];have:=same_loop t0 t1 hl (by omega) 1000000 0 (by omega) (by omega);simpa using this
  · rw[cond_pos (by simp;omega)];have:¬t0=t1:=fun e=>hl (by rw[e]);simp[this]
theorem take_stepI(l:List Int)(i:Nat)(h:i<l.length):l.take (i+1)=l.take i++[l.getD i 0]:=by
  rw[List.take_add_one,X2 h,X7,X2 h]
  rfl
theorem cells_loop(t:List Int)(m:Nat)(hm:m<100000):∀(n i:Nat),m<n+i→i≤t.length→i≤m→
    iter (fun loop (s:(List Int)×Int)=>Y60 t (m:Int) loop s.1 s.2) n ((t.take i).map (Int.tmod · 64),(i:Int))=some ((t.take m).map (Int.tmod · 64))
  |0,i,h1,h2,h3=>by omega
  |n+1,i,h1,h2,h3=>by
    rw[Y1v,Y60];dsimp only
    by_cases hi:i<t.length∧i<m
    · have ih:=cells_loop t m hm n (i+1) (by omega) (by omega) (by omega);rw[take_stepI t i hi.1,X0u,List.map_singleton] at ih;rw[cond_pos (by rw[and_tt];simp;omega),Y42 (by omega),G_room (by simp;omega),Y53 (by omega),X02];exact ih
    · rw[cond_neg (by rw[and_tt];simp;omega)]
      by_cases h:i=m
      · rw[h]
      · rw[Xy (by omega),Xy (by omega)]
theorem f_cells(t:List Int)(m:Nat)(hm:m<100000):f_R01_Cells t (m:Int)=some ((t.take m).map (Int.tmod · 64)):=by
  have:=cells_loop t m hm 1000000 0 (by omega) (by omega) (by omega);exact this
theorem loop_all{b:(Int→Option Bool)→Int→Option Bool}(n:Nat)(p:Nat→Bool)(hn:n<900000)(step:∀(loop:Int→Option Bool) (k:Nat),k<n→b loop (k:Int)=if p k=true then loop ((k+1:Nat):Int) else some false)(fin:∀loop:Int→Option Bool,b loop (n:Int)=some true):
    ∃r:Bool,iter b 1000000 (0:Int)=some r∧(r=true↔∀k,k<n→p k=true):=by
  have run:∀(j k q:Nat),k+j=n→∃r:Bool,iter b (q+1+j) (k:Int)=some r∧(r=true↔∀i,k≤i→i<n→p i=true):=by
    intro j
    induction j with
    |zero=>
      intro k q hk
      obtain rfl:k=n:=by omega
      rw[X0m,Y1v,fin]
      exact⟨true,rfl,by simp;omega⟩
    |succ j ih=>
      intro k q hk
      rw[show q+1+(j+1)=(q+1+j)+1 by omega,Y1v,step _ k (by omega)]
      by_cases hp:p k=true
      · rw[if_pos hp]
        obtain⟨r,e1,e2⟩:=ih (k+1) q (by omega)
        refine⟨r,e1,e2.trans ⟨fun h i h1 h2=> ?_,fun h i h1 h2=>h i (by omega) h2⟩⟩
        by_cases e:i=k
        · rw[e];exact hp
        · exact h i (by omega) h2
      · rw[if_neg hp]
        exact ⟨false, rfl, by constructor
                              · intro h;cases h
                              · intro h;exact absurd (h k (Xn _) (by omega)) hp⟩
  obtain⟨r,e1,e2⟩:=run n 0 (999999-n) (by omega)
  rw[show 999999-n+1+n=1000000 by omega] at e1
  exact⟨r,e1,e2.trans ⟨fun h k hk=>h k (Nat.zero_le _) hk,fun h k _ hk=>h k hk⟩⟩
theorem Made_cells{t0:List Int}(h0:okList (okInt .u8) t0):∃T:Tr,f_R09_Made t0=some T.flat∧T.good 5∧T.flat.length≤60∧T.dep≤5∧Y1r T.flat=some (T.cells [],0)∧(T.cells []).length≤6000:=by
  have⟨f,hf,hT,hl⟩:=Made_tree h0;obtain⟨T,rfl,hg⟩:=IsT_good 5 f hT;have⟨w1,w2⟩:=Write_cells hg (by omega) hl;exact⟨T,hf,hg,hl,good_dep_le 5 T hg,w1,w2⟩
end Go.Proofs.YtfpcbalkioolmaaDoor
