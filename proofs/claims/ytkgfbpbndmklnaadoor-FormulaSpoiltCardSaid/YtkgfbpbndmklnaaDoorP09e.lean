/- Own work. -/
import Derived.Test.YtkgfbpbndmklnaaDoorQuE
set_option linter.unusedSimpArgs false
set_option linter.unusedVariables false
namespace Go.Proofs.YtkgfbpbndmklnaaDoor
open Go.Abs
theorem loop_all{b:(Int→Option Bool)→Int→Option Bool}(n:Nat)(p:Nat→Bool)(hn:n<900000)(step:∀(loop:Int→Option Bool) (k:Nat),k<n→b loop (k:Int)=if p k=true then loop ((k+1:Nat):Int) else some false)(fin:∀loop:Int→Option Bool,b loop (n:Int)=some true):
    ∃r:Bool,iter b 1000000 (0:Int)=some r∧(r=true↔∀k,k<n→p k=true):=by
  have run:∀(j k q:Nat),k+j=n→∃r:Bool,iter b (q+1+j) (k:Int)=some r∧(r=true↔∀i,k≤i→i<n→p i=true):=by
    intro j
    induction j with
    |zero=>
      intro k q hk
      obtain rfl:k=n:=by omega
      rw[X0h,Yj,fin]
      exact⟨true,rfl,by simp;omega⟩
    |succ j ih=>
      intro k q hk
      rw[show q+1+(j+1)=(q+1+j)+1 by omega,Yj,step _ k (by omega)]
      by_cases hp:p k=true
      · rw[if_pos hp]
        obtain⟨r,e1,e2⟩:=ih (k+1) q (by omega)
        refine⟨r,e1,e2.trans ⟨fun h i h1 h2=> ?_,fun h i h1 h2=>h i (by omega) h2⟩⟩
        by_cases e:i=k
        · rw[e];exact hp
        · exact h i (by omega) h2
      · rw[if_neg hp]
        exact ⟨false, rfl, by constructor
                              · intro h;cases h
                              · intro h;exact absurd (h k (Xe _) (by omega)) hp⟩
  obtain⟨r,e1,e2⟩:=run n 0 (999999-n) (by omega)
  rw[show 999999-n+1+n=1000000 by omega] at e1
  exact⟨r,e1,e2.trans ⟨fun h k hk=>h k (Nat.zero_le _) hk,fun h k _ hk=>h k hk⟩⟩
theorem ext_getD{α:Type}{a b:List α}{d:α}(hl:a.length=b.length)(h:∀k,k<a.length→a.getD k d=b.getD k d):a=b:=by
  refine List.ext_getElem hl fun i h1 h2=> ?_;have:=h i h1;rw[X6,X6,X2 h1,X2 h2] at this;exact this
theorem Same_iff{a b:List Y2}(ha:a.length≤1000):∃r:Bool,f_R09_Same a b=some r∧(r=true↔a=b):=by
  unfold f_R09_Same
  by_cases hl:a.length=b.length
  · rw[cn_neg (by omega)]
    obtain⟨r,e1,e2⟩:=loop_all (b:=fun loop s=>Y4j a b loop s) a.length (fun k=>decide (a.getD k Yf=b.getD k Yf)) (by omega) (fun loop k hk=>by
      show Y4j a b loop (k:Int)=_
      unfold Y4j
      rw[Y3g (by omega),Y14 (by omega),Y14 (by omega),Xv]
      by_cases he:a.getD k Yf=b.getD k Yf
      · rw[he]
        have c0:xor true (([(b.getD k Yf).Op==(b.getD k Yf).Op,(b.getD k Yf).N==(b.getD k Yf).N]:List Bool).all id)=false:=by rw[beq_self_eq_true,beq_self_eq_true];rfl
        rw[c0,cond_false,Y2k (by omega),if_pos (decide_eq_true rfl)];rfl
      · have c0:xor true (([(a.getD k Yf).Op==(b.getD k Yf).Op,(a.getD k Yf).N==(b.getD k Yf).N]:List Bool).all id)=true:=by
          have:(([(a.getD k Yf).Op==(b.getD k Yf).Op,(a.getD k Yf).N==(b.getD k Yf).N]:List Bool).all id)=false:=by
            apply Bool.eq_false_iff.2
            intro h
            simp only[List.all_cons,List.all_nil,id,Bool.and_true,X5,beq_iff_eq] at h
            refine he ?_
            cases hx:a.getD k Yf
            cases hy:b.getD k Yf
            rw[hx,hy] at h
            obtain⟨h1,h2⟩:=h
            simp only at h1 h2
            rw[h1,h2]
          rw[this];rfl
        rw[c0,cond_true,if_neg (by rw[decide_eq_true_eq];exact he)]) (fun loop=>by
      show Y4j a b loop (a.length:Int)=_
      unfold Y4j
      rw[Y3h (by omega)])
    refine⟨r,e1,e2.trans ⟨fun h=>ext_getD (d:=Yf) hl fun k hk=>of_decide_eq_true (h k hk),fun h k hk=>by rw[h];exact decide_eq_true rfl⟩⟩
  · rw[cn_pos (by omega)]
    exact ⟨false, rfl, by constructor
                          · intro h;cases h
                          · intro h;exact absurd (by rw[h]) hl⟩
theorem Made_gd{t0:List Int}(h0:okList (okInt .u8) t0):∃T:Tr,f_R09_Made t0=some T.flat∧Y4c 5 T∧T.flat.length≤60∧T.tx.length+1≤600:=by
  have⟨f,hf,hT,hl⟩:=Made_tree h0;obtain⟨T,rfl,hg⟩:=IsT_good 5 f hT;have:=tx_len T;exact⟨T,hf,hg,hl,by omega⟩
end Go.Proofs.YtkgfbpbndmklnaaDoor
