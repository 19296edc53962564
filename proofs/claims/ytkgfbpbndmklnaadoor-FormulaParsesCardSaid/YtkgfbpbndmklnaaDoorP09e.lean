/- Own work. -/
import Derived.Test.YtkgfbpbndmklnaaDoorQuE
set_option linter.unusedSimpArgs false
set_option linter.unusedVariables false
namespace Go.Proofs.YtkgfbpbndmklnaaDoor
open Go.Abs
theorem loop_all{b:(Int→Option Bool)→Int→Option Bool}(n:Nat)(p:Nat→Bool)(hn:n<900000)(step:∀(loop:Int→Option Bool) (k:Nat),k<n→b loop (k:Int)=if p k=true then loop ((k+1:Nat):Int) else some false)(fin:∀loop:Int→Option Bool,b loop (n:Int)=some true):
    ∃r:Bool,iter b 1000000 (0:Int)=some r∧(r=true↔∀k,k<n→p k=true):=by
  have run:∀(j k q:Nat),k+j=n→∃r:Bool,iter b (q+1+j) (k:Int)=some r∧(r=true↔∀i,k≤i→i<n→p i=true):=by
    intro j
    induction j with
    |zero=>
      intro k q hk
      obtain rfl:k=n:=by omega
      rw[X0y,Yv,fin]
      exact⟨true,rfl,by simp;omega⟩
    |succ j ih=>
      intro k q hk
      rw[show q+1+(j+1)=(q+1+j)+1 by omega,Yv,step _ k (by omega)]
      by_cases hp:p k=true
      · rw[if_pos hp]
        obtain⟨r,e1,e2⟩:=ih (k+1) q (by omega)
        refine⟨r,e1,e2.trans ⟨fun h i h1 h2=> ?_,fun h i h1 h2=>h i (by omega) h2⟩⟩
        by_cases e:i=k
        · rw[e];exact hp
        · exact h i (by omega) h2
      · rw[if_neg hp]
        exact ⟨false, rfl, by constructor
                              · intro h;cases h
                              · intro h;exact absurd (h k (Xf _) (by omega)) hp⟩
  obtain⟨r,e1,e2⟩:=run n 0 (999999-n) (by omega)
  rw[show 999999-n+1+n=1000000 by omega] at e1
  exact⟨r,e1,e2.trans ⟨fun h k hk=>h k (Nat.zero_le _) hk,fun h k _ hk=>h k hk⟩⟩
theorem ext_getD{α:Type}{a b:List α}{d:α}(hl:a.length=b.length)(h:∀k,k<a.length→a.getD k d=b.getD k d):a=b:=by
  refine List.ext_getElem hl fun i h1 h2=> ?_;have:=h i h1;rw[X8,X8,X1 h1,X1 h2] at this;exact this
theorem Same_iff{a b:List Y5}(ha:a.length≤1000):∃r:Bool,f_R09_Same a b=some r∧(r=true↔a=b):=by
  unfold f_R09_Same
  by_cases hl:a.length=b.length
  · rw[cn_neg (by omega)]
    obtain⟨r,e1,e2⟩:=loop_all (b:=fun loop s=>Y3z a b loop s) a.length (fun k=>decide (a.getD k Yd=b.getD k Yd)) (by omega) (fun loop k hk=>by
      show Y3z a b loop (k:Int)=_
      unfold Y3z
      rw[cd_pos (by omega),Y1j (by omega),Y1j (by omega),X02]
      by_cases he:a.getD k Yd=b.getD k Yd
      · rw[he]
        have c0:xor true (([(b.getD k Yd).Op==(b.getD k Yd).Op,(b.getD k Yd).N==(b.getD k Yd).N]:List Bool).all id)=false:=by rw[beq_self_eq_true,beq_self_eq_true];rfl
        rw[c0,cond_false,Y49 (by omega),if_pos (decide_eq_true rfl)];rfl
      · have c0:xor true (([(a.getD k Yd).Op==(b.getD k Yd).Op,(a.getD k Yd).N==(b.getD k Yd).N]:List Bool).all id)=true:=by
          have:(([(a.getD k Yd).Op==(b.getD k Yd).Op,(a.getD k Yd).N==(b.getD k Yd).N]:List Bool).all id)=false:=by
            apply Bool.eq_false_iff.2
            intro h
            simp only[List.all_cons,List.all_nil,id,Bool.and_true,X5,beq_iff_eq] at h
            refine he ?_
            cases hx:a.getD k Yd
            cases hy:b.getD k Yd
            rw[hx,hy] at h
            obtain⟨h1,h2⟩:=h
            simp only at h1 h2
            rw[h1,h2]
          rw[this];rfl
        rw[c0,cond_true,if_neg (by rw[decide_eq_true_eq];exact he)]) (fun loop=>by
      show Y3z a b loop (a.length:Int)=_
      unfold Y3z
      rw[Y69 (by omega)])
    refine⟨r,e1,e2.trans ⟨fun h=>ext_getD (d:=Yd) hl fun k hk=>of_decide_eq_true (h k hk),fun h k hk=>by rw[h];exact decide_eq_true rfl⟩⟩
  · rw[cn_pos (by omega)]
    exact ⟨false, rfl, by constructor
                          · intro h;cases h
                          · intro h;exact absurd (by rw[h]) hl⟩
end Go.Proofs.YtkgfbpbndmklnaaDoor
