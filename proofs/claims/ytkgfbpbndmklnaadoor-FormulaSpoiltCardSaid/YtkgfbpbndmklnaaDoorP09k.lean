/- Own work. -/
import Derived.Test.YtkgfbpbndmklnaaDoorQuE
import Derived.Test.YtkgfbpbndmklnaaDoorFm7
set_option linter.unusedSimpArgs false
set_option linter.unusedVariables false
namespace Go.Proofs.YtkgfbpbndmklnaaDoor
open Go.Abs
theorem ar_okN{n:Y2}{k:Nat}(h:ar n=some k):okN n:=by
  have hc:=ar_cases h;have⟨o,N⟩:=n;have:0≤N∧N≤99999:=by
    unfold ar at h;simp only at h
    repeat' split at h
    all_goals first
      |omega
      |cases h
  simp only at hc;exact⟨⟨by simp only;omega,by simp only;omega⟩,⟨by simp only;omega,by simp only;omega⟩⟩
mutual
theorem good_okN:∀(d:Nat) (T:Tr),Y4c d T→∀n∈T.flat,okN n
  |0,T,h,_,_=>by cases T;exact h.elim
  |d+1,.node n ks,h,m,hm=>by
    rw[Tr.flat,Xm] at hm;rcases hm with rfl|hm
    · exact ar_okN h.1
    · exact goodL_okN d ks h.2.1 m hm
theorem goodL_okN:∀(d:Nat) (ks:List Tr),goodL d ks→∀n∈Y33 ks,okN n
  |d,[],_,m,hm=>by rw[Y33] at hm;cases hm
  |d,k::ks,h,m,hm=>by
    rw[Y33,Xw] at hm;rcases hm with hm|hm
    · exact good_okN d k h.1 m hm
    · exact goodL_okN d ks h.2 m hm
end
theorem tx_pos{d:Nat}{T:Tr}(h:Y4c d T):1≤T.tx.length:=by
  rcases Nat.eq_zero_or_pos T.tx.length with e|e
  · have:=rdF_text h;have hl:=rdF_loc (t':=B T.tx) this;have h2:=(hl.2 _ _ rfl).1;rw[B_size,e] at h2;omega
  · exact e
theorem depL_flat:∀(ks:List Tr) (v:Int),(∀k∈ks,k.dep≤(k.flat.length:Nat))→depL v ks≤v+1∨depL v ks≤(Y33 ks).length+1
  |[],v,_=>.inl (by rw[depL];omega)
  |k::ks,v,h=>by
    have hk:=h k (by simp);rw[depL,Y33,X4];have:=depL_flat ks (if k.dep+1>v then k.dep+1 else v) fun x hx=>h x (by simp[hx]);have fp:=flat_pos k
    by_cases hc:k.dep+1>v
    · rw[if_pos hc] at this⊢
      right
      rcases this with h|h
      · have:depL (k.dep+1) ks≤k.dep+1∨1≤(Y33 ks).length:=by
          cases ks with
          |nil=>left;rw[depL];omega
          |cons y ys=>right;rw[Y33,X4];have:=flat_pos y;omega
        push_cast;omega
      · push_cast;omega
    · rw[if_neg hc] at this⊢;rcases this with h|h
      · exact .inl h
      · right;push_cast;omega
theorem dep_flat:∀x:Tr,x.dep≤(x.flat.length:Nat)
  | .node n ks=>by
    have h:∀k∈ks,k.dep≤(k.flat.length:Nat):=fun k hk=>dep_flat k;rw[Tr.dep,Tr.flat,X7];have h1:=depL_flat ks 1 h;cases ks with
    |nil=>rw[depL];push_cast;omega
    |cons y ys=>
      have:1≤(Y33 (y::ys)).length:=by rw[Y33,X4];have:=flat_pos y;omega
      push_cast;omega
end Go.Proofs.YtkgfbpbndmklnaaDoor
