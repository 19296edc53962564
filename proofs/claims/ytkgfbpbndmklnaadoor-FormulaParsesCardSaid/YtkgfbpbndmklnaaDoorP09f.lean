/- Own work. -/
import Derived.Test.YtkgfbpbndmklnaaDoorQuE
import Derived.Test.YtkgfbpbndmklnaaDoorP09e
set_option linter.unusedSimpArgs false
set_option linter.unusedVariables false
namespace Go.Proofs.YtkgfbpbndmklnaaDoor
open Go.Abs
theorem depL_flat:∀(ks:List Tr) (v:Int),(∀k∈ks,k.dep≤(k.flat.length:Nat))→depL v ks≤v+1∨depL v ks≤(Y1a ks).length+1
  |[],v,_=>.inl (by rw[depL];omega)
  |k::ks,v,h=>by
    have hk:=h k (by simp);rw[depL,Y1a,X4];have:=depL_flat ks (if k.dep+1>v then k.dep+1 else v) fun x hx=>h x (by simp[hx]);have fp:=flat_pos k
    by_cases hc:k.dep+1>v
    · rw[if_pos hc] at this⊢
      right
      rcases this with h|h
      · have:depL (k.dep+1) ks≤k.dep+1∨1≤(Y1a ks).length:=by
          cases ks with
          |nil=>left;rw[depL];omega
          |cons y ys=>right;rw[Y1a,X4];have:=flat_pos y;omega
        push_cast;omega
      · push_cast;omega
    · rw[if_neg hc] at this⊢;rcases this with h|h
      · exact .inl h
      · right;push_cast;omega
theorem dep_flat:∀x:Tr,x.dep≤(x.flat.length:Nat)
  | .node n ks=>by
    have h:∀k∈ks,k.dep≤(k.flat.length:Nat):=fun k hk=>dep_flat k;rw[Tr.dep,Tr.flat,Xa];have h1:=depL_flat ks 1 h;cases ks with
    |nil=>rw[depL];push_cast;omega
    |cons y ys=>
      have:1≤(Y1a (y::ys)).length:=by rw[Y1a,X4];have:=flat_pos y;omega
      push_cast;omega
theorem valid9{x:Tr}(g:Gd x):f_R09_Valid x.flat=some (decide ((x.flat.length:Int)≤60∧x.dep≤8)):=by
  unfold f_R09_Valid
  by_cases hl:(x.flat.length:Int)≤60
  · have hd:=dep_flat x;rw[decide_eq_true hl,cond_true,Tree_ok (good_IsT _ x g) (by omega),X2];simp only[cond_true];rw[R09_Depth_ok (by omega) g (by omega),X2];congr 1;rw[X0w,decide_eq_true_eq,decide_eq_true_eq];exact⟨fun h=>⟨hl,h⟩,fun h=>h.2⟩
  · rw[decide_eq_false hl,decide_eq_false fun h=>hl h.1]
    rfl
theorem parsers{t:ByteArray}(hs:t.size≤40000):∃a:List Y5×Int×Int,Y1i t=some a∧Y5j t=some a∧a.1.length≤60∧(a.2.2=0→∃x:Tr,rdF t= .ok [x] (t.size:Nat)∧a.1=x.flat∧Gd x∧x.dep≤8):=by
  rcases stops_or t with⟨n,h⟩|⟨x,h⟩
  · exact⟨_,h.parse (by omega),parse9_stop hs h,by simp,fun h=>by cases h⟩
  · have g:=rdF_gd h;have hp:=parse_read (by omega) h;have h9:=parse9_read hs h;rw[valid9 g,X2] at h9
    by_cases hc:60<(x.flat.length:Int)∨8<x.dep
    · rw[if_pos hc] at hp;rw[decide_eq_false (by omega)] at h9;exact⟨_,hp,h9,by simp,fun h=>by cases h⟩
    · rw[if_neg hc] at hp;rw[decide_eq_true (by omega)] at h9;exact⟨_,hp,h9,by simp only;omega,fun _=>⟨x,h,rfl,g,by omega⟩⟩
theorem strOf_sz(l:List Int):(strOf l).size=l.length:=by rw[strOf_B,B_size,toU,Xr]
end Go.Proofs.YtkgfbpbndmklnaaDoor
