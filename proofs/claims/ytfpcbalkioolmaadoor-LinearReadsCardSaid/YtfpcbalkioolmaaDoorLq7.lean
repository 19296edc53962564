/- Own work. -/
import Derived.Test.YtfpcbalkioolmaaDoorLqB
import Derived.Test.YtfpcbalkioolmaaDoorLr15
set_option linter.unusedSimpArgs false
set_option linter.unusedVariables false
namespace Go.Proofs.YtfpcbalkioolmaaDoor
open Go.Abs
theorem depL_le(d:Int):∀(ks:List Tr) (v:Int),v≤d→(∀k∈ks,k.dep+1≤d)→depL v ks≤d
 |[],v,h,_=>h
 |k::ks,v,h,hk=>by
  rw[depL];refine depL_le d ks _ ?_ fun x hx=>hk x (by simp[hx]);have:=hk k (by simp)
  split<;>omega
theorem good_dep_le:∀(d:Nat) (T:Tr),Tr.good d T→T.dep≤d
 |0,T,h=>by cases T;exact h.elim
 |d+1,.node n ks,h=>by
  rw[Tr.dep];exact depL_le _ _ _ (by omega) fun k hk=>by have:=good_dep_le d k (Y3u.1 h.2.1 k hk);omega
theorem Run.len{t:List Int}{b:Bool}{q r:Qs}(h:Run t b q r):(q.c.wr=true∨(q.dn=true∧q.f.ts.length=q.f.ss.length+1)∨(q.dn=false∧QI t q b))→r.c.wr=false→r.f.ts.length=r.f.ss.length+1:=by
 induction h with
 |stop hs=>
  intro hq hw;rcases hq with h|h|h
  ·rw[hw] at h;cases h
  ·exact h.2
  ·rcases hs with hs|hs
   ·rw[hw] at hs;cases hs
   ·rw[h.1] at hs;cases hs
 |@step b q r hs hr ih=>
  intro hq hw;refine ih ?_ hw;have hQ:QI t q b:=by
   rcases hq with h|h|h
   ·exact absurd (.inl h) hs
   ·exact absurd (.inr h.1) hs
   ·exact h.2
  rcases step_inv hQ hs with h|h|h
  ·exact .inl h
  ·exact .inr (.inr ⟨h.1,h.2.1⟩)
  ·refine .inr (.inl ⟨h.1, ?_⟩);rw[h.2.2.2.2.1];have hb:=h.2.1;subst hb;have hQ0:QJ t q 1 0:=hQ;exact hQ0.len
theorem m_len(t:List Int)(hw:(mRun t).c.wr=false):(mRun t).f.ts.length=(mRun t).f.ss.length+1:=(run_m t).len (.inr (.inr ⟨rfl,q00_QI t⟩)) hw
theorem sz_top{t:List Int}{us:List Tr}{rs:List Int}{T:Tr}(hl:us.length=rs.length+1)(hJ:qJ 0 rs us=([T],[])):ndL us+rs.length=nd T:=by
 have⟨h1,h2⟩:=qJ_len 0 rs us (by omega);rw[hJ] at h2;simp only[Y2x,Y46,Xh] at h2;omega
theorem read_good{d:Nat}{T:Tr}(h:T.good d):mRead (T.cells [])=if 60<T.flat.length then([],0,2) else if 8<T.dep then([],0,2) else(T.flat,(((T.cells []).length:Nat):Int),(0:Int)):=by
 have⟨us,rs,b,e,hJ⟩:=run_cells h;have hl:=m_len (T.cells []) (by rw[e]);rw[e] at hl;have hz:=sz_top (t:=[]) (T:=T) (us:=us) (rs:=rs) hl hJ;have eo:qOpI (⟨⟨((T.cells []).length:Nat),false⟩,[],⟨-1,[],us,rs,0,0,0⟩,[],b,true⟩:Qs)=T:=qOpI_of hJ;have es:szQ (⟨⟨((T.cells []).length:Nat),false⟩,[],⟨-1,[],us,rs,0,0,0⟩,[],b,true⟩:Qs)+rs.length=T.flat.length:=by
  show 0+(ndL us+ndL [])+rs.length=nd T;rw[Y46];omega
 rw[mRead,e,mFin,if_neg (by simp),eo];simp only[es]
theorem cells_inj{d e:Nat}{T U:Tr}(h:T.good d)(g:U.good e)(hc:T.cells []=U.cells []):T=U:=by
 have⟨us,rs,b,e1,hJ⟩:=run_cells h;have⟨us',rs',b',e2,hJ'⟩:=run_cells g;rw[hc,e2] at e1;simp only[Qs.mk.injEq,Qf.mk.injEq] at e1;have⟨_,_,⟨_,_,h3,h4,_⟩,_⟩:=e1;rw[h3,h4,hJ] at hJ';simp only[Prod.mk.injEq,List.cons.injEq] at hJ';exact hJ'.1.1
end Go.Proofs.YtfpcbalkioolmaaDoor
