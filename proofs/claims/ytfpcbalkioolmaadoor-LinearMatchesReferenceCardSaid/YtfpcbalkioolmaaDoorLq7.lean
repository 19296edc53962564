/- Own work. -/
import Derived.Test.YtfpcbalkioolmaaDoorLqB
import Derived.Test.YtfpcbalkioolmaaDoorLr15
set_option linter.unusedSimpArgs false
set_option linter.unusedVariables false
namespace Go.Proofs.YtfpcbalkioolmaaDoor
open Go.Abs
theorem depL_ge:∀(ks:List Tr) (d:Int),d≤depL d ks
 |[],d=>by rw[depL];omega
 |k::ks,d=>by
  rw[depL];have:=depL_ge ks (if k.dep+1>d then k.dep+1 else d)
  split at this<;>split<;>omega
theorem dep_pos(x:Tr):1≤x.dep:=by cases x;rw[Tr.dep];exact depL_ge _ _
theorem depL_le(d:Int):∀(ks:List Tr) (v:Int),v≤d→(∀k∈ks,k.dep+1≤d)→depL v ks≤d
 |[],v,h,_=>h
 |k::ks,v,h,hk=>by
  rw[depL];refine depL_le d ks _ ?_ fun x hx=>hk x (by simp[hx]);have:=hk k (by simp)
  split<;>omega
theorem good_dep_le:∀(d:Nat) (T:Tr),Tr.good d T→T.dep≤d
 |0,T,h=>by cases T;exact h.elim
 |d+1,.node n ks,h=>by
  rw[Tr.dep];exact depL_le _ _ _ (by omega) fun k hk=>by have:=good_dep_le d k (Y45.1 h.2.1 k hk);omega
theorem depL_mem:∀(ks:List Tr) (v:Int),∀k∈ks,k.dep+1≤depL v ks
 |x::ks,v,k,hk=>by
  rw[depL];rcases Xb.1 hk with rfl|hk
  ·have:=depL_ge ks (if k.dep+1>v then k.dep+1 else v)
   split at this<;>split<;>omega
  ·exact depL_mem ks _ k hk
theorem good_at:∀(d:Nat) (T:Tr),Tr.good d T→∀e:Nat,T.dep≤e→Tr.good e T
 |0,T,h,_,_=>by cases T;exact h.elim
 |d+1,.node n ks,h,e,he=>by
  have hp:=dep_pos (.node n ks);obtain⟨e,rfl⟩:∃m,e=m+1:=⟨e-1,by omega⟩;refine⟨h.1,Y45.2 fun k hk=>good_at d k (Y45.1 h.2.1 k hk) e ?_,h.2.2⟩;rw[Tr.dep] at he;have:=depL_mem ks 1 k hk;omega
def Gd (x:Tr):Prop:=Tr.good x.dep.toNat x
theorem Gd.of{d:Nat}{x:Tr}(h:Tr.good d x):Gd x:=good_at d x h _ (by omega)
theorem Gd.node{n:Y1}{ks:List Tr}(ha:ar n=some ks.length)(hk:∀k∈ks,Gd k)(hm:∀(i:Nat) (k:Tr),ks[i]? =some k→adm n i (hd k.flat)=true):Gd (.node n ks):=by
 have hp:=dep_pos (.node n ks);refine Gd.of (d:=(Tr.node n ks).dep.toNat-1+1) ⟨ha,Y45.2 fun k hk'=>good_at _ k (hk k hk') _ ?_,hm⟩;have:=depL_mem ks 1 k hk';rw[Tr.dep];omega
theorem adm_any{n:Y1}{i:Nat}{m:Y1}(h1:¬(2≤n.Op∧n.Op≤5))(h2:n.Op≠12):adm n i m=true:=by rw[adm,if_neg h1,if_neg h2]
theorem Gd.leaf{n:Y1}(ha:ar n=some 0):Gd (.node n []):=Gd.node ha (fun k hk=>by cases hk) (fun i k hk=>by simp at hk)
theorem Run.len{t:List Int}{b:Bool}{q r:Qs}(h:Run t b q r):(q.c.wr=true∨(q.dn=true∧q.f.ts.length=q.f.ss.length+1)∨(q.dn=false∧QI t q b))→r.c.wr=false→r.f.ts.length=r.f.ss.length+1:=by
 induction h with
 |stop hs=>
  grind
 |@step b q r hs hr ih=>
  intro hq hw;refine ih ?_ hw;have hQ:QI t q b:=by
   simp_all
  rcases step_inv hQ hs with h|h|h
  ·grind
  ·simp_all
  ·refine .inr (.inl ⟨h.1, ?_⟩);rw[h.2.2.2.2.1];have hb:=h.2.1;subst hb;have hQ0:QJ t q 1 0:=hQ;exact hQ0.len
theorem m_len(t:List Int)(hw:(mRun t).c.wr=false):(mRun t).f.ts.length=(mRun t).f.ss.length+1:=(run_m t).len (.inr (.inr ⟨rfl,q00_QI t⟩)) hw
theorem sz_top{t:List Int}{us:List Tr}{rs:List Int}{T:Tr}(hl:us.length=rs.length+1)(hJ:qJ 0 rs us=([T],[])):ndL us+rs.length=nd T:=by
 have⟨h1,h2⟩:=qJ_len 0 rs us (by omega);rw[hJ] at h2;simp only[Y10,Y27,Xd] at h2;omega
end Go.Proofs.YtfpcbalkioolmaaDoor
