/- Own work. -/
import Derived.Test.YtfpcbalkioolmaaDoorLq7
import Derived.Test.YtfpcbalkioolmaaDoorW8
import Derived.Test.YtfpcbalkioolmaaDoorFmX
import Derived.Test.YtfpcbalkioolmaaDoorLsB
set_option linter.unusedSimpArgs false
set_option linter.unusedVariables false
namespace Go.Proofs.YtfpcbalkioolmaaDoor
open Go.Abs
theorem sanity_true:f_L10_sanity=some true:=by kernel_rfl
theorem same_loop(t0 t1:List Int)(hl:t0.length=t1.length)(hb:t0.length<1000000000):∀(n i:Nat),t0.length<n+i→i≤t0.length→
  iter (fun loop (s:Int)=>f_R01_Same_b1 t0 t1 loop s) n (i:Int)=some (decide (t0.drop i=t1.drop i))
 |0,i,h1,h2=>by omega
 |n+1,i,h1,h2=>by
  rw[Yw];rw[f_R01_Same_b1]
  by_cases h:i<t0.length
  ·have ih:=same_loop t0 t1 hl hb n (i+1) (by omega) (by omega);rw[Y2q (by grind),Y2s (by omega),Y2s (by omega),Y1k (by omega)];rw[getD_drop t0 i 0 h,getD_drop t1 i 0 (by omega)];simp only[Xl]
   by_cases he:t0.getD i 0=t1.getD i 0
   ·rw[Y3w (by simp_all)];rw[show((i:Int)+1)=((i+1:Nat):Int) from by omega,ih];simp only[he,List.cons.injEq,true_and]
   ·rw[Y2q (bne_iff_ne.2 he)];have:¬(t0.getD i 0::t0.drop (i+1)=t1.getD i 0::t1.drop (i+1)):=fun e=>he (List.cons.inj e).1;rw[decide_eq_false this]
  ·rw[Y3w (by grind)]
   grind
theorem f_same(t0 t1:List Int)(hb:t0.length<900000):Y6r t0 t1=some (decide (t0=t1)):=by
 unfold Y6r
 by_cases hl:t0.length=t1.length
 ·rw[Y3w (by simp[hl])];have:=same_loop t0 t1 hl (by omega) 1000000 0 (by omega) (by omega)
  simp_all
 ·rw[Y2q (by grind)];have:¬t0=t1:=fun e=>hl (by rw[e])
  grind
theorem take_stepI(l:List Int)(i:Nat)(h:i<l.length):l.take (i+1)=l.take i++[l.getD i 0]:=by
 simp_all
theorem cells_loop(t:List Int)(m:Nat)(hm:m<100000):∀(n i:Nat),m<n+i→i≤t.length→i≤m→
  iter (fun loop (s:(List Int)×Int)=>f_R01_Cells_b1 t (m:Int) loop s.1 s.2) n ((t.take i).map (Int.tmod · 64),(i:Int))=some ((t.take m).map (Int.tmod · 64))
 |0,i,h1,h2,h3=>by omega
 |n+1,i,h1,h2,h3=>by
  rw[Yw,f_R01_Cells_b1];dsimp only
  by_cases hi:i<t.length∧i<m
  ·have ih:=cells_loop t m hm n (i+1) (by omega) (by omega) (by omega);rw[take_stepI t i hi.1,X0j,List.map_singleton] at ih;rw[Y2q (by simp_all),Y2s (by omega),Y1j (by grind),Y1k (by omega),Xl];exact ih
  ·rw[Y3w (by simp_all)]
   grind
theorem f_cells(t:List Int)(m:Nat)(hm:m<100000):f_R01_Cells t (m:Int)=some ((t.take m).map (Int.tmod · 64)):=by
 have:=cells_loop t m hm 1000000 0 (by omega) (by omega) (by omega);exact this
theorem loop_all{b:(Int→Option Bool)→Int→Option Bool}(n:Nat)(p:Nat→Bool)(hn:n<900000)(step:∀(loop:Int→Option Bool) (k:Nat),k<n→b loop (k:Int)=if p k=true then loop ((k+1:Nat):Int) else some false)(fin:∀loop:Int→Option Bool,b loop (n:Int)=some true):
  ∃r:Bool,iter b 1000000 (0:Int)=some r∧(r=true↔∀k,k<n→p k=true):=by
 have run:∀(j k q:Nat),k+j=n→∃r:Bool,iter b (q+1+j) (k:Int)=some r∧(r=true↔∀i,k≤i→i<n→p i=true):=by
  intro j
  induction j with
  |zero=>
   intro k q hk;obtain rfl:k=n:=by omega
   rw[X0f,Yw,fin]
   grind
  |succ j ih=>
   intro k q hk;rw[show q+1+(j+1)=(q+1+j)+1 by omega,Yw,step _ k (by omega)]
   by_cases hp:p k=true
   ·rw[if_pos hp];have⟨r,e1,e2⟩:=ih (k+1) q (by omega)
    grind
   ·rw[if_neg hp]
    grind
 have⟨r,e1,e2⟩:=run n 0 (999999-n) (by omega)
 grind
theorem ext_getD{α:Type}{a b:List α}{d:α}(hl:a.length=b.length)(h:∀k,k<a.length→a.getD k d=b.getD k d):a=b:=by
 refine List.ext_getElem hl fun i h1 h2=> ?_
 simp_all
theorem Same_iff{a b:List Y1}(ha:a.length≤1000):∃r:Bool,Y8c a b=some r∧(r=true↔a=b):=by
 unfold Y8c
 by_cases hl:a.length=b.length
 ·rw[cn_neg (by omega)];have⟨r,e1,e2⟩:=loop_all (b:=fun loop s=>Y70 a b loop s) a.length (fun k=>decide (a.getD k Yh=b.getD k Yh)) (by omega) (fun loop k hk=>by
   show Y70 a b loop (k:Int)=_;unfold Y70;rw[Y5v (by omega),Y2s (by omega),Y2s (by omega),Xl]
   by_cases he:a.getD k Yh=b.getD k Yh
   ·rw[he];have c0:xor true (([(b.getD k Yh).Op==(b.getD k Yh).Op,(b.getD k Yh).N==(b.getD k Yh).N]:List Bool).all id)=false:=by simp_all
    rw[c0,cond_false,Y1k (by omega),if_pos (decide_eq_true rfl)];rfl
   ·have c0:xor true (([(a.getD k Yh).Op==(b.getD k Yh).Op,(a.getD k Yh).N==(b.getD k Yh).N]:List Bool).all id)=true:=by
     have:(([(a.getD k Yh).Op==(b.getD k Yh).Op,(a.getD k Yh).N==(b.getD k Yh).N]:List Bool).all id)=false:=by
      apply X0o.2;intro h;simp only[X1a,List.all_nil,id,X1r,X2,beq_iff_eq] at h;refine he ?_;cases hx:a.getD k Yh;cases hy:b.getD k Yh;rw[hx,hy] at h;have⟨h1,h2⟩:=h;simp only at h1 h2;rw[h1,h2]
     grind
    rw[c0,cond_true,if_neg (by simp_all)]) (fun loop=>by
   show Y70 a b loop (a.length:Int)=_;unfold Y70;rw[Y56 (by omega)])
  refine⟨r,e1,e2.trans ⟨fun h=>ext_getD (d:=Yh) hl fun k hk=>of_decide_eq_true (h k hk),fun h k hk=>by simp_all⟩⟩
 ·rw[cn_pos (by omega)]
  grind
theorem Made_cells{t0:List Int}(h0:okList (okInt .u8) t0):∃T:Tr,f_R09_Made t0=some T.flat∧T.good 5∧T.flat.length≤60∧T.dep≤5∧Y2w T.flat=some (T.cells [],0)∧(T.cells []).length≤6000:=by
 have⟨f,hf,hT,hl⟩:=Made_tree h0;obtain⟨T,rfl,hg⟩:=IsT_good 5 f hT;have⟨w1,w2⟩:=Write_cells hg (by omega) hl;exact⟨T,hf,hg,hl,good_dep_le 5 T hg,w1,w2⟩
theorem dg_nn(n:Int):0≤dg n:=by
 have h:∀i:Nat,0≤Y8.getD i 0:=fun i=>by
  by_cases hi:i<26
  ·have:∀i:Nat,i<26→0≤Y8.getD i 0:=by decide
   simp_all
  ·rw[X6,X12 (by have:Y8.length=26:=rfl;omega)];simp
 exact h _
theorem digs_nn(n:Int):∀x∈digs n,0≤x:=fun x hx=>by
 unfold digs dgIf at hx;simp only[Xi,X8] at hx;rcases hx with hx|hx|hx|hx|hx
 ·split at hx
  ·rw[X8.1 hx];exact dg_nn _
  ·cases hx
 ·split at hx
  ·rw[X8.1 hx];exact dg_nn _
  ·cases hx
 ·split at hx
  ·rw[X8.1 hx];exact dg_nn _
  ·cases hx
 ·split at hx
  ·rw[X8.1 hx];exact dg_nn _
  ·cases hx
 ·rw[hx];exact dg_nn _
theorem kids_nn(lv:List Int)(n:Y1):∀(ks:List Tr) (i:Nat),(∀k∈ks,∀x∈k.cells lv,0≤x)→∀x∈Y1b lv n i ks,0≤x
 |[],i,_,x,hx=>by rw[Y1b] at hx;cases hx
 |k::ks,i,h,x,hx=>by
  rw[Y1b,Xi,Xi] at hx;rcases hx with(hx|hx)|hx
  ·have:∀y∈sepC n i,0≤y:=by
    unfold sepC
    grind
   simp_all
  ·simp_all
  ·exact kids_nn lv n ks (i+1) (fun k' hk'=>h k' (by simp[hk'])) x hx
theorem cells_nn:∀(d:Nat) (T:Tr) (lv:List Int),T.good d→(∀x∈lv,0≤x)→(∀x∈T.cells lv,0≤x)∧1≤(T.cells lv).length
 |0,T,lv,h,_=>by cases T;exact h.elim
 |d+1,.node n ks,lv,h,hv=>by
  have kd:∀k∈ks,∀lv,(∀x∈lv,0≤x)→∀x∈k.cells lv,0≤x:=fun k hk lv hv=>(cells_nn d k lv (Y45.1 h.2.1 k hk) hv).1;rw[Y60]
  split
  ·exact⟨fun x hx=>by
    rcases Xb.1 hx with rfl|hx
    ·omega
    ·exact digs_nn _ x hx,by simp⟩
  ·split
   ·rename_i h0 h1;have ha:=h.1;rw[ar,if_neg h0,if_pos h1] at ha
    split at ha
    ·rename_i hr;refine⟨fun x hx=> ?_,by simp⟩;rcases Xb.1 hx with rfl|hx
     ·omega
     ·rw[X8.1 hx];have:∀i:Nat,i<26→0≤Y8.getD i 0:=by decide
      grind
    ·cases ha
   ·split
    ·obtain⟨a,b,rfl⟩:=good_two (d:=d) h.1 (by have:=(good_head (d:=d+1) (T:=.node n ks) h).1;rw[Tr.flat] at this;have e:(hd (n::Y0y ks)).Op=n.Op:=rfl;omega) (by omega);rw[binC_eq];have hs:∀y∈Y6a n.Op,0≤y:=by
      unfold Y6a
      grind
     have hl:1≤(Y6a n.Op).length:=by
      unfold Y6a
      grind
     grind
    ·split
     ·rename_i h78;obtain⟨a,b,rfl⟩:=good_two (d:=d) h.1 (by omega) (by omega);rw[powC_eq];have hx7:(0:Int)≤expC n.Op:=by unfold expC;split<;>omega
      grind
     ·refine⟨fun x hx=> ?_,by simp⟩;simp only[Xi,Xb,X04,or_false] at hx;rcases hx with hx|hx|hx
      ·rw[hx];unfold Y92;omega
      ·exact kids_nn lv n ks 0 (fun k hk=>kd k hk lv hv) x hx
      ·rw[hx];unfold Y1i;omega
theorem Nn.of{t:List Int}(h:∀x∈t,0≤x):Nn t:=fun i=>by
 by_cases hi:i<t.length
 ·simp_all
 simp_all
theorem Ag.of{a b:List Int}{m:Int}(h:∀j:Nat,(j:Int)≤m→a[j]? =b[j]?):Ag a b m:=fun j h0 hj=>by
 have:=h j.toNat (by omega);unfold pk cAt
 grind
section
variable {t:List Int} {q:Qs} {g:Qf} {x:Tr} {u:Cu}
def tens:Nat→Int
 |0=>100000|1=>10000|2=>1000|3=>100|4=>10|_=>1
theorem dgs_rng:∀(k:Nat) (n d:Int) (u:Cu),k≤5→0≤n→n+1≤tens k→0≤(dgs t k n d u).1∧(dgs t k n d u).1≤99999
 |0,n,d,u,_,h0,h=>⟨h0,by have:n+1≤100000:=h;show n≤_;omega⟩
 |k+1,n,d,u,hk,h0,h=>by
  have e:10*tens (k+1)=tens k∧tens (k+1)≤100000:=by
   have:∀k:Nat,k<5→10*tens (k+1)=tens k∧tens (k+1)≤100000:=by decide
   grind
  rw[dgs]
  split
  ·split
   ·omega
   ·exact dgs_rng k _ _ _ (by omega) (by omega) (by omega)
  omega
theorem numN_rng(u:Cu):0≤numN t u∧numN t u≤99999:=dgs_rng 5 0 0 u (by omega) (by omega) (by decide)
theorem sumL_rng:∀(k:Nat) (l:List Int) (u:Cu),(∀x∈l,0≤x∧x≤99999)→∀x∈(sumL t k l u).1,0≤x∧x≤99999
 |0,l,u,h=>h
 |k+1,l,u,h=>by
  rw[sumL]
  split
  ·refine sumL_rng k _ _ fun x hx=> ?_;rw[Xi,X8] at hx;rcases hx with hx|rfl
   ·grind
   ·exact numN_rng _
  ·exact h
theorem sum_gd(hw:(sumU t u).wr=false):Gd (sumT t u):=by
 have w3:=(Y8d [51,60] _ (numU_wr (Y8d [34] _ hw).1)).1;have hlen:¬(sumA t u).1.length<2:=by
  intro hl;rw[if_pos hl] at w3;cases w3
 have h5:(sumA t u).1.length≤1+4:=(sumL_ge 4 _ _).2.1;have rng:∀x∈(sumA t u).1++[numN t (sumV t u)],0≤x∧x≤99999:=fun x hx=>by
  rw[Xi,X8] at hx;rcases hx with hx|rfl
  ·exact sumL_rng 4 _ _ (fun y hy=>by rw[X8.1 hy];exact numN_rng _) x hx
  ·exact numN_rng _
 rw[sumT];refine Gd.node ?_ (fun k hk=> ?_) (fun i k hk=> ?_)
 ·rw[ar,if_neg (by simp),if_neg (by simp),if_neg (by simp),if_neg (by simp),if_pos rfl,if_pos (by grind)];simp
 ·obtain⟨m,hm,rfl⟩:=Xp.1 hk;exact numT_gd (rng m hm)
 ·obtain⟨m,hm,rfl⟩:=Xp.1 (X0c hk)
  rfl
theorem join_g(m:Int):∀(ss:List Int) (ts:List Tr) (x:Tr),StI ts ss→Gd x→HD ss (pr (opn x))→∃x' ts' ss',qJ m ss (x::ts)=(x'::ts',ss')∧StI ts' ss'∧Gd x'∧HD ss' m∧HD ss' (pr (opn x'))∧(m≤pr (opn x)→m≤pr (opn x'))∧((x'=x∧ss'=ss)∨(2≤opn x'∧opn x'≤5))
 |[],[],x,h,hx,hh=>⟨x,[],[],rfl,h,hx,fun o ho=>(by cases ho),hh,fun h=>h,.inl ⟨rfl,rfl⟩⟩
 |[],y::ts,x,h,hx,hh=>h.elim
 |o::ss,[],x,h,hx,hh=>h.elim
 |o::ss,y::ts,x,h,hx,hh=>by
  by_cases hm:m≤Y2k o
  ·rw[qJ,if_pos hm];have⟨h1,h2,h3,h4,h5,h6⟩:=h;have eo:opn (.node ⟨o,0⟩ [y,x])=o:=rfl;have⟨x',ts',ss',a1,a2,a3,a4,a5,a6,a8⟩:=join_g m ss ts (.node ⟨o,0⟩ [y,x]) h6 (bin_gd h2 h1 hx h3 (hh o rfl)) (by rw[eo, ←lprec_pr h2];exact h4);refine⟨x',ts',ss',a1,a2,a3,a4,a5,fun _=>a6 (by rw[eo, ←lprec_pr h2];exact hm),.inr ?_⟩
   grind
  ·rw[qJ,if_neg hm];exact⟨x,y::ts,o::ss,rfl,h,hx,fun o' ho'=>by simp_all,hh,fun h=>h,.inl ⟨rfl,rfl⟩⟩
structure BegG (q:Qs):Prop where
 fi:FI (q.f::q.F)
 dn:q.dn=false
structure FolG (q:Qs) (g:Qf) (x:Tr):Prop where
 f:q.f=pushT x g
 fi:FI (g::q.F)
 gd:Gd x
 b:bOk q.base x
 dn:q.dn=false
theorem BegG.term(B:BegG q)(gd:Gd x)(hs:Y2r (opn x)=true):FolG (Y1z x 1 (qU u q)) q.f x:=⟨rfl,B.fi,gd,.inr (.inl ⟨rfl,hs⟩),B.dn⟩
theorem BegG.push(B:BegG q){op:Int}(ho:op= -2∨op=6∨op=9∨op=10∨op=11∨op=13):BegG (Y8j op [] (qU u q)):=by
 refine⟨And.intro trivial (And.intro (fun k hk=>by cases hk) (And.intro ?_ B.fi)),B.dn⟩;rcases ho with h|h|h|h|h|h
 ·exact .inl ⟨h,rfl⟩
 ·exact .inr (.inl ⟨h,Nat.zero_le 1⟩)
 ·exact .inr (.inr (.inr (.inl ⟨.inl h,rfl⟩)))
 ·exact .inr (.inr (.inr (.inl ⟨.inr (.inl h),rfl⟩)))
 ·exact .inr (.inr (.inr (.inl ⟨.inr (.inr h),rfl⟩)))
 ·exact .inr (.inr (.inr (.inr ⟨h,by show mOk (fr0 op []);unfold mOk fr0;simp⟩)))
def StG (b:Bool) (q:Qs):Prop:=if b=true then BegG q else ∃g x,FolG q g x
theorem begin_g(B:BegG q):(Y0x t q).2.c.wr=true∨StG (Y0x t q).1 (Y0x t q).2:=by
 by_cases hw:(Y0x t q).2.c.wr=true
 ·grind
 refine .inr ?_;have hw:(Y0x t q).2.c.wr=false:=by simp_all
 unfold Y0x at hw⊢
 split at hw
 ·rename_i h;rw[if_pos h];exact⟨q.f,_,B.term (numT_gd (numN_rng _)) rfl⟩
 rename_i h;rw[if_neg h];clear h
 split at hw
 ·rename_i h;rw[if_pos h];have hc:¬chrI t 26 q.c.adv<0:=fun hc=>by
   have hw':(if chrI t 26 q.c.adv<0 then q.c.adv.bad else q.c.adv.adv).wr=false:=hw;rw[if_pos hc] at hw';cases hw'
  rw[if_neg hc];have⟨c1,c2,_⟩:=chr_some (n:=26) (by omega) hc;exact⟨q.f,_,B.term (Gd.leaf (by rw[ar,if_neg (by simp),if_pos rfl,if_pos (by grind)])) rfl⟩
 rename_i h;rw[if_neg h];clear h
 split at hw
 ·rename_i h;rw[if_pos h];exact B.push (by omega)
 rename_i h;rw[if_neg h];clear h
 split at hw
 ·rename_i h;rw[if_pos h];exact⟨q.f,_,B.term (sum_gd hw) rfl⟩
 rename_i h;rw[if_neg h];clear h
 split at hw
 ·rename_i h;rw[if_pos h];exact B.push (by omega)
 rename_i h;rw[if_neg h];clear h
 split at hw
 ·rename_i h;rw[if_pos h];exact B.push (by omega)
 rename_i h;rw[if_neg h];clear h
 split at hw
 ·rename_i h;rw[if_pos h];exact B.push (by omega)
 rename_i h;rw[if_neg h];clear h
 split at hw
 ·rename_i h;rw[if_pos h];exact B.push (by omega)
 rename_i h;rw[if_neg h];clear h
 split at hw
 ·rename_i h;rw[if_pos h];exact B.push (by omega)
 ·cases hw
theorem FolG.four(R:FolG q g x)(hb:q.base≠2):pr (opn x)=4:=by
 rcases R.b with h|h|h
 ·exact pr_four (by omega)
 ·exact pr_four (simple_rng h.2)
 omega
theorem FolG.hd(R:FolG q g x)(hb:q.base≠2):HD g.ss (pr (opn x)):=by rw[R.four hb];exact(FI.st R.fi).le3
theorem FolG.join(R:FolG q g x)(hb:q.base≠2):∃x',qJ 0 q.f.ss q.f.ts=([x'],[])∧Gd x'∧((x'=x∧g.ss=[])∨(2≤opn x'∧opn x'≤5)):=by
 have⟨x',ts',ss',a1,a2,a3,a4,a5,a6,a8⟩:=join_g 0 g.ss g.ts x (FI.st R.fi) R.gd (R.hd hb);have hs:ss'=[]:=by
  have:=qJ_all g.ss (x::g.ts)
  simp_all
 subst hs;have ht:ts'=[]:=by
  cases ts' with
  |nil=>rfl
  |cons y ts'=>exact a2.elim
 subst ht;refine⟨x',by rw[R.f];exact a1,a3, ?_⟩
 simp_all
theorem FolG.close(R:FolG q g x)(ho:g.op≠ -1){x':Tr}(hx:qJ 0 q.f.ss q.f.ts=([x'],[])){op n b:Int}{q1:Qs}(h2:q1.F=q.F)(h3:q1.f.ts=q.f.ts)(h4:q1.f.ss=q.f.ss)(h5:q1.f.ops=q.f.ops)(h7:q1.dn=false)
  (gd:Gd (.node ⟨op,n⟩ (g.ops++[x']))) (bo:bOk b (.node ⟨op,n⟩ (g.ops++[x']))):∃g' x',FolG (Y2y op n b (qOpd q1)) g' x':=by
 have⟨g',F',e,_,_,fi⟩:=Y7h R.fi ho;have eo:qOpI q1=x':=Y7o (by simp_all);have ef:q.f.ops=g.ops:=by rw[R.f];rfl
 refine⟨g',.node ⟨op,n⟩ (g.ops++[x']), ?_⟩;have hF:(qOpd q1).F=g'::F':=by show q1.F=_;rw[h2,e]
 have ec:Y2y op n b (qOpd q1)=⟨q1.c,F',pushT (.node ⟨op,n⟩ (g.ops++[x'])) g',q1.lv,b,false⟩:=by
  rw[Y2y,Y5x,hF];simp only[Y1z,qOpd,h5,ef,eo,h7,pushT]
 rw[ec];exact⟨rfl,fi,gd,bo,rfl⟩
theorem FolG.opd(R:FolG q g x)(ho:g.op=6∨g.op=13){x':Tr}(hx:Gd x'){q1:Qs}(h2:q1.F=q.F)(h5:q1.dn=false)(f2:q1.f.ops=g.ops++[x'])(f3:q1.f.ts=[])(f4:q1.f.ss=[])(hok:opOk q1.f):BegG q1:=by
 have⟨g',F',e,hg,_,fi⟩:=Y7h R.fi (by omega);refine⟨?_,h5⟩;rw[h2,e];refine And.intro (by rw[f3,f4];exact trivial) (And.intro (fun k hk=> ?_) (And.intro hok fi))
 grind
theorem FolG.ungroup(R:FolG q g x)(hb:q.base≠2)(ho:g.op= -2):(Y4e t q).2.c.wr=true∨StG (Y4e t q).1 (Y4e t q).2:=by
 unfold Y4e
 split
 ·exact .inl rfl
 ·rename_i h;simp only[not_or,Bool.not_eq_false] at h;have⟨x',hx,h2,h4⟩:=R.join hb;have⟨g',F',e,_,ok,fi⟩:=Y7h R.fi (by omega);refine .inr ⟨g',x', ?_⟩;have ec:Y1z (qOpI q) 2 (Y5x (qU q.c.adv q))=⟨q.c.adv,F',pushT x' g',q.lv,2,false⟩:=by
   have hF:(qU q.c.adv q).F=g'::F':=e;rw[Y5x,hF,Y7o hx];simp only[Y1z,qU,pushT,R.dn]
  rw[ec];refine⟨rfl,fi,h2,.inr (.inr ⟨rfl, ?_⟩),rfl⟩;rcases h4 with⟨h4,h5⟩|h4
  ·have h6:=h.1;have e1:q.f.ss=[]:=by rw[R.f];exact h5
   have e2:q.f.ts.headD noTr=x:=by rw[R.f];rfl
   simp only[e1,e2,true_and,Bool.not_eq_true] at h6;rw[h4];have rg:=good_head (h:=R.gd);rw[opn_hd] at rg;rw[←simO_eq rg];exact h6
  ·cases hh:Y2r (opn x') with
   |false=>rfl
   |true=>exact absurd h4 (simple_rng hh)
theorem FolG.matrix(R:FolG q g x)(hb:q.base≠2)(ho:g.op=13):(Y3y t q).2.c.wr=true∨StG (Y3y t q).1 (Y3y t q).2:=by
 have⟨x',hx,h2,h4⟩:=R.join hb;have⟨g',F',e,hg,ok,fi⟩:=Y7h R.fi (by omega);have m:mOk g:=by
  rcases ok with h|h|h|h|h
  ·omega
  ·omega
  ·omega
  ·omega
  grind
 have m':=m;have⟨m1,m2,m3,m4,m5,m6,m7,m8⟩:=m;have f1:q.f.ents=g.ents:=by rw[R.f];rfl
 have f2:q.f.cols=g.cols:=by rw[R.f];rfl
 have f3:q.f.rows=g.rows:=by rw[R.f];rfl
 have f4:q.f.op=g.op:=by rw[R.f];rfl
 have f5:q.f.ops=g.ops:=by rw[R.f];rfl
 have eo:∀{q1:Qs},q1.f.ts=q.f.ts→q1.f.ss=q.f.ss→q.f.ops++[qOpI q1]=g.ops++[x']:=fun h h'=>by rw[f5,Y7o (by rw[h,h'];exact hx)]
 unfold Y3y
 by_cases c1:q.f.ents+1<(if q.f.cols=0 then 4 else q.f.cols)∧hit t 32 q.c=true
 ·rw[if_pos c1];have hlt:=c1.1;rw[f1,f2] at hlt;refine .inr (R.opd (.inr ho) h2 rfl R.dn (eo rfl rfl) rfl rfl (.inr (.inr (.inr (.inr ⟨f4.trans ho, ?_⟩)))));show 0≤q.f.cols∧q.f.cols≤4∧0≤q.f.rows∧q.f.rows≤3∧0≤q.f.ents+1∧((q.f.ops++[qOpI _]).length:Int)=q.f.rows*q.f.cols+(q.f.ents+1)∧(q.f.cols=0→q.f.rows=0∧q.f.ents+1≤3)∧(q.f.cols≠0→1≤q.f.rows∧q.f.ents+1+1≤q.f.cols)
  grind
 rw[if_neg c1]
 by_cases c2:q.f.cols≠0∧q.f.ents+1≠q.f.cols
 ·rw[if_pos c2];exact .inl rfl
 rw[if_neg c2];have hc:g.cols=0∨g.ents+1=g.cols:=by omega
 have he4:g.ents+1≤4:=by
  omega
 have ml:=mat_len m' hc
 by_cases c3:q.f.rows+1<4∧hit t 51 q.c=true
 ·rw[if_pos c3];refine .inr (R.opd (.inr ho) h2 rfl R.dn (eo rfl rfl) rfl rfl (.inr (.inr (.inr (.inr ⟨f4.trans ho, ?_⟩)))));show 0≤q.f.ents+1∧q.f.ents+1≤4∧0≤q.f.rows+1∧q.f.rows+1≤3∧(0:Int)≤0∧((q.f.ops++[qOpI _]).length:Int)=(q.f.rows+1)*(q.f.ents+1)+0∧(q.f.ents+1=0→q.f.rows+1=0∧(0:Int)≤3)∧(q.f.ents+1≠0→1≤q.f.rows+1∧(0:Int)+1≤q.f.ents+1);have c4:=c3.1;rw[f3] at c4;rw[f1,f3,f5,X4,Xc];omega
 rw[if_neg c3,f3,f1];refine .inr (R.close (by omega) hx rfl rfl rfl rfl R.dn (Gd.node ?_ (fun k hk=> ?_) (fun i k hk=>adm_any (by simp) (by simp))) (.inr (.inl ⟨rfl,rfl⟩)))
 ·have hN:(8*(g.rows+1)+(g.ents+1))%8=g.ents+1:=by omega
  rw[ar,if_neg (by simp),if_neg (by simp),if_neg (by simp),if_neg (by simp),if_neg (by simp),if_pos rfl,if_pos (by grind),X4,Xc]
  grind
 grind
theorem FolG.brk(R:FolG q g x)(hb:q.base≠2)(ho:g.op=6∧g.ops.length=1∨(g.op=7∨g.op=8)∨g.op=9∨g.op=10∨g.op=11){b:Int}(hbo:(g.op=7∨g.op=8)∧b=0∨¬(g.op=7∨g.op=8)∧b=1){q1:Qs}(h2:q1.F=q.F)(h3:q1.f=q.f)(h7:q1.dn=false):∃g' x',FolG (Y2y q.f.op 0 b (qOpd q1)) g' x':=by
 have⟨x',hx,h2',h4⟩:=R.join hb;have⟨g',F',e,hg,ok,fi⟩:=Y7h R.fi (by omega);have f4:q.f.op=g.op:=by rw[R.f];rfl
 rw[f4];have hl:g.ops.length=(if 6≤g.op∧g.op≤8 then 1 else 0):=by
  rcases ok with h|h|h|h|h
  ·omega
  ·simp_all
  ·grind
  ·grind
  ·omega
 refine R.close (by omega) hx h2 (by rw[h3]) (by rw[h3]) (by rw[h3]) h7 (Gd.node ?_ (fun k hk=> ?_) (fun i k hk=>adm_any (by grind) (by grind))) ?_
 ·rw[X4,Xc,hl,ar,if_neg (by grind),if_neg (by grind)]
  by_cases h6:6≤g.op∧g.op≤8
  ·rw[if_pos (by grind),if_pos rfl,if_pos h6]
  ·rw[if_neg (by grind),if_pos (by grind),if_pos rfl,if_neg h6]
 ·grind
 ·rcases hbo with h|h
  ·exact .inl ⟨h.2,h.1⟩
  ·refine .inr (.inl ⟨h.2, ?_⟩);show Y2r g.op=true;unfold Y2r
   grind
theorem FolG.sign(R:FolG q g x)(hb:q.base≠2){op:Int}(ho:2≤op∧op≤5):BegG (Y9f op (qU u q)):=by
 have⟨x',ts',ss',a1,a2,a3,a4,a5,a6,a8⟩:=join_g (Y2k op) g.ss g.ts x (FI.st R.fi) R.gd (R.hd hb);have hp:Y2k op≤pr (opn x'):=a6 (by rw[R.four hb,lprec_pr ho];exact(pr_rng _).2);have ef:(Y9f op (qU u q)).f={g with ts:=x'::ts',ss:=op::ss'}:=by
  show({(qJoin (Y2k op) (qU u q)).f with ss:=op::(qJoin (Y2k op) (qU u q)).f.ss}:Qf)=_;have e1:(qJoin (Y2k op) (qU u q)).f={q.f with ts:=(qJ (Y2k op) q.f.ss q.f.ts).1,ss:=(qJ (Y2k op) q.f.ss q.f.ts).2}:=rfl;have e2:qJ (Y2k op) q.f.ss q.f.ts=(x'::ts',ss'):=by rw[R.f];exact a1
  rw[e1,e2,R.f];rfl
 refine⟨?_,R.dn⟩;rw[ef];show FI ({g with ts:=x'::ts',ss:=op::ss'}::q.F);have st:StI (x'::ts') (op::ss'):=⟨a3,ho,hp,a4,a5,a2⟩;have fi:=R.fi;cases hF:q.F with
 |nil=>rw[hF] at fi;exact⟨st,fi.2⟩
 |cons g' F'=>rw[hF] at fi;exact⟨st,fi.2⟩
theorem sgB_g(R:FolG q g x):(qSgB t (qU u q)).2.c.wr=true∨StG (qSgB t (qU u q)).1 (qSgB t (qU u q)).2:=by
 have ex:∀op c:Int,(op=7∨op=8)→BegG (qExp op c (qU u q)):=fun op c ho=>by
  have ef:(qExp op c (qU u q)).f=fr0 op [x]:=by
   show fr0 op [q.f.ts.headD noTr]=_;rw[R.f];rfl
  have eF:(qExp op c (qU u q)).F=g::q.F:=by
   show {q.f with ts:=q.f.ts.tail}::q.F=_;rw[R.f];rfl
  refine⟨?_,R.dn⟩;rw[ef,eF];exact And.intro trivial (And.intro (fun k hk=>by rw[X8.1 hk];exact R.gd) (And.intro (.inr (.inr (.inl ⟨ho,rfl⟩))) R.fi))
 unfold qSgB
 split
 ·exact .inr (ex 7 24 (.inl rfl))
 ·split
  ·exact .inr (ex 8 6 (.inr rfl))
  ·exact .inl rfl
theorem FolG.sgn(R:FolG q g x):(qSgn t (qU u q)).2.c.wr=true∨StG (qSgn t (qU u q)).1 (qSgn t (qU u q)).2:=by
 have f4:q.f.op=g.op:=by rw[R.f];rfl
 have R':FolG (qU u q) g x:=⟨R.f,R.fi,R.gd,R.b,R.dn⟩;unfold qSgn
 split
 ·exact .inl rfl
 ·split
  ·exact sgB_g R
  ·split
   ·exact .inl ‹_›
   ·split
    ·exact sgB_g R'
    ·unfold qEnd
     split
     ·rename_i he;have e3:((q.f.op==7||q.f.op==8)&&q.base !=2)=true:=he;simp only[X2,X02,beq_iff_eq,bne_iff_ne,f4] at e3;exact .inr (show ∃g' x',FolG (Y2y q.f.op 0 0 (qOpd _)) g' x' from R.brk e3.2 (by omega) (.inl ⟨e3.1,rfl⟩) rfl rfl R.dn)
     ·exact .inl rfl
def FinG (q:Qs):Prop:=q.dn=true∧∃x,qJ 0 q.f.ss q.f.ts=([x],[])∧Gd x∧q.F=[]∧q.f.ops=[]
theorem follow_g(R:FolG q g x):(Yk t q).2.c.wr=true∨((Yk t q).1=false∧FinG (Yk t q).2)∨StG (Yk t q).1 (Yk t q).2:=by
 have f4:q.f.op=g.op:=by rw[R.f];rfl
 have f5:q.f.ops=g.ops:=by rw[R.f];rfl
 unfold Yk
 split
 ·exact R.sgn.imp id .inr
 split
 ·exact .inl rfl
 rename_i hb
 split
 ·exact .inr (.inr (R.sign hb (by omega)))
 split
 ·exact .inr (.inr (R.sign hb (by omega)))
 split
 ·exact .inr (.inr (R.sign hb (by omega)))
 split
 ·exact .inr (.inr (R.sign hb (by omega)))
 unfold qRest
 split
 ·rename_i ho;rw[f4] at ho;have hF:q.F=[]:=by
   cases hF:q.F with
   |nil=>rfl
   |cons g' F'=>
    have fi:=R.fi;rw[hF] at fi;rcases fi.2.2.1 with h|h|h|h|h<;>omega
  by_cases he:q.c.at_=(t.length:Nat)
  ·have⟨x',hx,h2,h4⟩:=R.join hb;have fi:=R.fi;rw[hF] at fi;exact .inr (.inl ⟨rfl,by simp_all,x',hx,h2,hF,f5.trans fi.2.2⟩)
  simp_all
 rename_i ho1
 split
 ·rename_i ho;exact(R.ungroup hb (f4▸ho)).imp id .inr
 rename_i ho2
 split
 ·rename_i ho;exact(R.matrix hb (f4▸ho)).imp id .inr
 rename_i ho3;rw[f4] at ho1 ho2 ho3
 split
 ·rename_i ho;rw[f4,f5] at ho;have⟨x',hx,h2,h4⟩:=R.join hb;refine .inr (.inr (R.opd (x':=x') (.inl ho.1) h2 rfl R.dn ?_ rfl rfl (.inr (.inl ⟨f4.trans ho.1, ?_⟩))))
  ·show q.f.ops++[qOpI _]=_;rw[f5,Y7o (by exact hx)]
  ·show(q.f.ops++[qOpI _]).length≤1
   simp_all
 rename_i ho4
 split
 ·exact .inl rfl
 rename_i ho5;rw[f4,f5] at ho4;rw[f4] at ho5;have⟨g',F',e,hg,ok,fi⟩:=Y7h R.fi ho1;refine .inr (.inr (R.brk hb ?_ (.inr ⟨ho5,rfl⟩) rfl rfl R.dn));rcases ok with h|h|h|h|h
 ·omega
 ·refine .inl ⟨h.1, ?_⟩;have:g.ops≠[]:=fun hn=>ho4 ⟨h.1,hn⟩;have:=List.length_pos_iff.2 this;omega
 ·omega
 ·omega
 omega
theorem run_g{b:Bool}{r:Qs}(h:Run t b q r):(q.c.wr=true∨FinG q∨StG b q)→r.c.wr=true∨FinG r:=by
 induction h with
 |@stop b q hs=>
  intro hq;rcases hq with h|h|h
  ·grind
  ·grind
  ·have dn:q.dn=false:=by
    cases b with
    |true=>exact BegG.dn h
    |false=>have⟨g,x,B⟩:∃g x,FolG q g x:=h;exact B.dn
   simp_all
 |@step b q r hs hr ih=>
  intro hq;have hQ:StG b q:=by
   rcases hq with h|h|h
   ·simp_all
   ·exact absurd (.inr h.1) hs
   ·exact h
  refine ih ?_;cases b with
  |true=>exact(begin_g (show BegG q from hQ)).imp id .inr
  |false=>
   have⟨g,x,B⟩:∃g x,FolG q g x:=hQ;exact(follow_g B).imp id fun h=>h.imp And.right id
theorem m_gd(t:List Int):(mRun t).c.wr=true∨FinG (mRun t):=run_g (run_m t) (.inr (.inr ⟨⟨trivial,rfl,rfl⟩,rfl⟩))
theorem mRead_top(hw:(mRun t).c.wr=false):∃T,qJ 0 (mRun t).f.ss (mRun t).f.ts=([T],[])∧Gd T∧mRead t=if 60<T.flat.length then([],0,2) else if 8<T.dep then([],0,2) else(T.flat,((t.length:Nat):Int),(0:Int)):=by
 rcases m_gd t with h|⟨_,T,hJ,hg,hF,hO⟩
 ·simp_all
 ·refine⟨T,hJ,hg, ?_⟩;have hz:=sz_top (t:=[]) (m_len t hw) hJ;have es:szQ (mRun t)+(mRun t).f.ss.length=T.flat.length:=by
   show szQ (mRun t)+_=nd T;unfold szQ;rw[hF];show 0+(ndL _+ndL _)+_=_;rw[hO,Y27];omega
  rw[mRead,mFin,if_neg (by grind),Y7o hJ]
  simp_all
end
end Go.Proofs.YtfpcbalkioolmaaDoor
