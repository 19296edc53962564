/- Own work. -/
import Derived.Test.YtfpcbalkioolmaaDoorMrD
import Derived.Test.YtfpcbalkioolmaaDoorPzA
import Derived.Test.YtfpcbalkioolmaaDoorFmZ
set_option linter.unusedSimpArgs false
set_option linter.unusedVariables false
namespace Go.Proofs.YtfpcbalkioolmaaDoor
open Go.Abs
theorem flatL_uni{d:Nat}(IH:∀(T U:Tr) (e:Nat) (a b:List Y1),T.good d→U.good e→T.flat++a=U.flat++b→T=U∧a=b):∀(ks ls:List Tr) (e:Nat) (a b:List Y1),(∀k∈ks,Tr.good d k)→(∀k∈ls,Tr.good e k)→ks.length=ls.length→Y0y ks++a=Y0y ls++b→ks=ls∧a=b
 |[],[],e,a,b,_,_,_,h=>⟨rfl,h⟩
 |[],_::_,e,a,b,_,_,hl,_=>by simp at hl
 |_::_,[],e,a,b,_,_,hl,_=>by simp at hl
 |k::ks,l::ls,e,a,b,h1,h2,hl,h=>by
  simp only[Y0y,Xh] at h;obtain⟨rfl,h'⟩:=IH k l e _ _ (h1 k (by simp)) (h2 l (by simp)) h;obtain⟨rfl,h''⟩:=flatL_uni IH ks ls e a b (fun x hx=>h1 x (by simp[hx])) (fun x hx=>h2 x (by simp[hx])) (by simp_all) h'
  simp_all
theorem flat_uni:∀(d:Nat) (T U:Tr) (e:Nat) (a b:List Y1),T.good d→U.good e→T.flat++a=U.flat++b→T=U∧a=b
 |0,.node _ _,_,_,_,_,h,_,_=>h.elim
 |d+1,.node n ks,.node m ls,0,a,b,_,h,_=>h.elim
 |d+1,.node n ks,.node m ls,e+1,a,b,h1,h2,h=>by
  simp only[Tr.flat,Xv,List.cons.injEq] at h;obtain⟨rfl,h⟩:=h;have hl:ks.length=ls.length:=by
   have:=h1.1.symm.trans h2.1
   simp_all
  obtain⟨rfl,h'⟩:=flatL_uni (fun T U e a b=>flat_uni d T U e a b) ks ls e a b (Y45.1 h1.2.1) (Y45.1 h2.2.1) hl h
  simp_all
theorem dep_nd:∀(d:Nat) (T:Tr),T.good d→T.dep≤(nd T:Nat)
 |0,.node _ _,h=>h.elim
 |d+1,.node n ks,h=>by
  rw[Tr.dep,Y5y];have hk:=Y45.1 h.2.1;refine depL_le _ ks 1 (by omega) fun k hkm=> ?_;have h1:=dep_nd d k (hk k hkm);have:nd k≤ndL ks:=by
   obtain⟨l1,l2,rfl⟩:=List.append_of_mem hkm;rw[Y79,Y10];omega
  omega
theorem Valid_gd{x:Tr}(h:Gd x)(hl:x.flat.length≤100000):Y4r x.flat=some (decide (x.flat.length≤60)&&decide (x.dep≤8)):=by
 have ht:=good_IsT _ x h;have hdp:=dep_pos x;unfold Y4r
 by_cases h60:x.flat.length≤60
 ·have hd:=dep_nd _ x h;have fl:x.flat.length=nd x:=rfl;rw[Y5v (by omega),Tree_ok ht (by omega),X1];have⟨v,v1,v2,v4,v3⟩:=depth_ok (A:=adm) hl x.dep.toNat x.flat [] [] (1000000-x.dep.toNat) (by omega) ht (by simp);rw[show 1000000-x.dep.toNat+x.dep.toNat=1000000 by omega] at v3;have⟨U,u1,u2⟩:=IsT_good v x.flat v4;have e:=(flat_uni _ x U v [] [] h u2 (by rw[u1])).1;subst e;have:=good_dep_le v x u2;have hD:Y7x x.flat=some (v:Int):=by
   unfold Y7x f_R09_depth;have v3':Y3f 1000000 x.flat 0=some (v:Int):=v3;rw[v3',X1]
  grind
 grind
theorem nn_take{t:List Int}(hn:Nn t)(i:Nat):Nn (t.take i):=fun j=>by
 rw[X6,Xs]
 split
 ·rw[←X6];exact hn j
 ·simp
theorem ag_take{t:List Int}{i:Nat}{m:Int}(hm:m<(i:Nat)):Ag t (t.take i) m:=Ag.of fun j hj=>by
 rw[Xs,Vp]
theorem Ag.sym{a b:List Int}{m:Int}(h:Ag a b m):Ag b a m:=fun j h0 hj=>(h j h0 hj).symm
theorem goes_to{t:List Int}(ht:t.length≤400)(hn:Nn t)(hw:(mRun t).c.wr=true){i:Nat}(hi:i≤t.length):∃f b,Y4x (t.take i)=some (f,b,decide ((i:Int)≤(mRun t).c.at_)):=by
 have hl:(t.take i).length=i:=by simp_all
 have h2:=(m_fin (t.take i)).2.a1;rw[hl] at h2;rcases attempt_sim (t:=t.take i) (by omega) with⟨w,f,e⟩|⟨w,T,e,_,_⟩
 ·rw[hl] at e
  by_cases hlt:(mRun (t.take i)).c.at_<(i:Nat)
  ·have:=m_loc (nn_take hn i) hn (m:=(mRun (t.take i)).c.at_) (by omega) (ag_take hlt).sym
   simp_all
  ·refine⟨f,false, ?_⟩;rw[e,decide_eq_true (by omega)]
   by_cases hlt2:(mRun t).c.at_<(i:Nat)
   ·have:=m_loc hn (nn_take hn i) (m:=(mRun t).c.at_) (by omega) (ag_take hlt2)
    simp_all
   simp_all
 ·refine⟨T.flat,true, ?_⟩;rw[e]
  by_cases hlt2:(mRun t).c.at_<(i:Nat)
  ·have:=m_loc hn (nn_take hn i) (m:=(mRun t).c.at_) (by omega) (ag_take hlt2)
   simp_all
  simp_all
theorem read_loop{t:List Int}(ht:t.length≤400)(hn:Nn t)(hw:(mRun t).c.wr=true){a:Nat}(ha:(mRun t).c.at_=(a:Int))(hal:a≤t.length):∀(m i:Nat),i≤a→a<m+i→iter (fun loop (s:Int×Int)=>f_R10_Read_b1 t loop s.1 s.2) m ((i:Int),((i+1:Nat):Int))=some ([],(a:Int),(100:Int))
 |0,i,h1,h2=>by omega
 |m+1,i,h1,h2=>by
  rw[Yw];show f_R10_Read_b1 t _ (i:Int) ((i+1:Nat):Int)=_;unfold f_R10_Read_b1
  by_cases hle:i+1≤t.length
  ·rw[decide_eq_true (by omega),cond_true,Y2s (by omega),Xl];have⟨f',b',e'⟩:=goes_to ht hn hw hle;rw[e',X1,ha]
   by_cases hia:i+1≤a
   ·rw[decide_eq_true (by omega)];show cond (!true) _ _=_;rw[X1q,cond_false,Y1k (by omega)];exact read_loop ht hn hw ha hal m (i+1) hia (by omega)
   ·have:i=a:=by omega
    subst this;rw[decide_eq_false (by omega)];show cond (!false) _ _=_;rw[X1g,cond_true,f_R10_Read_k1]
  ·have:i=a:=by omega
   subst this;rw[decide_eq_false (by omega),cond_false,f_R10_Read_k1]
def rdK (t:List Int) (K:Option ((List Y1)×Int×Int)):Option ((List Y1)×Int×Int):=(Y4x t).bind fun x1=>cond x1.2.1 ((Y4r x1.1).bind fun x3=>cond x3 (some (x1.1,(t.length:Int),(0:Int))) (some ([],(0:Int),(2:Int)))) K
theorem rdK_eq{t:List Int}(ht:t.length≤400)(hn:Nn t)(K:Option ((List Y1)×Int×Int))(hK:(mRun t).c.wr=true→K=some ([],(mRun t).c.at_,(100:Int))):rdK t K=some (mRead t):=by
 unfold rdK;rcases attempt_sim ht with⟨hw,f,e⟩|⟨hw,T,e,hJ,hTl⟩
 ·rw[e,X1,hK hw,mRead,mFin,if_pos hw]
  rfl
 ·rw[e,X1];have⟨x,hx,hg,er⟩:=mRead_top hw;have eT:T=x:=by simp_all
  subst eT;have hlen:T.flat.length≤100000:=by omega
  rw[cond_true,Valid_gd hg hlen,X1,er]
  grind
theorem R10_Read_eq{t:List Int}(ht:t.length≤400)(hn:Nn t):f_R10_Read t=some (mRead t):=by
 refine rdK_eq ht hn _ fun hw=> ?_;have a0:=(m_fin t).2.a0;have a1:=(m_fin t).2.a1;have⟨a,ha⟩:∃a:Nat,(mRun t).c.at_=(a:Int):=⟨(mRun t).c.at_.toNat,by omega⟩;rw[ha];exact read_loop ht hn hw ha (by omega) 1000000 0 (by omega) (by omega)
theorem mRead_len(t:List Int):(mRead t).1.length≤60:=by
 cases hw:(mRun t).c.wr with
 |true=>rw[mRead,mFin,if_pos hw];simp
 |false=>
  have⟨x,_,_,e⟩:=mRead_top hw
  grind
theorem read_step{L:List Int}(hl:L.length≤400)(hn:Nn L)(K:Option Bool):((Y4t L).bind fun x22=>(f_R10_Read L).bind fun x23=>(Y8c x22.1 x23.1).bind fun x24=>cond (cond (cond (!x24) true (x22.2.1 !=x23.2.1)) true (x22.2.2 !=x23.2.2)) (some false) K)=K:=by
 have h60:=mRead_len L;have⟨r,e1,e2⟩:=Same_iff (a:=(mRead L).1) (b:=(mRead L).1) (by omega);have er:r=true:=e2.2 rfl;subst er;rw[Y4t,Y2s (by omega),X1,R10_Read_eq hl hn,X1,e1,X1,bne_self_eq_false,bne_self_eq_false]
 rfl
theorem three_lists(x4:(List Int)×Int)(v x:List Int)(h0:x4.1.length≤400∧Nn x4.1)(h1:v.length≤400∧Nn v)(h2:x.length≤400∧Nn x):iter (fun loop (s:Int)=>Y0j true x4 v x loop s) 1000000 (0:Int)=some true:=by
 have⟨r,e1,e2⟩:=loop_all (b:=fun loop s=>Y0j true x4 v x loop s) 3 (fun _=>true) (by omega) (fun loop k hk=>by
  rw[if_pos rfl];show Y0j true x4 v x loop (k:Int)=_;unfold Y0j;have hL:([x4.1,v,x].getD (k:Int).toNat []).length≤400∧Nn ([x4.1,v,x].getD (k:Int).toNat []):=by
   grind
  rw[Y2q (by grind),Y2s (by grind),read_step hL.1 hL.2,Y1k (by omega),show((k:Int)+1)=((k+1:Nat):Int) by omega]) (fun loop=>by
  show Y0j true x4 v x loop (3:Int)=_;unfold Y0j;rw[Y3w (by simp)])
 rw[e1,e2.2 fun _ _=>rfl]
theorem changes_loop{t1:List Int}{t2:List (List Int)}(h1:okList (okInt .u8) t1)(h2:okList (okArr 2 (okInt .u8)) t2)(x4:(List Int)×Int)(hc:x4.1.length≤200∧Nn x4.1)(h0:1≤x4.1.length):∀(m k:Nat) (v:List Int),k≤3→4≤m+k→v.length=x4.1.length→Nn v→
  iter (fun loop (s:(List Int)×Int)=>Y25 t1 t2 true x4 loop s.1 s.2) m (v,(k:Int))=some true
 |0,k,v,hk,hm,hv,hn=>by omega
 |m+1,k,v,hk,hm,hv,hn=>by
  rw[Yw];show Y25 t1 t2 true x4 _ v (k:Int)=_;unfold Y25
  by_cases hgo:k<t2.length∧k<3
  ·have⟨a,b,hab,ha,hb⟩:∃a b,t2.getD k (List.replicate 2 (0:Int))=[a,b]∧(0≤a∧a≤255)∧(0≤b∧b≤255):=by
    have hmem:t2[k]∈t2:=List.getElem_mem hgo.1;have hw:=h2.1 _ hmem;rw[X6,X5 hgo.1,X0p]
    match hm2:t2[k],hw.2,hw.1 with
    |[a,b],_,hw1=>exact⟨a,b,rfl,hw1 a (by simp),hw1 b (by simp)⟩
   have ew:IntKind.wrap .i64 a=a:=IntWalk.i64_in a ⟨by omega,by omega⟩;have m0:0≤Int.tmod a (v.length:Int)∧Int.tmod a (v.length:Int)<(v.length:Int):=⟨Int.tmod_nonneg _ ha.1,Int.tmod_lt_of_pos _ (by omega)⟩;have m1:0≤Int.tmod b 64∧Int.tmod b 64<64:=⟨Int.tmod_nonneg _ hb.1,Int.tmod_lt_of_pos _ (by omega)⟩;have gd0:([a,b]:List Int).getD 0 0=a:=rfl;have gd1:([a,b]:List Int).getD 1 0=b:=rfl;rw[decide_eq_true (by omega),decide_eq_true (by omega),cond_true,cond_true,Y2s (by omega),Xl,hab,gd0,gd1,ew,Y2s (by omega),Y2s m0,Y1k (by omega),show((k:Int)+1)=((k+1:Nat):Int) by omega];refine changes_loop h1 h2 x4 hc h0 m (k+1) _ (by omega) (by omega) (by simp_all) fun i=> ?_;rw[X6,List.getElem?_set]
   split
   ·grind
   ·rw[←X6];exact hn i
  ·have e:(cond (decide ((k:Int)<(t2.length:Int))) (decide ((k:Int)<(3:Int))) false)=false:=by
    grind
   have ecl:f_R01_Cells t1 (14:Int)=some ((t1.take 14).map (Int.tmod · 64)):=f_cells t1 14 (by omega);rw[e,cond_false,ecl,X1];refine three_lists x4 v _ ⟨by omega,hc.2⟩ ⟨by omega,hn⟩ ⟨by grind,Nn.of fun x hx=> ?_⟩;obtain⟨y,hy,rfl⟩:=Xp.1 hx;have:0≤y∧y≤255:=h1.1 y (X0u hy)
   grind
theorem plain_LinearMatchesReference{t0 t1:List Int}{t2:List (List Int)}(h0:okList (okInt .u8) t0)(h1:okList (okInt .u8) t1)(h2:okList (okArr 2 (okInt .u8)) t2):Y3v t0 t1 t2=some true:=by
 have⟨T,hM,hg,hl,hd,hW,h6⟩:=Made_cells h0;have⟨nn,pos⟩:=cells_nn 5 T [] hg (by simp);have hW':=R10_Write_cells hg (by omega) hl;have N2:Nn (T.cells []):=Nn.of nn;generalize hc:T.cells []=c at*;unfold Y3v;rw[sanity_true,X1,hM,X1,hW,X1,hW',X1,f_same _ _ (by simp only;omega),decide_eq_true rfl,X1]
 by_cases h200:200<c.length
 ·have e:(cond (cond (cond (!true) true (((c,(0:Int)):List Int×Int).2 !=(0:Int))) true ((c.length:Int)==(0:Int))) true (decide ((200:Int)<(c.length:Int))))=true:=by
   rw[decide_eq_true (by omega)];cases ((c.length:Int)==(0:Int))<;>rfl
  rw[e,cond_true];rfl
 ·have e:(cond (cond (cond (!true) true (((c,(0:Int)):List Int×Int).2 !=(0:Int))) true ((c.length:Int)==(0:Int))) true (decide ((200:Int)<(c.length:Int))))=false:=by
   rw[decide_eq_false (by omega),show((c.length:Int)==(0:Int))=false by rw[beq_eq_false_iff_ne];omega];rfl
  rw[e,cond_false,Y1j (by simp;omega),Xt];exact changes_loop h1 h2 (c,0) ⟨by simp only;omega,N2⟩ (by simp only;omega) 1000000 0 c (by omega) (by omega) rfl N2
end Go.Proofs.YtfpcbalkioolmaaDoor
