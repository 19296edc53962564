/- Own work. -/
import Derived.Test.YtfpcbalkioolmaaDoorLsB
import Derived.Test.YtfpcbalkioolmaaDoorP10a
set_option linter.unusedSimpArgs false
set_option linter.unusedVariables false
namespace Go.Proofs.YtfpcbalkioolmaaDoor
open Go.Abs
theorem read_cases(t:List Int):((mRun t).c.wr=true∧mRead t=([],(mRun t).c.at_,100)∧0≤(mRun t).c.at_∧(mRun t).c.at_≤(t.length:Nat))∨
    ((mRun t).c.wr=false∧∃x,Gd x∧x.cells []=t∧K false (mRun t)=x∧mRead t=if 60<x.flat.length then([],0,2) else if 8<x.dep then([],0,2) else(x.flat,((t.length:Nat):Int),(0:Int))):=by
  by_cases hw:(mRun t).c.wr=true
  · exact .inl ⟨hw,by rw[mRead,mFin,if_pos hw],(m_fin t).2.a0,(m_fin t).2.a1⟩
  · right
    rcases m_snd t with h|h
    · exact absurd h hw
    · have⟨hd,x,h1,h2,h3,h4,h5,h6⟩:=h;refine⟨by simpa using hw,x,h2,h3,FinI.K ⟨hd,x,h1,h2,h3,h4,h5,h6⟩ h1, ?_⟩;have:=read_good (T:=x) h2;rw[h3] at this;exact this
theorem good_read{d:Nat}{T:Tr}(h:T.good d):(mRun (T.cells [])).c.wr=false∧K false (mRun (T.cells []))=T:=by
  have⟨us,rs,b,e,hJ⟩:=run_cells h;rw[e];exact⟨rfl,cmp_of hJ⟩
theorem dg_nn(n:Int):0≤dg n:=by
  have h:∀i:Nat,0≤Y9.getD i 0:=fun i=>by
    by_cases hi:i<26
    · have:∀i:Nat,i<26→0≤Y9.getD i 0:=by decide
      exact this i hi
    · rw[X7,X11 (by have:Y9.length=26:=rfl;omega)];simp
  exact h _
theorem digs_nn(n:Int):∀x∈digs n,0≤x:=fun x hx=>by
  unfold digs dgIf at hx;simp only[Xs,Xh] at hx;rcases hx with hx|hx|hx|hx|hx
  · split at hx
    · rw[Xh.1 hx];exact dg_nn _
    · cases hx
  · split at hx
    · rw[Xh.1 hx];exact dg_nn _
    · cases hx
  · split at hx
    · rw[Xh.1 hx];exact dg_nn _
    · cases hx
  · split at hx
    · rw[Xh.1 hx];exact dg_nn _
    · cases hx
  · rw[hx];exact dg_nn _
theorem kids_nn(lv:List Int)(n:Y4):∀(ks:List Tr) (i:Nat),(∀k∈ks,∀x∈k.cells lv,0≤x)→∀x∈Y07 lv n i ks,0≤x
  |[],i,_,x,hx=>by rw[Y07] at hx;cases hx
  |k::ks,i,h,x,hx=>by
    rw[Y07,Xs,Xs] at hx;rcases hx with(hx|hx)|hx
    · have:∀y∈sepC n i,0≤y:=by
        unfold sepC
        repeat' split
        all_goals simp
      exact this x hx
    · exact h k (by simp) x hx
    · exact kids_nn lv n ks (i+1) (fun k' hk'=>h k' (by simp[hk'])) x hx
theorem cells_nn:∀(d:Nat) (T:Tr) (lv:List Int),T.good d→(∀x∈lv,0≤x)→(∀x∈T.cells lv,0≤x)∧1≤(T.cells lv).length
  |0,T,lv,h,_=>by cases T;exact h.elim
  |d+1,.node n ks,lv,h,hv=>by
    have kd:∀k∈ks,∀lv,(∀x∈lv,0≤x)→∀x∈k.cells lv,0≤x:=fun k hk lv hv=>(cells_nn d k lv (Y3r.1 h.2.1 k hk) hv).1;rw[Y1z]
    split
    · exact⟨fun x hx=>by
        rcases Xm.1 hx with rfl|hx
        · omega
        · exact digs_nn _ x hx,by simp⟩
    · split
      · rename_i h0 h1;have ha:=h.1;rw[ar,if_neg h0,if_pos h1] at ha
        split at ha
        · rename_i hr;refine⟨fun x hx=> ?_,by simp⟩;rcases Xm.1 hx with rfl|hx
          · omega
          · rw[Xh.1 hx];have:∀i:Nat,i<26→0≤Y9.getD i 0:=by decide
            exact this _ (by omega)
        · cases ha
      · split
        · obtain⟨a,b,rfl⟩:=good_two (d:=d) h.1 (by have:=(good_head (d:=d+1) (T:=.node n ks) h).1;rw[Tr.flat] at this;have e:(hd (n::Y1w ks)).Op=n.Op:=rfl;rw[e] at this;omega) (by omega);rw[binC_eq];have hs:∀y∈signC n.Op,0≤y:=by
            unfold signC
            repeat' split
            all_goals simp
          have hl:1≤(signC n.Op).length:=by
            unfold signC
            repeat' split
            all_goals simp
          refine⟨fun x hx=> ?_,by simp only[X5];omega⟩;rw[Xs,Xs] at hx;rcases hx with(hx|hx)|hx
          · exact kd a (by simp) lv hv x hx
          · exact hs x hx
          · exact kd b (by simp) lv hv x hx
        · split
          · rename_i h78;obtain⟨a,b,rfl⟩:=good_two (d:=d) h.1 (by omega) (by omega);rw[powC_eq];have hx7:(0:Int)≤expC n.Op:=by unfold expC;split<;>omega
            have hv':∀x∈lv++[expC n.Op],0≤x:=fun x hx=>by
              rw[Xs,Xh] at hx;rcases hx with hx|rfl
              · exact hv x hx
              · exact hx7
            refine⟨fun x hx=> ?_,by simp only[X5,Xa];omega⟩;simp only[Xs,Xm] at hx;rcases hx with((hx|hx|hx)|hx)|hx|hx
            · split at hx
              · exact kd a (by simp) lv hv x hx
              · simp only[Xm,Xs,X05,or_false] at hx;rcases hx with hx|hx|hx
                · omega
                · exact kd a (by simp) lv hv x hx
                · omega
            · omega
            · exact hv' x (by rw[Xs];simpa using hx)
            · exact kd b (by simp) _ hv' x hx
            · omega
            · exact hv x hx
          · refine⟨fun x hx=> ?_,by simp⟩;simp only[Xs,Xm,X05,or_false] at hx;rcases hx with hx|hx|hx
            · rw[hx];unfold Y5y;repeat' split
              all_goals omega
            · exact kids_nn lv n ks 0 (fun k hk=>kd k hk lv hv) x hx
            · rw[hx];unfold Y1k;repeat' split
              all_goals omega
theorem Nn.of{t:List Int}(h:∀x∈t,0≤x):Nn t:=fun i=>by
  by_cases hi:i<t.length
  · rw[X7,X2 hi];exact h _ (List.getElem_mem hi)
  · rw[X7,X11 (by omega)];simp
theorem Ag.of{a b:List Int}{m:Int}(h:∀j:Nat,(j:Int)≤m→a[j]? =b[j]?):Ag a b m:=fun j h0 hj=>by
  have:=h j.toNat (by omega);unfold pk cAt;rw[X7,X7,this]
  by_cases h1:j<(a.length:Nat)
  · rw[if_pos h1]
    by_cases h2:j<(b.length:Nat)
    · rw[if_pos h2]
    · rw[X2 (by omega),X11 (by omega)] at this;cases this
  · rw[if_neg h1]
    by_cases h2:j<(b.length:Nat)
    · rw[X11 (by omega),X2 (by omega)] at this;cases this
    · rw[if_neg h2]
theorem write_read{x:Tr}(h:Gd x)(hl:¬60<x.flat.length)(hd:¬8<x.dep):Y1r x.flat=some (x.cells [],0):=by
  have:=dep_pos x;exact(Write_cells (T:=x) (d:=x.dep.toNat) h (by omega) (by omega)).1
end Go.Proofs.YtfpcbalkioolmaaDoor
