/- Own work. -/
import Derived.Test.YtkgfbpbndmklnaaDoorFmX
set_option linter.unusedSimpArgs false
set_option linter.unusedVariables false
namespace Go.Proofs.YtkgfbpbndmklnaaDoor
section
open Go.Abs
variable {A:Y2→Nat→Y2→Bool}
theorem mat_cond2{N:Int}(h:¬(8≤N∧N<40∧1≤N%8∧N%8≤4)):
    (bif bif bif bif decide ((0:Int)<N) then decide ((1:Int)≤(Int.tdiv N (8:Int))) else false then decide ((Int.tdiv N (8:Int))≤(4:Int)) else false then decide ((1:Int)≤(Int.tmod N (8:Int))) else false then decide ((Int.tmod N (8:Int))≤(4:Int)) else false)=false:=by
  by_cases h0:0<N
  · rw[tdiv8 (by omega),tmod8 (by omega)];simp only[cond_and];rw[←X0z];simp only[X5,decide_eq_true_eq];omega
  · rw[decide_eq_false h0];rfl
theorem R09_Arity_none{n:Y2}(h:ar n=none)(hn:okN n):Y37 n=some (-1):=by
  have⟨o,N⟩:=n;have hN:=hn.2;simp only at hN
  by_cases h0:o=0
  · subst h0;have hc:¬(0≤N∧N≤99999):=by
      unfold ar at h;simp only[if_true] at h
      split at h
      · cases h
      · assumption
    unfold Y37 Y1s;simp only[cond_and];rw[Y2j rfl,show(decide (0≤N)&&decide (N≤99999))=false by rw[←X0z];simpa using hc,cond_false]
  by_cases h1:o=1
  · subst h1;have hc:¬(0≤N∧N≤25):=by
      unfold ar at h;simp only[if_true] at h
      rw[Vn] at h
      split at h
      · cases h
      · assumption
    unfold Y37 Y1s;simp only[cond_and];rw[Y25 (by omega),Y2j rfl,show(decide (0≤N)&&decide (N≤25))=false by rw[←X0z];simpa using hc,cond_false]
  have k2:∀b:Bool,(b=true→9≤o∧o≤11)→(b=false→¬(9≤o∧o≤11))→¬(2≤o∧o≤8)→Y2u ⟨o,N⟩ b=some (-1):=by
    intro b hb hb' h28;unfold Y2u Y1s;cases b with
    |true=>
      have:=hb rfl;unfold ar at h;simp only at h
      rw[if_neg h0,if_neg h1,if_neg h28,if_pos this] at h;rw[cond_true]
      split at h
      · cases h
      · rename_i hz;rw[Y25 hz]
    |false=>
      have h911:=hb' rfl;rw[cond_false];simp only
      by_cases h12:o=12
      · unfold ar at h;simp only at h
        rw[if_neg h0,if_neg h1,if_neg h28,if_neg h911,if_pos h12] at h;rw[Y2j h12];have hz:¬(2≤N∧N≤5):=by
          split at h
          · cases h
          · assumption
        simp only[cond_and];rw[show(decide (2≤N)&&decide (N≤5))=false by rw[←X0z];simpa using hz,cond_false]
      rw[Y25 h12]
      by_cases h13:o=13
      · have hz:=ar_none_mat h h13;rw[Y2j h13,Y2k (tdiv8_le hN),mat_cond2 hz,cond_false]
      · rw[Y25 h13]
  have k3:∀b:Bool,(b=true→2≤o∧o≤8)→(b=false→¬(2≤o∧o≤8))→Y1g ⟨o,N⟩ b=some (-1):=by
    intro b hb hb';unfold Y1g Y1s;cases b with
    |true=>
      have:=hb rfl;unfold ar at h;simp only at h
      rw[if_neg h0,if_neg h1,if_pos this] at h;rw[cond_true]
      split at h
      · cases h
      · rename_i hz;rw[Y25 hz]
    |false=>
      have h28:=hb' rfl;rw[cond_false];simp only
      by_cases h9:o=9
      · rw[Y2j h9];exact k2 _ (fun _=>by omega) (fun hx=>absurd h9 (beq_eq_false_iff_ne.1 hx)) h28
      rw[Y25 h9]
      by_cases h10:o=10
      · rw[Y2j h10];exact k2 _ (fun _=>by omega) (fun hx=>absurd h10 (beq_eq_false_iff_ne.1 hx)) h28
      rw[Y25 h10];exact k2 _ (fun hx=>by have:=beq_iff_eq.1 hx;omega) (fun hx=>by have:=beq_eq_false_iff_ne.1 hx;omega) h28
  unfold Y37;simp only;rw[Y25 h0,Y25 h1]
  by_cases h2:o=2
  · rw[Y2j h2];exact k3 _ (fun _=>by omega) (fun hx=>absurd h2 (beq_eq_false_iff_ne.1 hx))
  rw[Y25 h2]
  by_cases h2:o=3
  · rw[Y2j h2];exact k3 _ (fun _=>by omega) (fun hx=>absurd h2 (beq_eq_false_iff_ne.1 hx))
  rw[Y25 h2]
  by_cases h2:o=4
  · rw[Y2j h2];exact k3 _ (fun _=>by omega) (fun hx=>absurd h2 (beq_eq_false_iff_ne.1 hx))
  rw[Y25 h2]
  by_cases h2:o=5
  · rw[Y2j h2];exact k3 _ (fun _=>by omega) (fun hx=>absurd h2 (beq_eq_false_iff_ne.1 hx))
  rw[Y25 h2]
  by_cases h2:o=6
  · rw[Y2j h2];exact k3 _ (fun _=>by omega) (fun hx=>absurd h2 (beq_eq_false_iff_ne.1 hx))
  rw[Y25 h2]
  by_cases h2:o=7
  · rw[Y2j h2];exact k3 _ (fun _=>by omega) (fun hx=>absurd h2 (beq_eq_false_iff_ne.1 hx))
  rw[Y25 h2];exact k3 _ (fun hx=>by have:=beq_iff_eq.1 hx;omega) (fun hx=>by have:=beq_eq_false_iff_ne.1 hx;omega)
abbrev Any:Y2→Nat→Y2→Bool:=fun _ _ _=>true
theorem end_tot{f:List Y2}(hl:f.length≤60)(hN:∀n∈f,okN n):∀(r:Nat) (pre post:List Y2) (o m:Nat),f=pre++post→post.length≤r→o≤16*pre.length+1→
    ∃e:Int,iter (endB f) (m+r+2) ((pre.length:Int),(o:Int))=some e∧(e= -1∨∃(ks:List (List Y2)) (rest:List Y2),post=ks.flatten++rest∧ks.length=o∧(∀k∈ks,IsTA Any k.length k)∧e=((pre.length+ks.flatten.length:Nat):Int)):=by
  intro r
  induction r with
  |zero=>
    intro pre post o m hf hr ho;have hp0:post=[]:=X0w.1 (by omega);subst hp0;rw[Yj]
    by_cases h0:o=0
    · refine⟨_, ?_,.inr ⟨[],[],rfl,by simp[h0],fun k hk=>by simp at hk,rfl⟩⟩;show Y1t f _ (pre.length:Int) (o:Int)=_;unfold Y1t;rw[Y3h (by omega)];simp
    · refine⟨-1, ?_,.inl rfl⟩;have hfl:f.length=pre.length:=by rw[hf];simp
      show Y1t f _ (pre.length:Int) (o:Int)=_;unfold Y1t;have c1:decide ((pre.length:Int)<0)=false:=by rw[decide_eq_false_iff_not];omega
      have c2:decide ((f.length:Int)≤(pre.length:Int))=true:=by rw[decide_eq_true_iff];omega
      rw[Y3g (by omega),c1,c2]
      rfl
  |succ r ih=>
    intro pre post o m hf hr ho;rw[show m+(r+1)+2=(m+r+2)+1 by omega,Yj]
    by_cases h0:o=0
    · refine⟨_, ?_,.inr ⟨[],post,rfl,by simp[h0],fun k hk=>by simp at hk,rfl⟩⟩;show Y1t f _ (pre.length:Int) (o:Int)=_;unfold Y1t;rw[Y3h (by omega)];simp
    cases post with
    |nil=>
      refine⟨-1, ?_,.inl rfl⟩;have hfl:f.length=pre.length:=by rw[hf];simp
      show Y1t f _ (pre.length:Int) (o:Int)=_;unfold Y1t;have c1:decide ((pre.length:Int)<0)=false:=by rw[decide_eq_false_iff_not];omega
      have c2:decide ((f.length:Int)≤(pre.length:Int))=true:=by rw[decide_eq_true_iff];omega
      rw[Y3g (by omega),c1,c2]
      rfl
    |cons n post=>
      have hfl:f.length=pre.length+(post.length+1):=by rw[hf];simp
      have hg:f.getD pre.length Yf=n:=by rw[hf];exact getD_mid _ _ _
      have c1:decide ((pre.length:Int)<0)=false:=by rw[decide_eq_false_iff_not];omega
      have c2:decide ((f.length:Int)≤(pre.length:Int))=false:=by rw[decide_eq_false_iff_not];omega
      cases har:ar n with
      |none=>
        refine⟨-1, ?_,.inl rfl⟩;show Y1t f _ (pre.length:Int) (o:Int)=_;unfold Y1t;rw[Y3g (by omega),c1,c2];simp only[cond_false,Xu,cond_true,Xv,hg,R09_Arity_none har (hN n (by rw[hf];simp)),X0]
        rw[Y14 (fun _=>by omega)]
        rfl
      |some c=>
        have h16:=ar_le har;have hst:=end_step hf (by omega) har (o:=o) (by omega) (by omega) (iter (endB f) (m+r+2));have⟨e,e1,e2⟩:=ih (pre++[n]) post (o+c-1) m (by rw[hf];simp) (by simp only[X7] at hr;omega) (by simp only[X4,X7,Xg];omega);refine⟨e, ?_, ?_⟩
        · rw[←e1,show(pre++[n]).length=pre.length+1 by simp];exact hst
        · rcases e2 with h|⟨ks,rest,q1,q2,q3,q4⟩
          · exact .inl h
          · refine .inr ⟨(n::(ks.take c).flatten)::ks.drop c,rest, ?_, ?_, ?_, ?_⟩
            · rw[q1];simp only[X0c,X06,List.cons.injEq,true_and];rw[←X0d,X0p]
            · simp only[X7,X1i];omega
            · intro k hk;rcases Xm.1 hk with h|h
              · subst h;refine⟨n,ks.take c,rfl,by rw[har,X0f];congr 1;omega,fun k hk'=> ?_,fun _ _ _=>rfl⟩;have hm:=q3 k (X0y hk');refine hm.le ?_;have⟨a,b,hab⟩:=List.append_of_mem hk';rw[hab];simp only[X0d,X0c,X4];omega
              · exact q3 k (List.mem_of_mem_drop h)
            · rw[q4];have:ks.flatten.length=(ks.take c).flatten.length+(ks.drop c).flatten.length:=by
                rw[←X4, ←X0d,X0p]
              simp only[X4,X7,Xg,X0c];omega
theorem sound_tot{f pre post:List Y2}{n:Y2}{ks:List (List Y2)}{d:Nat}(hf:f=pre++(n::ks.flatten)++post)(hl:f.length≤100000)(ha:ar n=some ks.length)(hks:∀k∈ks,IsTA A d k):
    ∃b:Bool,Y4k f (pre.length:Int)=some b∧(b=true→∀(i:Nat) (k:List Y2),ks[i]? =some k→adm n i (hd k)=true):=by
  have hlt:pre.length<f.length:=by rw[hf];simp
  have hg:f.getD pre.length Yf=n:=by rw[hf,Xs];exact getD_mid _ _ _
  have hb:(0:Int)≤(pre.length:Int)∧(pre.length:Int)<(f.length:Int):=by omega
  have h16:=ar_le ha;have two:2≤n.Op→n.Op≤5→∃b:Bool,Y27 f (pre.length:Int) (offs (pre.length+1) ks) true=some b∧(b=true→∀(i:Nat) (k:List Y2),ks[i]? =some k→adm n i (hd k)=true):=by
    intro h2 h5;have hk2:ks.length=2:=by
      unfold ar at ha;rw[Vn,Vn,Vp] at ha
      split at ha
      · simpa using ha.symm
      · cases ha
    match hks2:ks,hk2 with
    |[a,b],_=>
      have k0:=kid_at (i:=0) (k:=a) hf hks rfl;have k1:=kid_at (i:=1) (k:=b) hf hks rfl;simp only[List.take_zero,X1j,Xg,X0h,X08,X0c,X4] at k0 k1;unfold Y27;simp only[cond_true,Xv,hg,R09_prec,X0,offs,X7,Xg,Int.toNat_zero,X17];rw[Y14 (by omega),Y14 (by omega),k0.2.2.1];have e1:([((pre.length+1:Nat):Int),((pre.length+1+a.length:Nat):Int)]:List Int).getD (1:Int).toNat 0=((pre.length+1+a.length:Nat):Int):=rfl;rw[e1]
      by_cases c1:pr n.Op≤pr (hd a).Op
      · rw[decide_eq_true c1];rw[Y14 (fun _=>by omega),Y14 (fun _=>by omega)];simp only[cond_true,Xv,k1.2.2.1,X0];refine⟨_,rfl,fun hb' i k hk=> ?_⟩;have hb'':=of_decide_eq_true hb';unfold adm;rw[if_pos ⟨h2,h5⟩]
        match i,hk with
        |0,hk=>
          obtain rfl:a=k:=by simpa using hk
          rw[if_pos rfl];exact decide_eq_true c1
        |1,hk=>
          obtain rfl:b=k:=by simpa using hk
          rw[Vn];exact decide_eq_true hb''
      · rw[decide_eq_false c1];rw[Y14 (fun h=>by cases h),Y14 (fun h=>by cases h)];exact⟨false,rfl,fun h=>by cases h⟩
  unfold Y4k;rw[Operands_ok hf hl ha hks,X0,Y14 hb];simp only[Xv,hg]
  by_cases h2:n.Op=2
  · rw[Y2j h2,beq_iff_eq.2 h2];exact two (by omega) (by omega)
  rw[Y25 h2]
  by_cases h3:n.Op=3
  · rw[Y2j h3,beq_iff_eq.2 h3];exact two (by omega) (by omega)
  rw[Y25 h3]
  by_cases h4:n.Op=4
  · rw[Y2j h4,beq_iff_eq.2 h4];exact two (by omega) (by omega)
  rw[Y25 h4]
  by_cases h5:n.Op=5
  · rw[beq_iff_eq.2 h5];exact two (by omega) (by omega)
  rw[beq_eq_false_iff_ne.2 h5];have hcs:=ar_cases ha;unfold Y27;simp only[cond_false,Xv,hg]
  by_cases h12:n.Op=12
  · rw[Y2j h12];have run:∀(j i m:Nat),i+j=ks.length→(∀(i':Nat) (k:List Y2),i'<i→ks[i']? =some k→(hd k).Op=0)→∃b:Bool,iter (sdB f (offs (pre.length+1) ks)) (m+1+j) (i:Int)=some b∧(b=true→∀(i':Nat) (k:List Y2),ks[i']? =some k→(hd k).Op=0):=by
      intro j
      induction j with
      |zero=>
        intro i m hi hA;refine⟨true, ?_,fun _ i' k hk=>hA i' k (by have:=(Xl.1 hk).1;omega) hk⟩;rw[X0h,Yj];unfold sdB Y2t Y5f;rw[Y3h (by rw[Y4z];omega)]
      |succ j ih=>
        intro i m hi hA;rw[show m+1+(j+1)=(m+1+j)+1 by omega,Yj];have hik:i<ks.length:=by omega
        have kk:=kid_at (i:=i) (k:=ks[i]) hf hks (X2 hik);show ∃b:Bool,Y2t f (offs (pre.length+1) ks) (iter (sdB f (offs (pre.length+1) ks)) (m+1+j)) (i:Int)=some b∧_;unfold Y2t;simp only[Xv,offs_get ks _ i hik];rw[Y3g (by rw[Y4z];omega),Y14 (by rw[Y4z];omega),Y14 (by omega),kk.2.2.1]
        by_cases hz:(hd ks[i]).Op=0
        · rw[cn_neg hz,Y2k (by omega)];exact ih (i+1) m (by omega) (fun i' k hi' hk=>by
            by_cases h:i'=i
            · subst h;rw[X2 hik] at hk;cases hk;exact hz
            · exact hA i' k (by omega) hk)
        · rw[cn_pos hz];exact⟨false,rfl,fun h=>by cases h⟩
    have⟨b,e,h⟩:=run ks.length 0 (999999-ks.length) (by omega) (fun i' k hi'=>by omega);rw[show 999999-ks.length+1+ks.length=1000000 by omega] at e;refine⟨b,e,fun hb' i k hk=> ?_⟩;unfold adm;rw[Vn,if_pos h12];exact decide_eq_true (h hb' i k hk)
  · rw[Y25 h12];refine⟨true,rfl,fun _ i k hk=> ?_⟩;unfold adm;rw[Vn,if_neg h12]
theorem bt_adm{f:List Y2}(hl:f.length≤100000)(hs:∀i:Nat,i<f.length→Y4k f (i:Int)=some true):∀(d:Nat) (t pre post:List Y2),IsTA A d t→f=pre++t++post→IsT d t
  |0,_,_,_,h,_=>h.elim
  |d+1,t,pre,post,h,hf=>by
    obtain⟨n,ks,rfl,ha,hks,_⟩:=h;refine⟨n,ks,rfl,ha,fun k hk=> ?_, ?_⟩
    · obtain⟨i,hi,rfl⟩:=List.getElem_of_mem hk;have kk:=kid_at (i:=i) (k:=ks[i]) hf hks (X2 hi);exact bt_adm hl hs d ks[i] _ _ (hks _ hk) kk.1
    · have⟨b,e,h⟩:=sound_tot hf hl ha hks;have:=hs pre.length (by rw[hf];simp);rw[this] at e;cases e;exact h rfl
theorem Tree_tot{f:List Y2}(hl:f.length≤60)(hN:∀n∈f,okN n):∃b:Bool,f_R09_Tree f=some b∧(b=true→IsT f.length f):=by
  unfold f_R09_Tree
  by_cases h0:f.length=0
  · have c1:((f.length:Int)==0)=true:=by rw[beq_iff_eq];omega
    rw[c1];exact⟨false,rfl,fun h=>by cases h⟩
  have c1:((f.length:Int)==0)=false:=by rw[beq_eq_false_iff_ne];omega
  have c2:decide ((200:Int)<(f.length:Int))=false:=by rw[decide_eq_false_iff_not];omega
  have⟨e,e1,e2⟩:=end_tot hl hN f.length [] f 1 (999998-f.length) rfl (by omega) (by simp);rw[show 999998-f.length+f.length+2=1000000 by omega] at e1;have e1':f_R09_End f 0=some e:=e1;simp only[c1,c2,cond_false,Xu,cond_true,e1',X0]
  by_cases hL:e=(f.length:Int)
  · rw[cn_neg hL];have hBT:IsTA Any f.length f:=by
      rcases e2 with h|⟨ks,rest,q1,q2,q3,q4⟩
      · omega
      · match ks,q2 with
        |[t],_=>
          simp only[X0c,X1j,X0k,Xg] at q1 q4;have hfl:f.length=t.length+rest.length:=by rw[q1];simp
          have hr:rest=[]:=X0w.1 (by omega);subst hr;rw[X0k] at q1;have:=q3 t (by simp);rw[←q1] at this;exact this
    have run:∀(j i m:Nat),i+j=f.length→(∀i':Nat,i'<i→Y4k f (i':Int)=some true)→∃b:Bool,iter (trB f) (m+1+j) (i:Int)=some b∧(b=true→∀i':Nat,i'<f.length→Y4k f (i':Int)=some true):=by
      intro j
      induction j with
      |zero=>
        intro i m hi hA;refine⟨true, ?_,fun _ i' hi'=>hA i' (by omega)⟩;rw[X0h,Yj];unfold trB Y3c;rw[Y3h (by omega)]
      |succ j ih=>
        intro i m hi hA;rw[show m+1+(j+1)=(m+1+j)+1 by omega,Yj];have⟨pre,n,ks,post,e,h1,h2,h3,h4,h5⟩:=sub_at f.length f i hBT (by omega);have⟨b,s1,s2⟩:=sound_tot h1 (by omega) h3 h4;rw[h2] at s1;show ∃b:Bool,Y3c f (iter (trB f) (m+1+j)) (i:Int)=some b∧_;unfold Y3c;rw[Y3g (by omega),s1,X0];cases b with
        |false=>exact⟨false,rfl,fun h=>by cases h⟩
        |true=>
          rw[X0t,cond_false,Y2k (by omega)];exact ih (i+1) m (by omega) (fun i' hi'=>by
            by_cases h:i'=i
            · subst h;exact s1
            · exact hA i' (by omega))
    have⟨b,e,h⟩:=run f.length 0 (999999-f.length) (by omega) (fun i' hi'=>by omega);rw[show 999999-f.length+1+f.length=1000000 by omega] at e;exact⟨b,e,fun hb=>bt_adm (by omega) (h hb) f.length f [] [] hBT (by simp)⟩
  · rw[cn_pos hL];exact⟨false,rfl,fun h=>by cases h⟩
theorem R09_Valid_tot{f:List Y2}(hN:∀n∈f,okN n):∃b:Bool,Y44 f=some b∧(b=true→f.length≤60∧∃d,d≤8∧IsT d f):=by
  unfold Y44
  by_cases h60:f.length≤60
  · have⟨b,e,h⟩:=Tree_tot h60 hN;have c:decide ((f.length:Int)≤60)=true:=by rw[decide_eq_true_iff];omega
    rw[c,cond_true,e,X0];cases b with
    |false=>exact⟨false,rfl,fun h=>by cases h⟩
    |true=>
      have⟨v,v1,v2,v4,v3⟩:=depth_ok (f:=f) (by omega) f.length f [] [] (1000000-f.length) (by omega) (h rfl) (by simp);rw[show 1000000-f.length+f.length=1000000 by omega] at v3;have hD:Y6e f=some (v:Int):=by
        unfold Y6e f_R09_depth;have v3':Y2b 1000000 f 0=some (v:Int):=v3;rw[v3',X0]
      simp only[cond_true,hD,X0];exact⟨_,rfl,fun hb=>⟨h60,v,by have:=of_decide_eq_true hb;omega,v4⟩⟩
  · have c:decide ((f.length:Int)≤60)=false:=by rw[decide_eq_false_iff_not];omega
    rw[c];exact⟨false,rfl,fun h=>by cases h⟩
theorem Valid_agree{f:List Y2}(hN:∀n∈f,okN n):∃b:Bool,Y5t f=some b∧Y44 f=some b∧(b=true→f.length≤60∧∃d,d≤8∧IsT d f):=by
  have⟨b,e1,h1⟩:=formula_Valid_tot hN;have⟨c,e2,h2⟩:=R09_Valid_tot hN;have:b=c:=by
    cases b with
    |true=>
      have⟨h60,d,hd8,hd⟩:=h1 rfl;have:=R09_Valid_ok hd hd8 (by omega);rw[e2] at this;cases this;rw[decide_eq_true h60]
    |false=>
      cases c with
      |false=>rfl
      |true=>
        have⟨h60,d,hd8,hd⟩:=h2 rfl;have:=formula_Valid_ok hd hd8 (by omega);rw[e1] at this;cases this
  subst this;exact⟨b,e1,e2,h1⟩
end
end Go.Proofs.YtkgfbpbndmklnaaDoor
