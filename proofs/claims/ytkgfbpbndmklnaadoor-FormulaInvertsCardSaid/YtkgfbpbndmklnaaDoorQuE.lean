/- Own work. -/
import Derived.Test.YtkgfbpbndmklnaaDoorQuC
set_option linter.unusedSimpArgs false
set_option linter.unusedVariables false
namespace Go.Proofs.YtkgfbpbndmklnaaDoor
open Go.Abs
theorem decs_digs:∀(k n:Nat),n<10^(k+1)→decs (k+1) n=lnt (digs k n)
 |0,n,h=>by
  rw[decs,digs,Vp];show _=[(((UInt8.ofNat (48+n)).toNat:Nat):Int)];rw[Y32 (by omega)];simp
 |k+1,n,h=>by
  rw[decs,digs]
  by_cases h1:n<10
  ·rw[if_pos h1,if_pos h1];show _=[(((UInt8.ofNat (48+n)).toNat:Nat):Int)];rw[Y32 (by omega)];simp
  ·rw[if_neg h1,if_neg h1,lnt_app,decs_digs k (n/10) (by rw[Nat.pow_succ] at h;omega)];congr 1;show _=[(((UInt8.ofNat (48+n%10)).toNat:Nat):Int)];rw[Y32 (by omega)];simp
def PnOk (f:List Y4) (rc:Ye→Option Ye) (T:Tr):Prop:=∀(pre post:List Y4) (acc:List UInt8),f=pre++T.flat++post→acc.length+20*T.flat.length≤1000000→
 rc ⟨f,(pre.length:Int),lnt acc⟩=some ⟨f,((pre.length+T.flat.length:Nat):Int),lnt (acc++T.tx)⟩
def pnB (rc:Ye→Option Ye) (x:Int×Bool):(Ye×Y4×Int→Option Ye)→Ye×Y4×Int→Option Ye:=fun loop s=>Y0f rc x loop s.1 s.2.1 s.2.2
theorem rm1{n:Nat}(h:n≤3000000):room 1 n:=by unfold room;omega
theorem name_lnt{o:Int}(h:6≤o∧o≤13):∃b,f_formula_name o=some b∧bytesOf b=lnt (if o=10 then[] else Y54 o)∧b.size≤6:=by
 have:o=6∨o=7∨o=8∨o=9∨o=10∨o=11∨o=12∨o=13:=by omega
 rcases this with rfl|rfl|rfl|rfl|rfl|rfl|rfl|rfl<;>exact⟨_,rfl,rfl,by decide⟩
theorem sep_ok{n:Y4}{k:Nat}{m:Nat}(ha:ar n=some m)(hn:6≤n.Op):Y34 n (k:Int)=some (((sepOf n k).toNat:Nat):Int):=by
 have hN8:n.Op=13→1≤n.N%8∧0≤n.N:=fun h13=>by
  unfold ar at ha;rw[Vn,Vn,Vn,Vn,Vn,if_pos h13] at ha
  split at ha
  ·next h=>omega
  ·cases ha
 unfold Y34;rw[Y2g (by
  intro hh;simp only[X3,beq_iff_eq] at hh;obtain⟨g1,g2⟩:=hN8 hh.2;rw[tmod_nat _ _ g2];omega)]
 have esep:(cond (cond (n.Op==12) ((k:Int)==n.N) false) true (cond (n.Op==13) (Int.tmod (k:Int) (Int.tmod n.N 8)==0) false))=decide (n.Op=12∧(k:Int)=n.N∨n.Op=13∧(k:Int)%(n.N%8)=0):=by
  by_cases h12:n.Op=12
  ·rw[h12];simp only[beq_self_eq_true,cond_true,true_and]
   by_cases hd:(k:Int)=n.N
   ·rw[show((k:Int)==n.N)=true by rw[beq_iff_eq];exact hd,decide_eq_true (.inl hd)];rfl
   ·rw[show((k:Int)==n.N)=false by rw[beq_eq_false_iff_ne];exact hd,decide_eq_false (by rintro(h|h);exact hd h;exact absurd h.1 (by decide))];rfl
  ·rw[show(n.Op==12)=false by rw[beq_eq_false_iff_ne];exact h12];simp only[cond_false]
   by_cases h13:n.Op=13
   ·obtain⟨g1,g2⟩:=hN8 h13;rw[tmod_nat _ _ g2,tmod_nat _ _ (by omega:(0:Int)≤(k:Nat)),h13];simp only[beq_self_eq_true,cond_true,true_and];rw[X1d];simp
   ·rw[show(n.Op==13)=false by rw[beq_eq_false_iff_ne];exact h13,decide_eq_false (by rintro(h|h);exact h12 h.1;exact h13 h.1)];rfl
 rw[esep,sepOf,Vn]
 by_cases hs:n.Op=12∧(k:Int)=n.N∨n.Op=13∧(k:Int)%(n.N%8)=0
 ·rw[Y4f hs,if_pos hs];rfl
 ·rw[Y3w hs,if_neg hs];rfl
theorem pn_run{f pre post:List Y4}{n:Y4}{ks:List Tr}{rc:Ye→Option Ye}{b:Bool}(hf:f=pre++(n::Y33 ks)++post)(hn:6≤n.Op)(ha:ar n=some ks.length)
  (hk:∀x∈ks,PnOk f rc x):∀(ls done:List Tr) (acc:List UInt8) (m:Nat),ks=done++ls→acc.length+20*(Y33 ls).length≤999987→
  iter (pnB rc ((ks.length:Int),b)) (m+1+ls.length) (⟨f,((pre.length+1+(Y33 done).length:Nat):Int),lnt acc⟩,n,(done.length:Int))=some ⟨f,((pre.length+1+(Y33 ks).length:Nat):Int),lnt (acc++txs n done.length ls++[41])⟩:=by
 have h16:=ar_le ha;intro ls
 induction ls with
 |nil=>
  intro done acc m he hacc;have hd:done=ks:=by simpa using he.symm
  subst hd;rw[show m+1+([]:List Tr).length=m+1 by simp,Y1b];unfold pnB Y0f;simp only;rw[Y3w (by omega),Y2g (rm1 (by rw[lnt_len];omega)),txs,X0k,lnt_app]
  rfl
 |cons x ls ih=>
  intro done acc m he hacc;have hx:x∈ks:=by rw[he];simp
  have hdk:done.length<ks.length:=by rw[he];simp
  have fx:Y33 ks=Y33 done++(x.flat++Y33 ls):=by rw[Y3g,Y3g,Y3g,he];simp
  have fl:Y33 (x::ls)=x.flat++Y33 ls:=rfl;have fp:=flat_pos x;rw[fl,X6] at hacc;have tl:=tx_len x;have hrec:∀a:List UInt8,a.length≤acc.length+1→rc ⟨f,((pre.length+1+(Y33 done).length:Nat):Int),lnt a⟩=some ⟨f,((pre.length+1+(Y33 (done++[x])).length:Nat):Int),lnt (a++x.tx)⟩:=fun a ha2=>by
   have:=hk x hx (pre++n::Y33 done) (Y33 ls++post) a (by rw[hf,fx];simp) (by omega);rw[show(pre++n::Y33 done).length=pre.length+1+(Y33 done).length by simp only[X6,Xc];omega] at this;rw[this];rw[Y3g (done++[x]),X0e,X17, ←Y3g,X6];simp[X1h]
  have nx:=fun(a2:List UInt8) (h2:a2.length+20*(Y33 ls).length≤999987)=>ih (done++[x]) a2 m (by rw[he];simp) h2;rw[show m+1+(x::ls).length=(m+1+ls.length)+1 by simp only[Xc];omega,Y1b];generalize iter (pnB rc ((ks.length:Int),b)) (m+1+ls.length)=L at nx⊢;have step:∀a:List UInt8,a.length≤acc.length+1→Y0e rc L (done.length:Int) ⟨f,((pre.length+1+(Y33 done).length:Nat):Int),lnt a⟩ n=some ⟨f,((pre.length+1+(Y33 ks).length:Nat):Int),lnt (a++(x.tx++txs n (done.length+1) ls)++[41])⟩:=fun a ha2=>by
   unfold Y0e Y1o;rw[hrec a ha2,X9,Y4n (by omega)];have:=nx (a++x.tx) (by rw[X6];omega);rw[show((done++[x]).length:Int)=(done.length:Int)+1 by simp] at this;rw[this];simp
  unfold pnB Y0f;simp only;rw[Y4f (by omega)]
  by_cases h0:done.length=0
  ·rw[Y3w (by omega)];refine Eq.trans (step acc (by omega)) ?_;rw[txs,if_pos h0];simp
  ·rw[Y4f (by omega),sep_ok ha hn,X9,Y2g (rm1 (by rw[lnt_len];simp only[Xc,Xi];omega))];have:=step (acc++[sepOf n done.length]) (by simp);rw[lnt_app] at this;refine Eq.trans this ?_;rw[txs,if_neg h0];simp
theorem pn_all{f:List Y4}(hl:f.length≤100000):∀(d:Nat) (T:Tr) (m:Nat),Y4l d T→PnOk f (Yx (m+d)) T
 |0,T,m,h=>by cases T;exact h.elim
 |d+1,.node n ks,m,h=>by
  obtain⟨h1,h2,h3⟩:=h;have hk:∀x∈ks,PnOk f (Yx (m+d)) x:=fun x hx=>pn_all hl d x m (goodL_iff.1 h2 x hx);intro pre post acc hf hacc;rw[Tr.flat] at hf hacc;have hlt:pre.length<f.length:=by rw[hf];simp
  have hg:f.getD ((pre.length:Nat):Int).toNat Yc=n:=by rw[hf,Xu];exact getD_mid _ _ _
  have h16:=ar_le h1;simp only[Xc] at hacc;rw[show m+(d+1)=(m+d)+1 by omega,Yx];unfold Y23;simp only;rw[Y2g (by omega),Y4n (by omega),hg];have epos:((pre.length:Nat):Int)+1=((pre.length+1+(Y33 ([]:List Tr)).length:Nat):Int):=by simp[Y33]
  have eend:((pre.length+(Tr.node n ks).flat.length:Nat):Int)=((pre.length+1+(Y33 ks).length:Nat):Int):=by rw[Tr.flat];simp only[Xc];omega
  rw[eend];have big:6≤n.Op→Yp (Yx (m+d)) ⟨f,(pre.length:Int),lnt acc⟩ ⟨f,(pre.length:Int)+1,lnt acc⟩ false=some ⟨f,((pre.length+1+(Y33 ks).length:Nat):Int),lnt (acc++(Tr.node n ks).tx)⟩:=fun hn=>by
   have hc:=ar_cases h1;unfold Yp;simp only;obtain⟨b,b1,b2,b3⟩:=name_lnt (o:=n.Op) (by omega);have nl:(if n.Op=10 then[] else Y54 n.Op).length≤6:=by
    have:=nameL_len n.Op
    split<;>simp<;>omega
   rw[cond_false,hg,b1,X9,Y2g (rm1 (by rw[lnt_len];omega)),b2, ←lnt_app,Y2g (rm1 (by rw[lnt_len,X6];omega)),formula_arity_ok h1,X9];have:=pn_run (b:=true) hf hn h1 hk ks [] (acc++(if n.Op=10 then[] else Y54 n.Op)++[40]) (999999-ks.length) rfl (by simp only[X6,Xc,Xi];omega);rw[show 999999-ks.length+1+ks.length=1000000 by omega, ←epos,lnt_app] at this;have etx:(Tr.node n ks).tx=(if n.Op=10 then[] else Y54 n.Op)++40::(txs n 0 ks++[41]):=by
    rw[Tr.tx,Vn,Vn,wrapT,if_neg (show ¬n.Op≤5 by omega)]
   rw[etx];refine Eq.trans this ?_;simp
  have bin:(n.Op=2∨n.Op=3∨n.Op=4∨n.Op=5)→Yp (Yx (m+d)) ⟨f,(pre.length:Int),lnt acc⟩ ⟨f,(pre.length:Int)+1,lnt acc⟩ true=some ⟨f,((pre.length+1+(Y33 ks).length:Nat):Int),lnt (acc++(Tr.node n ks).tx)⟩:=fun hn=>by
   have e2:ks.length=2:=by
    unfold ar at h1;rw[Vn,Vn,Vp] at h1
    split at h1
    ·simpa using h1.symm
    ·cases h1
   obtain⟨a,b,rfl⟩:∃a b,ks=[a,b]:=by
    cases ks with
    |nil=>simp at e2
    |cons a ks=>cases ks with
     |nil=>simp at e2
     |cons b ks=>cases ks with
      |nil=>exact⟨a,b,rfl⟩
      |cons c ks=>simp at e2
   have fab:Y33 [a,b]=a.flat++b.flat:=by simp[Y33]
   rw[fab] at hf hacc;rw[X6] at hacc;have la:=tx_len a;have lb:=tx_len b;have hra:=hk a (by simp) (pre++[n]) (b.flat++post) acc (by rw[hf];simp) (by omega);have hrb:=hk b (by simp) (pre++n::a.flat) post (acc++a.tx++[sgnC n.Op]) (by rw[hf];simp) (by simp only[X6,Xc,Xi];omega);rw[show((pre++[n]).length:Int)=(pre.length:Int)+1 by simp] at hra;have es:f_formula_sign n.Op=some (((sgnC n.Op).toNat:Nat):Int):=by
    rcases hn with e|e|e|e<;>rw[e]<;>rfl
   unfold Yp;simp only;rw[cond_true,hra,X9,hg,es,X9,Y2g (rm1 (by rw[lnt_len];simp only[X6,Xc,Xi];omega))];rw[show((pre++[n]).length+a.flat.length)=(pre++n::a.flat).length by simp only[X6,Xc,Xi];omega];rw[lnt_app (acc++a.tx)] at hrb;rw[show[(((sgnC n.Op).toNat:Nat):Int)]=lnt [sgnC n.Op] from rfl,hrb,X9,fab];have etx:(Tr.node n [a,b]).tx=a.tx++[sgnC n.Op]++b.tx:=by
    rw[Tr.tx,Vn,Vn,wrapT,Vp,txs,txs,txs,if_pos rfl,Vn,sepOf,Vp];simp
   rw[etx];simp only[Xu,X6,Xc];rw[show pre.length+(a.flat.length+1)+b.flat.length=pre.length+1+(a.flat.length+b.flat.length) by omega]
  have hc:=ar_cases h1;have h1':=h1
  by_cases h0:n.Op=0
  ·unfold ar at h1';rw[if_pos h0] at h1'
   split at h1'
   ·next hN=>
    have e0:ks=[]:=Xn (by simpa using h1'.symm);subst e0;rw[show(n.Op==0)=true by rw[beq_iff_eq];exact h0,cond_true,Y2g hN,Y2g (rm1 (by rw[lnt_len];omega)),Tr.tx,if_pos h0,decs_digs 4 _ (by omega), ←lnt_app]
    rfl
   ·cases h1'
  ·rw[show(n.Op==0)=false by rw[beq_eq_false_iff_ne];exact h0,cond_false]
   by_cases h1o:n.Op=1
   ·unfold ar at h1';rw[if_neg h0,if_pos h1o] at h1'
    split at h1'
    ·next hN=>
     have e0:ks=[]:=Xn (by simpa using h1'.symm);subst e0;rw[show(n.Op==1)=true by rw[beq_iff_eq];exact h1o,cond_true,Y4n (by omega),Y2g (rm1 (by rw[lnt_len];simp only[Xc,Xi];omega)),Tr.tx,if_neg h0,if_pos h1o,wrap_u8' (by omega),lnt_app];have:lnt [UInt8.ofNat (97+n.N.toNat)]=[97+n.N]:=by
      show[(((UInt8.ofNat (97+n.N.toNat)).toNat:Nat):Int)]=_;rw[Y32 (by omega),show(((97+n.N.toNat:Nat)):Int)=97+n.N by omega]
     rw[this]
     rfl
    ·cases h1'
   ·rw[show(n.Op==1)=false by rw[beq_eq_false_iff_ne];exact h1o,cond_false]
    by_cases h2o:n.Op=2
    ·rw[show(n.Op==2)=true by rw[beq_iff_eq];exact h2o,cond_true];exact bin (by omega)
    ·rw[show(n.Op==2)=false by rw[beq_eq_false_iff_ne];exact h2o,cond_false]
     by_cases h3o:n.Op=3
     ·rw[show(n.Op==3)=true by rw[beq_iff_eq];exact h3o,cond_true];exact bin (by omega)
     ·rw[show(n.Op==3)=false by rw[beq_eq_false_iff_ne];exact h3o,cond_false]
      by_cases h4o:n.Op=4
      ·rw[show(n.Op==4)=true by rw[beq_iff_eq];exact h4o,cond_true];exact bin (by omega)
      ·rw[show(n.Op==4)=false by rw[beq_eq_false_iff_ne];exact h4o,cond_false]
       by_cases h5o:n.Op=5
       ·rw[show(n.Op==5)=true by rw[beq_iff_eq];exact h5o];exact bin (by omega)
       ·rw[show(n.Op==5)=false by rw[beq_eq_false_iff_ne];exact h5o];exact big (by omega)
theorem formula_Print_ok{d:Nat}{T:Tr}(hd:d≤8)(h:Y4l d T)(hl:T.flat.length≤60):Y3s T.flat=some (B T.tx):=by
 have:=pn_all (f:=T.flat) (by omega) d T (1000000-d) h [] [] [] (by simp) (by simp only[Xi];omega);rw[show 1000000-d+d=1000000 by omega] at this;unfold Y3s Y4k;rw[formula_Valid_ok (good_IsT d T h) hd hl,X9,Bool.not_true,cond_false];have e:Yx 1000000 ⟨T.flat,0,[]⟩=_:=this;rw[e,X9,strOf_B,toU_lnt,X0c]
end Go.Proofs.YtkgfbpbndmklnaaDoor
