/- Own work. -/
import Derived.Test.YtfpcbalkioolmaaDoorFmY
set_option linter.unusedSimpArgs false
set_option linter.unusedVariables false
namespace Go.Proofs.YtfpcbalkioolmaaDoor
open Go.Abs
theorem linear_sign_eq(o:Int):f_linear_sign o=some (signC o):=by
  unfold f_linear_sign signC
  by_cases h2:o=2
  · rw[Y47 h2,if_pos h2]
  rw[Y48 h2,if_neg h2]
  by_cases h3:o=3
  · rw[Y47 h3,if_pos h3]
  rw[Y48 h3,if_neg h3]
  by_cases h4:o=4
  · rw[Y47 h4,if_pos h4]
  rw[Y48 h4,if_neg h4]
theorem linear_exponent_eq(o:Int):Y4i o=some (expC o):=by
  unfold Y4i expC
  by_cases h:o=7
  · rw[Y47 h,if_pos h]
  · rw[Y48 h,if_neg h]
theorem linear_simple_eq{o:Int}(h0:0≤o∧o≤13):f_linear_simple o=some (Y5v o):=by
  have hc:o=0∨o=1∨o=2∨o=3∨o=4∨o=5∨o=6∨o=7∨o=8∨o=9∨o=10∨o=11∨o=12∨o=13:=by omega
  rcases hc with rfl|rfl|rfl|rfl|rfl|rfl|rfl|rfl|rfl|rfl|rfl|rfl|rfl|rfl<;>rfl
theorem lvOk_snoc{l:List Int}(h:lvOk l)(o:Int):lvOk (l++[expC o]):=fun y hy=>by
  rcases Xs.1 hy with hy|hy
  · exact h y hy
  · have:y=expC o:=by simpa using hy
    rw[this];unfold expC;split<;>omega
def NodeC (F:Y3→Option Y3) (f:List Y4) (d:Nat):Prop:=∀(T:Tr) (pre post:List Y4) (l c:List Int),T.good d→f=pre++T.flat++post→lvOk l→c.length+100*T.flat.length≤1000000→l.length+d≤30→
  F (W f pre.length l c)=some (W f (pre.length+T.flat.length) l (c++T.cells l))∧(T.cells l).length≤100*T.flat.length
theorem pow_k1C{F:Y3→Option Y3}{f:List Y4}{d:Nat}(hF:NodeC F f d){o:Int}{T:Tr}{pre post:List Y4}{l c:List Int}(ht:T.good d)(hf:f=pre++T.flat++post)(hl:lvOk l)(hc:c.length+100*T.flat.length+64≤1000000)(h40:l.length+d+1≤30):
    Y1b F o (W f pre.length l c)=some (W f (pre.length+T.flat.length) l (c++((16::(l++[expC o]))++T.cells (l++[expC o])++(16::l))))∧(T.cells (l++[expC o])).length≤100*T.flat.length:=by
  have hl2:=lvOk_snoc hl o;have hll:(l++[expC o]).length=l.length+1:=by simp
  have⟨r1,r3⟩:=hF T pre post (l++[expC o]) (c++[16]++(l++[expC o])) ht hf hl2 (by simp only[X5,Xa,Xj];omega) (by omega);refine⟨?_,r3⟩;unfold Y1b;rw[linear_exponent_eq,X8,G_room (by simp only[Xa,Xj];omega)];simp only;rw[put_ok (by simp only[Xa,Xj];omega),X8];simp only;rw[putl_ok (by simp only[X5,Xa,Xj];omega),X8];simp only;rw[r1,X8];simp only;rw[hll,Y53 (by omega),Y42 (by omega)];rw[show(((l.length+1:Nat):Int)-1).toNat=l.length by omega,List.take_left];rw[put_ok (by simp only[X5,Xa,Xj];omega),X8];simp only;rw[putl_ok (by simp only[X5,Xa,Xj];omega),X8];simp only[Xf,Xu,X04]
def PowC (F:Y3→Int→Option Y3) (f:List Y4) (d:Nat):Prop:=∀(n:Y4) (a b:Tr) (pre post:List Y4) (l c:List Int),a.good d→b.good d→f=pre++(n::(a.flat++b.flat))++post→lvOk l→c.length+100*(1+a.flat.length+b.flat.length)≤1000000→l.length+d+1≤30→
  F (W f (pre.length+1) l c) n.Op=some (W f (pre.length+1+a.flat.length+b.flat.length) l (c++powC l (expC n.Op) [a,b]))∧(powC l (expC n.Op) [a,b]).length≤100*(1+a.flat.length+b.flat.length)
theorem good_head{d:Nat}{T:Tr}(h:T.good d):0≤(hd T.flat).Op∧(hd T.flat).Op≤13:=by
  cases d with
  |zero=>cases T;exact h.elim
  |succ d=>
    cases T with
    |node n ks=>
      have hc:=ar_cases h.1;have e:hd (Tr.node n ks).flat=n:=by rw[Tr.flat];rfl
      rw[e];omega
theorem good_pos{d:Nat}{T:Tr}(h:T.good d):0<T.flat.length:=(good_IsT d T h).pos
theorem powC_eq(l:List Int)(x:Int)(a b:Tr):powC l x [a,b]=(if Y5v (hd a.flat).Op then a.cells l else 35::(a.cells l++[50]))++(16::(l++[x]))++b.cells (l++[x])++(16::l):=by rw[powC]
theorem power_bodyC{F:Y3→Option Y3}{f:List Y4}{d:Nat}(hF:NodeC F f d)(hl6:f.length≤100000)(P:Y3→Int→Option Y3)(B:Y3→Y4→Int→Option Y3):PowC (Y2b F P B) f d:=by
  intro n a b pre post l c ha hb hf hl hc h40;have hap:=good_pos ha;have hlen:pre.length+1<f.length:=by
    rw[hf];simp;omega
  have hpl:(pre++[n]).length=pre.length+1:=by simp
  have hfa:f=(pre++[n])++a.flat++(b.flat++post):=by rw[hf];simp
  have hfb:f=(pre++n::a.flat)++b.flat++post:=by rw[hf];simp
  have hpl2:(pre++n::a.flat).length=pre.length+1+a.flat.length:=by simp;omega
  have hh:=(hd_at (good_IsT d a ha) hfa).1;rw[hpl] at hh;rw[powC_eq];unfold Y2b;simp only;rw[Y42 (by omega),X02,hh,linear_simple_eq (good_head ha),X8];cases hs:Y5v (hd a.flat).Op with
  |true=>
    have⟨r1,r3⟩:=hF a _ _ l c ha hfa hl (by omega) (by omega);rw[hpl] at r1;have⟨q1,q3⟩:=pow_k1C hF (o:=n.Op) (c:=c++a.cells l) hb hfb hl (by simp only[X5];omega) h40;rw[hpl2] at q1;refine⟨?_,by rw[if_pos rfl];simp only[X5,Xa,Xj];omega⟩;rw[cond_true,r1,X8,if_pos rfl];simp only;rw[q1];simp only[Xf]
  |false=>
    have⟨r1,r3⟩:=hF a _ _ l (c++[35]) ha hfa hl (by simp only[X5,Xa,Xj];omega) (by omega);rw[hpl] at r1;have⟨q1,q3⟩:=pow_k1C hF (o:=n.Op) (c:=c++[35]++a.cells l++[50]) hb hfb hl (by simp only[X5,Xa,Xj];omega) h40;rw[hpl2] at q1;refine⟨?_,by rw[if_neg (by simp)];simp only[X5,Xa,Xj];omega⟩;rw[cond_false,put_ok (by simp only[Xa,Xj];omega),X8];simp only;rw[r1,X8];simp only;rw[put_ok (by simp only[X5,Xa,Xj];omega),X8];simp only;rw[q1,if_neg (by simp)];simp only[Xf,Xu,X04]
theorem flatL_app:∀(a b:List Tr),Y1w (a++b)=Y1w a++Y1w b
  |[],b=>rfl
  |k::a,b=>by rw[Xu,Y1w,Y1w,flatL_app a b,Xf]
theorem cellsL_cons(l:List Int)(n:Y4)(i:Nat)(k:Tr)(ks:List Tr):Y07 l n i (k::ks)=sepC n i++k.cells l++Y07 l n (i+1) ks:=by rw[Y07]
def midC (o:Int):Int:=if o=6 then 12 else if o=12∨o=13 then 32 else 0
theorem map_all{o:Int}(h:o=6∨9≤o∧o≤13):Y2o Y0h o=[Y5y o,midC o,Y1k o]:=by
  have hc:o=6∨o=9∨o=10∨o=11∨o=12∨o=13:=by omega
  rcases hc with rfl|rfl|rfl|rfl|rfl|rfl<;>rfl
theorem brk_runC{F:Y3→Option Y3}{f:List Y4}{d:Nat}(hF:NodeC F f d)(hl6:f.length≤100000){n:Y4}{ks:List Tr}{pre post:List Y4}{l:List Int}(hks:goodL d ks)(hf:f=pre++(n::Y1w ks)++post)(ha:ar n=some ks.length)(h6:n.Op=6∨9≤n.Op∧n.Op≤13)
    (hl:lvOk l) (h40:l.length+d+1≤30):
    ∀(ls done:List Tr) (m:Nat) (c:List Int),ks=done++ls→c.length+100*(Y1w ls).length+ls.length+1≤1000000→
      iter (bkB F (ks.length:Int)) (m+1+ls.length) (W f (pre.length+1+(Y1w done).length) l c,n,[Y5y n.Op,midC n.Op,Y1k n.Op],(done.length:Int))=some (W f (pre.length+1+(Y1w ks).length) l (c++(Y07 l n done.length ls++[Y1k n.Op])))∧(Y07 l n done.length ls).length≤ls.length+100*(Y1w ls).length:=by
  intro ls
  induction ls with
  |nil=>
    intro done m c he hc;have hd:done=ks:=by simpa using he.symm
    subst hd;refine⟨?_,by rw[Y07];simp⟩;rw[show m+1+([]:List Tr).length=m+1 by simp,Y1v];show Yz F (done.length:Int) _ (W f (pre.length+1+(Y1w done).length) l c) n [Y5y n.Op,midC n.Op,Y1k n.Op] (done.length:Int)=_;unfold Yz;rw[Y5b (by omega),show([Y5y n.Op,midC n.Op,Y1k n.Op]:List Int).getD 2 0=Y1k n.Op from rfl];rw[put_ok (by simp only[Xa,Xj];omega),X8,Y07]
    rfl
  |cons k ls ih=>
    intro done m c he hc;have hkl:ks.length=done.length+(ls.length+1):=by rw[he];simp
    have h16:=ar_le ha;have hg:=Y3r.1 hks k (by rw[he];simp);have hfk:f=(pre++n::Y1w done)++k.flat++(Y1w ls++post):=by rw[hf,he,flatL_app,Y1w];simp
    have hpk:(pre++n::Y1w done).length=pre.length+1+(Y1w done).length:=by rw[X5,Xa];omega
    have hfl:(Y1w (k::ls)).length=k.flat.length+(Y1w ls).length:=by rw[Y1w,X5]
    have hfd:(Y1w (done++[k])).length=(Y1w done).length+k.flat.length:=by rw[flatL_app,X5];simp[Y1w]
    rw[hfl] at hc⊢;have hlen:(k::ls).length=ls.length+1:=rfl;rw[hlen] at hc⊢;have op:∀(c:List Int),c.length+100*(k.flat.length+(Y1w ls).length)+ls.length+1≤1000000→Y08 F (iter (bkB F (ks.length:Int)) (m+1+ls.length)) (done.length:Int) (W f (pre.length+1+(Y1w done).length) l c) n [Y5y n.Op,midC n.Op,Y1k n.Op]=some (W f (pre.length+1+(Y1w ks).length) l (c++(k.cells l++Y07 l n (done.length+1) ls++[Y1k n.Op])))∧(k.cells l).length+(Y07 l n (done.length+1) ls).length≤ls.length+100*(k.flat.length+(Y1w ls).length):=by
      intro c hc;have⟨r1,r3⟩:=hF k _ _ l c hg hfk hl (by omega) (by omega);rw[hpk] at r1;have⟨q1,q3⟩:=ih (done++[k]) m (c++k.cells l) (by rw[he];simp) (by simp only[X5];omega);have hdl:(done++[k]).length=done.length+1:=by simp
      rw[hdl,hfd, ←X0s] at q1;rw[hdl] at q3;refine⟨?_,by omega⟩;unfold Y08 Y1x;simp only;rw[r1,X8,Y53 (by omega)];have e:c++(k.cells l++Y07 l n (done.length+1) ls++[Y1k n.Op])=c++k.cells l++(Y07 l n (done.length+1) ls++[Y1k n.Op]):=by simp
      rw[e, ←q1]
      rfl
    rw[show m+1+(ls.length+1)=(m+1+ls.length)+1 by omega,Y1v,cellsL_cons];show Yz F (ks.length:Int) (iter (bkB F (ks.length:Int)) (m+1+ls.length)) (W f (pre.length+1+(Y1w done).length) l c) n [Y5y n.Op,midC n.Op,Y1k n.Op] (done.length:Int)=_∧_;unfold Yz;simp only;rw[Y6e (by omega)]
    by_cases h0:(done.length:Int)=0
    · rw[Y47 h0];have⟨e1,e3⟩:=op c (by omega);have hs:sepC n done.length=[]:=by unfold sepC;rw[Vp]
      rw[hs];refine⟨e1,by simp only[X5,Xj];omega⟩
    · rw[Y48 h0];have hlt:1<ks.length:=by omega
      have sp:∀b:Bool,sepC n done.length=[if b then 51 else midC n.Op]→Y0m F (iter (bkB F (ks.length:Int)) (m+1+ls.length)) n [Y5y n.Op,midC n.Op,Y1k n.Op] (done.length:Int) (W f (pre.length+1+(Y1w done).length) l c) b=some (W f (pre.length+1+(Y1w ks).length) l (c++(sepC n done.length++k.cells l++Y07 l n (done.length+1) ls++[Y1k n.Op])))∧(sepC n done.length++k.cells l++Y07 l n (done.length+1) ls).length≤ls.length+1+100*(k.flat.length+(Y1w ls).length):=by
        intro b hb;rw[hb];have⟨e1,e3⟩:=op (c++[if b then 51 else midC n.Op]) (by simp only[X5,Xa,Xj];omega);refine⟨?_,by simp only[X5,Xa,Xj];omega⟩;have e:c++([if b then 51 else midC n.Op]++k.cells l++Y07 l n (done.length+1) ls++[Y1k n.Op])=c++[if b then 51 else midC n.Op]++(k.cells l++Y07 l n (done.length+1) ls++[Y1k n.Op]):=by simp
        rw[e, ←e1];unfold Y0m;cases b with
        |true=>
          simp only;rw[cond_true,put_ok (by simp only[Xa,Xj];omega),X8]
          rfl
        |false=>
          simp only;rw[cond_false,show([Y5y n.Op,midC n.Op,Y1k n.Op]:List Int).getD 1 0=midC n.Op from rfl,put_ok (by simp only[Xa,Xj];omega),X8]
          rfl
      by_cases h12:n.Op=12
      · have e12:(n.Op==12)=true:=beq_iff_eq.2 h12;have e13:(n.Op==13)=false:=beq_eq_false_iff_ne.2 (by omega);have hm:midC n.Op=32:=by rw[h12];rfl
        rw[e12,e13,cond_true]
        by_cases hN:(done.length:Int)=n.N
        · have eN:((done.length:Int)==n.N)=true:=beq_iff_eq.2 hN;rw[eN,cond_true];exact sp true (by unfold sepC;rw[Vn,if_pos h12,if_pos hN];rfl)
        · have eN:((done.length:Int)==n.N)=false:=beq_eq_false_iff_ne.2 hN;rw[eN,cond_false,Y42 (fun h=>by cases h),cond_false];exact sp false (by unfold sepC;rw[Vn,if_pos h12,if_neg hN,hm];rfl)
      · have e12:(n.Op==12)=false:=beq_eq_false_iff_ne.2 h12;rw[e12,cond_false,cond_false]
        by_cases h13:n.Op=13
        · have e13:(n.Op==13)=true:=beq_iff_eq.2 h13;have hm:midC n.Op=32:=by rw[h13];rfl
          have⟨hk,q⟩:=ar_mat ha h13;have hN8:n.N%8≠0:=fun hz=>by rw[hz,Int.mul_zero] at hk;omega
          have t1:Int.tmod n.N 8=n.N%8:=tmod8 (by omega);have t2:Int.tmod (done.length:Int) (n.N%8)=(done.length:Int)%(n.N%8):=tmod_n (by omega) _;rw[e13,t1,Y42 (fun _=>hN8),cond_true,t2]
          by_cases hz:(done.length:Int)%(n.N%8)=0
          · have eN:((done.length:Int)%(n.N%8)==0)=true:=beq_iff_eq.2 hz;rw[eN];exact sp true (by unfold sepC;rw[Vn,if_neg h12,if_pos h13,if_pos hz];rfl)
          · have eN:((done.length:Int)%(n.N%8)==0)=false:=beq_eq_false_iff_ne.2 hz;rw[eN];exact sp false (by unfold sepC;rw[Vn,if_neg h12,if_pos h13,if_neg hz,hm];rfl)
        · have e13:(n.Op==13)=false:=beq_eq_false_iff_ne.2 h13;have ho6:n.Op=6:=by
            rcases h6 with h|h
            · exact h
            · have:=ar_one ha (by omega) (by omega);omega
          have hm:midC n.Op=12:=by rw[ho6];rfl
          rw[e13,Y42 (fun h=>by cases h),cond_false];exact sp false (by unfold sepC;rw[Vn,if_neg h12,if_neg h13,hm];rfl)
def BrkC (F:Y3→Y4→Int→Option Y3) (f:List Y4) (d:Nat):Prop:=∀(n:Y4) (ks:List Tr) (pre post:List Y4) (l c:List Int),goodL d ks→f=pre++(n::Y1w ks)++post→ar n=some ks.length→(n.Op=6∨9≤n.Op∧n.Op≤13)→lvOk l→c.length+100*(1+(Y1w ks).length)≤1000000→l.length+d+1≤30→
  F (W f (pre.length+1) l c) n (ks.length:Int)=some (W f (pre.length+1+(Y1w ks).length) l (c++(Y5y n.Op::(Y07 l n 0 ks++[Y1k n.Op]))))∧(Y07 l n 0 ks).length≤ks.length+100*(Y1w ks).length
theorem brk_bodyC{F:Y3→Option Y3}{f:List Y4}{d:Nat}(hF:NodeC F f d)(hl6:f.length≤100000)(P:Y3→Int→Option Y3)(B:Y3→Y4→Int→Option Y3):BrkC (Y1n F P B) f d:=by
  intro n ks pre post l c hks hf ha h6 hl hc h40;have h16:=ar_le ha;have⟨e1,e3⟩:=brk_runC hF hl6 hks hf ha h6 hl h40 ks [] (999999-ks.length) (c++[Y5y n.Op]) rfl (by simp only[X5,Xa,Xj];omega);rw[show 999999-ks.length+1+ks.length=1000000 by omega] at e1;have hz:(Y1w ([]:List Tr)).length=0:=rfl;rw[hz,X0m,Xf] at e1;refine⟨?_,e3⟩;unfold Y1n;rw[map_all h6];simp only;rw[show([Y5y n.Op,midC n.Op,Y1k n.Op]:List Int).getD 0 0=Y5y n.Op from rfl,show([Y5y n.Op,midC n.Op,Y1k n.Op]:List Int).getD 1 0=midC n.Op from rfl,show([Y5y n.Op,midC n.Op,Y1k n.Op]:List Int).getD 2 0=Y1k n.Op from rfl];rw[put_ok (by simp only[Xa,Xj];omega),X8];exact e1
theorem good_two{d:Nat}{n:Y4}{ks:List Tr}(ha:ar n=some ks.length)(h2:2≤n.Op)(h8:n.Op≤8):∃a b,ks=[a,b]:=by
  have hk2:=ar_two ha h2 h8
  match ks,hk2 with
  |[a,b],_=>exact⟨a,b,rfl⟩
theorem flatL_two(a b:Tr):Y1w [a,b]=a.flat++b.flat:=by simp[Y1w]
theorem Y1z(l:List Int)(n:Y4)(ks:List Tr):(Tr.node n ks).cells l=if n.Op=0 then 60::digs n.N
    else if n.Op=1 then[48,Y9.getD n.N.toNat 0]
    else if n.Op≤5 then binC l (signC n.Op) ks
    else if n.Op=7∨n.Op=8 then powC l (expC n.Op) ks
    else Y5y n.Op::(Y07 l n 0 ks++[Y1k n.Op]):=by rw[Tr.cells]
theorem binC_eq(l s:List Int)(a b:Tr):binC l s [a,b]=a.cells l++s++b.cells l:=by rw[binC]
theorem node_k1C{P:Y3→Int→Option Y3}{B:Y3→Y4→Int→Option Y3}{f:List Y4}{d:Nat}(hP:PowC P f d)(hB:BrkC B f d)(hl6:f.length≤100000){n:Y4}{ks:List Tr}{pre post:List Y4}{l c:List Int}(hks:goodL d ks)(hf:f=pre++(n::Y1w ks)++post)(ha:ar n=some ks.length)
    (h6:6≤n.Op) (hl:lvOk l) (hc:c.length+100*(1+(Y1w ks).length)≤1000000) (h40:l.length+d+1≤30):
    Y1d P B (W f pre.length l c) (W f (pre.length+1) l c) (decide (n.Op=7∨n.Op=8))=some (W f (pre.length+1+(Y1w ks).length) l (c++(Tr.node n ks).cells l))∧((Tr.node n ks).cells l).length≤100*(1+(Y1w ks).length):=by
  have hg:f.getD pre.length Yl=n:=by rw[hf,Xf];exact getD_mid _ _ _
  rw[Y1z,Vn,Vn,Vn];unfold Y1d;simp only[X02,hg]
  by_cases h78:n.Op=7∨n.Op=8
  · rw[Y6e h78,if_pos h78];obtain⟨a,b,rfl⟩:=good_two (d:=d) ha (by omega) (by omega);rw[flatL_two] at hf hc⊢;simp only[X5] at hc⊢;have hga:=Y3r.1 hks a (by simp);have hgb:=Y3r.1 hks b (by simp);have⟨e1,e3⟩:=hP n a b pre post l c hga hgb hf hl (by omega) h40;refine⟨?_,by omega⟩;rw[e1,X8,X0s (pre.length+1)]
  · rw[Y5b h78,if_neg h78];have hcs:=ar_cases ha;have⟨e1,e3⟩:=hB n ks pre post l c hks hf ha (by omega) hl hc h40;have h16:=ar_le ha;refine⟨?_,by simp only[Xa,X5,Xj];omega⟩
    by_cases h12:n.Op=12
    · have⟨hk,q⟩:=ar_tab ha h12;rw[Y47 h12,Y53 (by omega), ←hk,e1,X8]
    rw[Y48 h12]
    by_cases h13:n.Op=13
    · have⟨hk,q⟩:=ar_mat ha h13;rw[Y47 h13,tdiv8 (by omega),tmod8 (by omega), ←hk,Y53 (by omega),Y53 (by omega),e1,X8]
    rw[Y48 h13]
    by_cases h6':n.Op=6
    · have hk2:=ar_two ha (by omega) (by omega);rw[hk2] at e1;rw[Y47 h6'];have e1':B ⟨f,((pre.length+1:Nat):Int),l,c,()⟩ n 2=_:=e1;rw[e1',X8]
    · have hk1:=ar_one ha (by omega) (by omega);rw[hk1] at e1;rw[Y48 h6'];have e1':B ⟨f,((pre.length+1:Nat):Int),l,c,()⟩ n 1=_:=e1;rw[e1',X8]
theorem node_k2C{F:Y3→Option Y3}{P:Y3→Int→Option Y3}{B:Y3→Y4→Int→Option Y3}{f:List Y4}{d:Nat}(hF:NodeC F f d)(hP:PowC P f d)(hB:BrkC B f d)(hl6:f.length≤100000){n:Y4}{ks:List Tr}{pre post:List Y4}{l c:List Int}(hks:goodL d ks)(hf:f=pre++(n::Y1w ks)++post)(ha:ar n=some ks.length)
    (h6:2≤n.Op) (hl:lvOk l) (hc:c.length+100*(1+(Y1w ks).length)≤1000000) (h40:l.length+d+1≤30):
    Y0c F P B (W f pre.length l c) (W f (pre.length+1) l c) (decide (n.Op≤5))=some (W f (pre.length+1+(Y1w ks).length) l (c++(Tr.node n ks).cells l))∧((Tr.node n ks).cells l).length≤100*(1+(Y1w ks).length):=by
  have hg:f.getD pre.length Yl=n:=by rw[hf,Xf];exact getD_mid _ _ _
  unfold Y0c
  simp only[X02,hg]
  by_cases h5:n.Op≤5
  · rw[Y6e h5,Y1z,Vn,Vn,if_pos h5]
    obtain⟨a,b,rfl⟩:=good_two (d:=d) ha (by omega) (by omega)
    rw[flatL_two] at hf hc⊢
    rw[binC_eq]
    simp only[X5] at hc⊢
    have hga:=Y3r.1 hks a (by simp)
    have hgb:=Y3r.1 hks b (by simp)
    have hfa:f=(pre++[n])++a.flat++(b.flat++post):=by rw[hf];simp
    have hfb:f=(pre++n::a.flat)++b.flat++post:=by rw[hf];simp
    have hpl:(pre++[n]).length=pre.length+1:=by simp
    have hpl2:(pre++n::a.flat).length=pre.length+1+a.flat.length:=by simp;omega
    obtain⟨r1,r3⟩:=hF a _ _ l c hga hfa hl (by omega) (by omega)
    rw[hpl] at r1
    have hs3 : (signC n.Op).length ≤ 3 := by unfold signC;repeat' split
                                             all_goals simp
    obtain⟨q1,q3⟩:=hF b _ _ l (c++a.cells l++signC n.Op) hgb hfb hl (by simp only[X5];omega) (by omega)
    rw[hpl2] at q1
    refine⟨?_,by omega⟩
    rw[r1,X8,linear_sign_eq,X8]
    simp only
    rw[put_ok (by simp only[X5];omega),X8]
    simp only
    rw[q1,X8,X0s (pre.length+1)]
    simp only[Xf]
  · rw[Y5b h5]
    have:=node_k1C hP hB hl6 hks hf ha (by omega) hl hc h40
    by_cases h7:n.Op=7
    · rw[Y47 h7,beq_iff_eq.2 h7]
      rwa[decide_eq_true (Or.inl h7)] at this
    · rw[Y48 h7]
      rwa[show(n.Op==8)=decide (n.Op=7∨n.Op=8) by
        by_cases h:n.Op=8
        · rw[beq_iff_eq.2 h,decide_eq_true (Or.inr h)]
        · rw[beq_eq_false_iff_ne.2 h,decide_eq_false (by omega)]]
theorem node_bodyC{F:Y3→Option Y3}{P:Y3→Int→Option Y3}{B:Y3→Y4→Int→Option Y3}{f:List Y4}{d:Nat}(hF:NodeC F f d)(hP:PowC P f d)(hB:BrkC B f d)(hl6:f.length≤100000):NodeC (Y2h F P B) f (d+1):=by
  intro T pre post l c ht hf hl hc h40;cases T with
  |node n ks=>
    have⟨ha,hks,had⟩:=ht;have efl:(Tr.node n ks).flat=n::Y1w ks:=by rw[Tr.flat]
    rw[efl] at hf hc⊢;have hg:f.getD pre.length Yl=n:=by rw[hf,Xf];exact getD_mid _ _ _
    have hlt:pre.length<f.length:=by rw[hf];simp
    have htl:(n::Y1w ks).length=1+(Y1w ks).length:=by rw[Xa];omega
    rw[htl] at hc⊢;unfold Y2h;simp only[X02,hg];rw[Y42 (by omega),Y53 (by omega),at1]
    by_cases h0:n.Op=0
    · have⟨hk,n0,n1⟩:=ar_num ha h0;have hks0:ks=[]:=X0j.1 hk;subst hks0;have⟨e1,e3⟩:=lin_num (f:=f) (i:=pre.length+1) (l:=l) 4 999995 n.N (c++[60]) n0 (by omega) n1 (by simp only[X5,Xa,Xj];omega);rw[Y1z,if_pos h0];refine⟨?_,by simp only[Xa,Y1w,Xj];omega⟩;rw[Y47 h0,put_ok (by simp only[Xa,Xj];omega),X8];have e1':Y58 ⟨f,((pre.length+1:Nat):Int),l,c++[60],()⟩ n.N=_:=e1;simp only;rw[e1',X8,Xf]
      rfl
    rw[Y48 h0]
    by_cases h1:n.Op=1
    · have⟨hk,n0,n1⟩:=ar_var ha h1;have hks0:ks=[]:=X0j.1 hk;subst hks0;rw[Y1z,if_neg h0,if_pos h1];refine⟨?_,by simp[Y1w]⟩;rw[Y47 h1,Y42 (by omega),put_ok (by simp only[Xa,Xj];omega),X8]
      rfl
    rw[Y48 h1];have hcs:=ar_cases ha;have:=node_k2C hF hP hB hl6 hks hf ha (by omega) hl hc (by omega);rw[←X0s]
    by_cases h2:n.Op=2
    · rw[Y47 h2,beq_iff_eq.2 h2];rwa[decide_eq_true (by omega:n.Op≤5)] at this
    rw[Y48 h2]
    by_cases h3:n.Op=3
    · rw[Y47 h3,beq_iff_eq.2 h3];rwa[decide_eq_true (by omega:n.Op≤5)] at this
    rw[Y48 h3]
    by_cases h4:n.Op=4
    · rw[Y47 h4,beq_iff_eq.2 h4];rwa[decide_eq_true (by omega:n.Op≤5)] at this
    rw[Y48 h4];rwa[show(n.Op==5)=decide (n.Op≤5) by
      by_cases h:n.Op=5
      · rw[beq_iff_eq.2 h,decide_eq_true (by omega)]
      · rw[beq_eq_false_iff_ne.2 h,decide_eq_false (by omega)]]
theorem node_okC{f:List Y4}(hl6:f.length≤100000):∀(d e:Nat),NodeC (Y0n (2*d+e)) f d
  |0,e=>fun T pre post l c ht=>by cases T;exact ht.elim
  |d+1,e=>by
    have h1:NodeC (Y0n (2*d+e+1)) f d:=by
      have:=node_okC hl6 d (e+1);rwa[←X0s] at this
    have hP:PowC (Y0e (2*d+e+1)) f d:=by
      have:=power_bodyC (node_okC hl6 d e) hl6 (Y0e (2*d+e)) (Y02 (2*d+e));exact fun n a b pre post l c x1 x2 x3 x4 x5 x6=>by rw[Y0e];exact this n a b pre post l c x1 x2 x3 x4 x5 x6
    have hB:BrkC (Y02 (2*d+e+1)) f d:=by
      have:=brk_bodyC (node_okC hl6 d e) hl6 (Y0e (2*d+e)) (Y02 (2*d+e));exact fun n a pre post l c x1 x2 x3 x4 x5 x6 x7=>by rw[Y02];exact this n a pre post l c x1 x2 x3 x4 x5 x6 x7
    have:=node_bodyC h1 hP hB hl6;rw[show 2*(d+1)+e=(2*d+e+1)+1 by omega];exact fun t pre post l c x1 x2 x3 x4 x5=>by rw[Y0n];exact this t pre post l c x1 x2 x3 x4 x5
theorem Write_cells{T:Tr}{d:Nat}(ht:T.good d)(hd:d≤8)(hl:T.flat.length≤60):Y1r T.flat=some (T.cells [],0)∧(T.cells []).length≤6000:=by
  have⟨e1,e3⟩:=node_okC (f:=T.flat) (by omega) d (1000000-2*d) T [] [] [] [] ht (by simp) (fun x hx=>by simp at hx) (by simp;omega) (by simp;omega);rw[show 2*d+(1000000-2*d)=1000000 by omega] at e1;refine⟨?_,by omega⟩;unfold Y1r;rw[formula_Valid_ok (good_IsT d T ht) hd hl,X8,Bool.not_true,cond_false];have hb:f_linear_brackets=some ():=rfl;rw[hb,X8];have e1':Y5x ⟨T.flat,0,[],[],()⟩=some (W T.flat (([]:List Y4).length+T.flat.length) [] ([]++T.cells [])):=e1;rw[e1',X8]
  rfl
end Go.Proofs.YtfpcbalkioolmaaDoor
