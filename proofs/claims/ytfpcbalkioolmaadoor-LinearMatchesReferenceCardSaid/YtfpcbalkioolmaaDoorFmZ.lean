/- Own work. -/
import Derived.Test.YtfpcbalkioolmaaDoorFmY
set_option linter.unusedSimpArgs false
set_option linter.unusedVariables false
namespace Go.Proofs.YtfpcbalkioolmaaDoor
open Go.Abs
theorem linear_sign_eq(o:Int):Y88 o=some (Y6a o):=by
  unfold Y88 Y6a
  by_cases h2:o=2
  · rw[Y3c h2,if_pos h2]
  rw[Y3d h2,if_neg h2]
  by_cases h3:o=3
  · rw[Y3c h3,if_pos h3]
  rw[Y3d h3,if_neg h3]
  by_cases h4:o=4
  · rw[Y3c h4,if_pos h4]
  rw[Y3d h4,if_neg h4]
theorem linear_exponent_eq(o:Int):Y5g o=some (expC o):=by
  unfold Y5g expC
  grind
theorem linear_simple_eq{o:Int}(h0:0≤o∧o≤13):Y7s o=some (Y2r o):=by
  have hc:o=0∨o=1∨o=2∨o=3∨o=4∨o=5∨o=6∨o=7∨o=8∨o=9∨o=10∨o=11∨o=12∨o=13:=by omega
  rcases hc with rfl|rfl|rfl|rfl|rfl|rfl|rfl|rfl|rfl|rfl|rfl|rfl|rfl|rfl<;>rfl
theorem lvOk_snoc{l:List Int}(h:lvOk l)(o:Int):lvOk (l++[expC o]):=fun y hy=>by
  rcases Xi.1 hy with hy|hy
  · exact h y hy
  · have:y=expC o:=by simp_all
    rw[this];unfold expC;split<;>omega
def NodeC (F:Y3→Option Y3) (f:List Y1) (d:Nat):Prop:=∀(T:Tr) (pre post:List Y1) (l c:List Int),T.good d→f=pre++T.flat++post→lvOk l→c.length+100*T.flat.length≤1000000→l.length+d≤30→
  F (W f pre.length l c)=some (W f (pre.length+T.flat.length) l (c++T.cells l))∧(T.cells l).length≤100*T.flat.length
theorem pow_k1C{F:Y3→Option Y3}{f:List Y1}{d:Nat}(hF:NodeC F f d){o:Int}{T:Tr}{pre post:List Y1}{l c:List Int}(ht:T.good d)(hf:f=pre++T.flat++post)(hl:lvOk l)(hc:c.length+100*T.flat.length+64≤1000000)(h40:l.length+d+1≤30):
    Y3e F o (W f pre.length l c)=some (W f (pre.length+T.flat.length) l (c++((16::(l++[expC o]))++T.cells (l++[expC o])++(16::l))))∧(T.cells (l++[expC o])).length≤100*T.flat.length:=by
  have hl2:=lvOk_snoc hl o;have hll:(l++[expC o]).length=l.length+1:=by simp
  have⟨r1,r3⟩:=hF T pre post (l++[expC o]) (c++[16]++(l++[expC o])) ht hf hl2 (by grind) (by omega);refine⟨?_,r3⟩;unfold Y3e;rw[linear_exponent_eq,X1,Y1j (by grind)];simp only;rw[put_ok (by grind),X1];simp only;rw[putl_ok (by grind),X1];simp only;rw[r1,X1];simp only;rw[hll,Y1k (by omega),Y2s (by omega)];rw[show(((l.length+1:Nat):Int)-1).toNat=l.length by omega,List.take_left];rw[put_ok (by grind),X1];simp only;rw[putl_ok (by grind),X1]
  simp_all
def PowC (F:Y3→Int→Option Y3) (f:List Y1) (d:Nat):Prop:=∀(n:Y1) (a b:Tr) (pre post:List Y1) (l c:List Int),a.good d→b.good d→f=pre++(n::(a.flat++b.flat))++post→lvOk l→c.length+100*(1+a.flat.length+b.flat.length)≤1000000→l.length+d+1≤30→
  F (W f (pre.length+1) l c) n.Op=some (W f (pre.length+1+a.flat.length+b.flat.length) l (c++powC l (expC n.Op) [a,b]))∧(powC l (expC n.Op) [a,b]).length≤100*(1+a.flat.length+b.flat.length)
theorem good_head{d:Nat}{T:Tr}(h:T.good d):0≤(hd T.flat).Op∧(hd T.flat).Op≤13:=by
  cases d with
  |zero=>cases T;exact h.elim
  |succ d=>
    cases T with
    |node n ks=>
      have hc:=ar_cases h.1;have e:hd (Tr.node n ks).flat=n:=by rfl
      rw[e];omega
theorem good_pos{d:Nat}{T:Tr}(h:T.good d):0<T.flat.length:=(good_IsT d T h).pos
theorem powC_eq(l:List Int)(x:Int)(a b:Tr):powC l x [a,b]=(if Y2r (hd a.flat).Op then a.cells l else 35::(a.cells l++[50]))++(16::(l++[x]))++b.cells (l++[x])++(16::l):=by rw[powC]
theorem power_bodyC{F:Y3→Option Y3}{f:List Y1}{d:Nat}(hF:NodeC F f d)(hl6:f.length≤100000)(P:Y3→Int→Option Y3)(B:Y3→Y1→Int→Option Y3):PowC (Y4f F P B) f d:=by
  intro n a b pre post l c ha hb hf hl hc h40;have hap:=good_pos ha;have hlen:pre.length+1<f.length:=by
    grind
  have hpl:(pre++[n]).length=pre.length+1:=by simp
  have hfa:f=(pre++[n])++a.flat++(b.flat++post):=by grind
  have hfb:f=(pre++n::a.flat)++b.flat++post:=by grind
  have hpl2:(pre++n::a.flat).length=pre.length+1+a.flat.length:=by grind
  have hh:=(hd_at (good_IsT d a ha) hfa).1;rw[hpl] at hh;rw[powC_eq];unfold Y4f;simp only;rw[Y2s (by omega),Xl,hh,linear_simple_eq (good_head ha),X1];cases hs:Y2r (hd a.flat).Op with
  |true=>
    have⟨r1,r3⟩:=hF a _ _ l c ha hfa hl (by omega) (by omega);rw[hpl] at r1;have⟨q1,q3⟩:=pow_k1C hF (o:=n.Op) (c:=c++a.cells l) hb hfb hl (by grind) h40
    grind
  |false=>
    have⟨r1,r3⟩:=hF a _ _ l (c++[35]) ha hfa hl (by grind) (by omega);rw[hpl] at r1;have⟨q1,q3⟩:=pow_k1C hF (o:=n.Op) (c:=c++[35]++a.cells l++[50]) hb hfb hl (by grind) h40;rw[hpl2] at q1;refine⟨?_,by rw[if_neg (by simp)];simp only[X4,X7,Xd];omega⟩;rw[cond_false,put_ok (by grind),X1];simp only;rw[r1,X1];simp only;rw[put_ok (by grind),X1]
    grind
theorem flatL_app:∀(a b:List Tr),Y0y (a++b)=Y0y a++Y0y b
  |[],b=>rfl
  |k::a,b=>by rw[Xv,Y0y,Y0y,flatL_app a b,Xh]
theorem cellsL_cons(l:List Int)(n:Y1)(i:Nat)(k:Tr)(ks:List Tr):Y1b l n i (k::ks)=sepC n i++k.cells l++Y1b l n (i+1) ks:=by rw[Y1b]
def midC (o:Int):Int:=if o=6 then 12 else if o=12∨o=13 then 32 else 0
theorem map_all{o:Int}(h:o=6∨9≤o∧o≤13):Y71 Y57 o=[Y92 o,midC o,Y1i o]:=by
  have hc:o=6∨o=9∨o=10∨o=11∨o=12∨o=13:=by omega
  rcases hc with rfl|rfl|rfl|rfl|rfl|rfl<;>rfl
theorem brk_runC{F:Y3→Option Y3}{f:List Y1}{d:Nat}(hF:NodeC F f d)(hl6:f.length≤100000){n:Y1}{ks:List Tr}{pre post:List Y1}{l:List Int}(hks:goodL d ks)(hf:f=pre++(n::Y0y ks)++post)(ha:ar n=some ks.length)(h6:n.Op=6∨9≤n.Op∧n.Op≤13)
    (hl:lvOk l) (h40:l.length+d+1≤30):
    ∀(ls done:List Tr) (m:Nat) (c:List Int),ks=done++ls→c.length+100*(Y0y ls).length+ls.length+1≤1000000→
      iter (bkB F (ks.length:Int)) (m+1+ls.length) (W f (pre.length+1+(Y0y done).length) l c,n,[Y92 n.Op,midC n.Op,Y1i n.Op],(done.length:Int))=some (W f (pre.length+1+(Y0y ks).length) l (c++(Y1b l n done.length ls++[Y1i n.Op])))∧(Y1b l n done.length ls).length≤ls.length+100*(Y0y ls).length:=by
  intro ls
  induction ls with
  |nil=>
    intro done m c he hc;have hd:done=ks:=by simp_all
    subst hd;refine⟨?_,by rw[Y1b];simp⟩;rw[show m+1+([]:List Tr).length=m+1 by simp,Yw];show Y0p F (done.length:Int) _ (W f (pre.length+1+(Y0y done).length) l c) n [Y92 n.Op,midC n.Op,Y1i n.Op] (done.length:Int)=_;unfold Y0p;rw[Y56 (by omega),show([Y92 n.Op,midC n.Op,Y1i n.Op]:List Int).getD 2 0=Y1i n.Op from rfl];rw[put_ok (by grind),X1,Y1b]
    rfl
  |cons k ls ih=>
    intro done m c he hc;have hkl:ks.length=done.length+(ls.length+1):=by grind
    have h16:=ar_le ha;have hg:=Y45.1 hks k (by grind);have hfk:f=(pre++n::Y0y done)++k.flat++(Y0y ls++post):=by rw[hf,he,flatL_app,Y0y];simp
    have hpk:(pre++n::Y0y done).length=pre.length+1+(Y0y done).length:=by grind
    have hfl:(Y0y (k::ls)).length=k.flat.length+(Y0y ls).length:=by rw[Y0y,X4]
    have hfd:(Y0y (done++[k])).length=(Y0y done).length+k.flat.length:=by rw[flatL_app,X4];simp[Y0y]
    rw[hfl] at hc⊢;have hlen:(k::ls).length=ls.length+1:=rfl;rw[hlen] at hc⊢;have op:∀(c:List Int),c.length+100*(k.flat.length+(Y0y ls).length)+ls.length+1≤1000000→Y1p F (iter (bkB F (ks.length:Int)) (m+1+ls.length)) (done.length:Int) (W f (pre.length+1+(Y0y done).length) l c) n [Y92 n.Op,midC n.Op,Y1i n.Op]=some (W f (pre.length+1+(Y0y ks).length) l (c++(k.cells l++Y1b l n (done.length+1) ls++[Y1i n.Op])))∧(k.cells l).length+(Y1b l n (done.length+1) ls).length≤ls.length+100*(k.flat.length+(Y0y ls).length):=by
      intro c hc;have⟨r1,r3⟩:=hF k _ _ l c hg hfk hl (by omega) (by omega);rw[hpk] at r1;have⟨q1,q3⟩:=ih (done++[k]) m (c++k.cells l) (by grind) (by grind);have hdl:(done++[k]).length=done.length+1:=by simp
      rw[hdl,hfd, ←X0d] at q1;rw[hdl] at q3;refine⟨?_,by omega⟩;unfold Y1p Y65;simp only;rw[r1,X1,Y1k (by omega)]
      grind
    rw[show m+1+(ls.length+1)=(m+1+ls.length)+1 by omega,Yw,cellsL_cons];show Y0p F (ks.length:Int) (iter (bkB F (ks.length:Int)) (m+1+ls.length)) (W f (pre.length+1+(Y0y done).length) l c) n [Y92 n.Op,midC n.Op,Y1i n.Op] (done.length:Int)=_∧_;unfold Y0p;simp only;rw[Y5v (by omega)]
    by_cases h0:(done.length:Int)=0
    · rw[Y3c h0];have⟨e1,e3⟩:=op c (by omega);have hs:sepC n done.length=[]:=by unfold sepC;rw[Vp]
      rw[hs]
      grind
    · rw[Y3d h0];have hlt:1<ks.length:=by omega
      have sp:∀b:Bool,sepC n done.length=[if b then 51 else midC n.Op]→Y2n F (iter (bkB F (ks.length:Int)) (m+1+ls.length)) n [Y92 n.Op,midC n.Op,Y1i n.Op] (done.length:Int) (W f (pre.length+1+(Y0y done).length) l c) b=some (W f (pre.length+1+(Y0y ks).length) l (c++(sepC n done.length++k.cells l++Y1b l n (done.length+1) ls++[Y1i n.Op])))∧(sepC n done.length++k.cells l++Y1b l n (done.length+1) ls).length≤ls.length+1+100*(k.flat.length+(Y0y ls).length):=by
        intro b hb;rw[hb];have⟨e1,e3⟩:=op (c++[if b then 51 else midC n.Op]) (by grind);refine⟨?_,by grind⟩;have e:c++([if b then 51 else midC n.Op]++k.cells l++Y1b l n (done.length+1) ls++[Y1i n.Op])=c++[if b then 51 else midC n.Op]++(k.cells l++Y1b l n (done.length+1) ls++[Y1i n.Op]):=by simp
        rw[e, ←e1];unfold Y2n;cases b with
        |true=>
          simp only;rw[cond_true,put_ok (by grind),X1]
          rfl
        |false=>
          simp only;rw[cond_false,show([Y92 n.Op,midC n.Op,Y1i n.Op]:List Int).getD 1 0=midC n.Op from rfl,put_ok (by grind),X1]
          rfl
      by_cases h12:n.Op=12
      · have e12:(n.Op==12)=true:=beq_iff_eq.2 h12;have e13:(n.Op==13)=false:=beq_eq_false_iff_ne.2 (by omega);have hm:midC n.Op=32:=by rw[h12];rfl
        rw[e12,e13,cond_true]
        by_cases hN:(done.length:Int)=n.N
        · have eN:((done.length:Int)==n.N)=true:=beq_iff_eq.2 hN;rw[eN,cond_true];exact sp true (by unfold sepC;grind)
        · have eN:((done.length:Int)==n.N)=false:=beq_eq_false_iff_ne.2 hN;rw[eN,cond_false,Y2s (fun h=>by cases h),cond_false];exact sp false (by unfold sepC;simp_all)
      · have e12:(n.Op==12)=false:=beq_eq_false_iff_ne.2 h12;rw[e12,cond_false,cond_false]
        by_cases h13:n.Op=13
        · have e13:(n.Op==13)=true:=beq_iff_eq.2 h13;have hm:midC n.Op=32:=by rw[h13];rfl
          have⟨hk,q⟩:=ar_mat ha h13;have hN8:n.N%8≠0:=fun hz=>by grind
          have t1:Int.tmod n.N 8=n.N%8:=tmod8 (by omega);have t2:Int.tmod (done.length:Int) (n.N%8)=(done.length:Int)%(n.N%8):=tmod_n (by omega) _;rw[e13,t1,Y2s (fun _=>hN8),cond_true,t2]
          by_cases hz:(done.length:Int)%(n.N%8)=0
          · have eN:((done.length:Int)%(n.N%8)==0)=true:=beq_iff_eq.2 hz;rw[eN];exact sp true (by unfold sepC;simp_all)
          · have eN:((done.length:Int)%(n.N%8)==0)=false:=beq_eq_false_iff_ne.2 hz;rw[eN];exact sp false (by unfold sepC;simp_all)
        · have e13:(n.Op==13)=false:=beq_eq_false_iff_ne.2 h13;have ho6:n.Op=6:=by
            rcases h6 with h|h
            · exact h
            · have:=ar_one ha (by omega) (by omega);omega
          have hm:midC n.Op=12:=by rw[ho6];rfl
          rw[e13,Y2s (fun h=>by cases h),cond_false];exact sp false (by unfold sepC;simp_all)
def BrkC (F:Y3→Y1→Int→Option Y3) (f:List Y1) (d:Nat):Prop:=∀(n:Y1) (ks:List Tr) (pre post:List Y1) (l c:List Int),goodL d ks→f=pre++(n::Y0y ks)++post→ar n=some ks.length→(n.Op=6∨9≤n.Op∧n.Op≤13)→lvOk l→c.length+100*(1+(Y0y ks).length)≤1000000→l.length+d+1≤30→
  F (W f (pre.length+1) l c) n (ks.length:Int)=some (W f (pre.length+1+(Y0y ks).length) l (c++(Y92 n.Op::(Y1b l n 0 ks++[Y1i n.Op]))))∧(Y1b l n 0 ks).length≤ks.length+100*(Y0y ks).length
theorem brk_bodyC{F:Y3→Option Y3}{f:List Y1}{d:Nat}(hF:NodeC F f d)(hl6:f.length≤100000)(P:Y3→Int→Option Y3)(B:Y3→Y1→Int→Option Y3):BrkC (Y35 F P B) f d:=by
  intro n ks pre post l c hks hf ha h6 hl hc h40;have h16:=ar_le ha;have⟨e1,e3⟩:=brk_runC hF hl6 hks hf ha h6 hl h40 ks [] (999999-ks.length) (c++[Y92 n.Op]) rfl (by grind);rw[show 999999-ks.length+1+ks.length=1000000 by omega] at e1;have hz:(Y0y ([]:List Tr)).length=0:=rfl;rw[hz,X0f,Xh] at e1;refine⟨?_,e3⟩;unfold Y35;rw[map_all h6];simp only;rw[show([Y92 n.Op,midC n.Op,Y1i n.Op]:List Int).getD 0 0=Y92 n.Op from rfl,show([Y92 n.Op,midC n.Op,Y1i n.Op]:List Int).getD 1 0=midC n.Op from rfl,show([Y92 n.Op,midC n.Op,Y1i n.Op]:List Int).getD 2 0=Y1i n.Op from rfl];rw[put_ok (by grind),X1];exact e1
theorem good_two{d:Nat}{n:Y1}{ks:List Tr}(ha:ar n=some ks.length)(h2:2≤n.Op)(h8:n.Op≤8):∃a b,ks=[a,b]:=by
  have hk2:=ar_two ha h2 h8
  match ks,hk2 with
  |[a,b],_=>simp_all
theorem flatL_two(a b:Tr):Y0y [a,b]=a.flat++b.flat:=by simp[Y0y]
theorem Y60(l:List Int)(n:Y1)(ks:List Tr):(Tr.node n ks).cells l=if n.Op=0 then 60::digs n.N
    else if n.Op=1 then[48,Y8.getD n.N.toNat 0]
    else if n.Op≤5 then binC l (Y6a n.Op) ks
    else if n.Op=7∨n.Op=8 then powC l (expC n.Op) ks
    else Y92 n.Op::(Y1b l n 0 ks++[Y1i n.Op]):=by rw[Tr.cells]
theorem binC_eq(l s:List Int)(a b:Tr):binC l s [a,b]=a.cells l++s++b.cells l:=by rw[binC]
theorem node_k1C{P:Y3→Int→Option Y3}{B:Y3→Y1→Int→Option Y3}{f:List Y1}{d:Nat}(hP:PowC P f d)(hB:BrkC B f d)(hl6:f.length≤100000){n:Y1}{ks:List Tr}{pre post:List Y1}{l c:List Int}(hks:goodL d ks)(hf:f=pre++(n::Y0y ks)++post)(ha:ar n=some ks.length)
    (h6:6≤n.Op) (hl:lvOk l) (hc:c.length+100*(1+(Y0y ks).length)≤1000000) (h40:l.length+d+1≤30):
    Y3u P B (W f pre.length l c) (W f (pre.length+1) l c) (decide (n.Op=7∨n.Op=8))=some (W f (pre.length+1+(Y0y ks).length) l (c++(Tr.node n ks).cells l))∧((Tr.node n ks).cells l).length≤100*(1+(Y0y ks).length):=by
  have hg:f.getD pre.length Yh=n:=by simp_all
  rw[Y60,Vn,Vn,Vn];unfold Y3u;simp only[Xl,hg]
  by_cases h78:n.Op=7∨n.Op=8
  · rw[Y5v h78,if_pos h78];obtain⟨a,b,rfl⟩:=good_two (d:=d) ha (by omega) (by omega);rw[flatL_two] at hf hc⊢;simp only[X4] at hc⊢;have hga:=Y45.1 hks a (by simp);have hgb:=Y45.1 hks b (by simp);have⟨e1,e3⟩:=hP n a b pre post l c hga hgb hf hl (by omega) h40;refine⟨?_,by omega⟩;rw[e1,X1,X0d (pre.length+1)]
  · rw[Y56 h78,if_neg h78];have hcs:=ar_cases ha;have⟨e1,e3⟩:=hB n ks pre post l c hks hf ha (by omega) hl hc h40;have h16:=ar_le ha;refine⟨?_,by grind⟩
    by_cases h12:n.Op=12
    · have⟨hk,q⟩:=ar_tab ha h12;rw[Y3c h12,Y1k (by omega), ←hk,e1,X1]
    rw[Y3d h12]
    by_cases h13:n.Op=13
    · have⟨hk,q⟩:=ar_mat ha h13;rw[Y3c h13,tdiv8 (by omega),tmod8 (by omega), ←hk,Y1k (by omega),Y1k (by omega),e1,X1]
    rw[Y3d h13]
    by_cases h6':n.Op=6
    · have hk2:=ar_two ha (by omega) (by omega);rw[hk2] at e1;rw[Y3c h6'];have e1':B ⟨f,((pre.length+1:Nat):Int),l,c,()⟩ n 2=_:=e1;rw[e1',X1]
    · have hk1:=ar_one ha (by omega) (by omega);rw[hk1] at e1;rw[Y3d h6'];have e1':B ⟨f,((pre.length+1:Nat):Int),l,c,()⟩ n 1=_:=e1;rw[e1',X1]
theorem node_k2C{F:Y3→Option Y3}{P:Y3→Int→Option Y3}{B:Y3→Y1→Int→Option Y3}{f:List Y1}{d:Nat}(hF:NodeC F f d)(hP:PowC P f d)(hB:BrkC B f d)(hl6:f.length≤100000){n:Y1}{ks:List Tr}{pre post:List Y1}{l c:List Int}(hks:goodL d ks)(hf:f=pre++(n::Y0y ks)++post)(ha:ar n=some ks.length)
    (h6:2≤n.Op) (hl:lvOk l) (hc:c.length+100*(1+(Y0y ks).length)≤1000000) (h40:l.length+d+1≤30):
    Y1y F P B (W f pre.length l c) (W f (pre.length+1) l c) (decide (n.Op≤5))=some (W f (pre.length+1+(Y0y ks).length) l (c++(Tr.node n ks).cells l))∧((Tr.node n ks).cells l).length≤100*(1+(Y0y ks).length):=by
  have hg:f.getD pre.length Yh=n:=by simp_all
  unfold Y1y;simp only[Xl,hg]
  by_cases h5:n.Op≤5
  · rw[Y5v h5,Y60,Vn,Vn,if_pos h5];obtain⟨a,b,rfl⟩:=good_two (d:=d) ha (by omega) (by omega);rw[flatL_two] at hf hc⊢;rw[binC_eq];simp only[X4] at hc⊢;have hga:=Y45.1 hks a (by simp);have hgb:=Y45.1 hks b (by simp);have hfa:f=(pre++[n])++a.flat++(b.flat++post):=by grind
    have hfb:f=(pre++n::a.flat)++b.flat++post:=by grind
    have hpl:(pre++[n]).length=pre.length+1:=by simp
    have hpl2:(pre++n::a.flat).length=pre.length+1+a.flat.length:=by grind
    have⟨r1,r3⟩:=hF a _ _ l c hga hfa hl (by omega) (by omega);rw[hpl] at r1;have hs3:(Y6a n.Op).length≤3:=by
      unfold Y6a
      grind
    have⟨q1,q3⟩:=hF b _ _ l (c++a.cells l++Y6a n.Op) hgb hfb hl (by grind) (by omega);rw[hpl2] at q1;refine⟨?_,by omega⟩;rw[r1,X1,linear_sign_eq,X1];simp only;rw[put_ok (by grind),X1]
    grind
  · rw[Y56 h5];have:=node_k1C hP hB hl6 hks hf ha (by omega) hl hc h40
    grind
theorem node_bodyC{F:Y3→Option Y3}{P:Y3→Int→Option Y3}{B:Y3→Y1→Int→Option Y3}{f:List Y1}{d:Nat}(hF:NodeC F f d)(hP:PowC P f d)(hB:BrkC B f d)(hl6:f.length≤100000):NodeC (Y4s F P B) f (d+1):=by
  intro T pre post l c ht hf hl hc h40;cases T with
  |node n ks=>
    have⟨ha,hks,had⟩:=ht;have efl:(Tr.node n ks).flat=n::Y0y ks:=by rw[Tr.flat]
    rw[efl] at hf hc⊢;have hg:f.getD pre.length Yh=n:=by simp_all
    have hlt:pre.length<f.length:=by grind
    have htl:(n::Y0y ks).length=1+(Y0y ks).length:=by grind
    rw[htl] at hc⊢;unfold Y4s;simp only[Xl,hg];rw[Y2s (by omega),Y1k (by omega),at1]
    by_cases h0:n.Op=0
    · have⟨hk,n0,n1⟩:=ar_num ha h0;have hks0:ks=[]:=X17.1 hk;subst hks0;have⟨e1,e3⟩:=lin_num (f:=f) (i:=pre.length+1) (l:=l) 4 999995 n.N (c++[60]) n0 (by omega) n1 (by grind);rw[Y60,if_pos h0];refine⟨?_,by grind⟩;rw[Y3c h0,put_ok (by grind),X1];have e1':Y5q ⟨f,((pre.length+1:Nat):Int),l,c++[60],()⟩ n.N=_:=e1;simp only;rw[e1',X1,Xh]
      rfl
    rw[Y3d h0]
    by_cases h1:n.Op=1
    · have⟨hk,n0,n1⟩:=ar_var ha h1;have hks0:ks=[]:=X17.1 hk;subst hks0;rw[Y60,if_neg h0,if_pos h1];refine⟨?_,by simp[Y0y]⟩;rw[Y3c h1,Y2s (by omega),put_ok (by grind),X1]
      rfl
    rw[Y3d h1];have hcs:=ar_cases ha;have:=node_k2C hF hP hB hl6 hks hf ha (by omega) hl hc (by omega);rw[←X0d]
    by_cases h2:n.Op=2
    · rw[Y3c h2,beq_iff_eq.2 h2];rwa[decide_eq_true (by omega:n.Op≤5)] at this
    rw[Y3d h2]
    by_cases h3:n.Op=3
    · rw[Y3c h3,beq_iff_eq.2 h3];rwa[decide_eq_true (by omega:n.Op≤5)] at this
    rw[Y3d h3]
    by_cases h4:n.Op=4
    · rw[Y3c h4,beq_iff_eq.2 h4];rwa[decide_eq_true (by omega:n.Op≤5)] at this
    rw[Y3d h4];rwa[show(n.Op==5)=decide (n.Op≤5) by
      grind]
theorem node_okC{f:List Y1}(hl6:f.length≤100000):∀(d e:Nat),NodeC (Y0t (2*d+e)) f d
  |0,e=>fun T pre post l c ht=>by cases T;exact ht.elim
  |d+1,e=>by
    have h1:NodeC (Y0t (2*d+e+1)) f d:=by
      have:=node_okC hl6 d (e+1);rwa[←X0d] at this
    have hP:PowC (Y0o (2*d+e+1)) f d:=by
      have:=power_bodyC (node_okC hl6 d e) hl6 (Y0o (2*d+e)) (Y08 (2*d+e));exact fun n a b pre post l c x1 x2 x3 x4 x5 x6=>by rw[Y0o];exact this n a b pre post l c x1 x2 x3 x4 x5 x6
    have hB:BrkC (Y08 (2*d+e+1)) f d:=by
      have:=brk_bodyC (node_okC hl6 d e) hl6 (Y0o (2*d+e)) (Y08 (2*d+e));exact fun n a pre post l c x1 x2 x3 x4 x5 x6 x7=>by rw[Y08];exact this n a pre post l c x1 x2 x3 x4 x5 x6 x7
    have:=node_bodyC h1 hP hB hl6;rw[show 2*(d+1)+e=(2*d+e+1)+1 by omega];exact fun t pre post l c x1 x2 x3 x4 x5=>by rw[Y0t];exact this t pre post l c x1 x2 x3 x4 x5
theorem Write_cells{T:Tr}{d:Nat}(ht:T.good d)(hd:d≤8)(hl:T.flat.length≤60):Y2w T.flat=some (T.cells [],0)∧(T.cells []).length≤6000:=by
  have⟨e1,e3⟩:=node_okC (f:=T.flat) (by omega) d (1000000-2*d) T [] [] [] [] ht (by simp) (fun x hx=>by simp at hx) (by grind) (by grind);rw[show 2*d+(1000000-2*d)=1000000 by omega] at e1;refine⟨?_,by omega⟩;unfold Y2w;rw[formula_Valid_ok (good_IsT d T ht) hd hl,X1,X1q,cond_false];have hb:Y89=some ():=rfl;rw[hb,X1];have e1':Y6g ⟨T.flat,0,[],[],()⟩=some (W T.flat (([]:List Y1).length+T.flat.length) [] ([]++T.cells [])):=e1
  simp_all
theorem cells_len{T:Tr}{d:Nat}{l:List Int}(ht:T.good d)(hf:T.flat.length≤60)(hl:lvOk l)(h40:l.length+d≤30):(T.cells l).length≤6000:=by
  have:=(node_okC (f:=T.flat) (by omega) d 0 T [] [] l [] ht (by simp) hl (by grind) h40).2;omega
def RefC (R:List Y1→Int→List Int→Option (List Int)) (f:List Y1) (d:Nat):Prop:=∀(T:Tr) (pre post:List Y1) (l:List Int),T.good d→f=pre++T.flat++post→lvOk l→l.length+d≤30→R f (pre.length:Int) l=some (T.cells l)
def KidsC (R:List Y1→Int→List Int→Option (List Int)) (f:List Y1) (x2:List Int) (d:Nat) (ks:List Tr):Prop:=x2.length=ks.length∧∀(i:Nat) (k:Tr) (l:List Int),ks[i]? =some k→lvOk l→l.length+d≤30→R f (x2.getD i 0) l=some (k.cells l)∧(k.cells l).length≤6000∧f.getD (x2.getD i 0).toNat Yh=hd k.flat∧0≤x2.getD i 0∧x2.getD i 0<(f.length:Int)
theorem kids_ok{R:List Y1→Int→List Int→Option (List Int)}{f pre post:List Y1}{n:Y1}{ks:List Tr}{d:Nat}(hR:RefC R f d)(h60:f.length≤60)(hf:f=pre++(n::Y0y ks)++post)(hks:goodL d ks):KidsC R f (offs (pre.length+1) (ks.map Tr.flat)) d ks:=by
  refine⟨by rw[offs_len,Xw],fun i k l hk hl h40=> ?_⟩;have hik:=(Xj.1 hk).1;have hf':f=pre++(n::(ks.map Tr.flat).flatten)++post:=by rw[hf,flatL_map]
  have hks':∀q∈ks.map Tr.flat,IsT d q:=fun q hq=>by
    obtain⟨T,hT,rfl⟩:=Xp.1 hq;exact good_IsT d T (Y45.1 hks T hT)
  have kk:=kid_at (i:=i) (k:=k.flat) hf' hks' (by simp_all);have hg:=Y45.1 hks k (X0c hk);have hr:=hR k _ _ l hg kk.1 hl h40;rw[kk.2.1] at hr;have hle:k.flat.length≤60:=by
    grind
  rw[offs_get _ _ i (by simp_all)];refine⟨hr,cells_len hg hle hl h40, ?_,by omega,by omega⟩;rw[Xl]
  grind
theorem ref_bin{R:List Y1→Int→List Int→Option (List Int)}{f:List Y1}{x2:List Int}{d:Nat}{n:Y1}{a b:Tr}{i:Nat}{l:List Int}(hg:f.getD i Yh=n)(hk:KidsC R f x2 d [a,b])(hl:lvOk l)(h40:l.length+d≤30):
    Y2h R f (i:Int) l x2 true=some (binC l (Y6a n.Op) [a,b]):=by
  have⟨hx,hk⟩:=hk;have ka:=hk 0 a l rfl hl h40;have kb:=hk 1 b l rfl hl h40;have hx2:x2.length=2:=hx;have hs3:(Y6a n.Op).length≤3:=by
    unfold Y6a
    grind
  have hop:Y4w n.Op=some (Y6a n.Op):=by
    unfold Y4w Y6a
    by_cases h2:n.Op=2
    · rw[Y3c h2,if_pos h2]
    rw[Y3d h2,if_neg h2]
    by_cases h3:n.Op=3
    · rw[Y3c h3,if_pos h3]
    rw[Y3d h3,if_neg h3]
    by_cases h4:n.Op=4
    · rw[Y3c h4,if_pos h4]
    rw[Y3d h4,if_neg h4]
  unfold Y2h;simp only[Xl,hg];rw[cond_true,Y2s (by omega),show(0:Int).toNat=0 from rfl,ka.1,X1,Y1j (by grind),hop,X1];rw[Y1j (by grind),Y2s (by omega),show(1:Int).toNat=1 from rfl,kb.1,X1];rw[Y1j (by grind),binC_eq]
  rfl
theorem under_eq(l:List Int)(o:Int)(h:o=7∨o=8)(hl:l.length≤1000):Y47 l o=some (l++[expC o]):=by
  unfold Y47 f_R10_under_k1;rcases h with rfl|rfl
  · rw[Y3d (by omega),Y1j (by grind),Y1j (by grind)];rfl
  · rw[Y3c rfl,Y1j (by grind),Y1j (by grind)];rfl
theorem sign_eq(l:List Int)(hl:l.length≤1000):Y75 l=some (16::l):=by
  unfold Y75;rw[Y1j (by grind)];rfl
theorem ref_pow4{R:List Y1→Int→List Int→Option (List Int)}{f:List Y1}{x2:List Int}{d:Nat}{n:Y1}{a b:Tr}{l v:List Int}(hk:KidsC R f x2 d [a,b])(h78:n.Op=7∨n.Op=8)(hl:lvOk l)(h40:l.length+d+1≤30)(hv:v.length≤10000):
    Y6x R f l x2 n v=some (v++(16::(l++[expC n.Op]))++b.cells (l++[expC n.Op])++(16::l)):=by
  have⟨hx,hk⟩:=hk;have hx2:x2.length=2:=hx;have hll:(l++[expC n.Op]).length=l.length+1:=by simp
  have kb:=hk 1 b (l++[expC n.Op]) rfl (lvOk_snoc hl _) (by omega);unfold Y6x;rw[under_eq l n.Op h78 (by omega),X1,sign_eq _ (by omega),X1];rw[Y1j (by grind),Y2s (by omega),X1];rw[show(1:Int).toNat=1 from rfl,kb.1,X1,Y1j (by grind),sign_eq l (by omega),X1,Y1j (by grind)]
theorem ref_pow{R:List Y1→Int→List Int→Option (List Int)}{f:List Y1}{x2:List Int}{d:Nat}{n:Y1}{a b:Tr}{i:Nat}{l:List Int}(hg:f.getD i Yh=n)(hga:a.good d)(hk:KidsC R f x2 d [a,b])(h78:n.Op=7∨n.Op=8)(hl:lvOk l)(h40:l.length+d+1≤30):
    Y4m R f (i:Int) l x2 true=some (powC l (expC n.Op) [a,b]):=by
  have ka:=hk.2 0 a l rfl hl (by omega);have hx2:x2.length=2:=hk.1;have hs:Y5b (hd a.flat).Op=some (Y2r (hd a.flat).Op):=by
    have hc:=good_head hga;have hc':(hd a.flat).Op=0∨(hd a.flat).Op=1∨(hd a.flat).Op=2∨(hd a.flat).Op=3∨(hd a.flat).Op=4∨(hd a.flat).Op=5∨(hd a.flat).Op=6∨(hd a.flat).Op=7∨(hd a.flat).Op=8∨(hd a.flat).Op=9∨(hd a.flat).Op=10∨(hd a.flat).Op=11∨(hd a.flat).Op=12∨(hd a.flat).Op=13:=by omega
    rcases hc' with h|h|h|h|h|h|h|h|h|h|h|h|h|h<;>rw[h]<;>rfl
  rw[powC_eq];unfold Y4m;simp only[Xl,hg];rw[cond_true,Y2s (by omega),show(0:Int).toNat=0 from rfl,ka.1,X1,Y2s ⟨ka.2.2.2.1,ka.2.2.2.2⟩,ka.2.2.1,hs,X1];cases hsi:Y2r (hd a.flat).Op with
  |true=>
    rw[cond_true,Y1j (by grind),Xt,ref_pow4 hk h78 hl h40 (by omega),if_pos rfl]
  |false=>
    rw[cond_false,Y1j (by simp_all),Y1j (by grind),Y1j (by grind),ref_pow4 hk h78 hl h40 (by grind),if_neg (by simp)]
    rfl
def rb1 (R:List Y1→Int→List Int→Option (List Int)) (f:List Y1) (l x2:List Int):(List Int×List Int×Int→Option (List Int))→List Int×List Int×Int→Option (List Int):=fun loop s=>Y3o R f l x2 loop s.1 s.2.1 s.2.2
theorem ref_b1{R:List Y1→Int→List Int→Option (List Int)}{f:List Y1}{x2:List Int}{d:Nat}{n:Y1}{ks:List Tr}{l:List Int}(hk:KidsC R f x2 d ks)(h16:ks.length≤16)(hl:lvOk l)(h40:l.length+d≤30){x y z:Int}(hsep:∀i,0<i→i<ks.length→sepC n i=[y]):
    ∀(ls done:List Tr) (m:Nat) (v:List Int),ks=done++ls→v.length+6001*ls.length≤200000→iter (rb1 R f l x2) (m+1+ls.length) (v,[x,y,z],(done.length:Int))=some (v++(Y1b l n done.length ls++[z])):=by
  intro ls
  induction ls with
  |nil=>
    intro done m v he hv;have hd:done=ks:=by simp_all
    subst hd;rw[show m+1+([]:List Tr).length=m+1 by simp,Yw];show Y3o R f l x2 _ v [x,y,z] (done.length:Int)=_;unfold Y3o;rw[Y56 (by rw[hk.1];omega),Y1j (by omega),Y1b]
    rfl
  |cons k ls ih=>
    intro done m v he hv;have hkl:ks.length=done.length+(ls.length+1):=by grind
    have kk:=hk.2 done.length k l (by grind) hl h40;have hdl:(done++[k]).length=done.length+1:=by simp
    have hlen:(k::ls).length=ls.length+1:=rfl;rw[hlen] at hv⊢;have hv2:v.length+6001*ls.length+6001≤200000:=by grind
    clear hv;have nxt:∀w:List Int,w.length+6001*ls.length+6000≤200000→Y6y R f l x2 (iter (rb1 R f l x2) (m+1+ls.length)) (done.length:Int) w [x,y,z]=some (w++(k.cells l++Y1b l n (done.length+1) ls++[z])):=by
      intro w hw;have hx:(x2.length:Int)=(ks.length:Int):=by rw[hk.1]
      unfold Y6y f_R10_write_body_k1;rw[Y2s (by omega),Xl,kk.1,X1,Y1j (by omega),Y1k (by omega)];have q:=ih (done++[k]) m (w++k.cells l) (by grind) (by grind)
      simp_all
    rw[show m+1+(ls.length+1)=(m+1+ls.length)+1 by omega,Yw,cellsL_cons];show Y3o R f l x2 (iter (rb1 R f l x2) (m+1+ls.length)) v [x,y,z] (done.length:Int)=_;unfold Y3o;rw[Y5v (by rw[hk.1];omega)]
    by_cases h0:done.length=0
    · have hs:sepC n done.length=[]:=by unfold sepC;rw[if_pos h0]
      rw[Y56 (by omega),hs]
      grind
    · rw[Y5v (by omega),hsep done.length (by omega) (by omega),Y1j (by omega)]
      grind
def rb2 (R:List Y1→Int→List Int→Option (List Int)) (f:List Y1) (l x2:List Int):(List Int×Int→Option (List Int))→List Int×Int→Option (List Int):=fun loop s=>Y3n R f l x2 loop s.1 s.2
theorem ref_b2{R:List Y1→Int→List Int→Option (List Int)}{f:List Y1}{x2:List Int}{d:Nat}{n:Y1}{ks:List Tr}{l:List Int}(hk:KidsC R f x2 d ks)(h16:ks.length≤16)(hl:lvOk l)(h40:l.length+d≤30)(h12:n.Op=12)(hN:(ks.length:Int)=n.N+1)(hN2:2≤n.N):
    ∀(ls done:List Tr) (m:Nat) (v:List Int),ks=done++ls→v.length+6001*ls.length≤200000→iter (rb2 R f l x2) (m+1+ls.length) (v,(done.length:Int))=some (v++(Y1b l n done.length ls++[34])):=by
  intro ls
  induction ls with
  |nil=>
    intro done m v he hv;have hd:done=ks:=by simp_all
    subst hd;rw[show m+1+([]:List Tr).length=m+1 by simp,Yw];show Y3n R f l x2 _ v (done.length:Int)=_;unfold Y3n;rw[Y56 (by rw[hk.1];omega),Y1j (by omega),Y1b]
    rfl
  |cons k ls ih=>
    intro done m v he hv;have hkl:ks.length=done.length+(ls.length+1):=by grind
    have kk:=hk.2 done.length k l (by grind) hl h40;have hdl:(done++[k]).length=done.length+1:=by simp
    have hlen:(k::ls).length=ls.length+1:=rfl;rw[hlen] at hv⊢;have hv2:v.length+6001*ls.length+6001≤200000:=by grind
    clear hv;have hx:(x2.length:Int)=(ks.length:Int):=by rw[hk.1]
    have nxt:∀w:List Int,w.length+6001*ls.length+6000≤200000→Y4o R f l x2 (iter (rb2 R f l x2) (m+1+ls.length)) (done.length:Int) w=some (w++(k.cells l++Y1b l n (done.length+1) ls++[34])):=by
      intro w hw;unfold Y4o f_R10_write_body_k5;rw[Y2s (by omega),Xl,kk.1,X1,Y1j (by omega),Y1k (by omega)];have q:=ih (done++[k]) m (w++k.cells l) (by grind) (by grind)
      simp_all
    have sp:∀y:Int,sepC n done.length=[y]→Y4o R f l x2 (iter (rb2 R f l x2) (m+1+ls.length)) (done.length:Int) (v++[y])=some (v++(sepC n done.length++k.cells l++Y1b l n (done.length+1) ls++[34])):=by
      grind
    rw[show m+1+(ls.length+1)=(m+1+ls.length)+1 by omega,Yw,cellsL_cons];show Y3n R f l x2 (iter (rb2 R f l x2) (m+1+ls.length)) v (done.length:Int)=_;unfold Y3n;rw[Y5v (by omega),Y1k (by omega)]
    by_cases hlast:(done.length:Int)=(x2.length:Int)-1
    · rw[Y3c hlast,Y1j (by omega)];exact sp 51 (by unfold sepC;rw[Vn,if_pos h12,Vp])
    · rw[Y3d hlast]
      by_cases h0:done.length=0
      · have hs:sepC n done.length=[]:=by unfold sepC;rw[if_pos h0]
        grind
      · rw[Y5v (by omega),Y1j (by omega)];exact sp 32 (by unfold sepC;rw[if_neg h0,if_pos h12,Vn])
def rb3 (R:List Y1→Int→List Int→Option (List Int)) (f:List Y1) (l x2:List Int):(Y1×List Int×Int→Option (List Int))→Y1×List Int×Int→Option (List Int):=fun loop s=>Y3m R f l x2 loop s.1 s.2.1 s.2.2
theorem ref_b3{R:List Y1→Int→List Int→Option (List Int)}{f:List Y1}{x2:List Int}{d:Nat}{n:Y1}{ks:List Tr}{l:List Int}(hk:KidsC R f x2 d ks)(h16:ks.length≤16)(hl:lvOk l)(h40:l.length+d≤30)(h13:n.Op=13)(hN:0<n.N%8)(hN0:0≤n.N):
    ∀(ls done:List Tr) (m:Nat) (v:List Int),ks=done++ls→v.length+6001*ls.length≤200000→iter (rb3 R f l x2) (m+1+ls.length) (n,v,(done.length:Int))=some (v++(Y1b l n done.length ls++[43])):=by
  intro ls
  induction ls with
  |nil=>
    intro done m v he hv;have hd:done=ks:=by simp_all
    subst hd;rw[show m+1+([]:List Tr).length=m+1 by simp,Yw];show Y3m R f l x2 _ n v (done.length:Int)=_;unfold Y3m;rw[Y56 (by rw[hk.1];omega),Y1j (by omega),Y1b]
    rfl
  |cons k ls ih=>
    intro done m v he hv;have hkl:ks.length=done.length+(ls.length+1):=by grind
    have kk:=hk.2 done.length k l (by grind) hl h40;have hdl:(done++[k]).length=done.length+1:=by simp
    have hlen:(k::ls).length=ls.length+1:=rfl;rw[hlen] at hv⊢;have hv2:v.length+6001*ls.length+6001≤200000:=by grind
    clear hv;have hx:(x2.length:Int)=(ks.length:Int):=by rw[hk.1]
    have nxt:∀w:List Int,w.length+6001*ls.length+6000≤200000→Y4n R f l x2 (iter (rb3 R f l x2) (m+1+ls.length)) (done.length:Int) n w=some (w++(k.cells l++Y1b l n (done.length+1) ls++[43])):=by
      intro w hw;unfold Y4n f_R10_write_body_k7;rw[Y2s (by omega),Xl,kk.1,X1,Y1j (by omega),Y1k (by omega)];have q:=ih (done++[k]) m (w++k.cells l) (by grind) (by grind)
      simp_all
    have sp:∀y:Int,sepC n done.length=[y]→Y4n R f l x2 (iter (rb3 R f l x2) (m+1+ls.length)) (done.length:Int) n (v++[y])=some (v++(sepC n done.length++k.cells l++Y1b l n (done.length+1) ls++[43])):=by
      grind
    rw[show m+1+(ls.length+1)=(m+1+ls.length)+1 by omega,Yw,cellsL_cons];show Y3m R f l x2 (iter (rb3 R f l x2) (m+1+ls.length)) n v (done.length:Int)=_;unfold Y3m;have t1:Int.tmod n.N 8=n.N%8:=tmod8 hN0;have t2:Int.tmod (done.length:Int) (n.N%8)=(done.length:Int)%(n.N%8):=tmod_n (by omega) _;rw[Y5v (by omega),t1,Y2s (fun _=>by omega),t2]
    by_cases h0:done.length=0
    · have hs:sepC n done.length=[]:=by unfold sepC;rw[if_pos h0]
      grind
    · have c0:decide ((0:Int)<(done.length:Int))=true:=decide_eq_true (by omega);rw[c0,cond_true,cond_true]
      by_cases hz:(done.length:Int)%(n.N%8)=0
      · rw[Y3c hz,Y1j (by omega)];exact sp 51 (by unfold sepC;rw[if_neg h0,Vn,if_pos h13,if_pos hz])
      · rw[Y3d hz,Y1j (by omega)];exact sp 32 (by unfold sepC;rw[if_neg h0,Vn,if_pos h13,if_neg hz])
theorem around_eq{o:Int}(h:o=6∨o=9∨o=10∨o=11):Y28 o=some [Y92 o,midC o,Y1i o]:=by
  rcases h with rfl|rfl|rfl|rfl<;>rfl
theorem ref_body{R:List Y1→Int→List Int→Option (List Int)}{f:List Y1}{d:Nat}(hR:RefC R f d)(h60:f.length≤60):RefC (Y8w R) f (d+1):=by
  intro T pre post l ht hf hl h40;cases T with
  |node n ks=>
    have⟨ha,hks,had⟩:=ht;have efl:(Tr.node n ks).flat=n::Y0y ks:=by rw[Tr.flat]
    rw[efl] at hf;have hg:f.getD pre.length Yh=n:=by simp_all
    have hlt:pre.length<f.length:=by grind
    have hk:=kids_ok hR h60 hf hks;have h16:=ar_le ha;have hO:Y3b f (pre.length:Int)=some (offs (pre.length+1) (ks.map Tr.flat)):=Operands_ok (A:=adm) (d:=d) (by rw[hf,flatL_map]) (by omega) (by simp_all) (fun q hq=>by
      obtain⟨T,hT,rfl⟩:=Xp.1 hq;exact good_IsT d T (Y45.1 hks T hT))
    generalize offs (pre.length+1) (ks.map Tr.flat)=x2 at hk hO;have hcs:=ar_cases ha;rw[Y60];unfold Y8w;simp only[Xl,hg];rw[Y2s (by omega),hO,X1]
    by_cases h0:n.Op=0
    · have⟨_,n0,n1⟩:=ar_num ha h0;rw[Y3c h0,if_pos h0,R10_number_ok ⟨n0,n1⟩,X1]
    rw[Y3d h0,if_neg h0]
    by_cases h1:n.Op=1
    · have⟨_,n0,n1⟩:=ar_var ha h1;rw[Y3c h1,if_pos h1,R10_letter_ok (by omega),X1]
    rw[Y3d h1,if_neg h1];have kk:Y2h R f (pre.length:Int) l x2 (decide (n.Op≤5))=some (if n.Op≤5 then binC l (Y6a n.Op) ks else if n.Op=7∨n.Op=8 then powC l (expC n.Op) ks else Y92 n.Op::(Y1b l n 0 ks++[Y1i n.Op])):=by
      by_cases h5:n.Op≤5
      · rw[decide_eq_true h5,if_pos h5];obtain⟨a,b,rfl⟩:=good_two (d:=d) ha (by omega) (by omega);exact ref_bin hg hk hl (by omega)
      rw[decide_eq_false h5,if_neg h5];have k9:Y4m R f (pre.length:Int) l x2 (decide (n.Op=7∨n.Op=8))=some (if n.Op=7∨n.Op=8 then powC l (expC n.Op) ks else Y92 n.Op::(Y1b l n 0 ks++[Y1i n.Op])):=by
        by_cases h78:n.Op=7∨n.Op=8
        · rw[decide_eq_true h78,if_pos h78];obtain⟨a,b,rfl⟩:=good_two (d:=d) ha (by omega) (by omega);exact ref_pow hg (Y45.1 hks a (by simp)) hk h78 hl (by omega)
        rw[decide_eq_false h78,if_neg h78];have hb:([56]:List Int).length+6001*ks.length≤200000:=by grind
        unfold Y4m;simp only[Xl,hg];rw[cond_false]
        by_cases h12:n.Op=12
        · have⟨hN,hN2,_⟩:=ar_tab ha h12;rw[Y3c h12,Y1j (by simp_all),h12];have q:=ref_b2 hk h16 hl (by omega) h12 hN hN2 ks [] (999999-ks.length) [56] rfl hb;rw[show 999999-ks.length+1+ks.length=1000000 by omega] at q;exact q
        rw[Y3d h12]
        by_cases h13:n.Op=13
        · have⟨hN,hN2,hN3,_⟩:=ar_mat ha h13;have hN8:n.N%8≠0:=fun hz=>by
            have:=ar_mat ha h13;unfold ar at ha
            simp_all
          rw[Y3c h13,Y1j (by simp_all),h13];have q:=ref_b3 hk h16 hl (by omega) h13 (by omega) (by omega) ks [] (999999-ks.length) [41] rfl hb;rw[show 999999-ks.length+1+ks.length=1000000 by omega] at q;exact q
        rw[Y3d h13];unfold f_R10_write_body_k3;rw[around_eq (by omega),X1,Y1j (by simp_all)];have q:=ref_b1 (n:=n) (x:=Y92 n.Op) (y:=midC n.Op) (z:=Y1i n.Op) hk h16 hl (by omega) (fun i hi hik=>by
          have h6:n.Op=6:=by
            rcases(by omega:n.Op=6∨9≤n.Op) with h|h
            · exact h
            · have:=ar_one ha h (by omega);omega
          unfold sepC;rw[Vn,if_neg h12,if_neg h13,h6];rfl) ks [] (999999-ks.length) [Y92 n.Op] rfl hb
        rw[show 999999-ks.length+1+ks.length=1000000 by omega] at q;exact q
      unfold Y2h;simp only[Xl,hg]
      grind
    by_cases h2:n.Op=2
    · rw[Y3c h2,beq_iff_eq.2 h2];rwa[decide_eq_true (by omega:n.Op≤5)] at kk
    rw[Y3d h2]
    by_cases h3:n.Op=3
    · rw[Y3c h3,beq_iff_eq.2 h3];rwa[decide_eq_true (by omega:n.Op≤5)] at kk
    rw[Y3d h3]
    by_cases h4:n.Op=4
    · rw[Y3c h4,beq_iff_eq.2 h4];rwa[decide_eq_true (by omega:n.Op≤5)] at kk
    rw[Y3d h4];rwa[show(n.Op==5)=decide (n.Op≤5) by
      grind]
theorem ref_ok{f:List Y1}(h60:f.length≤60):∀(d e:Nat),RefC (Y8a (d+e)) f d
  |0,e=>fun T pre post l ht=>by cases T;exact ht.elim
  |d+1,e=>by
    have:=ref_body (ref_ok h60 d e) h60;rw[show d+1+e=(d+e)+1 by omega];exact fun T pre post l x1 x2 x3 x4=>by rw[Y8a];exact this T pre post l x1 x2 x3 x4
theorem R10_Write_cells{T:Tr}{d:Nat}(ht:T.good d)(hd:d≤8)(hl:T.flat.length≤60):f_R10_Write T.flat=some (T.cells [],0):=by
  have e1:=ref_ok (f:=T.flat) hl d (1000000-d) T [] [] [] ht (by simp) (fun x hx=>by simp at hx) (by grind);rw[show d+(1000000-d)=1000000 by omega] at e1;unfold f_R10_Write;rw[R09_Valid_ok (good_IsT d T ht) hd (by omega),X1,decide_eq_true hl,X1q,cond_false];have e1':f_R10_write T.flat 0 []=some (T.cells []):=e1;rw[e1',X1]
end Go.Proofs.YtfpcbalkioolmaaDoor
