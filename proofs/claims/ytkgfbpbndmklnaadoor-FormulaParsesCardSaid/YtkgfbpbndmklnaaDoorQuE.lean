/- Own work. -/
import Derived.Test.YtkgfbpbndmklnaaDoorQuD
import Derived.Test.YtkgfbpbndmklnaaDoorQuC
set_option linter.unusedSimpArgs false
set_option linter.unusedVariables false
namespace Go.Proofs.YtkgfbpbndmklnaaDoor
section
open Go.Abs
variable {t:ByteArray} {i j:Int}
theorem one9(hs:t.size≤40000){k:Nat}(S:PS t k){op:Int}{q:Nat}(h0:0≤i)(hij:i+1≤j)(hjs:j≤(t.size:Nat))(hr:rd t k (.E 1 j)≠ .out)(hq:4*(t.size-j.toNat)+4≤q):
  Rl t i ((rd t k (.E 1 j)).bind fun l j=>Y16 t op l j) ((lsF (q+1) ⟨t,j,false⟩ 1 1).bind fun x=>(Y1l ⟨op,0⟩ x.1).bind fun y=>shut (y,x.2)):=by
 have⟨l,j2,b,e1,e2,e3,e4,e5⟩:=S.e 1 j q (by omega) (by omega) (by omega) hjs hr hq;have st:lsF (q+1) ⟨t,j,false⟩ 1 1=some ([l],⟨t,j2,b⟩):=by
  rw[lsF_eq,show exF q ⟨t,j,false⟩ 1=_ from e1,X2];cases b with
  |true=>rw[lsB_bad (by omega)]
  |false=>rw[show(1000000:Nat)=999999+1 from rfl,Yv,ls_stop (by omega) (by simp) (.inl (by simp))]
 rw[st,X2];cases hR:rd t k (.E 1 j) with
 |out=>exact absurd hR hr
 |err w=>
  rw[hR] at e5;obtain⟨rfl,rfl⟩:=e5;exact end9 hs (l:=[]) h0 (by omega) e3 (by simp) (fun h=>by cases h) (by simp;omega) rfl
 |ok ys w=>
  rw[hR] at e5;obtain⟨rfl,e6⟩:=e5;refine end9 hs (l:=ys) h0 (by omega) e3 (by simp) (fun h=> ?_) (by simp;omega) ?_
  ·subst h;rw[if_neg (by decide)] at e6;simp[e6]
  ·cases b with
   |true=>rw[if_pos rfl] at e6;exact stk_C e6
   |false=>rfl
theorem two9(hs:t.size≤40000){k:Nat}(S:PS t k){op:Int}{q:Nat}(h0:0≤i)(hij:i+1≤j)(hjs:j≤(t.size:Nat))(hr:((rd t k (.E 1 j)).bind fun l j=>if Y7 t j=44 then(rd t k (.E 1 (j+1))).bind fun l2 j=>Y16 t op (l++l2) j else .err j)≠ .out)(hq:4*(t.size-j.toNat)+4≤q):
  Rl t i ((rd t k (.E 1 j)).bind fun l j=>if Y7 t j=44 then(rd t k (.E 1 (j+1))).bind fun l2 j=>Y16 t op (l++l2) j else .err j) ((lsF (q+1) ⟨t,j,false⟩ 2 2).bind fun x=>(Y1l ⟨op,0⟩ x.1).bind fun y=>shut (y,x.2)):=by
 have⟨l,j2,b,e1,e2,e3,e4,e5⟩:=S.e 1 j q (by omega) (by omega) (by omega) hjs (Y63 hr) hq;rw[lsF_eq,show exF q ⟨t,j,false⟩ 1=_ from e1,X2];have bad:Rl t i (.err j2) ((iter (lsB (exF q) 2 2) 1000000 (⟨t,j2,true⟩,[l])).bind fun x=>(Y1l ⟨op,0⟩ x.1).bind fun y=>shut (y,x.2)):=by
  rw[lsB_bad (by omega),X2];exact end9 hs (l:=[]) h0 (by omega) e3 (by simp) (fun h=>by cases h) (by simp;omega) rfl
 cases hR:rd t k (.E 1 j) with
 |out=>exact absurd hR (Y63 hr)
 |err w=>
  rw[hR] at e5;obtain⟨rfl,rfl⟩:=e5;exact bad
 |ok ys w=>
  rw[hR] at e5 hr;obtain⟨rfl,e6⟩:=e5;show Rl t i (if Y7 t w=44 then(rd t k (.E 1 (w+1))).bind fun l2 j=>Y16 t op (ys++l2) j else .err w) _;have hr':(if Y7 t w=44 then(rd t k (.E 1 (w+1))).bind fun l2 j=>Y16 t op (ys++l2) j else .err w)≠ .out:=hr;cases b with
  |true=>
   rw[if_pos rfl] at e6;rw[if_neg (by unfold Stk at e6;omega)];exact bad
  |false=>
   rw[if_neg (by decide)] at e6;rw[show(1000000:Nat)=999999+1 from rfl,Yv]
   by_cases hp:Y7 t w=44
   ·rw[if_pos hp] at hr'⊢;have hin:=Y1q (t:=t) (i:=w) (by omega);have⟨l2,j3,b3,f1,f2,f3,f4,f5⟩:=S.e 1 (w+1) q (by omega) (by omega) (by omega) (by omega) (Y63 hr') (by omega);rw[ls_comma (by omega) (by omega) (by simp) hp (by simp) (by omega),show exF q ⟨t,w+1,false⟩ 1=_ from f1,X2];have st:iter (lsB (exF q) 2 2) 999999 (⟨t,j3,b3⟩,[l]++[l2])=some ([l]++[l2],⟨t,j3,b3⟩):=by
     cases b3 with
     |true=>rw[lsB_bad (by omega)]
     |false=>rw[show(999999:Nat)=999998+1 from rfl,Yv,ls_stop (by omega) (by simp) (.inl (by simp))]
    rw[st,X2];cases hR2:rd t k (.E 1 (w+1)) with
    |out=>exact absurd hR2 (Y63 hr')
    |err w2=>
     rw[hR2] at f5;obtain⟨rfl,rfl⟩:=f5;exact end9 hs (l:=[]) h0 (by omega) f3 (by simp) (fun h=>by cases h) (by simp;omega) rfl
    |ok ys2 w2=>
     rw[hR2] at f5;obtain⟨rfl,f6⟩:=f5;refine end9 hs (l:=ys++ys2) h0 (by omega) f3 (by simp) (fun h=> ?_) (by simp;omega) ?_
     ·subst h;rw[if_neg (by decide)] at f6;rw[e6,f6,flatL_app];simp
     ·cases b3 with
      |true=>rw[if_pos rfl] at f6;exact stk_C f6
      |false=>rfl
   ·rw[if_neg hp,ls_fail (by omega) (by omega) (by simp) hp,lsB_bad (by omega),X2];exact end9 hs (l:=[]) h0 (by omega) e3 (by simp) (fun h=>by cases h) (by simp;omega) rfl
theorem mat9(hs:t.size≤40000){k:Nat}(S:PS t k){m:Nat}(h0:0≤i)(hij:i+1≤j)(a2:j≤(t.size:Nat))(hr:((rd t k (.E 1 j)).bind fun l j=>rd t k (.M l 0 0 0 j))≠ .out)(hq:4*(t.size-j.toNat)+4≤m):
  Rl t i ((rd t k (.E 1 j)).bind fun l j=>rd t k (.M l 0 0 0 j)) ((Y0i (m+2) ⟨t,j,false⟩).bind shut):=by
 have⟨l,j2,b,e1,e2,e3,e4,e5⟩:=S.e 1 j m (by omega) (by omega) (by omega) a2 (Y63 hr) (by omega);have em:Y0i (m+2) ⟨t,j,false⟩=(iter (lsB (exF m) 1 4) 1000000 (⟨t,j2,b⟩,[l])).bind fun x1=>iter (mxB (lsF (m+1)) x1) 1000000 (x1.2,x1.1,1):=by
  show Y2f _ _ _ (lsF (m+1)) _=_;unfold Y2f;rw[lsF_eq,show exF m ⟨t,j,false⟩ 1=_ from e1,X2]
  rfl
 rw[em];have bad:∀w,w=j2→b=true→Rl t i (.err w) (((iter (lsB (exF m) 1 4) 1000000 (⟨t,j2,b⟩,[l])).bind fun x1=>iter (mxB (lsF (m+1)) x1) 1000000 (x1.2,x1.1,1)).bind shut):=fun w hw hb=>by
  subst hw;subst hb
  rw[lsB_bad (by omega),X2];exact mx_bad hs (by omega) h0 (by omega) e3 (by omega) (by simp) (by simp) (by simp;omega)
 cases hR:rd t k (.E 1 j) with
 |out=>exact absurd hR (Y63 hr)
 |err w=>
  rw[hR] at e5;exact bad w e5.2 e5.1
 |ok ys w=>
  rw[hR] at e5 hr;obtain⟨rfl,e6⟩:=e5;obtain⟨y,rfl⟩:=Y3u (Y47 _ (.E _ _) _ _ trivial hR);have hr':rd t k (.M [y] 0 0 0 w)≠ .out:=hr;show Rl t i (rd t k (.M [y] 0 0 0 w)) _;cases b with
  |true=>
   rw[if_pos rfl] at e6;obtain⟨k,rfl⟩:∃q,k=q+1:=by
    cases k with
    |zero=>exact absurd rfl hr'
    |succ k=>exact⟨k,rfl⟩
   rw[stk_M e6];exact bad w rfl rfl
  |false=>
   rw[if_neg (by decide),Y5e] at e6;subst e6;exact S.m1 i w [y] m 1000000 h0 (by omega) e3 (by simp) (by simp) (by rw[Y5e];omega) hr' (by omega) (by simp)
theorem beqN{a b:Int}(h:a≠b):(a==b)=false:=by rw[beq_eq_false_iff_ne];exact h
def awD (m:Nat) (op:Int) (s0 s:Y1):Option (List Y5×Y1):=
 cond (op==12) ((Y39 s).bind shut) (cond (op==13) ((Y0i m s).bind shut) (cond (op==9) (Y09 (Y11 m) (op,s0) s (op==9)) (Y09 (Y11 m) (op,s0) s (op==11))))
def awV (x:Y1):Option (List Y5×Y1):=
 G (inR (x.At+1))<|G (inR ((x.At+1)-1))<|G (0≤((x.At+1)-1)∧((x.At+1)-1)<(x.S.size:Int))<|
 some ([(⟨1,IntKind.wrap .i64 (IntKind.wrap .u8 ((bAt x.S ((x.At+1)-1))-97))⟩:Y5)],(⟨x.S,x.At+1,x.Bad⟩:Y1))
def aw (m:Nat) (x:Int×Y1):Option (List Y5×Y1):=
 cond x.2.Bad (some ([],x.2)) (cond (x.1==1) (awV x.2) ((Y0c x.2 40).bind fun y=>cond y.Bad (some ([],y)) (awD m x.1 x.2 y)))
theorem aw_bad{m:Nat}{op:Int}:aw m (op,⟨t,j,true⟩)=some ([],⟨t,j,true⟩):=rfl
theorem aw_var{m:Nat}:aw m (1,⟨t,i,false⟩)=awV ⟨t,i,false⟩:=rfl
theorem aw_op{m:Nat}{op:Int}(h:op≠1):aw m (op,⟨t,j,false⟩)=(Y0c ⟨t,j,false⟩ 40).bind fun y=>cond y.Bad (some ([],y)) (awD m op ⟨t,j,false⟩ y):=by
 unfold aw;rw[beqN h,cond_false,cond_false]
theorem awV_ok(h0:0≤i)(hin:i<(t.size:Nat))(hs:t.size≤90000)(hl:isL (Y7 t i)):awV ⟨t,i,false⟩=some ([⟨1,Y7 t i-97⟩],⟨t,i+1,false⟩):=by
 unfold isL at hl;unfold awV;simp only;have eb:bAt t i=Y7 t i:=by rw[Y7,if_pos hin];rfl
 rw[Y49 (by omega),Y49 (by omega),show i+1-1=i by omega,Y1j (by omega),eb,wrap2 (by omega)]
def wk (t:ByteArray) (k:Nat) (op:Int) (l:List Tr) (j:Int):Rr:=if op=13 then rd t k (.M l 0 0 0 j) else if Y5v op=2 then(if Y7 t j=44 then(rd t k (.E 1 (j+1))).bind fun l2 j=>Y16 t op (l++l2) j else .err j) else Y16 t op l j
def wj (t:ByteArray) (k:Nat) (op j:Int):Rr:=if op=12 then ofLf (qSum t j) else(rd t k (.E 1 j)).bind (wk t k op)
def wi (t:ByteArray) (k:Nat) (i:Int):Lf Int→Rr
 | .bad j=>.err j
 | .ok op j=>if op=1 then .ok [.node ⟨1,Y7 t i-97⟩ []] j else wj t k op j
theorem ps_op(hs:t.size≤40000){k:Nat}(S:PS t k){op:Int}{m:Nat}{s0:Y1}(h0:0≤i)(hij:i+1≤j)(a2:j≤(t.size:Nat))(b1:op∈opsW)(hr:wj t k op j≠ .out)(hq:4*(t.size-j.toNat)+4≤m):Rl t i (wj t k op j) (awD (m+2) op s0 ⟨t,j,false⟩):=by
 unfold wj at hr⊢;have hcase:op=12∨op=13∨(op=9∨op=11)∨(op=6∨op=7∨op=8):=by
  simp only[opsW,Xt,Xw,or_false] at b1;omega
 rcases hcase with rfl|rfl|h9|h6
 ·rw[if_pos rfl];exact tt9_rl (by omega) h0 (by omega) a2
 ·rw[if_neg (by decide)] at hr⊢;exact mat9 hs S h0 hij a2 hr hq
 ·have e12:op≠12:=by omega
  have e13:op≠13:=by omega
  rw[if_neg e12] at hr⊢;have e1:Y5v op=1:=by rcases h9 with rfl|rfl<;>rfl
  have ef:wk t k op=fun l j=>Y16 t op l j:=by
   funext l j;rw[wk,if_neg e13,e1,if_neg (by decide)]
  rw[ef] at hr⊢;have:=one9 hs S (op:=op) (q:=m+1) h0 hij a2 (Y63 hr) (by omega);rw[awD,beqN e12,cond_false,beqN e13,cond_false];rcases h9 with rfl|rfl
  ·rw[show((9:Int)==9)=true from rfl,cond_true,Y09,cond_true];exact this
  ·rw[show((11:Int)==9)=false from rfl,show((11:Int)==11)=true from rfl,cond_false,Y09,cond_true];exact this
 ·have e12:op≠12:=by omega
  have e13:op≠13:=by omega
  rw[if_neg e12] at hr⊢;have e1:Y5v op=2:=by rcases h6 with rfl|rfl|rfl<;>rfl
  have ef:wk t k op=fun l j=>if Y7 t j=44 then(rd t k (.E 1 (j+1))).bind fun l2 j=>Y16 t op (l++l2) j else .err j:=by
   funext l j;rw[wk,if_neg e13,e1,if_pos rfl]
  rw[ef] at hr⊢;rw[awD,beqN e12,cond_false,beqN e13,cond_false,beqN (show op≠9 by omega),beqN (show op≠11 by omega),cond_false,Y09,cond_false];exact two9 hs S (op:=op) (q:=m+1) h0 hij a2 hr (by omega)
theorem ps_w(hs:t.size≤40000){k:Nat}(S:PS t k){m:Nat}(h0:0≤i)(hin:i<(t.size:Nat))(hl:97≤Y7 t i∧Y7 t i≤122)(hr:wi t k i (qWord t i)≠ .out)(hq:4*(t.size-i.toNat)≤m):Rl t i (wi t k i (qWord t i)) ((Y3i ⟨t,i,false⟩).bind (aw (m+2))):=by
 have⟨o,w1,w2⟩:=word9 (t:=t) (by omega) h0 hl;rw[w1,X2];revert hr w2;cases qWord t i with
 |bad j=>
  rintro hr ⟨a1,a2,a3⟩;have fin:Rl t i (.err j) (some (([]:List Y5),(⟨t,j,true⟩:Y1))):=⟨_,j,true,rfl,by omega,a2,by simp;omega,rfl,rfl⟩;rcases a3 with⟨op,rfl⟩|⟨op,b1,rfl,b3⟩
  ·exact fin
  ·rw[aw_op b1,want9 (by omega) (by omega),if_neg b3,X2];exact fin
 |ok op j=>
  rintro hr ⟨a1,a2,a3⟩;rw[wi] at hr⊢;rcases a3 with⟨rfl,rfl,a4⟩|⟨b1,b2,rfl,b4⟩
  ·rw[if_pos rfl];rcases a4 with rfl|⟨rfl,a5⟩
   ·rw[aw_var,awV_ok h0 hin (by omega) hl];exact⟨_,i+1,false,rfl,by omega,a2,by simp;omega,rfl,by rw[if_neg (by decide)];simp[Y1a,Tr.flat]⟩
   ·rw[aw_bad];exact⟨_,i+1,true,rfl,by omega,a2,by simp;omega,rfl,by rw[if_pos rfl];exact .inr a5⟩
  ·have hop1:op≠1:=by intro h;subst h;simp[opsW] at b1
   rw[if_neg hop1] at hr⊢;rw[aw_op hop1,want9 (by omega) (by omega),if_pos b4,X2,show j-1+1=j by omega,cond_false];exact ps_op hs S h0 (by omega) a2 b1 hr (by omega)
theorem ps_a(hs:t.size≤40000){k:Nat}(S:PS t k)(i:Int)(m:Nat)(h0:0≤i)(his:i≤(t.size:Nat))(hr:rd t (k+1) (.A i)≠ .out)(hm:4*(t.size-i.toNat)+3≤m):Rl t i (rd t (k+1) (.A i)) (Y12 m ⟨t,i,false⟩):=by
 obtain⟨m,rfl⟩:∃q,m=q+3:=⟨m-3,by omega⟩;rw[show m+3=(m+2)+1 by omega,Y12];unfold Y3s Y5i Y5h;rw[peek9 h0,X2,X2,isdig9,X2,X2,X2,islet9];rw[rd] at hr⊢
 by_cases hd:48≤Y7 t i∧Y7 t i≤57
 ·rw[decide_eq_true hd,cond_true,if_pos hd];have⟨l,j,b,e1,e2⟩:=num9_rl (t:=t) (by omega) h0 his;rw[e1];exact⟨l,j,b,rfl,e2⟩
 rw[decide_eq_false hd,cond_false,if_neg hd];rw[if_neg hd] at hr
 by_cases hp:Y7 t i=40
 ·have hin:=Y1q (t:=t) (i:=i) (by omega);rw[if_pos hp] at hr⊢;rw[show(Y7 t i==40)=true by rw[beq_iff_eq];exact hp,cond_true];simp only;rw[Y49 (by omega)];have⟨l,j2,b,e1,e2,e3,e4,e5⟩:=S.e 1 (i+1) (m+2) (by omega) (by omega) (by omega) (by omega) (Y63 hr) (by omega);rw[show Y03 (m+2) ⟨t,i+1,false⟩ 1=_ from e1,X2];have hj:Y1l ⟨10,0⟩ [l]=some (⟨10,0⟩::[l].flatten):=joined_ok (by simp) (fun k hk=>by
   simp only[Xt,Xw,or_false] at hk;rw[hk];omega)
  have ed:∀{X:Rr} {ys:List Tr},(b=false→[l].flatten=Y1a ys)→X=(if b=true then .err j2 else Y16 t 10 ys j2)→Rl t i X ((Y0c ⟨t,j2,b⟩ 41).bind fun x9=>(Y1l ⟨10,0⟩ [l]).bind fun x10=>some (x10,x9)):=fun h1 h2=>by
   have:=end9 hs (op:=10) h0 (show i≤j2 by omega) e3 (v:=[l]) (by simp) h1 (by simp;omega) h2;rw[hj,X2] at this;rw[hj];exact this
  cases hR:rd t k (.E 1 (i+1)) with
  |out=>exact absurd hR (Y63 hr)
  |err w=>
   rw[hR] at e5;obtain⟨rfl,rfl⟩:=e5;exact ed (ys:=[]) (fun h=>by cases h) rfl
  |ok ys w=>
   rw[hR] at e5;obtain⟨rfl,e6⟩:=e5;refine ed (ys:=ys) (fun h=> ?_) ?_
   ·subst h;rw[if_neg (by decide)] at e6;simp[e6]
   ·cases b with
    |true=>rw[if_pos rfl] at e6;exact stk_C e6
    |false=>rfl
 rw[if_neg hp] at hr⊢;rw[beqN hp,cond_false]
 by_cases hl:97≤Y7 t i∧Y7 t i≤122
 ·rw[decide_eq_true hl,X0z,cond_false,if_pos hl];rw[if_pos hl] at hr;have hin:=Y1q (t:=t) (i:=i) (by omega);exact ps_w hs S h0 hin hl hr (by omega)
 ·rw[decide_eq_false hl,Xy,cond_true,if_neg hl];exact⟨_,i,true,rfl,by omega,his,by simp,rfl,rfl⟩
theorem ps_all(hs:t.size≤40000):∀k,PS t k
 |0=>⟨fun _ _ _ _ _ _ _ h=>absurd rfl h,fun _ _ _ _ _ _ _ _ _ _ _ _ h=>absurd rfl h,fun _ _ _ _ h=>absurd rfl h,fun _ _ _ _ _ _ _ _ _ _ _ h=>absurd rfl h,fun _ _ _ _ _ _ _ _ _ _ _ _ _ _ _ _ _ _ _ _ _ _ h=>absurd rfl h⟩
 |k+1=>⟨ps_e hs (ps_all hs k),ps_l hs (ps_all hs k),ps_a hs (ps_all hs k),ps_m1 hs (ps_all hs k),ps_m2 hs (ps_all hs k)⟩
theorem parse9_rl(hs:t.size≤40000):Rl t 0 (rdF t) (Y4k ⟨t,0,false⟩ 1):=
 (ps_all hs _).e 1 0 1000000 (by omega) (by omega) (by omega) (by omega) (rdF_out t) (by omega)
theorem parse9_stop(hs:t.size≤40000){n:Int}(h:Stops t n):Y5j t=some ([],n,90):=by
 have⟨l,j,b,e1,e2,e3,e4,e5⟩:=parse9_rl hs;unfold Y5j;rw[e1,X2];rcases h with h|⟨ts,h,hn⟩
 ·rw[h] at e5;obtain⟨rfl,rfl⟩:=e5
  rfl
 ·rw[h] at e5;obtain⟨rfl,_⟩:=e5;simp only;rw[decide_eq_true (show n<(t.size:Int) from hn)];cases b<;>rfl
theorem parse9_read(hs:t.size≤40000){x:Tr}(h:rdF t= .ok [x] (t.size:Nat)):Y5j t=(f_R09_Valid x.flat).bind fun v=>cond (!v) (some ([],0,2)) (some (x.flat,((t.size:Nat):Int),0)):=by
 have⟨l,j,b,e1,e2,e3,e4,e5⟩:=parse9_rl hs;unfold Y5j;rw[e1,X2];rw[h] at e5;obtain⟨rfl,e6⟩:=e5;have hp:=(fr_nil (t:=t) (i:=(t.size:Nat)) (by omega)).2;cases b with
 |true=>rw[if_pos rfl,hp] at e6;unfold Stk at e6;omega
 |false=>
  rw[if_neg (by decide),Y5e] at e6;simp only[cond_false];rw[decide_eq_false (by omega),e6]
  rfl
end
section
open Go.Abs
variable {t:ByteArray} {i j:Int}
def Gd (x:Tr):Prop:=Y43 x.dep.toNat x
theorem Gd.of{d:Nat}{x:Tr}(h:Y43 d x):Gd x:=good_at d x h _ (by have:=dep_pos x;omega)
theorem Gd.node{n:Y5}{ks:List Tr}(ha:ar n=some ks.length)(hk:∀k∈ks,Gd k)(hm:∀(i:Nat) (k:Tr),ks[i]? =some k→adm n i (hd k.flat)=true):Gd (.node n ks):=by
 have hp:=dep_pos (.node n ks);refine Gd.of (d:=(Tr.node n ks).dep.toNat-1+1) ⟨ha,Y5d.2 fun k hk'=>good_at _ k (hk k hk') _ ?_,hm⟩;have:=depL_mem ks 1 k hk';rw[Tr.dep];omega
theorem adm_any{n:Y5}{i:Nat}{m:Y5}(h1:¬(2≤n.Op∧n.Op≤5))(h2:n.Op≠12):adm n i m=true:=by rw[adm,if_neg h1,if_neg h2]
theorem Gd.leaf{n:Y5}(ha:ar n=some 0):Gd (.node n []):=Gd.node ha (fun k hk=>by cases hk) (fun i k hk=>by simp at hk)
theorem dg_rng:∀(k:Nat) (n d i:Int),0≤n→0≤(dg t k n d i).1∧(dg t k n d i).1+1≤(n+1)*10^k
 |0,n,d,i,h=>by rw[dg];simp;exact h
 |k+1,n,d,i,h=>by
  have hp:(1:Int)≤10^(k+1):=Int.pow_pos (by omega);rw[dg]
  split
  ·refine⟨h, ?_⟩
   calc n+1=(n+1)*1:=by omega
    _≤(n+1)*10^(k+1):=Int.mul_le_mul_of_nonneg_left hp (by omega)
  ·next hc=>
   have⟨h1,h2⟩:=dg_rng k (10*n+(Y7 t i-48)) (d+1) (i+1) (by omega);refine⟨h1,Int.le_trans h2 ?_⟩;have:(10*n+(Y7 t i-48)+1)*10^k≤(10*(n+1))*10^k:=Int.mul_le_mul_of_nonneg_right (by omega) (Int.le_of_lt (Int.pow_pos (by omega)));refine Int.le_trans this ?_;rw[Int.pow_succ,Int.mul_comm (10:Int) (n+1),Int.mul_assoc,Int.mul_comm (10:Int) (10^k)];exact Int.le_refl _
theorem num_gd{x:Tr}(h:qNum t i= .ok x j):Gd x∧isNum x:=by
 unfold qNum at h
 split at h
 ·cases h
 ·have⟨h1,h2⟩:=dg_rng (t:=t) 5 0 0 i (by omega);cases h;have:(dg t 5 0 0 i).1≤99999:=by
   have e:((0:Int)+1)*10^5=100000:=by decide
   rw[e] at h2;omega
  exact⟨Gd.leaf (by unfold ar;rw[if_pos rfl,if_pos ⟨h1,this⟩]),_,h1,this,rfl⟩
theorem numL_ar{n:Int}(h:2≤n∧n≤5){ks:List Tr}(hl:(ks.length:Int)=n+1)(hk:∀k∈ks,Gd k∧isNum k):Gd (.node ⟨12,n⟩ ks):=by
 refine Gd.node ?_ (fun k hk'=>(hk k hk').1) fun i k hk'=> ?_
 ·unfold ar;rw[if_neg (by simp only;omega),if_neg (by simp only;omega),if_neg (by simp only;omega),if_neg (by simp only;omega),if_pos rfl,if_pos h];congr 1;simp only;omega
 ·obtain⟨m,_,_,rfl⟩:=(hk k (X0x hk')).2
  rfl
theorem sum_gd{x:Tr}(h:qSum t i= .ok x j):Gd x∧x.op=12:=by
 have loop:∀(k:Nat) (l l':List Tr) (i j:Int),Y4b t k l i= .ok l' j→(∀y∈l,Gd y∧isNum y)→l.length+k≤5→(∀y∈l',Gd y∧isNum y)∧l'.length≤5:=by
  intro k
  induction k with
  |zero=>
   intro l l' i j h hl hk;rw[Y4b] at h;cases h;exact⟨hl,by omega⟩
  |succ k ih=>
   intro l l' i j h hl hk;rw[Y4b] at h
   split at h
   ·cases hn:qNum t (i+1) with
    |bad q=>rw[hn] at h;cases h
    |ok y q=>
     rw[hn] at h;exact ih (l++[y]) l' q j h (fun z hz=>by
      rcases X01.1 hz with hz|hz
      ·exact hl z hz
      ·simp only[Xt,Xw,or_false] at hz;rw[hz];exact num_gd hn) (by simp;omega)
   ·cases h;exact⟨hl,by omega⟩
 unfold qSum at h;cases hn:qNum t i with
 |bad q=>rw[hn] at h;cases h
 |ok y q=>
  rw[hn] at h;replace h:((Y4b t 4 [y] q).bind fun l j=>qSumR t l j)= .ok x j:=h;cases hL:Y4b t 4 [y] q with
  |bad q2=>rw[hL] at h;cases h
  |ok l q2=>
   rw[hL] at h;have⟨a1,a2⟩:=loop 4 [y] l q q2 hL (fun z hz=>by
    simp only[Xt,Xw,or_false] at hz;rw[hz];exact num_gd hn) (by simp)
   replace h:qSumR t l q2= .ok x j:=h;rw[qSumR] at h
   split at h
   ·cases h
   ·next h2=>
    cases hw:Y4t t 59 q2 with
    |bad q3=>rw[hw] at h;cases h
    |ok _ q3=>
     rw[hw] at h;replace h:((qNum t q3).bind fun x j=>(Y4t t 41 j).bind fun _ j=>.ok (.node ⟨12,(l.length:Nat)⟩ (l++[x])) j)= .ok x j:=h;cases hn2:qNum t q3 with
     |bad q4=>rw[hn2] at h;cases h
     |ok z q4=>
      rw[hn2] at h;replace h:((Y4t t 41 q4).bind fun _ j=>.ok (.node ⟨12,(l.length:Nat)⟩ (l++[z])) j)=Lf.ok x j:=h;cases hw2:Y4t t 41 q4 with
      |bad q5=>rw[hw2] at h;cases h
      |ok _ q5=>
       rw[hw2] at h;cases h;exact⟨numL_ar (by omega) (by simp) (fun k hk=>by
        rcases X01.1 hk with hk|hk
        ·exact a1 k hk
        ·simp only[Xt,Xw,or_false] at hk;rw[hk];exact num_gd hn2),rfl⟩
structure GS (t:ByteArray) (k:Nat):Prop where
 e:∀(p i:Int) (x:Tr) (j:Int),1≤p→p≤4→rd t k (.E p i)= .ok [x] j→Gd x∧p≤prec x.op
 l:∀(p:Int) (w:Tr) (j0:Int) (x:Tr) (j:Int),1≤p→p≤4→rd t k (.L p [w] j0)= .ok [x] j→Gd w→p≤prec w.op→(∀o,opOf (Y7 t j0)=some o→prec o≤prec w.op)→Gd x∧p≤prec x.op
 a:∀(i:Int) (x:Tr) (j:Int),rd t k (.A i)= .ok [x] j→Gd x∧prec x.op=4
 m:∀(ls:List Tr) (c r e j0:Int) (x:Tr) (j:Int),rd t k (.M ls c r e j0)= .ok [x] j→(∀y∈ls,Gd y)→0≤e→0≤r→r≤3→(c=0∧r=0∧e≤3∨1≤c∧c≤4∧e+1≤c)→(ls.length:Int)=c*r+e+1→Gd x∧prec x.op=4
theorem gd_snoc{ls:List Tr}{y:Tr}(h:∀z∈ls,Gd z)(hy:Gd y):∀z∈ls++[y],Gd z:=fun z hz=>by
 rcases X01.1 hz with hz|hz
 ·exact h z hz
 ·simp only[Xt,Xw,or_false] at hz;rw[hz];exact hy
theorem gs_m{k:Nat}(S:GS t k)(ls:List Tr)(c r e j0:Int)(x:Tr)(j:Int)(h:rd t (k+1) (.M ls c r e j0)= .ok [x] j)(hg:∀y∈ls,Gd y)(he:0≤e)(hr:0≤r)(hr3:r≤3)(hc:c=0∧r=0∧e≤3∨1≤c∧c≤4∧e+1≤c)(hl:(ls.length:Int)=c*r+e+1):Gd x∧prec x.op=4:=by
 rw[rd] at h
 by_cases hA:Y7 t j0=44∧e+1<(if c=0 then 4 else c)
 ·rw[if_pos hA] at h;have⟨l1,j1,h1,h2⟩:=Y31 h;obtain⟨y,rfl⟩:=Y3u (Y47 _ (.E _ _) _ _ trivial h1);have⟨gy,_⟩:=S.e 1 _ y j1 (by omega) (by omega) h1;refine S.m _ _ _ _ _ x j h2 (gd_snoc hg gy) (by omega) hr hr3 ?_ (by simp;omega);have:=hA.2;rcases hc with hc|hc
  ·rw[if_pos hc.1] at this;exact .inl ⟨hc.1,hc.2.1,by omega⟩
  ·rw[Vn] at this;exact .inr ⟨hc.1,hc.2.1,by omega⟩
 ·rw[if_neg hA] at h
  by_cases hB:Y7 t j0=59∧(c=0∨e+1=c)∧r+1<4
  ·rw[if_pos hB] at h;have⟨l1,j1,h1,h2⟩:=Y31 h;obtain⟨y,rfl⟩:=Y3u (Y47 _ (.E _ _) _ _ trivial h1);have⟨gy,_⟩:=S.e 1 _ y j1 (by omega) (by omega) h1;refine S.m _ _ _ _ _ x j h2 (gd_snoc hg gy) (by omega) (by omega) (by omega) (.inr ⟨by omega,by omega,by omega⟩) ?_;rcases hc with⟨rfl,rfl,_⟩|hc
   ·simp at hl⊢;omega
   ·have ec:e+1=c:=by rcases hB.2.1 with h|h<;>omega
    rw[ec,Int.mul_add,Int.mul_one];simp;omega
  ·rw[if_neg hB] at h
   by_cases hC:Y7 t j0=41∧(c=0∨e+1=c)
   ·rw[if_pos hC] at h;cases h;have hR:∃C:Int,e+1=C∧1≤C∧C≤4∧(ls.length:Int)=(r+1)*C:=by
     rcases hc with⟨rfl,rfl,_⟩|hc
     ·exact⟨e+1,rfl,by omega,by omega,by simp at hl⊢;omega⟩
     ·have ec:e+1=c:=by rcases hC.2 with h|h<;>omega
      refine⟨c,ec,hc.1,hc.2.1, ?_⟩;rw[Int.add_mul,Int.one_mul,Int.mul_comm r c];omega
    obtain⟨C,rfl,c1,c4,hlen⟩:=hR;refine⟨Gd.node ?_ hg fun _ _ _=>adm_any (by simp only;omega) (by simp only;omega),rfl⟩;unfold ar;simp only;rw[Vn,Vn,Vn,Vn,Vn,if_pos trivial,Vp];congr 1;rw[show(8*(r+1)+(e+1))/8=r+1 by omega,show(8*(r+1)+(e+1))%8=e+1 by omega, ←hlen];omega
   ·rw[if_neg hC] at h;cases h
theorem close_gd{op:Int}{l:List Tr}{x:Tr}{j0:Int}(h:Y16 t op l j0= .ok [x] j)(ho:6≤op∧op≤11)(hg:∀y∈l,Gd y)(hl:l.length=if op≤8 then 2 else 1):Gd x∧prec x.op=4:=by
 unfold Y16 at h
 split at h
 ·cases h;refine⟨Gd.node ?_ hg fun _ _ _=>adm_any (by simp only;omega) (by simp only;omega), ?_⟩
  ·unfold ar;simp only;rw[Vn,Vn]
   by_cases h8:op≤8
   ·rw[if_pos h8] at hl;rw[Vp,if_pos trivial,hl]
   ·rw[if_neg h8] at hl;rw[Vn,Vp,if_pos trivial,hl]
  ·show prec op=4;unfold prec;rw[Vn,Vn,Vn,Vn]
 ·cases h
theorem gs_a{k:Nat}(S:GS t k)(i:Int)(x:Tr)(j:Int)(h:rd t (k+1) (.A i)= .ok [x] j):Gd x∧prec x.op=4:=by
 rw[rd] at h
 split at h
 ·cases hn:qNum t i with
  |bad q=>rw[hn] at h;cases h
  |ok y q=>
   rw[hn] at h;cases h;obtain⟨g,m,_,_,rfl⟩:=num_gd hn;exact⟨g,rfl⟩
 ·split at h
  ·have⟨l1,j1,h1,h2⟩:=Y31 h;obtain⟨y,rfl⟩:=Y3u (Y47 _ (.E _ _) _ _ trivial h1);have⟨gy,_⟩:=S.e 1 _ y j1 (by omega) (by omega) h1;exact close_gd h2 (by omega) (fun z hz=>by simp only[Xt,Xw,or_false] at hz;rw[hz];exact gy) rfl
  ·split at h
   ·next hl=>
    cases hw:qWord t i with
    |bad q=>rw[hw] at h;cases h
    |ok op q=>
     rw[hw] at h;replace h:(if op=1 then Rr.ok [.node ⟨1,Y7 t i-97⟩ []] q else if op=12 then ofLf (qSum t q) else(rd t k (.E 1 q)).bind fun l j=>if op=13 then rd t k (.M l 0 0 0 j) else if Y5v op=2 then(if Y7 t j=44 then(rd t k (.E 1 (j+1))).bind fun l2 j=>Y16 t op (l++l2) j else .err j) else Y16 t op l j)= .ok [x] j:=h;have hm:=qWord_mem hw
     split at h
     ·cases h;exact⟨Gd.leaf (by unfold ar;simp only;rw[Vn,if_pos trivial,Vp]),rfl⟩
     ·next h1n=>
      split at h
      ·next h12=>
       cases hs:qSum t q with
       |bad q2=>rw[hs] at h;cases h
       |ok y q2=>
        rw[hs] at h;cases h;have⟨g1,g2⟩:=sum_gd hs;exact⟨g1,by rw[g2];rfl⟩
      ·next h12=>
       have⟨l1,j1,e1,e2⟩:=Y31 h;obtain⟨y,rfl⟩:=Y3u (Y47 _ (.E _ _) _ _ trivial e1);have⟨gy,_⟩:=S.e 1 _ y j1 (by omega) (by omega) e1;have g1:∀z∈[y],Gd z:=fun z hz=>by simp only[Xt,Xw,or_false] at hz;rw[hz];exact gy
       split at e2
       ·exact S.m _ _ _ _ _ x j e2 g1 (by omega) (by omega) (by omega) (.inl ⟨rfl,rfl,by omega⟩) (by simp)
       ·next h13=>
        have hop:op=6∨op=7∨op=8∨op=9∨op=11:=by omega
        split at e2
        ·next hn=>
         split at e2
         ·have⟨l2,j2,e3,e4⟩:=Y31 e2;obtain⟨y2,rfl⟩:=Y3u (Y47 _ (.E _ _) _ _ trivial e3);have⟨gy2,_⟩:=S.e 1 _ y2 j2 (by omega) (by omega) e3;refine close_gd e4 (by omega) (gd_snoc g1 gy2) ?_;have:op≤8:=by
           rcases hop with rfl|rfl|rfl|rfl|rfl
           ·omega
           ·omega
           ·omega
           ·exact absurd hn (by decide)
           ·exact absurd hn (by decide)
          rw[if_pos this];rfl
         ·cases e2
        ·next hn=>
         refine close_gd e2 (by omega) g1 ?_;have:¬op≤8:=by
          rcases hop with rfl|rfl|rfl|rfl|rfl
          ·exact absurd rfl hn
          ·exact absurd rfl hn
          ·exact absurd rfl hn
          ·omega
          ·omega
         rw[if_neg this];rfl
   ·cases h
theorem gs_l{k:Nat}(S:GS t k)(p:Int)(w:Tr)(j0:Int)(x:Tr)(j:Int)(h1:1≤p)(h4:p≤4)(h:rd t (k+1) (.L p [w] j0)= .ok [x] j)(hw:Gd w)(hp:p≤prec w.op)(ho:∀o,opOf (Y7 t j0)=some o→prec o≤prec w.op):Gd x∧p≤prec x.op:=by
 rw[rd] at h;cases hop:opOf (Y7 t j0) with
 |none=>rw[hop] at h;cases h;exact⟨hw,hp⟩
 |some o=>
  rw[hop] at h;simp only at h
  split at h
  ·next hpo=>
   have⟨l1,j1,e1,e2⟩:=Y31 h;obtain⟨y,rfl⟩:=Y3u (Y47 _ (.E _ _) _ _ trivial e1);have hr:o=2∨o=3∨o=4∨o=5:=by
    unfold opOf at hop
    split at hop
    ·cases hop;omega
    ·split at hop
     ·cases hop;omega
     ·split at hop
      ·cases hop;omega
      ·split at hop
       ·cases hop;omega
       ·cases hop
   have p3:=opOf_prec hop;have p1:=(prec_one o).1;have⟨gy,py⟩:=S.e (prec o+1) _ y j1 (by omega) (by omega) e1;have nx:=rd_next e1;refine S.l p (.node ⟨o,0⟩ ([w]++[y])) j1 x j h1 h4 e2 ?_ hpo fun o' ho'=> ?_
   ·refine Gd.node ?_ (gd_snoc (fun z hz=>by simp only[Xt,Xw,or_false] at hz;rw[hz];exact hw) gy) fun i k hk=> ?_
    ·unfold ar;simp only;rw[Vn,Vn,Vp,if_pos trivial]
     rfl
    ·have a0:=ho o hop;unfold adm;simp only;rw[Vp,pr_eq,pr_eq]
     match i,hk with
     |0,hk=>
      cases hk;rw[if_pos rfl,hd_flat,decide_eq_true_eq];exact a0
     |1,hk=>
      cases hk;rw[Vn,hd_flat,decide_eq_true_eq];omega
     |n+2,hk=>simp at hk
   ·have:=nx o' ho';show prec o'≤prec o;omega
  ·cases h;exact⟨hw,hp⟩
theorem gs_e{k:Nat}(S:GS t k)(p i:Int)(x:Tr)(j:Int)(h1:1≤p)(h4:p≤4)(h:rd t (k+1) (.E p i)= .ok [x] j):Gd x∧p≤prec x.op:=by
 rw[rd] at h;have⟨l1,j1,e1,e2⟩:=Y31 h;obtain⟨w,rfl⟩:=Y3u (Y47 _ (.A _) _ _ trivial e1);have⟨gw,pw⟩:=S.a i w j1 e1;exact S.l p w j1 x j h1 h4 e2 gw (by omega) fun o _=>by have:=(prec_one o).2;omega
theorem gs_all(t:ByteArray):∀k,GS t k
 |0=>⟨fun _ _ _ _ _ _ h=>(by cases h),fun _ _ _ _ _ _ _ h=>(by cases h),fun _ _ _ h=>(by cases h),fun _ _ _ _ _ _ _ h=>(by cases h)⟩
 |k+1=>⟨gs_e (gs_all t k),gs_l (gs_all t k),gs_a (gs_all t k),gs_m (gs_all t k)⟩
theorem rdF_gd{x:Tr}(h:rdF t= .ok [x] j):Gd x:=((gs_all t _).e 1 0 x j (by omega) (by omega) h).1
end
section
open Go.Abs
variable {t:ByteArray} {i j:Int}
def Sj (t:ByteArray) (i j:Int) (l:List UInt8):Prop:=Std t i l∧j=i+(l.length:Nat)
theorem Sj.app{k:Int}{a b:List UInt8}(h:Sj t i j a)(g:Sj t j k b):Sj t i k (a++b):=by
 obtain⟨h1,rfl⟩:=h;obtain⟨g1,rfl⟩:=g;exact⟨Std.app.2 ⟨h1,g1⟩,by rw[X4];push_cast;omega⟩
theorem Sj.one{c:UInt8}(h:Y7 t i=((c.toNat:Nat):Int)):Sj t i (i+1) [c]:=⟨⟨h,trivial⟩,rfl⟩
theorem Sj.nil:Sj t i i []:=⟨trivial,by simp⟩
theorem digs_up:∀(k n:Nat),n<10^(k+1)→digs (k+1) n=digs k n
 |0,n,h=>by
  show(if n<10 then[UInt8.ofNat (48+n)] else digs 0 (n/10)++[UInt8.ofNat (48+n%10)])=[UInt8.ofNat (48+n)];rw[Vp]
 |k+1,n,h=>by
  show(if n<10 then[UInt8.ofNat (48+n)] else digs (k+1) (n/10)++[UInt8.ofNat (48+n%10)])=(if n<10 then[UInt8.ofNat (48+n)] else digs k (n/10)++[UInt8.ofNat (48+n%10)])
  by_cases h1:n<10
  ·rw[if_pos h1,if_pos h1]
  ·rw[if_neg h1,if_neg h1,digs_up k (n/10) (by rw[Nat.pow_succ] at h;omega)]
theorem digs_to(k:Nat):∀(m n:Nat),n<10^(k+1)→digs (k+m) n=digs k n
 |0,n,h=>rfl
 |m+1,n,h=>by
  have hp:10^(k+1)≤10^(k+m+1):=Nat.pow_le_pow_right (by omega) (by omega);rw[show k+(m+1)=(k+m)+1 by omega,digs_up _ _ (by omega),digs_to k m n h]
theorem digs_add{k n c:Nat}(hn:0<n)(hc:c<10):digs (k+1) (10*n+c)=digs k n++[UInt8.ofNat (48+c)]:=by
 rw[digs,Vn,show(10*n+c)/10=n by omega,show(10*n+c)%10=c by omega]
theorem peek_dig{c:Nat}(hc:c<10)(h:Y7 t i=48+(c:Int)):Sj t i (i+1) [UInt8.ofNat (48+c)]:=Sj.one (by rw[Y2s (by omega),h];push_cast;rfl)
theorem dg_text:∀(k q:Nat) (n:Nat) (d i0 i:Int),0<n→n<10^(q+1)→Sj t i0 i (digs q n)→0<d→Sj t i0 (dg t k n d i).2.2 (digs (q+k) (dg t k n d i).1.toNat)∧(dg t k n d i).1.toNat<10^(q+k+1)
 |0,q,n,d,i0,i,hn,hq,h,hd=>by rw[dg];exact⟨h,hq⟩
 |k+1,q,n,d,i0,i,hn,hq,h,hd=>by
  rw[dg]
  split
  ·refine⟨?_, ?_⟩
   ·rw[show(n:Int).toNat=n from rfl,digs_to q (k+1) n hq];exact h
   ·show n<_;exact X0o hq (Nat.pow_le_pow_right (by omega) (by omega))
  ·next hc=>
   have⟨c,hc1,hc2⟩:∃c:Nat,Y7 t i=48+(c:Int)∧c<10:=⟨(Y7 t i-48).toNat,by omega,by omega⟩;have e:10*(n:Int)+(Y7 t i-48)=((10*n+c:Nat):Int):=by rw[hc1];push_cast;omega
   rw[e];have:=dg_text k (q+1) (10*n+c) (d+1) i0 (i+1) (by omega) (by rw[Nat.pow_succ];omega) (by rw[digs_add hn hc2];exact h.app (peek_dig hc2 hc1)) (by omega);rw[show q+1+k=q+(k+1) by omega] at this;exact this
theorem num_text{x:Tr}(h:qNum t i= .ok x j):Sj t i j x.tx:=by
 unfold qNum at h
 split at h
 ·cases h
 ·next hd=>
  cases h;rw[num_tx];have e5:dg t 5 0 0 i=if Y7 t i<48∨57<Y7 t i∨(0<(0:Int)∧(0:Int)=0) then(0,0,i) else dg t 4 (10*0+(Y7 t i-48)) (0+1) (i+1):=by rw[dg]
  rw[e5] at hd⊢
  by_cases hc:Y7 t i<48∨57<Y7 t i∨(0<(0:Int)∧(0:Int)=0)
  ·rw[if_pos hc] at hd;exact absurd rfl hd
  ·rw[if_neg hc];have⟨c,hc1,hc2⟩:∃c:Nat,Y7 t i=48+(c:Int)∧c<10:=⟨(Y7 t i-48).toNat,by omega,by omega⟩;have e:10*(0:Int)+(Y7 t i-48)=(c:Int):=by rw[hc1];omega
   rw[e];have h1:Sj t i (i+1) (digs 0 c):=peek_dig hc2 hc1
   by_cases h0:c=0
   ·subst h0;rw[dg,if_pos (.inr (.inr ⟨by omega,rfl⟩))];exact h1
   ·exact(dg_text 4 0 c (0+1) i (i+1) (by omega) (by omega) h1 (by omega)).1
theorem want_text{b:Int}{u:Unit}{c:UInt8}(h:Y4t t b i= .ok u j)(hb:b=((c.toNat:Nat):Int)):Sj t i j [c]:=by
 unfold Y4t at h
 split at h
 ·next e=>cases h;exact Sj.one (by rw[e,hb])
 ·cases h
theorem lf_inv{α β:Type}{x:Lf α}{K:α→Int→Lf β}{a:β}(h:x.bind K= .ok a j):∃a1 j1,x= .ok a1 j1∧K a1 j1= .ok a j:=by
 cases x with
 |bad q=>cases h
 |ok a1 j1=>exact⟨a1,j1,rfl,h⟩
theorem sum_text{x:Tr}(h:qSum t i= .ok x j):∃n ks,x= .node n ks∧n.Op=12∧Sj t i j (txs n 0 ks++[41]):=by
 have loop:∀(n:Y5),n.Op=12→∀(k:Nat) (l l':List Tr) (j0 j:Int),Y4b t k l j0= .ok l' j→1≤l.length→(l'.length:Int)≤n.N→Sj t i j0 (txs n 0 l)→Sj t i j (txs n 0 l'):=by
  intro n hn k;have mono:∀(k:Nat) (l l':List Tr) (j0 j:Int),Y4b t k l j0= .ok l' j→l.length≤l'.length:=by
   intro k
   induction k with
   |zero=>intro l l' j0 j h;rw[Y4b] at h;cases h;exact Xf _
   |succ k ih=>
    intro l l' j0 j h;rw[Y4b] at h
    split at h
    ·have⟨y,q,_,e⟩:=lf_inv h;have:=ih _ _ _ _ e;simp at this;omega
    ·cases h;exact Xf _
  induction k with
  |zero=>intro l l' j0 j h h1 hN hs;rw[Y4b] at h;cases h;exact hs
  |succ k ih=>
   intro l l' j0 j h h1 hN hs;rw[Y4b] at h
   split at h
   ·next h44=>
    have⟨y,q,e1,e2⟩:=lf_inv h;have hm:=mono _ _ _ _ _ e2;simp only[X4,Xa,Xi] at hm;refine ih (l++[y]) l' q j e2 (by simp) hN ?_;have esep:Y5u n l.length=44:=by
     unfold Y5u;rw[Vn,if_neg];rintro(h|h)<;>omega
    rw[txs_one];refine hs.app ?_;rw[X08,txs,Vn,esep,txs,X0d];exact(Sj.one (by rw[h44];rfl)).app (num_text e1)
   ·cases h;exact hs
 unfold qSum at h;have⟨y,q,e1,h⟩:=lf_inv h;have⟨l,q2,e2,h⟩:=lf_inv h;rw[qSumR] at h
 split at h
 ·cases h
 ·next h2=>
  have⟨_,q3,e3,h⟩:=lf_inv h;have⟨z,q4,e4,h⟩:=lf_inv h;have⟨_,q5,e5,h⟩:=lf_inv h;cases h;refine⟨_,_,rfl,rfl, ?_⟩;have h1:=loop ⟨12,(l.length:Nat)⟩ rfl 4 [y] l q q2 e2 (by simp) (by simp) (by
   rw[txs,if_pos rfl,txs,X0d];exact num_text e1)
  rw[txs_one];refine(h1.app ?_).app (want_text e5 rfl);have esep:Y5u ⟨12,(l.length:Nat)⟩ l.length=59:=by unfold Y5u;rw[if_neg (by simp only;omega),if_pos (.inl ⟨rfl,rfl⟩)]
  rw[X08,txs,Vn,esep,txs,X0d];exact(want_text e3 rfl).app (num_text e4)
theorem qName_text{n:ByteArray}:∀(k:Nat) (i j:Int) (u:Unit),k≤n.size→qName t n k i= .ok u j→Sj t i j (n.data.toList.drop (n.size-k))
 |0,i,j,u,hk,h=>by
  rw[qName] at h;cases h;rw[X0j (by rw[X04];exact Xf _)];exact Sj.nil
 |k+1,i,j,u,hk,h=>by
  have hl:n.size-(k+1)<n.data.toList.length:=by rw[X04];exact(by have:n.data.size=n.size:=rfl;omega)
  rw[qName] at h;have⟨_,q,e1,e2⟩:=lf_inv h;rw[X07 hl,show n.size-(k+1)+1=n.size-k by omega];exact(want_text (c:=n.data.toList[n.size-(k+1)]) e1 (by rw[Y1n,X02,X8,X1 hl,Xq])).app (qName_text k q j _ (by omega) e2)
theorem word_text:∀(l:List Int) (i op j:Int),Y48 t l i= .ok op j→(op=1∧j=i+1)∨(op∈l∧Sj t i j (Y29 op++[40]))
 |[],i,op,j,h=>by rw[Y48] at h;cases h;exact .inl ⟨rfl,rfl⟩
 |o::l,i,op,j,h=>by
  rw[Y48] at h
  split at h
  ·have⟨_,q,e1,h⟩:=lf_inv h;have⟨_,q2,e2,h⟩:=lf_inv h;cases h;have:=qName_text _ _ _ _ (Xf _) e1;rw[Nat.sub_self,List.drop_zero] at this;exact .inr ⟨by simp,this.app (want_text e2 rfl)⟩
  ·rcases word_text l i op j h with h|h
   ·exact .inl h
   ·exact .inr ⟨by simp[h.1],h.2⟩
theorem close_text{op:Int}{l:List Tr}{x:Tr}{j0:Int}(h:Y16 t op l j0= .ok [x] j):x= .node ⟨op,0⟩ l∧Sj t j0 j [41]:=by
 unfold Y16 at h
 split at h
 ·next e=>cases h;exact⟨rfl,Sj.one (by rw[e];rfl)⟩
 ·cases h
structure TS (t:ByteArray) (k:Nat):Prop where
 e:∀(p i:Int) (x:Tr) (j:Int),rd t k (.E p i)= .ok [x] j→Sj t i j x.tx
 l:∀(p:Int) (w:Tr) (i j0:Int) (x:Tr) (j:Int),rd t k (.L p [w] j0)= .ok [x] j→Sj t i j0 w.tx→Sj t i j x.tx
 a:∀(i:Int) (x:Tr) (j:Int),rd t k (.A i)= .ok [x] j→Sj t i j x.tx
 m:∀(ls:List Tr) (c r e i j0:Int) (x:Tr) (j:Int),rd t k (.M ls c r e j0)= .ok [x] j→0≤e→0≤r→(c=0∧r=0∧e≤3∨1≤c∧c≤4∧e+1≤c)→(ls.length:Int)=c*r+e+1→
  (∀n:Y5,n.Op=13→(if c=0 then e<n.N%8 else n.N%8=c)→Sj t i j0 (txs n 0 ls))→∃n ks,x= .node n ks∧n.Op=13∧Sj t i j (txs n 0 ks++[41])
theorem big_tx{n:Y5}{ks:List Tr}(h:6≤n.Op):(Tr.node n ks).tx=(if n.Op=10 then[] else Y29 n.Op)++40::(txs n 0 ks++[41]):=by
 rw[Tr.tx,Vn,Vn,wrapT,if_neg (show ¬n.Op≤5 by omega)]
theorem txs_snoc{n:Y5}{ls:List Tr}{y:Tr}{j0 j1:Int}{c:UInt8}(h1:1≤ls.length)(hs:Sj t i j0 (txs n 0 ls))(hp:Y7 t j0=((c.toNat:Nat):Int))(hc:Y5u n ls.length=c)(hy:Sj t (j0+1) j1 y.tx):Sj t i j1 (txs n 0 (ls++[y])):=by
 rw[txs_one,X08];refine hs.app ?_;rw[txs,Vn,hc,txs,X0d];exact(Sj.one hp).app hy
theorem sep13{n:Y5}{k:Nat}(h:n.Op=13)(b:Bool)(hb:b=decide ((k:Int)%(n.N%8)=0)):Y5u n k=if b=true then 59 else 44:=by
 unfold Y5u;rw[Vn,hb]
 by_cases hc:(k:Int)%(n.N%8)=0
 ·rw[if_pos (.inr ⟨h,hc⟩),decide_eq_true hc,if_pos rfl]
 ·rw[if_neg (by rintro(g|g);omega;exact hc g.2),decide_eq_false hc,if_neg (by decide)]
theorem ts_m{k:Nat}(S:TS t k)(ls:List Tr)(c r e i j0:Int)(x:Tr)(j:Int)(h:rd t (k+1) (.M ls c r e j0)= .ok [x] j)(he:0≤e)(hr:0≤r)(hc:c=0∧r=0∧e≤3∨1≤c∧c≤4∧e+1≤c)(hl:(ls.length:Int)=c*r+e+1)
  (hs:∀n:Y5,n.Op=13→(if c=0 then e<n.N%8 else n.N%8=c)→Sj t i j0 (txs n 0 ls)):∃n ks,x= .node n ks∧n.Op=13∧Sj t i j (txs n 0 ks++[41]):=by
 have h1:1≤ls.length:=by
  have:0≤c*r:=Int.mul_nonneg (by omega) hr;omega
 rw[rd] at h
 by_cases hA:Y7 t j0=44∧e+1<(if c=0 then 4 else c)
 ·rw[if_pos hA] at h;have⟨l1,j1,e1,e2⟩:=Y31 h;obtain⟨y,rfl⟩:=Y3u (Y47 _ (.E _ _) _ _ trivial e1);have hlt:=hA.2;refine S.m _ _ _ _ i _ x j e2 (by omega) hr ?_ (by simp;omega) fun n hn hN=> ?_
  ·rcases hc with hc|hc
   ·rw[if_pos hc.1] at hlt;exact .inl ⟨hc.1,hc.2.1,by omega⟩
   ·rw[Vn] at hlt;exact .inr ⟨hc.1,hc.2.1,by omega⟩
  ·refine txs_snoc h1 (hs n hn ?_) (c:=44) (by rw[hA.1];rfl) ?_ (S.e _ _ _ _ e1)
   ·by_cases h0:c=0
    ·rw[if_pos h0] at hN⊢;omega
    ·rw[if_neg h0] at hN⊢;exact hN
   ·rw[sep13 hn false]
    ·rfl
    ·symm
     rw[decide_eq_false_iff_not,hl]
     by_cases h0:c=0
     ·rw[if_pos h0] at hN;rcases hc with hc|hc
      ·rw[hc.1,hc.2.1,Int.zero_mul,Int.zero_add,Int.emod_eq_of_lt (by omega) (by omega)];omega
      ·omega
     ·rw[if_neg h0] at hN hlt;rw[hN,Int.add_assoc,Int.mul_add_emod_self_left,Int.emod_eq_of_lt (by omega) (by omega)];omega
 ·rw[if_neg hA] at h
  by_cases hB:Y7 t j0=59∧(c=0∨e+1=c)∧r+1<4
  ·rw[if_pos hB] at h;have⟨l1,j1,e1,e2⟩:=Y31 h;obtain⟨y,rfl⟩:=Y3u (Y47 _ (.E _ _) _ _ trivial e1);refine S.m _ _ _ _ i _ x j e2 (by omega) (by omega) (.inr ⟨by omega,by omega,by omega⟩) ?_ fun n hn hN=> ?_
   ·rcases hc with⟨rfl,rfl,_⟩|hc
    ·simp at hl⊢;omega
    ·have ec:e+1=c:=by rcases hB.2.1 with h|h<;>omega
     rw[ec,Int.mul_add,Int.mul_one];simp;omega
   ·rw[Vn] at hN;refine txs_snoc h1 (hs n hn ?_) (c:=59) (by rw[hB.1];rfl) ?_ (S.e _ _ _ _ e1)
    ·by_cases h0:c=0
     ·rw[if_pos h0];omega
     ·rw[if_neg h0,hN];rcases hB.2.1 with h|h<;>omega
    ·rw[sep13 hn true]
     ·rfl
     ·symm
      rw[decide_eq_true_eq,hl,hN];rcases hc with⟨rfl,rfl,_⟩|hc
      ·simp
      ·have ec:e+1=c:=by rcases hB.2.1 with h|h<;>omega
       rw[Int.add_assoc,ec,Int.mul_add_emod_self_left,Int.emod_self]
  ·rw[if_neg hB] at h
   by_cases hC:Y7 t j0=41∧(c=0∨e+1=c)
   ·rw[if_pos hC] at h;cases h;refine⟨_,_,rfl,rfl,(hs _ rfl ?_).app (Sj.one (by rw[hC.1];rfl))⟩;simp only
    by_cases h0:c=0
    ·rw[if_pos h0];omega
    ·rw[if_neg h0];rcases hC.2 with h|h<;>omega
   ·rw[if_neg hC] at h;cases h
theorem ts_a{k:Nat}(S:TS t k)(i:Int)(x:Tr)(j:Int)(h:rd t (k+1) (.A i)= .ok [x] j):Sj t i j x.tx:=by
 rw[rd] at h
 split at h
 ·cases hn:qNum t i with
  |bad q=>rw[hn] at h;cases h
  |ok y q=>rw[hn] at h;cases h;exact num_text hn
 ·split at h
  ·next h40=>
   have⟨l1,j1,e1,e2⟩:=Y31 h;obtain⟨y,rfl⟩:=Y3u (Y47 _ (.E _ _) _ _ trivial e1);obtain⟨rfl,e3⟩:=close_text e2;rw[big_tx (by decide),if_pos rfl,txs,if_pos rfl,txs,X0d];exact(Sj.one (c:=40) (by rw[h40];rfl)).app ((S.e _ _ _ _ e1).app e3)
  ·split at h
   ·next hl=>
    cases hw:qWord t i with
    |bad q=>rw[hw] at h;cases h
    |ok op q=>
     rw[hw] at h;replace h:(if op=1 then Rr.ok [.node ⟨1,Y7 t i-97⟩ []] q else if op=12 then ofLf (qSum t q) else(rd t k (.E 1 q)).bind fun l j=>if op=13 then rd t k (.M l 0 0 0 j) else if Y5v op=2 then(if Y7 t j=44 then(rd t k (.E 1 (j+1))).bind fun l2 j=>Y16 t op (l++l2) j else .err j) else Y16 t op l j)= .ok [x] j:=h;rcases word_text opsW i op q hw with⟨h1,hq⟩|⟨ho,hs⟩
     ·rw[if_pos h1] at h;cases h;subst hq;rw[Tr.tx,if_neg (show ¬(1:Int)=0 by decide),if_pos rfl];exact Sj.one (by simp only;rw[Y2s (by omega)];push_cast;omega)
     ·have hop:op=6∨op=7∨op=8∨op=9∨op=11∨op=12∨op=13:=by
       simpa [opsW] using ho
      rw[Vn] at h;have wr:∀{n:Y5} {ks:List Tr},n.Op=op→Sj t q j (txs n 0 ks++[41])→Sj t i j (Tr.node n ks).tx:=fun {n ks} hn hk=>by
       rw[big_tx (by omega),Vn,hn];have:=hs.app hk;simpa using this
      split at h
      ·next h12=>
       cases hq:qSum t q with
       |bad q2=>rw[hq] at h;cases h
       |ok y q2=>
        rw[hq] at h;cases h;obtain⟨n,ks,rfl,g1,g2⟩:=sum_text hq;exact wr (by rw[g1,h12]) g2
      ·have⟨l1,j1,e1,e2⟩:=Y31 h;obtain⟨y,rfl⟩:=Y3u (Y47 _ (.E _ _) _ _ trivial e1);have hy:=S.e _ _ _ _ e1;have hy1:∀n:Y5,Sj t q j1 (txs n 0 [y]):=fun n=>by rw[txs,if_pos rfl,txs,X0d];exact hy
       split at e2
       ·next h13=>
        obtain⟨n,ks,rfl,g1,g2⟩:=S.m _ _ _ _ q _ x j e2 (by omega) (by omega) (.inl ⟨rfl,rfl,by omega⟩) (by simp) fun n _ _=>hy1 n;exact wr (by rw[g1,h13]) g2
       ·split at e2
        ·split at e2
         ·next h44=>
          have⟨l2,j2,e3,e4⟩:=Y31 e2;obtain⟨y2,rfl⟩:=Y3u (Y47 _ (.E _ _) _ _ trivial e3);obtain⟨rfl,e5⟩:=close_text e4;refine wr rfl (Sj.app ?_ e5);refine txs_snoc (by simp) (hy1 _) (c:=44) (by rw[h44];rfl) ?_ (S.e _ _ _ _ e3);unfold Y5u;rw[if_neg (by simp only;omega),if_neg];rintro(g|g)
          ·have:=g.1;simp only at this;omega
          ·have:=g.1;simp only at this;omega
         ·cases e2
        ·obtain⟨rfl,e5⟩:=close_text e2;exact wr rfl ((hy1 _).app e5)
   ·cases h
theorem ts_l{k:Nat}(S:TS t k)(p:Int)(w:Tr)(i j0:Int)(x:Tr)(j:Int)(h:rd t (k+1) (.L p [w] j0)= .ok [x] j)(hw:Sj t i j0 w.tx):Sj t i j x.tx:=by
 rw[rd] at h;cases hop:opOf (Y7 t j0) with
 |none=>rw[hop] at h;cases h;exact hw
 |some o=>
  rw[hop] at h;simp only at h
  split at h
  ·have⟨l1,j1,e1,e2⟩:=Y31 h;obtain⟨y,rfl⟩:=Y3u (Y47 _ (.E _ _) _ _ trivial e1);refine S.l p (.node ⟨o,0⟩ ([w]++[y])) i j1 x j e2 ?_;have hr:(2≤o∧o≤5)∧Y7 t j0=(((sgnC o).toNat:Nat):Int):=by
    unfold opOf at hop
    split at hop
    ·next e=>cases hop;rw[e];exact⟨by omega,rfl⟩
    ·split at hop
     ·next e=>cases hop;rw[e];exact⟨by omega,rfl⟩
     ·split at hop
      ·next e=>cases hop;rw[e];exact⟨by omega,rfl⟩
      ·split at hop
       ·next e=>cases hop;rw[e];exact⟨by omega,rfl⟩
       ·cases hop
   have etx:(Tr.node ⟨o,0⟩ ([w]++[y])).tx=w.tx++([sgnC o]++y.tx):=by
    rw[Tr.tx,if_neg (by simp only;omega),if_neg (by simp only;omega),wrapT,if_pos (by simp only;omega)];show txs ⟨o,0⟩ 0 [w,y]=_;rw[txs,txs,txs,if_pos rfl,Vn,Y5u,if_pos (by simp only;omega)]
    simp
   rw[etx];exact hw.app ((Sj.one hr.2).app (S.e _ _ _ _ e1))
  ·cases h;exact hw
theorem ts_e{k:Nat}(S:TS t k)(p i:Int)(x:Tr)(j:Int)(h:rd t (k+1) (.E p i)= .ok [x] j):Sj t i j x.tx:=by
 rw[rd] at h;have⟨l1,j1,e1,e2⟩:=Y31 h;obtain⟨w,rfl⟩:=Y3u (Y47 _ (.A _) _ _ trivial e1);exact S.l p w i j1 x j e2 (S.a _ _ _ e1)
theorem ts_all(t:ByteArray):∀k,TS t k
 |0=>⟨fun _ _ _ _ h=>(by cases h),fun _ _ _ _ _ _ h=>(by cases h),fun _ _ _ h=>(by cases h),fun _ _ _ _ _ _ _ _ h=>(by cases h)⟩
 |k+1=>⟨ts_e (ts_all t k),ts_l (ts_all t k),ts_a (ts_all t k),ts_m (ts_all t k)⟩
theorem rdF_txt{x:Tr}(h:rdF t= .ok [x] (t.size:Nat)):t=B x.tx:=by
 have⟨h1,h2⟩:=(ts_all t _).e 1 0 x _ h;have hlen:t.size=x.tx.length:=by omega
 apply WideShapes.bytes_inj;rw[B_data];refine List.ext_getElem (by rw[X04];exact hlen) fun q g1 g2=> ?_;have hp:=h1.get g2;rw[Int.zero_add,Y7,Vp,Y1n,X02,X8,X1 g1,X8,X1 g2] at hp;simp only[Xq] at hp;exact UInt8.toNat_inj.1 (by omega)
end
open Go.Abs
theorem decs_digs:∀(k n:Nat),n<10^(k+1)→decs (k+1) n=lnt (digs k n)
 |0,n,h=>by
  rw[decs,digs,Vp];show _=[(((UInt8.ofNat (48+n)).toNat:Nat):Int)];rw[Y2s (by omega)];simp
 |k+1,n,h=>by
  rw[decs,digs]
  by_cases h1:n<10
  ·rw[if_pos h1,if_pos h1];show _=[(((UInt8.ofNat (48+n)).toNat:Nat):Int)];rw[Y2s (by omega)];simp
  ·rw[if_neg h1,if_neg h1,lnt_app,decs_digs k (n/10) (by rw[Nat.pow_succ] at h;omega)];congr 1;show _=[(((UInt8.ofNat (48+n%10)).toNat:Nat):Int)];rw[Y2s (by omega)];simp
def PnOk (f:List Y5) (rc:Yf→Option Yf) (T:Tr):Prop:=∀(pre post:List Y5) (acc:List UInt8),f=pre++T.flat++post→acc.length+20*T.flat.length≤1000000→
 rc ⟨f,(pre.length:Int),lnt acc⟩=some ⟨f,((pre.length+T.flat.length:Nat):Int),lnt (acc++T.tx)⟩
def pnB (rc:Yf→Option Yf) (x:Int×Bool):(Yf×Y5×Int→Option Yf)→Yf×Y5×Int→Option Yf:=fun loop s=>Y0q rc x loop s.1 s.2.1 s.2.2
theorem rm1{n:Nat}(h:n≤3000000):room 1 n:=by unfold room;omega
theorem name_lnt{o:Int}(h:6≤o∧o≤13):∃b,f_formula_name o=some b∧bytesOf b=lnt (if o=10 then[] else Y29 o)∧b.size≤6:=by
 have:o=6∨o=7∨o=8∨o=9∨o=10∨o=11∨o=12∨o=13:=by omega
 rcases this with rfl|rfl|rfl|rfl|rfl|rfl|rfl|rfl<;>exact⟨_,rfl,rfl,by decide⟩
theorem sep_ok{n:Y5}{k:Nat}{m:Nat}(ha:ar n=some m)(hn:6≤n.Op):Y3k n (k:Int)=some (((Y5u n k).toNat:Nat):Int):=by
 have hN8:n.Op=13→1≤n.N%8∧0≤n.N:=fun h13=>by
  unfold ar at ha;rw[Vn,Vn,Vn,Vn,Vn,if_pos h13] at ha
  split at ha
  ·next h=>omega
  ·cases ha
 unfold Y3k;rw[Y1j (by
  intro hh;simp only[X5,beq_iff_eq] at hh;have⟨g1,g2⟩:=hN8 hh.2;rw[tmod_nat _ _ g2];omega)]
 have esep:(cond (cond (n.Op==12) ((k:Int)==n.N) false) true (cond (n.Op==13) (Int.tmod (k:Int) (Int.tmod n.N 8)==0) false))=decide (n.Op=12∧(k:Int)=n.N∨n.Op=13∧(k:Int)%(n.N%8)=0):=by
  by_cases h12:n.Op=12
  ·rw[h12];simp only[beq_self_eq_true,cond_true,true_and]
   by_cases hd:(k:Int)=n.N
   ·rw[show((k:Int)==n.N)=true by rw[beq_iff_eq];exact hd,decide_eq_true (.inl hd)];rfl
   ·rw[show((k:Int)==n.N)=false by rw[beq_eq_false_iff_ne];exact hd,decide_eq_false (by rintro(h|h);exact hd h;exact absurd h.1 (by decide))];rfl
  ·rw[show(n.Op==12)=false by rw[beq_eq_false_iff_ne];exact h12];simp only[cond_false]
   by_cases h13:n.Op=13
   ·have⟨g1,g2⟩:=hN8 h13;rw[tmod_nat _ _ g2,tmod_nat _ _ (by omega:(0:Int)≤(k:Nat)),h13];simp only[beq_self_eq_true,cond_true,true_and];rw[X0w];simp
   ·rw[show(n.Op==13)=false by rw[beq_eq_false_iff_ne];exact h13,decide_eq_false (by rintro(h|h);exact h12 h.1;exact h13 h.1)];rfl
 rw[esep,Y5u,Vn]
 by_cases hs:n.Op=12∧(k:Int)=n.N∨n.Op=13∧(k:Int)%(n.N%8)=0
 ·rw[cd_pos hs,if_pos hs];rfl
 ·rw[Y69 hs,if_neg hs];rfl
theorem pn_run{f pre post:List Y5}{n:Y5}{ks:List Tr}{rc:Yf→Option Yf}{b:Bool}(hf:f=pre++(n::Y1a ks)++post)(hn:6≤n.Op)(ha:ar n=some ks.length)
  (hk:∀x∈ks,PnOk f rc x):∀(ls done:List Tr) (acc:List UInt8) (m:Nat),ks=done++ls→acc.length+20*(Y1a ls).length≤999987→
  iter (pnB rc ((ks.length:Int),b)) (m+1+ls.length) (⟨f,((pre.length+1+(Y1a done).length:Nat):Int),lnt acc⟩,n,(done.length:Int))=some ⟨f,((pre.length+1+(Y1a ks).length:Nat):Int),lnt (acc++txs n done.length ls++[41])⟩:=by
 have h16:=ar_le ha;intro ls
 induction ls with
 |nil=>
  intro done acc m he hacc;have hd:done=ks:=by simpa using he.symm
  subst hd;rw[show m+1+([]:List Tr).length=m+1 by simp,Yv];unfold pnB Y0q;simp only;rw[Y69 (by omega),Y1j (rm1 (by rw[lnt_len];omega)),txs,X0d,lnt_app]
  rfl
 |cons x ls ih=>
  intro done acc m he hacc;have hx:x∈ks:=by rw[he];simp
  have hdk:done.length<ks.length:=by rw[he];simp
  have fx:Y1a ks=Y1a done++(x.flat++Y1a ls):=by rw[Y2l,Y2l,Y2l,he];simp
  have fl:Y1a (x::ls)=x.flat++Y1a ls:=rfl;have fp:=flat_pos x;rw[fl,X4] at hacc;have tl:=tx_len x;have hrec:∀a:List UInt8,a.length≤acc.length+1→rc ⟨f,((pre.length+1+(Y1a done).length:Nat):Int),lnt a⟩=some ⟨f,((pre.length+1+(Y1a (done++[x])).length:Nat):Int),lnt (a++x.tx)⟩:=fun a ha2=>by
   have:=hk x hx (pre++n::Y1a done) (Y1a ls++post) a (by rw[hf,fx];simp) (by omega);rw[show(pre++n::Y1a done).length=pre.length+1+(Y1a done).length by simp only[X4,Xa];omega] at this;rw[this];rw[Y2l (done++[x]),X0c,X0i, ←Y2l,X4];simp[X1j]
  have nx:=fun(a2:List UInt8) (h2:a2.length+20*(Y1a ls).length≤999987)=>ih (done++[x]) a2 m (by rw[he];simp) h2;rw[show m+1+(x::ls).length=(m+1+ls.length)+1 by simp only[Xa];omega,Yv];generalize iter (pnB rc ((ks.length:Int),b)) (m+1+ls.length)=L at nx⊢;have step:∀a:List UInt8,a.length≤acc.length+1→Y0p rc L (done.length:Int) ⟨f,((pre.length+1+(Y1a done).length:Nat):Int),lnt a⟩ n=some ⟨f,((pre.length+1+(Y1a ks).length:Nat):Int),lnt (a++(x.tx++txs n (done.length+1) ls)++[41])⟩:=fun a ha2=>by
   unfold Y0p Y24;rw[hrec a ha2,X2,Y49 (by omega)];have:=nx (a++x.tx) (by rw[X4];omega);rw[show((done++[x]).length:Int)=(done.length:Int)+1 by simp] at this;rw[this];simp
  unfold pnB Y0q;simp only;rw[cd_pos (by omega)]
  by_cases h0:done.length=0
  ·rw[Y69 (by omega)];refine Eq.trans (step acc (by omega)) ?_;rw[txs,if_pos h0];simp
  ·rw[cd_pos (by omega),sep_ok ha hn,X2,Y1j (rm1 (by rw[lnt_len];simp only[Xa,Xi];omega))];have:=step (acc++[Y5u n done.length]) (by simp);rw[lnt_app] at this;refine Eq.trans this ?_;rw[txs,if_neg h0];simp
theorem pn_all{f:List Y5}(hl:f.length≤100000):∀(d:Nat) (T:Tr) (m:Nat),Y43 d T→PnOk f (Y02 (m+d)) T
 |0,T,m,h=>by cases T;exact h.elim
 |d+1,.node n ks,m,h=>by
  have⟨h1,h2,h3⟩:=h;have hk:∀x∈ks,PnOk f (Y02 (m+d)) x:=fun x hx=>pn_all hl d x m (Y5d.1 h2 x hx);intro pre post acc hf hacc;rw[Tr.flat] at hf hacc;have hlt:pre.length<f.length:=by rw[hf];simp
  have hg:f.getD ((pre.length:Nat):Int).toNat Yd=n:=by rw[hf,Xu];exact getD_mid _ _ _
  have h16:=ar_le h1;simp only[Xa] at hacc;rw[show m+(d+1)=(m+d)+1 by omega,Y02];unfold Y2m;simp only;rw[Y1j (by omega),Y49 (by omega),hg];have epos:((pre.length:Nat):Int)+1=((pre.length+1+(Y1a ([]:List Tr)).length:Nat):Int):=by simp[Y1a]
  have eend:((pre.length+(Tr.node n ks).flat.length:Nat):Int)=((pre.length+1+(Y1a ks).length:Nat):Int):=by rw[Tr.flat];simp only[Xa];omega
  rw[eend];have big:6≤n.Op→Yr (Y02 (m+d)) ⟨f,(pre.length:Int),lnt acc⟩ ⟨f,(pre.length:Int)+1,lnt acc⟩ false=some ⟨f,((pre.length+1+(Y1a ks).length:Nat):Int),lnt (acc++(Tr.node n ks).tx)⟩:=fun hn=>by
   have hc:=ar_cases h1;unfold Yr;simp only;have⟨b,b1,b2,b3⟩:=name_lnt (o:=n.Op) (by omega);have nl:(if n.Op=10 then[] else Y29 n.Op).length≤6:=by
    have:=nameL_len n.Op
    split<;>simp<;>omega
   rw[cond_false,hg,b1,X2,Y1j (rm1 (by rw[lnt_len];omega)),b2, ←lnt_app,Y1j (rm1 (by rw[lnt_len,X4];omega)),formula_arity_ok h1,X2];have:=pn_run (b:=true) hf hn h1 hk ks [] (acc++(if n.Op=10 then[] else Y29 n.Op)++[40]) (999999-ks.length) rfl (by simp only[X4,Xa,Xi];omega);rw[show 999999-ks.length+1+ks.length=1000000 by omega, ←epos,lnt_app] at this;have etx:(Tr.node n ks).tx=(if n.Op=10 then[] else Y29 n.Op)++40::(txs n 0 ks++[41]):=by
    rw[Tr.tx,Vn,Vn,wrapT,if_neg (show ¬n.Op≤5 by omega)]
   rw[etx];refine Eq.trans this ?_;simp
  have bin:(n.Op=2∨n.Op=3∨n.Op=4∨n.Op=5)→Yr (Y02 (m+d)) ⟨f,(pre.length:Int),lnt acc⟩ ⟨f,(pre.length:Int)+1,lnt acc⟩ true=some ⟨f,((pre.length+1+(Y1a ks).length:Nat):Int),lnt (acc++(Tr.node n ks).tx)⟩:=fun hn=>by
   have e2:ks.length=2:=by
    unfold ar at h1;rw[Vn,Vn,Vp] at h1
    split at h1
    ·simpa using h1.symm
    ·cases h1
   obtain⟨a,b,rfl⟩:∃a b,ks=[a,b]:=by
    cases ks with
    |nil=>simp at e2
    |cons a ks=>cases ks with
     |nil=>simp at e2
     |cons b ks=>cases ks with
      |nil=>exact⟨a,b,rfl⟩
      |cons c ks=>simp at e2
   have fab:Y1a [a,b]=a.flat++b.flat:=by simp[Y1a]
   rw[fab] at hf hacc;rw[X4] at hacc;have la:=tx_len a;have lb:=tx_len b;have hra:=hk a (by simp) (pre++[n]) (b.flat++post) acc (by rw[hf];simp) (by omega);have hrb:=hk b (by simp) (pre++n::a.flat) post (acc++a.tx++[sgnC n.Op]) (by rw[hf];simp) (by simp only[X4,Xa,Xi];omega);rw[show((pre++[n]).length:Int)=(pre.length:Int)+1 by simp] at hra;have es:f_formula_sign n.Op=some (((sgnC n.Op).toNat:Nat):Int):=by
    rcases hn with e|e|e|e<;>rw[e]<;>rfl
   unfold Yr;simp only;rw[cond_true,hra,X2,hg,es,X2,Y1j (rm1 (by rw[lnt_len];simp only[X4,Xa,Xi];omega))];rw[show((pre++[n]).length+a.flat.length)=(pre++n::a.flat).length by simp only[X4,Xa,Xi];omega];rw[lnt_app (acc++a.tx)] at hrb;rw[show[(((sgnC n.Op).toNat:Nat):Int)]=lnt [sgnC n.Op] from rfl,hrb,X2,fab];have etx:(Tr.node n [a,b]).tx=a.tx++[sgnC n.Op]++b.tx:=by
    rw[Tr.tx,Vn,Vn,wrapT,Vp,txs,txs,txs,if_pos rfl,Vn,Y5u,Vp];simp
   rw[etx];simp only[Xu,X4,Xa];rw[show pre.length+(a.flat.length+1)+b.flat.length=pre.length+1+(a.flat.length+b.flat.length) by omega]
  have hc:=ar_cases h1;have h1':=h1
  by_cases h0:n.Op=0
  ·unfold ar at h1';rw[if_pos h0] at h1'
   split at h1'
   ·next hN=>
    have e0:ks=[]:=Xn (by simpa using h1'.symm);subst e0;rw[show(n.Op==0)=true by rw[beq_iff_eq];exact h0,cond_true,Y1j hN,Y1j (rm1 (by rw[lnt_len];omega)),Tr.tx,if_pos h0,decs_digs 4 _ (by omega), ←lnt_app]
    rfl
   ·cases h1'
  ·rw[show(n.Op==0)=false by rw[beq_eq_false_iff_ne];exact h0,cond_false]
   by_cases h1o:n.Op=1
   ·unfold ar at h1';rw[if_neg h0,if_pos h1o] at h1'
    split at h1'
    ·next hN=>
     have e0:ks=[]:=Xn (by simpa using h1'.symm);subst e0;rw[show(n.Op==1)=true by rw[beq_iff_eq];exact h1o,cond_true,Y49 (by omega),Y1j (rm1 (by rw[lnt_len];simp only[Xa,Xi];omega)),Tr.tx,if_neg h0,if_pos h1o,wrap_u8' (by omega),lnt_app];have:lnt [UInt8.ofNat (97+n.N.toNat)]=[97+n.N]:=by
      show[(((UInt8.ofNat (97+n.N.toNat)).toNat:Nat):Int)]=_;rw[Y2s (by omega),show(((97+n.N.toNat:Nat)):Int)=97+n.N by omega]
     rw[this]
     rfl
    ·cases h1'
   ·rw[show(n.Op==1)=false by rw[beq_eq_false_iff_ne];exact h1o,cond_false]
    by_cases h2o:n.Op=2
    ·rw[show(n.Op==2)=true by rw[beq_iff_eq];exact h2o,cond_true];exact bin (by omega)
    ·rw[show(n.Op==2)=false by rw[beq_eq_false_iff_ne];exact h2o,cond_false]
     by_cases h3o:n.Op=3
     ·rw[show(n.Op==3)=true by rw[beq_iff_eq];exact h3o,cond_true];exact bin (by omega)
     ·rw[show(n.Op==3)=false by rw[beq_eq_false_iff_ne];exact h3o,cond_false]
      by_cases h4o:n.Op=4
      ·rw[show(n.Op==4)=true by rw[beq_iff_eq];exact h4o,cond_true];exact bin (by omega)
      ·rw[show(n.Op==4)=false by rw[beq_eq_false_iff_ne];exact h4o,cond_false]
       by_cases h5o:n.Op=5
       ·rw[show(n.Op==5)=true by rw[beq_iff_eq];exact h5o];exact bin (by omega)
       ·rw[show(n.Op==5)=false by rw[beq_eq_false_iff_ne];exact h5o];exact big (by omega)
theorem formula_Print_ok{d:Nat}{T:Tr}(hd:d≤8)(h:Y43 d T)(hl:T.flat.length≤60):Y5f T.flat=some (B T.tx):=by
 have:=pn_all (f:=T.flat) (by omega) d T (1000000-d) h [] [] [] (by simp) (by simp only[Xi];omega);rw[show 1000000-d+d=1000000 by omega] at this;unfold Y5f Y53;rw[formula_Valid_ok (good_IsT d T h) hd hl,X2,X0z,cond_false];have e:Y02 1000000 ⟨T.flat,0,[]⟩=_:=this;rw[e,X2,strOf_B,toU_lnt,X0h]
end Go.Proofs.YtkgfbpbndmklnaaDoor
