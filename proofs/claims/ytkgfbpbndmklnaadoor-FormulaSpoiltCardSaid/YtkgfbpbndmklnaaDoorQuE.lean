/- Own work. -/
import Derived.Test.YtkgfbpbndmklnaaDoorQuD
import Derived.Test.YtkgfbpbndmklnaaDoorQuC
set_option linter.unusedSimpArgs false
set_option linter.unusedVariables false
namespace Go.Proofs.YtkgfbpbndmklnaaDoor
section
open Go.Abs
variable {t:ByteArray} {i j:Int}
theorem one9(hs:t.size≤40000){k:Nat}(S:PS t k){op:Int}{q:Nat}(h0:0≤i)(hij:i+1≤j)(hjs:j≤(t.size:Nat))(hr:rd t k (.E 1 j)≠ .out)(hq:4*(t.size-j.toNat)+4≤q):
  Rl t i ((rd t k (.E 1 j)).bind fun l j=>Y0k t op l j) ((lsF (q+1) ⟨t,j,false⟩ 1 1).bind fun x=>(Y05 ⟨op,0⟩ x.1).bind fun y=>shut (y,x.2)):=by
 have⟨l,j2,b,e1,e2,e3,e4,e5⟩:=S.e 1 j q (by omega) (by omega) (by omega) hjs hr hq;have st:lsF (q+1) ⟨t,j,false⟩ 1 1=some ([l],⟨t,j2,b⟩):=by
  rw[lsF_eq,show exF q ⟨t,j,false⟩ 1=_ from e1,X0];cases b with
  |true=>rw[lsB_bad (by omega)]
  |false=>rw[show(1000000:Nat)=999999+1 from rfl,Yj,ls_stop (by omega) (by simp) (.inl (by simp))]
 rw[st,X0];cases hR:rd t k (.E 1 j) with
 |out=>exact absurd hR hr
 |err w=>
  rw[hR] at e5;obtain⟨rfl,rfl⟩:=e5;exact end9 hs (l:=[]) h0 (by omega) e3 (by simp) (fun h=>by cases h) (by simp;omega) rfl
 |ok ys w=>
  rw[hR] at e5;obtain⟨rfl,e6⟩:=e5;refine end9 hs (l:=ys) h0 (by omega) e3 (by simp) (fun h=> ?_) (by simp;omega) ?_
  ·subst h;rw[if_neg (by decide)] at e6;simp[e6]
  ·cases b with
   |true=>rw[if_pos rfl] at e6;exact stk_C e6
   |false=>rfl
theorem two9(hs:t.size≤40000){k:Nat}(S:PS t k){op:Int}{q:Nat}(h0:0≤i)(hij:i+1≤j)(hjs:j≤(t.size:Nat))(hr:((rd t k (.E 1 j)).bind fun l j=>if Y7 t j=44 then(rd t k (.E 1 (j+1))).bind fun l2 j=>Y0k t op (l++l2) j else .err j)≠ .out)(hq:4*(t.size-j.toNat)+4≤q):
  Rl t i ((rd t k (.E 1 j)).bind fun l j=>if Y7 t j=44 then(rd t k (.E 1 (j+1))).bind fun l2 j=>Y0k t op (l++l2) j else .err j) ((lsF (q+1) ⟨t,j,false⟩ 2 2).bind fun x=>(Y05 ⟨op,0⟩ x.1).bind fun y=>shut (y,x.2)):=by
 have⟨l,j2,b,e1,e2,e3,e4,e5⟩:=S.e 1 j q (by omega) (by omega) (by omega) hjs (Y6f hr) hq;rw[lsF_eq,show exF q ⟨t,j,false⟩ 1=_ from e1,X0];have bad:Rl t i (.err j2) ((iter (lsB (exF q) 2 2) 1000000 (⟨t,j2,true⟩,[l])).bind fun x=>(Y05 ⟨op,0⟩ x.1).bind fun y=>shut (y,x.2)):=by
  rw[lsB_bad (by omega),X0];exact end9 hs (l:=[]) h0 (by omega) e3 (by simp) (fun h=>by cases h) (by simp;omega) rfl
 cases hR:rd t k (.E 1 j) with
 |out=>exact absurd hR (Y6f hr)
 |err w=>
  rw[hR] at e5;obtain⟨rfl,rfl⟩:=e5;exact bad
 |ok ys w=>
  rw[hR] at e5 hr;obtain⟨rfl,e6⟩:=e5;show Rl t i (if Y7 t w=44 then(rd t k (.E 1 (w+1))).bind fun l2 j=>Y0k t op (ys++l2) j else .err w) _;have hr':(if Y7 t w=44 then(rd t k (.E 1 (w+1))).bind fun l2 j=>Y0k t op (ys++l2) j else .err w)≠ .out:=hr;cases b with
  |true=>
   rw[if_pos rfl] at e6;rw[if_neg (by unfold Stk at e6;omega)];exact bad
  |false=>
   rw[if_neg (by decide)] at e6;rw[show(1000000:Nat)=999999+1 from rfl,Yj]
   by_cases hp:Y7 t w=44
   ·rw[if_pos hp] at hr'⊢;have hin:=Y1z (t:=t) (i:=w) (by omega);have⟨l2,j3,b3,f1,f2,f3,f4,f5⟩:=S.e 1 (w+1) q (by omega) (by omega) (by omega) (by omega) (Y6f hr') (by omega);rw[ls_comma (by omega) (by omega) (by simp) hp (by simp) (by omega),show exF q ⟨t,w+1,false⟩ 1=_ from f1,X0];have st:iter (lsB (exF q) 2 2) 999999 (⟨t,j3,b3⟩,[l]++[l2])=some ([l]++[l2],⟨t,j3,b3⟩):=by
     cases b3 with
     |true=>rw[lsB_bad (by omega)]
     |false=>rw[show(999999:Nat)=999998+1 from rfl,Yj,ls_stop (by omega) (by simp) (.inl (by simp))]
    rw[st,X0];cases hR2:rd t k (.E 1 (w+1)) with
    |out=>exact absurd hR2 (Y6f hr')
    |err w2=>
     rw[hR2] at f5;obtain⟨rfl,rfl⟩:=f5;exact end9 hs (l:=[]) h0 (by omega) f3 (by simp) (fun h=>by cases h) (by simp;omega) rfl
    |ok ys2 w2=>
     rw[hR2] at f5;obtain⟨rfl,f6⟩:=f5;refine end9 hs (l:=ys++ys2) h0 (by omega) f3 (by simp) (fun h=> ?_) (by simp;omega) ?_
     ·subst h;rw[if_neg (by decide)] at f6;rw[e6,f6,flatL_app];simp
     ·cases b3 with
      |true=>rw[if_pos rfl] at f6;exact stk_C f6
      |false=>rfl
   ·rw[if_neg hp,ls_fail (by omega) (by omega) (by simp) hp,lsB_bad (by omega),X0];exact end9 hs (l:=[]) h0 (by omega) e3 (by simp) (fun h=>by cases h) (by simp;omega) rfl
theorem mat9(hs:t.size≤40000){k:Nat}(S:PS t k){m:Nat}(h0:0≤i)(hij:i+1≤j)(a2:j≤(t.size:Nat))(hr:((rd t k (.E 1 j)).bind fun l j=>rd t k (.M l 0 0 0 j))≠ .out)(hq:4*(t.size-j.toNat)+4≤m):
  Rl t i ((rd t k (.E 1 j)).bind fun l j=>rd t k (.M l 0 0 0 j)) ((Y0l (m+2) ⟨t,j,false⟩).bind shut):=by
 have⟨l,j2,b,e1,e2,e3,e4,e5⟩:=S.e 1 j m (by omega) (by omega) (by omega) a2 (Y6f hr) (by omega);have em:Y0l (m+2) ⟨t,j,false⟩=(iter (lsB (exF m) 1 4) 1000000 (⟨t,j2,b⟩,[l])).bind fun x1=>iter (mxB (lsF (m+1)) x1) 1000000 (x1.2,x1.1,1):=by
  show Y2n _ _ _ (lsF (m+1)) _=_;unfold Y2n;rw[lsF_eq,show exF m ⟨t,j,false⟩ 1=_ from e1,X0]
  rfl
 rw[em];have bad:∀w,w=j2→b=true→Rl t i (.err w) (((iter (lsB (exF m) 1 4) 1000000 (⟨t,j2,b⟩,[l])).bind fun x1=>iter (mxB (lsF (m+1)) x1) 1000000 (x1.2,x1.1,1)).bind shut):=fun w hw hb=>by
  subst hw;subst hb
  rw[lsB_bad (by omega),X0];exact mx_bad hs (by omega) h0 (by omega) e3 (by omega) (by simp) (by simp) (by simp;omega)
 cases hR:rd t k (.E 1 j) with
 |out=>exact absurd hR (Y6f hr)
 |err w=>
  rw[hR] at e5;exact bad w e5.2 e5.1
 |ok ys w=>
  rw[hR] at e5 hr;obtain⟨rfl,e6⟩:=e5;obtain⟨y,rfl⟩:=Y6d (Y66 _ (.E _ _) _ _ trivial hR);have hr':rd t k (.M [y] 0 0 0 w)≠ .out:=hr;show Rl t i (rd t k (.M [y] 0 0 0 w)) _;cases b with
  |true=>
   rw[if_pos rfl] at e6;obtain⟨k,rfl⟩:∃q,k=q+1:=by
    cases k with
    |zero=>exact absurd rfl hr'
    |succ k=>exact⟨k,rfl⟩
   rw[stk_M e6];exact bad w rfl rfl
  |false=>
   rw[if_neg (by decide),Y5s] at e6;subst e6;exact S.m1 i w [y] m 1000000 h0 (by omega) e3 (by simp) (by simp) (by rw[Y5s];omega) hr' (by omega) (by simp)
theorem beqN{a b:Int}(h:a≠b):(a==b)=false:=by rw[beq_eq_false_iff_ne];exact h
def awD (m:Nat) (op:Int) (s0 s:Y1):Option (List Y2×Y1):=
 cond (op==12) ((Y3o s).bind shut) (cond (op==13) ((Y0l m s).bind shut) (cond (op==9) (Y03 (Y0g m) (op,s0) s (op==9)) (Y03 (Y0g m) (op,s0) s (op==11))))
def awV (x:Y1):Option (List Y2×Y1):=
 G (inR (x.At+1))<|G (inR ((x.At+1)-1))<|G (0≤((x.At+1)-1)∧((x.At+1)-1)<(x.S.size:Int))<|
 some ([(⟨1,IntKind.wrap .i64 (IntKind.wrap .u8 ((bAt x.S ((x.At+1)-1))-97))⟩:Y2)],(⟨x.S,x.At+1,x.Bad⟩:Y1))
def aw (m:Nat) (x:Int×Y1):Option (List Y2×Y1):=
 cond x.2.Bad (some ([],x.2)) (cond (x.1==1) (awV x.2) ((Y0e x.2 40).bind fun y=>cond y.Bad (some ([],y)) (awD m x.1 x.2 y)))
theorem aw_bad{m:Nat}{op:Int}:aw m (op,⟨t,j,true⟩)=some ([],⟨t,j,true⟩):=rfl
theorem aw_var{m:Nat}:aw m (1,⟨t,i,false⟩)=awV ⟨t,i,false⟩:=rfl
theorem aw_op{m:Nat}{op:Int}(h:op≠1):aw m (op,⟨t,j,false⟩)=(Y0e ⟨t,j,false⟩ 40).bind fun y=>cond y.Bad (some ([],y)) (awD m op ⟨t,j,false⟩ y):=by
 unfold aw;rw[beqN h,cond_false,cond_false]
theorem awV_ok(h0:0≤i)(hin:i<(t.size:Nat))(hs:t.size≤90000)(hl:isL (Y7 t i)):awV ⟨t,i,false⟩=some ([⟨1,Y7 t i-97⟩],⟨t,i+1,false⟩):=by
 unfold isL at hl;unfold awV;simp only;have eb:bAt t i=Y7 t i:=by rw[Y7,if_pos hin];rfl
 rw[Y2k (by omega),Y2k (by omega),show i+1-1=i by omega,Y14 (by omega),eb,wrap2 (by omega)]
theorem ps_op(hs:t.size≤40000){k:Nat}(S:PS t k){op:Int}{m:Nat}{s0:Y1}(h0:0≤i)(hij:i+1≤j)(a2:j≤(t.size:Nat))(b1:op∈opsW)
  (hr:(if op=12 then ofLf (qSum t j) else(rd t k (.E 1 j)).bind fun l j=>if op=13 then rd t k (.M l 0 0 0 j) else if Y4y op=2 then(if Y7 t j=44 then(rd t k (.E 1 (j+1))).bind fun l2 j=>Y0k t op (l++l2) j else .err j) else Y0k t op l j)≠ .out) (hq:4*(t.size-j.toNat)+4≤m):
  Rl t i (if op=12 then ofLf (qSum t j) else(rd t k (.E 1 j)).bind fun l j=>if op=13 then rd t k (.M l 0 0 0 j) else if Y4y op=2 then(if Y7 t j=44 then(rd t k (.E 1 (j+1))).bind fun l2 j=>Y0k t op (l++l2) j else .err j) else Y0k t op l j) (awD (m+2) op s0 ⟨t,j,false⟩):=by
 have hcase:op=12∨op=13∨(op=9∨op=11)∨(op=6∨op=7∨op=8):=by
  simp only[opsW,Xm,Xr,or_false] at b1;omega
 rcases hcase with rfl|rfl|h9|h6
 ·rw[if_pos rfl];exact tt9_rl (by omega) h0 (by omega) a2
 ·rw[if_neg (by decide)] at hr⊢;exact mat9 hs S h0 hij a2 hr hq
 ·have e12:op≠12:=by omega
  have e13:op≠13:=by omega
  rw[if_neg e12] at hr⊢;have e1:Y4y op=1:=by rcases h9 with rfl|rfl<;>rfl
  have ef:(fun(l:List Tr) (j:Int)=>if op=13 then rd t k (.M l 0 0 0 j) else if Y4y op=2 then(if Y7 t j=44 then(rd t k (.E 1 (j+1))).bind fun l2 j=>Y0k t op (l++l2) j else .err j) else Y0k t op l j)=fun l j=>Y0k t op l j:=by
   funext l j;rw[if_neg e13,e1,if_neg (by decide)]
  rw[ef] at hr⊢;have:=one9 hs S (op:=op) (q:=m+1) h0 hij a2 (Y6f hr) (by omega);have ek:awD (m+2) op s0 ⟨t,j,false⟩=Y03 (Y0g (m+2)) (op,s0) ⟨t,j,false⟩ true:=by
   rw[awD,beqN e12,cond_false,beqN e13,cond_false];rcases h9 with rfl|rfl
   ·rw[show((9:Int)==9)=true from rfl,cond_true]
   ·rw[show((11:Int)==9)=false from rfl,show((11:Int)==11)=true from rfl,cond_false]
  rw[ek,Y03,cond_true];exact this
 ·have e12:op≠12:=by omega
  have e13:op≠13:=by omega
  rw[if_neg e12] at hr⊢;have e1:Y4y op=2:=by rcases h6 with rfl|rfl|rfl<;>rfl
  have ef:(fun(l:List Tr) (j:Int)=>if op=13 then rd t k (.M l 0 0 0 j) else if Y4y op=2 then(if Y7 t j=44 then(rd t k (.E 1 (j+1))).bind fun l2 j=>Y0k t op (l++l2) j else .err j) else Y0k t op l j)=fun l j=>if Y7 t j=44 then(rd t k (.E 1 (j+1))).bind fun l2 j=>Y0k t op (l++l2) j else .err j:=by
   funext l j;rw[if_neg e13,e1,if_pos rfl]
  rw[ef] at hr⊢;have:=two9 hs S (op:=op) (q:=m+1) h0 hij a2 hr (by omega);have ek:awD (m+2) op s0 ⟨t,j,false⟩=Y03 (Y0g (m+2)) (op,s0) ⟨t,j,false⟩ false:=by
   rw[awD,beqN e12,cond_false,beqN e13,cond_false,beqN (show op≠9 by omega),beqN (show op≠11 by omega),cond_false]
  rw[ek,Y03,cond_false];exact this
theorem ps_w(hs:t.size≤40000){k:Nat}(S:PS t k){m:Nat}(h0:0≤i)(hin:i<(t.size:Nat))(hl:97≤Y7 t i∧Y7 t i≤122)
  (hr:(match qWord t i with
   | .bad j=>Rr.err j
   | .ok op j=>if op=1 then .ok [.node ⟨1,Y7 t i-97⟩ []] j else if op=12 then ofLf (qSum t j) else(rd t k (.E 1 j)).bind fun l j=>if op=13 then rd t k (.M l 0 0 0 j) else if Y4y op=2 then(if Y7 t j=44 then(rd t k (.E 1 (j+1))).bind fun l2 j=>Y0k t op (l++l2) j else .err j) else Y0k t op l j)≠ .out) (hq:4*(t.size-i.toNat)≤m):
  Rl t i (match qWord t i with
   | .bad j=>Rr.err j
   | .ok op j=>if op=1 then .ok [.node ⟨1,Y7 t i-97⟩ []] j else if op=12 then ofLf (qSum t j) else(rd t k (.E 1 j)).bind fun l j=>if op=13 then rd t k (.M l 0 0 0 j) else if Y4y op=2 then(if Y7 t j=44 then(rd t k (.E 1 (j+1))).bind fun l2 j=>Y0k t op (l++l2) j else .err j) else Y0k t op l j) ((Y3z ⟨t,i,false⟩).bind (aw (m+2))):=by
 have⟨o,w1,w2⟩:=word9 (t:=t) (by omega) h0 hl;rw[w1,X0];revert hr w2;cases qWord t i with
 |bad j=>
  rintro hr ⟨a1,a2,a3⟩;have fin:Rl t i (.err j) (some (([]:List Y2),(⟨t,j,true⟩:Y1))):=⟨_,j,true,rfl,by omega,a2,by simp;omega,rfl,rfl⟩;rcases a3 with⟨op,rfl⟩|⟨op,b1,rfl,b3⟩
  ·exact fin
  ·rw[aw_op b1,want9 (by omega) (by omega),if_neg b3,X0];exact fin
 |ok op j=>
  rintro hr ⟨a1,a2,a3⟩;rcases a3 with⟨rfl,rfl,a4⟩|⟨b1,b2,rfl,b4⟩
  ·show Rl t i (if(1:Int)=1 then _ else _) _;rw[if_pos rfl];rcases a4 with rfl|⟨rfl,a5⟩
   ·rw[aw_var,awV_ok h0 hin (by omega) hl];exact⟨_,i+1,false,rfl,by omega,a2,by simp;omega,rfl,by rw[if_neg (by decide)];simp[Y33,Tr.flat]⟩
   ·rw[aw_bad];exact⟨_,i+1,true,rfl,by omega,a2,by simp;omega,rfl,by rw[if_pos rfl];exact .inr a5⟩
  ·have hop1:op≠1:=by intro h;subst h;simp[opsW] at b1
   have hr':(if op=1 then Rr.ok [.node ⟨1,Y7 t i-97⟩ []] j else if op=12 then ofLf (qSum t j) else(rd t k (.E 1 j)).bind fun l j=>if op=13 then rd t k (.M l 0 0 0 j) else if Y4y op=2 then(if Y7 t j=44 then(rd t k (.E 1 (j+1))).bind fun l2 j=>Y0k t op (l++l2) j else .err j) else Y0k t op l j)≠ .out:=hr;show Rl t i (if op=1 then Rr.ok [.node ⟨1,Y7 t i-97⟩ []] j else if op=12 then ofLf (qSum t j) else(rd t k (.E 1 j)).bind fun l j=>if op=13 then rd t k (.M l 0 0 0 j) else if Y4y op=2 then(if Y7 t j=44 then(rd t k (.E 1 (j+1))).bind fun l2 j=>Y0k t op (l++l2) j else .err j) else Y0k t op l j) _;rw[if_neg hop1] at hr'⊢;rw[aw_op hop1,want9 (by omega) (by omega),if_pos b4,X0,show j-1+1=j by omega,cond_false];exact ps_op hs S h0 (by omega) a2 b1 hr' (by omega)
theorem ps_a(hs:t.size≤40000){k:Nat}(S:PS t k)(i:Int)(m:Nat)(h0:0≤i)(his:i≤(t.size:Nat))(hr:rd t (k+1) (.A i)≠ .out)(hm:4*(t.size-i.toNat)+3≤m):Rl t i (rd t (k+1) (.A i)) (Y16 m ⟨t,i,false⟩):=by
 obtain⟨m,rfl⟩:∃q,m=q+3:=⟨m-3,by omega⟩;rw[show m+3=(m+2)+1 by omega,Y16];unfold Y4a Y5x Y5w;rw[peek9 h0,X0,X0,isdig9,X0,X0,X0,islet9];rw[rd] at hr⊢
 by_cases hd:48≤Y7 t i∧Y7 t i≤57
 ·rw[decide_eq_true hd,cond_true,if_pos hd];have⟨l,j,b,e1,e2⟩:=num9_rl (t:=t) (by omega) h0 his;rw[e1];exact⟨l,j,b,rfl,e2⟩
 rw[decide_eq_false hd,cond_false,if_neg hd];rw[if_neg hd] at hr
 by_cases hp:Y7 t i=40
 ·have hin:=Y1z (t:=t) (i:=i) (by omega);rw[if_pos hp] at hr⊢;rw[show(Y7 t i==40)=true by rw[beq_iff_eq];exact hp,cond_true];simp only;rw[Y2k (by omega)];have⟨l,j2,b,e1,e2,e3,e4,e5⟩:=S.e 1 (i+1) (m+2) (by omega) (by omega) (by omega) (by omega) (Y6f hr) (by omega);rw[show Y02 (m+2) ⟨t,i+1,false⟩ 1=_ from e1,X0];have hj:Y05 ⟨10,0⟩ [l]=some (⟨10,0⟩::[l].flatten):=joined_ok (by simp) (fun k hk=>by
   simp only[Xm,Xr,or_false] at hk;rw[hk];omega)
  have ed:∀{X:Rr} {ys:List Tr},(b=false→[l].flatten=Y33 ys)→X=(if b=true then .err j2 else Y0k t 10 ys j2)→Rl t i X ((Y0e ⟨t,j2,b⟩ 41).bind fun x9=>(Y05 ⟨10,0⟩ [l]).bind fun x10=>some (x10,x9)):=fun h1 h2=>by
   have:=end9 hs (op:=10) h0 (show i≤j2 by omega) e3 (v:=[l]) (by simp) h1 (by simp;omega) h2;rw[hj,X0] at this;rw[hj];exact this
  cases hR:rd t k (.E 1 (i+1)) with
  |out=>exact absurd hR (Y6f hr)
  |err w=>
   rw[hR] at e5;obtain⟨rfl,rfl⟩:=e5;exact ed (ys:=[]) (fun h=>by cases h) rfl
  |ok ys w=>
   rw[hR] at e5;obtain⟨rfl,e6⟩:=e5;refine ed (ys:=ys) (fun h=> ?_) ?_
   ·subst h;rw[if_neg (by decide)] at e6;simp[e6]
   ·cases b with
    |true=>rw[if_pos rfl] at e6;exact stk_C e6
    |false=>rfl
 rw[if_neg hp] at hr⊢;rw[beqN hp,cond_false]
 by_cases hl:97≤Y7 t i∧Y7 t i≤122
 ·rw[decide_eq_true hl,X0t,cond_false,if_pos hl];rw[if_pos hl] at hr;have hin:=Y1z (t:=t) (i:=i) (by omega);exact ps_w hs S h0 hin hl hr (by omega)
 ·rw[decide_eq_false hl,Xu,cond_true,if_neg hl];exact⟨_,i,true,rfl,by omega,his,by simp,rfl,rfl⟩
theorem ps_all(hs:t.size≤40000):∀k,PS t k
 |0=>⟨fun _ _ _ _ _ _ _ h=>absurd rfl h,fun _ _ _ _ _ _ _ _ _ _ _ _ h=>absurd rfl h,fun _ _ _ _ h=>absurd rfl h,fun _ _ _ _ _ _ _ _ _ _ _ h=>absurd rfl h,fun _ _ _ _ _ _ _ _ _ _ _ _ _ _ _ _ _ _ _ _ _ _ h=>absurd rfl h⟩
 |k+1=>⟨ps_e hs (ps_all hs k),ps_l hs (ps_all hs k),ps_a hs (ps_all hs k),ps_m1 hs (ps_all hs k),ps_m2 hs (ps_all hs k)⟩
theorem parse9_rl(hs:t.size≤40000):Rl t 0 (rdF t) (Y51 ⟨t,0,false⟩ 1):=
 (ps_all hs _).e 1 0 1000000 (by omega) (by omega) (by omega) (by omega) (rdF_out t) (by omega)
theorem parse9_stop(hs:t.size≤40000){n:Int}(h:Stops t n):Y5y t=some ([],n,90):=by
 have⟨l,j,b,e1,e2,e3,e4,e5⟩:=parse9_rl hs;unfold Y5y;rw[e1,X0];rcases h with h|⟨ts,h,hn⟩
 ·rw[h] at e5;obtain⟨rfl,rfl⟩:=e5
  rfl
 ·rw[h] at e5;obtain⟨rfl,_⟩:=e5;simp only;rw[decide_eq_true (show n<(t.size:Int) from hn)];cases b<;>rfl
theorem parse9_read(hs:t.size≤40000){x:Tr}(h:rdF t= .ok [x] (t.size:Nat)):Y5y t=(Y44 x.flat).bind fun v=>cond (!v) (some ([],0,2)) (some (x.flat,((t.size:Nat):Int),0)):=by
 have⟨l,j,b,e1,e2,e3,e4,e5⟩:=parse9_rl hs;unfold Y5y;rw[e1,X0];rw[h] at e5;obtain⟨rfl,e6⟩:=e5;have hp:=(fr_nil (t:=t) (i:=(t.size:Nat)) (by omega)).2;cases b with
 |true=>rw[if_pos rfl,hp] at e6;unfold Stk at e6;omega
 |false=>
  rw[if_neg (by decide),Y5s] at e6;simp only[cond_false];rw[decide_eq_false (by omega),e6]
  rfl
end
section
open Go.Abs
variable {t:ByteArray} {i j:Int}
def Gd (x:Tr):Prop:=Y4c x.dep.toNat x
theorem Gd.of{d:Nat}{x:Tr}(h:Y4c d x):Gd x:=good_at d x h _ (by have:=dep_pos x;omega)
theorem Gd.node{n:Y2}{ks:List Tr}(ha:ar n=some ks.length)(hk:∀k∈ks,Gd k)(hm:∀(i:Nat) (k:Tr),ks[i]? =some k→adm n i (hd k.flat)=true):Gd (.node n ks):=by
 have hp:=dep_pos (.node n ks);refine Gd.of (d:=(Tr.node n ks).dep.toNat-1+1) ⟨ha,Y68.2 fun k hk'=>good_at _ k (hk k hk') _ ?_,hm⟩;have:=depL_mem ks 1 k hk';rw[Tr.dep];omega
theorem adm_any{n:Y2}{i:Nat}{m:Y2}(h1:¬(2≤n.Op∧n.Op≤5))(h2:n.Op≠12):adm n i m=true:=by rw[adm,if_neg h1,if_neg h2]
theorem Gd.leaf{n:Y2}(ha:ar n=some 0):Gd (.node n []):=Gd.node ha (fun k hk=>by cases hk) (fun i k hk=>by simp at hk)
theorem dg_rng:∀(k:Nat) (n d i:Int),0≤n→0≤(dg t k n d i).1∧(dg t k n d i).1+1≤(n+1)*10^k
 |0,n,d,i,h=>by rw[dg];simp;exact h
 |k+1,n,d,i,h=>by
  have hp:(1:Int)≤10^(k+1):=Int.pow_pos (by omega);rw[dg]
  split
  ·refine⟨h, ?_⟩
   calc n+1=(n+1)*1:=by omega
    _≤(n+1)*10^(k+1):=Int.mul_le_mul_of_nonneg_left hp (by omega)
  ·next hc=>
   have⟨h1,h2⟩:=dg_rng k (10*n+(Y7 t i-48)) (d+1) (i+1) (by omega);refine⟨h1,Int.le_trans h2 ?_⟩;have:(10*n+(Y7 t i-48)+1)*10^k≤(10*(n+1))*10^k:=Int.mul_le_mul_of_nonneg_right (by omega) (Int.le_of_lt (Int.pow_pos (by omega)));refine Int.le_trans this ?_;rw[Int.pow_succ,Int.mul_comm (10:Int) (n+1),Int.mul_assoc,Int.mul_comm (10:Int) (10^k)];exact Int.le_refl _
theorem num_gd{x:Tr}(h:qNum t i= .ok x j):Gd x∧isNum x:=by
 unfold qNum at h
 split at h
 ·cases h
 ·have⟨h1,h2⟩:=dg_rng (t:=t) 5 0 0 i (by omega);cases h;have:(dg t 5 0 0 i).1≤99999:=by
   have e:((0:Int)+1)*10^5=100000:=by decide
   rw[e] at h2;omega
  exact⟨Gd.leaf (by unfold ar;rw[if_pos rfl,if_pos ⟨h1,this⟩]),_,h1,this,rfl⟩
theorem numL_ar{n:Int}(h:2≤n∧n≤5){ks:List Tr}(hl:(ks.length:Int)=n+1)(hk:∀k∈ks,Gd k∧isNum k):Gd (.node ⟨12,n⟩ ks):=by
 refine Gd.node ?_ (fun k hk'=>(hk k hk').1) fun i k hk'=> ?_
 ·unfold ar;rw[if_neg (by simp only;omega),if_neg (by simp only;omega),if_neg (by simp only;omega),if_neg (by simp only;omega),if_pos rfl,if_pos h];congr 1;simp only;omega
 ·obtain⟨m,_,_,rfl⟩:=(hk k (X0m hk')).2
  rfl
theorem sum_gd{x:Tr}(h:qSum t i= .ok x j):Gd x∧x.op=12:=by
 have loop:∀(k:Nat) (l l':List Tr) (i j:Int),Y5q t k l i= .ok l' j→(∀y∈l,Gd y∧isNum y)→l.length+k≤5→(∀y∈l',Gd y∧isNum y)∧l'.length≤5:=by
  intro k
  induction k with
  |zero=>
   intro l l' i j h hl hk;rw[Y5q] at h;cases h;exact⟨hl,by omega⟩
  |succ k ih=>
   intro l l' i j h hl hk;rw[Y5q] at h
   split at h
   ·cases hn:qNum t (i+1) with
    |bad q=>rw[hn] at h;cases h
    |ok y q=>
     rw[hn] at h;exact ih (l++[y]) l' q j h (fun z hz=>by
      rcases Xw.1 hz with hz|hz
      ·exact hl z hz
      ·simp only[Xm,Xr,or_false] at hz;rw[hz];exact num_gd hn) (by simp;omega)
   ·cases h;exact⟨hl,by omega⟩
 unfold qSum at h;cases hn:qNum t i with
 |bad q=>rw[hn] at h;cases h
 |ok y q=>
  rw[hn] at h;replace h:((Y5q t 4 [y] q).bind fun l j=>qSumR t l j)= .ok x j:=h;cases hL:Y5q t 4 [y] q with
  |bad q2=>rw[hL] at h;cases h
  |ok l q2=>
   rw[hL] at h;have⟨a1,a2⟩:=loop 4 [y] l q q2 hL (fun z hz=>by
    simp only[Xm,Xr,or_false] at hz;rw[hz];exact num_gd hn) (by simp)
   replace h:qSumR t l q2= .ok x j:=h;rw[qSumR] at h
   split at h
   ·cases h
   ·next h2=>
    cases hw:Y5o t 59 q2 with
    |bad q3=>rw[hw] at h;cases h
    |ok _ q3=>
     rw[hw] at h;replace h:((qNum t q3).bind fun x j=>(Y5o t 41 j).bind fun _ j=>.ok (.node ⟨12,(l.length:Nat)⟩ (l++[x])) j)= .ok x j:=h;cases hn2:qNum t q3 with
     |bad q4=>rw[hn2] at h;cases h
     |ok z q4=>
      rw[hn2] at h;replace h:((Y5o t 41 q4).bind fun _ j=>.ok (.node ⟨12,(l.length:Nat)⟩ (l++[z])) j)=Lf.ok x j:=h;cases hw2:Y5o t 41 q4 with
      |bad q5=>rw[hw2] at h;cases h
      |ok _ q5=>
       rw[hw2] at h;cases h;exact⟨numL_ar (by omega) (by simp) (fun k hk=>by
        rcases Xw.1 hk with hk|hk
        ·exact a1 k hk
        ·simp only[Xm,Xr,or_false] at hk;rw[hk];exact num_gd hn2),rfl⟩
structure GS (t:ByteArray) (k:Nat):Prop where
 e:∀(p i:Int) (x:Tr) (j:Int),1≤p→p≤4→rd t k (.E p i)= .ok [x] j→Gd x∧p≤prec x.op
 l:∀(p:Int) (w:Tr) (j0:Int) (x:Tr) (j:Int),1≤p→p≤4→rd t k (.L p [w] j0)= .ok [x] j→Gd w→p≤prec w.op→(∀o,opOf (Y7 t j0)=some o→prec o≤prec w.op)→Gd x∧p≤prec x.op
 a:∀(i:Int) (x:Tr) (j:Int),rd t k (.A i)= .ok [x] j→Gd x∧prec x.op=4
 m:∀(ls:List Tr) (c r e j0:Int) (x:Tr) (j:Int),rd t k (.M ls c r e j0)= .ok [x] j→(∀y∈ls,Gd y)→0≤e→0≤r→r≤3→(c=0∧r=0∧e≤3∨1≤c∧c≤4∧e+1≤c)→(ls.length:Int)=c*r+e+1→Gd x∧prec x.op=4
theorem gd_snoc{ls:List Tr}{y:Tr}(h:∀z∈ls,Gd z)(hy:Gd y):∀z∈ls++[y],Gd z:=fun z hz=>by
 rcases Xw.1 hz with hz|hz
 ·exact h z hz
 ·simp only[Xm,Xr,or_false] at hz;rw[hz];exact hy
theorem gs_m{k:Nat}(S:GS t k)(ls:List Tr)(c r e j0:Int)(x:Tr)(j:Int)(h:rd t (k+1) (.M ls c r e j0)= .ok [x] j)(hg:∀y∈ls,Gd y)(he:0≤e)(hr:0≤r)(hr3:r≤3)(hc:c=0∧r=0∧e≤3∨1≤c∧c≤4∧e+1≤c)(hl:(ls.length:Int)=c*r+e+1):Gd x∧prec x.op=4:=by
 rw[rd] at h
 by_cases hA:Y7 t j0=44∧e+1<(if c=0 then 4 else c)
 ·rw[if_pos hA] at h;have⟨l1,j1,h1,h2⟩:=Y5m h;obtain⟨y,rfl⟩:=Y6d (Y66 _ (.E _ _) _ _ trivial h1);have⟨gy,_⟩:=S.e 1 _ y j1 (by omega) (by omega) h1;refine S.m _ _ _ _ _ x j h2 (gd_snoc hg gy) (by omega) hr hr3 ?_ (by simp;omega);have:=hA.2;rcases hc with hc|hc
  ·rw[if_pos hc.1] at this;exact .inl ⟨hc.1,hc.2.1,by omega⟩
  ·rw[Vn] at this;exact .inr ⟨hc.1,hc.2.1,by omega⟩
 ·rw[if_neg hA] at h
  by_cases hB:Y7 t j0=59∧(c=0∨e+1=c)∧r+1<4
  ·rw[if_pos hB] at h;have⟨l1,j1,h1,h2⟩:=Y5m h;obtain⟨y,rfl⟩:=Y6d (Y66 _ (.E _ _) _ _ trivial h1);have⟨gy,_⟩:=S.e 1 _ y j1 (by omega) (by omega) h1;refine S.m _ _ _ _ _ x j h2 (gd_snoc hg gy) (by omega) (by omega) (by omega) (.inr ⟨by omega,by omega,by omega⟩) ?_;rcases hc with⟨rfl,rfl,_⟩|hc
   ·simp at hl⊢;omega
   ·have ec:e+1=c:=by rcases hB.2.1 with h|h<;>omega
    rw[ec,Int.mul_add,Int.mul_one];simp;omega
  ·rw[if_neg hB] at h
   by_cases hC:Y7 t j0=41∧(c=0∨e+1=c)
   ·rw[if_pos hC] at h;cases h;have hR:∃C:Int,e+1=C∧1≤C∧C≤4∧(ls.length:Int)=(r+1)*C:=by
     rcases hc with⟨rfl,rfl,_⟩|hc
     ·exact⟨e+1,rfl,by omega,by omega,by simp at hl⊢;omega⟩
     ·have ec:e+1=c:=by rcases hC.2 with h|h<;>omega
      refine⟨c,ec,hc.1,hc.2.1, ?_⟩;rw[Int.add_mul,Int.one_mul,Int.mul_comm r c];omega
    obtain⟨C,rfl,c1,c4,hlen⟩:=hR;refine⟨Gd.node ?_ hg fun _ _ _=>adm_any (by simp only;omega) (by simp only;omega),rfl⟩;unfold ar;simp only;rw[Vn,Vn,Vn,Vn,Vn,if_pos trivial,Vp];congr 1;rw[show(8*(r+1)+(e+1))/8=r+1 by omega,show(8*(r+1)+(e+1))%8=e+1 by omega, ←hlen];omega
   ·rw[if_neg hC] at h;cases h
theorem close_gd{op:Int}{l:List Tr}{x:Tr}{j0:Int}(h:Y0k t op l j0= .ok [x] j)(ho:6≤op∧op≤11)(hg:∀y∈l,Gd y)(hl:l.length=if op≤8 then 2 else 1):Gd x∧prec x.op=4:=by
 unfold Y0k at h
 split at h
 ·cases h;refine⟨Gd.node ?_ hg fun _ _ _=>adm_any (by simp only;omega) (by simp only;omega), ?_⟩
  ·unfold ar;simp only;rw[Vn,Vn]
   by_cases h8:op≤8
   ·rw[if_pos h8] at hl;rw[Vp,if_pos trivial,hl]
   ·rw[if_neg h8] at hl;rw[Vn,Vp,if_pos trivial,hl]
  ·show prec op=4;unfold prec;rw[Vn,Vn,Vn,Vn]
 ·cases h
theorem gs_a{k:Nat}(S:GS t k)(i:Int)(x:Tr)(j:Int)(h:rd t (k+1) (.A i)= .ok [x] j):Gd x∧prec x.op=4:=by
 rw[rd] at h
 split at h
 ·cases hn:qNum t i with
  |bad q=>rw[hn] at h;cases h
  |ok y q=>
   rw[hn] at h;cases h;obtain⟨g,m,_,_,rfl⟩:=num_gd hn;exact⟨g,rfl⟩
 ·split at h
  ·have⟨l1,j1,h1,h2⟩:=Y5m h;obtain⟨y,rfl⟩:=Y6d (Y66 _ (.E _ _) _ _ trivial h1);have⟨gy,_⟩:=S.e 1 _ y j1 (by omega) (by omega) h1;exact close_gd h2 (by omega) (fun z hz=>by simp only[Xm,Xr,or_false] at hz;rw[hz];exact gy) rfl
  ·split at h
   ·next hl=>
    cases hw:qWord t i with
    |bad q=>rw[hw] at h;cases h
    |ok op q=>
     rw[hw] at h;replace h:(if op=1 then Rr.ok [.node ⟨1,Y7 t i-97⟩ []] q else if op=12 then ofLf (qSum t q) else(rd t k (.E 1 q)).bind fun l j=>if op=13 then rd t k (.M l 0 0 0 j) else if Y4y op=2 then(if Y7 t j=44 then(rd t k (.E 1 (j+1))).bind fun l2 j=>Y0k t op (l++l2) j else .err j) else Y0k t op l j)= .ok [x] j:=h;have hm:=qWord_mem hw
     split at h
     ·cases h;exact⟨Gd.leaf (by unfold ar;simp only;rw[Vn,if_pos trivial,Vp]),rfl⟩
     ·next h1n=>
      split at h
      ·next h12=>
       cases hs:qSum t q with
       |bad q2=>rw[hs] at h;cases h
       |ok y q2=>
        rw[hs] at h;cases h;have⟨g1,g2⟩:=sum_gd hs;exact⟨g1,by rw[g2];rfl⟩
      ·next h12=>
       have⟨l1,j1,e1,e2⟩:=Y5m h;obtain⟨y,rfl⟩:=Y6d (Y66 _ (.E _ _) _ _ trivial e1);have⟨gy,_⟩:=S.e 1 _ y j1 (by omega) (by omega) e1;have g1:∀z∈[y],Gd z:=fun z hz=>by simp only[Xm,Xr,or_false] at hz;rw[hz];exact gy
       split at e2
       ·exact S.m _ _ _ _ _ x j e2 g1 (by omega) (by omega) (by omega) (.inl ⟨rfl,rfl,by omega⟩) (by simp)
       ·next h13=>
        have hop:op=6∨op=7∨op=8∨op=9∨op=11:=by omega
        split at e2
        ·next hn=>
         split at e2
         ·have⟨l2,j2,e3,e4⟩:=Y5m e2;obtain⟨y2,rfl⟩:=Y6d (Y66 _ (.E _ _) _ _ trivial e3);have⟨gy2,_⟩:=S.e 1 _ y2 j2 (by omega) (by omega) e3;refine close_gd e4 (by omega) (gd_snoc g1 gy2) ?_;have:op≤8:=by
           rcases hop with rfl|rfl|rfl|rfl|rfl
           ·omega
           ·omega
           ·omega
           ·exact absurd hn (by decide)
           ·exact absurd hn (by decide)
          rw[if_pos this];rfl
         ·cases e2
        ·next hn=>
         refine close_gd e2 (by omega) g1 ?_;have:¬op≤8:=by
          rcases hop with rfl|rfl|rfl|rfl|rfl
          ·exact absurd rfl hn
          ·exact absurd rfl hn
          ·exact absurd rfl hn
          ·omega
          ·omega
         rw[if_neg this];rfl
   ·cases h
theorem gs_l{k:Nat}(S:GS t k)(p:Int)(w:Tr)(j0:Int)(x:Tr)(j:Int)(h1:1≤p)(h4:p≤4)(h:rd t (k+1) (.L p [w] j0)= .ok [x] j)(hw:Gd w)(hp:p≤prec w.op)(ho:∀o,opOf (Y7 t j0)=some o→prec o≤prec w.op):Gd x∧p≤prec x.op:=by
 rw[rd] at h;cases hop:opOf (Y7 t j0) with
 |none=>rw[hop] at h;cases h;exact⟨hw,hp⟩
 |some o=>
  rw[hop] at h;simp only at h
  split at h
  ·next hpo=>
   have⟨l1,j1,e1,e2⟩:=Y5m h;obtain⟨y,rfl⟩:=Y6d (Y66 _ (.E _ _) _ _ trivial e1);have hr:o=2∨o=3∨o=4∨o=5:=by
    unfold opOf at hop
    split at hop
    ·cases hop;omega
    ·split at hop
     ·cases hop;omega
     ·split at hop
      ·cases hop;omega
      ·split at hop
       ·cases hop;omega
       ·cases hop
   have p3:=opOf_prec hop;have p1:=(prec_one o).1;have⟨gy,py⟩:=S.e (prec o+1) _ y j1 (by omega) (by omega) e1;have nx:=rd_next e1;refine S.l p (.node ⟨o,0⟩ ([w]++[y])) j1 x j h1 h4 e2 ?_ hpo fun o' ho'=> ?_
   ·refine Gd.node ?_ (gd_snoc (fun z hz=>by simp only[Xm,Xr,or_false] at hz;rw[hz];exact hw) gy) fun i k hk=> ?_
    ·unfold ar;simp only;rw[Vn,Vn,Vp,if_pos trivial]
     rfl
    ·have a0:=ho o hop;unfold adm;simp only;rw[Vp,pr_eq,pr_eq]
     match i,hk with
     |0,hk=>
      cases hk;rw[if_pos rfl,hd_flat,decide_eq_true_eq];exact a0
     |1,hk=>
      cases hk;rw[Vn,hd_flat,decide_eq_true_eq];omega
     |n+2,hk=>simp at hk
   ·have:=nx o' ho';show prec o'≤prec o;omega
  ·cases h;exact⟨hw,hp⟩
theorem gs_e{k:Nat}(S:GS t k)(p i:Int)(x:Tr)(j:Int)(h1:1≤p)(h4:p≤4)(h:rd t (k+1) (.E p i)= .ok [x] j):Gd x∧p≤prec x.op:=by
 rw[rd] at h;have⟨l1,j1,e1,e2⟩:=Y5m h;obtain⟨w,rfl⟩:=Y6d (Y66 _ (.A _) _ _ trivial e1);have⟨gw,pw⟩:=S.a i w j1 e1;exact S.l p w j1 x j h1 h4 e2 gw (by omega) fun o _=>by have:=(prec_one o).2;omega
theorem gs_all(t:ByteArray):∀k,GS t k
 |0=>⟨fun _ _ _ _ _ _ h=>(by cases h),fun _ _ _ _ _ _ _ h=>(by cases h),fun _ _ _ h=>(by cases h),fun _ _ _ _ _ _ _ h=>(by cases h)⟩
 |k+1=>⟨gs_e (gs_all t k),gs_l (gs_all t k),gs_a (gs_all t k),gs_m (gs_all t k)⟩
theorem rdF_gd{x:Tr}(h:rdF t= .ok [x] j):Gd x:=((gs_all t _).e 1 0 x j (by omega) (by omega) h).1
end
open Go.Abs
end Go.Proofs.YtkgfbpbndmklnaaDoor
