/- Own work. -/
import Derived.Test.YtkgfbpbndmklnaaDoorQuC
set_option linter.unusedSimpArgs false
set_option linter.unusedVariables false
namespace Go.Proofs.YtkgfbpbndmklnaaDoor
section
open Go.Abs
variable {t:ByteArray} {i j:Int}
def Stk (b:Int):Prop:=(48≤b∧b≤57)∨(97≤b∧b≤122)
instance (b:Int):Decidable (Stk b):=inferInstanceAs (Decidable (_∨_))
theorem peek9{b:Bool}(h0:0≤i):Yn ⟨t,i,b⟩=some (Y7 t i):=by
 unfold Yn Y7;simp only
 by_cases h:i<(t.size:Int)
 ·rw[cd_pos h,Y1j ⟨h0,h⟩,if_pos h];rfl
 ·rw[Y69 h,if_neg h]
theorem want9_bad{b:Int}:Y0c ⟨t,i,true⟩ b=some ⟨t,i,true⟩:=rfl
theorem want9{b:Int}(h0:0≤i)(hs:i≤100000):Y0c ⟨t,i,false⟩ b=some (if Y7 t i=b then⟨t,i+1,false⟩ else⟨t,i,true⟩):=by
 unfold Y0c;simp only[Xy,cond_true];rw[peek9 h0,X2]
 by_cases h:Y7 t i=b
 ·rw[if_pos h,show(Y7 t i==b)=true by rw[beq_iff_eq];exact h,cond_true,Y49 (by omega)]
 ·rw[if_neg h,show(Y7 t i==b)=false by rw[beq_eq_false_iff_ne];exact h,cond_false]
def Rl (t:ByteArray) (i:Int) (x:Rr) (o:Option (List Y5×Y1)):Prop:=
 ∃(l:List Y5) (j:Int) (b:Bool),o=some (l,⟨t,j,b⟩)∧i≤j∧j≤(t.size:Nat)∧(l.length:Int)≤2*(j-i)+1∧
  match x with
  | .err n=>b=true∧n=j
  | .ok ts n=>n=j∧(if b=true then Stk (Y7 t j) else l=Y1a ts)
  | .out=>False
theorem isdig9(b:Int):(cond (decide ((48:Int)≤b)) (decide (b≤(57:Int))) false)=decide (48≤b∧b≤57):=by
 by_cases h:48≤b
 ·rw[decide_eq_true h,cond_true,X0w,decide_eq_true_eq,decide_eq_true_eq];omega
 ·rw[decide_eq_false h,cond_false,decide_eq_false (by omega)]
theorem islet9(b:Int):(cond (decide ((97:Int)≤b)) (decide (b≤(122:Int))) false)=decide (97≤b∧b≤122):=by
 by_cases h:97≤b
 ·rw[decide_eq_true h,cond_true,X0w,decide_eq_true_eq,decide_eq_true_eq];omega
 ·rw[decide_eq_false h,cond_false,decide_eq_false (by omega)]
def nm9B (t0:Y1):(Y1×Int→Option (List Y5×Y1))→Y1×Int→Option (List Y5×Y1):=fun loop s=>Y27 t0 loop s.1 s.2
theorem wrap2{c:Int}(h:0≤c∧c≤255):IntKind.wrap .i64 (IntKind.wrap .u8 c)=c:=by rw[wrap_u8' h,wrap_i64 (by omega)]
theorem num9_run(hs:t.size≤100000)(h0:0≤i):∀(k:Nat) (n d j:Int) (m:Nat),j=i+d→0≤d→d+(k:Int)=5→j≤(t.size:Nat)→(d=0→n=0)→(d=1→0≤n∧n≤9)→(2≤d→10≤n∧(n≤9999∨d=5)∧(d=5→10000≤n)∧n≤99999∧(d≤4→n≤9999)∧(d≤3→n≤999)∧(d≤2→n≤99)∧(3≤d→100≤n)∧(4≤d→1000≤n))→k+1≤m→
  iter (nm9B ⟨t,i,false⟩) m (⟨t,j,false⟩,n)=some ([⟨0,(dg t k n d j).1⟩],⟨t,(dg t k n d j).2.2,decide ((dg t k n d j).2.1=0∨48≤Y7 t (dg t k n d j).2.2∧Y7 t (dg t k n d j).2.2≤57)⟩):=by
 have fin:∀(n d j:Int) (loop:Y1×Int→Option (List Y5×Y1)),j=i+d→0≤d→¬((48≤Y7 t j∧Y7 t j≤57)∧(d=0∨0<n)∧n≤9999)→
   nm9B ⟨t,i,false⟩ loop (⟨t,j,false⟩,n)=some ([⟨0,n⟩],⟨t,j,decide (d=0∨48≤Y7 t j∧Y7 t j≤57)⟩):=fun n d j loop hj hd hc=>by
  unfold nm9B Y27 Y5i;simp only;rw[peek9 (by omega),X2,X2,isdig9];have e:(cond (cond (decide (48≤Y7 t j∧Y7 t j≤57)) (cond (j==i) true (decide ((0:Int)<n))) false) (decide (n≤(9999:Int))) false)=false:=by
   apply Bool.eq_false_iff.2;intro h;apply hc;have hji:(j==i)=decide (d=0):=by rw[X0w,beq_iff_eq,decide_eq_true_eq];omega
   rw[hji] at h
   by_cases h1:48≤Y7 t j∧Y7 t j≤57
   ·rw[decide_eq_true h1,cond_true] at h
    by_cases h2:d=0
    ·rw[decide_eq_true h2,cond_true,cond_true] at h;exact⟨h1,.inl h2,of_decide_eq_true h⟩
    ·rw[decide_eq_false h2,cond_false] at h
     by_cases h3:0<n
     ·rw[decide_eq_true h3,cond_true] at h;exact⟨h1,.inr h3,of_decide_eq_true h⟩
     ·rw[decide_eq_false h3,cond_false] at h;cases h
   ·rw[decide_eq_false h1,cond_false,cond_false] at h;cases h
  rw[e,cond_false]
  by_cases h2:d=0
  ·have hji:(j==i)=true:=by rw[beq_iff_eq];omega
   rw[hji,decide_eq_true (.inl h2)]
   rfl
  ·have hji:(j==i)=false:=by rw[beq_eq_false_iff_ne];omega
   rw[hji];simp only[cond_false,Xy,cond_true];rw[X2,X2,isdig9,show decide (d=0∨48≤Y7 t j∧Y7 t j≤57)=decide (48≤Y7 t j∧Y7 t j≤57) by
    rw[X0w,decide_eq_true_eq,decide_eq_true_eq];exact⟨fun h=>h.resolve_left h2,.inr⟩]
 intro k
 induction k with
 |zero=>
  intro n d j m hj hd hk hjs a0 a1 a2 hm;obtain⟨m,rfl⟩:∃q,m=q+1:=⟨m-1,by omega⟩;rw[Yv,dg];exact fin n d j _ hj hd (by have:=a2 (by omega);omega)
 |succ k ih=>
  intro n d j m hj hd hk hjs a0 a1 a2 hm;obtain⟨m,rfl⟩:∃q,m=q+1:=⟨m-1,by omega⟩;rw[Yv,dg]
  by_cases hc:Y7 t j<48∨57<Y7 t j∨(0<d∧n=0)
  ·rw[if_pos hc];exact fin n d j _ hj hd (by
    intro h;rcases hc with h1|h1|h1
    ·omega
    ·omega
    ·omega)
  ·rw[if_neg hc];have hin:=Y1q (t:=t) (i:=j) (by omega);have hn:0≤n∧n≤9999:=by
    have:d=0∨d=1∨2≤d:=by omega
    rcases this with h|h|h
    ·have:=a0 h;omega
    ·have:=a1 h;omega
    ·have:=a2 h;omega
   generalize hL:iter (nm9B ⟨t,i,false⟩) m=L;have nx:=ih (10*n+(Y7 t j-48)) (d+1) (j+1) m (by omega) (by omega) (by push_cast at hk;omega) (by omega) (by omega) (by intro h;have:=a0 (by omega);omega) (by
    intro h;have:d=1∨2≤d:=by omega
    rcases this with h|h
    ·have:=a1 h;omega
    ·have:=a2 h;push_cast at hk;omega) (by omega)
   rw[hL] at nx;unfold nm9B Y27 Y5i;simp only;rw[peek9 (by omega),X2,X2,isdig9,decide_eq_true (show 48≤Y7 t j∧Y7 t j≤57 by omega),cond_true];have e:(cond (j==i) true (decide ((0:Int)<n)))=true:=by
    by_cases h2:d=0
    ·rw[show(j==i)=true by rw[beq_iff_eq];omega];rfl
    ·rw[show(j==i)=false by rw[beq_eq_false_iff_ne];omega,cond_false,decide_eq_true_eq];omega
   rw[e,cond_true,decide_eq_true hn.2,cond_true,Y49 (by omega),X2,wrap2 (by omega),Y49 (by omega),Y49 (by omega)];exact nx
theorem num9(hs:t.size≤100000)(h0:0≤i)(hi:i≤(t.size:Nat)):Y1r ⟨t,i,false⟩=some ([⟨0,(dg t 5 0 0 i).1⟩],⟨t,(dg t 5 0 0 i).2.2,decide ((dg t 5 0 0 i).2.1=0∨48≤Y7 t (dg t 5 0 0 i).2.2∧Y7 t (dg t 5 0 0 i).2.2≤57)⟩):=
 num9_run hs h0 5 0 0 i 1000000 (by omega) (by omega) (by omega) hi (fun _=>rfl) (by omega) (by omega) (by omega)
theorem num9_rl(hs:t.size≤100000)(h0:0≤i)(hi:i≤(t.size:Nat)):Rl t i (ofLf (qNum t i)) (Y1r ⟨t,i,false⟩):=by
 have⟨d1,d2,d3,_⟩:=dg_LI (t:=t) (t':=t) 5 0 0 i h0 hi (by omega);refine⟨_,_,_,num9 hs h0 hi,by omega,d3,by simp only[Xa,Xi];push_cast;omega, ?_⟩;unfold qNum
 by_cases h:(dg t 5 0 0 i).2.1=0
 ·rw[if_pos h];exact⟨decide_eq_true (.inl h),rfl⟩
 ·rw[if_neg h];refine⟨rfl, ?_⟩
  split
  ·next hb=>exact .inl ((of_decide_eq_true hb).resolve_left h)
  ·simp[Y1a,Tr.flat]
def tt9B:(Y1×List (List Y5)→Option (List Y5×Y1))→Y1×List (List Y5)→Option (List Y5×Y1):=fun loop s=>Y1b loop s.1 s.2
abbrev shut (x:List Y5×Y1):Option (List Y5×Y1):=Y0k x.2 x.1
theorem shut_bad{l:List Y5}:shut (l,⟨t,j,true⟩)=some (l,⟨t,j,true⟩):=rfl
theorem shut_ok{l:List Y5}(h0:0≤j)(hs:j≤100000):shut (l,⟨t,j,false⟩)=some (l,if Y7 t j=41 then⟨t,j+1,false⟩ else⟨t,j,true⟩):=by
 unfold shut Y0k;rw[want9 h0 hs,X2]
theorem tt9_k1{v:List (List Y5)}{w:List (List Y5)}{p:Y1}(h1:w.length≤16)(h2:∀k∈w,k.length≤100000):Y2e v p w=some (⟨12,(v.length:Int)⟩::w.flatten,p):=by
 unfold Y2e;rw[joined_ok h1 h2,X2]
theorem tt9_bad{loop:Y1×List (List Y5)→Option (List Y5×Y1)}{v:List (List Y5)}(h1:v.length≤16)(h2:∀k∈v,k.length≤100000):tt9B loop (⟨t,j,true⟩,v)=some (⟨12,(v.length:Int)⟩::v.flatten,⟨t,j,true⟩):=by
 unfold tt9B Y1b;simp only[X0z,Bool.false_and,cond_false,X2];rw[want9_bad,X2];simp only[X0z,cond_false];exact tt9_k1 h1 h2
theorem sum_stuck{l:List Tr}(h2:2≤l.length)(hp:48≤Y7 t j∧Y7 t j≤57):∀k:Nat,((Y4b t k l j).bind fun l j=>qSumR t l j)= .bad j:=fun k=>by
 have e:Y4b t k l j= .ok l j:=by
  cases k with
  |zero=>rfl
  |succ k=>rw[Y4b,Vn]
 rw[e,Lf.bind,qSumR,Vn,Y4t,Vn]
 rfl
def ones (l:List Tr):Prop:=∀T∈l,T.flat.length=1
theorem ones_len{l:List Tr}(h:ones l):(l.map Tr.flat).flatten.length=l.length:=by
 induction l with
 |nil=>rfl
 |cons x l ih=>
  rw[Xs,X0q,X4,h x (by simp),ih fun T hT=>h T (by simp[hT])];simp;omega
theorem ones_mem{l:List Tr}(h:ones l):∀k∈l.map Tr.flat,k.length≤100000:=fun k hk=>by
 obtain⟨T,hT,rfl⟩:=X06.1 hk;rw[h T hT];omega
theorem tt9_run(hs:t.size≤90000){i0:Int}:∀(k:Nat) (l:List Tr) (j:Int) (m:Nat),ones l→1≤l.length→l.length+k=5→0≤i0→(l.length:Int)≤j-i0→j≤(t.size:Nat)→k+2≤m→
  Rl t i0 (ofLf ((Y4b t k l j).bind fun l j=>qSumR t l j)) ((iter tt9B m (⟨t,j,false⟩,l.map Tr.flat)).bind shut):=by
 have bad:∀(l:List Tr) (j:Int) (w:List (List Y5)) (o:Option (List Y5×Y1)),w.length≤16→w.flatten.length≤w.length→(w.length:Int)≤j-i0+1→0≤i0→i0<j→j≤(t.size:Nat)→(∃n,o=some (n::w.flatten,⟨t,j,true⟩))→Rl t i0 (.err j) (o.bind shut):=fun l j w o h1 h2 h3 h0 h4 h5 ⟨n,h⟩=>by
  rw[h];exact⟨_,j,true,rfl,by omega,h5,by simp only[Xa];push_cast;omega,rfl,rfl⟩
 have fin:∀(k:Nat) (l:List Tr) (j:Int) (loop:Y1×List (List Y5)→Option (List Y5×Y1)),ones l→2≤l.length→l.length≤5→0≤i0→(l.length:Int)≤j-i0→j≤(t.size:Nat)→(l.length=5∨Y7 t j≠44)→
   Rl t i0 (ofLf (qSumR t l j)) ((tt9B loop (⟨t,j,false⟩,l.map Tr.flat)).bind shut):=fun k l j loop ho h2 h5 h0 hj hjs hc=>by
  unfold tt9B Y1b;simp only;have hlm:(l.map Tr.flat).length=l.length:=Xr _;have ol:=ones_len ho;have om:=ones_mem ho;have e:((cond (((!false)&&(!(decide (((l.map Tr.flat).length:Int)<(2:Int)))))&&(decide (((l.map Tr.flat).length:Int)<(5:Int)))) (Yn ⟨t,j,false⟩) (some (0:Int))).bind fun x5=>some (cond (decide (((l.map Tr.flat).length:Int)<(2:Int))) true (cond (decide (((l.map Tr.flat).length:Int)<(5:Int))) (x5==(44:Int)) false)))=some false:=by
   rw[hlm,decide_eq_false (show ¬(l.length:Int)<2 by omega)]
   by_cases h5':l.length=5
   ·rw[decide_eq_false (show ¬(l.length:Int)<5 by omega)];rfl
   ·rw[decide_eq_true (show(l.length:Int)<5 by omega)];simp only[Xy,Bool.and_self,cond_true,cond_false];rw[peek9 (by omega),X2,show(Y7 t j==44)=false by rw[beq_eq_false_iff_ne];exact hc.resolve_left h5']
  have⟨x5,ex,ey⟩:∃x5,(cond (((!false)&&(!(decide (((l.map Tr.flat).length:Int)<(2:Int)))))&&(decide (((l.map Tr.flat).length:Int)<(5:Int)))) (Yn ⟨t,j,false⟩) (some (0:Int)))=some x5∧(cond (decide (((l.map Tr.flat).length:Int)<(2:Int))) true (cond (decide (((l.map Tr.flat).length:Int)<(5:Int))) (x5==(44:Int)) false))=false:=by
   cases hx:(cond (((!false)&&(!(decide (((l.map Tr.flat).length:Int)<(2:Int)))))&&(decide (((l.map Tr.flat).length:Int)<(5:Int)))) (Yn ⟨t,j,false⟩) (some (0:Int))) with
   |none=>rw[hx] at e;cases e
   |some x5=>rw[hx] at e;exact⟨x5,rfl,X6 e⟩
  rw[ex,X2,ey];simp only[Xy,cond_true,cond_false];rw[want9 (by omega) (by omega),X2,qSumR,Vn,Y4t]
  by_cases hp:Y7 t j=59
  ·rw[if_pos hp,if_pos hp];have hin:=Y1q (t:=t) (i:=j) (by omega);simp only[Xy,cond_true];have⟨d1,d2,d3,_⟩:=dg_LI (t:=t) (t':=t) 5 0 0 (j+1) (by omega) (by omega) (by omega);rw[num9 (by omega) (by omega) (by omega),X2,Y1j (by unfold room;omega)];rw[tt9_k1 (by rw[X4,hlm];simp only[Xa,Xi];omega) (fun k hk=>by
    rcases X01.1 hk with hk|hk
    ·exact om k hk
    ·simp only[Xt,Xw,or_false] at hk;rw[hk];simp)]
   rw[X2,Lf.bind,hlm];have fl:((l.map Tr.flat)++[[(⟨0,(dg t 5 0 0 (j+1)).1⟩:Y5)]]).flatten=Y1a (l++[.node ⟨0,(dg t 5 0 0 (j+1)).1⟩ []]):=by rw[Y2l];simp[Tr.flat,Y1a]
   have fll:((l.map Tr.flat)++[[(⟨0,(dg t 5 0 0 (j+1)).1⟩:Y5)]]).flatten.length=l.length+1:=by rw[X0i,X4,ol];rfl
   generalize hD:dg t 5 0 0 (j+1)=D at*;unfold qNum;rw[hD]
   by_cases hd:D.2.1=0
   ·rw[if_pos hd,decide_eq_true (.inl hd)];exact⟨_,D.2.2,true,rfl,by omega,by omega,by simp only[Xa,fll];push_cast;omega,rfl,rfl⟩
   ·rw[if_neg hd,Lf.bind,Y4t]
    by_cases hg:48≤Y7 t D.2.2∧Y7 t D.2.2≤57
    ·rw[decide_eq_true (.inr hg),Vn];exact⟨_,D.2.2,true,rfl,by omega,by omega,by simp only[Xa,fll];push_cast;omega,rfl,rfl⟩
    ·rw[decide_eq_false (by rintro(h|h);exact hd h;exact hg h),shut_ok (by omega) (by omega)]
     by_cases h41:Y7 t D.2.2=41
     ·have hin2:=Y1q (t:=t) (i:=D.2.2) (by omega);rw[if_pos h41,if_pos h41];exact⟨_,D.2.2+1,false,rfl,by omega,by omega,by simp only[Xa,fll];push_cast;omega,rfl,by rw[if_neg (by decide),fl];simp[Y1a,Tr.flat]⟩
     ·rw[if_neg h41,if_neg h41];exact⟨_,D.2.2,true,rfl,by omega,by omega,by simp only[Xa,fll];push_cast;omega,rfl,rfl⟩
  ·rw[if_neg hp,if_neg hp];simp only[X0z,cond_false];rw[tt9_k1 (by omega) om];exact bad l j (l.map Tr.flat) _ (by omega) (by omega) (by omega) h0 (by omega) hjs ⟨_,rfl⟩
 intro k
 induction k with
 |zero=>
  intro l j m ho h1 h5 h0 hj hjs hm;obtain⟨m,rfl⟩:∃q,m=q+1:=⟨m-1,by omega⟩;rw[Yv,Y4b,Lf.bind];exact fin 0 l j _ ho (by omega) (by omega) h0 hj hjs (.inl (by omega))
 |succ k ih=>
  intro l j m ho h1 h5 h0 hj hjs hm;obtain⟨m,rfl⟩:∃q,m=q+1:=⟨m-1,by omega⟩;have hlm:(l.map Tr.flat).length=l.length:=Xr _;have ol:=ones_len ho;have om:=ones_mem ho;rw[Yv,Y4b]
  by_cases hc:Y7 t j=44
  ·have hin:=Y1q (t:=t) (i:=j) (by omega);rw[if_pos hc];have⟨d1,d2,d3,_⟩:=dg_LI (t:=t) (t':=t) 5 0 0 (j+1) (by omega) (by omega) (by omega);have e:tt9B (iter tt9B m) (⟨t,j,false⟩,l.map Tr.flat)=iter tt9B m (⟨t,(dg t 5 0 0 (j+1)).2.2,decide ((dg t 5 0 0 (j+1)).2.1=0∨48≤Y7 t (dg t 5 0 0 (j+1)).2.2∧Y7 t (dg t 5 0 0 (j+1)).2.2≤57)⟩,(l++[Tr.node ⟨0,(dg t 5 0 0 (j+1)).1⟩ []]).map Tr.flat):=by
    generalize iter tt9B m=L;unfold tt9B Y1b;simp only;rw[hlm];have hx:∃x5,(cond (((!false)&&(!(decide ((l.length:Int)<(2:Int)))))&&(decide ((l.length:Int)<(5:Int)))) (Yn ⟨t,j,false⟩) (some (0:Int)))=some x5∧(cond (decide ((l.length:Int)<(2:Int))) true (cond (decide ((l.length:Int)<(5:Int))) (x5==(44:Int)) false))=true:=by
     rw[decide_eq_true (show(l.length:Int)<5 by omega)]
     by_cases h2:(l.length:Int)<2
     ·rw[decide_eq_true h2];exact⟨0,rfl,rfl⟩
     ·rw[decide_eq_false h2];simp only[Xy,Bool.and_self,cond_true,cond_false];rw[peek9 (by omega)];exact⟨_,rfl,by rw[beq_iff_eq];exact hc⟩
    have⟨x5,ex,ey⟩:=hx;rw[ex,X2,ey];simp only[Xy,cond_true];rw[want9 (by omega) (by omega),if_pos hc,X2];simp only[Xy,cond_true];rw[num9 (by omega) (by omega) (by omega),X2,Y1j (by unfold room;omega),X0c]
    rfl
   rw[e];have ho':ones (l++[Tr.node ⟨0,(dg t 5 0 0 (j+1)).1⟩ []]):=fun T hT=>by
    rcases X01.1 hT with hT|hT
    ·exact ho T hT
    ·simp only[Xt,Xw,or_false] at hT;rw[hT];rfl
   generalize hD:dg t 5 0 0 (j+1)=D at*;have badr:Rl t i0 (.err D.2.2) ((iter tt9B m (⟨t,D.2.2,true⟩,(l++[Tr.node ⟨0,D.1⟩ []]).map Tr.flat)).bind shut):=by
    obtain⟨m,rfl⟩:∃q,m=q+1:=⟨m-1,by omega⟩;have ll:(l++[Tr.node ⟨0,D.1⟩ []]).length=l.length+1:=by simp
    rw[Yv,tt9_bad (by rw[Xr,ll];omega) (ones_mem ho')];exact bad l _ ((l++[Tr.node ⟨0,D.1⟩ []]).map Tr.flat) _ (by rw[Xr,ll];omega) (by rw[ones_len ho',Xr];exact Xf _) (by rw[Xr,ll];push_cast;omega) h0 (by omega) (by omega) ⟨_,rfl⟩
   unfold qNum;rw[hD]
   by_cases hd:D.2.1=0
   ·rw[if_pos hd,decide_eq_true (.inl hd)];exact badr
   ·rw[if_neg hd]
    by_cases hg:48≤Y7 t D.2.2∧Y7 t D.2.2≤57
    ·rw[decide_eq_true (.inr hg)];show Rl t i0 (ofLf ((Y4b t k (l++[.node ⟨0,D.1⟩ []]) D.2.2).bind fun l j=>qSumR t l j)) _;rw[sum_stuck (by simp;omega) hg]
     exact badr
    ·rw[decide_eq_false (by rintro(h|h);exact hd h;exact hg h)];exact ih (l++[.node ⟨0,D.1⟩ []]) D.2.2 m ho' (by simp) (by simp;omega) h0 (by simp;omega) d3 (by omega)
  ·rw[if_neg hc,Lf.bind]
   by_cases h2:2≤l.length
   ·exact fin k l j _ ho h2 (by omega) h0 hj hjs (.inr hc)
   ·rw[qSumR,Vp];have e:tt9B (iter tt9B m) (⟨t,j,false⟩,l.map Tr.flat)=iter tt9B m (⟨t,j,true⟩,l.map Tr.flat):=by
     generalize iter tt9B m=L;unfold tt9B Y1b;simp only;rw[hlm,decide_eq_true (show(l.length:Int)<2 by omega)];simp only[X0z,Bool.and_false,Bool.false_and,cond_false,X2,Xy,cond_true];rw[want9 (by omega) (by omega),if_neg hc,X2]
     rfl
    obtain⟨m,rfl⟩:∃q,m=q+1:=⟨m-1,by omega⟩;rw[e,Yv,tt9_bad (by omega) om];exact bad l j (l.map Tr.flat) _ (by omega) (by omega) (by omega) h0 (by omega) hjs ⟨_,rfl⟩
theorem tt9_rl(hs:t.size≤90000){i0:Int}(h0:0≤i0)(hi:i0<i)(his:i≤(t.size:Nat)):Rl t i0 (ofLf (qSum t i)) ((Y39 ⟨t,i,false⟩).bind shut):=by
 have⟨d1,d2,d3,_⟩:=dg_LI (t:=t) (t':=t) 5 0 0 i (by omega) his (by omega);unfold Y39 qSum;rw[num9 (by omega) (by omega) his,X2];show Rl t i0 _ ((iter tt9B 1000000 _).bind shut);generalize hD:dg t 5 0 0 i=D at*;have badr:Rl t i0 (.err D.2.2) ((iter tt9B 1000000 (⟨t,D.2.2,true⟩,[[⟨0,D.1⟩]])).bind shut):=by
  rw[show(1000000:Nat)=999999+1 from rfl,Yv,tt9_bad (by simp) (by simp)];exact⟨_,D.2.2,true,rfl,by omega,by omega,by simp;omega,rfl,rfl⟩
 unfold qNum;rw[hD]
 by_cases hd:D.2.1=0
 ·rw[if_pos hd,decide_eq_true (.inl hd)];exact badr
 ·rw[if_neg hd,Lf.bind]
  by_cases hg:48≤Y7 t D.2.2∧Y7 t D.2.2≤57
  ·rw[decide_eq_true (.inr hg)];have e:((Y4b t 4 [Tr.node ⟨0,D.1⟩ []] D.2.2).bind fun l j=>qSumR t l j)= .bad D.2.2:=by
    rw[Y4b,Vn,Lf.bind,qSumR,if_pos (by simp)]
   rw[e];exact badr
  ·rw[decide_eq_false (by rintro(h|h);exact hd h;exact hg h)];exact tt9_run hs 4 [.node ⟨0,D.1⟩ []] D.2.2 1000000 (fun T hT=>by simp only[Xt,Xw,or_false] at hT;rw[hT];rfl) (by simp) (by simp) h0 (by simp;omega) d3 (by omega)
end
section
open Go.Abs
variable {t:ByteArray} {i j:Int}
def isL (b:Int):Prop:=97≤b∧b≤122
instance (b:Int):Decidable (isL b):=inferInstanceAs (Decidable (_∧_))
def fr (t:ByteArray) (i:Int):List UInt8:=t.data.toList.drop i.toNat
theorem fr_cons(h0:0≤i)(h:i<(t.size:Nat)):∃c,fr t i=c::fr t (i+1)∧Y7 t i=((c.toNat:Nat):Int):=by
 have hl:i.toNat<t.data.toList.length:=by rw[X04];show i.toNat<t.size;omega
 refine⟨t.data.toList[i.toNat], ?_, ?_⟩
 ·rw[fr,X07 hl,fr,show(i+1).toNat=i.toNat+1 by omega]
 ·rw[Y7,if_pos h,Y1n,X8,X1 hl,Xq]
theorem fr_nil(h:¬i<(t.size:Nat)):fr t i=[]∧Y7 t i=0:=by
 refine⟨X0j ?_,by rw[Y7,if_neg h]⟩;rw[X04];show t.size≤i.toNat;omega
def cpl:List UInt8→List UInt8→Nat
 |x::a,y::b=>if x=y then cpl a b+1 else 0
 |[],_=>0
 |_::_,[]=>0
theorem cpl_le:∀a b:List UInt8,cpl a b≤a.length∧cpl a b≤b.length
 |[],b=>by simp[cpl]
 |x::a,[]=>by simp[cpl]
 |x::a,y::b=>by
  have:=cpl_le a b;rw[cpl];split<;>simp<;>omega
theorem cpl_all:∀{a b:List UInt8},cpl a b=b.length→cpl a b=a.length→a=b
 |[],[],_,_=>rfl
 |[],y::b,h,_=>by simp[cpl] at h
 |x::a,[],_,h=>by simp[cpl] at h
 |x::a,y::b,h1,h2=>by
  rw[cpl] at h1 h2
  split at h1
  ·next e=>
   rw[if_pos e] at h2;have:=cpl_all (a:=a) (b:=b) (by simpa using h1) (by simpa using h2);rw[e,this]
  ·simp at h1
theorem cpl_self:∀a:List UInt8,cpl a a=a.length
 |[]=>rfl
 |x::a=>by rw[cpl,if_pos rfl,cpl_self a];rfl
def cmB (a b:List UInt8):(Int→Option Int)→Int→Option Int:=fun loop s=>Y4f (B a) (B b) loop s
theorem common_ok(a b:List UInt8)(ha:a.length≤100000):f_R09_common (B a) (B b)=some ((cpl a b:Nat):Int):=by
 unfold f_R09_common;have run:∀(x y:List UInt8) (k m:Nat),a.drop k=x→b.drop k=y→k≤a.length→k≤b.length→x.length+1≤m→iter (cmB a b) m (k:Int)=some (((k+cpl x y:Nat)):Int):=by
  intro x
  induction x with
  |nil=>
   intro y k m hx hy hka hkb hm;obtain⟨m,rfl⟩:∃q,m=q+1:=⟨m-1,by omega⟩;have:a.length≤k:=List.drop_eq_nil_iff.1 hx;rw[Yv];unfold cmB Y4f;rw[B_size,B_size,decide_eq_false (show ¬(k:Int)<(a.length:Nat) by omega)];simp only[cond_false];rw[Y1j (fun h=>by cases h),Y1j (fun h=>by cases h),cpl]
   rfl
  |cons c x ih=>
   intro y k m hx hy hka hkb hm;obtain⟨m,rfl⟩:∃q,m=q+1:=⟨m-1,by omega⟩;have hk:k<a.length:=by
    rcases Nat.lt_or_ge k a.length with h|h
    ·exact h
    ·rw[X0j h] at hx;cases hx
   have hc:a.getD k 0=c∧a.drop (k+1)=x:=by
    rw[X07 hk] at hx;cases hx;exact⟨by rw[X8,X1 hk];rfl,rfl⟩
   have nx:=fun(y:List UInt8) (h1:b.drop (k+1)=y) (h2:k+1≤b.length)=>ih y (k+1) m hc.2 h1 (by omega) h2 (by simp at hm;omega);rw[Yv];generalize iter (cmB a b) m=L at nx⊢;unfold cmB Y4f;rw[B_size,B_size,decide_eq_true (show(k:Int)<(a.length:Nat) by omega)];simp only[cond_true];cases y with
   |nil=>
    have:b.length≤k:=List.drop_eq_nil_iff.1 hy;rw[decide_eq_false (show ¬(k:Int)<(b.length:Nat) by omega)];simp only[cond_false];rw[Y1j (fun h=>by cases h),Y1j (fun h=>by cases h),cpl]
    rfl
   |cons d y=>
    have hkb':k<b.length:=by
     rcases Nat.lt_or_ge k b.length with h|h
     ·exact h
     ·rw[X0j h] at hy;cases hy
    have hd:b.getD k 0=d∧b.drop (k+1)=y:=by
     rw[X07 hkb'] at hy;cases hy;exact⟨by rw[X8,X1 hkb'];rfl,rfl⟩
    rw[decide_eq_true (show(k:Int)<(b.length:Nat) by omega)];simp only[cond_true];rw[Y1j (fun _=>⟨by omega,by omega⟩),Y1j (fun _=>⟨by omega,by omega⟩),B_at,B_at,hc.1,hd.1,cpl]
    by_cases e:c=d
    ·rw[e,beq_self_eq_true,cond_true,Y49 (by omega),if_pos rfl];have:=nx y hd.2 (by omega);rw[show((k+1:Nat):Int)=(k:Int)+1 by push_cast;rfl] at this;rw[this,show k+1+cpl x y=k+(cpl x y+1) by omega]
    ·have:((((c.toNat:Nat):Int))==((d.toNat:Nat):Int))=false:=by
      rw[beq_eq_false_iff_ne];intro h;exact e (UInt8.toNat_inj.1 (by omega))
     rw[this,cond_false,if_neg e]
     rfl
 have:=run a b 0 1000000 rfl rfl (by omega) (by omega) (by omega);rw[X08] at this;exact this
theorem qName_cpl{n:ByteArray}(hz:∀c∈n.data.toList,c.toNat≠0):∀(k:Nat) (i:Int),0≤i→k≤n.size→qName t n k i=if cpl (fr t i) (n.data.toList.drop (n.size-k))=k then .ok () (i+(k:Nat)) else .bad (i+((cpl (fr t i) (n.data.toList.drop (n.size-k)):Nat):Int))
 |0,i,h0,hk=>by
  have e:n.data.toList.drop (n.size-0)=[]:=X0j (by rw[X04];exact Xf _);rw[e];have:cpl (fr t i) []=0:=by cases fr t i<;>rfl
  rw[this,if_pos rfl,qName];simp
 |k+1,i,h0,hk=>by
  have hl:n.size-(k+1)<n.data.toList.length:=by rw[X04];exact(by have:n.data.size=n.size:=rfl;omega)
  rw[X07 hl,show n.size-(k+1)+1=n.size-k by omega];have e1:Y1n n ((n.size-(k+1):Nat):Int)=((n.data.toList[n.size-(k+1)].toNat:Nat):Int):=by
   rw[Y1n,X02,X8,X1 hl,Xq]
  have hne:=hz n.data.toList[n.size-(k+1)] (List.getElem_mem hl);generalize n.data.toList[n.size-(k+1)]=c at e1 hne⊢;rw[qName,e1]
  by_cases hi:i<(t.size:Nat)
  ·have⟨d,h1,h2⟩:=fr_cons h0 hi;rw[h1,cpl,Y4t,h2]
   by_cases e:d=c
   ·rw[e,if_pos rfl,if_pos rfl,Lf.bind,qName_cpl hz k (i+1) (by omega) (by omega)]
    by_cases ec:cpl (fr t (i+1)) (n.data.toList.drop (n.size-k))=k
    ·rw[if_pos ec,Vp];congr 1;push_cast;omega
    ·rw[if_neg ec,Vn];congr 1;push_cast;omega
   ·rw[if_neg (by intro h;exact e (UInt8.toNat_inj.1 (by omega))),if_neg e,Vn];simp[Lf.bind]
  ·have⟨h1,h2⟩:=fr_nil hi;rw[h1,cpl,Y4t,h2,Vn,Vn];simp[Lf.bind]
def wdB (t:ByteArray) (i e:Int) (x:List ByteArray×List Int):(Y1×Int×Int→Option (Int×Y1))→Y1×Int×Int→Option (Int×Y1):=fun loop s=>Y2p ⟨t,i,false⟩ e x loop s.1 s.2.1 s.2.2
def wdE (t:ByteArray) (i e:Int):Option (Int×Y1):=
 cond (cond (cond (e==i+1) (decide (e<(t.size:Int))) false) true (cond (e==(t.size:Int)) (e==i+1) false)) (some (1,⟨t,i,false⟩)) (
  G (0≤e∧e≤(t.size:Int))<|G (0≤i∧i≤(e.toNat:Int))<|(f_R09_names).bind fun x=>iter (wdB t i e x) 1000000 (⟨t,i,false⟩,1,0))
def wd2B:(Y1×Int→Option (Int×Y1))→Y1×Int→Option (Int×Y1):=fun loop s=>Y2o loop s.1 s.2
theorem word_end(hs:t.size≤90000)(h0:0≤i)(hi:isL (Y7 t i)):∃e:Int,i<e∧e≤(t.size:Nat)∧(∀q,i≤q→q<e→isL (Y7 t q))∧¬isL (Y7 t e)∧Y3i ⟨t,i,false⟩=wdE t i e:=by
 have hin:=Y1q (t:=t) (i:=i) (by unfold isL at hi;omega);have run:∀(n m:Nat) (v:Int),v+n=(t.size:Nat)→i≤v→n+1≤m→(∀q,i≤q→q<v→isL (Y7 t q))→∃e:Int,v≤e∧e≤(t.size:Nat)∧(∀q,i≤q→q<e→isL (Y7 t q))∧¬isL (Y7 t e)∧iter wd2B m (⟨t,i,false⟩,v)=wdE t i e:=by
  have fin:∀(v:Int) (loop:Y1×Int→Option (Int×Y1)),i≤v→v≤(t.size:Nat)→¬isL (Y7 t v)→wd2B loop (⟨t,i,false⟩,v)=wdE t i v:=fun v loop h1 h2 h3=>by
   unfold wd2B Y2o Y5h;simp only;rw[Y1j (fun h=>⟨by omega,of_decide_eq_true h⟩)]
   by_cases hv:v<(t.size:Int)
   ·have e:Y7 t v=bAt t v:=by rw[Y7,if_pos hv];rfl
    rw[decide_eq_true hv,cond_true,X2,islet9, ←e];rw[show decide (97≤Y7 t v∧Y7 t v≤122)=false from decide_eq_false h3,cond_true,cond_false,Y49 (by omega)];unfold wdE;rw[decide_eq_true hv]
    rfl
   ·rw[decide_eq_false hv,cond_false,X2,cond_false,cond_false,Y49 (by omega)];unfold wdE;rw[decide_eq_false hv]
    rfl
  intro n
  induction n with
  |zero=>
   intro m v hv hiv hm hq;obtain⟨m,rfl⟩:∃q,m=q+1:=⟨m-1,by omega⟩;have hp:=(fr_nil (t:=t) (i:=v) (by omega)).2;have hn:¬isL (Y7 t v):=by rw[hp];unfold isL;omega
   exact⟨v,by omega,by omega,hq,hn,by rw[Yv];exact fin v _ hiv (by omega) hn⟩
  |succ n ih=>
   intro m v hv hiv hm hq;obtain⟨m,rfl⟩:∃q,m=q+1:=⟨m-1,by omega⟩
   by_cases hl:isL (Y7 t v)
   ·have⟨e,e1,e2,e3,e4,e5⟩:=ih m (v+1) (by push_cast at hv;omega) (by omega) (by omega) (fun q h1 h2=>by
     by_cases hqv:q=v
     ·rw[hqv];exact hl
     ·exact hq q h1 (by omega))
    refine⟨e,by omega,e2,e3,e4, ?_⟩;rw[←e5,Yv];generalize iter wd2B m=L;unfold wd2B Y2o Y5h;simp only;have hvs:v<(t.size:Int):=by push_cast at hv;omega
    have ep:Y7 t v=bAt t v:=by rw[Y7,if_pos hvs];rfl
    rw[Y1j (fun h=>⟨by omega,of_decide_eq_true h⟩),decide_eq_true hvs,cond_true,X2,islet9, ←ep];rw[show decide (97≤Y7 t v∧Y7 t v≤122)=true from decide_eq_true hl,cond_true,cond_true,Y49 (by omega)]
   ·exact⟨v,by omega,by push_cast at hv;omega,hq,hl,by rw[Yv];exact fin v _ hiv (by push_cast at hv;omega) hl⟩
 have⟨e,e1,e2,e3,e4,e5⟩:=run (t.size-i.toNat) 1000000 i (by omega) (by omega) (by omega) (fun q h1 h2=>by omega);refine⟨e, ?_,e2,e3,e4,e5⟩;rcases Int.lt_or_eq_of_le e1 with h|h
 ·exact h
 ·rw[←h] at e4;exact absurd hi e4
theorem cpl_take:∀(k:Nat) (l n:List UInt8),(∀c r,l.drop k=c::r→∀y∈n,c≠y)→cpl (l.take k) n=cpl l n
 |0,[],n,h=>rfl
 |0,c::r,[],h=>rfl
 |0,c::r,y::n,h=>by
  rw[List.take_zero,cpl,cpl,if_neg (h c r rfl y (by simp))]
 |k+1,[],n,h=>rfl
 |k+1,x::l,[],h=>rfl
 |k+1,x::l,y::n,h=>by
  rw[X0b,cpl,cpl,cpl_take k l n fun c r hc z hz=>h c r hc z (by simp[hz])]
def wl (t:ByteArray) (i e:Int) (u:List UInt8):List Int→Int→Int×Y1
 |[],f=>(1,⟨t,i+f,true⟩)
 |op::l,f=>if u=Y29 op then(op,⟨t,e,false⟩) else wl t i e u l (if((cpl u (Y29 op):Nat):Int)>f then((cpl u (Y29 op):Nat):Int) else f)
theorem wl_run{e:Int}{u:List UInt8}(hs:t.size≤90000)(h0:0≤i)(hie:i≤(t.size:Nat))(hul:u.length≤90000)(hu:t.extract i.toNat e.toNat=B u):∀(l2 l1:List Int) (f:Int) (m:Nat),opsW=l1++l2→l2.length+1≤m→0≤f→f≤90000→
  iter (wdB t i e (opsW.map Y0e,opsW)) m (⟨t,i,false⟩,f,(l1.length:Nat))=some (wl t i e u l2 f):=by
 intro l2
 induction l2 with
 |nil=>
  intro l1 f m hl hm hf hf2;obtain⟨m,rfl⟩:∃q,m=q+1:=⟨m-1,by omega⟩;have h7:l1.length=7:=by have:=congrArg List.length hl;simpa [opsW] using this.symm
  rw[Yv];unfold wdB Y2p;simp only;rw[Y69 (by rw[h7];decide),Y49 (by omega),wl]
 |cons op l2 ih=>
  intro l1 f m hl hm hf hf2;obtain⟨m,rfl⟩:∃q,m=q+1:=⟨m-1,by omega⟩;have h7:l1.length+l2.length=6:=by have:=congrArg List.length hl;simp[opsW] at this;omega
  have nx:=fun(f:Int) (h1:0≤f) (h2:f≤90000)=>ih (l1++[op]) f m (by rw[hl];simp) (by simp at hm;omega) h1 h2;rw[Yv];generalize iter (wdB t i e (opsW.map Y0e,opsW)) m=L at nx⊢;unfold wdB Y2p;simp only;have g1:(opsW.map Y0e).getD ((l1.length:Nat):Int).toNat ByteArray.empty=Y0e op:=by rw[hl,X02];simp[List.getD]
  have g2:opsW.getD ((l1.length:Nat):Int).toNat 0=op:=by rw[hl,X02];simp[List.getD]
  have hn7:(opsW.map Y0e).length=7:=rfl;have ho7:opsW.length=7:=rfl;rw[cd_pos (by rw[hn7];omega),Y1j (by rw[hn7];omega),g1,g2,hu,show Y0e op=B (Y29 op) from rfl,B_beq,wl]
  by_cases hc:u=Y29 op
  ·rw[cd_pos hc,if_pos hc,Y1j (by rw[ho7];omega)]
  ·rw[Y69 hc,if_neg hc,common_ok _ _ (by omega),X2,Y49 (by omega)];have cl:=cpl_le u (Y29 op);have:=nx (if((cpl u (Y29 op):Nat):Int)>f then((cpl u (Y29 op):Nat):Int) else f) (by split<;>omega) (by split<;>omega)
   rw[show((l1++[op]).length:Int)=(l1.length:Int)+1 by simp] at this;exact this
def Wd (t:ByteArray) (i:Int) (x:Lf Int) (o:Int×Y1):Prop:=
 match x with
 | .bad j=>i<j∧j≤(t.size:Nat)∧((∃op,o=(op,⟨t,j,true⟩))∨∃op,op≠1∧o=(op,⟨t,j,false⟩)∧Y7 t j≠40)
 | .ok op j=>i<j∧j≤(t.size:Nat)∧((op=1∧j=i+1∧(o=(1,⟨t,i,false⟩)∨(o=(1,⟨t,i+1,true⟩)∧isL (Y7 t (i+1)))))∨(op∈opsW∧i+3≤j∧o=(op,⟨t,j-1,false⟩)∧Y7 t (j-1)=40))
theorem name_ab:∀op∈opsW,∃a b r,Y29 op=a::b::r∧Y1n (Y0e op) 0=((a.toNat:Nat):Int)∧Y1n (Y0e op) 1=((b.toNat:Nat):Int):=by
 intro op ho;simp only[opsW,Xt,Xw,or_false] at ho;rcases ho with rfl|rfl|rfl|rfl|rfl|rfl|rfl<;>exact⟨_,_,_,rfl,rfl,rfl⟩
theorem name_let:∀op∈opsW,∀c∈Y29 op,97≤c.toNat∧c.toNat≤122:=by decide
theorem wl_none{e:Int}{u:List UInt8}:∀(l:List Int) (f:Int),0≤f→(∀op∈l,cpl u (Y29 op)=0∧u≠Y29 op)→wl t i e u l f=(1,⟨t,i+f,true⟩)
 |[],f,_,_=>rfl
 |op::l,f,h0,h=>by
  have⟨h1,h2⟩:=h op (by simp);rw[wl,if_neg h2,h1,Vn,wl_none l f h0 fun o ho=>h o (by simp[ho])]
theorem wl_rel{e:Int}{c0 c1:UInt8}{u' r:List UInt8}(hs:t.size≤90000)(h0:0≤i)(hf:fr t i=c0::c1::r)(hcp:∀op∈opsW,cpl (c0::c1::u') (Y29 op)=cpl (fr t i) (Y29 op))(he:e=i+((c0::c1::u').length:Nat))(hes:e≤(t.size:Nat))(hL:∀q,i≤q→q<e→isL (Y7 t q))(p0:Y7 t i=((c0.toNat:Nat):Int))(p1:Y1n t (i+1)=((c1.toNat:Nat):Int)):
  ∀l2:List Int,(∀op∈l2,op∈opsW)→l2.Pairwise (fun a b=>(Y29 a).head?≠(Y29 b).head?)→Wd t i (Y48 t l2 i) (wl t i e (c0::c1::u') l2 1)
 |[],_,_=>by
  rw[Y48,wl];simp only[Xa] at he;push_cast at he;exact⟨by omega,by omega,.inl ⟨rfl,rfl,.inr ⟨rfl,hL (i+1) (by omega) (by omega)⟩⟩⟩
 |op::l2,hm,hp=>by
  have ho:=hm op (by simp);have⟨a,b,nr,n1,n2,n3⟩:=name_ab op ho;have hc:=hcp op ho;have hlen:(c0::c1::u').length=u'.length+2:=rfl;have sz:(Y29 op).length=(Y0e op).size:=by rw[Y29,X04];rfl
  have h6:=nameL_len op;rw[Y48,wl]
  by_cases hA:c0=a∧c1=b
  ·rw[if_pos ⟨by rw[p0,n2,hA.1],by push_cast at he;omega,by rw[p1,n3,hA.2]⟩];have rest:∀f:Int,0≤f→wl t i e (c0::c1::u') l2 f=(1,⟨t,i+f,true⟩):=fun f hf0=>wl_none l2 f hf0 fun o hol=>by
    have:=(List.pairwise_cons.1 hp).1 o hol;have⟨a',b',nr',m1,_,_⟩:=name_ab o (hm o (by simp[hol]));rw[n1,m1] at this;have ne:c0≠a':=by intro h;apply this;simp[←h,hA.1]
    rw[m1];exact⟨by rw[cpl,if_neg ne],by intro h;simp at h;exact ne h.1⟩
   have qn:=qName_cpl (t:=t) (n:=Y0e op) (fun c hc=>by have:=name_let op ho c hc;omega) (Y0e op).size i h0 (Xf _);rw[Nat.sub_self,List.drop_zero,show(Y0e op).data.toList=Y29 op from rfl, ←hc] at qn;have cl:=cpl_le (c0::c1::u') (Y29 op);have c2:2≤cpl (c0::c1::u') (Y29 op):=by rw[n1,cpl,if_pos hA.1,cpl,if_pos hA.2];omega
   rw[qn]
   by_cases hall:cpl (c0::c1::u') (Y29 op)=(Y0e op).size
   ·rw[if_pos hall,Lf.bind,Y4t]
    by_cases heq:c0::c1::u'=Y29 op
    ·have hej:i+((Y0e op).size:Int)=e:=by rw[he,heq,sz]
     rw[if_pos heq,hej]
     by_cases h40:Y7 t e=40
     ·rw[if_pos h40,Lf.bind];have hin:=Y1q (t:=t) (i:=e) (by omega);exact⟨by omega,by omega,.inr ⟨ho,by rw[he,hlen];push_cast;omega,by rw[show e+1-1=e by omega],by rw[show e+1-1=e by omega];exact h40⟩⟩
     ·rw[if_neg h40,Lf.bind];exact⟨by push_cast at he;omega,hes,.inr ⟨op,by intro h;subst h;simp[opsW] at ho,rfl,h40⟩⟩
    ·have hlt:(Y29 op).length<(c0::c1::u').length:=by
      rcases Nat.lt_or_ge (Y29 op).length (c0::c1::u').length with h|h
      ·exact h
      ·exact absurd (cpl_all (by omega) (by omega)) heq
     have hlL:=hL (i+((Y0e op).size:Nat)) (by omega) (by rw[he];omega);unfold isL at hlL;rw[if_neg heq,rest _ (by split<;>omega),Vn,Lf.bind,Vp,hall]
     exact⟨by omega,by omega,.inl ⟨1,rfl⟩⟩
   ·have heq:c0::c1::u'≠Y29 op:=fun h=>hall (by rw[h,cpl_self,sz]);rw[if_neg hall,if_neg heq,rest _ (by split<;>omega),Lf.bind,Vp]
    exact⟨by omega,by omega,.inl ⟨1,rfl⟩⟩
  ·have heq:c0::c1::u'≠Y29 op:=fun h=>hA (by rw[n1] at h;simp at h;exact⟨h.1,h.2.1⟩);have c2:cpl (c0::c1::u') (Y29 op)≤1:=by
    rw[n1,cpl]
    split
    ·next h=>
     rw[cpl,if_neg (fun h2=>hA ⟨h,h2⟩)];omega
    ·omega
   rw[if_neg (fun h=>hA ⟨UInt8.toNat_inj.1 (by have:=h.1;omega),UInt8.toNat_inj.1 (by have:=h.2.2;omega)⟩),if_neg heq,Vn];exact wl_rel hs h0 hf hcp he hes hL p0 p1 l2 (fun o ho=>hm o (by simp[ho])) (List.pairwise_cons.1 hp).2
theorem letter9(h:¬isL (Y7 t (i+1))):∀l:List Int,(∀o∈l,o∈opsW)→Y48 t l i= .ok 1 (i+1)
 |[],_=>rfl
 |o::l,ho=>by
  have:=nameB_second o (ho o (by simp));rw[Y48,if_neg,letter9 h l fun o h=>ho o (by simp[h])];rintro⟨_,h2,h3⟩;have e:Y7 t (i+1)=Y1n t (i+1):=by rw[Y7,if_pos h2]
  unfold isL at h;omega
theorem word9(hs:t.size≤90000)(h0:0≤i)(hi:isL (Y7 t i)):∃o,Y3i ⟨t,i,false⟩=some o∧Wd t i (qWord t i) o:=by
 have⟨e,e1,e2,e3,e4,e5⟩:=word_end hs h0 hi;have hin:=Y1q (t:=t) (i:=i) (by unfold isL at hi;omega);rw[e5];unfold wdE
 by_cases h1:e=i+1
 ·subst h1;have c:(cond (cond (i+1==i+1) (decide (i+1<(t.size:Int))) false) true (cond (i+1==(t.size:Int)) (i+1==i+1) false))=true:=by
   rw[beq_self_eq_true,cond_true]
   by_cases h:i+1<(t.size:Int)
   ·rw[decide_eq_true h];rfl
   ·rw[decide_eq_false h,cond_false,show(i+1==(t.size:Int))=true by rw[beq_iff_eq];omega];rfl
  rw[c,cond_true];refine⟨_,rfl, ?_⟩;rw[qWord,letter9 e4 opsW fun o h=>h];exact⟨by omega,by omega,.inl ⟨rfl,rfl,.inl rfl⟩⟩
 ·have c:(cond (cond (e==i+1) (decide (e<(t.size:Int))) false) true (cond (e==(t.size:Int)) (e==i+1) false))=false:=by
   rw[show(e==i+1)=false by rw[beq_eq_false_iff_ne];exact h1];cases (e==(t.size:Int))<;>rfl
  have⟨c0,f0,p0⟩:=fr_cons (t:=t) h0 hin;have⟨c1,f1,p1⟩:=fr_cons (t:=t) (i:=i+1) (by omega) (by omega);have hu:t.extract i.toNat e.toNat=B ((fr t i).take (e.toNat-i.toNat)):=by
   have:=B_extract t.data.toList i.toNat e.toNat;rw[B_eta] at this;exact this
  have flen:(fr t i).length=t.size-i.toNat:=by rw[fr,X1i,X04];rfl
  have tk:(fr t i).take (e.toNat-i.toNat)=c0::c1::(fr t (i+1+1)).take (e.toNat-i.toNat-2):=by
   rw[f0,f1];have⟨q,hq⟩:∃q,e.toNat-i.toNat=q+2:=⟨e.toNat-i.toNat-2,by omega⟩;rw[hq];simp
  have hcp:∀op∈opsW,cpl ((fr t i).take (e.toNat-i.toNat)) (Y29 op)=cpl (fr t i) (Y29 op):=fun op ho=>by
   apply cpl_take;intro c r hc y hy hcy;have hd:(fr t i).drop (e.toNat-i.toNat)=fr t e:=by rw[fr,List.drop_drop,fr,show i.toNat+(e.toNat-i.toNat)=e.toNat by omega]
   rw[hd] at hc;have hes:e<(t.size:Nat):=by
    by_cases h:e<(t.size:Nat)
    ·exact h
    ·rw[(fr_nil h).1] at hc;cases hc
   have⟨d,g1,g2⟩:=fr_cons (t:=t) (i:=e) (by omega) hes;rw[g1] at hc;cases hc;have:=name_let op ho y hy;rw[←hcy] at this;apply e4;unfold isL;rw[g2];omega
  have hlen:((fr t i).take (e.toNat-i.toNat)).length=e.toNat-i.toNat:=by rw[X0k,flen];omega
  rw[c,cond_false,Y1j ⟨by omega,e2⟩,Y1j (by omega),show f_R09_names=some (opsW.map Y0e,opsW) from rfl,X2];refine⟨_,wl_run hs h0 (by omega) (by omega) hu opsW [] 1 1000000 rfl (by decide) (by omega) (by omega), ?_⟩;rw[tk] at hcp hlen⊢;rw[qWord];exact wl_rel hs h0 (by rw[f0,f1]) hcp (by rw[hlen];omega) e2 e3 p0 (by rw[Y7,Vp] at p1;exact p1) opsW (fun o h=>h) (by decide)
end
section
open Go.Abs
variable {t:ByteArray} {i j:Int}
abbrev exF:=Y03
abbrev lsF:=Y11
def exB (rc:Y1→Int→Option (List Y5×Y1)) (p:Int):(Y1×List Y5→Option (List Y5×Y1))→Y1×List Y5→Option (List Y5×Y1):=fun loop s=>Y08 rc p loop s.1 s.2
def lsB (rc:Y1→Int→Option (List Y5×Y1)) (lo hi:Int):(Y1×List (List Y5)→Option (List (List Y5)×Y1))→Y1×List (List Y5)→Option (List (List Y5)×Y1):=fun loop s=>Y0j rc lo hi loop s.1 s.2
def mxB (rc:Y1→Int→Int→Option (List (List Y5)×Y1)) (x1:List (List Y5)×Y1):(Y1×List (List Y5)×Int→Option (List Y5×Y1))→Y1×List (List Y5)×Int→Option (List Y5×Y1):=fun loop s=>Y19 rc x1 loop s.1 s.2.1 s.2.2
theorem stk_op{b:Int}(h:Stk b):opOf b=none:=by
 unfold Stk at h;unfold opOf;rw[Vn,Vn,Vn,Vn]
theorem stk_L{k:Nat}{p:Int}{l:List Tr}(h:Stk (Y7 t j)):rd t (k+1) (.L p l j)= .ok l j:=by rw[rd,stk_op h]
theorem stk_M{k:Nat}{l:List Tr}{c r e:Int}(h:Stk (Y7 t j)):rd t (k+1) (.M l c r e j)= .err j:=by
 unfold Stk at h;rw[rd,Vn,Vn,Vn]
theorem stk_C{op:Int}{l:List Tr}(h:Stk (Y7 t j)):Y16 t op l j= .err j:=by
 unfold Stk at h;rw[Y16,Vn]
theorem exB_bad{rc:Y1→Int→Option (List Y5×Y1)}{p:Int}{l:List Y5}{n:Nat}(hn:1≤n):iter (exB rc p) n (⟨t,j,true⟩,l)=some (l,⟨t,j,true⟩):=by
 obtain⟨n,rfl⟩:∃q,n=q+1:=⟨n-1,by omega⟩;rw[Yv];rfl
theorem lsB_bad{rc:Y1→Int→Option (List Y5×Y1)}{lo hi:Int}{v:List (List Y5)}{n:Nat}(hn:1≤n):iter (lsB rc lo hi) n (⟨t,j,true⟩,v)=some (v,⟨t,j,true⟩):=by
 obtain⟨n,rfl⟩:∃q,n=q+1:=⟨n-1,by omega⟩;rw[Yv];unfold lsB Y0j;simp only[X0z,Bool.false_and,cond_false,X2]
theorem mxB_end{rc:Y1→Int→Int→Option (List (List Y5)×Y1)}{x1:List (List Y5)×Y1}{v:List (List Y5)}{r:Int}{b:Bool}{n:Nat}(hn:1≤n)(h0:0≤j)(hb:b=true∨4≤r∨Y7 t j≠59)(hr:0≤r∧r≤4)(hc:x1.1.length≤4)(h1:v.length≤16)(h2:∀k∈v,k.length≤100000):
  iter (mxB rc x1) n (⟨t,j,b⟩,v,r)=some (⟨13,8*r+(x1.1.length:Nat)⟩::v.flatten,⟨t,j,b⟩):=by
 obtain⟨n,rfl⟩:∃q,n=q+1:=⟨n-1,by omega⟩;rw[Yv];generalize iter (mxB rc x1) n=L;unfold mxB Y19;simp only;have⟨x6,e1,e2⟩:∃x6,(cond (cond (!b) (decide (r<(4:Int))) false) (Yn ⟨t,j,b⟩) (some (0:Int)))=some x6∧(cond (cond (!b) (decide (r<(4:Int))) false) (x6==(59:Int)) false)=false:=by
  cases b with
  |true=>exact⟨0,rfl,rfl⟩
  |false=>
   simp only[Xy,cond_true]
   by_cases h:r<4
   ·rw[decide_eq_true h,cond_true,peek9 h0];exact⟨_,rfl,by rw[cond_true,beq_eq_false_iff_ne];rcases hb with h|h|h;cases h;omega;exact h⟩
   ·rw[decide_eq_false h];exact⟨0,rfl,rfl⟩
 rw[e1,X2,e2,cond_false,Y49 (by omega),Y49 (by omega),joined_ok h1 h2,X2]
theorem end9(hs:t.size≤40000){op:Int}{l:List Tr}{v:List (List Y5)}{b:Bool}(h0:0≤i)(hj:i≤j)(hjs:j≤(t.size:Nat))(h1:v.length≤16)(hv:b=false→v.flatten=Y1a l)(hl:(v.flatten.length:Int)≤2*(j-i)){X:Rr}(hX:X=if b=true then .err j else Y16 t op l j):
  Rl t i X ((Y1l ⟨op,0⟩ v).bind fun x=>shut (x,⟨t,j,b⟩)):=by
 have h2:∀k∈v,k.length≤100000:=fun k hk=>by
  have:k.length≤v.flatten.length:=(List.sublist_flatten_of_mem hk).length_le;omega
 rw[joined_ok h1 h2,X2,hX];cases b with
 |true=>exact⟨_,j,true,rfl,hj,hjs,by simp only[Xa];push_cast;omega,rfl,rfl⟩
 |false=>
  rw[shut_ok (by omega) (by omega),if_neg (by decide),Y16]
  by_cases h:Y7 t j=41
  ·have hin:=Y1q (t:=t) (i:=j) (by omega);rw[if_pos h,if_pos h];exact⟨_,j+1,false,rfl,by omega,by omega,by simp only[Xa];push_cast;omega,rfl,by rw[if_neg (by decide),hv rfl];simp[Y1a,Tr.flat]⟩
  ·rw[if_neg h,if_neg h];exact⟨_,j,true,rfl,hj,hjs,by simp only[Xa];push_cast;omega,rfl,rfl⟩
structure PS (t:ByteArray) (k:Nat):Prop where
 e:∀(p i:Int) (m:Nat),1≤p→p≤4→0≤i→i≤(t.size:Nat)→rd t k (.E p i)≠ .out→4*(t.size-i.toNat)+4≤m→Rl t i (rd t k (.E p i)) (exF m ⟨t,i,false⟩ p)
 l:∀(p i j:Int) (x:Tr) (m n:Nat),1≤p→p≤4→0≤i→i≤j→j≤(t.size:Nat)→(x.flat.length:Int)≤2*(j-i)+1→rd t k (.L p [x] j)≠ .out→4*(t.size-j.toNat)≤m→t.size-j.toNat+2≤n→Rl t i (rd t k (.L p [x] j)) (iter (exB (exF m) p) n (⟨t,j,false⟩,x.flat))
 a:∀(i:Int) (m:Nat),0≤i→i≤(t.size:Nat)→rd t k (.A i)≠ .out→4*(t.size-i.toNat)+3≤m→Rl t i (rd t k (.A i)) (Y12 m ⟨t,i,false⟩)
 m1:∀(i j:Int) (ls:List Tr) (q n:Nat),0≤i→i≤j→j≤(t.size:Nat)→1≤ls.length→ls.length≤4→((Y1a ls).length:Int)≤2*(j-i)→rd t k (.M ls 0 0 ((ls.length:Nat)-1) j)≠ .out→4*(t.size-j.toNat)≤q→6≤n+ls.length→
  Rl t i (rd t k (.M ls 0 0 ((ls.length:Nat)-1) j)) (((iter (lsB (exF q) 1 4) n (⟨t,j,false⟩,ls.map Tr.flat)).bind fun x1=>iter (mxB (lsF (q+1)) x1) 1000000 (x1.2,x1.1,1)).bind shut)
 m2:∀(i j:Int) (ps ls:List Tr) (c r:Nat) (x1:List (List Y5)×Y1) (q n n2:Nat),0≤i→i≤j→j≤(t.size:Nat)→x1.1.length=c→1≤c→c≤4→1≤r→r≤3→ps.length=c*r→1≤ls.length→ls.length≤c→((Y1a (ps++ls)).length:Int)≤2*(j-i)→rd t k (.M (ps++ls) c r ((ls.length:Nat)-1) j)≠ .out→4*(t.size-j.toNat)≤q→c+2≤n+ls.length→5≤n2+r→
  Rl t i (rd t k (.M (ps++ls) c r ((ls.length:Nat)-1) j)) (((iter (lsB (exF q) c c) n (⟨t,j,false⟩,ls.map Tr.flat)).bind fun x9=>G (room 24 ((ps.map Tr.flat).length+x9.1.length))<|G (inR ((r:Int)+1))<|iter (mxB (lsF (q+1)) x1) n2 (x9.2,ps.map Tr.flat++x9.1,(r:Int)+1)).bind shut)
theorem Y63{x:Rr}{K:List Tr→Int→Rr}(h:x.bind K≠ .out):x≠ .out:=by intro e;rw[e] at h;exact h rfl
theorem op9(b:Int):Y5y b=some (match opOf b with|some o=>o|none=> -1):=by
 unfold Y5y opOf
 by_cases h1:b=43
 ·rw[h1];rfl
 rw[show(b==43)=false by rw[beq_eq_false_iff_ne];exact h1,cond_false,if_neg h1]
 by_cases h2:b=45
 ·rw[h2];rfl
 rw[show(b==45)=false by rw[beq_eq_false_iff_ne];exact h2,cond_false,if_neg h2]
 by_cases h3:b=42
 ·rw[h3];rfl
 rw[show(b==42)=false by rw[beq_eq_false_iff_ne];exact h3,cond_false,if_neg h3]
 by_cases h4:b=61
 ·rw[h4];rfl
 rw[show(b==61)=false by rw[beq_eq_false_iff_ne];exact h4,cond_false,if_neg h4]
theorem op_rng{b o:Int}(h:opOf b=some o):(o=2∨o=3∨o=4∨o=5)∧b≠0:=by
 unfold opOf at h
 split at h
 ·cases h;omega
 ·split at h
  ·cases h;omega
  ·split at h
   ·cases h;omega
   ·split at h
    ·cases h;omega
    ·cases h
theorem prec9{o:Int}(h:o=2∨o=3∨o=4∨o=5):Y1u o=some (prec o):=by
 rcases h with rfl|rfl|rfl|rfl<;>rfl
theorem ps_l(hs:t.size≤40000){k:Nat}(S:PS t k)(p i j:Int)(x:Tr)(m n:Nat)(h1:1≤p)(h4:p≤4)(h0:0≤i)(hij:i≤j)(hjs:j≤(t.size:Nat))(hx:(x.flat.length:Int)≤2*(j-i)+1)(hr:rd t (k+1) (.L p [x] j)≠ .out)(hm:4*(t.size-j.toNat)≤m)(hn:t.size-j.toNat+2≤n):
  Rl t i (rd t (k+1) (.L p [x] j)) (iter (exB (exF m) p) n (⟨t,j,false⟩,x.flat)):=by
 obtain⟨n,rfl⟩:∃q,n=q+1:=⟨n-1,by omega⟩;rw[rd] at hr⊢;rw[Yv];have stop:Rl t i (.ok [x] j) (some (x.flat,(⟨t,j,false⟩:Y1))):=⟨_,j,false,rfl,hij,hjs,hx,rfl,by rw[if_neg (by decide)];simp[Y1a]⟩;cases ho:opOf (Y7 t j) with
 |none=>
  generalize iter (exB (exF m) p) n=L;unfold exB Y08;simp only[Xy,cond_true];rw[peek9 (by omega),X2,op9,ho,X2];exact stop
 |some o=>
  have⟨o1,o2⟩:=op_rng ho;have hin:=Y1q (t:=t) (i:=j) o2;have hpo:=opOf_prec ho;have hp1:=(prec_one o).1;rw[ho] at hr;simp only at hr⊢
  by_cases hp:p≤prec o
  ·rw[if_pos hp] at hr⊢;have E:=S.e (prec o+1) (j+1) m (by omega) (by omega) (by omega) (by omega) (Y63 hr) (by omega);have⟨l2,j2,b,e1,e2,e3,e4,e5⟩:=E;have step:exB (exF m) p (iter (exB (exF m) p) n) (⟨t,j,false⟩,x.flat)=iter (exB (exF m) p) n (⟨t,j2,b⟩,⟨o,0⟩::(x.flat++l2)):=by
    generalize iter (exB (exF m) p) n=L;unfold exB Y08;simp only[Xy,cond_true];rw[peek9 (by omega),X2,op9,ho,X2];simp only;rw[decide_eq_false (show ¬o<0 by omega),Xy,cond_true,prec9 o1,X2,decide_eq_false (show ¬prec o<p by omega)];simp only[cond_false];rw[Y49 (by omega),X2,Y49 (by omega),e1,X2,joined_ok (by simp) (by
     intro k hk;simp only[Xt,Xw,or_false] at hk;rcases hk with rfl|rfl<;>omega),X2]
    simp
   rw[step];cases hR:rd t k (.E (prec o+1) (j+1)) with
   |out=>rw[hR] at hr;exact absurd rfl hr
   |err q=>
    rw[hR] at e5;obtain⟨rfl,rfl⟩:=e5;rw[exB_bad (by omega)];exact⟨_,q,true,rfl,by omega,e3,by simp only[Xa,X4];push_cast;omega,rfl,rfl⟩
   |ok ys q=>
    rw[hR] at e5 hr;obtain⟨rfl,e6⟩:=e5;obtain⟨y,rfl⟩:=Y3u (Y47 _ (.E _ _) _ _ trivial hR);have hr':rd t k (.L p [.node ⟨o,0⟩ ([x]++[y])] q)≠ .out:=hr;show Rl t i (rd t k (.L p [.node ⟨o,0⟩ ([x]++[y])] q)) _;cases b with
    |true=>
     rw[if_pos rfl] at e6;obtain⟨k,rfl⟩:∃q,k=q+1:=by
      cases k with
      |zero=>exact absurd rfl hr'
      |succ k=>exact⟨k,rfl⟩
     rw[exB_bad (by omega),stk_L e6];exact⟨_,q,true,rfl,by omega,e3,by simp only[Xa,X4];push_cast;omega,rfl,by rw[if_pos rfl];exact e6⟩
    |false=>
     rw[if_neg (by decide)] at e6;have ef:(⟨o,0⟩:Y5)::(x.flat++l2)=(Tr.node ⟨o,0⟩ ([x]++[y])).flat:=by rw[e6];simp[Tr.flat,Y1a]
     have efl:=congrArg List.length ef;simp only[Xa,X4] at efl;rw[ef];exact S.l p i q _ m n h1 h4 h0 (by omega) e3 (by rw[←efl];push_cast;omega) hr' (by omega) (by omega)
  ·rw[if_neg hp];generalize iter (exB (exF m) p) n=L;unfold exB Y08;simp only[Xy,cond_true];rw[peek9 (by omega),X2,op9,ho,X2];simp only;rw[decide_eq_false (show ¬o<0 by omega),Xy,cond_true,prec9 o1,X2,decide_eq_true (show prec o<p by omega)];exact stop
theorem ps_e(hs:t.size≤40000){k:Nat}(S:PS t k)(p i:Int)(m:Nat)(h1:1≤p)(h4:p≤4)(h0:0≤i)(his:i≤(t.size:Nat))(hr:rd t (k+1) (.E p i)≠ .out)(hm:4*(t.size-i.toNat)+4≤m):Rl t i (rd t (k+1) (.E p i)) (exF m ⟨t,i,false⟩ p):=by
 obtain⟨m,rfl⟩:∃q,m=q+1:=⟨m-1,by omega⟩;rw[rd] at hr⊢;have⟨l,j,b,e1,e2,e3,e4,e5⟩:=S.a i m h0 his (Y63 hr) (by omega);have step:exF (m+1) ⟨t,i,false⟩ p=iter (exB (exF m) p) 1000000 (⟨t,j,b⟩,l):=by
  show Y1o _ _ _ _ _ _=_;unfold Y1o;rw[e1,X2]
  rfl
 rw[step];cases hR:rd t k (.A i) with
 |out=>rw[hR] at hr;exact absurd rfl hr
 |err q=>
  rw[hR] at e5;obtain⟨rfl,rfl⟩:=e5;rw[exB_bad (by omega)];exact⟨_,q,true,rfl,e2,e3,e4,rfl,rfl⟩
 |ok ys q=>
  rw[hR] at e5 hr;obtain⟨rfl,e6⟩:=e5;obtain⟨y,rfl⟩:=Y3u (Y47 _ (.A _) _ _ trivial hR);have hr':rd t k (.L p [y] q)≠ .out:=hr;show Rl t i (rd t k (.L p [y] q)) _;cases b with
  |true=>
   rw[if_pos rfl] at e6;obtain⟨k,rfl⟩:∃q,k=q+1:=by
    cases k with
    |zero=>exact absurd rfl hr'
    |succ k=>exact⟨k,rfl⟩
   rw[exB_bad (by omega),stk_L e6];exact⟨_,q,true,rfl,e2,e3,e4,rfl,by rw[if_pos rfl];exact e6⟩
  |false=>
   rw[if_neg (by decide)] at e6;have ef:l=y.flat:=by rw[e6];simp[Y1a]
   rw[ef] at e4⊢;exact S.l p i q y m 1000000 h1 h4 h0 e2 e3 e4 hr' (by omega) (by omega)
end
section
open Go.Abs
variable {t:ByteArray} {i j:Int}
theorem fl_small{v:List (List Y5)}(h:v.flatten.length≤100000):∀k∈v,k.length≤100000:=fun k hk=>by
 have:k.length≤v.flatten.length:=(List.sublist_flatten_of_mem hk).length_le;omega
theorem mx_fin(hs:t.size≤40000){rc:Y1→Int→Int→Option (List (List Y5)×Y1)}{x1:List (List Y5)×Y1}{l:List Tr}{v:List (List Y5)}{r:Int}{n:Nat}(hn:1≤n)(h0:0≤i)(hij:i≤j)(hjs:j≤(t.size:Nat))(hb:4≤r∨Y7 t j≠59)(hr:0≤r∧r≤4)(hc:x1.1.length≤4)(h1:v.length≤16)(hv:v.flatten=Y1a l)(hl:((Y1a l).length:Int)≤2*(j-i)):
  Rl t i (if Y7 t j=41 then .ok [.node ⟨13,8*r+(x1.1.length:Nat)⟩ l] (j+1) else .err j) ((iter (mxB rc x1) n (⟨t,j,false⟩,v,r)).bind shut):=by
 rw[mxB_end hn (by omega) (.inr hb) hr hc h1 (fl_small (by rw[hv];omega)),X2,shut_ok (by omega) (by omega),hv]
 by_cases h:Y7 t j=41
 ·have hin:=Y1q (t:=t) (i:=j) (by omega);rw[if_pos h,if_pos h];exact⟨_,j+1,false,rfl,by omega,by omega,by simp only[Xa];push_cast;omega,rfl,by rw[if_neg (by decide)];simp[Y1a,Tr.flat]⟩
 ·rw[if_neg h,if_neg h];exact⟨_,j,true,rfl,hij,hjs,by simp only[Xa];push_cast;omega,rfl,rfl⟩
theorem mx_bad(hs:t.size≤40000){rc:Y1→Int→Int→Option (List (List Y5)×Y1)}{x1:List (List Y5)×Y1}{v:List (List Y5)}{r:Int}{n:Nat}(hn:1≤n)(h0:0≤i)(hij:i≤j)(hjs:j≤(t.size:Nat))(hr:0≤r∧r≤4)(hc:x1.1.length≤4)(h1:v.length≤16)(hl:(v.flatten.length:Int)≤2*(j-i)):
  Rl t i (.err j) ((iter (mxB rc x1) n (⟨t,j,true⟩,v,r)).bind shut):=by
 rw[mxB_end hn (by omega) (.inl rfl) hr hc h1 (fl_small (by omega)),X2,shut_bad];exact⟨_,j,true,rfl,hij,hjs,by simp only[Xa];push_cast;omega,rfl,rfl⟩
section
variable {rc:Y1→Int→Option (List Y5×Y1)} {lo hi:Int} {v:List (List Y5)} {L:Y1×List (List Y5)→Option (List (List Y5)×Y1)}
theorem ls_comma(h0:0≤j)(hs:j≤90000)(hv:v.length≤20)(hp:Y7 t j=44)(h:(v.length:Int)<hi)(hlh:lo≤hi):lsB rc lo hi L (⟨t,j,false⟩,v)=(rc ⟨t,j+1,false⟩ 1).bind fun x9=>L (x9.2,v++[x9.1]):=by
 unfold lsB Y0j;simp only[Xy,X0v,cond_true];have⟨x5,e1,e2⟩:∃x5,(cond ((!(decide ((v.length:Int)<lo)))&&(decide ((v.length:Int)<hi))) (Yn ⟨t,j,false⟩) (some (0:Int)))=some x5∧(cond (decide ((v.length:Int)<lo)) true (cond (decide ((v.length:Int)<hi)) (x5==(44:Int)) false))=true:=by
  rw[decide_eq_true h]
  by_cases hl:(v.length:Int)<lo
  ·rw[decide_eq_true hl];exact⟨0,rfl,rfl⟩
  ·rw[decide_eq_false hl,Xy,X0v,cond_true,peek9 h0];exact⟨_,rfl,by rw[cond_false,cond_true,beq_iff_eq];exact hp⟩
 rw[e1,X2,e2,cond_true,want9 h0 (by omega),if_pos hp,X2];simp only[Xy,cond_true];congr 1;funext x9;rw[Y1j (by unfold room;omega)]
theorem ls_stop(h0:0≤j)(h:lo≤(v.length:Int))(hp:hi≤(v.length:Int)∨Y7 t j≠44):lsB rc lo hi L (⟨t,j,false⟩,v)=some (v,⟨t,j,false⟩):=by
 unfold lsB Y0j;simp only[Xy,X0v,cond_true];rw[decide_eq_false (show ¬(v.length:Int)<lo by omega),Xy,X0v]
 by_cases hh:(v.length:Int)<hi
 ·rw[decide_eq_true hh,cond_true,peek9 h0,X2,cond_false,cond_true,show(Y7 t j==44)=false by rw[beq_eq_false_iff_ne];exact hp.resolve_left (by omega),cond_false]
 ·rw[decide_eq_false hh];rfl
theorem ls_fail(h0:0≤j)(hs:j≤90000)(h:(v.length:Int)<lo)(hp:Y7 t j≠44):lsB rc lo hi L (⟨t,j,false⟩,v)=L (⟨t,j,true⟩,v):=by
 unfold lsB Y0j;simp only[Xy,X0v,cond_true];rw[decide_eq_true h];simp only[X0z,Bool.false_and,cond_false,X2,cond_true];rw[want9 h0 (by omega),if_neg hp,X2]
 rfl
end
theorem mx_row{rc:Y1→Int→Int→Option (List (List Y5)×Y1)}{x1:List (List Y5)×Y1}{v:List (List Y5)}{r:Int}{L:Y1×List (List Y5)×Int→Option (List Y5×Y1)}(h0:0≤j)(hs:j≤90000)(hr:r<4)(hp:Y7 t j=59):
  mxB rc x1 L (⟨t,j,false⟩,v,r)=(rc ⟨t,j+1,false⟩ (x1.1.length:Nat) (x1.1.length:Nat)).bind fun x9=>G (room 24 (v.length+x9.1.length))<|G (inR (r+1))<|L (x9.2,v++x9.1,r+1):=by
 unfold mxB Y19;simp only[Xy,cond_true];rw[decide_eq_true hr,cond_true,peek9 h0,X2,cond_true,show(Y7 t j==59)=true by rw[beq_iff_eq];exact hp,cond_true,Y49 (by omega)]
theorem lsF_eq(q:Nat)(s:Y1)(lo hi:Int):lsF (q+1) s lo hi=(exF q s 1).bind fun x1=>iter (lsB (exF q) lo hi) 1000000 (x1.2,[x1.1]):=rfl
theorem flm(ls:List Tr):(ls.map Tr.flat).flatten=Y1a ls:=(Y2l ls).symm
theorem flatL_app(a b:List Tr):Y1a (a++b)=Y1a a++Y1a b:=by rw[Y2l,Y2l,Y2l];simp
theorem Y5e(y:Tr):Y1a [y]=y.flat:=by simp[Y1a]
theorem ps_m1(hs:t.size≤40000){k:Nat}(S:PS t k)(i j:Int)(ls:List Tr)(q n:Nat)(h0:0≤i)(hij:i≤j)(hjs:j≤(t.size:Nat))(h1:1≤ls.length)(h4:ls.length≤4)(hl:((Y1a ls).length:Int)≤2*(j-i))(hr:rd t (k+1) (.M ls 0 0 ((ls.length:Nat)-1) j)≠ .out)(hq:4*(t.size-j.toNat)≤q)(hn:6≤n+ls.length):
  Rl t i (rd t (k+1) (.M ls 0 0 ((ls.length:Nat)-1) j)) (((iter (lsB (exF q) 1 4) n (⟨t,j,false⟩,ls.map Tr.flat)).bind fun x1=>iter (mxB (lsF (q+1)) x1) 1000000 (x1.2,x1.1,1)).bind shut):=by
 obtain⟨n,rfl⟩:∃q,n=q+1:=⟨n-1,by omega⟩;have hlm:(ls.map Tr.flat).length=ls.length:=Xr _;have le:(((ls.length:Nat):Int)-1+1)=(ls.length:Nat):=by omega
 rw[rd] at hr⊢;rw[Yv];simp only[if_true,true_or,true_and] at hr⊢;rw[le] at hr⊢
 by_cases hA:Y7 t j=44∧((ls.length:Nat):Int)<4
 ·have hin:=Y1q (t:=t) (i:=j) (by omega);rw[if_pos hA] at hr⊢;have⟨l2,j2,b,e1,e2,e3,e4,e5⟩:=S.e 1 (j+1) q (by omega) (by omega) (by omega) (by omega) (Y63 hr) (by omega);rw[ls_comma (by omega) (by omega) (by omega) hA.1 (by rw[hlm];exact hA.2) (by omega),show exF q ⟨t,j+1,false⟩ 1=_ from e1,X2];have bad:Rl t i (.err j2) (((iter (lsB (exF q) 1 4) n (⟨t,j2,true⟩,ls.map Tr.flat++[l2])).bind fun x1=>iter (mxB (lsF (q+1)) x1) 1000000 (x1.2,x1.1,1)).bind shut):=by
   rw[lsB_bad (by omega),X2];exact mx_bad hs (by omega) h0 (by omega) e3 (by omega) (by simp;omega) (by simp;omega) (by rw[X0i,X4,flm];simp;omega)
  cases hR:rd t k (.E 1 (j+1)) with
  |out=>rw[hR] at hr;exact absurd rfl hr
  |err w=>
   rw[hR] at e5;obtain⟨rfl,rfl⟩:=e5;exact bad
  |ok ys w=>
   rw[hR] at e5 hr;obtain⟨rfl,e6⟩:=e5;obtain⟨y,rfl⟩:=Y3u (Y47 _ (.E _ _) _ _ trivial hR);have hr':rd t k (.M (ls++[y]) 0 0 (ls.length:Nat) w)≠ .out:=hr;show Rl t i (rd t k (.M (ls++[y]) 0 0 (ls.length:Nat) w)) _;cases b with
   |true=>
    rw[if_pos rfl] at e6;obtain⟨k,rfl⟩:∃q,k=q+1:=by
     cases k with
     |zero=>exact absurd rfl hr'
     |succ k=>exact⟨k,rfl⟩
    rw[stk_M e6];exact bad
   |false=>
    rw[if_neg (by decide),Y5e] at e6;have ih:=S.m1 i w (ls++[y]) q n h0 (by omega) e3 (by simp) (by simp;omega) (by rw[flatL_app,Y5e,X4, ←e6];push_cast;omega);rw[show(((ls++[y]).length:Nat):Int)-1=(ls.length:Nat) by simp] at ih;rw[e6];have:=ih hr' (by omega) (by simp;omega);rw[X0c] at this;exact this
 ·rw[if_neg hA] at hr⊢;rw[ls_stop (by omega) (by rw[hlm];omega) (by rw[hlm];omega),X2]
  by_cases hB:Y7 t j=59∧(0:Int)+1<4
  ·have hin:=Y1q (t:=t) (i:=j) (by omega);rw[if_pos hB] at hr⊢;have⟨l2,j2,b,e1,e2,e3,e4,e5⟩:=S.e 1 (j+1) q (by omega) (by omega) (by omega) (by omega) (Y63 hr) (by omega);rw[show(1000000:Nat)=999999+1 from rfl,Yv,mx_row (by omega) (by omega) (by omega) hB.1,lsF_eq,show exF q ⟨t,j+1,false⟩ 1=_ from e1,X2];simp only[hlm];have bad:Rl t i (.err j2) (((iter (lsB (exF q) (ls.length:Nat) (ls.length:Nat)) 1000000 (⟨t,j2,true⟩,[l2])).bind fun x9=>G (room 24 (ls.length+x9.1.length))<|G (inR ((1:Int)+1))<|iter (mxB (lsF (q+1)) (ls.map Tr.flat,(⟨t,j,false⟩:Y1))) 999999 (x9.2,ls.map Tr.flat++x9.1,(1:Int)+1)).bind shut):=by
    rw[lsB_bad (by omega),X2,Y1j (by unfold room;simp;omega),Y49 (by omega)];exact mx_bad hs (by omega) h0 (by omega) e3 (by omega) (by simp;omega) (by simp;omega) (by rw[X0i,X4,flm];simp;omega)
   cases hR:rd t k (.E 1 (j+1)) with
   |out=>rw[hR] at hr;exact absurd rfl hr
   |err w=>
    rw[hR] at e5;obtain⟨rfl,rfl⟩:=e5;exact bad
   |ok ys w=>
    rw[hR] at e5 hr;obtain⟨rfl,e6⟩:=e5;obtain⟨y,rfl⟩:=Y3u (Y47 _ (.E _ _) _ _ trivial hR);have hr':rd t k (.M (ls++[y]) (ls.length:Nat) (0+1) 0 w)≠ .out:=hr;show Rl t i (rd t k (.M (ls++[y]) (ls.length:Nat) (0+1) 0 w)) _;cases b with
    |true=>
     rw[if_pos rfl] at e6;obtain⟨k,rfl⟩:∃q,k=q+1:=by
      cases k with
      |zero=>exact absurd rfl hr'
      |succ k=>exact⟨k,rfl⟩
     rw[stk_M e6];exact bad
    |false=>
     rw[if_neg (by decide),Y5e] at e6;have ih:=S.m2 i w ls [y] ls.length 1 (ls.map Tr.flat,(⟨t,j,false⟩:Y1)) q 1000000 999999 h0 (by omega) e3 hlm h1 h4 (by omega) (by omega) (by omega) (by simp) (by simpa using h1) (by rw[flatL_app,Y5e,X4, ←e6];push_cast;omega) hr' (by omega) (by simp;omega) (by omega);rw[e6];simp only[hlm] at ih;exact ih
  ·rw[if_neg hB];have:=mx_fin hs (rc:=lsF (q+1)) (x1:=(ls.map Tr.flat,(⟨t,j,false⟩:Y1))) (l:=ls) (v:=ls.map Tr.flat) (r:=1) (n:=1000000) (by omega) h0 hij hjs (.inr (by omega)) (by omega) (by simp only[hlm];omega) (by omega) (flm ls) hl;simp only[hlm] at this;have ec:(Y7 t j=41∧True)=(Y7 t j=41):=by simp
   simp only[ec];exact this
theorem ps_m2(hs:t.size≤40000){k:Nat}(S:PS t k)(i j:Int)(ps ls:List Tr)(c r:Nat)(x1:List (List Y5)×Y1)(q n n2:Nat)(h0:0≤i)(hij:i≤j)(hjs:j≤(t.size:Nat))(hx:x1.1.length=c)(hc1:1≤c)(hc4:c≤4)(hr1:1≤r)(hr3:r≤3)(hps:ps.length=c*r)(h1:1≤ls.length)(h4:ls.length≤c)(hl:((Y1a (ps++ls)).length:Int)≤2*(j-i))(hr:rd t (k+1) (.M (ps++ls) c r ((ls.length:Nat)-1) j)≠ .out)(hq:4*(t.size-j.toNat)≤q)(hn:c+2≤n+ls.length)(hn2:5≤n2+r):
  Rl t i (rd t (k+1) (.M (ps++ls) c r ((ls.length:Nat)-1) j)) (((iter (lsB (exF q) c c) n (⟨t,j,false⟩,ls.map Tr.flat)).bind fun x9=>G (room 24 ((ps.map Tr.flat).length+x9.1.length))<|G (inR ((r:Int)+1))<|iter (mxB (lsF (q+1)) x1) n2 (x9.2,ps.map Tr.flat++x9.1,(r:Int)+1)).bind shut):=by
 obtain⟨n,rfl⟩:∃q,n=q+1:=⟨n-1,by omega⟩;have hlm:(ls.map Tr.flat).length=ls.length:=Xr _;have hpm:(ps.map Tr.flat).length=ps.length:=Xr _;have hp12:ps.length≤12:=by rw[hps];exact Nat.mul_le_mul hc4 hr3
 have le:(((ls.length:Nat):Int)-1+1)=(ls.length:Nat):=by omega
 have fm:(ps.map Tr.flat++ls.map Tr.flat).flatten=Y1a (ps++ls):=by rw[←X0c,flm]
 have hfl:=hl;rw[flatL_app,X4] at hfl;rw[rd] at hr⊢;rw[Yv,if_neg (show ¬(c:Int)=0 by omega)] at*;rw[le] at hr⊢;have nb:∀(j2:Int) (v:List (List Y5)) (m:Nat),1≤m→v.length≤4→i≤j2→j2≤(t.size:Nat)→((Y1a ps).length:Int)+v.flatten.length≤2*(j2-i)→Rl t i (.err j2) (((iter (lsB (exF q) c c) m (⟨t,j2,true⟩,v)).bind fun x9=>G (room 24 ((ps.map Tr.flat).length+x9.1.length))<|G (inR ((r:Int)+1))<|iter (mxB (lsF (q+1)) x1) n2 (x9.2,ps.map Tr.flat++x9.1,(r:Int)+1)).bind shut):=fun j2 v m hm hv hi2 hj2 hf=>by
  rw[lsB_bad hm,X2,Y1j (by unfold room;simp only;omega),Y49 (by omega)];exact mx_bad hs (by omega) h0 hi2 hj2 (by omega) (by omega) (by simp only[X4];omega) (by rw[X0i,X4,flm];push_cast;omega)
 by_cases hA:Y7 t j=44∧((ls.length:Nat):Int)<c
 ·have hin:=Y1q (t:=t) (i:=j) (by omega);rw[if_pos hA] at hr⊢;have⟨l2,j2,b,e1,e2,e3,e4,e5⟩:=S.e 1 (j+1) q (by omega) (by omega) (by omega) (by omega) (Y63 hr) (by omega);rw[ls_comma (by omega) (by omega) (by omega) hA.1 (by rw[hlm];exact hA.2) (by omega),show exF q ⟨t,j+1,false⟩ 1=_ from e1,X2];have bad:=nb j2 (ls.map Tr.flat++[l2]) n (by omega) (by simp;omega) (by omega) e3 (by rw[X0i,X4,flm];simp;omega);cases hR:rd t k (.E 1 (j+1)) with
  |out=>rw[hR] at hr;exact absurd rfl hr
  |err w=>
   rw[hR] at e5;obtain⟨rfl,rfl⟩:=e5;exact bad
  |ok ys w=>
   rw[hR] at e5 hr;obtain⟨rfl,e6⟩:=e5;obtain⟨y,rfl⟩:=Y3u (Y47 _ (.E _ _) _ _ trivial hR);have hr':rd t k (.M (ps++ls++[y]) c r (ls.length:Nat) w)≠ .out:=hr;show Rl t i (rd t k (.M (ps++ls++[y]) c r (ls.length:Nat) w)) _;cases b with
   |true=>
    rw[if_pos rfl] at e6;obtain⟨k,rfl⟩:∃q,k=q+1:=by
     cases k with
     |zero=>exact absurd rfl hr'
     |succ k=>exact⟨k,rfl⟩
    rw[stk_M e6];exact bad
   |false=>
    rw[if_neg (by decide),Y5e] at e6;have ih:=S.m2 i w ps (ls++[y]) c r x1 q n n2 h0 (by omega) e3 hx hc1 hc4 hr1 hr3 hps (by simp) (by simp;omega) (by rw[←Xu,flatL_app,Y5e,X4, ←e6];push_cast;omega);rw[show(((ls++[y]).length:Nat):Int)-1=(ls.length:Nat) by simp, ←Xu] at ih;rw[e6];have:=ih hr' (by omega) (by simp;omega) hn2;rw[X0c] at this;exact this
 ·rw[if_neg hA] at hr⊢
  by_cases hlc:ls.length=c
  ·rw[ls_stop (by omega) (by rw[hlm];omega) (.inl (by rw[hlm];omega)),X2,Y1j (by unfold room;simp only[hlm,hpm];omega),Y49 (by omega)]
   by_cases hB:Y7 t j=59∧((c:Int)=0∨((ls.length:Nat):Int)=c)∧(r:Int)+1<4
   ·have hin:=Y1q (t:=t) (i:=j) (by omega);rw[if_pos hB] at hr⊢;have⟨l2,j2,b,e1,e2,e3,e4,e5⟩:=S.e 1 (j+1) q (by omega) (by omega) (by omega) (by omega) (Y63 hr) (by omega);obtain⟨n2,rfl⟩:∃q,n2=q+1:=⟨n2-1,by omega⟩;rw[Yv,mx_row (by omega) (by omega) (by omega) hB.1,lsF_eq,show exF q ⟨t,j+1,false⟩ 1=_ from e1,X2,hx];simp only;have bad:Rl t i (.err j2) (((iter (lsB (exF q) c c) 1000000 (⟨t,j2,true⟩,[l2])).bind fun x9=>G (room 24 ((ps.map Tr.flat++ls.map Tr.flat).length+x9.1.length))<|G (inR ((r:Int)+1+1))<|iter (mxB (lsF (q+1)) x1) n2 (x9.2,ps.map Tr.flat++ls.map Tr.flat++x9.1,(r:Int)+1+1)).bind shut):=by
     have hp8:ps.length≤4*2:=by rw[hps];exact Nat.mul_le_mul hc4 (by omega)
     rw[lsB_bad (by omega),X2,Y1j (by unfold room;simp only[X4,hlm,hpm,Xa,Xi];omega),Y49 (by omega)];exact mx_bad hs (by omega) h0 (by omega) e3 (by omega) (by omega) (by simp only[X4,hlm,hpm,Xa,Xi];omega) (by rw[X0i,X4,fm];simp;omega)
    cases hR:rd t k (.E 1 (j+1)) with
    |out=>rw[hR] at hr;exact absurd rfl hr
    |err w=>
     rw[hR] at e5;obtain⟨rfl,rfl⟩:=e5;exact bad
    |ok ys w=>
     rw[hR] at e5 hr;obtain⟨rfl,e6⟩:=e5;obtain⟨y,rfl⟩:=Y3u (Y47 _ (.E _ _) _ _ trivial hR);have hr':rd t k (.M (ps++ls++[y]) (ls.length:Nat) ((r:Int)+1) 0 w)≠ .out:=hr;show Rl t i (rd t k (.M (ps++ls++[y]) (ls.length:Nat) ((r:Int)+1) 0 w)) _;cases b with
     |true=>
      rw[if_pos rfl] at e6;obtain⟨k,rfl⟩:∃q,k=q+1:=by
       cases k with
       |zero=>exact absurd rfl hr'
       |succ k=>exact⟨k,rfl⟩
      rw[stk_M e6];exact bad
     |false=>
      rw[if_neg (by decide),Y5e] at e6;have ih:=S.m2 i w (ps++ls) [y] c (r+1) x1 q 1000000 n2 h0 (by omega) e3 hx hc1 hc4 (by omega) (by omega) (by rw[X4,hps,hlc,Nat.mul_succ]) (by simp) (by simpa using hc1) (by rw[flatL_app,Y5e,X4, ←e6];push_cast;omega) (by rw[hlc] at hr';exact hr') (by omega) (by simp;omega) (by omega);rw[e6,hlc];rw[X0c] at ih;exact ih
   ·rw[if_neg hB];have:=mx_fin hs (rc:=lsF (q+1)) (x1:=x1) (l:=ps++ls) (v:=ps.map Tr.flat++ls.map Tr.flat) (r:=(r:Int)+1) (n:=n2) (by omega) h0 hij hjs (by
     by_cases h59:Y7 t j=59
     ·left;apply Classical.byContradiction;intro hh;exact hB ⟨h59,.inr (by omega),by omega⟩
     ·exact .inr h59) (by omega) (by omega) (by simp only[X4,hlm,hpm];omega) fm hl
    rw[hx] at this;rw[hlc];simp only[or_true,and_true];exact this
  ·have e41:¬(Y7 t j=41∧((c:Int)=0∨((ls.length:Nat):Int)=c)):=by rintro⟨_,h⟩;omega
   have e59:¬(Y7 t j=59∧((c:Int)=0∨((ls.length:Nat):Int)=c)∧(r:Int)+1<4):=by rintro⟨_,h,_⟩;omega
   rw[if_neg e59,if_neg e41,ls_fail (by omega) (by omega) (by rw[hlm];omega) (by intro h;exact hA ⟨h,by omega⟩)];exact nb j (ls.map Tr.flat) n (by omega) (by omega) hij hjs (by rw[flm];omega)
end
end Go.Proofs.YtkgfbpbndmklnaaDoor
