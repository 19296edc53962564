/- Own work. -/
import Derived.Test.YtfpcbalkioolmaaDoorW8
import Derived.Test.YtfpcbalkioolmaaDoorLqA
import Derived.Test.YtfpcbalkioolmaaDoorFmY
import Derived.Test.YtfpcbalkioolmaaDoorFmX
import Derived.Test.YtfpcbalkioolmaaDoorLqB
set_option linter.unusedSimpArgs false
set_option linter.unusedVariables false
namespace Go.Proofs.YtfpcbalkioolmaaDoor
open Go.Abs
abbrev Rd (t:List Int) (i:Int):Y0:=⟨t,i,false,false⟩
abbrev Sp (t:List Int) (i:Int) (s:Bool):Y0:=⟨t,i,s, !s⟩
section
variable {t:List Int} {i:Int}
theorem Y5f:Yv (Rd t i)=some false:=rfl
theorem Y5e(s:Bool):Yv (Sp t i s)=some true:=by cases s<;>rfl
theorem peek_Sp(s:Bool):Yr (Sp t i s)=some 64:=by
 unfold Yr;rw[Y5e,X1]
 rfl
theorem peek_end(h:(t.length:Int)≤i):Yr (Rd t i)=some 64:=by
 unfold Yr;rw[Y5f,X1,Y2q (by grind)]
theorem peek_at(h0:0≤i)(h:i<(t.length:Nat)):Yr (Rd t i)=some (cAt t i):=by
 unfold Yr;rw[Y5f,X1,Y3w (by grind),Y2s (show 0≤i∧i<(t.length:Int) by omega)]
 rfl
theorem peek_eq(h0:0≤i):Yr (Rd t i)=some (if i<(t.length:Nat) then cAt t i else 64):=by
 by_cases h:i<(t.length:Nat)
 ·rw[if_pos h];exact peek_at h0 h
 ·rw[if_neg h];exact peek_end (by omega)
theorem hit_peek{c:Int}(hc:c≠64):(hit t c ⟨i,false⟩=true↔(if i<(t.length:Nat) then cAt t i else 64)=c):=by
 unfold hit
 grind
theorem letter_eq{k:Nat}(h:k<26):Y4c (k:Int)=some (Y8.getD k 0):=by
 have:∀k:Nat,k<26→Y4c (k:Int)=some (Y8.getD k 0):=by decide
 simp_all
theorem value_loop(c:Int)(n:Nat)(hn:n≤26):∀(m k:Nat),k≤n→n<m+k→iter (fun loop (s:Int)=>f_R10_value_b1 c (n:Int) loop s) m (k:Int)=some (lfind c ((Y8.take n).drop k) k)
 |0,k,h1,h2=>by omega
 |m+1,k,h1,h2=>by
  rw[Yw,f_R10_value_b1]
  by_cases h:k<n
  ·have hl:k<(Y8.take n).length:=by rw[Xz];have:Y8.length=26:=rfl;omega
   rw[Y2q (by grind),letter_eq (by omega),X1,X06 hl,lfind];have e:(Y8.take n)[k]=Y8.getD k 0:=by
    rw[List.getElem_take,X6,X5];rfl
   rw[e]
   by_cases hc:Y8.getD k 0=c
   ·rw[Y2q (by grind),if_pos hc]
   ·rw[Y3w (by simp_all),if_neg hc,Y1k (by omega),show((k:Int)+1)=((k+1:Nat):Int) by omega];exact value_loop c n hn m (k+1) (by omega) (by omega)
  ·have:k=n:=by omega
   subst this;rw[Y3w (by simp),X1d (by grind)];rfl
theorem value_eq(c:Int){n:Nat}(hn:n≤26):Y6z c (n:Int)=some (lfind c (Y8.take n) 0):=by
 have:=value_loop c n hn 1000000 0 (by omega) (by omega);exact this
theorem value_peek{n:Nat}(hn:n≤26)(h0:0≤i):((Yr (Rd t i)).bind fun c=>Y6z c (n:Int))=some (chrI t n ⟨i,false⟩):=by
 rw[peek_eq h0,X1,value_eq _ hn];unfold chrI
 by_cases h:i<(t.length:Nat)
 ·rw[if_pos h,if_neg (by grind)]
 ·rw[if_neg h,if_pos (.inr (by simp_all))];have:∀n:Nat,n≤26→lfind 64 (Y8.take n) 0= -1:=by decide
  rw[this n hn]
theorem Y8t(s:Bool)(c:Int):Yg (Sp t i s) c=some (Sp t i s):=by
 unfold Yg;rw[Y5e,X1];rfl
theorem expect_end(h:(t.length:Int)≤i)(c:Int):Yg (Rd t i) c=some (Sp t i true):=by
 unfold Yg;rw[Y5f,X1,cond_false,Y2q (by grind)];rfl
theorem expect_hit{c:Int}(h0:0≤i)(hb:i≤1000000)(h:hit t c ⟨i,false⟩=true):Yg (Rd t i) c=some (Rd t (i+1)):=by
 have⟨_,h1,h2⟩:=Y0g h;simp only at h1 h2;unfold Yg;rw[Y5f,X1,cond_false,Y3w (by grind),Y2s (by simp_all),Y1k (by grind)];have e:(t.getD i.toNat 0)=c:=h2
 simp_all
theorem expect_no{c:Int}(h0:0≤i)(hb:i≤1000000)(hl:i<(t.length:Nat))(h:hit t c ⟨i,false⟩=false):Yg (Rd t i) c=some (Sp t (i+1) false):=by
 have e:(t.getD i.toNat 0 !=c)=true:=by
  unfold hit at h;simp only[X1g,Bool.true_and,decide_eq_true hl] at h;rw[bne,show(t.getD i.toNat 0==c)=false from h];rfl
 unfold Yg;rw[Y5f,X1,cond_false,Y3w (by grind),Y2s (by simp_all),Y1k (by grind)]
 simp_all
theorem Y7r{op n:Int}{l:List Y1}(h:l.length≤8000000):Y29 op n l=some (⟨op,n⟩::l):=by
 unfold Y29;rw[Y1j (by grind)];rfl
theorem number_Sp(s:Bool):Y0i (Sp t i s)=some ([⟨0,0⟩],Sp t i s):=by
 unfold Y0i;rw[show(1000000:Nat)=999999+1 from rfl,Yw];unfold Y3a;simp only[];rw[Y2q (by rfl),peek_Sp,X1,show(10:Int)=((10:Nat):Int) from rfl,value_eq _ (by omega),X1,Y2q (by decide)];unfold Y4j;rw[show((0:Int)==0)=true from rfl,cond_true,Y5e,X1];simp only[X1q,cond_true,cond_false];unfold Y5r;rw[Y7r (by simp),X1]
theorem number_loop(ht:t.length≤100000):∀(k m:Nat) (n d:Int) (j:Int),0≤j→j≤(t.length:Nat)→0≤n→(d=0→n=0)→n<10^(5-k)→d=5-(k:Nat)→k≤5→k<m→
  iter (fun loop (s:Y0×Int×Int)=>Y3a loop s.1 s.2.1 s.2.2) m (Rd t j,n,d)=Y4j (Rd t (dgs t k n d ⟨j,false⟩).2.2.at_) (dgs t k n d ⟨j,false⟩).1 (dgs t k n d ⟨j,false⟩).2.1
 |k,0,n,d,j,_,_,_,_,_,_,_,h=>by omega
 |0,m+1,n,d,j,h0,hj,hn,hd0,hnk,hd,hk,hm=>by
  rw[Yw,Y3a];rw[Y3w (by grind),dgs]
 |k+1,m+1,n,d,j,h0,hj,hn,hd0,hnk,hd,hk,hm=>by
  have pw:(10:Int)^(5-(k+1))≤10^4:=by exact_mod_cast X15 (by omega:0<10) (by omega:5-(k+1)≤4)
  have pe:(10:Int)^(5-k)=10^(5-(k+1))*10:=by rw[show 5-k=5-(k+1)+1 by omega,Int.pow_succ]
  rw[Yw,Y3a];simp only[]
  by_cases hc:d=0∨0<n
  ·have e1:(cond (decide (d<(5:Int))) (cond (d==(0:Int)) true (decide ((0:Int)<n))) false)=true:=by
    grind
   rw[Y2q e1];have hv:=value_peek (t:=t) (n:=10) (by omega) h0;have hp:=peek_eq (t:=t) h0;rw[hp,X1] at hv;rw[hp,X1,show(10:Int)=((10:Nat):Int) from rfl,hv,X1];rw[dgs,if_pos hc]
   by_cases hx:chrI t 10 ⟨j,false⟩<0
   ·rw[Y2q (by simp_all),if_pos hx]
   ·have ho:CuOk t ⟨j,false⟩:=⟨h0,hj⟩;have hl:j<(t.length:Nat):=(chrI_ok (n:=10) (u:=⟨j,false⟩) (t:=t) (by omega)).2;have hr:chrI t 10 ⟨j,false⟩≤9:=by
     have:∀c:Int,lfind c (Y8.take 10) 0≤9:=fun c=>by
      rcases lfind_le c (Y8.take 10) 0 with h|h
      ·omega
      grind
     unfold chrI
     grind
    have em:Int.tmod (chrI t 10 ⟨j,false⟩+1) ((10:Nat):Int)=(chrI t 10 ⟨j,false⟩+1)%10:=X1s (by omega);rw[Y3w (by simp_all),if_neg hx,em,Y1k (by omega),Y1k (by omega),Y1k (by omega),Y1k (by omega),Y1k (by omega)];exact number_loop ht k m _ (d+1) (j+1) (by omega) (by omega) (by omega) (by omega) (by omega) (by omega) (by omega) (by omega)
  ·have e1:(cond (decide (d<(5:Int))) (cond (d==(0:Int)) true (decide ((0:Int)<n))) false)=false:=by
    simp_all
   rw[Y3w e1,dgs,if_neg hc]
where
 lfind_le (c:Int):∀(l:List Int) (i:Int),lfind c l i= -1∨lfind c l i<i+(l.length:Nat)
  |[],i=>.inl rfl
  |x::l,i=>by
   rw[lfind]
   split
   ·grind
   ·rcases lfind_le c l (i+1) with h|h
    ·omega
    grind
theorem number_eq(ht:t.length≤100000)(h0:0≤i)(hi:i≤(t.length:Nat)):
  Y0i (Rd t i)=some ([⟨0,numN t ⟨i,false⟩⟩],if(numU t ⟨i,false⟩).wr=true then Sp t (numU t ⟨i,false⟩).at_ (decide ((t.length:Int)≤(numU t ⟨i,false⟩).at_)) else Rd t (numU t ⟨i,false⟩).at_):=by
 have:=number_loop ht 5 1000000 0 0 i h0 hi (by omega) (by omega) (by simp) (by omega) (by omega) (by omega);unfold Y0i;refine this.trans ?_;unfold Y4j Y5r numU numN;have hwr:(dgs t 5 0 0 ⟨i,false⟩).2.2.wr=false:=(dgs_ge (t:=t) 5 0 0 ⟨i,false⟩).2
 by_cases hd:(dgs t 5 0 0 ⟨i,false⟩).2.1=0
 ·rw[if_pos hd,hd,show((0:Int)==0)=true from rfl,cond_true,Y5f,X1,Y7r (by simp)]
  rfl
 ·rw[if_neg hd,beq_eq_false_iff_ne.2 hd,cond_false,X1,hwr,Y7r (by simp)]
  rfl
end
section
variable {t:List Int} {i:Int}
def sh (t:List Int) (u:Cu):Bool:=u.wr&&decide ((t.length:Int)≤u.at_)
theorem xpc_app:∀(a b:List Int) (u:Cu),xpc t (a++b) u=xpc t b (xpc t a u)
 |[],b,u=>rfl
 |c::a,b,u=>by rw[Xv,xpc,xpc,xpc_app a b]
theorem xpc_wr:∀(l:List Int) {u:Cu},u.wr=true→xpc t l u=u
 |[],u,h=>rfl
 |c::l,u,h=>by
  rw[xpc,if_neg (by unfold hit;grind)];have e:u.bad=u:=by cases u;simp only at h;rw[h];rfl
  rw[e];exact xpc_wr l h
theorem Y6k(c:Int)(u:Cu):xpc t [c] u=if hit t c u=true then u.adv else u.bad:=by rw[xpc,xpc]
theorem begins_loop(s:Y0)(hs:s.L=t){j:Int}(h0:0≤j)(hb:j≤1000000)(l:List Int)(hl:l.length≤1000):∀(m k:Nat),k≤l.length→l.length<m+k→
  iter (fun loop (x:Int)=>Y5s s j l loop x) m (k:Int)=some (!(xpc t (l.drop k) ⟨j+k,false⟩).wr,sh t (xpc t (l.drop k) ⟨j+k,false⟩))
 |0,k,h1,h2=>by omega
 |m+1,k,h1,h2=>by
  rw[Yw,Y5s]
  by_cases h:k<l.length
  ·rw[Y2q (by grind),Y1k (by omega),hs,X06 h,xpc]
   by_cases he:(t.length:Int)≤j+k
   ·have hh:hit t l[k] ⟨j+k,false⟩=false:=by unfold hit;grind
    rw[Y2q (by simp_all),if_neg (by grind),xpc_wr _ (by rfl)];show some (false,true)=some (!true,true&&decide _);rw[decide_eq_true (by simp only[Cu.bad];exact he)];rfl
   ·rw[Y3w (by simp_all),Y2s (by omega),Y2s (by omega),Xl];have e:l.getD k 0=l[k]:=by simp_all
    have hh:hit t l[k] ⟨j+k,false⟩=(t.getD (j+k).toNat 0==l[k]):=by
     unfold hit cAt
     simp_all
    rw[e]
    by_cases hc:t.getD (j+k).toNat 0=l[k]
    ·rw[Y3w (by grind),if_pos (by simp_all),Y1k (by omega),show((k:Int)+1)=((k+1:Nat):Int) by omega];have:=begins_loop s hs h0 hb l hl m (k+1) (by omega) (by omega);rw[this];have eu:(⟨j+k,false⟩:Cu).adv=⟨j+((k+1:Nat):Int),false⟩:=by simp only[Cu.adv];grind
     rw[eu]
    ·rw[Y2q (by simp_all),if_neg (by simp_all),xpc_wr _ (by rfl)];show some (false,false)=some (!true,true&&decide _);rw[decide_eq_false (by simp only[Cu.bad];exact he)];rfl
  ·have:k=l.length:=by omega
   subst this;rw[Y3w (by simp),List.drop_length,xpc];rfl
theorem begins_eq(s:Y0)(hs:s.L=t){j:Int}(h0:0≤j)(hb:j≤1000000)(l:List Int)(hl:l.length≤1000):Y4p s j l=some (!(xpc t l ⟨j,false⟩).wr,sh t (xpc t l ⟨j,false⟩)):=by
 unfold Y4p;have:=begins_loop s hs h0 hb l hl 1000000 0 (by omega) (by omega)
 simp_all
def nxl (t:List Int) (j:Int):Bool:=decide (j<(t.length:Nat))&&(cAt t j==24||cAt t j==6)
def lvl (t:List Int) (w:List Int) (i:Int):Bool×Bool:=
 if !(xpc t (16::w) ⟨i,false⟩).wr&&nxl t (i+1+(w.length:Nat)) then(false,false) else(!(xpc t (16::w) ⟨i,false⟩).wr,sh t (xpc t (16::w) ⟨i,false⟩))
theorem level_eq(s:Y0)(hs:s.L=t)(h0:0≤s.At)(hb:s.At≤100000)(w:List Int)(hl:w.length≤900):Y1q s w=some (lvl t w s.At):=by
 unfold Y1q Y75;rw[Y1j (by grind),X1,begins_eq s hs h0 (by omega) _ (by grind),X1,Y1k (by omega),Y1k (by omega)];simp only[];rw[hs];have e:([(16:Int)]++w)=16::w:=rfl;rw[e];have c1:∀x:Bool,(cond x (decide (((s.At+(1:Int))+(w.length:Int))<(t.length:Int))) false)=true→(0≤((s.At+(1:Int))+(w.length:Int))∧((s.At+(1:Int))+(w.length:Int))<(t.length:Int)):=fun x h=>by
  grind
 rw[Y2s (c1 _),Y2s (fun h=>c1 _ (by simp only[X2] at h;exact h.1))];have e2:(cond (cond (!(xpc t (16::w) ⟨s.At,false⟩).wr) (decide (((s.At+(1:Int))+(w.length:Int))<(t.length:Int))) false) (cond ((t.getD ((s.At+(1:Int))+(w.length:Int)).toNat (0:Int))==(24:Int)) true ((t.getD ((s.At+(1:Int))+(w.length:Int)).toNat (0:Int))==(6:Int))) false)=(!(xpc t (16::w) ⟨s.At,false⟩).wr&&nxl t (s.At+1+(w.length:Nat))):=by
  unfold nxl cAt
  grind
 rw[e2,lvl]
 grind
theorem under_eq2(w:List Int)(o:Int)(h:o=7∨o=8)(hl:w.length≤1000):Y47 w o=some (w++[expC o]):=by
 unfold Y47 f_R10_under_k1;rcases h with h|h<;>subst h
 ·rw[Y3w (by rfl),Y1j (by grind),Y1j (by grind)];rfl
 ·rw[Y2q (by rfl),Y1j (by grind),Y1j (by grind)];rfl
def Ends (t:List Int) (b:Bool) (q:Qs) (s:Bool):Prop:=RunP t b q fun r=>r.c.wr=true∧s=decide ((t.length:Int)≤r.c.at_)
theorem ends_f{q:Qs}{u:Cu}(hc:q.c.wr=false)(hd:q.dn=false)(h:(Yk t q).2.c=u)(hu:u.wr=true):Ends t false q (decide ((t.length:Int)≤u.at_)):=
 ⟨_,.step (by simp_all) (.stop (.inl (by show(Yk t q).2.c.wr=true;simp_all))),by show(Yk t q).2.c.wr=true;simp_all,by show _=decide (_≤(Yk t q).2.c.at_);rw[h]⟩
theorem ends_b{q:Qs}{u:Cu}(hc:q.c.wr=false)(hd:q.dn=false)(h:(Y0x t q).2.c=u)(hu:u.wr=true):Ends t true q (decide ((t.length:Int)≤u.at_)):=
 ⟨_,.step (by simp_all) (.stop (.inl (by show(Y0x t q).2.c.wr=true;simp_all))),by show(Y0x t q).2.c.wr=true;simp_all,by show _=decide (_≤(Y0x t q).2.c.at_);rw[h]⟩
theorem nx_no{j c:Int}(h:nxl t j=true)(hc:c≠24∧c≠6):hit t c ⟨j,false⟩=false:=by
 unfold nxl at h;simp only[X2,X02,decide_eq_true_eq,beq_iff_eq] at h;unfold hit
 grind
theorem nx_lt{j:Int}(h:nxl t j=true):j<(t.length:Nat):=by
 unfold nxl at h
 simp_all
theorem begin_nx{q:Qs}{j:Int}(hc:q.c=⟨j,false⟩)(hd:q.dn=false)(h:nxl t j=true):Ends t true q false:=by
 have hl:=nx_lt h;have e:(Y0x t q).2.c=⟨j,true⟩:=by
  unfold Y0x;rw[hc,nx_no h (c:=60) (by omega),nx_no h (c:=48) (by omega),nx_no h (c:=35) (by omega),nx_no h (c:=56) (by omega),nx_no h (c:=57) (by omega),nx_no h (c:=28) (by omega),nx_no h (c:=55) (by omega),nx_no h (c:=42) (by omega),nx_no h (c:=41) (by omega)];show q.c.bad=_;rw[hc];rfl
 have:=ends_b (by rw[hc]) hd e rfl;rwa[decide_eq_false (by simp_all)] at this
theorem follow_nx{q:Qs}{j:Int}(hc:q.c=⟨j,false⟩)(hd:q.dn=false)(h:nxl t j=true):Ends t false q false:=by
 have hl:=nx_lt h;have x1:∀c:Int,c≠24∧c≠6→xpc t [c] ⟨j,false⟩=⟨j,true⟩:=fun c hc'=>by rw[Y6k,if_neg (by rw[nx_no h hc'];simp)];rfl
 have clb:clB q.f.op≠24∧clB q.f.op≠6:=by
  have:∀o:Int,clB o=0∨clB o=47∨clB o=59∨clB o=62∨clB o=46∨clB o=34∨clB o=43:=fun o=>clB_all o;rcases this q.f.op with h|h|h|h|h|h|h<;>omega
 have e:(Yk t q).2.c=⟨j,true⟩:=by
  unfold Yk;rw[hc,nx_no h (c:=16) (by omega),nx_no h (c:=44) (by omega),nx_no h (c:=36) (by omega),nx_no h (c:=33) (by omega),nx_no h (c:=0) (by omega)];rw[if_neg (by simp),if_neg (c:=false=true) (by simp),if_neg (c:=false=true) (by simp),if_neg (c:=false=true) (by simp),if_neg (c:=false=true) (by simp)]
  split
  ·show q.c.bad=_;rw[hc];rfl
  ·unfold qRest;rw[hc]
   split
   ·show(⟨j,j !=(t.length:Nat)⟩:Cu)=_;have:(j !=(t.length:Nat))=true:=bne_iff_ne.2 (by omega);rw[this]
   ·split
    ·unfold Y4e;rw[hc,nx_no h (c:=50) (by omega),if_pos (.inr rfl)];show q.c.bad=_;rw[hc];rfl
    ·split
     ·unfold Y3y;rw[hc,nx_no h (c:=32) (by omega),nx_no h (c:=51) (by omega),if_neg (by simp)]
      split
      ·show q.c.bad=_;rw[hc];rfl
      ·rw[if_neg (by simp),close_c];exact x1 43 (by omega)
     ·split
      ·exact x1 12 (by omega)
      ·split
       ·show q.c.bad=_;rw[hc];rfl
       ·rw[close_c];exact x1 _ clb
 have:=ends_f (by rw[hc]) hd e rfl;rwa[decide_eq_false (by simp_all)] at this
where
 clB_all (o:Int):clB o=0∨clB o=47∨clB o=59∨clB o=62∨clB o=46∨clB o=34∨clB o=43:=by
  unfold clB Y57;simp only[Y71]
  grind
end
section
variable {t:List Int} {i:Int} {q:Qs}
theorem drop_dn(q:Qs):(Y5x q).dn=q.dn:=by
 rw[Y5x];split<;>rfl
theorem close_dn(op n b:Int)(q:Qs):(Y2y op n b q).dn=q.dn:=by
 show(Y5x q).dn=_;exact drop_dn q
theorem Ends.f{q q':Qs}{b s:Bool}(hc:q.c.wr=false)(hd:q.dn=false)(h:Yk t q=(b,q'))(E:Ends t b q' s):Ends t false q s:=by
 have⟨r,R,hp⟩:=E;exact⟨r,.step (by simp_all) (by show Run t (Yk t q).1 (Yk t q).2 r;simp_all),hp⟩
theorem Ends.b{q q':Qs}{b s:Bool}(hc:q.c.wr=false)(hd:q.dn=false)(h:Y0x t q=(b,q'))(E:Ends t b q' s):Ends t true q s:=by
 have⟨r,R,hp⟩:=E;exact⟨r,.step (by simp_all) (by show Run t (Y0x t q).1 (Y0x t q).2 r;simp_all),hp⟩
theorem xpc16(h:hit t 16 ⟨i,false⟩=true)(l:List Int):xpc t (16::l) ⟨i,false⟩=xpc t l ⟨i+1,false⟩:=by rw[xpc,if_pos h];rfl
theorem op16(hc:q.c=⟨i,false⟩)(hd:q.dn=false)(h0:0≤i)(h16:hit t 16 ⟨i,false⟩=true)(hb:q.base=1∨q.base=2)(hv:LvOk q.lv)(hop:q.f.op=7∨q.f.op=8→q.lv≠[]):
  ((lvl t (q.lv++[24]) i).1=true∧Yk t q=(true,qExp 7 24 (qU ⟨i+1+(q.lv.length:Nat),false⟩ q)))∨
  ((lvl t (q.lv++[24]) i).1=false∧(lvl t (q.lv++[6]) i).1=true∧Yk t q=(true,qExp 8 6 (qU ⟨i+1+(q.lv.length:Nat),false⟩ q)))∨
  ((lvl t (q.lv++[24]) i).1=false∧(lvl t (q.lv++[6]) i).1=false∧((q.f.op=7∨q.f.op=8)∧q.base=1)∧(lvl t q.lv.dropLast i).1=true)∨
  ((lvl t (q.lv++[24]) i).1=false∧(lvl t (q.lv++[6]) i).1=false∧((q.f.op=7∨q.f.op=8)∧q.base=1→(lvl t q.lv.dropLast i).1=false)∧
   Ends t false q (((lvl t (q.lv++[24]) i).2||(lvl t (q.lv++[6]) i).2)||(if(q.f.op=7∨q.f.op=8)∧q.base=1 then(lvl t q.lv.dropLast i).2 else false))):=by
 have hcw:q.c.wr=false:=by rw[hc]
 have ef:Yk t q=qSgn t (qU ⟨i+1,false⟩ q):=by
  unfold Yk;rw[hc,if_pos h16];rfl
 have hbeg:qBegs (qU ⟨i+1,false⟩ q)=true:=by
  show(q.base !=0)=true;rcases hb with h|h<;>rw[h]<;>rfl
 have hends:qEnds (qU ⟨i+1,false⟩ q)=decide ((q.f.op=7∨q.f.op=8)∧q.base=1):=by
  show((q.f.op==7||q.f.op==8)&&q.base !=2)=_
  grind
 have l16:∀w:List Int,lvl t w i=if !(xpc t w ⟨i+1,false⟩).wr&&nxl t (i+1+(w.length:Nat)) then(false,false) else(!(xpc t w ⟨i+1,false⟩).wr,sh t (xpc t w ⟨i+1,false⟩)):=fun w=>by rw[lvl,xpc16 h16]
 have lx:∀y:Int,xpc t (q.lv++[y]) ⟨i+1,false⟩=xpc t [y] (xpc t q.lv ⟨i+1,false⟩):=fun y=>xpc_app _ _ _
 --the machine at the end of a level
 have hsg:∀w' x,q.lv=w'++[x]→(xpc t w' ⟨i+1,false⟩).wr=false→hit t x (xpc t w' ⟨i+1,false⟩)=false→Yk t q=qEnd (decide ((q.f.op=7∨q.f.op=8)∧q.base=1)) (qU (xpc t w' ⟨i+1,false⟩) q):=fun w' x hw h1 h2=>by
  rw[ef];unfold qSgn;have e1:(qU ⟨i+1,false⟩ q).lv.dropLast=w':=by show q.lv.dropLast=_;rw[hw,X0v]
  have e2:(qU ⟨i+1,false⟩ q).lv.getLastD 0=x:=by show q.lv.getLastD 0=_;grind
  rw[hbeg,if_neg (by simp),if_neg (by show ¬q.lv=[];grind),e1,e2];show(if(xpc t w' ⟨i+1,false⟩).wr=true then _ else if true=true∧hit t x (xpc t w' ⟨i+1,false⟩)=true then _ else _)=_;rw[if_neg (by grind),if_neg (by grind),hends];rfl
 cases hu1:(xpc t q.lv ⟨i+1,false⟩).wr with
 |true=>
  have lA:∀y:Int,lvl t (q.lv++[y]) i=(false,sh t (xpc t q.lv ⟨i+1,false⟩)):=fun y=>by
   rw[l16,lx,xpc_wr _ hu1,hu1];rfl
  rcases List.eq_nil_or_concat q.lv with hw|⟨w',x,hw⟩
  ·rw[hw] at hu1;cases hu1
  ·have hdl:q.lv.dropLast=w':=by grind
   have e1:xpc t q.lv ⟨i+1,false⟩=xpc t [x] (xpc t w' ⟨i+1,false⟩):=by rw[hw, ←xpc_app];simp
   have hw2:q.lv=w'++[x]:=by grind
   refine .inr (.inr ?_);rw[lA,lA,hdl];cases hu0:(xpc t w' ⟨i+1,false⟩).wr with
   |true=>
    rw[xpc_wr _ hu0] at e1;have lB:lvl t w' i=(false,sh t (xpc t w' ⟨i+1,false⟩)):=by simp_all
    right
    rw[lB,e1];refine⟨rfl,rfl,fun _=>rfl, ?_⟩;have es:sh t (xpc t w' ⟨i+1,false⟩)=decide ((t.length:Int)≤(xpc t w' ⟨i+1,false⟩).at_):=by rw[sh,hu0];rfl
    have em:(Yk t q).2.c=xpc t w' ⟨i+1,false⟩:=by
     rw[ef];unfold qSgn;have e1:(qU ⟨i+1,false⟩ q).lv.dropLast=w':=hdl;rw[hbeg,if_neg (by simp),if_neg (by show ¬q.lv=[];grind),e1];show(if(xpc t w' ⟨i+1,false⟩).wr=true then _ else _:Bool×Qs).2.c=_;rw[if_pos hu0];rfl
    have E:=ends_f hcw hd em hu0
    grind
   |false=>
    have hx:hit t x (xpc t w' ⟨i+1,false⟩)=false:=by
     cases hh:hit t x (xpc t w' ⟨i+1,false⟩) with
     |false=>rfl
     |true=>
      rw[e1,Y6k,if_pos hh] at hu1;have:=(Y0g hh).1;rw[Cu.adv] at hu1
      simp_all
    have hat:=(Y8d w' _ hu0).2;have e1':xpc t q.lv ⟨i+1,false⟩=(xpc t w' ⟨i+1,false⟩).bad:=by rw[e1,Y6k,if_neg (by grind)]
    have es:sh t (xpc t q.lv ⟨i+1,false⟩)=decide ((t.length:Int)≤(xpc t w' ⟨i+1,false⟩).at_):=by rw[e1'];rfl
    have em:=hsg w' x hw2 hu0 hx
    by_cases he:(q.f.op=7∨q.f.op=8)∧q.base=1
    ·rw[decide_eq_true he] at em;have lB:lvl t w' i=if nxl t (i+1+(w'.length:Nat)) then(false,false) else(true,false):=by
      rw[l16,hu0];have:sh t (xpc t w' ⟨i+1,false⟩)=false:=by rw[sh,hu0];rfl
      simp_all
     cases hn:nxl t (i+1+(w'.length:Nat)) with
     |true=>
      rw[hn] at lB
      right
      rw[lB,es];refine⟨rfl,rfl,fun _=>rfl, ?_⟩;have hlt:=nx_lt hn;have e0:decide ((t.length:Int)≤(xpc t w' ⟨i+1,false⟩).at_)=false:=decide_eq_false (by simp_all);rw[e0,if_pos he];refine Ends.f hcw hd em<|follow_nx (j:=i+1+(w'.length:Nat)) ?_ ?_ hn
      ·show(Y2y _ _ _ _).c=_;rw[close_c];show xpc t w' ⟨i+1,false⟩=_;cases hz:xpc t w' ⟨i+1,false⟩ with
       |mk a b=>
        rw[hz] at hu0 hat;simp only at hu0 hat;rw[hu0,hat]
      ·show(Y2y _ _ _ _).dn=_;rw[close_dn];exact hd
     |false=>
      simp_all
    ·right
     rw[decide_eq_false he] at em;refine⟨rfl,rfl,fun h=>absurd h he, ?_⟩;rw[if_neg he,es,Bool.or_self,Bool.or_false];have ec:(Yk t q).2.c=(xpc t w' ⟨i+1,false⟩).bad:=by rw[em];rfl
     have E:=ends_f hcw hd (u:=(xpc t w' ⟨i+1,false⟩).bad) ec rfl;exact E
 |false=>
  have hat:=(Y8d q.lv _ hu1).2;have eu:xpc t q.lv ⟨i+1,false⟩=⟨i+1+(q.lv.length:Nat),false⟩:=by
   cases hz:xpc t q.lv ⟨i+1,false⟩ with
   |mk a b=>
    rw[hz] at hu1 hat;simp only at hu1 hat;rw[hu1,hat]
  have em:Yk t q=qSgB t (qU ⟨i+1+(q.lv.length:Nat),false⟩ q):=by
   rw[ef];unfold qSgn;rw[hbeg,if_neg (by simp)];rcases List.eq_nil_or_concat q.lv with hw|⟨w',x,hw⟩
   ·rw[if_pos (by exact hw),hw];simp only[Xd];rw[show i+1+((0:Nat):Int)=i+1 by omega]
   ·have hw2:q.lv=w'++[x]:=by grind
    have e1:(qU ⟨i+1,false⟩ q).lv.dropLast=w':=by show q.lv.dropLast=_;rw[hw2,X0v]
    have e2:(qU ⟨i+1,false⟩ q).lv.getLastD 0=x:=by show q.lv.getLastD 0=_;simp_all
    have e3:xpc t q.lv ⟨i+1,false⟩=xpc t [x] (xpc t w' ⟨i+1,false⟩):=by rw[hw2, ←xpc_app]
    have hh:hit t x (xpc t w' ⟨i+1,false⟩)=true:=by
     cases hh:hit t x (xpc t w' ⟨i+1,false⟩) with
     |true=>rfl
     |false=>rw[e3,Y6k,if_neg (by grind)] at hu1;cases hu1
    have e4:(xpc t w' ⟨i+1,false⟩).adv=⟨i+1+(q.lv.length:Nat),false⟩:=by rw[←eu,e3,Y6k,if_pos hh]
    rw[if_neg (by show ¬q.lv=[];simp_all),e1,e2];show(if(xpc t w' ⟨i+1,false⟩).wr=true then _ else if true=true∧hit t x (xpc t w' ⟨i+1,false⟩)=true then qSgB t (qU (xpc t w' ⟨i+1,false⟩).adv (qU ⟨i+1,false⟩ q)) else _)=_;rw[if_neg (by rw[(Y0g hh).1];simp),if_pos ⟨rfl,hh⟩,e4];rfl
  --the level that the operand may return to is not next
  have lB:((q.f.op=7∨q.f.op=8)∧q.base=1)→lvl t q.lv.dropLast i=(false,false):=fun he=>by
   rcases List.eq_nil_or_concat q.lv with hw|⟨w',x,hw⟩
   ·simp_all
   ·have hw2:q.lv=w'++[x]:=by grind
    have e3:xpc t q.lv ⟨i+1,false⟩=xpc t [x] (xpc t w' ⟨i+1,false⟩):=by rw[hw2, ←xpc_app]
    have hh:hit t x (xpc t w' ⟨i+1,false⟩)=true:=by
     cases hh:hit t x (xpc t w' ⟨i+1,false⟩) with
     |true=>rfl
     |false=>rw[e3,Y6k,if_neg (by grind)] at hu1;cases hu1
    have⟨h1,h2,h3⟩:=Y0g hh;have h4:=(Y8d w' _ h1).2;simp only at h4;have hx:=hv x (by simp_all);have hn:nxl t (i+1+(w'.length:Nat))=true:=by
     unfold nxl;rw[←h4,decide_eq_true h2,h3];rcases hx with h|h<;>rw[h]<;>rfl
    simp_all
  have l1:∀y:Int,lvl t (q.lv++[y]) i=if hit t y ⟨i+1+(q.lv.length:Nat),false⟩=true then(if nxl t (i+1+(q.lv.length:Nat)+1) then(false,false) else(true,false)) else(false,decide ((t.length:Int)≤i+1+(q.lv.length:Nat))):=fun y=>by
   rw[l16,lx,eu,Y6k,X4,Xc]
   by_cases hh:hit t y ⟨i+1+(q.lv.length:Nat),false⟩=true
   ·rw[if_pos hh,if_pos hh];have:i+1+((q.lv.length+1:Nat):Int)=i+1+(q.lv.length:Nat)+1:=by omega
    rw[this];rfl
   ·rw[if_neg hh,if_neg hh];rfl
  have ex:∀op c:Int,nxl t (i+1+(q.lv.length:Nat)+1)=true→Ends t true (qExp op c (qU ⟨i+1+(q.lv.length:Nat),false⟩ q)) false:=fun op c hn=>begin_nx (j:=i+1+(q.lv.length:Nat)+1) rfl hd hn
  by_cases h24:hit t 24 ⟨i+1+(q.lv.length:Nat),false⟩=true
  ·have h6:¬hit t 6 ⟨i+1+(q.lv.length:Nat),false⟩=true:=fun h=>by
    have:=(Y0g h24).2.2;have:=(Y0g h).2.2;omega
   have hlt:=(Y0g h24).2.1;simp only at hlt;have em2:Yk t q=(true,qExp 7 24 (qU ⟨i+1+(q.lv.length:Nat),false⟩ q)):=by rw[em];exact if_pos h24
   have e24:=l1 24;have e6:=l1 6;rw[if_pos h24] at e24;rw[if_neg h6,decide_eq_false (by omega)] at e6;cases hn:nxl t (i+1+(q.lv.length:Nat)+1) with
   |false=>
    simp_all
   |true=>
    rw[hn] at e24;refine .inr (.inr (.inr ?_));rw[e24,e6];refine⟨rfl,rfl,fun he=>by rw[lB he], ?_⟩;have:(((false:Bool)||false)||(if(q.f.op=7∨q.f.op=8)∧q.base=1 then(lvl t q.lv.dropLast i).2 else false))=false:=by
     grind
    have E:=Ends.f hcw hd em2 (ex 7 24 hn)
    simp_all
  ·by_cases h6:hit t 6 ⟨i+1+(q.lv.length:Nat),false⟩=true
   ·have hlt:=(Y0g h6).2.1;simp only at hlt;have em2:Yk t q=(true,qExp 8 6 (qU ⟨i+1+(q.lv.length:Nat),false⟩ q)):=by rw[em];exact(if_neg h24).trans (if_pos h6)
    have e24:=l1 24;have e6:=l1 6;rw[if_pos h6] at e6;rw[if_neg h24,decide_eq_false (by omega)] at e24;cases hn:nxl t (i+1+(q.lv.length:Nat)+1) with
    |false=>
     simp_all
    |true=>
     rw[hn] at e6;refine .inr (.inr (.inr ?_));rw[e24,e6];refine⟨rfl,rfl,fun he=>by rw[lB he], ?_⟩;have:(((false:Bool)||false)||(if(q.f.op=7∨q.f.op=8)∧q.base=1 then(lvl t q.lv.dropLast i).2 else false))=false:=by
      grind
     have E:=Ends.f hcw hd em2 (ex 8 6 hn)
     simp_all
   ·have e24:=l1 24;have e6:=l1 6;rw[if_neg h24] at e24;rw[if_neg h6] at e6;refine .inr (.inr (.inr ?_));rw[e24,e6];refine⟨rfl,rfl,fun he=>by rw[lB he], ?_⟩;have:((decide ((t.length:Int)≤i+1+(q.lv.length:Nat))||decide ((t.length:Int)≤i+1+(q.lv.length:Nat)))||(if(q.f.op=7∨q.f.op=8)∧q.base=1 then(lvl t q.lv.dropLast i).2 else false))=decide ((t.length:Int)≤i+1+(q.lv.length:Nat)):=by
     grind
    show Ends t false q ((decide _||decide _)||_);rw[this];have ec:(Yk t q).2.c=⟨i+1+(q.lv.length:Nat),true⟩:=by
     rw[em];have:qSgB t (qU ⟨i+1+(q.lv.length:Nat),false⟩ q)=(true,qBad (qU ⟨i+1+(q.lv.length:Nat),false⟩ q)):=(if_neg h24).trans (if_neg h6);rw[this];rfl
    exact ends_f hcw hd ec rfl
end
section
variable {t:List Int} {u:Cu} {X:Y0}
def RX (t:List Int) (u:Cu) (X:Y0):Prop:=(u.wr=false∧X=Rd t u.at_)∨(u.wr=true∧∃a,X=Sp t a (decide ((t.length:Int)≤u.at_))∧0≤a∧a≤100000)
theorem RX.expect(ht:t.length≤1000)(h:RX t u X)(o:CuOk t u)(c:Int):∃Y,Yg X c=some Y∧RX t (xpc t [c] u) Y:=by
 have h0:=o.a0;have h1:=o.a1;rcases h with⟨hw,rfl⟩|⟨hw,a,rfl,a0,a1⟩
 ·have eu:u=⟨u.at_,false⟩:=by cases u;simp only at hw;rw[hw]
  by_cases hh:hit t c u=true
  ·refine⟨_,expect_hit h0 (by omega) (by grind), ?_⟩;rw[Y6k,if_pos hh];exact .inl ⟨hw,rfl⟩
  ·have hh':hit t c u=false:=by grind
   rw[Y6k,if_neg hh]
   by_cases hl:u.at_<(t.length:Nat)
   ·refine⟨_,expect_no h0 (by omega) hl (by grind),.inr ⟨rfl,u.at_+1, ?_,by omega,by omega⟩⟩;rw[decide_eq_false (by show ¬(t.length:Int)≤u.at_;omega)]
   ·refine⟨_,expect_end (by omega) c,.inr ⟨rfl,u.at_, ?_,by omega,by omega⟩⟩;rw[decide_eq_true (by show(t.length:Int)≤u.at_;omega)]
 ·exact⟨_,Y8t _ c,.inr ⟨by rw[xpc_wr _ hw];exact hw,a,by rw[xpc_wr _ hw],a0,a1⟩⟩
theorem numU_of_wr(hw:u.wr=true):numU t u=u:=by
 have hc:chrI t 10 u= -1:=by unfold chrI;rw[if_pos (.inl hw)]
 have e:dgs t 5 0 0 u=(0,0,u):=by rw[dgs,if_pos (.inl rfl),if_pos (by omega)]
 rw[numU,e,if_pos rfl];cases u;simp only at hw;rw[hw];rfl
theorem RX.number(ht:t.length≤1000)(h:RX t u X)(o:CuOk t u):∃n Y,Y0i X=some ([⟨0,n⟩],Y)∧RX t (numU t u) Y∧(u.wr=false→n=numN t u):=by
 have h0:=o.a0;have h1:=o.a1;rcases h with⟨hw,rfl⟩|⟨hw,a,rfl,a0,a1⟩
 ·have eu:u=⟨u.at_,false⟩:=by cases u;simp only at hw;rw[hw]
  have e:=number_eq (t:=t) (i:=u.at_) (by omega) h0 h1;rw[←eu] at e;refine⟨_,_,e, ?_,fun _=>rfl⟩;have on:=o.numU;have g0:=on.a0;have g1:=on.a1;cases hn:(numU t u).wr with
  |true=>rw[if_pos rfl];exact .inr ⟨hn,_,rfl,g0,by omega⟩
  |false=>rw[if_neg (by simp)];exact .inl ⟨hn,rfl⟩
 ·exact⟨_,_,number_Sp _,by rw[numU_of_wr hw];exact .inr ⟨hw,a,rfl,a0,a1⟩,fun h=>by simp_all⟩
theorem RX.peek(h:RX t u X)(o:CuOk t u){c:Int}(hc:c≠64):∃x,Yr X=some x∧(x=c↔hit t c u=true):=by
 rcases h with⟨hw,rfl⟩|⟨hw,a,rfl,a0,a1⟩
 ·have eu:u=⟨u.at_,false⟩:=by cases u;simp only at hw;rw[hw]
  refine⟨_,peek_eq o.a0, ?_⟩;rw[eu];exact(hit_peek hc).symm
 ·refine⟨_,peek_Sp _, ?_⟩
  constructor
  ·omega
  ·intro e;have:=(Y0g e).1;simp_all
theorem sumL_wr':∀(k:Nat) (m:List Int) {u:Cu},u.wr=true→(sumL t k m u).2.wr=true
 |0,m,u,h=>h
 |k+1,m,u,h=>by
  rw[sumL,if_neg (by unfold hit;grind)];exact h
theorem sumL_len:∀(k:Nat) (m:List Int) (u:Cu),m.length≤(sumL t k m u).1.length
 |0,m,u=>by simp[sumL]
 |k+1,m,u=>by
  rw[sumL]
  split
  ·have:=sumL_len k (m++[numN t (xpc t [60] u.adv)]) (numU t (xpc t [60] u.adv))
   grind
  ·simp
def nd0 (n:Int):Y1:=⟨0,n⟩
theorem list_only(ht:t.length≤1000)(F:Y0→(List Int)→Int→(List (List Int))→Option ((List Y1)×Y0))(w:List Int):∀(j:Nat) (m:Nat) (l:List Int) (out:List Y1) {u:Cu} {X:Y0},RX t u X→CuOk t u→out.length=l.length→(u.wr=false→out=l.map nd0)→l.length+j=5→1≤l.length→j<m→
  ∃out' Y,Y1w 5 (fun s=>iter (fun loop (s:Y0×(List Y1)×Int)=>Y0e F w 5 true loop s.1 s.2.1 s.2.2) m s) (l.length:Int) X out=some (out',((sumL t j l u).1.length:Int),Y)∧RX t (sumL t j l u).2 Y∧out'.length=(sumL t j l u).1.length∧((sumL t j l u).2.wr=false→out'=(sumL t j l u).1.map nd0)∧(hit t 32 (sumL t j l u).2=false∨(sumL t j l u).1.length=5)
 |0,m,l,out,u,X,hX,o,ho,hm,hl,h1,hj=>by
  have⟨x,hx,hi⟩:=hX.peek o (c:=32) (by omega);unfold Y1w;rw[hx,X1];have e5:((l.length:Int)==5)=true:=by simp_all
  rw[e5];have:(cond (x !=32) true true)=true:=by cases (x !=32)<;>rfl
  rw[this,cond_true,sumL]
  grind
 |j+1,0,l,out,u,X,hX,o,ho,hm,hl,h1,hj=>by omega
 |j+1,m+1,l,out,u,X,hX,o,ho,hm,hl,h1,hj=>by
  have⟨x,hx,hi⟩:=hX.peek o (c:=32) (by omega);unfold Y1w;rw[hx,X1];have e5:((l.length:Int)==5)=false:=by grind
  rw[e5]
  by_cases hh:hit t 32 u=true
  ·have ex:x=32:=hi.2 hh;have hw:u.wr=false:=(Y0g hh).1;rw[ex];simp only[bne_self_eq_false,cond_false];rcases hX with⟨_,rfl⟩|⟨hw',_⟩
   ·have h0:=o.a0;have hlt:=(Y0g hh).2.1;have oa:=o.adv hlt;rw[Y1k (by grind)];unfold Y6c;rw[Y1k (by omega)];dsimp only;rw[Yw];show ∃out' Y,Y0e F w 5 true _ (Rd t (u.at_+1)) out ((l.length:Int)+1)=_∧_;unfold Y0e;rw[cond_true];have hA:RX t u.adv (Rd t (u.at_+1)):=.inl ⟨hw,rfl⟩;have⟨Y1,y1,r1⟩:=hA.expect ht oa 60;have o1:=oa.xpc [60];have⟨n,Y2,y2,r2,n2⟩:=r1.number ht o1;have o2:=o1.numU;rw[y1,X1,y2,X1,Y1j (by grind)];have es:sumL t (j+1) l u=sumL t j (l++[numN t (xpc t [60] u.adv)]) (numU t (xpc t [60] u.adv)):=by rw[sumL,if_pos hh]
    rw[es];have el:((l.length:Int)+1)=((l++[numN t (xpc t [60] u.adv)]).length:Int):=by simp_all
    rw[el];refine list_only ht F w j m (l++[numN t (xpc t [60] u.adv)]) (out++[⟨0,n⟩]) r2 o2 (by simp[ho]) (fun hw2=> ?_) (by omega) (by simp) (by omega);have hw1:(xpc t [60] u.adv).wr=false:=numU_wr hw2;rw[hm hw,n2 hw1];simp[nd0]
   simp_all
  ·have ex:(x !=32)=true:=by
    simp_all
   rw[ex,cond_true,cond_true];have es:sumL t (j+1) l u=(l,u):=by rw[sumL,if_neg hh]
   grind
theorem list_first(ht:t.length≤1000)(F:Y0→(List Int)→Int→(List (List Int))→Option ((List Y1)×Y0))(w:List Int){i:Int}(h0:0≤i)(hi:i≤(t.length:Nat))(m:Nat)(hm:4<m):∃out Y,iter (fun loop (s:Y0×(List Y1)×Int)=>Y0e F w 5 true loop s.1 s.2.1 s.2.2) (m+1) (Rd t i,[],(1:Int))=some (out,((sumA t ⟨i,false⟩).1.length:Int),Y)∧
  RX t (sumA t ⟨i,false⟩).2 Y∧out.length=(sumA t ⟨i,false⟩).1.length∧((sumA t ⟨i,false⟩).2.wr=false→out=(sumA t ⟨i,false⟩).1.map nd0)∧(hit t 32 (sumA t ⟨i,false⟩).2=false∨(sumA t ⟨i,false⟩).1.length=5):=by
 have o:CuOk t ⟨i,false⟩:=⟨h0,hi⟩;have hR:RX t ⟨i,false⟩ (Rd t i):=.inl ⟨rfl,rfl⟩;have⟨Y1,y1,r1⟩:=hR.expect ht o 60;have o1:=o.xpc [60];have⟨n1,Y2,y2,r2,n2⟩:=r1.number ht o1;have o2:=o1.numU;have⟨out,Y,e1,e2,e3,e4,e5⟩:=list_only ht F w 4 m [numN t (xpc t [60] ⟨i,false⟩)] [⟨0,n1⟩] r2 o2 rfl (fun hw=>by rw[n2 (numU_wr hw)];rfl) rfl (by simp) hm;refine⟨out,Y, ?_,e2,e3,e4,e5⟩;rw[Yw];show Y0e F w 5 true _ (Rd t i) [] 1=_;unfold Y0e;rw[cond_true,y1,X1,y2,X1,Y1j (by simp)];exact e1
theorem sum_eq(ht:t.length≤1000)(n:Nat){i:Int}(h0:0≤i)(hi:i≤(t.length:Nat)):∃l Y,Y0a (n+2) (Rd t i)=some (l,Y)∧RX t (sumU t ⟨i,false⟩) Y∧l.length≤7∧((sumU t ⟨i,false⟩).wr=false→l=(sumT t ⟨i,false⟩).flat):=by
 have o:CuOk t ⟨i,false⟩:=⟨h0,hi⟩;have o1:=o.xpc [60];have o2:=o1.numU;have⟨out,Y,e1,e2,e3,e4,e5⟩:=list_first ht (Y7 n) [] h0 hi 999999 (by omega);have eL:Yl (n+1) (Rd t i) [] 5 true=some (out,((sumA t ⟨i,false⟩).1.length:Int),Y):=by
  rw[Yl];unfold Y4k;exact e1
 have len5:(sumA t ⟨i,false⟩).1.length≤5:=(sumL_ge (t:=t) 4 _ _).2.1;have len1:1≤(sumA t ⟨i,false⟩).1.length:=sumL_len (t:=t) 4 [numN t (xpc t [60] ⟨i,false⟩)] _;have oA:CuOk t (sumA t ⟨i,false⟩).2:=(sumL_ge (t:=t) 4 _ _).2.2 o2
 --behind the list
 have key:∀{Z:Y0} {v:Cu},RX t v Z→CuOk t v→(v.wr=false→(sumA t ⟨i,false⟩).2.wr=false)→xpc t [51,60] v=sumV t ⟨i,false⟩→∃l Y,Y21 (out,((sumA t ⟨i,false⟩).1.length:Int),Y) Z out=some (l,Y)∧RX t (sumU t ⟨i,false⟩) Y∧l.length≤7∧((sumU t ⟨i,false⟩).wr=false→l=(sumT t ⟨i,false⟩).flat):=by
  intro Z v hZ ov hv ev;have⟨Z1,z1,q1⟩:=hZ.expect ht ov 51;have p1:=ov.xpc [51];have⟨Z2,z2,q2⟩:=q1.expect ht p1 60;have p2:=p1.xpc [60];have e12:xpc t [60] (xpc t [51] v)=sumV t ⟨i,false⟩:=by rw[←xpc_app];exact ev
  rw[e12] at q2 p2;have⟨m,Z3,z3,q3,m3⟩:=q2.number ht p2;have p3:=p2.numU;have⟨Z4,z4,q4⟩:=q3.expect ht p3 34;have key2:∀W:Y0,Y21 (out,((sumA t ⟨i,false⟩).1.length:Int),W) Z out=some (⟨12,((sumA t ⟨i,false⟩).1.length:Int)⟩::(out++[⟨0,m⟩]),Z4):=fun W=>by
   unfold Y21;rw[z1,X1,z2,X1,z3,X1,Y1j (by grind),z4,X1,Y7r (by grind)]
   rfl
  refine⟨_,Z4,key2 Z4,q4,by grind,fun hw=> ?_⟩;have w1:(numU t (sumV t ⟨i,false⟩)).wr=false:=(Y8d [34] _ hw).1;have w2:=numU_wr w1;have w3:v.wr=false:=by
   rw[←ev] at w2;exact(Y8d [51,60] _ w2).1
  rw[e4 (hv w3),m3 w2,sumT,Tr.flat,flatL_map];have:∀l:List Int,(l.map numT).map Tr.flat=l.map fun n=>[nd0 n]:=fun l=>by
   rw[X1o];congr 1
  rw[this];have:∀l:List Int,(l.map fun n=>[nd0 n]).flatten=l.map nd0:=fun l=>by
   induction l with
   |nil=>rfl
   |cons a l ih=>simp[ih]
  rw[this];simp[nd0]
 have fin:∀{l:List Y1} {W:Y0} {Z:Y0},Y21 (out,((sumA t ⟨i,false⟩).1.length:Int),W) Z out=some (l,W)→Y21 (out,((sumA t ⟨i,false⟩).1.length:Int),Y) Z out=some (l,W):=fun h=>h;rw[Y0a];unfold Y7u;rw[eL,X1];simp only[]
 by_cases h2:(sumA t ⟨i,false⟩).1.length<2
 ·rw[Y2q (by grind)];have hh:hit t 32 (sumA t ⟨i,false⟩).2=false:=by
   grind
  have⟨Z,z,rz⟩:=e2.expect ht oA 32;rw[Y6k,if_neg (by grind)] at rz;rw[z,X1];have⟨l,W,k1,k2,k3,k4⟩:=key rz oA.bad (fun h=>by cases h) (by rw[sumV,if_pos h2])
  grind
 ·rw[Y3w (by grind)];have⟨l,W,k1,k2,k3,k4⟩:=key e2 oA (fun h=>h) (by rw[sumV,if_neg h2])
  grind
theorem simple_stop(n:Nat)(a:Int)(s:Bool)(w:List Int):Yp (n+1) (Sp t a s) w=some ([],false,Sp t a s):=by
 rw[Yp];unfold Y3r;rw[Y5e,X1];simp only[X1q,cond_false];unfold Y1e;rw[peek_Sp,X1,Y5e,X1,cond_true]
theorem operand_stop(n:Nat)(a:Int)(s:Bool)(w:List Int)(b:List (List Int)):Yx (n+2) (Sp t a s) w b=some ([],Sp t a s):=by
 rw[Yx];unfold Y4u;rw[simple_stop,X1];simp only[];rw[Y5e,X1,cond_true]
theorem formula_stop(n:Nat)(a:Int)(s:Bool)(w:List Int)(p:Int)(b:List (List Int)):Y7 (n+3) (Sp t a s) w p b=some ([],Sp t a s):=by
 rw[Y7];unfold Y4v;rw[operand_stop,X1,show(1000000:Nat)=999999+1 from rfl,Yw];show Yt _ w p b _ (Sp t a s) []=_;unfold Yt;rw[Y5e,X1]
 rfl
end
end Go.Proofs.YtfpcbalkioolmaaDoor
