/- Own work. -/
import Derived.Test.YtfpcbalkioolmaaDoorMrA
set_option linter.unusedSimpArgs false
set_option linter.unusedVariables false
namespace Go.Proofs.YtfpcbalkioolmaaDoor
open Go.Abs
section
variable {t:List Int}
structure Cx (t:List Int) (i:Int) (q:Qs):Prop where
 c:q.c=⟨i,false⟩
 dn:q.dn=false
 lv:LvOk q.lv
 hop:q.f.op=7∨q.f.op=8→q.lv≠[]
 ll:((q.lv.length:Nat):Int)≤i
 i0:0≤i
 i1:i≤(t.length:Nat)
def bk (q:Qs):List (List Int):=if q.f.op=7∨q.f.op=8 then[q.lv.dropLast] else[]
def lb (t:List Int) (i:Int):Int:=1010*((t.length:Nat)-i+1)
abbrev qB (q:Qs) (β:Int):Qs:={q with base:=β}
def Stopd (t:List Int) (i:Int) (q:Qs) (f:List Y1) (X:Y0):Prop:=∃a s,X=Sp t a s∧0≤a∧a≤100000∧(f.length:Int)≤lb t i∧∀β,Ends t true (qB q β) s
def TRk (t:List Int) (i j:Int) (T:Tr):Prop:=i<j∧j≤(t.length:Nat)∧(((nd T:Nat):Int)≤j-i∧opn T≤13)
def EOk (t:List Int) (j b:Int) (q:Qs):Prop:=hit t 16 ⟨j,false⟩=true→b=0∨((q.f.op=7∨q.f.op=8)∧(lvl t q.lv.dropLast j).1=true)
def sgc (o:Int):Int:=(Y6a o).headD 0
def NoP (t:List Int) (j p:Int):Prop:=∀o,2≤o∧o≤5→p≤Y2k o→hit t (sgc o) ⟨j,false⟩=false
def Rch (t:List Int) (q:Qs) (T:Tr) (j p:Int):Prop:=∀P:Qs→Prop,(∀us rs b,(b=0∨b=1)→EOk t j b q→(∀m,p≤m→m≤pr (opn T)→qJ m rs us=(T::q.f.ts,q.f.ss))→RunP t false ⟨⟨j,false⟩,q.F,{q.f with ts:=us,ss:=rs},q.lv,b,false⟩ P)→RunP t true q P
def SimS (t:List Int) (n:Nat) (i:Int) (q:Qs):Prop:=∃f br X,Yp n (Rd t i) q.lv=some (f,br,X)∧(Stopd t i q f X∨∃T j,X=Rd t j∧f=T.flat∧TRk t i j T∧br= !(Y2r (opn T))∧∀(β:Int) (P:Qs→Prop),RunP t false (Y1z T (if br=true then 2 else 1) (qU ⟨j,false⟩ q)) P→RunP t true (qB q β) P)
def SimO (t:List Int) (n:Nat) (i:Int) (q:Qs):Prop:=∃f X,Yx n (Rd t i) q.lv (bk q)=some (f,X)∧(Stopd t i q f X∨∃T j b,X=Rd t j∧f=T.flat∧TRk t i j T∧pr (opn T)=4∧(b=0∨b=1)∧EOk t j b q∧∀(β:Int) (P:Qs→Prop),RunP t false (Y1z T b (qU ⟨j,false⟩ q)) P→RunP t true (qB q β) P)
def SimF (t:List Int) (n:Nat) (i p:Int) (q:Qs):Prop:=∃f X,Y7 n (Rd t i) q.lv p (bk q)=some (f,X)∧(Stopd t i q f X∨∃T j,X=Rd t j∧f=T.flat∧TRk t i j T∧p≤pr (opn T)∧NoP t j p∧∀β,Rch t (qB q β) T j p)
def FSq (t:List Int) (k:Nat):Prop:=∀(n:Nat) (i p:Int) (q:Qs),10*k+10≤n→Cx t i q→(t.length:Int)-i≤k→1≤p→p≤4→HD q.f.ss p→SimF t n i p q
theorem prec_eq{o:Int}(h:2≤o∧o≤5):Y0m o=some (Y2k o):=by
 have:o=2∨o=3∨o=4∨o=5:=by omega
 rcases this with h|h|h|h<;>subst h<;>rfl
theorem oper_eq{o:Int}(h:2≤o∧o≤5):Y4w o=some (Y6a o):=by
 have:o=2∨o=3∨o=4∨o=5:=by omega
 rcases this with h|h|h|h<;>subst h<;>rfl
theorem lprec_rng{o:Int}(h:2≤o∧o≤5):1≤Y2k o∧Y2k o≤3:=by
 have:o=2∨o=3∨o=4∨o=5:=by omega
 rcases this with h|h|h|h<;>subst h<;>decide
theorem next_eq{j:Int}(h0:0≤j):∃o,Y5h (Rd t j)=some o∧((o= -1∧∀o',2≤o'∧o'≤5→hit t (sgc o') ⟨j,false⟩=false)∨((2≤o∧o≤5)∧hit t (sgc o) ⟨j,false⟩=true)):=by
 unfold Y5h;rw[peek_eq h0,X1];generalize hx:(if j<(t.length:Nat) then cAt t j else 64)=x;have hi:∀c:Int,c≠64→(hit t c ⟨j,false⟩=true↔x=c):=fun c hc=>by rw[←hx];exact hit_peek hc
 by_cases h1:x=44
 ·rw[Y2q (by grind)];exact⟨2,rfl,.inr ⟨by omega,(hi 44 (by omega)).2 h1⟩⟩
 ·rw[Y3w (by simp_all)]
  by_cases h2:x=36
  ·rw[Y2q (by grind)];exact⟨3,rfl,.inr ⟨by omega,(hi 36 (by omega)).2 h2⟩⟩
  ·rw[Y3w (by simp_all)]
   by_cases h3:x=33
   ·rw[Y2q (by grind)];exact⟨4,rfl,.inr ⟨by omega,(hi 33 (by omega)).2 h3⟩⟩
   ·rw[Y3w (by simp_all)]
    by_cases h4:x=0
    ·rw[Y2q (by grind)];exact⟨5,rfl,.inr ⟨by omega,(hi 0 (by omega)).2 h4⟩⟩
    ·rw[Y3w (by simp_all)];refine⟨-1,rfl,.inl ⟨rfl,fun o' ho=> ?_⟩⟩;have:o'=2∨o'=3∨o'=4∨o'=5:=by omega
     rcases this with h|h|h|h<;>subst h
     ·exact X0o.2 fun h=>h1 ((hi 44 (by omega)).1 h)
     ·exact X0o.2 fun h=>h2 ((hi 36 (by omega)).1 h)
     ·exact X0o.2 fun h=>h3 ((hi 33 (by omega)).1 h)
     ·exact X0o.2 fun h=>h4 ((hi 0 (by omega)).1 h)
theorem ops_loop(ht:t.length≤1000)(F:Y0→(List Int)→Int→(List (List Int))→Option ((List Y1)×Y0))(w:List Int)(b:List (List Int))(L:(Y0×(List Y1))→Option ((List Y1)×Y0))(o:Int)(f:List Y1)(s:List Int):∀(m k:Nat) {u:Cu} {X:Y0},RX t u X→CuOk t u→k≤s.length→s.length<m+k→s.length≤10→
  ∃Y,RX t (xpc t (s.drop k) u) Y∧iter (fun loop (x:Y0×(List Y1)×Int)=>Y0v F w b L o s loop x.1 x.2.1 x.2.2) m (X,f,(k:Int))=((Y0m o).bind fun x21=>G (inR (x21+(1:Int)))<|(F Y w (x21+(1:Int)) b).bind fun x23=>G (room 16 (f.length+x23.1.length))<|(Y29 o (0:Int) (f++x23.1)).bind fun x25=>L (x23.2,x25))
 |0,k,u,X,hX,hu,h1,h2,h3=>by omega
 |m+1,k,u,X,hX,hu,h1,h2,h3=>by
  rw[Yw]
  by_cases hk:k<s.length
  ·have⟨Y,y1,y2⟩:=hX.expect ht hu (s.getD k 0);have⟨Z,z1,z2⟩:=ops_loop ht F w b L o f s m (k+1) y2 (hu.xpc _) (by omega) (by omega) h3;refine⟨Z, ?_, ?_⟩
   ·rw[X06 hk];have e:s[k]=s.getD k 0:=by simp_all
    rw[e,show s.getD k 0::s.drop (k+1)=[s.getD k 0]++s.drop (k+1) from rfl,xpc_app];exact z1
   ·rw[←z2];show Y0v F w b L o s _ X f (k:Int)=_;unfold Y0v;rw[Y2q (by simp_all),Y2s (by omega),Xl,y1,X1,Y1k (by omega),show((k:Int)+1)=((k+1:Nat):Int) by omega]
  ·have:k=s.length:=by omega
   subst this;refine⟨X,by rw[List.drop_length];exact hX, ?_⟩;show Y0v F w b L o s _ X f (s.length:Int)=_;unfold Y0v;rw[Y3w (by simp)]
theorem follow_sign{q:Qs}{j:Int}{o:Int}(ho:2≤o∧o≤5)(hc:q.c=⟨j,false⟩)(hb:q.base=0∨q.base=1)(h:hit t (sgc o) ⟨j,false⟩=true):Yk t q=(true,Y9f o (qU (xpc t (Y6a o) ⟨j,false⟩) q)):=by
 have hx:=(Y0g h).2.2;have hl:=(Y0g h).2.1;simp only at hx hl;have no:∀c:Int,c≠sgc o→hit t c ⟨j,false⟩=false:=fun c hc'=>by
  unfold hit
  grind
 unfold Yk;rw[hc];have:o=2∨o=3∨o=4∨o=5:=by omega
 rcases this with h2|h2|h2|h2<;>subst h2
 ·have h':hit t 44 ⟨j,false⟩=true:=h;rw[no 16 (by decide),if_neg (by simp),Vn,if_pos h'];have:xpc t (Y6a 2) ⟨j,false⟩=Cu.adv ⟨j,false⟩:=by show xpc t [44] _=_;rw[Y6k,if_pos h']
  rw[this]
 ·have h':hit t 36 ⟨j,false⟩=true:=h;rw[no 16 (by decide),if_neg (by simp),Vn,no 44 (by decide),if_neg (by simp),if_pos h'];have:xpc t (Y6a 3) ⟨j,false⟩=Cu.adv ⟨j,false⟩:=by show xpc t [36] _=_;rw[Y6k,if_pos h']
  rw[this]
 ·have h':hit t 33 ⟨j,false⟩=true:=h;rw[no 16 (by decide),if_neg (by simp),Vn,no 44 (by decide),if_neg (by simp),no 36 (by decide),if_neg (by simp),if_pos h'];have:xpc t (Y6a 4) ⟨j,false⟩=Cu.adv ⟨j,false⟩:=by show xpc t [33] _=_;rw[Y6k,if_pos h']
  rw[this]
 ·have h':hit t 0 ⟨j,false⟩=true:=h;rw[no 16 (by decide),if_neg (by simp),Vn,no 44 (by decide),if_neg (by simp),no 36 (by decide),if_neg (by simp),no 33 (by decide),if_neg (by simp),if_pos h'];have:xpc t (Y6a 5) ⟨j,false⟩=xpc t [54,0] (Cu.adv ⟨j,false⟩):=by show xpc t [0,54,0] _=_;rw[xpc,if_pos h']
  rw[this]
theorem loop_sim(ht:t.length≤400){k:Nat}(ih:∀k',k'<k→FSq t k'){i p:Int}{q:Qs}(C:Cx t i q)(hk:(t.length:Int)-i≤k)(hp:1≤p)(hp4:p≤4)(hd:HD q.f.ss p)(n:Nat)(hn:10*k+9≤n):∀(m:Nat) (T:Tr) (j:Int),TRk t i j T→p≤pr (opn T)→NoP t j (pr (opn T)+1)→(∀β,Rch t (qB q β) T j p)→(t.length:Int)-j+2≤m→
  ∃f X,iter (fun loop (s:Y0×(List Y1))=>Yt (Y7 n) q.lv p (bk q) loop s.1 s.2) m (Rd t j,T.flat)=some (f,X)∧(Stopd t i q f X∨∃T j,X=Rd t j∧f=T.flat∧TRk t i j T∧p≤pr (opn T)∧NoP t j p∧∀β,Rch t (qB q β) T j p)
 |0,T,j,hT,hpT,hN,hR,hm=>by have:=hT.2.1;omega
 |m+1,T,j,hT,hpT,hN,hR,hm=>by
  have i0:=C.i0;have hT1:=hT.1;have hT2:=hT.2.1;have hT3:=hT.2.2;rw[Yw];show ∃f X,Yt (Y7 n) q.lv p (bk q) _ (Rd t j) T.flat=some (f,X)∧_;unfold Yt;rw[Y5f,X1];simp only[X1g,cond_true];have⟨o,ho,hcase⟩:=next_eq (t:=t) (j:=j) (by omega);rw[ho,X1];rcases hcase with⟨hm1,hno⟩|⟨hor,hit_o⟩
  ·subst hm1;have e1:(cond (!(decide ((-1:Int)<0))) (Y0m (-1)) (some (0:Int)))=some 0:=rfl;rw[e1,X1];have e2:(cond (decide ((-1:Int)<(0:Int))) true (decide ((0:Int)<p)))=true:=rfl;rw[e2,cond_true];exact⟨_,_,rfl,.inr ⟨T,j,rfl,rfl,hT,hpT,fun o' h1 _=>hno o' h1,hR⟩⟩
  ·have hlp:=lprec_rng hor;have e1:(cond (!(decide (o<(0:Int)))) (Y0m o) (some (0:Int)))=some (Y2k o):=by
    rw[decide_eq_false (by omega)];exact prec_eq hor
   rw[e1,X1,decide_eq_false (by omega),cond_false]
   by_cases hlt:Y2k o<p
   ·rw[decide_eq_true hlt,cond_true];refine⟨_,_,rfl,.inr ⟨T,j,rfl,rfl,hT,hpT,fun o' h1 h2=> ?_,hR⟩⟩
    --another operator is not next
    refine X0o.2 fun h=> ?_;have a:=(Y0g h).2.2;have b:=(Y0g hit_o).2.2;have:sgc o'=sgc o:=by rw[←a, ←b]
    have e:o'=o:=by
     have h3:o'=2∨o'=3∨o'=4∨o'=5:=by omega
     have h4:o=2∨o=3∨o=4∨o=5:=by omega
     rcases h3 with h3|h3|h3|h3<;>rcases h4 with h4|h4|h4|h4<;>subst h3<;>subst h4<;>first|rfl|(exact absurd this (by decide))
    grind
   ·rw[decide_eq_false hlt,cond_false,oper_eq hor,X1];have hpo:Y2k o≤pr (opn T):=by
     refine Int.not_lt.1 fun h=> ?_;have:=hN o hor (by omega)
     simp_all
    have oj:CuOk t ⟨j,false⟩:=⟨by grind,hT2⟩;have sl:(Y6a o).length≤3∧1≤(Y6a o).length:=by
     have h4:o=2∨o=3∨o=4∨o=5:=by omega
     rcases h4 with h4|h4|h4|h4<;>subst h4<;>decide
    have⟨Y,y1,y2⟩:=ops_loop (t:=t) (by omega) (Y7 n) q.lv (bk q) (fun s=>iter (fun loop (s:Y0×(List Y1))=>Yt (Y7 n) q.lv p (bk q) loop s.1 s.2) m s) o T.flat (Y6a o) 1000000 0 (u:=⟨j,false⟩) (X:=Rd t j) (.inl ⟨rfl,rfl⟩) oj (by omega) (by omega) (by omega);have hb2:iter (fun loop (s:Y0×(List Y1)×Int)=>Y0v (Y7 n) q.lv (bk q) (fun s=>iter (fun loop (s:Y0×(List Y1))=>Yt (Y7 n) q.lv p (bk q) loop s.1 s.2) m s) o (Y6a o) loop s.1 s.2.1 s.2.2) 1000000 (Rd t j,T.flat,(0:Int))=_:=y2;rw[X1b] at y1
    --what the loop comes to
    have fl:T.flat.length=nd T:=rfl;obtain⟨n',rfl⟩:∃n',n=n'+3:=⟨n-3,by omega⟩;have stopL:∀(a:Int) (s:Bool) (g:List Y1),(1:Nat)≤m→iter (fun loop (s:Y0×(List Y1))=>Yt (Y7 (n'+3)) q.lv p (bk q) loop s.1 s.2) m (Sp t a s,g)=some (g,Sp t a s):=fun a s g h1=>by
     obtain⟨m',rfl⟩:∃m',m=m'+1:=⟨m-1,by omega⟩;rw[Yw];show Yt _ q.lv p (bk q) _ (Sp t a s) g=_;unfold Yt;rw[Y5e,X1];rfl
    have toF:∀{s:Bool},(∀us rs b,(b=0∨b=1)→EOk t j b q→(∀m,p≤m→m≤pr (opn T)→qJ m rs us=(T::q.f.ts,q.f.ss))→Ends t false ⟨⟨j,false⟩,q.F,{q.f with ts:=us,ss:=rs},q.lv,b,false⟩ s)→∀β,Ends t true (qB q β) s:=fun h β=>hR β _ h;have e21:∀L:(Y0×(List Y1))→Option ((List Y1)×Y0),((Y0m o).bind fun x21=>G (inR (x21+(1:Int)))<|(Y7 (n'+3) Y q.lv (x21+(1:Int)) (bk q)).bind fun x23=>G (room 16 (T.flat.length+x23.1.length))<|(Y29 o (0:Int) (T.flat++x23.1)).bind fun x25=>L (x23.2,x25))=((Y7 (n'+3) Y q.lv (Y2k o+(1:Int)) (bk q)).bind fun x23=>G (room 16 (T.flat.length+x23.1.length))<|(Y29 o (0:Int) (T.flat++x23.1)).bind fun x25=>L (x23.2,x25)):=fun L=>by
     rw[prec_eq hor,X1,Y1k (by omega)]
    rcases y1 with⟨hw,rfl⟩|⟨hw,a,rfl,a0,a1⟩
    · --the operator stands there
     have hat:=(Y8d (Y6a o) _ hw).2;simp only at hat;have ob:=(oj.xpc (Y6a o)).a1;have eu:xpc t (Y6a o) ⟨j,false⟩=⟨j+((Y6a o).length:Nat),false⟩:=by
      cases hz:xpc t (Y6a o) ⟨j,false⟩ with
      |mk a b=>rw[hz] at hw hat;simp only at hw hat;rw[hw,hat]
     rw[hat] at ob;have E0:=hb2;rw[e21] at E0;simp only[hat] at E0
     --the state behind the sign,for any way to get there
     let q2:Qs:=⟨⟨j+((Y6a o).length:Nat),false⟩,q.F,{q.f with ts:=T::q.f.ts,ss:=o::q.f.ss},q.lv,0,false⟩
     have C2:∀b:Int,Cx t (j+((Y6a o).length:Nat)) {q2 with base:=b}:=fun b=>⟨rfl,rfl,C.lv,C.hop,by have:=C.ll;grind,by omega,ob⟩;have step:∀us rs b,(b=0∨b=1)→(∀m,p≤m→m≤pr (opn T)→qJ m rs us=(T::q.f.ts,q.f.ss))→Yk t ⟨⟨j,false⟩,q.F,{q.f with ts:=us,ss:=rs},q.lv,b,false⟩=(true,{q2 with base:=b}):=fun us rs b hb hJ=>by
      rw[follow_sign hor rfl hb hit_o,eu];have:=hJ (Y2k o) (by omega) hpo;show(true,Y9f o (qU _ ⟨⟨j,false⟩,q.F,{q.f with ts:=us,ss:=rs},q.lv,b,false⟩))=_;unfold Y9f qJoin qU;simp only[];rw[this]
     have kk:(t.length:Int)-(j+((Y6a o).length:Nat))≤((k-1:Nat):Int):=by omega
     have⟨g,X2,hF,hres⟩:SimF t (n'+3) (j+((Y6a o).length:Nat)) (Y2k o+1) q2:=ih (k-1) (by omega) (n'+3) _ _ _ (by omega) (C2 0) kk (by omega) (by omega) (fun o' ho'=>by
      grind)
     have hF':Y7 (n'+3) (Rd t (j+((Y6a o).length:Nat))) q.lv (Y2k o+1) (bk q)=some (g,X2):=hF;rw[hF',X1] at E0;rcases hres with⟨a,s,rfl,a0,a1,hl,hE⟩|⟨T2,j2,rfl,rfl,hT',hp2,hN2,hR2⟩
     ·have l1:(g.length:Int)≤500000:=by unfold lb at hl;omega
      rw[Y1j (by grind),Y7r (by grind),X1,stopL a s _ (by omega)] at E0;refine⟨_,_,E0,.inl ⟨a,s,rfl,a0,a1, ?_, ?_⟩⟩
      ·simp only[X7,X4];unfold lb at hl⊢;omega
      ·refine toF fun us rs b hb _ hJ=> ?_;exact(hE b).f rfl rfl (step us rs b hb hJ)
     ·have hT1':=hT'.1;have hT2':=hT'.2.1;have hT3':=hT'.2.2;have fl2:T2.flat.length=nd T2:=rfl;have en:⟨o,0⟩::(T.flat++T2.flat)=(Tr.node ⟨o,0⟩ [T,T2]).flat:=by rw[Tr.flat,flatL_two]
      rw[Y1j (by grind),Y7r (by grind),X1,en] at E0;have eop:opn (Tr.node ⟨o,0⟩ [T,T2])=o:=rfl;have epr:pr (opn (Tr.node ⟨o,0⟩ [T,T2]))=Y2k o:=by rw[eop,lprec_pr hor]
      have:=loop_sim ht ih C hk hp hp4 hd (n'+3) hn m (.node ⟨o,0⟩ [T,T2]) j2 ⟨by omega,hT2',by rw[Y5y,Y10,Y10,Y27];omega,by omega⟩ (by omega) (by simp_all) (fun β P hP=>by
       refine hR β P fun us rs b hb _ hJ=> ?_;refine run_f rfl rfl (step us rs b hb hJ)<|hR2 b P fun us' rs' b' hb' hE' hJ'=> ?_;refine hP us' rs' b' hb' hE' fun m' hm1 hm2=> ?_;rw[epr] at hm2;have h3:=hJ' (Y2k o+1) (Int.le_refl _) hp2;rw[qJ_of (by omega:m'≤Y2k o+1) h3];show qJ m' (o::q.f.ss) (T2::T::q.f.ts)=_;rw[qJ,if_pos hm2];exact qJ_stop (fun o' ho'=>by have:=hd o' ho';omega) _) (by omega)
      have⟨f,X,h1,h2⟩:=this;exact⟨f,X,E0.trans h1,h2⟩
    · --the operator is cut off,or wrong
     have E0:=hb2;rw[e21,formula_stop,X1,Y1j (by grind),Y7r (by grind),X1,stopL a _ _ (by omega)] at E0;refine⟨_,_,E0,.inl ⟨a,_,rfl,a0,a1, ?_, ?_⟩⟩
     ·simp only[X7,X4,Xd];unfold lb;omega
     ·refine toF fun us rs b hb _ hJ=> ?_;refine ends_f (u:=xpc t (Y6a o) ⟨j,false⟩) rfl rfl ?_ hw;rw[follow_sign hor rfl hb hit_o];rfl
end
section
variable {t:List Int}
theorem fol_rest{q:Qs}{j:Int}(hc:q.c=⟨j,false⟩)(hb:q.base=0∨q.base=1)(hN:NoP t j 1)(h16:hit t 16 ⟨j,false⟩=false):Yk t q=qRest t q:=by
 have n2:=hN 2 (by omega) (by decide);have n3:=hN 3 (by omega) (by decide);have n4:=hN 4 (by omega) (by decide);have n5:=hN 5 (by omega) (by decide);have n2':hit t 44 ⟨j,false⟩=false:=n2;have n3':hit t 36 ⟨j,false⟩=false:=n3;have n4':hit t 33 ⟨j,false⟩=false:=n4;have n5':hit t 0 ⟨j,false⟩=false:=n5;unfold Yk;rw[hc,h16,if_neg (by simp),Vn,n2',if_neg (by simp),n3',if_neg (by simp),n4',if_neg (by simp),n5',if_neg (by simp)]
theorem lvl_16{j:Int}(h:hit t 16 ⟨j,false⟩=true)(w:List Int):lvl t w j=if !(xpc t w ⟨j+1,false⟩).wr&&nxl t (j+1+(w.length:Nat)) then(false,false) else(!(xpc t w ⟨j+1,false⟩).wr,sh t (xpc t w ⟨j+1,false⟩)):=by rw[lvl,xpc16 h]
theorem lvl_no{j:Int}(h:hit t 16 ⟨j,false⟩=false)(w:List Int):lvl t w j=(false,decide ((t.length:Int)≤j)):=by
 have e:xpc t (16::w) ⟨j,false⟩=⟨j,true⟩:=by rw[xpc,if_neg (by grind),xpc_wr _ (by rfl)];rfl
 rw[lvl,e];rfl
theorem lvl_yes{j:Int}{w:List Int}(h:(lvl t w j).1=true):hit t 16 ⟨j,false⟩=true∧(xpc t w ⟨j+1,false⟩).wr=false∧nxl t (j+1+(w.length:Nat))=false∧(lvl t w j).2=false:=by
 cases h16:hit t 16 ⟨j,false⟩ with
 |false=>rw[lvl_no h16] at h;cases h
 |true=>
  rw[lvl_16 h16] at h⊢;cases hw:(xpc t w ⟨j+1,false⟩).wr with
  |true=>simp_all
  |false=>
   rw[hw] at h;cases hn:nxl t (j+1+(w.length:Nat)) with
   |true=>simp_all
   |false=>refine⟨rfl,rfl,rfl, ?_⟩;show sh t _=false;rw[sh,hw];rfl
theorem xpc_eq{l:List Int}{j:Int}(h:(xpc t l ⟨j,false⟩).wr=false):xpc t l ⟨j,false⟩=⟨j+(l.length:Nat),false⟩:=by
 have:=(Y8d l _ h).2;cases hz:xpc t l ⟨j,false⟩ with
 |mk a b=>rw[hz] at h this;simp only at h this;rw[h,this]
theorem back_sim{op c j b:Int}{w:List Int}{T T2:Tr}{us:List Tr}{rs:List Int}{g:Qf}{F:List Qf}(ho:op=7∨op=8)(hcc:c=24∨c=6)(j0:0≤j)(hb:b=0∨b=1)(hJ:qJ 0 rs us=([T2],[]))(hN:NoP t j 1)(hE:hit t 16 ⟨j,false⟩=true→b=0∨(lvl t w j).1=true):
  ((lvl t w j).1=true→Yk t ⟨⟨j,false⟩,g::F,⟨op,[T],us,rs,0,0,0⟩,w++[c],b,false⟩=(false,Y1z (.node ⟨op,0⟩ [T,T2]) 0 ⟨⟨j+1+(w.length:Nat),false⟩,F,g,w,b,false⟩))∧
  ((lvl t w j).1=false→Ends t false ⟨⟨j,false⟩,g::F,⟨op,[T],us,rs,0,0,0⟩,w++[c],b,false⟩ (lvl t w j).2):=by
 let q:Qs:=⟨⟨j,false⟩,g::F,⟨op,[T],us,rs,0,0,0⟩,w++[c],b,false⟩
 show(_→Yk t q=_)∧(_→Ends t false q _);cases h16:hit t 16 ⟨j,false⟩ with
 |false=>
  rw[lvl_no h16];refine⟨fun h=>(by cases h),fun _=> ?_⟩;have ef:Yk t q=(true,qBad q):=by
   rw[fol_rest rfl hb hN h16];unfold qRest;have e:q.f.op=op:=rfl;rw[Vn,Vn,Vn,if_neg (fun h=>by omega),Vp]
  have ec:(Yk t q).2.c=⟨j,true⟩:=by rw[ef];rfl
  exact ends_f rfl rfl ec rfl
 |true=>
  have hends:qEnds (qU ⟨j+1,false⟩ q)=true:=by
   show((op==7||op==8)&&b !=2)=true;rcases ho with h|h<;>rcases hb with h'|h'<;>subst h<;>subst h'<;>rfl
  have ef:Yk t q=qSgn t (qU ⟨j+1,false⟩ q):=by
   unfold Yk;rw[show q.c=⟨j,false⟩ from rfl,if_pos h16];rfl
  have e1:(qU ⟨j+1,false⟩ q).lv.dropLast=w:=by show(w++[c]).dropLast=w;rw[X0v]
  have e2:(qU ⟨j+1,false⟩ q).lv.getLastD 0=c:=by show(w++[c]).getLastD 0=c;simp
  have e3:Yk t q=(if(xpc t w ⟨j+1,false⟩).wr=true then(true,qU (xpc t w ⟨j+1,false⟩) (qU ⟨j+1,false⟩ q)) else if qBegs (qU ⟨j+1,false⟩ q)=true∧hit t c (xpc t w ⟨j+1,false⟩)=true then qSgB t (qU (xpc t w ⟨j+1,false⟩).adv (qU ⟨j+1,false⟩ q)) else qEnd true (qU (xpc t w ⟨j+1,false⟩) (qU ⟨j+1,false⟩ q))):=by
   rw[ef];unfold qSgn;rw[hends,if_neg (by simp),if_neg (by grind),e1,e2];rfl
  rw[lvl_16 h16];cases hw:(xpc t w ⟨j+1,false⟩).wr with
  |true=>
   refine⟨fun h=>(by cases h),fun _=> ?_⟩;rw[if_pos hw] at e3;have ec:(Yk t q).2.c=xpc t w ⟨j+1,false⟩:=by rw[e3];rfl
   have:=ends_f (q:=q) rfl rfl ec hw;show Ends t false q (sh t _);rw[sh,hw];exact this
  |false=>
   rw[if_neg (by grind)] at e3;have eu:=xpc_eq hw;have hnb:¬(qBegs (qU ⟨j+1,false⟩ q)=true∧hit t c (xpc t w ⟨j+1,false⟩)=true):=fun h=>by
    rcases hE h16 with h0|h1
    ·have:=h.1;have h':(b !=0)=true:=this
     simp_all
    ·have hn:=(lvl_yes h1).2.2.1;have hh:=h.2;rw[eu] at hh;have:nxl t (j+1+(w.length:Nat))=true:=by
      have⟨_,h2,h3⟩:=Y0g hh;simp only at h2 h3;unfold nxl;rw[decide_eq_true h2,h3];rcases hcc with h|h<;>rw[h]<;>rfl
     simp_all
   rw[if_neg hnb] at e3;have eq2:Yk t q=(false,Y1z (.node ⟨op,0⟩ [T,T2]) 0 ⟨⟨j+1+(w.length:Nat),false⟩,F,g,w,b,false⟩):=by
    rw[e3,eu];unfold qEnd;rw[if_pos rfl];have eo:qOpI (⟨⟨j+1+(w.length:Nat),false⟩,g::F,⟨op,[T],us,rs,0,0,0⟩,w,b,false⟩:Qs)=T2:=Y7o hJ;show(false,Y2y op 0 0 (qOpd ⟨⟨j+1+(w.length:Nat),false⟩,g::F,⟨op,[T],us,rs,0,0,0⟩,(w++[c]).dropLast,b,false⟩))=_;rw[X0v,Y2y,qOpd,eo]
    rfl
   cases hn:nxl t (j+1+(w.length:Nat)) with
   |true=>
    refine⟨fun h=>(by cases h),fun _=> ?_⟩;exact Ends.f rfl rfl eq2 (follow_nx rfl rfl hn)
   |false=>simp_all
theorem back_eq(ht:t.length≤1000){j:Int}(h0:0≤j)(h1:j≤(t.length:Nat))(w:List Int)(hw:w.length≤500):Y4q (Rd t j) w=some (if(lvl t w j).1=true then Rd t (j+1+(w.length:Nat)) else Sp t (j+1+(w.length:Nat)) (lvl t w j).2):=by
 unfold Y4q;rw[level_eq (Rd t j) rfl h0 (by grind) w (by omega),X1,Y1k (by omega),Y1k (by grind)];have e:j+(1+(w.length:Int))=j+1+(w.length:Nat):=by omega
 show some (⟨t,j+(1+(w.length:Int)),(lvl t w j).2,cond (!(lvl t w j).1) (!(lvl t w j).2) false⟩:Y0)=_;rw[e];cases h:(lvl t w j).1 with
 |true=>
  rw[(lvl_yes h).2.2.2];rfl
 |false=>rfl
theorem formula_sim(ht:t.length≤400){k:Nat}(ih:∀k',k'<k→FSq t k'){i p:Int}{q:Qs}(C:Cx t i q)(hk:(t.length:Int)-i≤k)(hp:1≤p)(hp4:p≤4)(hd:HD q.f.ss p)(n:Nat)(hn:10*k+9≤n)(hO:SimO t n i q):SimF t (n+1) i p q:=by
 have⟨f,X,h1,h2⟩:=hO;have i0:=C.i0;have i1:=C.i1;unfold SimF;rw[Y7];unfold Y4v;rw[h1,X1];rcases h2 with⟨a,s,rfl,a0,a1,hl,hE⟩|⟨T,j,b,rfl,rfl,hT,h4,hb,hEO,hR⟩
 ·refine⟨f,Sp t a s, ?_,.inl ⟨a,s,rfl,a0,a1,hl,hE⟩⟩;rw[show(1000000:Nat)=999999+1 from rfl,Yw];show Yt _ q.lv p (bk q) _ (Sp t a s) f=_;unfold Yt;rw[Y5e,X1];rfl
 ·refine loop_sim ht ih C hk hp hp4 hd n hn 1000000 T j hT (by omega) (fun o ho h5=> ?_) (fun β P hP=> ?_) (by have:=hT.1;omega)
  ·rw[h4] at h5;have:=(lprec_rng ho).2;omega
  ·refine hR β P ?_;have:=hP (T::q.f.ts) q.f.ss b hb hEO fun m hm1 _=>qJ_stop (fun o ho=>by have:=hd o ho;omega) _;have e:Y1z T b (qU ⟨j,false⟩ q)=⟨⟨j,false⟩,q.F,{q.f with ts:=T::q.f.ts,ss:=q.f.ss},q.lv,b,false⟩:=by
    show(⟨⟨j,false⟩,q.F,{q.f with ts:=T::q.f.ts},q.lv,b,q.dn⟩:Qs)=_;rw[C.dn]
   simp_all
end
section
variable {t:List Int}
def OkO (t:List Int) (i:Int) (q:Qs) (f:List Y1) (X:Y0):Prop:=Stopd t i q f X∨∃T j b,X=Rd t j∧f=T.flat∧TRk t i j T∧pr (opn T)=4∧(b=0∨b=1)∧EOk t j b q∧∀(β:Int) (P:Qs→Prop),RunP t false (Y1z T b (qU ⟨j,false⟩ q)) P→RunP t true (qB q β) P
theorem exp_tail(ht:t.length≤400){k:Nat}(ih:∀k',k'<k→FSq t k'){i j op c bb:Int}{q:Qs}{T:Tr}(C:Cx t i q)(hk:(t.length:Int)-i≤k)(n:Nat)(hn:10*k+8≤n)(hT:TRk t i j T)(ho:op=7∨op=8)(hcc:c=expC op)
  (hR:∀(β:Int) (P:Qs→Prop),RunP t false (Y1z T bb (qU ⟨j,false⟩ q)) P→RunP t true (qB q β) P) (hl:(lvl t (q.lv++[c]) j).1=true)
  (hF:Yk t (Y1z T bb (qU ⟨j,false⟩ q))=(true,qExp op c (qU ⟨j+1+(q.lv.length:Nat),false⟩ (Y1z T bb (qU ⟨j,false⟩ q))))):
  ∃f X,((Y7 n (Rd t (j+((2:Int)+(q.lv.length:Int)))) (q.lv++[c]) (1:Int) [q.lv]).bind fun x22=>
   (Yv x22.2).bind fun x23=>
   cond x23 (some (T.flat,x22.2)) (
    (Y4q x22.2 q.lv).bind fun x25=>
    G (room 16 (T.flat.length+x22.1.length))<|
    (Y29 op (0:Int) (T.flat++x22.1)).bind fun x27=>
    some (x27,x25)))=some (f,X)∧OkO t i q f X:=by
 have i0:=C.i0;have i1:=C.i1;have hT1:=hT.1;have hT2:=hT.2.1;have hT3:=hT.2.2;have fl:T.flat.length=nd T:=rfl;have hll:=C.ll;have c24:c=24∨c=6:=by rw[hcc];unfold expC;split<;>simp
 have⟨h16,hw,hnx,_⟩:=lvl_yes hl;have ob:((xpc t (q.lv++[c]) ⟨j+1,false⟩)).at_≤(t.length:Nat):=by
  have hlt:=(Y0g h16).2.1;simp only at hlt;exact(CuOk.xpc (t:=t) (q.lv++[c]) (u:=⟨j+1,false⟩) ⟨by grind,by grind⟩).a1
 rw[xpc_eq hw] at ob;simp only[X4,Xc] at ob;have ej:j+((2:Int)+(q.lv.length:Int))=j+1+(q.lv.length:Nat)+1:=by omega
 rw[ej]
 --the state behind the sign
 let q3:Qs:=⟨⟨j+1+(q.lv.length:Nat)+1,false⟩,q.f::q.F,fr0 op [T],q.lv++[c],0,false⟩
 have hF':Yk t (Y1z T bb (qU ⟨j,false⟩ q))=(true,qB q3 bb):=by
  rw[hF];show(true,(⟨_,{q.f with ts:=q.f.ts}::q.F,_,_,_,q.dn⟩:Qs))=_;rw[C.dn];rfl
 have C3:Cx t (j+1+(q.lv.length:Nat)+1) q3:=⟨rfl,rfl,fun x hx=>by
  have hx':x∈q.lv++[c]:=hx;rw[Xi,X8] at hx';rcases hx' with h|rfl
  ·exact C.lv x h
  omega,fun _=>by grind,by grind,by omega,by omega⟩
 have hbk:bk q3=[q.lv]:=by
  unfold bk;have:q3.f.op=op:=rfl;rw[Vp];show[(q.lv++[c]).dropLast]=_;rw[X0v]
 have⟨g,X2,e1,e2⟩:SimF t n (j+1+(q.lv.length:Nat)+1) 1 q3:=ih (k-1) (by omega) n _ _ _ (by omega) C3 (by omega) (by omega) (by omega) (fun o ho=>by cases ho);have e1':Y7 n (Rd t (j+1+(q.lv.length:Nat)+1)) (q.lv++[c]) 1 [q.lv]=some (g,X2):=by grind
 rw[e1',X1];have wr0:(Y1z T bb (qU ⟨j,false⟩ q)).c.wr=false:=rfl;have dn0:(Y1z T bb (qU ⟨j,false⟩ q)).dn=false:=C.dn;rcases e2 with⟨a,s,rfl,a0,a1,hlg,hE⟩|⟨T2,j2,rfl,rfl,hT',hp2,hN2,hR2⟩
 ·refine⟨T.flat,Sp t a s, ?_,.inl ⟨a,s,rfl,a0,a1, ?_,fun β=>hR β _ ((hE bb).f wr0 dn0 hF')⟩⟩
  ·dsimp only;rw[Y5e,Option.bind_some,cond_true]
  ·rw[fl];unfold lb;omega
 ·have hT1':=hT'.1;have hT2':=hT'.2.1;have hT3':=hT'.2.2;have fl2:T2.flat.length=nd T2:=rfl;have eb:=back_eq (t:=t) (by omega) (j:=j2) (by omega) hT2' q.lv (by omega);dsimp only;rw[Y5f,X1,cond_false,eb,X1,Y1j (by omega),Y7r (by grind),X1];have en:⟨op,0⟩::(T.flat++T2.flat)=(Tr.node ⟨op,0⟩ [T,T2]).flat:=by rw[Tr.flat,flatL_two]
  rw[en];have bs:∀us rs b,(b=0∨b=1)→EOk t j2 b q3→(∀m,1≤m→m≤pr (opn T2)→qJ m rs us=(T2::q3.f.ts,q3.f.ss))→_:=fun us rs b hb hE hJ=>back_sim (t:=t) (g:=q.f) (F:=q.F) (w:=q.lv) (T:=T) (T2:=T2) (us:=us) (rs:=rs) (b:=b) ho c24 (j:=j2) (by omega) hb (by
   have:=hJ 1 (by omega) hp2;rw[qJ_of (by omega) this];rfl) hN2 (fun h16=>by
   rcases hE h16 with h|h
   ·omega
   grind)
  cases hlv:(lvl t q.lv j2).1 with
  |true=>
   have⟨g16,gw,gn,_⟩:=lvl_yes hlv;have ob3:((xpc t q.lv ⟨j2+1,false⟩)).at_≤(t.length:Nat):=by
    have hlt:=(Y0g g16).2.1;simp only at hlt;exact(CuOk.xpc (t:=t) q.lv (u:=⟨j2+1,false⟩) ⟨by grind,by grind⟩).a1
   rw[xpc_eq gw] at ob3;simp only at ob3;rw[if_pos rfl];refine⟨_,_,rfl,.inr ⟨.node ⟨op,0⟩ [T,T2],j2+1+(q.lv.length:Nat),0,rfl,rfl,⟨by omega,ob3,by rw[Y5y,Y10,Y10,Y27];omega,by show op≤13;omega⟩, ?_,.inl rfl,fun _=>.inl rfl,fun β P hP=> ?_⟩⟩
   ·show pr op=4;exact pr_four (by omega)
   ·refine hR β P (run_f (i:=j) rfl dn0 hF' ?_);refine hR2 bb P fun us rs b hb hE hJ=> ?_;have:=(bs us rs b hb hE hJ).1 hlv;refine run_f (i:=j2) rfl rfl this ?_;have e:Y1z (.node ⟨op,0⟩ [T,T2]) 0 (qU ⟨j2+1+(q.lv.length:Nat),false⟩ q)=Y1z (.node ⟨op,0⟩ [T,T2]) 0 ⟨⟨j2+1+(q.lv.length:Nat),false⟩,q.F,q.f,q.lv,b,false⟩:=by
     show(⟨_,_,_,_,_,q.dn⟩:Qs)=_;rw[C.dn];rfl
    simp_all
  |false=>
   rw[if_neg (by simp)];refine⟨_,_,rfl,.inl ⟨_,_,rfl,by omega,by omega, ?_,fun β=>hR β _ ?_⟩⟩
   ·have:(Tr.node ⟨op,0⟩ [T,T2]).flat.length=nd (Tr.node ⟨op,0⟩ [T,T2]):=rfl;rw[this,Y5y,Y10,Y10,Y27];unfold lb;omega
   ·exact run_f (i:=j) rfl dn0 hF'<|hR2 bb _ fun us rs b hb hE hJ=>(bs us rs b hb hE hJ).2 hlv
theorem operand_sim(ht:t.length≤400){k:Nat}(ih:∀k',k'<k→FSq t k'){i:Int}{q:Qs}(C:Cx t i q)(hk:(t.length:Int)-i≤k)(n:Nat)(hn:10*k+8≤n)(hS:SimS t n i q):SimO t (n+1) i q:=by
 have⟨f,br,X,h1,h2⟩:=hS;have i0:=C.i0;have i1:=C.i1;have hll:=C.ll;show ∃f X,Yx (n+1) (Rd t i) q.lv (bk q)=some (f,X)∧OkO t i q f X;rw[Yx];unfold Y4u;rw[h1,X1];dsimp only;rcases h2 with⟨a,s,rfl,a0,a1,hl,hE⟩|⟨T,j,rfl,rfl,hT,hbr,hR⟩
 ·refine⟨f,Sp t a s, ?_,.inl ⟨a,s,rfl,a0,a1,hl,hE⟩⟩;rw[Y5e,X1,cond_true]
 ·have hT1:=hT.1;have hT2:=hT.2.1;have hT3:=hT.2.2;have fl:T.flat.length=nd T:=rfl;have dn0:∀b,(Y1z T b (qU ⟨j,false⟩ q)).dn=false:=fun b=>C.dn;rw[Y5f,X1,cond_false];have⟨x,hx,hi⟩:=RX.peek (t:=t) (u:=⟨j,false⟩) (X:=Rd t j) (.inl ⟨rfl,rfl⟩) ⟨by grind,hT2⟩ (c:=16) (by omega);rw[hx,X1];cases h16:hit t 16 ⟨j,false⟩ with
  |false=>
   have hx16:(x !=16)=true:=by simp_all
   rw[hx16,cond_true];cases hb:br with
   |true=>
    rw[cond_true];refine⟨_,_,rfl,.inl ⟨j,decide ((t.length:Int)≤j),rfl,by omega,by omega,by rw[fl];unfold lb;omega,fun β=>hR β _ ?_⟩⟩;rw[hb,if_pos rfl];have ec:(Yk t (Y1z T 2 (qU ⟨j,false⟩ q))).2.c=⟨j,true⟩:=by
     unfold Yk;have e:(Y1z T 2 (qU ⟨j,false⟩ q)).c=⟨j,false⟩:=rfl;rw[e,h16,if_neg (by simp),if_pos (show(Y1z T 2 (qU ⟨j,false⟩ q)).base=2 from rfl)];rfl
    exact ends_f rfl (dn0 2) ec rfl
   |false=>
    rw[cond_false];refine⟨_,_,rfl,.inr ⟨T,j,1,rfl,rfl,hT, ?_,.inr rfl,fun h=>(by simp_all),fun β P hP=> ?_⟩⟩
    ·rw[hb] at hbr;have hs:Y2r (opn T)=true:=by simp_all
     unfold Y2r at hs;have:=of_decide_eq_true hs;exact pr_four (by omega)
    simp_all
  |true=>
   have hx16:(x !=16)=false:=by simp_all
   rw[hx16,cond_false];have hbb:(if br=true then(2:Int) else 1)=1∨(if br=true then(2:Int) else 1)=2:=by cases br<;>simp
   have O:=op16 (t:=t) (i:=j) (q:=Y1z T (if br=true then 2 else 1) (qU ⟨j,false⟩ q)) rfl (dn0 _) (by omega) h16 hbb C.lv C.hop;have e7:Y47 q.lv ((7:Int)+0)=some (q.lv++[24]):=under_eq2 q.lv 7 (.inl rfl) (by omega);have e8:Y47 q.lv ((7:Int)+1)=some (q.lv++[6]):=under_eq2 q.lv 8 (.inr rfl) (by omega);have l7:=level_eq (t:=t) (Rd t j) rfl (by grind) (by grind) (q.lv++[24]) (by grind);have l8:=level_eq (t:=t) (Rd t j) rfl (by grind) (by grind) (q.lv++[6]) (by grind);simp only at l7 l8;have elv:(Y1z T (if br=true then 2 else 1) (qU ⟨j,false⟩ q)).lv=q.lv:=rfl;have eop:(Y1z T (if br=true then 2 else 1) (qU ⟨j,false⟩ q)).f.op=q.f.op:=rfl;have eba:(Y1z T (if br=true then 2 else 1) (qU ⟨j,false⟩ q)).base=(if br=true then 2 else 1):=rfl;rw[elv,eop,eba] at O;have ebr:(if br=true then(2:Int) else 1)=1↔br=false:=by cases br<;>simp
   rw[show(1000000:Nat)=999997+1+1+1 from rfl,Yw];show ∃f X,Y0u (Y7 n) q.lv (bk q) (T.flat,br,Rd t j) _ (Rd t j) T.flat false 0=some (f,X)∧_;rw[Y0u,Y2q (by rfl),Y1k (by omega),e7,X1,l7,X1];rcases O with⟨o1,o2⟩|⟨o1,o3,o2⟩|⟨o1,o3,o4,o5⟩|⟨o1,o3,o4,o5⟩
   ·rw[o1,cond_true,Y1k (by omega),Y1k (by grind)];exact exp_tail ht ih C hk n hn hT (.inl rfl) rfl hR o1 o2
   all_goals
    rw[o1,cond_false,Y1k (by omega),Yw];show ∃f X,Y0u (Y7 n) q.lv (bk q) (T.flat,br,Rd t j) _ (Rd t j) T.flat (lvl t (q.lv++[24]) j).2 1=some (f,X)∧_;rw[Y0u,Y2q (by rfl),Y1k (by omega),e8,X1,l8,X1]
   ·rw[o3,cond_true,Y1k (by omega),Y1k (by grind)];exact exp_tail ht ih C hk n hn hT (.inr rfl) rfl hR o3 o2
   all_goals
    rw[o3,cond_false,Y1k (by omega),Yw];show ∃f X,Y0u (Y7 n) q.lv (bk q) (T.flat,br,Rd t j) _ (Rd t j) T.flat (cond (lvl t (q.lv++[24]) j).2 true (lvl t (q.lv++[6]) j).2) 2=some (f,X)∧_;rw[Y0u,Y3w (by rfl)]
   ·have hbk:bk q=[q.lv.dropLast]:=by unfold bk;rw[if_pos o4.1]
    have hbf:br=false:=ebr.1 o4.2;have l9:=level_eq (t:=t) (Rd t j) rfl (by grind) (by grind) q.lv.dropLast (by grind);simp only at l9;rw[hbk,hbf,Y2q (by rfl),Y2s (by simp)];show ∃f X,((Y1q (Rd t j) q.lv.dropLast).bind _)=some (f,X)∧_;rw[l9,X1,o5,cond_true];refine⟨_,_,rfl,.inr ⟨T,j,1,rfl,rfl,hT, ?_,.inr rfl,fun _=>.inr ⟨o4.1,o5⟩,fun β P hP=> ?_⟩⟩
    ·rw[hbf] at hbr;have hs:Y2r (opn T)=true:=by simp_all
     unfold Y2r at hs;have:=of_decide_eq_true hs;exact pr_four (by omega)
    simp_all
   ·by_cases he:(q.f.op=7∨q.f.op=8)∧(if br=true then(2:Int) else 1)=1
    ·have hbk:bk q=[q.lv.dropLast]:=by unfold bk;rw[if_pos he.1]
     have hbf:br=false:=ebr.1 he.2;have l9:=level_eq (t:=t) (Rd t j) rfl (by grind) (by grind) q.lv.dropLast (by grind);simp only at l9;rw[if_pos he] at o5;have o6:=o4 he;rw[hbk,hbf,Y2q (by rfl),Y2s (by simp)];show ∃f X,((Y1q (Rd t j) q.lv.dropLast).bind _)=some (f,X)∧_;rw[l9,X1,o6,cond_false];refine⟨_,_,rfl,.inl ⟨j,_,rfl,by omega,by omega,by rw[fl];unfold lb;omega,fun β=>hR β _ ?_⟩⟩
     have e:cond (cond (lvl t (q.lv++[24]) j).2 true (lvl t (q.lv++[6]) j).2) true (lvl t q.lv.dropLast j).2=(((lvl t (q.lv++[24]) j).2||(lvl t (q.lv++[6]) j).2)||(lvl t q.lv.dropLast j).2):=by
      cases (lvl t (q.lv++[24]) j).2<;>cases (lvl t (q.lv++[6]) j).2<;>rfl
     rw[e];exact o5
    ·rw[if_neg he,Bool.or_false] at o5;have hc0:(cond (decide ((0:Int)<((bk q).length:Int))) (!br) false)=false:=by
      unfold bk
      grind
     dsimp only;rw[hc0,cond_false];refine⟨_,_,rfl,.inl ⟨j,_,rfl,by omega,by omega,by rw[fl];unfold lb;omega,fun β=>hR β _ ?_⟩⟩;have e:cond (lvl t (q.lv++[24]) j).2 true (lvl t (q.lv++[6]) j).2=((lvl t (q.lv++[24]) j).2||(lvl t (q.lv++[6]) j).2):=by
      cases (lvl t (q.lv++[24]) j).2<;>rfl
     rw[e];exact o5
end
end Go.Proofs.YtfpcbalkioolmaaDoor
