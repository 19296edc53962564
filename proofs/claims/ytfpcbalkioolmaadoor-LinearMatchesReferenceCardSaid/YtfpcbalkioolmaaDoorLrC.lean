/- Own work. -/
import Derived.Test.YtfpcbalkioolmaaDoorLrB
import Derived.Test.YtfpcbalkioolmaaDoorWpA
import Derived.Test.YtfpcbalkioolmaaDoorWpB
set_option linter.unusedSimpArgs false
set_option linter.unusedVariables false
namespace Go.Proofs.YtfpcbalkioolmaaDoor
open Go.Abs
structure Ex (s s2:Ls) (k:Nat):Prop where
 e:s2={s with c:=s2.c,T:=s2.T}
 T:∃T',s2.T=s.T++T'∧T'.length=k
theorem Ex.cu(s:Ls)(u:Cu):Ex s {s with c:=u} 0:=⟨rfl,[],by simp,rfl⟩
theorem Ex.trans{s s1 s2:Ls}{k m:Nat}(a:Ex s s1 k)(b:Ex s1 s2 m):Ex s s2 (k+m):=by
 have⟨T1,h1,h2⟩:=a.T;have⟨T2,h3,h4⟩:=b.T;refine⟨?_,T1++T2,by rw[h3,h1,Xh],by rw[X4,h2,h4]⟩;have e1:=a.e;have e2:=b.e;rw[e2,e1]
theorem Ex.add(s:Ls)(op n:Int)(l:List Int):Ex s (pAdd op n l s) 1:=⟨rfl,[_],rfl,rfl⟩
theorem Ex.abs{s s2:Ls}{k n:Nat}(x:Ex s s2 k)(v:Ok s n):abs s2={abs s with c:=s2.c}:=by
 have⟨T',h1,h2⟩:=x.T;rw[x.e];simp only[Go.Proofs.YtfpcbalkioolmaaDoor.abs];rw[h1,fs_app v,alf_app v.okT v.vf.1 v.vf.2]
theorem Ex.len{s s2:Ls}{k:Nat}(x:Ex s s2 k):s2.T.length=s.T.length+k:=by
 have⟨T',h1,h2⟩:=x.T;rw[h1,X4,h2]
theorem Ex.F{s s2:Ls}{k:Nat}(x:Ex s s2 k):s2.F=s.F:=by rw[x.e]
theorem Ex.f{s s2:Ls}{k:Nat}(x:Ex s s2 k):s2.f=s.f:=by rw[x.e]
theorem Ex.val{s s2:Ls}{k:Nat}(x:Ex s s2 k){l:List Int}(h:Val s.T l):Val s2.T l:=h.mono (by rw[x.len];omega)
theorem Ex.trs{s s2:Ls}{k n:Nat}(x:Ex s s2 k)(v:Ok s n){l:List Int}(h:Val s.T l):l.map (tr s2.T)=l.map (tr s.T):=by
 have⟨T',h1,h2⟩:=x.T;rw[h1];exact trs_app v.okT h
theorem Ok.cu{s:Ls}{n:Nat}(v:Ok s n)(u:Cu):Ok {s with c:=u} n:=v.same rfl rfl rfl rfl
theorem lfind_lt(c:Int):∀(l:List Int) (i:Int),lfind c l i= -1∨(i≤lfind c l i∧lfind c l i<i+(l.length:Nat))
 |[],i=>.inl rfl
 |x::l,i=>by
  rw[lfind]
  split
  ·grind
  ·rcases lfind_lt c l (i+1) with h|h
   ·omega
   grind
theorem chrI_lt(t:List Int){n:Nat}(hn:n≤26)(u:Cu):chrI t n u= -1∨(0≤chrI t n u∧chrI t n u<(n:Int)):=by
 unfold chrI
 split
 ·omega
 ·rcases lfind_lt (cAt t u.at_) (Y8.take n) 0 with h|h
  ·omega
  grind
theorem chrI_ok{t:List Int}{n:Nat}{u:Cu}(h:0≤chrI t n u):u.wr=false∧u.at_<(t.length:Nat):=by
 unfold chrI at h
 grind
theorem CuOk.dgs{t:List Int}:∀(k:Nat) (n d:Int) {u:Cu},CuOk t u→CuOk t (dgs t k n d u).2.2
 |0,n,d,u,h=>h
 |k+1,n,d,u,h=>by
  rw[Go.Proofs.YtfpcbalkioolmaaDoor.dgs]
  split
  ·split
   ·exact h
   ·rename_i hc;exact CuOk.dgs k _ _ (h.adv (chrI_ok (n:=10) (by omega)).2)
  ·exact h
theorem CuOk.numU{t:List Int}{u:Cu}(h:CuOk t u):CuOk t (numU t u):=by
 unfold Go.Proofs.YtfpcbalkioolmaaDoor.numU
 split
 ·exact(CuOk.dgs 5 0 0 h).bad
 ·exact CuOk.dgs 5 0 0 h
def NB (d n:Int):Prop:=0≤n∧((d=0∧n=0)∨(d=1∧n≤9)∨(d=2∧n≤99)∨(d=3∧n≤999)∨(d=4∧n≤9999)∨(d=5∧n≤99999))
section
variable {h:Hp} {g:Tag} {t:List Int} {s:Ls} {L:Lay} {n0:Nat}
theorem c_number(R:Rep h g t s L)(o:CuOk t s.c)(hl:t.length≤1000000000)(v:Ok s n0)(hn:s.T.length≤1000000000):
  ∃h' g' L',CallOK Tryd.prog 55 [.ref L.p 0 0] h h' (.int .i64 (s.T.length:Nat))∧Rep h' g' t (pAdd 0 (numN t s.c) [] {s with c:=numU t s.c}) L'∧Kept h g h' g'∧LA L L':=by
 have H:=Y3g (w_number (h:=h) (p:=L.p) (Q:=fun h' av=>av= .int .i64 (s.T.length:Nat)∧∃g' L',Rep h' g' t (pAdd 0 (numN t s.c) [] {s with c:=numU t s.c}) L'∧Kept h g h' g'∧LA L L') (Qp:=fun _ _=>False) (by
  refine⟨fun n d _ h1=>∃u,Rep h1 g t {s with c:=u} L∧(Kpt h g h1 g fun u=>u≠0)∧(n,d,u)=dgs t 5 0 0 s.c, ?_,fun m n d h1=>∃u,Rep h1 g t {s with c:=u} L∧(Kpt h g h1 g fun u=>u≠0)∧0≤d∧d≤5∧NB d n∧m=5-d.toNat∧dgs t m n d u=dgs t 5 0 0 s.c∧CuOk t u,⟨5,s.c,R,Kpt.refl,by omega,by omega,⟨by omega,.inl ⟨rfl,rfl⟩⟩,rfl,rfl,o⟩, ?_⟩
  ·rintro n d _ h1 ⟨u,R1,K1,he⟩;have en:numN t s.c=n:=by rw[numN, ←he]
   have eu:numU t s.c=if d=0 then u.bad else u:=by rw[numU, ←he]
   rw[en,eu];refine⟨fun hd=> ?_,fun hd=> ?_⟩
   ·have hd':d=0:=by simp_all
    have⟨h2,b1,b2,b3⟩:=R1.setW true;have⟨h3,g3,L3,c1,c2,c3,c4⟩:=c_add b2 0 n (SlI.nil h2) (fun r hr=>by simp[Y18] at hr) (v.cu _) (fun i hi=>by simp at hi) hn (by simp);rw[if_pos hd'];exact⟨R1.has,h2,b1,h3,_,c1,rfl,g3,L3,c2,((K1.trans b3).kept (by omega)).trans c3,c4⟩
   ·have hd':¬d=0:=by simp_all
    have⟨h3,g3,L3,c1,c2,c3,c4⟩:=c_add R1 0 n (SlI.nil h1) (fun r hr=>by simp[Y18] at hr) (v.cu _) (fun i hi=>by simp at hi) hn (by simp);rw[if_neg hd'];exact⟨h3,_,c1,rfl,g3,L3,c2,(K1.kept (by omega)).trans c3,c4⟩
  ·rintro m n d h1 ⟨u,R1,K1,d0,d5,nb,rfl,he,o1⟩;refine⟨fun b=>b=decide (d<5∧(d=0∨0<n)), ?_,fun hd=>⟨fun h0=> ?_,fun h0=> ?_⟩,fun hd=> ?_⟩
   ·rintro b rfl;refine⟨fun hb=> ?_,fun hb=> ?_⟩
    ·have⟨hd5,hc⟩:=of_decide_eq_true hb;have em:5-d.toNat=(5-(d+1).toNat)+1:=by omega
     have⟨h2,b1,b2,b3⟩:=c_character R1 o1 hl (n:=10) (by omega);rw[em,dgs,if_pos hc] at he;refine⟨h2,_,b1,fun hx=> ?_,fun hx=> ?_⟩
     ·have hx':chrI t 10 u<0:=of_decide_eq_true hx;rw[if_pos hx'] at he;have eu:chrU t 10 u=u:=by rw[chrU,if_pos hx']
      exact⟨u,by simp_all,K1.trans b3,he⟩
     ·have hx':¬chrI t 10 u<0:=of_decide_eq_false hx;rw[if_neg hx'] at he;have eu:chrU t 10 u=u.adv:=by rw[chrU,if_neg hx']
      have hr:0≤chrI t 10 u∧chrI t 10 u<10:=by
       rcases chrI_lt t (n:=10) (by omega) u with h|h
       ·omega
       omega
      have et:Int.tmod (chrI t 10 u+1) 10=(chrI t 10 u+1)%10:=X1s (by omega);have n0':=nb.1;have n9:n≤9999:=by rcases nb.2 with h|h|h|h|h|h<;>omega
      simp only[et];refine⟨Y93 (by omega) (by omega),Y93 (by omega) (by omega),Y93 (by omega) (by omega),Y93 (by omega) (by omega),5-(d+1).toNat,by omega,u.adv,by simp_all,K1.trans b3,by omega,by omega,⟨by omega, ?_⟩,rfl,he,o1.adv (chrI_ok (n:=10) (by omega)).2⟩;rcases nb.2 with h|h|h|h|h|h<;>omega
    ·have hb':¬(d<5∧(d=0∨0<n)):=of_decide_eq_false hb;refine⟨u,R1,K1, ?_⟩;rw[←he];cases hm:5-d.toNat with
     |zero=>rfl
     |succ k=>rw[dgs,if_neg (fun hc=>hb' ⟨by omega,hc⟩)]
   ·simp_all
   ·simp_all
   grind))
 grind
theorem c_expL(R:Rep h g t s L)(o:CuOk t s.c)(hl:t.length≤1000000000)(cs:List Int)(hn:cs.length≤1000000000):∃r h1,Nw h r ⟨0,true,33,1,eU8 cs⟩ h1∧∃h2,CallOK Tryd.prog 62 [.ref L.p 0 0,.rsl r 0 0 cs.length] h1 h2 (.tup [])∧
  ∃g2,Rep h2 g2 t {s with c:=xpc t cs s.c} L∧Kpt h g h2 g2 fun u=>u≠0:=by
 have⟨r,hr⟩:=h.fresh;have⟨a1,a2,a3,a4⟩:=R.grow (u:=4) (rt:=⟨0,true,33,1,eU8 cs⟩) (.inr rfl) hr;have hx:SlU ((r,(⟨0,true,33,1,eU8 cs⟩:Rt))::h) (.rsl r 0 0 cs.length) cs:=.inr ⟨r,0,_,rfl,Y2z _ _ _,rfl,rfl,rfl,rfl,Xu (by simp[eU8]),by simp[eU8]⟩;have⟨h2,b1,b2,b3⟩:=c_expect a2 o hl (SlU.rd hx (fun q hq=>by simp only[Y18,X8] at hq;simp_all)) hn;exact⟨r,_,a1,h2,b1,_,b2,(a3 _).trans b3⟩
theorem growOther(R:Rep h g t s L){x:AV}{l:List Int}(hx:SlI h x l)(hg:∀r∈Y18 x,g r=4){q:Nat}(hxq:Y18 x=[q])(v:Int)(hn:l.length≤1000000000):
  ∃r h1,Nw h r ⟨0,true,3,1,[.int .i64 v]⟩ h1∧∃h2 y,NC y∧App h1 x 3 1 8 1 [.int .i64 v] h2 y∧∃g2,(SlI h2 y (l++[v])∧∀r∈Y18 y,g2 r=4)∧Y18 y=[q]∧Rep h2 g2 t s L∧KeptE [q] h g h2 g2:=by
 have⟨r,hr⟩:=h.fresh;have⟨a1,a2,a3,a4⟩:=R.grow (u:=4) (rt:=⟨0,true,3,1,[.int .i64 v]⟩) (.inr rfl) hr;have hx1:=SlA.kpt ⟨hx,hg⟩ (a3 fun u=>u=4) rfl;have⟨h2,y,q',b1,b2,b3,b4,b5,b6⟩:=SlI.app hx1.1 v (by omega);have e:q'=q:=by
  simp_all
 subst e;have gq:upg g r 4 q'=4:=hx1.2 q' (by simp_all);refine⟨r,_,a1,h2,y,b2,b1,_,⟨b3,fun r' hr'=> ?_⟩,b4,a2.kpt (Kpt.same b5 (by omega)),fun r' hr' h1 h4=> ?_⟩
 ·simp_all
 ·have⟨c1,c2⟩:=a3 (fun u=>u=4) r' h1 h4;exact⟨(b5 r' hr').trans c1,c2.trans h4⟩
end
section
variable {h:Hp} {g:Tag} {t:List Int} {s:Ls} {L:Lay} {n0:Nat}
theorem c_num(R:Rep h g t s L)(o:CuOk t s.c)(hl:t.length≤1000000000)(v:Ok s n0)(hn:s.T.length≤1000000000):
  ∃h' g' L' s' i,CallOK Tryd.prog 55 [.ref L.p 0 0] h h' (.int .i64 i)∧Rep h' g' t s' L'∧Kept h g h' g'∧LA L L'∧Ex s s' 1∧s'.c=numU t s.c∧Ok s' (n0+1)∧(0≤i∧i<(s'.T.length:Nat))∧tr s'.T i=numT (numN t s.c):=by
 have⟨h',g',L',a1,a2,a3,a4⟩:=c_number R o hl v hn;have e0:Val ({s with c:=numU t s.c}:Ls).T []:=fun i hi=>by simp at hi
 have e1:=add_new (op:=0) (n:=numN t s.c) (v.cu (numU t s.c)) e0;refine⟨h',g',L',_,_,a1,a2,a3,a4,(Ex.cu s _).trans (Ex.add _ _ _ _),rfl,(v.cu _).add e0, ?_,e1⟩;simp only[pAdd,X4,Xc];omega
theorem arr3(R:Rep h g t s L)(a b c:Int):∃r h1,Nw h r ⟨0,true,80,3,[.int .u8 0,.int .u8 0,.int .u8 0]⟩ h1∧∃h2,St h1 r 0 0 (.agg [.int .u8 a,.int .u8 b,.int .u8 c]) h2∧∃g2,Rep h1 g2 t s L∧Rep h2 g2 t s L∧(∀S:Nat→Prop,¬S 4→Kpt h g h2 g2 S)∧Kept h g h2 g2∧h2.at r=some ⟨0,true,80,3,[.int .u8 a,.int .u8 b,.int .u8 c]⟩∧g2 r=4:=by
 have⟨r,hr⟩:=h.fresh;have⟨a1,a2,a3,a4⟩:=R.grow (u:=4) (rt:=⟨0,true,80,3,[.int .u8 0,.int .u8 0,.int .u8 0]⟩) (.inr rfl) hr;have hS:Same ((r,(⟨0,true,80,3,[.int .u8 0,.int .u8 0,.int .u8 0]⟩:Rt))::h) ((r,(⟨0,true,80,3,[.int .u8 a,.int .u8 b,.int .u8 c]⟩:Rt))::(r,(⟨0,true,80,3,[.int .u8 0,.int .u8 0,.int .u8 0]⟩:Rt))::h) [r]:=Same.cons _ _ _;have kp:∀S:Nat→Prop,¬S 4→Kpt _ _ _ (upg g r 4) S:=fun S hS'=>Kpt.same hS (by simp_all);refine⟨r,_,a1,_,⟨_,Y2z _ _ _,rfl,rfl,by simp[Y1r],okCb_sound rfl,rfl⟩,_,a2,a2.kpt (kp _ (by omega)),fun S h4=>(a3 S).trans (kp S h4),fun q hq h4=> ?_,Y2z _ _ _,a4⟩;have e:q≠r:=fun e=>hq (by simp_all);have⟨b1,b2⟩:=a3 (fun u=>u=4) q hq h4;exact⟨(hS q (by grind)).trans b1,b2.trans h4⟩
structure SI (t:List Int) (s:Ls) (L:Lay) (h0:Hp) (g0:Tag) (n0 q r3:Nat) (h2:Hp) (y:AV) (l N:List Int) (s2:Ls) (g2:Tag) (L2:Lay):Prop where
 R:Rep h2 g2 t s2 L2
 K:KeptE [q] h0 g0 h2 g2
 S:LA L L2
 Y:SlI h2 y l∧∀r∈Y18 y,g2 r=4
 ry:Y18 y=[q]
 o:CuOk t s2.c
 x:Ex s s2 l.length
 v:Ok s2 (n0+l.length)
 val:Val s2.T l
 tl:l.map (tr s2.T)=N.map numT
 b:h2.at r3=some ⟨0,true,80,3,[.int .u8 56,.int .u8 32,.int .u8 34]⟩
 gb:g2 r3=4
 ne:r3≠q
 l5:1≤l.length∧l.length≤6
theorem LA.trans{L L1 L2:Lay}(a:LA L L1)(b:LA L1 L2):LA L L2:=⟨a.toLS.trans b.toLS,b.ρ.trans a.ρ,b.xl.trans a.xl⟩
variable {h0:Hp} {g0:Tag} {q r3:Nat} {h2:Hp} {y:AV} {l N:List Int} {s2:Ls} {g2:Tag} {L2:Lay}
theorem SI.len(H:SI t s L h0 g0 n0 q r3 h2 y l N s2 g2 L2):N.length=l.length:=by
 have:=congrArg List.length H.tl
 simp_all
theorem SI.cu(H:SI t s L h0 g0 n0 q r3 h2 y l N s2 g2 L2){h3:Hp}{g3:Tag}{u:Cu}(R3:Rep h3 g3 t {s2 with c:=u} L2) (K3:Kpt h2 g2 h3 g3 fun u=>u≠0) (o3:CuOk t u):SI t s L h0 g0 n0 q r3 h3 y l N {s2 with c:=u} g3 L2:=by
 have b:=K3 r3 (by rw[H.b];simp) (by rw[H.gb];omega);refine⟨R3,H.K.trans ((K3.kept (by omega)).toE),H.S,SlA.kpt H.Y K3 (by omega),H.ry,o3, ?_,H.v.cu u,H.val,H.tl,b.1.trans H.b,b.2.trans H.gb,H.ne,H.l5⟩;have:=H.x.trans (Ex.cu s2 u);exact this
theorem SI.num(H:SI t s L h0 g0 n0 q r3 h2 y l N s2 g2 L2)(hl:t.length≤1000000000)(hn:s2.T.length≤1000000000)(h5:l.length≤5):∃h3 i,CallOK Tryd.prog 55 [.ref L2.p 0 0] h2 h3 (.int .i64 i)∧∃r h4,Nw h3 r ⟨0,true,3,1,[.int .i64 i]⟩ h4∧∃h5 y5,NC y5∧App h4 y 3 1 8 1 [.int .i64 i] h5 y5∧
  ∃s3 g3 L3,SI t s L h0 g0 n0 q r3 h5 y5 (l++[i]) (N++[numN t s2.c]) s3 g3 L3∧s3.c=numU t s2.c:=by
 have⟨h3,g3,L3,s3,i,a1,a2,a3,a4,a5,a6,a7,a8,a9⟩:=c_num H.R H.o hl H.v hn;have Y3:=SlA.keep H.Y fun r hr hg=>a3 r hr hg;have⟨r,h4,b1,h5,y5,b2,b3,g5,b4,b5,b6,b7⟩:=growOther a2 Y3.1 Y3.2 H.ry i (by omega);have k3:=a3 r3 (by rw[H.b];simp) H.gb;have k5:=b7 r3 (by simpa using H.ne) (by rw[k3.1,H.b];simp) k3.2;refine⟨h3,i,a1,r,h4,b1,h5,y5,b2,b3,s3,g5,L3,⟨b6,(H.K.trans a3.toE).trans b7,H.S.trans a4,b4,b5,by rw[a6];exact H.o.numU, ?_, ?_, ?_, ?_,k5.1.trans (k3.1.trans H.b),k5.2,H.ne,by grind⟩,a6⟩
 ·rw[X4,Xc];exact H.x.trans a5
 ·grind
 ·intro j hj;simp only[Xi,X8] at hj;rcases hj with hj|rfl
  ·exact a5.val H.val j hj
  ·exact a8
 ·rw[X0j,X0j,a5.trs H.v H.val,H.tl];simp[a9]
theorem nd_num(n:Int):nd (numT n)=1:=rfl
theorem ndL_nums:∀N:List Int,ndL (N.map numT)=N.length
 |[]=>rfl
 |n::N=>by rw[Xo,Y10,nd_num,ndL_nums N,X7];omega
theorem m_sumR(H:SI t s L h0 g0 n0 q r3 h2 y l N s2 g2 L2)(hq0:h0.at q=none)(hl:t.length≤1000000000)(hn:s2.T.length≤900000000)(h5:l.length≤5){Q:Hp→AV→Prop}
  (hQ:∀(h':Hp) (g':Tag) (L':Lay) (s':Ls) (i:Int),Rep h' g' t s' L'→Kept h0 g0 h' g'→LA L L'→Ex s s' (l.length+2)→s'.c=xpc t [34] (numU t (xpc t [51,60] s2.c))→Ok s' (n0+(l.length+2))→(0≤i∧i<(s'.T.length:Nat))→tr s'.T i= .node ⟨12,(l.length:Nat)⟩ ((N++[numN t (xpc t [51,60] s2.c)]).map numT)→Q h' (.int .i64 i)):
  ∃(r72:Nat),∃(h73:Hp),(Nw h2 r72 ⟨0,true,33,1,[.int .u8 51,.int .u8 60]⟩ h73)∧∃(h75:Hp),(CallOK Tryd.prog 62 [.ref L2.p 0 0,.rsl r72 0 0 2] h73 h75 (.tup []))∧∃(h77:Hp),∃(x78:Int),(CallOK Tryd.prog 55 [.ref L2.p 0 0] h75 h77 (.int .i64 x78))∧∃(r80:Nat),∃(h81:Hp),(Nw h77 r80 ⟨0,true,3,1,[.int .i64 x78]⟩ h81)∧∃(h83:Hp),∃(s85:AV),(NC s85)∧(App h81 y 3 1 8 1 [.int .i64 x78] h83 s85)∧(Has h83 r3 0)∧∃(x88:Int),(Ld h83 r3 0 2 (.int .u8 x88))∧∃(r90:Nat),∃(h91:Hp),(Nw h83 r90 ⟨0,true,33,1,[.int .u8 x88]⟩ h91)∧∃(h93:Hp),(CallOK Tryd.prog 62 [.ref L2.p 0 0,.rsl r90 0 0 1] h91 h93 (.tup []))∧∃(h95:Hp),∃(x96:Int),(CallOK Tryd.prog 57 [.ref L2.p 0 0,.int .i64 12,.int .i64 ((l.length:Nat):Int),s85] h93 h95 (.int .i64 x96))∧(Q h95 (.int .i64 x96)):=by
 have⟨r72,h73,a1,h75,a2,g75,a3,a4⟩:=c_expL H.R H.o hl [51,60] (by simp);have H1:=H.cu a3 a4 (H.o.xpc _);have⟨h77,i,b1,r80,h81,b2,h83,y83,b3,b4,s3,g3,L3,H3,b5⟩:=H1.num hl (by grind) h5;have⟨r90,h91,c1,h93,c2,g93,c3,c4⟩:=c_expL H3.R H3.o hl [34] (by simp);have H4:=H3.cu c3 c4 (H3.o.xpc _);have p3:L3.p=L2.p:=H3.S.p.trans H.S.p.symm;rw[p3] at c2;have T3:s3.T.length≤1000000000:=by
  have e1:=H3.x.len;have e2:=H.x.len
  grind
 have⟨R5,k5⟩:=c3.retag (q:=q) (.inl (H4.Y.2 q (by rw[H4.ry];simp)));have⟨h95,g95,L95,d1,d2,d3,d4⟩:=c_add R5 12 ((l.length:Nat):Int) H4.Y.1 (fun r hr=>by rw[H4.ry] at hr;simp only[X8] at hr;rw[hr];exact upg_self _ _ _) H4.v H4.val T3 (by grind);rw[p3] at d1;have hb:h83.at r3=_:=H3.b;refine⟨r72,h73,a1,h75,a2,h77,i,b1,r80,h81,b2,h83,y83,b3,b4,Has.mk hb rfl,34,⟨_,hb,rfl,rfl,rfl⟩,r90,h91,c1,h93,c2,h95,_,d1,hQ h95 g95 L95 _ _ d2 ?_ (H4.S.trans d4) ?_ ?_ ?_ ?_ ?_⟩
 ·have:KeptE [q] h93 g93 h93 (upg g93 q 3):=fun r hr _ h4=>⟨rfl,by rw[upg_ne g93 3 (by simp_all)];exact h4⟩;exact((H4.K.trans this).trans d3.toE).done fun r hr=>by simp_all
 ·have:=H4.x.trans (Ex.add {s3 with c:=xpc t [34] s3.c} 12 ((l.length:Nat):Int) (l++[i]))
  simp_all
 ·show xpc t [34] s3.c=_;rw[b5]
 ·have:=H4.v.add (op:=12) (n:=((l.length:Nat):Int)) H4.val
  grind
 ·simp only[pAdd,X4,Xc];omega
 ·rw[add_new H4.v H4.val,H4.tl]
def SumQ (t:List Int) (s:Ls) (L:Lay) (h:Hp) (g:Tag) (n0:Nat):Hp→AV→Prop:=fun h' av=>∃g' L' s' i k,av= .int .i64 i∧Rep h' g' t s' L'∧Kept h g h' g'∧LA L L'∧Ex s s' k∧k≤7∧s'.c=sumU t s.c∧Ok s' (n0+k)∧(0≤i∧i<(s'.T.length:Nat))∧tr s'.T i=sumT t s.c∧nd (sumT t s.c)=k
theorem c_sum(R:Rep h g t s L)(o:CuOk t s.c)(hl:t.length≤1000000000)(v:Ok s n0)(hn:s.T.length≤800000000):
  ∃h' g' L' s' i k,CallOK Tryd.prog 59 [.ref L.p 0 0] h h' (.int .i64 i)∧Rep h' g' t s' L'∧Kept h g h' g'∧LA L L'∧Ex s s' k∧k≤7∧s'.c=sumU t s.c∧Ok s' (n0+k)∧(0≤i∧i<(s'.T.length:Nat))∧tr s'.T i=sumT t s.c∧nd (sumT t s.c)=k:=by
 have⟨r3,h4,a1,h6,a2,g6,_,a3,a4,a5,a6,a7⟩:=arr3 R 56 32 34;have⟨r8,h9,b1,h11,b2,g11,b3,b4⟩:=c_expL a3 o hl [60] (by simp);have⟨h13,g13,L13,s13,i,c1,c2,c3,c4,c5,c6,c7,c8,c9⟩:=c_num b3 (o.xpc _) hl (v.cu _) (by grind);have⟨q,hq⟩:=h13.fresh;have⟨d1,d2,d3,d4⟩:=c2.grow (u:=4) (rt:=⟨0,true,3,1,[.int .i64 i]⟩) (.inr rfl) hq;have hY:SlI ((q,(⟨0,true,3,1,[.int .i64 i]⟩:Rt))::h13) (.rsl q 0 0 1) [i]:=.inr ⟨q,0,_,rfl,Y2z _ _ _,rfl,rfl,rfl,rfl,rfl,rfl⟩;have k11:=b4 r3 (by grind) (by omega);have k13:=c3 r3 (by simp_all) (k11.2.trans a7);have k17:=d3 (fun u=>u=4) r3 (by simp_all) k13.2;have K13:Kept h g h13 g13:=(a5.trans (b4.kept (by omega))).trans c3;have ne:r3≠q:=fun e=>by
  simp_all
 have S0:SI t s L h13 g13 n0 q r3 ((q,(⟨0,true,3,1,[.int .i64 i]⟩:Rt))::h13) (.rsl q 0 0 1) [i] [numN t (xpc t [60] s.c)] s13 (upg g13 q 4) L13:=
  ⟨d2,((d3 fun u=>u=4).kept rfl).toE,c4,⟨hY,fun r hr=>by simp only[Y18,X8] at hr;simp_all⟩,rfl,by rw[c6];exact(o.xpc _).numU,(Ex.cu s _).trans c5,c7,fun j hj=>by simp_all,by simp[c9],k17.1.trans (k13.1.trans (k11.1.trans a6)),k17.2.trans k13.2,ne,by simp⟩
 have key:∀{m:Nat} {l N:List Int} {s2:Ls},(N,s2.c)=sumA t s.c→N.length=l.length→(sumA t s.c).1.length=l.length:=fun e1 e2=>by grind
 have H:=Y3g (w_sum (h:=h) (p:=L.p) (Q:=SumQ t s L h g n0) (Qp:=fun _ _=>False) (by
  refine⟨R.has,R.ldM,r3,h4,a1,h6,a2,r8,h9,b1,h11,b2,h13,i,c1,q,_,d1,fun y b h2=>∃l N s2 g2 L2,SI t s L h13 g13 n0 q r3 h2 y l N s2 g2 L2∧(N,s2.c)=sumA t s.c∧l.length≤5, ?_,
   fun m y h2=>∃l N s2 g2 L2,SI t s L h13 g13 n0 q r3 h2 y l N s2 g2 L2∧m=5-l.length∧l.length≤5∧sumL t m N s2.c=sumA t s.c,⟨4,[i],_,s13,_,L13,S0,rfl,by simp,by rw[c6];rfl⟩, ?_⟩
  ·rintro y _ h2 ⟨l,N,s2,g2,L2,S2,he,l5⟩ ny;have lenN:=S2.len;have eA:(sumA t s.c).1=N:=by rw[←he]
   have eU:(sumA t s.c).2=s2.c:=by rw[←he]
   have T2:=S2.x.len;have fin:∀(h':Hp) (g':Tag) (L':Lay) (s':Ls) (i:Int),sumV t s.c=xpc t [51,60] (if l.length<2 then s2.c.bad else s2.c)→Rep h' g' t s' L'→Kept h13 g13 h' g'→LA L L'→Ex s s' (l.length+2)→s'.c=xpc t [34] (numU t (sumV t s.c))→Ok s' (n0+(l.length+2))→(0≤i∧i<(s'.T.length:Nat))→tr s'.T i= .node ⟨12,(l.length:Nat)⟩ ((N++[numN t (sumV t s.c)]).map numT)→
     SumQ t s L h g n0 h' (.int .i64 i):=fun h' g' L' s' i _ x1 x2 x3 x4 x5 x6 x7 x8=>by
    have eT:sumT t s.c= .node ⟨12,(l.length:Nat)⟩ ((N++[numN t (sumV t s.c)]).map numT):=by rw[sumT,eA,lenN]
    refine⟨g',L',s',i,_,rfl,x1,K13.trans x2,x3,x4,by omega,x5,x6,x7,x8.trans eT.symm, ?_⟩;rw[eT,Y5y,ndL_nums]
    grind
   have eV:sumV t s.c=xpc t [51,60] (if l.length<2 then s2.c.bad else s2.c):=by rw[sumV,eA,eU,lenN]
   rw[←S2.S.p];refine⟨l.length,S2.Y.1.len,fun hd=> ?_,fun hd=> ?_⟩
   ·have hd':l.length<2:=by grind
    rw[if_pos hd'] at eV;have⟨h70,e1,e2,e3⟩:=S2.R.setW true;have S3:=S2.cu e2 e3 S2.o.bad;refine⟨S2.R.has,h70,e1,m_sumR S3 hq hl (by grind) l5 (Q:=SumQ t s L h g n0) fun h' g' L' s' i x1 x2 x3 x4 x5 x6 x7 x8=> ?_⟩;have eV':xpc t [51,60] ({s2 with c:=⟨s2.c.at_,true⟩}:Ls).c=sumV t s.c:=eV.symm
    grind
   ·have hd':¬l.length<2:=by grind
    rw[if_neg hd'] at eV;refine m_sumR S2 hq hl (by omega) l5 (Q:=SumQ t s L h g n0) fun h' g' L' s' i x1 x2 x3 x4 x5 x6 x7 x8=> ?_
    grind
  ·rintro m y h2 ⟨l,N,s2,g2,L2,S2,rfl,l5,he⟩ ny;have T2:=S2.x.len;rw[←S2.S.p];refine⟨fun b h3=>∃s3 g3 L3,SI t s L h13 g13 n0 q r3 h3 y l N s3 g3 L3∧((b=true∧l.length<5∧sumL t (5-(l.length+1)) (N++[numN t (xpc t [60] s3.c)]) (numU t (xpc t [60] s3.c))=sumA t s.c)∨(b=false∧(N,s3.c)=sumA t s.c)), ?_,l.length,S2.Y.1.len,fun hd=> ?_,fun hd=>⟨s2,g2,L2,S2,.inr ⟨rfl, ?_⟩⟩⟩
   ·rintro b h3 ⟨s3,g3,L3,S3,hb⟩;have T3:=S3.x.len;rw[S2.S.p, ←S3.S.p];refine⟨fun hb1=> ?_,fun hb1=> ?_⟩
    ·rcases hb with⟨_,hd',he3⟩|⟨hb,_⟩
     ·have⟨r49,h50,e1,h52,e2,g52,e3,e4⟩:=c_expL S3.R S3.o hl [60] (by simp);have S4:=S3.cu e3 e4 (S3.o.xpc _);have⟨h54,i,f1,r57,h58,f2,h60,y60,f3,f4,s5,g5,L5,S5,f5⟩:=S4.num hl (by grind) l5;refine⟨r49,h50,e1,h52,e2,h54,i,f1,r57,h58,f2,h60,y60,f3,f4,5-(l.length+1),by omega,l++[i],_,s5,g5,L5,S5,by simp,by grind, ?_⟩
      simp_all
     simp_all
    grind
   ·have hd':l.length<5:=by grind
    have em:5-l.length=(5-(l.length+1))+1:=by omega
    rw[em,sumL] at he;have⟨h45,e1,e2,e3⟩:=c_next S2.R S2.o hl 32;have S3:=S2.cu e2 e3 (S2.o.nxt 32);refine⟨Has.mk S2.b rfl,32,⟨_,S2.b,rfl,rfl,rfl⟩,h45,_,e1, ?_⟩;cases hh:hit t 32 s2.c with
    |true=>
     rw[if_pos hh] at he;have en:nxt t 32 s2.c=s2.c.adv:=by rw[nxt,if_pos hh]
     grind
    |false=>
     rw[if_neg (by grind)] at he;have en:nxt t 32 s2.c=s2.c:=by rw[nxt,if_neg (by grind)]
     grind
   ·have:5-l.length=0:=by grind
    rw[this] at he;exact he))
 obtain⟨h',av,h1,g',L',s',i',k,rfl,x1,x2,x3,x4,x5,x6,x7,x8,x9,x10⟩:=H;exact⟨h',g',L',s',i',k,h1,x1,x2,x3,x4,x5,x6,x7,x8,x9,x10⟩
end
def Y7i (h:Hp) (g:Tag) (t:List Int) (L:Lay) (r:Bool×Qs):Hp→AV→Prop:=fun h' av=>av= .bool r.1∧∃g' L' s',Rep h' g' t s' L'∧Ok s' 0∧abs s'=r.2∧Kept h g h' g'∧L'.p=L.p∧L'.fn=s'.F.length+1
structure Bd (t:List Int) (s:Ls):Prop where
 o:CuOk t s.c
 l:t.length≤1000000000
 T:s.T.length≤800000000
 F:s.F.length≤800000000
 tm:s.f.terms.length≤800000000
section
variable {h h0:Hp} {g g0:Tag} {t:List Int} {s:Ls} {L L0:Lay} {n0:Nat} {r:Bool×Qs}
theorem nx(R:Rep h g t s L)(o:CuOk t s.c)(hl:t.length≤1000000000)(c:Int):
  (hit t c s.c=true∧∃h',CallOK Tryd.prog 53 [.ref L.p 0 0,.int .u8 c] h h' (.bool true)∧Rep h' g t {s with c:=s.c.adv} L∧(Kpt h g h' g fun u=>u≠0)∧CuOk t s.c.adv)∨
  (hit t c s.c=false∧∃h',CallOK Tryd.prog 53 [.ref L.p 0 0,.int .u8 c] h h' (.bool false)∧Rep h' g t s L∧Kpt h g h' g fun u=>u≠0):=by
 have⟨h',a1,a2,a3⟩:=c_next R o hl c;cases hh:hit t c s.c with
 |true=>
  rw[hh] at a1;have e:nxt t c s.c=s.c.adv:=by rw[nxt,if_pos hh]
  rw[e] at a2;exact .inl ⟨rfl,h',a1,a2,a3,o.adv (Y0g hh).2.1⟩
 |false=>
  rw[hh] at a1;have e:nxt t c s.c=s.c:=by rw[nxt,if_neg (by grind)]
  rw[e] at a2;exact .inr ⟨rfl,h',a1,a2,a3⟩
theorem abs_push(s:Ls)(op:Int)(l:List Int):abs (pPush op l s)=Y8j op (l.map (tr s.T)) (abs s):=by
 simp[abs,pPush,Y8j,alf,fr0]
theorem Ok.push{op:Int}{l:List Int}(v:Ok s (n0+ndL (l.map (tr s.T))))(hv:Val s.T l):Ok (pPush op l s) n0:=by
 refine⟨v.okT,fun f hf=> ?_,⟨fun i hi=>by simp[pPush] at hi,hv⟩,v.dep, ?_⟩
 ·simp only[pPush,Xi,X8] at hf;rcases hf with hf|rfl
  ·exact v.vF f hf
  ·exact v.vf
 ·rw[abs_push];have:=v.tot;show s.T.length=_;simp only[szQ,szF,Y8j,fr0,szFs,Y27] at this⊢;omega
theorem m_term(R:Rep h g t s L)(hfn:L.fn=s.F.length+1){i b:Int}{x:Tr}(v:Ok s (nd x))(hi:0≤i∧i<(s.T.length:Nat))(hx:tr s.T i=x)(hF:s.F.length≤1000000000)(hn:s.f.terms.length≤1000000000)(K:Kept h0 g0 h g)(hp:L.p=L0.p)(hr:r=(false,Y1z x b (abs s))):
  ∃h',CallOK Tryd.prog 54 [.ref L.p 0 0,.int .i64 i,.int .i64 b] h h' (.tup [])∧Y7i h0 g0 t L0 r h' (.bool false):=by
 have⟨h',g',L',a1,a2,a3,a4⟩:=c_term R hfn i b hF hn;subst hx;exact⟨h',a1,by rw[hr],g',L',_,a2,v.term hi,by rw[hr,abs_term],K.trans a3,a4.p.trans hp,by rw[a4.fn,hfn];rfl⟩
theorem m_open(R:Rep h g t s L)(hfn:L.fn=s.F.length+1)(op:Int)(v:Ok s 0)(hF:s.F.length≤1000000000)(K:Kept h0 g0 h g)(hp:L.p=L0.p)(hr:r=(true,Y8j op [] (abs s))):
  ∃h',CallOK Tryd.prog 58 [.ref L.p 0 0,.agg [.int .i64 op,.im (.val (.slice none 0 0)),.im (.val (.slice none 0 0)),.im (.val (.slice none 0 0)),.int .i64 0,.int .i64 0,.int .i64 0]] h h' (.tup [])∧Y7i h0 g0 t L0 r h' (.bool true):=by
 have⟨h',g',L',a1,a2,a3,a4,a5⟩:=c_open R hfn op (xo:=nilA) (SlI.nil h) (fun r hr=>by simp[Y18] at hr) hF;exact⟨h',a1,by rw[hr],g',L',_,a2,Ok.push (l:=[]) v (fun i hi=>by simp at hi),by rw[hr,abs_push];rfl,K.trans (a3.done fun r hr=>by simp[Y18] at hr),a4.trans hp,by rw[a5,hfn];simp[pPush]⟩
theorem m_bad(R:Rep h g t s L)(hfn:L.fn=s.F.length+1)(v:Ok s 0)(K:Kept h0 g0 h g)(hp:L.p=L0.p){b:Bool}(hr:r=(b,qBad (abs s))):∃h',St h L.p 0 2 (.bool true) h'∧Y7i h0 g0 t L0 r h' (.bool b):=by
 have⟨h',a1,a2,a3⟩:=R.setW true;exact⟨h',a1,by rw[hr],g,L,_,a2,v.cu _,by rw[hr];rfl,K.trans (a3.kept (by omega)),hp,hfn⟩
theorem c_begin(R:Rep h g t s L)(hfn:L.fn=s.F.length+1)(v:Ok s 0)(b:Bd t s):∃h' av,CallOK Tryd.prog 26 [.ref L.p 0 0] h h' av∧Y7i h g t L (Y0x t (abs s)) h' av:=by
 have hl:=b.l;have hT:=b.T;have hF:=b.F;have htm:=b.tm;have eu:(abs s).c=s.c:=rfl;refine Y3g (w_begin (h:=h) (p:=L.p) (Q:=Y7i h g t L (Y0x t (abs s))) (Qp:=fun _ _=>False) ?_);unfold pre_begin Y0x;rw[eu];rcases nx R b.o hl 60 with⟨hh,h1,a1,a2,a3,o1⟩|⟨hh,h1,a1,a2,a3⟩
 ·rw[if_pos hh];have⟨h5,g5,L5,s5,i,c1,c2,c3,c4,c5,c6,c7,c8,c9⟩:=c_num a2 o1 hl (v.cu _) (by grind);have x5:=(Ex.cu s s.c.adv).trans c5;have⟨h8,d1,d2⟩:=m_term (h0:=h) (g0:=g) (L0:=L) (r:=(false,Y1z (numT (numN t s.c.adv)) 1 (qU (numU t s.c.adv) (abs s)))) (x:=numT (numN t s.c.adv)) c2 (by rw[c4.fn,hfn,x5.F]) (b:=1) c7 c8 c9 (by rw[x5.F];omega) (by rw[x5.f];omega) ((a3.kept (by omega)).trans c3) c4.p (by rw[x5.abs v,c6];rfl);rw[c4.p] at d1
  grind
 ·rw[if_neg (by grind)];refine⟨h1,false,a1,fun e=>(by cases e),fun _=> ?_⟩;have K1:=a3.kept (h:=h) (by omega);rcases nx a2 b.o hl 48 with⟨hh,h2,b1,b2,b3,o2⟩|⟨hh,h2,b1,b2,b3⟩
  ·rw[if_pos hh];have⟨h3,c1,c2,c3⟩:=c_character b2 o2 hl (n:=26) (by omega);have K3:=(K1.trans (b3.kept (by omega))).trans (c3.kept (by omega));refine⟨h2,true,b1,fun _=>⟨h3,_,c1,fun hx=> ?_,fun hx=> ?_⟩,fun e=>by cases e⟩
   ·have hx':chrI t 26 s.c.adv<0:=of_decide_eq_true hx;have e3:chrU t 26 s.c.adv=s.c.adv:=by rw[chrU,if_pos hx']
    rw[if_pos hx'];have⟨h4,d1,d2,d3⟩:=c2.setW true;have⟨h5,g5,L5,f1,f2,f3,f4⟩:=c_add d2 1 (chrI t 26 s.c.adv) (SlI.nil h4) (fun r hr=>by simp[Y18] at hr) (v.cu _) (fun i hi=>by simp at hi) (by grind) (by simp);have e0:Val s.T []:=fun i hi=>by simp at hi
    have⟨h8,k1,k2⟩:=m_term (h0:=h) (g0:=g) (L0:=L) (r:=(false,Y1z (.node ⟨1,chrI t 26 s.c.adv⟩ []) 1 (qU s.c.adv.bad (abs s)))) (x:=.node ⟨1,chrI t 26 s.c.adv⟩ []) f2 (by rw[f4.fn,hfn];rfl) (i:=((s.T.length:Nat):Int)) (b:=1) ((v.cu _).add e0) ⟨by omega,by simp only[pAdd,X4,Xc];omega⟩ (tr_new v.okT e0) (by simp only[pAdd];omega) (by simp only[pAdd];omega) ((K3.trans (d3.kept (by omega))).trans f3) f4.p (by rw[abs_add (v.cu _)];simp only[e3];rfl);rw[f4.p] at k1;exact⟨c2.has,h4,d1,h5,_,f1,h8,k1,k2⟩
   ·have hx':¬chrI t 26 s.c.adv<0:=of_decide_eq_false hx;have e3:chrU t 26 s.c.adv=s.c.adv.adv:=by rw[chrU,if_neg hx']
    rw[if_neg hx'];have⟨h5,g5,L5,f1,f2,f3,f4⟩:=c_add c2 1 (chrI t 26 s.c.adv) (SlI.nil h3) (fun r hr=>by simp[Y18] at hr) (v.cu _) (fun i hi=>by simp at hi) (by grind) (by simp);have e0:Val s.T []:=fun i hi=>by simp at hi
    have⟨h8,k1,k2⟩:=m_term (h0:=h) (g0:=g) (L0:=L) (r:=(false,Y1z (.node ⟨1,chrI t 26 s.c.adv⟩ []) 1 (qU s.c.adv.adv (abs s)))) (x:=.node ⟨1,chrI t 26 s.c.adv⟩ []) f2 (by rw[f4.fn,hfn];rfl) (i:=((s.T.length:Nat):Int)) (b:=1) ((v.cu _).add e0) ⟨by omega,by simp only[pAdd,X4,Xc];omega⟩ (tr_new v.okT e0) (by simp only[pAdd];omega) (by simp only[pAdd];omega) (K3.trans f3) f4.p (by rw[abs_add (v.cu _)];simp only[e3];rfl);rw[f4.p] at k1
    grind
  ·rw[if_neg (by grind)];refine⟨h2,false,b1,fun e=>(by cases e),fun _=> ?_⟩;have K2:=K1.trans (b3.kept (by omega));rcases nx b2 b.o hl 35 with⟨hh,h3,c1,c2,c3,o3⟩|⟨hh,h3,c1,c2,c3⟩
   ·rw[if_pos hh];have⟨h4,d1,d2⟩:=m_open (h0:=h) (g0:=g) (L0:=L) (r:=(true,Y8j (-2) [] (qU s.c.adv (abs s)))) c2 hfn (-2) (v.cu _) (by grind) (K2.trans (c3.kept (by omega))) rfl rfl
    grind
   ·rw[if_neg (by grind)];refine⟨h3,false,c1,fun e=>(by cases e),fun _=>⟨c2.has,c2.ldM, ?_⟩⟩;have K3:=K2.trans (c3.kept (by omega));rcases nx c2 b.o hl 56 with⟨hh,h4,d1,d2,d3,o4⟩|⟨hh,h4,d1,d2,d3⟩
    ·rw[if_pos hh];have⟨h5,g5,L5,s5,i,k,f1,f2,f3,f4,f5,f6,f7,f8,f9,f10,f11⟩:=c_sum d2 o4 hl (v.cu _) (by omega);have x5:=(Ex.cu s s.c.adv).trans f5;have⟨h8,k1,k2⟩:=m_term (h0:=h) (g0:=g) (L0:=L) (r:=(false,Y1z (sumT t s.c.adv) 1 (qU (sumU t s.c.adv) (abs s)))) f2 (by rw[f4.fn,hfn,x5.F]) (b:=1) (by simp_all) f9 f10 (by rw[x5.F];omega) (by rw[x5.f];omega) ((K3.trans (d3.kept (by omega))).trans f3) f4.p (by rw[x5.abs v,f7];rfl);rw[f4.p] at k1
     grind
    ·rw[if_neg (by grind)];refine⟨h4,false,d1,fun e=>(by cases e),fun _=> ?_⟩;have K4:=K3.trans (d3.kept (by omega));have⟨q,hq⟩:=h4.fresh;have⟨e1,e2,e3,e4⟩:=d2.grow (u:=4) (rt:=⟨0,true,3,1,[.int .i64 6,.int .i64 9,.int .i64 10,.int .i64 11,.int .i64 13]⟩) (.inr rfl) hq;have hc:Hp.at ((q,(⟨0,true,3,1,[.int .i64 6,.int .i64 9,.int .i64 10,.int .i64 11,.int .i64 13]⟩:Rt))::h4) q=some ⟨0,true,3,1,[.int .i64 6,.int .i64 9,.int .i64 10,.int .i64 11,.int .i64 13]⟩:=Y2z _ _ _;have K5:=K4.trans ((e3 fun u=>u=4).kept rfl);have next:∀{h1 h2:Hp},(Kpt h1 (upg g q 4) h2 (upg g q 4) fun u=>u≠0)→h1.at q=some ⟨0,true,3,1,[.int .i64 6,.int .i64 9,.int .i64 10,.int .i64 11,.int .i64 13]⟩→h2.at q=some ⟨0,true,3,1,[.int .i64 6,.int .i64 9,.int .i64 10,.int .i64 11,.int .i64 13]⟩:=fun a b=>(a q (by grind) (by omega)).1.trans b;refine⟨q,_,e1,Has.mk hc rfl,HasK.mk hc rfl rfl,⟨_,hc,rfl,rfl,rfl⟩,e2.has,e2.ldM, ?_⟩;have op:∀{h1 h2:Hp} {op:Int},Rep h2 (upg g q 4) t {s with c:=s.c.adv} L→Kept h g h1 (upg g q 4)→(Kpt h1 (upg g q 4) h2 (upg g q 4) fun u=>u≠0)→_:=fun {h1 h2 op} r2 k1 k2=>m_open (h0:=h) (g0:=g) (L0:=L) (r:=(true,Y8j op [] (qU s.c.adv (abs s)))) r2 hfn op (v.cu _) (by grind) (k1.trans (k2.kept (by omega))) rfl rfl;rcases nx e2 b.o hl 57 with⟨hh,h6,f1,f2,f3,o5⟩|⟨hh,h6,f1,f2,f3⟩
     ·rw[if_pos hh];exact⟨h6,true,f1,fun _=>op f2 K5 f3,fun e=>by cases e⟩
     ·rw[if_neg (by grind)];have hc6:=next f3 hc;have K6:=K5.trans (f3.kept (by omega));refine⟨h6,false,f1,fun e=>(by cases e),fun _=>⟨HasK.mk hc6 rfl rfl,⟨_,hc6,rfl,rfl,rfl⟩,f2.has,f2.ldM, ?_⟩⟩;rcases nx f2 b.o hl 28 with⟨hh,h7,k1,k2,k3,o6⟩|⟨hh,h7,k1,k2,k3⟩
      ·rw[if_pos hh];exact⟨h7,true,k1,fun _=>op k2 K6 k3,fun e=>by cases e⟩
      ·rw[if_neg (by grind)];have hc7:=next k3 hc6;have K7:=K6.trans (k3.kept (by omega));refine⟨h7,false,k1,fun e=>(by cases e),fun _=>⟨HasK.mk hc7 rfl rfl,⟨_,hc7,rfl,rfl,rfl⟩,k2.has,k2.ldM, ?_⟩⟩;rcases nx k2 b.o hl 55 with⟨hh,h8,l1,l2,l3,o7⟩|⟨hh,h8,l1,l2,l3⟩
       ·rw[if_pos hh];exact⟨h8,true,l1,fun _=>op l2 K7 l3,fun e=>by cases e⟩
       ·rw[if_neg (by grind)];have hc8:=next l3 hc7;have K8:=K7.trans (l3.kept (by omega));refine⟨h8,false,l1,fun e=>(by cases e),fun _=>⟨HasK.mk hc8 rfl rfl,⟨_,hc8,rfl,rfl,rfl⟩,l2.has,l2.ldM, ?_⟩⟩;rcases nx l2 b.o hl 42 with⟨hh,h9,m1,m2,m3,o8⟩|⟨hh,h9,m1,m2,m3⟩
        ·rw[if_pos hh];exact⟨h9,true,m1,fun _=>op m2 K8 m3,fun e=>by cases e⟩
        ·rw[if_neg (by grind)];have hc9:=next m3 hc8;have K9:=K8.trans (m3.kept (by omega));refine⟨h9,false,m1,fun e=>(by cases e),fun _=>⟨HasK.mk hc9 rfl rfl,⟨_,hc9,rfl,rfl,rfl⟩,m2.has,m2.ldM, ?_⟩⟩;rcases nx m2 b.o hl 41 with⟨hh,hA,n1,n2,n3,o9⟩|⟨hh,hA,n1,n2,n3⟩
         ·rw[if_pos hh];exact⟨hA,true,n1,fun _=>op n2 K9 n3,fun e=>by cases e⟩
         ·rw[if_neg (by grind)];exact⟨hA,false,n1,fun e=>(by cases e),fun _=>⟨n2.has,m_bad n2 hfn v (K9.trans (n3.kept (by omega))) rfl rfl⟩⟩
end
end Go.Proofs.YtfpcbalkioolmaaDoor
