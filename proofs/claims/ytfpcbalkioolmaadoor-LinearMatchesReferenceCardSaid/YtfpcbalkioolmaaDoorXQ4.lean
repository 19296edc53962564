/- Own work. -/
import Derived.Test.YtfpcbalkioolmaaDoorXQ3
set_option linter.unusedSimpArgs false
set_option linter.unusedVariables false
namespace Go.Abs
def memB:List Nat→Nat→Bool
 |[],_=>false
 |i::r,w=>bif Nat.beq i w then true else memB r w
def rootOf:AV→Option Nat
 | .rsl r _ _ _=>some r
 | .ref r _ _=>some r
 |_=>none
section
variable (D:SD) (P:Program)
def plT:Ty→Bool
 | .int _=>true
 | .bool=>true
 | .str=>true
 | .fz _=>true
 | .ks _=>true
 | .st i=>D.pl i
 | .arr _ t=>plT t
 |_=>false
mutual
def mkS (ids:List Nat):SV D.S→Bool
 | .ptr w l _ _=>memB ids w&&l.isEmpty
 | .vw w l=>memB ids w&&l.isEmpty
 | .vp w l _=>memB ids w&&l.isEmpty
 | .agg cs=>mkSL ids cs
 | .tup cs=>mkSL ids cs
 | .fn _ cs=>mkSL ids cs
 | .cnd _ _ _ x=>mkS ids x
 |_=>true
def mkSL (ids:List Nat):List (SV D.S)→Bool
 |[]=>true
 |x::xs=>mkS ids x&&mkSL ids xs
end
def mskE (ids:List Nat):SEnv D→SEnv D
 |[]=>[]
 |(i,x)::r=>(i,bif mkS D ids x then x else .any)::mskE ids r
def idsB (v:Nat):Sto D→List Nat
 |[]=>[]
 |(w,_)::r=>bif Nat.beq w v then idsB v r else w::idsB v r
def xapv (en:SEnv D) (σ:Sto D) (tn:xTn) (v:Nat) (e k bytes:Nat) (ty:Ty) (ys:List (Den D.S ty)):Option (XCs×SEnv D×Sto D×SV D.S):=match getB D σ v with
 |some ⟨false,e',ty',xs⟩=>(match tyEq ty ty' with
  |some h=>bif Nat.beq e' e&&(Nat.beq k (nl D ty')&&(plT D ty'&&(tnOk tn v&&Nat.blt v 1000000))) then
    some ([.room bytes (List.length xs+List.length ys)],mskE D (idsB D v σ) en,xsetB D σ v ⟨false,e,ty',xs++(h.down▸ys:List (Den D.S ty'))⟩,.vw v []) else none
  |none=>none)
 |_=>none
def xsrc (σ:Sto D) (tn:xTn):SV D.S→Option (Σ t:Ty,List (Den D.S t))
 | .d ty ys=>some ⟨ty,ys⟩
 | .vw w l=>(match xnav D σ tn w l with
  |some ⟨ty,ys⟩=>bif plT D ty then some ⟨ty,ys⟩ else none
  |none=>none)
 |_=>none
def xapp (en:SEnv D) (σ:Sto D) (tn:xTn) (dst:Option Nat) (t u:TypeId) (s x:SV D.S):Option (XCs×SEnv D×Sto D×SV D.S):=match elemE P t,xok D noI x with
 |some (e,k,bytes,_),some (c,y)=>(match xsrc D σ tn y with
 |some ⟨ty,ys⟩=>bif tk P u==1 then(match s with
  | .vw v []=>(match xapv D en σ tn v e k bytes ty ys with
   |some (cs,r)=>some (c++cs,r)
   |none=>none)
  | .c (.slice none 0 0)=>(match dst with
   |some v=>(match getB D σ v with
    |none=>bif Nat.blt v 1000000&& !(mnE D v en) then(match xapv D en ((v,⟨false,e,ty,[]⟩)::σ) tn v e k bytes ty ys with
     |some (cs,r)=>some (c++cs,r)
     |none=>none) else none
    |some _=>none)
   |none=>none)
  |_=>none) else none
 |none=>none)
 |_,_=>none
end
section
variable {D:SD} {P:Program} {h h':Hp} {ω ω':Nat→AV} {σ:Sto D} {tn:xTn} {Rs:Nat→List Nat} {env:Env} {en:SEnv D} {h0:Hp} {O0:Nat→Prop} {ω0:Nat→AV} {F0:Nat→Prop} {ids:List Nat}
theorem plT_ok:∀{t:Ty},plT D t=true→∀x,∀l∈lvs D t x,ownB l.1=false
 | .int _,_,x,l,hl=>by simp only[lvs,X8] at hl;subst hl;rfl
 | .bool,_,x,l,hl=>by simp only[lvs,X8] at hl;subst hl;rfl
 | .str,_,x,l,hl=>by simp only[lvs,X8] at hl;subst hl;rfl
 | .fz _,_,x,l,hl=>by simp only[lvs,X8] at hl;subst hl;rfl
 | .st i,h,x,l,hl=>D.pln i h x l hl
 | .sl _ _,h,_,_,_=>by cases h
 | .rp _,h,_,_,_=>by cases h
 | .ks _,_,x,l,hl=>by simp only[lvs,X8] at hl;subst hl;rfl
 | .arr n t,h,x,l,hl=>by
  simp only[lvs,List.mem_flatMap] at hl;have⟨j,_,hj⟩:=hl;exact plT_ok (t:=t) h _ l hj
theorem LsR.plain{n:Nat}:∀{ls:List (xLf D.S)} {δ:Nat→Option Pth} {cs:List AV} {rs:List Nat},LsR D (LfR D h n) δ ls cs rs→(∀l∈ls,ownB l.1=false)→cs=ls.map (lfA D)
 |[],_,_,_,H,_=>H.1
 |l::ls,δ,cs,rs,H,hp=>by
  obtain⟨a,cs',r,rs',rfl,rfl,h1,h2⟩:=H;have hl:=hp l (by simp);have:a=lfA D l:=by
   cases n with
   |zero=>exact h1.2.2.1
   |succ n=>
    rcases h1 with h1|⟨_,⟨e,t,rfl⟩,_⟩|⟨_,e,t,xs,rfl,_⟩
    ·simp_all
    ·cases hl
    ·cases hl
  rw[this,LsR.plain h2 fun l hl=>hp l (by simp[hl])]
  rfl
theorem ElR.plain{n:Nat}{t:Ty}(ht:plT D t=true):∀{xs:List (Den D.S t)} {δ:Nat→Nat→Option Pth} {cs:List AV} {rs:List Nat},ElR D (LfR D h n) t δ xs cs rs→cs=(fzC D t xs).map AV.im
 |[],_,_,_,H=>H.1
 |x::xs,δ,cs,rs,H=>by
  obtain⟨c,cs',r,rs',rfl,rfl,h1,h2⟩:=H;rw[h1.plain (plT_ok ht x),ElR.plain ht h2];show _=((encT D t x)++fzC D t xs).map AV.im;rw[X0j,encT_lvs,X1o]
  rfl
theorem ElR.ofPlain{n:Nat}{t:Ty}(ht:plT D t=true):∀(xs:List (Den D.S t)),ElR D (LfR D h n) t (fun _ _=>none) xs ((fzC D t xs).map AV.im) []
 |[]=>⟨rfl,rfl⟩
 |x::xs=>by
  refine⟨(lvs D t x).map (lfA D),(fzC D t xs).map AV.im,[],[], ?_,rfl,LsR.ofPlain (plT_ok ht x),ElR.ofPlain ht xs⟩;show(encT D t x++fzC D t xs).map AV.im=_;rw[X0j,encT_lvs,X1o]
  rfl
mutual
theorem SR.frm(hω:∀w,memB ids w=true→ω' w=ω w)(hr:∀w q,memB ids w=true→rootOf (ω w)=some q→h'.at q=h.at q):∀{x:SV D.S} {a:AV},mkS D ids x=true→SR D h ω x a→SR D h' ω' x a
 | .any,_,_,_=>by simp only[SR]
 | .c _,_,_,H=>by simpa only[SR] using H
 | .i _ _,_,_,H=>by simpa only[SR] using H
 | .b _,_,_,H=>by simpa only[SR] using H
 | .s _,_,_,H=>by simpa only[SR] using H
 | .k _ _,_,_,H=>by simpa only[SR] using H
 | .d _ _,_,_,H=>by simpa only[SR] using H
 | .fp _ _ _ _,_,_,H=>by simpa only[SR] using H
 | .agg cs,a,hm,H=>by
  simp only[SR] at H⊢;have⟨l,e,H⟩:=H;exact⟨l,e,SRL.frm hω hr (by simpa only[mkS] using hm) H⟩
 | .tup cs,a,hm,H=>by
  simp only[SR] at H⊢;have⟨l,e,H⟩:=H;exact⟨l,e,SRL.frm hω hr (by simpa only[mkS] using hm) H⟩
 | .fn f cs,a,hm,H=>by
  simp only[SR] at H⊢;have⟨l,e,H⟩:=H;exact⟨l,e,SRL.frm hω hr (by simpa only[mkS] using hm) H⟩
 | .cnd _ _ g x,a,hm,H=>by
  simp only[SR] at H⊢;have⟨b,e,H⟩:=H;exact⟨b,e,fun hg=>SR.frm hω hr (by simpa only[mkS] using hm) (H hg)⟩
 | .ptr w l j o,a,hm,H=>by
  simp only[mkS,X2,X14] at hm;obtain⟨hm,rfl⟩:=hm;simp only[SR,HdAt] at H⊢;obtain⟨hd,r,ver,rt,rfl,e2,e3,e4,e5⟩:=H;refine⟨_,r,ver,rt,(hω w hm).symm,e2, ?_,e4,e5⟩;rw[hr w r hm (by rcases e2 with⟨m,e,_⟩|⟨e,_⟩<;>rw[e]<;>rfl)]
  exact e3
 | .vw w l,a,hm,H=>by
  simp only[mkS,X2,X14] at hm;obtain⟨hm,rfl⟩:=hm;simp only[SR,HdAt] at H⊢
  grind
 | .vp w l n,a,hm,H=>by
  simp only[mkS,X2,X14] at hm;obtain⟨hm,rfl⟩:=hm;simp only[SR,HdAt] at H⊢;have⟨r,ver,m,e1,e2,e3,e4⟩:=H;refine⟨r,ver,m,by simp_all,e2, ?_,e4⟩;unfold Has at e3⊢;rw[hr w r hm (by rw[←e1];rfl)];exact e3
theorem SRL.frm(hω:∀w,memB ids w=true→ω' w=ω w)(hr:∀w q,memB ids w=true→rootOf (ω w)=some q→h'.at q=h.at q):∀{xs:List (SV D.S)} {l:List AV},mkSL D ids xs=true→SRL D h ω xs l→SRL D h' ω' xs l
 |[],_,_,H=>by simpa only[SRL] using H
 |x::xs,l,hm,H=>by
  simp only[mkSL,X2] at hm;simp only[SRL] at H⊢;have⟨a,l',e,h1,h2⟩:=H;exact⟨a,l',e,SR.frm hω hr hm.1 h1,SRL.frm hω hr hm.2 h2⟩
end
theorem xrd_msk:∀(en:SEnv D) (i:Nat),xrd D (mskE D ids en) i=bif mkS D ids (xrd D en i) then xrd D en i else .any
 |[],i=>by rfl
 |(j,x)::r,i=>by
  simp only[mskE,xrd];rcases beqS j i with⟨rfl,hb⟩|⟨_,hb⟩
  ·rw[hb,cond_true,cond_true]
  ·rw[hb,cond_false,cond_false,xrd_msk r i]
theorem CndOK.msk(H:CndOK en):CndOK (mskE D ids en):=fun i t p g x hx=>by
 rw[xrd_msk] at hx;cases hk:mkS D ids (xrd D en i) with
 |false=>simp_all
 |true=>
  rw[hk,cond_true] at hx;have h1:=H i t p g x hx;have:xrd D (mskE D ids en) t=xrd D en t:=by
   rw[xrd_msk];unfold gfl at h1
   split at h1
   ·rename_i b e;rw[e];rfl
   ·rename_i e;rw[e];rfl
   ·cases h1
  unfold gfl at h1⊢
  simp_all
theorem idsB_mem{v w:Nat}:∀{σ:Sto D},memB (idsB D v σ) w=true→w≠v∧∃b,getB D σ w=some b
 |[],hm=>by cases hm
 |(u,b)::r,hm=>by
  simp only[idsB] at hm;simp only[getB];rcases beqS u w with⟨rfl,hb⟩|⟨hn,hb⟩
  ·rcases beqS u v with⟨rfl,hv⟩|⟨hn,hv⟩
   ·rw[hv,cond_true] at hm;exact⟨(idsB_mem hm).1,b,by grind⟩
   simp_all
  ·rw[hb];rcases beqS u v with⟨rfl,hv⟩|⟨_,hv⟩
   ·rw[hv,cond_true] at hm;exact idsB_mem hm
   ·rw[hv,cond_false] at hm;simp only[memB,hb,cond_false] at hm;exact idsB_mem hm
theorem BkR.root{δ:Option Pth}{b:Bv D}{a:AV}{rs:List Nat}{q:Nat}(H:BkR D h δ b a rs)(hq:rootOf a=some q):q∈rs:=by
 unfold BkR at H
 split at H
 ·obtain⟨_,r,rt,rs',rfl,_,_,rfl⟩:=H;cases hq;simp
 ·rcases H with⟨_,rfl,_⟩|⟨r,rt,rs',rfl,_,_,_,rfl⟩
  ·cases hq
  ·cases hq;simp
theorem XR.setH(X:XR D h0 O0 ω0 F0 en σ tn env h ω Rs){v r:Nat}{rt:Rt}{b b':Bv D}{a:AV}(hb:getB D σ v=some b)(ht:tnOk tn v=true)(hlt:Nat.blt v 1000000=true)(hr:r∈Rs v∨(h.at r=none∧h0.at r=none))(hB:BkR D ((r,rt)::h) none b' a [r]):
  XR D h0 O0 ω0 F0 (mskE D (idsB D v σ) en) (xsetB D σ v b') tn env ((r,rt)::h) (updN ω v a) (updN Rs v [r]):=by
 have hat:∀q,q≠r→Hp.at ((r,rt)::h) q=h.at q:=fun q hq=>by simp only[Hp.at];rw[if_neg fun e=>hq e.symm]
 have hnr:∀w c,w≠v→getB D σ w=some c→∀q∈Rs w,q≠r:=fun w c hw hc q hq e=>by
  subst e;rcases hr with hr|⟨hr,_⟩
  ·exact X.rep.dj w c v b hc hb hw q hq hr
  ·have⟨rt',h1⟩:=(X.rep.blk w c hc).mem q hq
   simp_all
 have hr0:O0 r∨h0.at r=none:=by
  rcases hr with hr|⟨_,hr⟩
  ·exact X.frB v b hb r hr
  simp_all
 refine⟨⟨fun w c hw=> ?_,fun w c hw=> ?_,fun w c w' c' hw hw' hn x hx=> ?_⟩,fun i=> ?_,X.cnd.msk,fun w hw=> ?_,fun q rt' hq hO=> ?_,fun w c hw q hq=> ?_⟩
 ·by_cases e:w=v
  ·subst e;rw[Y87 hb] at hw;cases hw;rw[tnOk_ok ht,Y13,Y13];exact hB
  ·rw[Y3k e] at hw;rw[Y2e e,Y2e e];exact(X.rep.blk w c hw).frame fun q hq=>hat q (hnr w c e hw q hq)
 ·by_cases e:w=v
  ·subst e;rw[Y13];simp
  ·rw[Y3k e] at hw;rw[Y2e e];exact X.rep.nd w c hw
 ·by_cases e:w=v
  ·subst e;have e':w'≠w:=fun e=>hn e.symm;rw[Y3k e'] at hw';rw[Y13,X8] at hx;rw[Y2e e',hx]
   grind
  ·rw[Y3k e] at hw;rw[Y2e e] at hx
   by_cases e':w'=v
   ·subst e';rw[Y13,X8]
    grind
   ·rw[Y3k e'] at hw';rw[Y2e e'];exact X.rep.dj w c w' c' hw hw' hn x hx
 ·rw[xrd_msk];cases hk:mkS D (idsB D v σ) (xrd D en i) with
  |false=>rw[cond_false];simp only[SR]
  |true=>
   rw[cond_true];refine SR.frm (fun w hw=>Y2e (idsB_mem hw).1) (fun w q hw hq=> ?_) hk (X.env i);have⟨e,c,hc⟩:=idsB_mem hw;exact hat q (hnr w c e hc q ((X.rep.blk w c hc).root hq))
 ·have⟨h1,h2⟩:=X.fix w hw;have hlt':v+1≤1000000:=X9 hlt;have e:w≠v:=fun e=>by omega
  exact⟨by rw[Y2e e];exact h1,h2⟩
 ·have e:q≠r:=fun e=>by
   simp_all
  rw[hat q e];exact X.frA q rt' hq hO
 ·by_cases e:w=v
  ·subst e;rw[Y13,X8] at hq
   simp_all
  ·rw[Y3k e] at hw;rw[Y2e e] at hq;exact X.frB w c hw q hq
end
section
variable {D:SD} {P:Program} {h h':Hp} {ω ω':Nat→AV} {σ:Sto D} {tn:xTn} {Rs:Nat→List Nat} {env:Env} {en:SEnv D} {h0:Hp} {O0:Nat→Prop} {ω0:Nat→AV} {F0:Nat→Prop}
theorem fzC_len{t:Ty}(ht:plT D t=true)(xs:List (Den D.S t)):(fzC D t xs).length=xs.length*nl D t:=by
 have:=(ElR.ofPlain (h:=[]) (n:=0) ht xs).len;rwa[Xw] at this
theorem fzC_app{t:Ty}(xs ys:List (Den D.S t)):fzC D t (xs++ys)=fzC D t xs++fzC D t ys:=List.flatMap_append
theorem xapv_sound(X:XR D h0 O0 ω0 F0 en σ tn env h ω Rs){o:Oper}{s x:Operand}{t u e:TypeId}{k bytes:Nat}{z:List Value}(ho:o.op= .call ⟨.builtin .append, #[s,x], #[t,u]⟩)(E:Elem P t e k bytes z)(hu:tk P u=1){v:Nat}{ty:Ty}{ys:List (Den D.S ty)}{cs:XCs}{en':SEnv D}{σ':Sto D}{sv:SV D.S}
  (hx:xapv D en σ tn v e k bytes ty ys=some (cs,en',σ',sv)) (hc:XOk cs) (hs:rdo env s=ω v) (hgx:gd (rdo env x)) (hsr:plT D ty=true→nl D ty=k→SrcA P h u k (st (rdo env x)) ys.length ((fzC D ty ys).map .im)):
  ∃h' av ω' Rs',HStep P o env h h' av∧XR D h0 O0 ω0 F0 en' σ' tn env h' ω' Rs'∧SR D h' ω' sv av∧notC D sv=true:=by
 unfold xapv at hx
 split at hx
 ·rename_i e' ty' xs hg
  split at hx
  ·rename_i q _;have⟨q⟩:=q;subst q;have⟨hb,hx⟩:=Y2l hx;simp only[X2] at hb;have⟨b1,b2,b3,b4,b5⟩:=hb;have b1:=Xe b1;have b2:=Xe b2;simp only[X0,Prod.mk.injEq] at hx;obtain⟨rfl,rfl,rfl,rfl⟩:=hx;subst b1;have hroom:room bytes (xs.length+ys.length):=hc (.room bytes (xs.length+ys.length)) (by simp);have src:=hsr b3 b2.symm;have hB:=X.rep.blk v _ hg;rw[tnOk_ok b4] at hB
   --the new header
   have key:∀(r:Nat) (rt:Rt),rt.live=true→rt.e=e'→rt.k=k→rt.cs=(fzC D ty (xs++ys)).map AV.im→BkR D ((r,rt)::h) none ⟨false,e',ty,xs++ys⟩ (.rsl r rt.ver 0 (xs.length+ys.length)) [r]:=fun r rt k1 k2 k3 k4=>by
    refine .inr ⟨r,rt,[],by rw[X4],by simp[Hp.at],k2,⟨k1,by rw[k3,b2],_,[],by rw[X0l,k4], ?_⟩,rfl⟩;exact ElR.ofPlain b3 (xs++ys)
   have hsr:∀(r:Nat) (rt:Rt),SR D ((r,rt)::h) (updN ω v (.rsl r rt.ver 0 (xs.length+ys.length))) (.vw v []) (.rsl r rt.ver 0 (xs.length+ys.length)):=fun r rt=>by
    simp only[SR,HdAt];exact⟨.inr ⟨_,_,_,rfl⟩,(Y13 ω v _).symm⟩
   rcases hB with⟨hxs,hn,hr⟩|⟨r,rt,rs',hn,hat,he,⟨hl,hk,ds,post,hcs,hel⟩,hr⟩
   ·have hxs:xs=[]:=hxs;subst hxs;have⟨r,hr1,hr2⟩:=Hp.freshR h h0;have hroom':room bytes (0+ys.length):=hroom;have hst:=Y9q (P:=P) (env:=env) (h:=h) (h1:=(r,⟨1,true,e',k,(fzC D ty ys).map .im⟩)::h) (s1:=.rsl r 1 0 ys.length) ho E (hs.trans hn) rfl hgx src (.inr ⟨rfl,r,hr1,hroom'.1,hroom'.2,rfl,rfl⟩);have e0:([]:List (Den D.S ty)).length+ys.length=ys.length:=X05 _;have hk1:=key r ⟨1,true,e',k,(fzC D ty ys).map .im⟩ rfl rfl rfl rfl;have hk2:=hsr r ⟨1,true,e',k,(fzC D ty ys).map .im⟩;rw[e0] at hk1 hk2;exact⟨_,_,_,_,hst,X.setH hg b4 b5 (.inr ⟨hr1,hr2⟩) hk1,hk2,rfl⟩
   ·have hlen:=hel.len;have htake:rt.cs.take (xs.length*k)=(fzC D ty xs).map AV.im:=by
     rw[hcs,b2, ←hlen,List.take_left' rfl];exact hel.plain b3
    have hfit:xs.length*k≤rt.cs.length:=by simp_all
    have hst:=Y9q (P:=P) (env:=env) (h:=h) (h1:=(r,⟨rt.ver+1,true,e',k,rt.cs.take (xs.length*k)++(fzC D ty ys).map .im⟩)::h) (s1:=.rsl r (rt.ver+1) 0 (xs.length+ys.length)) ho E (hs.trans hn) rfl hgx src (.inl ⟨r,rt.ver,xs.length,rt,rfl,hat,rfl,hl,he,by rw[hk,b2],hfit,hroom.1,hroom.2,rfl,rfl⟩);have hk1:=key r ⟨rt.ver+1,true,e',k,rt.cs.take (xs.length*k)++(fzC D ty ys).map .im⟩ rfl rfl rfl (by
     show rt.cs.take (xs.length*k)++(fzC D ty ys).map .im=_;rw[htake,fzC_app,X0j])
    exact⟨_,_,_,_,hst,X.setH hg b4 b5 (.inl (by grind)) hk1,hsr r ⟨rt.ver+1,true,e',k,rt.cs.take (xs.length*k)++(fzC D ty ys).map .im⟩,rfl⟩
  ·cases hx
 ·cases hx
theorem XR.nilB(X:XR D h0 O0 ω0 F0 en σ tn env h ω Rs){v:Nat}{e:TypeId}{t:Ty}(hv:getB D σ v=none)(hlt:Nat.blt v 1000000=true)(hm:mnE D v en=false)(ht:tnOk tn v=true):
  XR D h0 O0 ω0 F0 en ((v,⟨false,e,t,[]⟩)::σ) tn env h (updN ω v xnilA) (updN Rs v []):=by
 have hgs:∀w,w≠v→getB D ((v,⟨false,e,t,[]⟩)::σ) w=getB D σ w:=fun w hw=>by
  simp only[getB];rcases beqS v w with⟨e,_⟩|⟨_,hb⟩
  ·omega
  simp_all
 have hg0:getB D ((v,⟨false,e,t,[]⟩)::σ) v=some ⟨false,e,t,[]⟩:=by
  simp only[getB]
  simp_all
 have hlt':v+1≤1000000:=X9 hlt;refine⟨⟨fun w c hw=> ?_,fun w c hw=> ?_,fun w c w' c' hw hw' hn x hx=> ?_⟩,X.env.upd hm,X.cnd,fun w hw=> ?_,X.frA,fun w c hw q hq=> ?_⟩
 ·by_cases e:w=v
  ·subst e;rw[hg0] at hw;cases hw;rw[Y13,Y13,tnOk_ok ht];exact .inl ⟨rfl,rfl,rfl⟩
  ·rw[hgs w e] at hw;rw[Y2e e,Y2e e];exact X.rep.blk w c hw
 ·by_cases e:w=v
  ·subst e;rw[Y13];simp
  ·rw[hgs w e] at hw;rw[Y2e e];exact X.rep.nd w c hw
 ·by_cases e:w=v
  ·subst e;rw[Y13] at hx;cases hx
  ·rw[hgs w e] at hw;rw[Y2e e] at hx
   by_cases e':w'=v
   ·subst e';rw[Y13];simp
   ·rw[hgs w' e'] at hw';rw[Y2e e'];exact X.rep.dj w c w' c' hw hw' hn x hx
 ·have⟨h1,h2⟩:=X.fix w hw;have e:w≠v:=fun e=>by omega
  exact⟨by rw[Y2e e];exact h1,h2⟩
 ·by_cases e:w=v
  ·subst e;rw[Y13] at hq;cases hq
  ·rw[hgs w e] at hw;rw[Y2e e] at hq;exact X.frB w c hw q hq
theorem xsrc_sound(R:xRep D σ (tnF tn) ω Rs h){u:TypeId}{k:Nat}(hu:tk P u=1){x:SV D.S}{a:AV}{ty:Ty}{ys:List (Den D.S ty)}(hs:xsrc D σ tn x=some ⟨ty,ys⟩)(ha:SR D h ω x a)(hp:plT D ty=true)(hk:nl D ty=k):SrcA P h u k a ys.length ((fzC D ty ys).map .im):=by
 unfold xsrc at hs
 split at hs
 ·cases hs;simp only[SR] at ha;rw[ha];exact SrcA.im hu (by rw[fzC_len hp,hk])
 ·split at hs
  ·rename_i w l t zs hxn;have⟨_,hs'⟩:=condSu hs;clear hs;cases hs';simp only[SR] at ha;have⟨n,e,rs,H,_⟩:=R.hd hxn ha.2 ha.1;rcases H with⟨hxs,hna,_⟩|⟨r,rt,rs',hn,hat,_,⟨hl,hk',ds,post,hcs,hel⟩,_⟩
   ·subst hxs;rw[hna];exact SrcA.nil hu
   ·have hlen:ds.length=ys.length*nl D ty:=hel.len;rw[hn];have:=SrcA.rsl (P:=P) (h:=h) (u:=u) (r:=r) (ver:=rt.ver) (off:=0) (k:=k) (m:=ys.length) (rt:=rt) hu hat rfl hl (by rw[hk', ←hk]) (by simp_all);rw[hcs,X1b, ←hk, ←hlen,List.take_left' rfl,hel.plain hp] at this
    simp_all
  ·cases hs
 ·cases hs
theorem xapp_sound(X:XR D h0 O0 ω0 F0 en σ tn env h ω Rs){o:Oper}{s x:Operand}{t u:TypeId}(ho:o.op= .call ⟨.builtin .append, #[s,x], #[t,u]⟩){vs vx:SV D.S}{cs:XCs}{en':SEnv D}{σ':Sto D}{sv:SV D.S}
  (hx:xapp D P en σ tn o.dst t u vs vx=some (cs,en',σ',sv)) (hc:XOk cs) (hs:SR D h ω vs (rdo env s)) (hy:SR D h ω vx (rdo env x)):
  ∃h' av ω' Rs',HStep P o env h h' av∧XR D h0 O0 ω0 F0 en' σ' tn env h' ω' Rs'∧SR D h' ω' sv av∧notC D sv=true:=by
 unfold xapp at hx
 split at hx
 ·rename_i e k bytes z c y hE hk
  split at hx
  ·rename_i ty ys hsr;have⟨hu,hx⟩:=Y2l hx;have hu:=eq_of_beq hu
   split at hx
   ·rename_i v
    split at hx
    ·rename_i cs' r hr;simp only[X0,Prod.mk.injEq] at hx;obtain⟨rfl,rfl⟩:=hx;have⟨g1,g2⟩:=Y5j hk hc.app.1 (fun _ _ _ _ _ e=>by cases e) hy;simp only[SR,HdAt] at hs;exact xapv_sound X ho (Y33 hE) hu hr hc.app.2 hs.2 g1 (xsrc_sound X.rep hu hsr g2)
    ·cases hx
   ·split at hx
    ·rename_i v _
     split at hx
     ·rename_i hv;have⟨hb,hx⟩:=Y2l hx;simp only[X2,X00] at hb
      split at hx
      ·rename_i cs' r hr;simp only[X0,Prod.mk.injEq] at hx;obtain⟨rfl,rfl⟩:=hx;have⟨g1,g2⟩:=Y5j hk hc.app.1 (fun _ _ _ _ _ e=>by cases e) hy;simp only[SR] at hs;have ht:tnOk tn v=true:=by
        unfold xapv at hr
        grind
       have X':=X.nilB (e:=e) (t:=ty) hv hb.1 hb.2 ht;exact xapv_sound X' ho (Y33 hE) hu hr hc.app.2 (by rw[Y13];exact hs) g1 (xsrc_sound X.rep hu hsr g2)
      ·cases hx
     ·cases hx
    ·cases hx
   ·cases hx
  ·cases hx
 ·cases hx
end
def xown (D:SD) (P:Program) (te:TE) (en:SEnv D) (σ:Sto D) (tn:xTn) (dst:Option Nat) (t:TypeId) (n:Nat) (ps:List (Nat×SV D.S)):Option (XCs×Sto D×SV D.S):=match dst,elemE P t,xbsl D P te noI t n ps with
 |some v,some (e,k,_,_),some (cs,.d ty xs)=>(match getB D σ v with
  |none=>bif Nat.blt v 1000000&&(tnOk tn v&&(!(mnE D v en)&&(plT D ty&&Nat.beq k (nl D ty)))) then some (cs,(v,⟨false,e,ty,xs⟩)::σ,.vw v []) else none
  |some _=>none)
 |_,_,_=>none
section
variable {D:SD} {P:Program} {h h':Hp} {ω ω':Nat→AV} {σ:Sto D} {tn:xTn} {Rs:Nat→List Nat} {env:Env} {en:SEnv D} {h0:Hp} {O0:Nat→Prop} {ω0:Nat→AV} {F0:Nat→Prop}
theorem xown_sound(X:XR D h0 O0 ω0 F0 en σ tn env h ω Rs){te:TE}{ρ:Operand→SV D.S}(hρ:∀x,SR D h ω (ρ x) (rdo env x)){o:Oper}{t:TypeId}{n:Nat}{ps:List (Nat×Operand)}(ho:o.op= .buildSlice t n ps.toArray){cs:XCs}{σ':Sto D}{sv:SV D.S}
  (hx:xown D P te en σ tn o.dst t n (ps.map fun p=>(p.1,ρ p.2))=some (cs,σ',sv)) (hc:XOk cs):
  ∃h' av ω' Rs',HStep P o env h h' av∧Fx h h'∧XR D h0 O0 ω0 F0 en σ' tn env h' ω' Rs'∧SR D h' ω' sv av∧notC D sv=true:=by
 unfold xown at hx
 split at hx
 ·rename_i v e k b1 z1 cs' ty xs _ hE hl
  split at hx
  ·rename_i hv;have⟨hb,hx⟩:=Y2l hx;simp only[X2,X00] at hb;have⟨h1,h2,h3,h4,h5⟩:=hb;have h5:=Xe h5;simp only[X0,Prod.mk.injEq] at hx;obtain⟨rfl,rfl,rfl⟩:=hx;have⟨e',k',bytes,z,ty',xs',ev,hE',k1,k2,k3,k4,k5,k6,k7⟩:=xbsl_cells hρ hl hc (fun _ _ _ _ _ _ hi=>by cases hi);rw[hE'] at hE;simp only[X0,Prod.mk.injEq] at hE;obtain⟨rfl,rfl,_,_⟩:=hE;injection ev with e1 e2;subst e1;have e2:=eq_of_heq e2;subst e2;have⟨r,hr,hr0⟩:=Hp.freshR h h0;have hs:=Y30 (RStep.build (P:=P) (env:=env) ho r hr (Y33 hE') k1 k2 k3 _ k4 k5 k7);have hself:Hp.at ((r,⟨0,true,e',k',(fzC D ty xs).map AV.im⟩)::h) r=some ⟨0,true,e',k',(fzC D ty xs).map AV.im⟩:=by simp[Hp.at]
   refine⟨_,_,_,_,hs,Fx.new hr,X.new (v:=v) (b:=⟨false,e',ty,xs⟩) (a:=.rsl r 0 0 n) hv h1 h2 h3 hr hr0 ?_, ?_,rfl⟩
   ·refine .inr ⟨r,_,[],by rw[k6],hself,rfl,⟨rfl,h5,_,[],by rw[X0l], ?_⟩,rfl⟩;exact ElR.ofPlain h4 xs
   ·simp only[SR,HdAt];exact⟨.inr ⟨_,_,_,rfl⟩,(Y13 ω v _).symm⟩
  ·cases hx
 ·cases hx
end
section
variable {D:SD} {P:Program} {h h':Hp} {ω ω':Nat→AV} {σ σ':Sto D} {tn:xTn} {Rs:Nat→List Nat} {env:Env} {en:SEnv D} {h0:Hp} {O0:Nat→Prop} {ω0:Nat→AV} {F0:Nat→Prop}
def Hp.kill (bs:List Nat) (h:Hp):Hp:=h.map fun p=>(p.1,if p.1∈bs then {p.2 with live:=false} else p.2)
theorem Hp.kill_at(bs:List Nat):∀(h:Hp) (q:Nat),(h.kill bs).at q=(h.at q).map fun rt=>if q∈bs then {rt with live:=false} else rt
 |[],q=>rfl
 |(i,v)::h,q=>by
  have ih:=Hp.kill_at bs h q;simp only[Hp.kill] at ih;simp only[Hp.kill,Xo,Hp.at]
  grind
theorem Y9d{bs:List Nat}{q:Nat}{rt:Rt}(hq:(h.kill bs).at q=some rt):∃rt',h.at q=some rt'∧rt'.ver=rt.ver∧rt'.k=rt.k∧(rt.live=true→rt'=rt∧q∉bs):=by
 rw[Hp.kill_at] at hq;cases hr:h.at q with
 |none=>simp_all
 |some rt'=>
  grind
theorem Hp.kill_ne{bs:List Nat}{q:Nat}(hq:q∉bs):(h.kill bs).at q=h.at q:=by
 rw[Hp.kill_at]
 simp_all
theorem Hp.kill_own{X:Ctx}{ι:Nat→Bk}{bs:List Nat}{β:Nat}(ho:Own X.B (h.kill bs) ι β):Own X.B h ι β:=by
 rcases ho with h1|⟨r,rt,h1,h2,h3⟩
 ·exact .inl h1
 ·have⟨rt',k1,_,_,k4⟩:=Y9d h1;obtain⟨rfl,_⟩:=k4 h2;exact .inr ⟨r,rt',k1,h2,h3⟩
theorem Hp.kill_keep(X:Ctx)(ι:Nat→Bk)(w:World)(bs:List Nat)(h:Hp):Keep w h ι (Own X.B h ι) w (h.kill bs) ι (Own X.B (h.kill bs) ι):=
 ⟨fun β _ hA=>⟨rfl,fun ho=>hA (Hp.kill_own ho)⟩,fun r rt hr=>by
  rw[Hp.kill_at,hr];refine⟨_,rfl, ?_,fun _=>⟨rfl, ?_⟩⟩<;>split<;>first|rfl|exact Xk _⟩
theorem RootOK.keep{w:World}{A A':Nat→Prop}{ι:Nat→Bk}{b:Bk}{rt:Rt}(K:Keep w h ι A w h' ι A')(H:RootOK w h ι A b rt):RootOK w h' ι A' b rt:=by
 rcases H with H|⟨g,arr,h1,h2,h3,h4,h5,h6⟩
 ·exact .inl H
 ·exact .inr ⟨g,arr,h1,h2,h3,h4,VRL.keep K _ _ h5,h6⟩
theorem Hol.kill{X:Ctx}{ι:Nat→Bk}{w:World}(H:Hol X h ι w)(bs:List Nat):Hol X (h.kill bs) ι w:=by
 refine {roots:=fun r rt hr hl=> ?_,inj:=fun r r' rt rt' g hr hr' hl hl' hg hg'=> ?_,place:=fun r rt g hr hl hg=> ?_,os:=H.os,tape:=H.tape,output:=H.output,size:=H.size,frame:=H.frame,old:=H.old,glob:=H.glob,pin:=fun r b k hp=> ?_}
 ·have⟨rt',k1,_,_,k4⟩:=Y9d hr;obtain⟨rfl,_⟩:=k4 hl;exact(H.roots r rt' k1 hl).keep (Hp.kill_keep X ι w bs h)
 ·have⟨rt1,k1,_,_,k4⟩:=Y9d hr;have⟨rt2,j1,_,_,j4⟩:=Y9d hr';obtain⟨rfl,_⟩:=k4 hl;obtain⟨rfl,_⟩:=j4 hl';exact H.inj r r' rt1 rt2 g k1 j1 hl hl' hg hg'
 ·have⟨rt1,k1,_,_,k4⟩:=Y9d hr;obtain⟨rfl,_⟩:=k4 hl;exact H.place r rt1 g k1 hl hg
 ·have⟨h1,rt,h2,h3⟩:=H.pin r b k hp;refine⟨h1,_,by rw[Hp.kill_at,h2];rfl,fun e=> ?_⟩
  grind
def FzS (h:Hp) (bs:List Nat) (x y:AV):Prop:=∀(X:Ctx) (ι:Nat→Bk) (w:World) (v:Value),Hol X h ι w→VR w h ι (Own X.B h ι) x v→VR w (h.kill bs) ι (Own X.B (h.kill bs) ι) y v
theorem FzS.refl(h:Hp)(bs:List Nat)(x:AV):FzS h bs x x:=fun X ι w v H hv=>VR.keep (Hp.kill_keep X ι w bs h) x v hv
theorem FzS.arg{bs bs':List Nat}{x y:AV}(H:ArgS h bs' x y)(hl:∀q∈bs',∃rt,h.at q=some rt∧rt.live=true)(hb:∀q∈bs',q∈bs)(hp:Abs.pur y=true):FzS h bs x y:=fun X ι w v Hh hv=>by
 refine VR.pure (fun β _ hA=>⟨rfl,fun ho=>hA ⟨Hp.kill_own ho,fun r hr hbl=> ?_⟩⟩) y v hp (H X ι w v Hh hv);have⟨rt,h1,h2⟩:=hl r hr;rcases ho with ho|⟨r',rt',h3,h4,h5⟩
 ·exact(Hh.place r rt β h1 h2 hbl).1 ho
 ·have⟨rt1,k1,_,_,k4⟩:=Y9d h3;obtain⟨rfl,k5⟩:=k4 h4;have:=Hh.inj r r' rt rt1 β h1 k1 h2 h4 hbl h5
  simp_all
mutual
theorem SR.frk{ids:List Nat}(hω:∀w,memB ids w=true→ω' w=ω w)(hr:∀w q rt,memB ids w=true→rootOf (ω w)=some q→h.at q=some rt→∃rt',h'.at q=some rt'∧rt'.ver=rt.ver∧rt'.k=rt.k):∀{x:SV D.S} {a:AV},mkS D ids x=true→SR D h ω x a→SR D h' ω' x a
 | .any,_,_,_=>by simp only[SR]
 | .c _,_,_,H=>by simpa only[SR] using H
 | .i _ _,_,_,H=>by simpa only[SR] using H
 | .b _,_,_,H=>by simpa only[SR] using H
 | .s _,_,_,H=>by simpa only[SR] using H
 | .k _ _,_,_,H=>by simpa only[SR] using H
 | .d _ _,_,_,H=>by simpa only[SR] using H
 | .fp _ _ _ _,_,_,H=>by simpa only[SR] using H
 | .agg cs,a,hm,H=>by
  simp only[SR] at H⊢;have⟨l,e,H⟩:=H;exact⟨l,e,SRL.frk hω hr (by simpa only[mkS] using hm) H⟩
 | .tup cs,a,hm,H=>by
  simp only[SR] at H⊢;have⟨l,e,H⟩:=H;exact⟨l,e,SRL.frk hω hr (by simpa only[mkS] using hm) H⟩
 | .fn f cs,a,hm,H=>by
  simp only[SR] at H⊢;have⟨l,e,H⟩:=H;exact⟨l,e,SRL.frk hω hr (by simpa only[mkS] using hm) H⟩
 | .cnd _ _ g x,a,hm,H=>by
  simp only[SR] at H⊢;have⟨b,e,H⟩:=H;exact⟨b,e,fun hg=>SR.frk hω hr (by simpa only[mkS] using hm) (H hg)⟩
 | .ptr w l j o,a,hm,H=>by
  simp only[mkS,X2,X14] at hm;obtain⟨hm,rfl⟩:=hm;simp only[SR,HdAt] at H⊢;obtain⟨hd,r,ver,rt,rfl,e2,e3,e4,e5⟩:=H;have⟨rt',k1,k2,k3⟩:=hr w r rt hm (by rcases e2 with⟨m,e,_⟩|⟨e,_⟩<;>rw[e]<;>rfl) e3
  grind
 | .vw w l,a,hm,H=>by
  simp only[mkS,X2,X14] at hm;obtain⟨hm,rfl⟩:=hm;simp only[SR,HdAt] at H⊢
  grind
 | .vp w l n,a,hm,H=>by
  simp only[mkS,X2,X14] at hm;obtain⟨hm,rfl⟩:=hm;simp only[SR,HdAt] at H⊢;have⟨r,ver,m,e1,e2,e3,e4⟩:=H;refine⟨r,ver,m,by simp_all,e2, ?_,e4⟩;unfold Has at e3⊢;cases hq:h.at r with
  |none=>simp_all
  |some rt=>
   have⟨rt',k1,k2,_⟩:=hr w r rt hm (by rw[←e1];rfl) hq
   simp_all
theorem SRL.frk{ids:List Nat}(hω:∀w,memB ids w=true→ω' w=ω w)(hr:∀w q rt,memB ids w=true→rootOf (ω w)=some q→h.at q=some rt→∃rt',h'.at q=some rt'∧rt'.ver=rt.ver∧rt'.k=rt.k):∀{xs:List (SV D.S)} {l:List AV},mkSL D ids xs=true→SRL D h ω xs l→SRL D h' ω' xs l
 |[],_,_,H=>by simpa only[SRL] using H
 |x::xs,l,hm,H=>by
  simp only[mkSL,X2] at hm;simp only[SRL] at H⊢;have⟨a,l',e,h1,h2⟩:=H;exact⟨a,l',e,SR.frk hω hr hm.1 h1,SRL.frk hω hr hm.2 h2⟩
end
theorem ArgS.boxX{bs:List Nat}{r ver:Nat}{rt:Rt}{ys:List IV}{post:List AV}(hb:r∈bs)(hrt:h.at r=some rt)(hver:rt.ver=ver)(hl:rt.live=true)(hcs:rt.cs=ys.map .im++post):ArgS h bs (.ref r ver 0) (.ipt ys 0):=by
 intro X ι w v H hv;obtain⟨rt',g,hrt',_,hg,rfl⟩:=Y61 hv (by simp_all);rw[hrt] at hrt';cases hrt';have hR:=H.roots r rt hrt hl;have⟨arr,h1,h2,h3,h4,h5⟩:=hR.row hg;have hA:¬Brw X.B h ι bs g:=fun hbr=>hbr.2 r hb hg;have h6:VRL w h ι (Own X.B h ι) (ys.map AV.im) (arr.toList.take ys.length):=by
  have h7:=VRL.take ys.length h4
  grind
 simp only[VR];refine⟨⟨g,0,none⟩,arr.toList.take ys.length,by rfl, ?_,VRIL.keep (fun β hβ hA'=>⟨rfl,fun hb=>hA' hb.1⟩) _ _ (VRL.toI h6)⟩;intro i u hu;refine⟨?_,hA, ?_⟩
 ·rw[Xs] at hu
  split at hu
  ·rw[Y6j,X05,cell_of_row w g i arr rt.e (0,0) h1]
   simp_all
  ·cases hu
 ·apply h5;rw[hcs];have:=X0c hu;exact(List.take_sublist_take_left (by simp_all)).mem this
theorem HdR.args{n:Nat}{e:TypeId}{t:Ty}{xs:List (Den D.S t)}{a:AV}{rs:List Nat}(H:HdR D h (LfR D h n) none e t xs a rs)(ht:plT D t=true):∃bs:List Nat,(∀q∈bs,q∈rs)∧∀h',Fx h h'→(∀q∈bs,∃rt,h'.at q=some rt∧rt.live=true)∧ArgS h' bs a (.im (.sl (fzC D t xs) xs.length)):=by
 rcases H with⟨rfl,rfl,_⟩|⟨r,rt,rs',rfl,h2,_,⟨h3,h4,ds,post,h5,h6⟩,_⟩
 ·exact⟨[],(fun q hq=>by cases hq),fun h' F=>⟨fun q hq=>by simp at hq,ArgS.nil⟩⟩
 ·refine⟨[r],(fun q hq=>by simp_all),fun h' F=>⟨fun q hq=> ?_,ArgS.slice (by simp) (F r rt h2) rfl h3 ?_ ?_⟩⟩
  ·simp only[X8] at hq;subst hq;exact⟨rt,F q rt h2,h3⟩
  ·have hl:=h6.len;rw[h5,h4,X1b, ←hl,List.take_left' rfl];exact h6.plain ht
  ·have hl:=h6.len;rw[h6.plain ht,Xw] at hl
   simp_all
theorem EnvSubF.gq{da:DA}{N:Nat}{c:Code}{env':Env}{bs:List Nat}{K:Exit→Env→Hp→Prop}(he:∀i,FzS h bs (rd env i) (rd env' i))(hda:da=[])(H:GQ da P N c env' (h.kill bs) K):GQ da P N c env h K:=by
 obtain⟨x,e,h1,g,k⟩:=H;refine⟨x,e,h1,fun X a w ι H S=> ?_,k⟩;subst hda;refine wp_mono (g X a w ι (H.kill bs) ⟨S.size,S.defers,fun i=>he i X ι w _ H (S.at_ i)⟩) ?_;rintro e' a' w' ⟨h1,ι',h2,h3,h4⟩;exact⟨h1,ι',h2,h3,(Hp.kill_keep X ι w bs h).trans h4⟩
def rmB (D:SD) (v:Nat):Sto D→Sto D
 |[]=>[]
 |(i,b)::r=>bif Nat.beq i v then rmB D v r else(i,b)::rmB D v r
theorem rmB_get{v w:Nat}{b:Bv D}:∀{σ:Sto D},getB D (rmB D v σ) w=some b→w≠v∧getB D σ w=some b
 |[],h=>by cases h
 |(i,c)::r,h=>by
  simp only[rmB] at h;simp only[getB];rcases beqS i v with⟨rfl,hb⟩|⟨hn,hb⟩
  ·rw[hb,cond_true] at h;have⟨h1,h2⟩:=rmB_get h;refine⟨h1, ?_⟩;rcases beqS i w with⟨e,_⟩|⟨_,hb'⟩
   ·omega
   simp_all
  ·rw[hb,cond_false] at h;simp only[getB] at h;rcases beqS i w with⟨e,hb'⟩|⟨_,hb'⟩
   ·simp_all
   ·rw[hb',cond_false] at h⊢;exact rmB_get h
end
section
variable {D:SD} {P:Program} {h h':Hp} {ω ω':Nat→AV} {σ σ':Sto D} {tn:xTn} {Rs:Nat→List Nat} {env:Env} {en:SEnv D} {h0:Hp} {O0:Nat→Prop} {ω0:Nat→AV} {F0:Nat→Prop}
def idsA (D:SD):Sto D→List Nat
 |[]=>[]
 |(w,_)::r=>w::idsA D r
theorem LsR.noR{n:Nat}:∀{ls:List (xLf D.S)} {δ:Nat→Option Pth} {cs:List AV} {rs:List Nat},LsR D (LfR D h n) δ ls cs rs→(∀l∈ls,ownB l.1=false)→rs=[]
 |[],_,_,_,H,_=>H.2
 |l::ls,δ,cs,rs,H,hp=>by
  obtain⟨a,cs',r,rs',rfl,rfl,h1,h2⟩:=H;have hl:=hp l (by simp);have:r=[]:=by
   cases n with
   |zero=>exact h1.2.2.2
   |succ n=>
    rcases h1 with h1|⟨_,⟨e,t,rfl⟩,_⟩|⟨_,e,t,xs,rfl,_⟩
    ·simp_all
    ·cases hl
    ·cases hl
  rw[this,LsR.noR h2 fun l hl=>hp l (by simp[hl])]
  rfl
theorem ElR.noR{n:Nat}{t:Ty}(ht:plT D t=true):∀{xs:List (Den D.S t)} {δ:Nat→Nat→Option Pth} {cs:List AV} {rs:List Nat},ElR D (LfR D h n) t δ xs cs rs→rs=[]
 |[],_,_,_,H=>H.2
 |x::xs,δ,cs,rs,H=>by
  obtain⟨c,cs',r,rs',rfl,rfl,h1,h2⟩:=H;rw[h1.noR (plT_ok ht x),ElR.noR ht h2]
  rfl
theorem HdR.lev{n:Nat}{e:TypeId}{t:Ty}{xs:List (Den D.S t)}{a:AV}{rs:List Nat}(H:HdR D h (LfR D h n) none e t xs a rs)(ht:plT D t=true)(m:Nat):HdR D h (LfR D h m) none e t xs a rs:=by
 rcases H with H|⟨r,rt,rs',rfl,h2,h3,⟨h4,h5,ds,post,h6,h7⟩,h8⟩
 ·exact .inl H
 ·refine .inr ⟨r,rt,rs',rfl,h2,h3,⟨h4,h5,ds,post,h6, ?_⟩,h8⟩;rw[h7.noR ht,h7.plain ht];exact ElR.ofPlain ht xs
theorem xsel_one{o i' o':Nat}(h:¬(i'=0∧o'=o)):xsel (some [(0,o)]) i' o'=xsel none i' o':=by
 simp only[xsel];rw[if_neg];omega
theorem BkR.fld{e0 e:TypeId}{t0 u:Ty}{x x':Den D.S t0}{ys:List (Den D.S u)}{a hd:AV}{rs:List Nat}{o:Nat}(H:BkR D h none ⟨true,e0,t0,[x]⟩ a rs)(hl:(lvs D t0 x)[o]? =some ⟨.sl e u,ys⟩)(hx':lvs D t0 x'=(lvs D t0 x).set o ⟨.sl e u,([]:List (Den D.S u))⟩)(hh:HdAt h a [(0,o)] hd):
  ∃r0 rt p r s,a= .ref r0 rt.ver 0∧h.at r0=some rt∧rs=r0::(p++(r++s))∧HdR D h (LfR D h 8) none e u ys hd r∧∀(h1:Hp),(∀q,q=r0∨q∈p∨q∈s→h1.at q=h.at q)→BkR D h1 (some [(0,o)]) ⟨true,e0,t0,[x']⟩ a (r0::(p++s)):=by
 obtain⟨_,r0,rt,rs',rfl,h1,h2,rfl⟩:=H;obtain⟨c,p,r,s,k1,rfl,k3,k4⟩:=h2.at (i:=0) (o:=o) (l:=⟨.sl e u,ys⟩) (Nat.zero_lt_one) hl;simp only[HdAt] at hh;have⟨q,ver,rt',c',e1,e2,e3,e4,_,e6⟩:=hh;have:q=r0:=by
  rcases e1 with⟨m,e,_⟩|⟨e,_⟩
  ·cases e
  simp_all
 subst this;rw[h1] at e2;cases e2;rw[k1] at e4;cases e4;subst e6;rcases k3 with⟨_,k3,_⟩|⟨k3,_⟩|⟨_,e',u',ys',k5,k6⟩
 ·cases k3
 ·cases k3
 ·injection k5 with k7 k8;injection k7 with k9 k10;subst k9 k10;have k8:=eq_of_heq k8;subst k8;refine⟨q,rt,p,r,s,rfl,h1,rfl,k6,fun h1' hf=>⟨rfl,q,rt,p++s,rfl,(hf q (.inl rfl)).trans h1, ?_,rfl⟩⟩;have:=k4 (LfR D h1' 9) (some [(0,o)]) rt x' ⟨.sl e u,([]:List (Den D.S u))⟩ hd [] (fun i' o' hn=>xsel_one hn) (fun q l a r0 hr hl=>LfR.frame 9 hl fun y hy=>hf y (by rcases hr y hy with h|h<;>simp[h])) hx' (.inr (.inl ⟨by simp[xsel],⟨e,u,rfl⟩,rfl⟩)) h2.1 rfl (by
   rw[Xj] at k1;have⟨hlt,k1⟩:=k1;rw[←k1];exact(List.set_getElem_self hlt).symm)
  simp_all
theorem BkR.put{e0 e:TypeId}{t0 u:Ty}{x x':Den D.S t0}{ws:List (Den D.S u)}{a hd:AV}{rs rd:List Nat}{o:Nat}(H:BkR D h (some [(0,o)]) ⟨true,e0,t0,[x]⟩ a rs)(hl:(lvs D t0 x)[o]? =some ⟨.sl e u,([]:List (Den D.S u))⟩)(hx':lvs D t0 x'=(lvs D t0 x).set o ⟨.sl e u,ws⟩)(hp:plT D u=true)(hd1:HdR D h (LfR D h 9) none e u ws hd rd)(hdj:∀q∈rs,q∉rd)(hnd:rs.Nodup):
  ∃r0 rt p s,a= .ref r0 rt.ver 0∧h.at r0=some rt∧rt.live=true∧o<rt.cs.length∧rs=r0::(p++s)∧∀h1:Hp,h1.at r0=some ⟨rt.ver,true,rt.e,rt.k,rt.cs.set o hd⟩→(∀q,q≠r0→h1.at q=h.at q)→BkR D h1 none ⟨true,e0,t0,[x']⟩ a (r0::(p++(rd++s))):=by
 obtain⟨_,r0,rt,rs',rfl,h1,h2,rfl⟩:=H;obtain⟨c,p,r,s,k1,rfl,k3,k4⟩:=h2.at (i:=0) (o:=o) (l:=⟨.sl e u,([]:List (Den D.S u))⟩) (Nat.zero_lt_one) hl;have hr:r=[]:=by
  rcases k3 with⟨k3,_⟩|⟨_,_,k3⟩|⟨k3,_⟩
  ·simp_all
  ·exact k3
  ·simp[xsel] at k3
 subst hr;rw[X0q,X05] at k1;refine⟨r0,rt,p,s,rfl,h1,h2.1,(Xj.1 k1).1,by simp,fun h1' hr0 hf=>⟨rfl,r0,⟨rt.ver,true,rt.e,rt.k,rt.cs.set o hd⟩,_,rfl,hr0, ?_,rfl⟩⟩;have hnr:∀q,q∈p∨q∈s→q≠r0:=fun q hq e=>by
  subst e;have:=(X1n.1 hnd).1;rcases hq with hq|hq<;>exact this (by simp[hq])
 have hd2:HdR D h1' (LfR D h1' 8) none e u ws hd rd:=by
  refine(hd1.lev hp 8).frame fun q hq=>hf q fun e=> ?_
  simp_all
 have:=k4 (LfR D h1' 9) none ⟨rt.ver,true,rt.e,rt.k,rt.cs.set o hd⟩ x' ⟨.sl e u,ws⟩ hd rd (fun i' o' hn=>(xsel_one hn).symm) (fun q l a r0' hr hl=>LfR.frame 9 hl fun y hy=>hf y (hnr y (hr y hy))) hx' (.inr (.inr ⟨by simp[xsel],e,u,ws,rfl,hd2⟩)) rfl rfl (by rw[X0q,X05])
 simp_all
theorem idsA_get{w:Nat}:∀{σ:Sto D},memB (idsA D σ) w=true→∃b,getB D σ w=some b
 |[],hm=>by cases hm
 |(u,b)::r,hm=>by
  simp only[idsA,memB] at hm;simp only[getB];cases hb:Nat.beq u w with
  |true=>simp_all
  |false=>rw[hb,cond_false] at hm;simp only[cond_false];exact idsA_get hm
theorem XR.det(X:XR D h0 O0 ω0 F0 en σ none env h ω Rs){v o d q r0:Nat}{e0 e:TypeId}{t0 u:Ty}{x x':Den D.S t0}{ws:List (Den D.S u)}{s1:AV}{h1:Hp}{rs1 p r s:List Nat}{rt:Rt}(hg:getB D σ v=some ⟨true,e0,t0,[x]⟩)(hd0:getB D σ d=none)(hlt:d<1000000)(hm:mnE D d en=false)
  (f1:ω v= .ref r0 rt.ver 0) (f2:h.at r0=some rt) (f3:Rs v=r0::(p++(r++s))) (f5:∀(h1:Hp),(∀q,q=r0∨q∈p∨q∈s→h1.at q=h.at q)→BkR D h1 (some [(0,o)]) ⟨true,e0,t0,[x']⟩ (ω v) (r0::(p++s)))
  (hq:q∈r∨(h.at q=none∧h0.at q=none)) (hat:∀q',q'≠q→h1.at q'=h.at q') (hB:BkR D h1 none ⟨false,e,u,ws⟩ s1 rs1) (hrs:rs1=[q]∨rs1=[]):
  XR D h0 O0 ω0 F0 (mskE D (idsA D σ) en) ((d,⟨false,e,u,ws⟩)::xsetB D σ v ⟨true,e0,t0,[x']⟩) (some (v,[(0,o)])) env h1 (updN ω d s1) (updN (updN Rs v (r0::(p++s))) d rs1):=by
 have hdv:v≠d:=fun e=>by simp_all
 have hnd:=X.rep.nd v _ hg;rw[f3] at hnd
 --q lies in no other block,and not among what stays of this one
 have hqv:∀y,y=r0∨y∈p∨y∈s→y≠q:=fun y hy e=>by
  subst e;rcases hq with hq|⟨hq,_⟩
  ·grind
  ·have hmem:y∈Rs v:=by rw[f3];rcases hy with rfl|hy|hy<;>simp[*]
   have⟨rt',h1⟩:=(X.rep.blk v _ hg).mem y hmem
   simp_all
 have hqw:∀w b,w≠v→getB D σ w=some b→∀y∈Rs w,y≠q:=fun w b hw hb y hy e=>by
  subst e;rcases hq with hq|⟨hq,_⟩
  ·exact X.rep.dj w b v _ hb hg hw y hy (by simp_all)
  ·have⟨rt',h1⟩:=(X.rep.blk w b hb).mem y hy
   simp_all
 have hget:∀w b,getB D ((d,⟨false,e,u,ws⟩)::xsetB D σ v ⟨true,e0,t0,[x']⟩) w=some b→(w=d∧b=⟨false,e,u,ws⟩)∨(w=v∧b=⟨true,e0,t0,[x']⟩)∨(w≠d∧w≠v∧getB D σ w=some b):=fun w b hw=>by
  simp only[getB] at hw;rcases beqS d w with⟨rfl,hb⟩|⟨hn,hb⟩
  ·simp_all
  ·rw[hb,cond_false] at hw
   by_cases e:w=v
   ·subst e;rw[Y87 hg] at hw;simp_all
   ·rw[Y3k e] at hw;grind
 have hRv:updN (updN Rs v (r0::(p++s))) d rs1 v=r0::(p++s):=by rw[Y2e hdv,Y13]
 have hRd:updN (updN Rs v (r0::(p++s))) d rs1 d=rs1:=Y13 _ _ _;have hRw:∀w,w≠d→w≠v→updN (updN Rs v (r0::(p++s))) d rs1 w=Rs w:=fun w h1 h2=>by rw[Y2e h1,Y2e h2]
 have hin:∀y,y∈rs1→y=q:=fun y hy=>by
  rcases hrs with e|e<;>rw[e] at hy
  ·grind
  ·cases hy
 have hvs:∀y,y∈r0::(p++s)→y=r0∨y∈p∨y∈s:=fun y hy=>by simp_all
 have hvR:∀y,y∈r0::(p++s)→y∈Rs v:=fun y hy=>by
  rw[f3];rcases hvs y hy with rfl|hy|hy<;>simp[*]
 refine⟨⟨fun w b hw=> ?_,fun w b hw=> ?_,fun w b w' b' hw hw' hn y hy=> ?_⟩,fun i=> ?_,X.cnd.msk,fun w hw=> ?_,fun y rt' hy hO=> ?_,fun w b hw y hy=> ?_⟩
 ·rcases hget w b hw with⟨rfl,rfl⟩|⟨rfl,rfl⟩|⟨n1,n2,hb⟩
  ·rw[hRd,Y13];have:tnF (some (v,[(0,o)])) w=none:=by simp only[tnF];rw[if_neg hdv]
   simp_all
  ·rw[hRv,Y2e hdv];have:tnF (some (w,[(0,o)])) w=some [(0,o)]:=by simp[tnF]
   grind
  ·rw[hRw w n1 n2,Y2e n1];have:tnF (some (v,[(0,o)])) w=none:=by simp only[tnF];rw[if_neg fun e=>n2 e.symm]
   rw[this];exact(X.rep.blk w b hb).frame fun y hy=>hat y (hqw w b n2 hb y hy)
 ·rcases hget w b hw with⟨rfl,rfl⟩|⟨rfl,rfl⟩|⟨n1,n2,hb⟩
  ·rw[hRd];rcases hrs with e|e<;>rw[e]<;>simp
  ·grind
  ·rw[hRw w n1 n2];exact X.rep.nd w b hb
 ·rcases hget w b hw with⟨rfl,rfl⟩|⟨rfl,rfl⟩|⟨n1,n2,hb⟩
  ·grind
  ·rw[hRv] at hy;rcases hget w' b' hw' with⟨rfl,rfl⟩|⟨rfl,rfl⟩|⟨n1',n2',hb'⟩
   ·grind
   ·omega
   ·rw[hRw w' n1' n2'];exact X.rep.dj w _ w' b' hg hb' hn y (hvR y hy)
  ·rw[hRw w n1 n2] at hy;rcases hget w' b' hw' with⟨rfl,rfl⟩|⟨rfl,rfl⟩|⟨n1',n2',hb'⟩
   ·grind
   ·rw[hRv];exact fun h=>X.rep.dj w b w' _ hb hg hn y hy (hvR y h)
   ·rw[hRw w' n1' n2'];exact X.rep.dj w b w' b' hb hb' hn y hy
 ·rw[xrd_msk];cases hk:mkS D (idsA D σ) (xrd D en i) with
  |false=>rw[cond_false];simp only[SR]
  |true=>
   rw[cond_true];refine SR.frk (fun w hw=> ?_) (fun w y rt' hw hy hrt=> ?_) hk (X.env i)
   ·have⟨b,hb⟩:=idsA_get hw;exact Y2e fun e=>by simp_all
   ·have⟨b,hb⟩:=idsA_get hw;refine⟨rt', ?_,rfl,rfl⟩;rw[hat y ?_]
    ·exact hrt
    ·by_cases e:w=v
     ·subst e;rw[f1] at hy;cases hy
      simp_all
     ·exact hqw w b e hb y ((X.rep.blk w b hb).root hy)
 ·have⟨g1,g2⟩:=X.fix w hw;exact⟨by rw[Y2e (by omega)];exact g1,g2⟩
 ·rw[hat y ?_]
  ·exact X.frA y rt' hy hO
  ·intro e;subst e;rcases hq with hq|⟨_,hq⟩
   ·rcases X.frB v _ hg y (by simp_all) with h|h
    ·exact hO h
    simp_all
   simp_all
 ·rcases hget w b hw with⟨rfl,rfl⟩|⟨rfl,rfl⟩|⟨n1,n2,hb⟩
  ·rw[hRd] at hy;have hy:=hin y hy;subst hy;rcases hq with hq|⟨_,hq⟩
   ·exact X.frB v _ hg y (by simp_all)
   simp_all
  ·rw[hRv] at hy;exact X.frB w _ hg y (hvR y hy)
  ·rw[hRw w n1 n2] at hy;exact X.frB w b hb y hy
theorem XR.att{v o d:Nat}(X:XR D h0 O0 ω0 F0 en σ (some (v,[(0,o)])) env h ω Rs){e0 e:TypeId}{t0 u:Ty}{x x':Den D.S t0}{ws:List (Den D.S u)}(hg:getB D σ v=some ⟨true,e0,t0,[x]⟩)(hgd:getB D σ d=some ⟨false,e,u,ws⟩)(hdv:d≠v)(hl:(lvs D t0 x)[o]? =some ⟨.sl e u,([]:List (Den D.S u))⟩)(hx':lvs D t0 x'=(lvs D t0 x).set o ⟨.sl e u,ws⟩)(hp:plT D u=true):
  ∃r0 rt,ω v= .ref r0 rt.ver 0∧h.at r0=some rt∧rt.live=true∧o<rt.cs.length∧IsHd (ω d)∧oneA h (ω d)∧∀h1:Hp,h1.at r0=some ⟨rt.ver,true,rt.e,rt.k,rt.cs.set o (ω d)⟩→(∀q,q≠r0→h1.at q=h.at q)→
   ∃Rs',XR D h0 O0 ω0 F0 (mskE D (idsB D d σ) en) (xsetB D (rmB D d σ) v ⟨true,e0,t0,[x']⟩) none env h1 ω Rs':=by
 have hBv:=X.rep.blk v _ hg;have hBd:=X.rep.blk d _ hgd;have hv:tnF (some (v,[(0,o)])) v=some [(0,o)]:=by simp[tnF]
 have hn:∀w,w≠v→tnF (some (v,[(0,o)])) w=none:=fun w hw=>by simp only[tnF];rw[if_neg fun e=>hw e.symm]
 rw[hv] at hBv;rw[hn d hdv] at hBd;have hBd:HdR D h (LfR D h 9) none e u ws (ω d) (Rs d):=hBd;have⟨r0,rt,p,s,f1,f2,f3,f4,f5,f6⟩:=hBv.put hl hx' hp hBd (fun q hq=>X.rep.dj v _ d _ hg hgd (fun e=>hdv e.symm) q hq) (X.rep.nd v _ hg);have hd1:IsHd (ω d)∧oneA h (ω d):=by
  rcases hBd with⟨_,e,_⟩|⟨q,rt',rs',e,e2,_⟩
  ·rw[e];exact⟨.inl rfl,rfl⟩
  ·rw[e];exact⟨.inr ⟨_,_,_,rfl⟩,by show(h.at q).map (·.ver)=some rt'.ver;grind⟩
 refine⟨r0,rt,f1,f2,f3,f4,hd1.1,hd1.2,fun h1 hr0 hf=>⟨updN Rs v (r0::(p++(Rs d++s))), ?_⟩⟩;have hget:∀w b,getB D (xsetB D (rmB D d σ) v ⟨true,e0,t0,[x']⟩) w=some b→(w=v∧b=⟨true,e0,t0,[x']⟩)∨(w≠v∧w≠d∧getB D σ w=some b):=fun w b hw=>by
  by_cases e:w=v
  ·subst e;rw[getB_set,if_pos rfl] at hw
   simp_all
  ·rw[Y3k e] at hw;have⟨h2,h3⟩:=rmB_get hw
   simp_all
 have hr0v:r0∈Rs v:=by grind
 have hout:∀w b,w≠v→getB D σ w=some b→∀q∈Rs w,q≠r0:=fun w b hw hb q hq e=>by
  subst e;exact X.rep.dj w b v _ hb hg hw q hq hr0v
 have hmem:∀q,q∈r0::(p++(Rs d++s))→q∈Rs v∨q∈Rs d:=fun q hq=>by
  grind
 refine⟨⟨fun w b hw=> ?_,fun w b hw=> ?_,fun w b w' b' hw hw' hne y hy=> ?_⟩,fun i=> ?_,X.cnd.msk,X.fix,fun y rt' hy hO=> ?_,fun w b hw y hy=> ?_⟩
 ·rcases hget w b hw with⟨rfl,rfl⟩|⟨n1,n2,hb⟩
  ·rw[Y13];exact f6 h1 hr0 hf
  ·rw[Y2e n1];have:=X.rep.blk w b hb;rw[hn w n1] at this;exact this.frame fun q hq=>hf q (hout w b n1 hb q hq)
 ·rcases hget w b hw with⟨rfl,rfl⟩|⟨n1,n2,hb⟩
  ·rw[Y13];have h1:=X.rep.nd w _ hg;have h2:=X.rep.nd d _ hgd;have h3:=X.rep.dj w _ d _ hg hgd (fun e=>hdv e.symm)
   grind
  ·rw[Y2e n1];exact X.rep.nd w b hb
 ·rcases hget w b hw with⟨rfl,rfl⟩|⟨n1,n2,hb⟩
  ·rw[Y13] at hy;rcases hget w' b' hw' with⟨rfl,rfl⟩|⟨n1',n2',hb'⟩
   ·omega
   ·rw[Y2e n1'];rcases hmem y hy with h|h
    ·exact X.rep.dj w _ w' b' hg hb' hne y h
    ·exact X.rep.dj d _ w' b' hgd hb' (fun e=>n2' e.symm) y h
  ·rw[Y2e n1] at hy;rcases hget w' b' hw' with⟨rfl,rfl⟩|⟨n1',n2',hb'⟩
   ·rw[Y13];intro h;rcases hmem y h with h|h
    ·exact X.rep.dj w b w' _ hb hg hne y hy h
    ·exact X.rep.dj w b d _ hb hgd n2 y hy h
   ·rw[Y2e n1'];exact X.rep.dj w b w' b' hb hb' hne y hy
 ·rw[xrd_msk];cases hk:mkS D (idsB D d σ) (xrd D en i) with
  |false=>rw[cond_false];simp only[SR]
  |true=>
   rw[cond_true];refine SR.frk (fun _ _=>rfl) (fun w y rt' hw hy hrt=> ?_) hk (X.env i)
   grind
 ·rw[hf y ?_]
  ·exact X.frA y rt' hy hO
  ·intro e;subst e;rcases X.frB v _ hg y hr0v with h|h
   ·exact hO h
   simp_all
 ·rcases hget w b hw with⟨rfl,rfl⟩|⟨n1,n2,hb⟩
  ·rw[Y13] at hy;rcases hmem y hy with h|h
   ·exact X.frB w _ hg y h
   ·exact X.frB d _ hgd y h
  ·rw[Y2e n1] at hy;exact X.frB w b hb y hy
end
section
variable (D:SD) (P:Program)
def xdet (en:SEnv D) (σ:Sto D) (v o d e0:Nat) (t0:Ty) (x:Den D.S t0) (e:TypeId) (u:Ty) (ws:List (Den D.S u)):Option (SEnv D×Sto D×xTn):=match unl D t0 ((lvs D t0 x).set o ⟨.sl e u,([]:List (Den D.S u))⟩),getB D σ d with
 |some x',none=>bif Nat.blt d 1000000&& !(mnE D d en) then some (mskE D (idsA D σ) en,(d,⟨false,e,u,ws⟩)::xsetB D σ v ⟨true,e0,t0,[x']⟩,some (v,[(0,o)])) else none
 |_,_=>none
def xapf (en:SEnv D) (σ:Sto D) (tn:xTn) (dst:Option Nat) (t u0:TypeId) (s x:SV D.S):Option (XCs×SEnv D×Sto D×xTn×SV D.S):=match s,tn,dst with
 | .vw v [(0,o)],none,some d=>(match elemE P t,xok D noI x,getB D σ v with
  |some (e,k,bytes,_),some (c,y),some ⟨true,e0,t0,[x0]⟩=>(match xsrc D σ none y,(lvs D t0 x0)[o]? with
   |some ⟨ty,ys⟩,some ⟨.sl e' u,zs⟩=>(match tyEq ty u with
    |some h=>bif tk P u0==1&&(Nat.beq e' e&&(Nat.beq k (nl D u)&&plT D u)) then(match xdet D en σ v o d e0 t0 x0 e' u (List.append zs (h.down▸ys:List (Den D.S u))) with
     |some (en',σ',tn')=>some (c++[.room bytes (List.length (zs:List (Den D.S u))+List.length ys)],en',σ',tn',.vw d [])
     |none=>none) else none
    |none=>none)
   |_,_=>none)
  |_,_,_=>none)
 |_,_,_=>none
def xsld (en:SEnv D) (σ:Sto D) (tn:xTn) (dst:Option Nat) (t:TypeId) (s hi:SV D.S):Option (XCs×SEnv D×Sto D×xTn×SV D.S):=match s,hi,tn,dst with
 | .vw v [(0,o)],.i .i64 j,none,some d=>(match getB D σ v with
  |some ⟨true,e0,t0,[x0]⟩=>(match (lvs D t0 x0)[o]?,ez P t with
   |some ⟨.sl e u,zs⟩,some k=>bif tk P t==1&&(Nat.beq k (nl D u)&&plT D u) then(match xdet D en σ v o d e0 t0 x0 e u (List.take j.toNat (zs:List (Den D.S u))) with
    |some (en',σ',tn')=>some ([.lim j (List.length (zs:List (Den D.S u)))],en',σ',tn',.vw d [])
    |none=>none) else none
   |_,_=>none)
  |_=>none)
 |_,_,_,_=>none
def xsth (en:SEnv D) (σ:Sto D) (tn:xTn) (t:TypeId) (x y:SV D.S):Option (SEnv D×Sto D):=match x,y,tn with
 | .ptr v [] 0 o,.vw d [],some (v',[(0,o')])=>(match getB D σ v,getB D σ d with
  |some ⟨true,e0,t0,[x0]⟩,some ⟨false,e,u,ws⟩=>(match (lvs D t0 x0)[o]? with
   |some ⟨.sl e' u',zs⟩=>(match tyEq u u',unl D t0 ((lvs D t0 x0).set o ⟨.sl e u,ws⟩) with
    |some _,some x'=>bif Nat.beq v' v&&(Nat.beq o' o&&(!(Nat.beq d v)&&(Nat.beq e' e&&(plT D u&&(List.isEmpty (zs:List (Den D.S u'))&&(match szt P t with
     |some n=>Nat.beq n 1
     |none=>false)))))) then some (mskE D (idsB D d σ) en,xsetB D (rmB D d σ) v ⟨true,e0,t0,[x']⟩) else none
    |_,_=>none)
   |_=>none)
  |_,_=>none)
 |_,_,_=>none
end
section
variable {D:SD} {P:Program} {h h':Hp} {ω ω':Nat→AV} {σ σ':Sto D} {tn:xTn} {Rs:Nat→List Nat} {env:Env} {en:SEnv D} {h0:Hp} {O0:Nat→Prop} {ω0:Nat→AV} {F0:Nat→Prop}
theorem xdet_some{v o d e0:Nat}{t0:Ty}{x:Den D.S t0}{e:TypeId}{u:Ty}{ws:List (Den D.S u)}{en':SEnv D}{σ':Sto D}{tn':xTn}(hx:xdet D en σ v o d e0 t0 x e u ws=some (en',σ',tn')):
  ∃x',lvs D t0 x'=(lvs D t0 x).set o ⟨.sl e u,([]:List (Den D.S u))⟩∧getB D σ d=none∧d<1000000∧mnE D d en=false∧en'=mskE D (idsA D σ) en∧σ'=(d,⟨false,e,u,ws⟩)::xsetB D σ v ⟨true,e0,t0,[x']⟩∧tn'=some (v,[(0,o)]):=by
 unfold xdet at hx
 split at hx
 ·rename_i x' h1 h2;have⟨hb,hx'⟩:=Y2l hx;clear hx;simp only[X2,X00] at hb;simp only[X0,Prod.mk.injEq] at hx';obtain⟨rfl,rfl,rfl⟩:=hx';exact⟨x',Y7m _ _ _ h1,h2,X9 hb.1,hb.2,rfl,rfl,rfl⟩
 ·cases hx
theorem xapf_sound(X:XR D h0 O0 ω0 F0 en σ tn env h ω Rs){o:Oper}{s x:Operand}{t u:TypeId}(ho:o.op= .call ⟨.builtin .append, #[s,x], #[t,u]⟩){vs vx:SV D.S}{cs:XCs}{en':SEnv D}{σ':Sto D}{tn':xTn}{sv:SV D.S}
  (hx:xapf D P en σ tn o.dst t u vs vx=some (cs,en',σ',tn',sv)) (hc:XOk cs) (hs:SR D h ω vs (rdo env s)) (hy:SR D h ω vx (rdo env x)):
  ∃h' av ω' Rs',HStep P o env h h' av∧XR D h0 O0 ω0 F0 en' σ' tn' env h' ω' Rs'∧SR D h' ω' sv av∧notC D sv=true:=by
 unfold xapf at hx
 split at hx
 ·rename_i v oo d _
  split at hx
  ·rename_i e k bytes z c y e0 t0 x0 hE hk hg
   split at hx
   ·rename_i ty ys e' u' zs hsr hl
    split at hx
    ·rename_i q _;have⟨q⟩:=q;subst q;have⟨zl,hzl⟩:∃zl:List (Den D.S ty),zl=zs:=⟨zs,rfl⟩;subst hzl;have⟨hb,hx'⟩:=Y2l hx;clear hx;simp only[X2,beq_iff_eq] at hb;have⟨hu,b1,b2,b3⟩:=hb;have b1:=Xe b1;have b2:=Xe b2;subst b1
     split at hx'
     ·rename_i en1 σ1 tn1 hdet;simp only[X0,Prod.mk.injEq] at hx';obtain⟨rfl,rfl,rfl,rfl,rfl⟩:=hx';obtain⟨x',hx',hd0,hlt,hm,rfl,rfl,rfl⟩:=xdet_some hdet;have hroom:room bytes (List.length zl+ys.length):=hc.app.2 (.room bytes _) (by simp);have⟨g1,g2⟩:=Y5j hk hc.app.1 (fun _ _ _ _ _ e=>by cases e) hy;have src:=xsrc_sound (tn:=none) X.rep hu hsr g2 b3 b2.symm;simp only[SR] at hs;have hB:BkR D h none ⟨true,e0,t0,[x0]⟩ (ω v) (Rs v):=X.rep.blk v _ hg;have⟨r0,rt,p,r,s',f1,f2,f3,f4,f5⟩:=hB.fld hl hx' hs.2;have E:=Y33 hE;have key:∀(q:Nat) (rt1:Rt),rt1.live=true→rt1.e=e'→rt1.k=k→rt1.cs=(fzC D ty (zl++ys)).map AV.im→BkR D ((q,rt1)::h) none ⟨false,e',ty,zl++ys⟩ (.rsl q rt1.ver 0 (List.length zl+ys.length)) [q]:=fun q rt1 k1 k2 k3 k4=>by
       refine .inr ⟨q,rt1,[],by rw[X4],by simp[Hp.at],k2,⟨k1,by rw[k3,b2],_,[],by rw[X0l,k4], ?_⟩,rfl⟩;exact ElR.ofPlain b3 _
      have hat:∀(q:Nat) (rt1:Rt),∀q',q'≠q→Hp.at ((q,rt1)::h) q'=h.at q':=fun q rt1 q' hq'=>by simp only[Hp.at];rw[if_neg fun e=>hq' e.symm]
      rcases f4 with⟨hz,hn,_⟩|⟨q,rt1,rs',hn,hat1,he1,⟨l1,l2,ds,post,l3,l4⟩,hr⟩
      ·have hz:zl=[]:=hz;subst hz;have⟨q,hr1,hr2⟩:=Hp.freshR h h0;have hroom':room bytes (0+ys.length):=hroom;have hst:=Y9q (P:=P) (env:=env) (h:=h) (h1:=(q,⟨1,true,e',k,(fzC D ty ys).map .im⟩)::h) (s1:=.rsl q 1 0 ys.length) ho E hn rfl g1 src (.inr ⟨rfl,q,hr1,hroom'.1,hroom'.2,rfl,rfl⟩);have e0':([]:List (Den D.S ty)).length+ys.length=ys.length:=X05 _;have hk1:=key q ⟨1,true,e',k,(fzC D ty ys).map .im⟩ rfl rfl rfl rfl;rw[e0'] at hk1;refine⟨_,_,_,_,hst,X.det hg hd0 hlt hm f1 f2 f3 f5 (.inr ⟨hr1,hr2⟩) (hat _ _) hk1 (.inl rfl), ?_,rfl⟩;simp only[SR,HdAt];exact⟨.inr ⟨_,_,_,rfl⟩,(Y13 _ _ _).symm⟩
      ·have hlen:ds.length=List.length zl*nl D ty:=l4.len;have htake:rt1.cs.take (List.length zl*k)=(fzC D ty zl).map AV.im:=by
        rw[l3,b2, ←hlen,List.take_left' rfl];exact l4.plain b3
       have hfit:List.length zl*k≤rt1.cs.length:=by simp_all
       have hst:=Y9q (P:=P) (env:=env) (h:=h) (h1:=(q,⟨rt1.ver+1,true,e',k,rt1.cs.take (List.length zl*k)++(fzC D ty ys).map .im⟩)::h) (s1:=.rsl q (rt1.ver+1) 0 (List.length zl+ys.length)) ho E hn rfl g1 src (.inl ⟨q,rt1.ver,List.length zl,rt1,rfl,hat1,rfl,l1,he1,by rw[l2,b2],hfit,hroom.1,hroom.2,rfl,rfl⟩);have hk1:=key q ⟨rt1.ver+1,true,e',k,rt1.cs.take (List.length zl*k)++(fzC D ty ys).map .im⟩ rfl rfl rfl (by
        show rt1.cs.take (List.length zl*k)++(fzC D ty ys).map .im=_;rw[htake,fzC_app,X0j])
       refine⟨_,_,_,_,hst,X.det hg hd0 hlt hm f1 f2 f3 f5 (.inl (by grind)) (hat _ _) hk1 (.inl rfl), ?_,rfl⟩;simp only[SR,HdAt];exact⟨.inr ⟨_,_,_,rfl⟩,(Y13 _ _ _).symm⟩
     grind
    ·cases hx
   ·cases hx
  ·cases hx
 ·cases hx
theorem xsld_sound(X:XR D h0 O0 ω0 F0 en σ tn env h ω Rs){o:Oper}{s i:Operand}{t:TypeId}(ho:o.op= .slice t s none (some i) none){vs vi:SV D.S}{cs:XCs}{en':SEnv D}{σ':Sto D}{tn':xTn}{sv:SV D.S}
  (hx:xsld D P en σ tn o.dst t vs vi=some (cs,en',σ',tn',sv)) (hc:XOk cs) (hs:SR D h ω vs (rdo env s)) (hy:SR D h ω vi (rdo env i)):
  ∃av ω' Rs',HStep P o env h h av∧XR D h0 O0 ω0 F0 en' σ' tn' env h ω' Rs'∧SR D h ω' sv av∧notC D sv=true:=by
 unfold xsld at hx
 split at hx
 ·rename_i v oo j d _
  split at hx
  ·rename_i e0 t0 x0 hg
   split at hx
   ·rename_i e u zs k hl hez;have⟨zl,hzl⟩:∃zl:List (Den D.S u),zl=zs:=⟨zs,rfl⟩;subst hzl;have⟨hb,hx'⟩:=Y2l hx;clear hx;simp only[X2,beq_iff_eq] at hb;have⟨ht,b2,b3⟩:=hb;have b2:=Xe b2
    split at hx'
    ·rename_i en1 σ1 tn1 hdet;simp only[X0,Prod.mk.injEq] at hx';obtain⟨rfl,rfl,rfl,rfl,rfl⟩:=hx';obtain⟨x',hx',hd0,hlt,hm,rfl,rfl,rfl⟩:=xdet_some hdet;have hj:0≤j∧j≤((zl.length:Nat):Int):=hc (.lim j _) (by simp);simp only[SR] at hs hy;have hB:BkR D h none ⟨true,e0,t0,[x0]⟩ (ω v) (Rs v):=X.rep.blk v _ hg;have⟨r0,rt,p,r,s',f1,f2,f3,f4,f5⟩:=hB.fld hl hx' hs.2;rcases f4 with⟨hz,hn,hr⟩|⟨q,rt1,rs',hn,hat1,he1,⟨l1,l2,ds,post,l3,l4⟩,hr⟩
     ·have hz:zl=[]:=hz;subst hz;have⟨q,hr1,hr2⟩:=Hp.freshR h h0;have hj0:j=0:=by
       grind
      subst hj0;refine⟨xnilA,_,_,Y2c (Quiet.sliceNil (o:={o with guard:=none}) ho ht (by grind) (gpoU rfl ⟨by rw[hn];trivial,by rw[hn];rfl,by rw[hy];trivial,by rw[hy];rfl⟩)),X.det hg hd0 hlt hm f1 f2 f3 f5 (.inr ⟨hr1,hr2⟩) (fun _ _=>rfl) (s1:=xnilA) (rs1:=[]) (.inl ⟨rfl,rfl,rfl⟩) (.inr rfl), ?_,rfl⟩;simp only[SR,HdAt];exact⟨.inl rfl,(Y13 _ _ _).symm⟩
     ·have hle:j.toNat≤List.length zl:=by omega
      have hkk:rt1.k=k:=by rw[l2,b2]
      refine⟨.rsl q rt1.ver 0 j.toNat,_,_,HStep.cut ho ht hez hn hy ⟨q,rt1.ver,_,rfl,HasK.mk hat1 rfl hkk,hj.1,hj.2,rfl⟩,X.det hg hd0 hlt hm f1 f2 f3 f5 (q:=q) (.inl (by grind)) (fun _ _=>rfl) (s1:=.rsl q rt1.ver 0 j.toNat) (rs1:=[q]) ?_ (.inl rfl), ?_,rfl⟩
      ·refine .inr ⟨q,rt1,[],by show AV.rsl q rt1.ver 0 j.toNat= .rsl q rt1.ver 0 (List.take j.toNat zl).length;rw[Xz,Nat.min_eq_left hle],hat1,he1,⟨l1,l2,(fzC D u (zl.take j.toNat)).map AV.im,(fzC D u (zl.drop j.toNat)).map AV.im++post, ?_,ElR.ofPlain b3 _⟩,rfl⟩;rw[l3,l4.plain b3, ←Xh, ←X0j, ←fzC_app,X0i]
      ·simp only[SR,HdAt];exact⟨.inr ⟨_,_,_,rfl⟩,(Y13 _ _ _).symm⟩
    grind
   ·cases hx
  ·cases hx
 ·cases hx
theorem putA_1{α:Type}{cs:List α}{o:Nat}{a:α}(ho:o<cs.length):putA cs o [a]=cs.set o a:=by
 have:=putA_cons (cs:=cs) (bs:=[]) (off:=o) (a:=a) ho;rw[←this];unfold putA;simp
theorem xsth_sound(X:XR D h0 O0 ω0 F0 en σ tn env h ω Rs){o:Oper}{t:TypeId}{x y:Operand}(ho:o.op= .store t x y){vx vy:SV D.S}{en':SEnv D}{σ':Sto D}(hs:xsth D P en σ tn t vx vy=some (en',σ'))(hx:SR D h ω vx (rdo env x))(hy:SR D h ω vy (rdo env y)):
  ∃h' Rs',HStep P o env h h' .any∧XR D h0 O0 ω0 F0 en' σ' none env h' ω Rs':=by
 unfold xsth at hs
 split at hs
 ·rename_i v oo d v' o'
  split at hs
  ·rename_i e0 t0 x0 e u ws hg hgd
   split at hs
   ·rename_i e' u' zs hl
    split at hs
    ·rename_i q x' hq hx';have⟨q⟩:=q;subst q;have⟨hb,hs'⟩:=Y2l hs;clear hs;simp only[X2,X00] at hb;have⟨b1,b2,b3,b4,b5,b6,b7⟩:=hb;have⟨zl,hzl⟩:∃zl:List (Den D.S u),zl=zs:=⟨zs,rfl⟩;subst hzl;have b6:zl=[]:=X14.1 b6;have b1:=Xe b1;have b2:=Xe b2;have b4:=Xe b4;subst b1 b2 b4 b6;simp only[X0,Prod.mk.injEq] at hs';obtain⟨rfl,rfl⟩:=hs';have hdv:d≠v':=fun e=>by simp_all
     have⟨r0,rt,f1,f2,f3,f4,f5,f6,f7⟩:=X.att hg hgd hdv hl (Y7m _ _ _ hx') b5;simp only[SR,HdAt] at hx hy;obtain⟨hd,r,ver,rt',rfl,g2,g3,g4,g5⟩:=hx;have:r=r0:=by
      rcases g2 with⟨m,e,_⟩|⟨e,_⟩
      ·simp_all
      simp_all
     subst this;rw[f2] at g3;cases g3;rw[X0q,X05] at g5;have hsz:szt P t=some 1:=by
      split at b7
      ·rename_i n hn;rw[hn,Xe b7]
      ·cases b7
     have hst:st (rdo env y)=ω d:=by
      rw[hy.2];rcases f5 with e|⟨_,_,_,e⟩<;>rw[e]<;>rfl
     have hcl:Y1r (st (rdo env y))=[ω d]:=by rw[hst,Y5o f6]
     have hgd':gd (rdo env y):=by
      rw[hy.2];rcases f5 with e|⟨_,_,_,e⟩<;>rw[e]<;>trivial
     have hstep:=RStep.store (P:=P) (env:=env) (h:=h) ho (r:=r) (ver:=ver) (off:=o') (rt:=rt) (by rw[g5];rfl) (by rw[g5];trivial) hgd' f2 g4 f3 (by simp_all) (by rw[hst];exact Y6b f6) (by grind);rw[hcl,putA_1 f4] at hstep;have⟨Rs',X'⟩:=f7 ((r,⟨rt.ver,true,rt.e,rt.k,rt.cs.set o' (ω d)⟩)::h) (by simp[Hp.at]) (fun q hq=>by simp only[Hp.at];rw[if_neg fun e=>hq e.symm]);exact⟨_,Rs',Y30 hstep,X'⟩
    ·cases hs
   ·cases hs
  ·cases hs
 ·cases hs
end
end Go.Abs
