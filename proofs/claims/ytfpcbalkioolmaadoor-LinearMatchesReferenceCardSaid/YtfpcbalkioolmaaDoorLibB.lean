/- Own work. -/
import Derived.Test.YtfpcbalkioolmaaDoorLibA
import Derived.Laws.OwnMore
import Derived.Laws.MakeOwn
import Derived.ScopeJumps
import Derived.Deep.Slices
import Derived.OpenShut
import Derived.WalkKit
import Derived.ProofKit
import Derived.ShutString
import Derived.ChangeOld
set_option linter.unusedSimpArgs false
set_option linter.unusedVariables false
namespace Go.Abs
open Go.RowKit
mutual
def pur:AV→Bool
 | .any=>true
 | .im _=>true
 | .agg cs=>purL cs
 | .tup cs=>purL cs
 | .ipt _ _=>true
 | .ref _ _ _=>false
 | .rsl _ _ _ _=>false
 | .cnd _ x=>pur x
 | .fnv _ _=>false
def purL:List AV→Bool
 |[]=>true
 |c::cs=>pur c&&purL cs
end
mutual
def flat:AV→Bool
 | .any=>true
 | .im (.val _)=>true
 | .im (.sl _ _)=>false
 | .agg cs=>Y0y cs
 | .tup cs=>Y0y cs
 | .ipt _ _=>false
 | .ref _ _ _=>true
 | .rsl _ _ _ _=>true
 | .cnd _ x=>flat x
 | .im (.mp _)=>false
 | .fnv _ _=>false
def Y0y:List AV→Bool
 |[]=>true
 |c::cs=>flat c&&Y0y cs
end
mutual
theorem VR.pure{w w':World}{h h':Hp}{ι ι':Nat→Bk}{A A':Nat→Prop}(hk:∀β,β<w.heap.size→¬A β→w'.heap[β]? =w.heap[β]?∧¬A' β):∀(x:AV) (v:Value),pur x=true→VR w h ι A x v→VR w' h' ι' A' x v
 | .any,_,_,_=>by simp only[VR]
 | .im x,v,_,hv=>by simp only[VR] at hv⊢;exact VRI.keep hk x v hv
 | .agg cs,v,hp,hv=>by
  simp only[VR] at hv⊢;have⟨l,hl,hr⟩:=hv;exact⟨l,hl,VRL.pure hk cs l (by simpa only[pur] using hp) hr⟩
 | .tup cs,v,hp,hv=>by
  simp only[VR] at hv⊢;have⟨l,hl,hr⟩:=hv;exact⟨l,hl,VRL.pure hk cs l (by simpa only[pur] using hp) hr⟩
 | .ipt cs off,v,_,hv=>by
  simp only[VR] at hv⊢;have⟨a,l,hl,hlie,hr⟩:=hv;exact⟨a,l,hl,hlie.keep hk,VRIL.keep hk cs l hr⟩
 | .ref _ _ _,_,hp,_=>by simp[pur] at hp
 | .rsl _ _ _ _,_,hp,_=>by simp[pur] at hp
 | .cnd g x,v,hp,hv=>by simp only[VR] at hv⊢;exact⟨fun hg=>VR.pure hk x v (by simpa only[pur] using hp) (hv.1 hg),hv.2⟩
 | .fnv _ _,_,hp,_=>by simp[pur] at hp
theorem VRL.pure{w w':World}{h h':Hp}{ι ι':Nat→Bk}{A A':Nat→Prop}(hk:∀β,β<w.heap.size→¬A β→w'.heap[β]? =w.heap[β]?∧¬A' β):∀(cs:List AV) (l:List Value),purL cs=true→VRL w h ι A cs l→VRL w' h' ι' A' cs l
 |[],_,_,hv=>by simpa only[VRL] using hv
 |c::cs,l,hp,hv=>by
  simp only[VRL] at hv⊢;simp only[purL,X2] at hp;have⟨v,l',hl,hv,hr⟩:=hv;exact⟨v,l',hl,VR.pure hk c v hp.1 hv,VRL.pure hk cs l' hp.2 hr⟩
end
mutual
def scal:AV→Bool
 | .any=>true
 | .im (.val _)=>true
 | .im (.sl _ _)=>false
 | .agg cs=>scalL cs
 | .tup cs=>scalL cs
 | .ipt _ _=>false
 | .ref _ _ _=>false
 | .rsl _ _ _ _=>false
 | .cnd _ x=>scal x
 | .im (.mp _)=>false
 | .fnv _ _=>false
def scalL:List AV→Bool
 |[]=>true
 |c::cs=>scal c&&scalL cs
end
mutual
theorem VR.scal{w w':World}{h h':Hp}{ι ι':Nat→Bk}{A A':Nat→Prop}:∀(x:AV) (v:Value),Abs.scal x=true→VR w h ι A x v→VR w' h' ι' A' x v
 | .any,_,_,_=>by simp only[VR]
 | .im (.val u),v,_,hv=>by simpa [VR,VRI] using hv
 | .im (.sl _ _),_,hp,_=>by simp[Abs.scal] at hp
 | .agg cs,v,hp,hv=>by
  simp only[VR] at hv⊢;have⟨l,hl,hr⟩:=hv;exact⟨l,hl,VRL.scal cs l (by simpa only[Abs.scal] using hp) hr⟩
 | .tup cs,v,hp,hv=>by
  simp only[VR] at hv⊢;have⟨l,hl,hr⟩:=hv;exact⟨l,hl,VRL.scal cs l (by simpa only[Abs.scal] using hp) hr⟩
 | .ipt _ _,_,hp,_=>by simp[Abs.scal] at hp
 | .ref _ _ _,_,hp,_=>by simp[Abs.scal] at hp
 | .rsl _ _ _ _,_,hp,_=>by simp[Abs.scal] at hp
 | .cnd g x,v,hp,hv=>by simp only[VR] at hv⊢;exact⟨fun hg=>VR.scal x v (by simpa only[Abs.scal] using hp) (hv.1 hg),hv.2⟩
 | .im (.mp _),_,hp,_=>by simp[Abs.scal] at hp
 | .fnv _ _,_,hp,_=>by simp[Abs.scal] at hp
theorem VRL.scal{w w':World}{h h':Hp}{ι ι':Nat→Bk}{A A':Nat→Prop}:∀(cs:List AV) (l:List Value),scalL cs=true→VRL w h ι A cs l→VRL w' h' ι' A' cs l
 |[],_,_,hv=>by simpa only[VRL] using hv
 |c::cs,l,hp,hv=>by
  simp only[VRL] at hv⊢;simp only[scalL,X2] at hp;have⟨v,l',hl,hv,hr⟩:=hv;exact⟨v,l',hl,VR.scal c v hp.1 hv,VRL.scal cs l' hp.2 hr⟩
end
def Brw (B:Nat→Prop) (h:Hp) (ι:Nat→Bk) (bs:List Nat) (β:Nat):Prop:=Own B h ι β∧∀r∈bs,(ι r).blk≠some β
def ArgS (h:Hp) (bs:List Nat) (x y:AV):Prop:=
 ∀(X:Ctx) (ι:Nat→Bk) (w:World) (v:Value),Hol X h ι w→VR w h ι (Own X.B h ι) x v→VR w [] ι (Brw X.B h ι bs) y v
section
variable {P:Program} {N:Nat} {ops:Array Oper} {env:Env} {h:Hp} {bs:List Nat}
theorem ArgS.pur{x:AV}(hp:pur x=true):ArgS h bs x x:=fun _ _ _ v _ hv=>VR.pure (fun _ _ hA=>⟨rfl,fun hb=>hA hb.1⟩) x v hp hv
theorem ArgS.nil:ArgS h bs (.im (.val (.slice none 0 0))) (.im (.sl [] 0)):=fun _ _ _ v _ hv=>by
 rw[Y0z] at hv;subst hv;simp only[VR,VRI];exact⟨none,0,[],rfl,Xk _,by simp,fun a ha=>by simp at ha,by rfl⟩
theorem RootOK.row{w:World}{ι:Nat→Bk}{A:Nat→Prop}{b:Bk}{rt:Rt}{g:Nat}(hr:RootOK w h ι A b rt)(hg:b.blk=some g):
  ∃arr:Array Value,w.heap[g]? =some (.cells arr rt.e (0,0))∧arr.size=b.cap*rt.k∧b.cap≤maxLen∧VRL w h ι A rt.cs (arr.toList.take rt.cs.length)∧∀u∈arr.toList.take rt.cs.length,u.oneCell'=true:=by
 rcases hr with⟨h1,_⟩|⟨g',arr,h1,h2⟩
 ·simp_all
 simp_all
theorem ArgS.slice{r ver off n:Nat}{rt:Rt}{ys:List IV}(hb:r∈bs)(hrt:h.at r=some rt)(hver:rt.ver=ver)(hl:rt.live=true)
  (hcs:(rt.cs.drop off).take (n*rt.k)=ys.map .im) (hn:ys.length=n*rt.k):ArgS h bs (.rsl r ver off n) (.im (.sl ys n)):=by
 intro X ι w v H hv;obtain⟨rt',hrt',_,hk,ao,c,rfl,hnc,hcase⟩:=VR.rsl_now (k:=rt.k) hv (by simp_all);rw[hrt] at hrt';cases hrt';have hR:=H.roots r rt hrt hl;simp only[VR,VRI];have hA:∀β,(ι r).blk=some β→¬Brw X.B h ι bs β:=fun β hβ hbr=>hbr.2 r hb hβ;rcases hcase with⟨b1,rfl,rfl,rfl,rfl⟩|⟨g,hg,⟨rfl,hcap⟩|⟨rfl,rfl⟩⟩
 ·have:ys=[]:=X08 (by omega);subst this;exact⟨none,0,[],rfl,Xk _,by simp,fun a ha=>by simp at ha,by rfl⟩
 ·have⟨arr,h1,h2,h3,h4,h5⟩:=hR.row hg;have h6:=(h4.drop off).take (n*rt.k);rw[hcs] at h6;have hI:=VRL.toI h6;refine⟨some ⟨g,off,none⟩,c,_,rfl,hnc,fun e=>by simp at e, ?_,VRIL.keep (fun β hβ hA'=>⟨rfl,fun hb=>hA' hb.1⟩) _ _ hI⟩;intro a ha;simp at ha;subst ha;intro i u hu;rw[Xs] at hu
  split at hu
  ·rw[X0n,Xs] at hu
   split at hu
   ·rename_i hlt;refine⟨?_,hA g hg, ?_⟩
    ·rw[Y6j,cell_of_row w g (off+i) arr rt.e (0,0) h1]
     simp_all
    ·apply h5;exact X0c (i:=off+i) (by simp_all)
   ·cases hu
  ·cases hu
 ·have:ys=[]:=X08 (by omega);subst this
  by_cases hao:ao=none
  ·subst hao;exact⟨none,0,[],rfl,Xk _,by simp,fun a ha=>by simp at ha,by rfl⟩
  ·exact⟨ao,0,[],rfl,Xk _,fun e=>absurd e hao,fun a _ i u hu=>by simp at hu,by rfl⟩
inductive ArgL (h:Hp) (bs:List Nat):List AV→List AV→Prop
 |nil:ArgL h bs [] []
 |cons {x y:AV} {xs ys:List AV}:ArgS h bs x y→ArgL h bs xs ys→ArgL h bs (x::xs) (y::ys)
theorem ArgL.sound{xs ys:List AV}(ha:ArgL h bs xs ys){X:Ctx}{ι:Nat→Bk}{w:World}(H:Hol X h ι w):∀vs:List Value,VRL w h ι (Own X.B h ι) xs vs→VRL w [] ι (Brw X.B h ι bs) ys vs:=by
 induction ha with
 |nil=>intro vs hv;simpa only[VRL] using hv
 |cons hs _ ih=>
  intro vs hv;simp only[VRL] at hv⊢;obtain⟨v,l',rfl,hv,hr⟩:=hv;exact⟨v,l',rfl,hs X ι w v H hv,ih l' hr⟩
def Y4g (P:Program) (f:FuncId):Bool:=match P.funcs[f]? with
 |some fn=>fn.name != "runtime.NumGoroutine" &&fn.body.isSome
 |none=>false
theorem callFunc_run{f:FuncId}{w:World}{args:Array Value}(hc:Y4g P f=true):(callFunc f args).run P w= .ok (.enter f args) w:=by
 unfold Y4g at hc
 split at hc
 ·rename_i fn hf;simp only[X2,bne_iff_ne,ne_eq] at hc;have⟨c,hb⟩:∃c,fn.body=some c:=by cases hb:fn.body<;>simp_all
  simp[callFunc,program,Sem.run,hf,hc.1,hb]
 ·cases hc
theorem wp_call{o:Oper}{f:FuncId}{xs:List Operand}{ts:Array TypeId}(ho:o.op= .call ⟨.value (.func f),xs.toArray,ts⟩)(hc:Y4g P f=true){a:Act}{w:World}{next:Act→World→Prop}{Q:Exit→Act→World→Prop}
  (hw:Calls P f (xs.map a.eval).toArray w fun e w'=>∃v,e= .returned v∧next (a.put o.dst v) w'):o.wp P a w next Q:=by
 have hr:(execOp a.eval o).run P w= .ok (.enter f (xs.map a.eval).toArray) w:=by
  simp only[execOp,ho,resolve,Act.eval,Xa];have hof:Deferred.ofValue (.func (.func f) #[] #[]) (xs.toArray.map a.eval)=Pure.pure ({target:=.fn (.func f) #[],args:= #[]++xs.toArray.map a.eval}:Deferred):=rfl;simp only[hof,X01,Xn,invoke,Array.append_empty,Array.empty_append,callFunc_run hc];simp
 simp only[Oper.wp,hr,Oper.upon];refine hw.mono fun e w' ⟨v,he,hn⟩=> ?_
 simp_all
theorem Hol.start{X:Ctx}{ι:Nat→Bk}{w:World}(H:Hol X h ι w)(bs:List Nat):Hol ⟨w,Brw X.B h ι bs,Own (fun _=>False) [] ι,pinOf [] ι⟩ [] ι w where
 pin r b k hp:=by simp[pinOf,Hp.at] at hp
 roots r rt hr:=by simp[Hp.at] at hr
 inj r r' rt rt' g hr:=by simp[Hp.at] at hr
 place r rt g hr:=by simp[Hp.at] at hr
 os:=rfl
 tape:=rfl
 output:=rfl
 size:=Xk _
 frame _ _ _:=rfl
 glob:=H.globOK.keep fun β _ hn=>⟨rfl,fun ho=>by
  rcases ho with ho|ho|⟨r,rt,hr,_⟩
  ·exact hn ho.1
  ·exact ho
  ·simp[Hp.at] at hr⟩
 old β hb:=by
  refine⟨?_,fun hs=> ?_⟩
  ·rcases hb.1 with hB|⟨r,rt,hr,hl,hblk⟩
   ·exact X1e (H.old β hB).1 H.size
   ·have⟨arr,h1,_⟩:=(H.roots r rt hr hl).row hblk
    grind
  ·rcases hs with hs|⟨r,rt,hr,_⟩
   ·exact hs
   ·simp[Hp.at] at hr
def QSpec (P:Program) (f:FuncId) (args:List AV) (r:AV):Prop:=Spec P f args [] fun r' _=>r'=r
def Sub (x y:AV):Prop:=∀(w:World) (h:Hp) (ι:Nat→Bk) (A:Nat→Prop) (v:Value),VR w h ι A x v→VR w h ι A y v
theorem Sub.refl(x:AV):Sub x x:=fun _ _ _ _ _ h=>h
theorem Sub.nil:Sub (.im (.val (.slice none 0 0))) (.im (.sl [] 0)):=fun _ _ _ _ v hv=>by
 rw[Y0z] at hv;subst hv;simp only[VR,VRI];exact⟨none,0,[],rfl,Xk _,by simp,fun a ha=>by simp at ha,by rfl⟩
theorem Hol.after{B:Nat→Prop}{ι ι':Nat→Bk}{w w':World}{h':Hp}{p:Nat→Option (Bk×Nat)}(H':Hol ⟨w,B,Own (fun _=>False) [] ι,p⟩ h' ι' w'):Below w.heap.size w w':=
 ⟨H'.os,H'.tape,H'.output,H'.size,fun β hβ=>H'.frame β hβ fun hs=>by
  rcases hs with hs|⟨r,rt,hr,_⟩
  ·exact hs
  ·simp[Hp.at] at hr⟩
theorem args_vr{w:World}{ι:Nat→Bk}{A:Nat→Prop}{a:Act}:∀(xs:List Operand),(∀x∈xs,gd (rdo env x))→(∀x∈xs,VR w h ι A (rdo env x) (a.eval x))→VRL w h ι A (xs.map fun x=>st (rdo env x)) (xs.map a.eval)
 |[],_,_=>by rfl
 |x::xs,hg,hv=>by
  simp only[Xo,VRL];exact⟨_,_,rfl,(hv x (by simp)).st (hg x (by simp)),args_vr xs (fun y hy=>hg y (by simp[hy])) (fun y hy=>hv y (by simp[hy]))⟩
theorem Quiet.call{o:Oper}{f:FuncId}{xs:List Operand}{ts:Array TypeId}(ho:o.op= .call ⟨.value (.func f),xs.toArray,ts⟩)(hc:Y4g P f=true)(bs:List Nat)(ys:List AV)(r:AV)
  (hg:gpo ops env o ((∀x∈xs,gd (rdo env x))∧ArgL h bs (xs.map fun x=>st (rdo env x)) ys∧QSpec P f ys r∧((bs=[]∧Abs.pur r=true)∨Abs.scal r=true))):
  Quiet P ops o env h (gav ops env o r):=
 Y4a hg fun⟨hgd,hargs,hs,hr⟩ X a w ι Q H hop next hn=>by
  refine wp_call ho hc ?_;have hvs:=args_vr xs hgd (fun x hx=>hop x (by simp[ho,Op.operands,Call.operands,hx]));have hvs':=hargs.sound H _ hvs;have hBO:Own (Brw X.B h ι bs) [] ι=Brw X.B h ι bs:=by
   funext β;simp[Own,Hp.at]
  refine(hs w ι (Brw X.B h ι bs) _ (H.start bs) (by simp_all)).mono ?_;rintro e w' ⟨v,r',h',ι',rfl,rfl,H',hv⟩;refine⟨v,rfl,hn v w' H'.after ?_⟩;rcases hr with⟨rfl,hp⟩|hf
  ·refine VR.pure (fun β hβ hA=>⟨rfl,fun ho=>hA (.inl ⟨ho,by simp⟩)⟩) _ _ hp hv
  ·exact VR.scal _ _ hf hv
end
def upd (ι:Nat→Bk) (r:Nat) (b:Bk):Nat→Bk:=fun i=>if i=r then b else ι i
theorem upd_same(ι:Nat→Bk)(r:Nat)(b:Bk):upd ι r b r=b:=by simp[upd]
theorem upd_other{ι:Nat→Bk}{r i:Nat}{b:Bk}(h:i≠r):upd ι r b i=ι i:=by simp[upd,h]
section
variable {P:Program} {N:Nat} {ops:Array Oper} {env:Env} {h:Hp}
theorem Y5c(r:Nat)(rt:Rt)(h:Hp):Hp.at ((r,rt)::h) r=some rt:=by simp[Hp.at]
theorem Y58{r i:Nat}{rt:Rt}(hi:i≠r):Hp.at ((r,rt)::h) i=h.at i:=by simp only[Hp.at];rw[if_neg (fun e=>hi e.symm)]
theorem Hol.upd{X:Ctx}{ι:Nat→Bk}{w:World}(H:Hol X h ι w)(r:Nat)(rt':Rt)(b':Bk)(w':World)
  (hos:w'.os=w.os) (htape:w'.tape=w.tape) (hout:w'.output=w.output) (hsz:w.heap.size≤w'.heap.size)
  (hblk:∀β,β<w.heap.size→(∀rt,h.at r=some rt→rt.live=true→(ι r).blk≠some β)→w'.heap[β]? =w.heap[β]?)
  (hver:∀rt,h.at r=some rt→rt.ver<rt'.ver∨(rt'.ver=rt.ver∧b'=ι r∧rt'.k=rt.k))
  (hnew:rt'.live=true→∀g,b'.blk=some g→w.heap.size≤g∨∃rt,h.at r=some rt∧rt.live=true∧(ι r).blk=some g)
  (hroot:rt'.live=true→Keep w h ι (Own X.B h ι) w' ((r,rt')::h) (upd ι r b') (Own X.B ((r,rt')::h) (upd ι r b'))→
   RootOK w' ((r,rt')::h) (upd ι r b') (Own X.B ((r,rt')::h) (upd ι r b')) b' rt'):
  Hol X ((r,rt')::h) (upd ι r b') w'∧Keep w h ι (Own X.B h ι) w' ((r,rt')::h) (upd ι r b') (Own X.B ((r,rt')::h) (upd ι r b')):=by
 have hold:∀r rt g,h.at r=some rt→rt.live=true→(ι r).blk=some g→g<w.heap.size:=fun r rt g hr hl hg=>by
  have⟨arr,h1,_⟩:=(H.roots r rt hr hl).row hg
  grind
 have K:Keep w h ι (Own X.B h ι) w' ((r,rt')::h) (Abs.upd ι r b') (Own X.B ((r,rt')::h) (Abs.upd ι r b')):=by
  refine⟨fun β hβ hA=>⟨hblk β hβ fun rt hr hl hg=>hA (.inr ⟨r,rt,hr,hl,hg⟩), ?_⟩, ?_⟩
  ·rintro(hb|⟨i,rt,hi,hl,hg⟩)
   ·exact hA (.inl hb)
   ·by_cases hir:i=r
    ·subst hir;rw[Y5c] at hi;cases hi;rw[upd_same] at hg;rcases hnew hl β hg with h1|⟨rt,h1,h2,h3⟩
     ·omega
     ·exact hA (.inr ⟨i,rt,h1,h2,h3⟩)
    ·rw[Y58 hir] at hi;rw[upd_other hir] at hg;exact hA (.inr ⟨i,rt,hi,hl,hg⟩)
  ·intro i rt hi
   by_cases hir:i=r
   ·subst hir;refine⟨rt',Y5c _ _ _, ?_,fun he=> ?_⟩
    ·rcases hver rt hi with h1|⟨h1,_⟩<;>omega
    ·rcases hver rt hi with h1|⟨_,h2,h3⟩
     ·omega
     ·exact⟨by rw[upd_same,h2],h3⟩
   ·exact⟨rt,by rw[Y58 hir];exact hi,Xk _,fun _=>⟨upd_other hir,rfl⟩⟩
 refine⟨?_,K⟩;exact {
  roots:=fun i rt hi hl=>by
   by_cases hir:i=r
   ·subst hir;rw[Y5c] at hi;cases hi;rw[upd_same]
    simp_all
   ·rw[Y58 hir] at hi;rw[upd_other hir];rcases H.roots i rt hi hl with hn|⟨g,arr,c1,c2,c3,c4,c5,c6⟩
    ·exact .inl hn
    ·refine .inr ⟨g,arr,c1, ?_,c3,c4,VRL.keep K _ _ c5,c6⟩;rw[hblk g (Y9b c2) (fun rt2 h2 hl2 hg2=>hir (H.inj i r rt rt2 g hi h2 hl hl2 c1 hg2))];exact c2
  inj:=fun i j rti rtj g hi hj hli hlj hgi hgj=>by
   by_cases hir:i=r<;>by_cases hjr:j=r
   ·rw[hir,hjr]
   ·subst hir;rw[Y5c] at hi;cases hi
    rw[Y58 hjr] at hj;rw[upd_same] at hgi;rw[upd_other hjr] at hgj;rcases hnew hli g hgi with h1|⟨rt,h1,h2,h3⟩
    ·grind
    ·exact H.inj i j rt rtj g h1 hj h2 hlj h3 hgj
   ·subst hjr;rw[Y5c] at hj;cases hj
    rw[Y58 hir] at hi;rw[upd_same] at hgj;rw[upd_other hir] at hgi;rcases hnew hlj g hgj with h1|⟨rt,h1,h2,h3⟩
    ·grind
    ·exact H.inj i j rti rt g hi h1 hli h2 hgi h3
   ·rw[Y58 hir] at hi;rw[Y58 hjr] at hj;rw[upd_other hir] at hgi;rw[upd_other hjr] at hgj;exact H.inj i j rti rtj g hi hj hli hlj hgi hgj
  place:=fun i rt g hi hl hg=>by
   by_cases hir:i=r
   ·subst hir;rw[Y5c] at hi;cases hi
    rw[upd_same] at hg;rcases hnew hl g hg with h1|⟨rt,h1,h2,h3⟩
    ·exact⟨fun hb=>by have:=(H.old g hb).1;have:=H.size;omega,.inl (X0x H.size h1)⟩
    ·exact H.place i rt g h1 h2 h3
   ·rw[Y58 hir] at hi;rw[upd_other hir] at hg;exact H.place i rt g hi hl hg
  os:=hos.trans H.os
  tape:=htape.trans H.tape
  output:=hout.trans H.output
  size:=X0x H.size hsz
  frame:=fun β hβ hS=>by
   rw[hblk β (X1e hβ H.size) (fun rt hr hl hg=>by
    rcases(H.place r rt β hr hl hg).2 with h1|h1
    ·omega
    grind)]
   exact H.frame β hβ hS
  old:=H.old
  glob:=H.glob
  pin:=fun i b k hp=>by
   have⟨h1,rt,h2,h3⟩:=H.pin i b k hp;refine⟨h1, ?_⟩
   by_cases hir:i=r
   ·subst hir;refine⟨rt',Y5c _ _ _,fun hv=> ?_⟩;rcases hver rt h2 with h4|⟨h4,h5,h6⟩
    ·omega
    ·rw[upd_same,h5,h6]
     simp_all
   ·exact⟨rt,by rw[Y58 hir];exact h2,fun hv=>by rw[upd_other hir];grind⟩}
theorem take_all{l:List Value}{n:Nat}(h:l.length=n):l.take n=l:=by grind
theorem Hol.alloc{X:Ctx}{ι:Nat→Bk}{w:World}(H:Hol X h ι w)(r:Nat)(hr:h.at r=none)(e:TypeId)(k cap:Nat)(cs:List AV)(arr:Array Value)(hcap:arr.size=cap*k)(hm:cap≤maxLen)
  (hv:VRL w h ι (Own X.B h ι) cs (arr.toList.take cs.length)) (h1:∀u∈arr.toList.take cs.length,u.oneCell'=true):
  Hol X ((r,⟨0,true,e,k,cs⟩)::h) (Abs.upd ι r ⟨some w.heap.size,cap⟩) (w.alloc (.cells arr e))∧
   Keep w h ι (Own X.B h ι) (w.alloc (.cells arr e)) ((r,⟨0,true,e,k,cs⟩)::h) (Abs.upd ι r ⟨some w.heap.size,cap⟩) (Own X.B ((r,⟨0,true,e,k,cs⟩)::h) (Abs.upd ι r ⟨some w.heap.size,cap⟩)):=by
 refine H.upd r ⟨0,true,e,k,cs⟩ ⟨some w.heap.size,cap⟩ (w.alloc (.cells arr e)) rfl rfl rfl (by simp) (fun β hβ _=>Below.heap_alloc w _ β hβ) (fun rt h2=>by simp_all) (fun _ g hg=>.inl (by simp_all)) ?_;intro _ K;exact .inr ⟨w.heap.size,arr,rfl,heap_alloc_new w _,hcap,hm,VRL.keep K _ _ hv,h1⟩
theorem VR.newref{w:World}{ι:Nat→Bk}{A:Nat→Prop}{r:Nat}{rt:Rt}{b:Bk}{g:Nat}(hg:b.blk=some g)(off:Nat):VR w ((r,rt)::h) (Abs.upd ι r b) A (.ref r rt.ver off) (.pointer (some ⟨g,off,none⟩)):=by
 simp only[VR];exact⟨rt,Y5c _ _ _,Xk _,fun _=>⟨g,by rw[upd_same];exact hg,rfl⟩⟩
theorem VR.newrsl{w:World}{ι:Nat→Bk}{A:Nat→Prop}{r:Nat}{rt:Rt}{b:Bk}{n:Nat}{v:Value}(hs:SlR rt.k b 0 n v):VR w ((r,rt)::h) (Abs.upd ι r b) A (.rsl r rt.ver 0 n) v:=by
 simp only[VR];exact⟨rt,Y5c _ _ _,Xk _,fun _=>by rw[upd_same];exact hs⟩
def sle (P:Program) (t:TypeId):Option TypeId:=match P.underlying t with
 |some (.slice e)=>some e
 |_=>none
theorem sle_some{t e:TypeId}(hs:sle P t=some e):P.underlying t=some (.slice e):=by
 unfold sle at hs
 split at hs<;>simp_all
structure Elem (P:Program) (t e:TypeId) (k bytes:Nat) (z:List Value):Prop where
 sle:Abs.sle P t=some e
 zc:Abs.zc P e=some z
 size:(P.info? e).map (fun i=>(i.size,i.bytes))=some (k,bytes)
 zlen:z.length=k
 one:z.all (·.oneCell')=true
 pos:0<k
theorem zeros_eq(z:Array Value)(k n:Nat)(hk:z.size=k)(hp:0<k):((Array.range (n*k)).map (z[· %z.size]!)).toList=(List.replicate n z.toList).flatten:=by
 subst hk
 induction n with
 |zero=>simp
 |succ n ih=>
  have e1:(Array.range ((n+1)*z.size)).toList=(Array.range (n*z.size)).toList++(List.range z.size).map (n*z.size+ ·):=by
   simp only[Array.toList_range,X0t,Nat.one_mul];rw[List.range_add]
  simp only[Array.toList_map] at ih⊢;rw[e1,X0j,ih];rw[List.replicate_succ',List.flatten_append];congr 1;simp only[X1o,X1c,List.flatten_nil,X0l];apply List.ext_getElem
  ·simp
  ·intro i h1 h2;have hi:i<z.size:=by omega
   simp[Nat.mul_add_mod_self_right,Nat.mod_eq_of_lt hi,X0r,hi]
def zerosA (z:List Value) (n:Nat):List AV:=((List.replicate n z).flatten).map fun v=>.im (.val v)
end
section
variable {P:Program}
theorem run_append_fit(w:World){t u ty e:TypeId}{i:TypeInfo}(ht:P.underlying t=some (.slice e))(hu:(∃e',P.underlying u=some (.slice e'))∨P.underlying u=some .string)(hi:P.info? e=some i)
  (g n cap:Nat) (cur:Array Value) (hg:w.heap[g]? =some (.cells cur e (0,0))) (x:Value) (m:Nat) (l:List Value) (hlen:(Builtin.lenOf x).run P w= .ok m w) (hf:(Builtin.firstCells i.size m x).run P w= .ok l.toArray w)
  (h1:∀v∈l,v.oneCell'=true) (hroom:n+m≤cap) (hfit:n*i.size+l.length≤cur.size):
  (Builtin.append_ #[t,u] ty #[.slice (some ⟨g,0,none⟩) n cap,x]).run P w=
   .ok (.slice (some ⟨g,0,none⟩) (n+m) cap) (w.setRow g (putA cur.toList (n*i.size) l).toArray):=by
 have hst:=run_storeCells_at P g (n*i.size) e l 0 cur w hg (by omega) h1;simp only[X0f] at hst;rcases hu with⟨e',hu⟩|hu
 ·simp[Builtin.append_,run_underlying ht,run_underlying hu,sizeOf,typeInfo,hi,hlen,hroom,hf,Y6j,hst,putA]
 ·simp[Builtin.append_,run_underlying ht,run_underlying hu,sizeOf,typeInfo,hi,hlen,hroom,hf,Y6j,hst,putA]
theorem run_append_new(w:World){t u ty e:TypeId}{i:TypeInfo}{z:Value}(ht:P.underlying t=some (.slice e))(hu:(∃e',P.underlying u=some (.slice e'))∨P.underlying u=some .string)(hi:P.info? e=some i)(hz:i.zero=some z)
  (ao:Option Addr) (n cap:Nat) (olds:List Value) (hfo:(Builtin.firstCells i.size n (.slice ao n cap)).run P w.drew= .ok olds.toArray w.drew)
  (x:Value) (m:Nat) (l:List Value) (hlen:(Builtin.lenOf x).run P w= .ok m w) (hf:(Builtin.firstCells i.size m x).run P w.drew= .ok l.toArray w.drew)
  (hg:cap<n+m) (h63:((n+m:Nat):Int)≤9223372036854775807) (hfit:Builtin.nextslicecap (n+m) cap*i.bytes≤281474976710656):
  (Builtin.append_ #[t,u] ty #[.slice ao n cap,x]).run P w=
   .ok (.slice (some ⟨w.heap.size,0,none⟩) (n+m) (grownCap w (n+m) cap e))
    (w.drew.alloc (.cells (olds++l++(Builtin.zeroCells z.cells (grownCap w (n+m) cap e-(n+m))).toList).toArray e)):=by
 have hn:¬(n+m≤cap):=by omega
 have h63':¬(9223372036854775807<((n:Int)+(m:Int))):=by omega
 have h48':¬(281474976710656<Builtin.nextslicecap (n+m) cap*i.bytes):=by omega
 rcases hu with⟨e',hu⟩|hu
 ·simp[Builtin.append_,run_underlying ht,run_underlying hu,sizeOf,typeInfo,zeroValue,hi,hz,hlen,hn,h63',h48',Question.forced,hf,hfo,newRow,grownCap];congr 2
  simp_all
 ·simp[Builtin.append_,run_underlying ht,run_underlying hu,sizeOf,typeInfo,zeroValue,hi,hz,hlen,hn,h63',h48',Question.forced,hf,hfo,newRow,grownCap];congr 2
  simp_all
def SrcA (P:Program) (h:Hp) (u:TypeId) (k:Nat) (x:AV) (m:Nat) (news:List AV):Prop:=
 ((∃e',P.underlying u=some (.slice e'))∨P.underlying u=some .string)∧∀(X:Ctx) (ι:Nat→Bk) (w:World) (v:Value),Hol X h ι w→VR w h ι (Own X.B h ι) x v→
  (∀w',(Builtin.lenOf v).run P w'= .ok m w')∧∃l:List Value,VRL w h ι (Own X.B h ι) news l∧(∀u∈l,u.oneCell'=true)∧l.length=m*k∧
   ∀w':World,w'.heap=w.heap→(Builtin.firstCells k m v).run P w'= .ok l.toArray w'
variable {N:Nat} {ops:Array Oper} {env:Env} {h:Hp}
theorem cell?_heap{w w':World}(he:w'.heap=w.heap)(a:Addr):w'.cell? a=w.cell? a:=by simp[World.cell?,he]
theorem tk_notint{u:TypeId}(hu:tk P u=1∨tk P u=2):(∃e',P.underlying u=some (.slice e'))∨P.underlying u=some .string:=by
 rcases hu with hu|hu
 ·exact .inl (tk_slice hu)
 ·exact .inr (tk_str hu)
theorem SrcA.im{u:TypeId}{k m:Nat}{ys:List IV}(hu:tk P u=1)(hl:ys.length=m*k):SrcA P h u k (.im (.sl ys m)) m (ys.map .im):=by
 refine⟨tk_notint (.inl hu),fun X ι w v H hv=> ?_⟩;simp only[VR,VRI] at hv;obtain⟨ao,cap,l,rfl,hn,hnone,hlie,hls⟩:=hv;refine⟨fun w'=>by rfl,l,VRL.ofI hls, ?_,by rw[hls.length,hl], ?_⟩
 ·intro u hu;have⟨i,hi⟩:=List.getElem?_of_mem hu;cases ao with
  |none=>simp_all
  |some a=>exact(hlie a rfl i u hi).2.2
 ·intro w' hw';cases ao with
  |none=>have:=(hnone rfl).2.2;subst this;rfl
  |some a=>exact run_firstCells_some w' k m a m cap l (by rw[hls.length,hl]) (fun j v hv=>by rw[cell?_heap hw'];exact(hlie a rfl j v hv).1)
theorem SrcA.nil{u:TypeId}{k:Nat}(hu:tk P u=1):SrcA P h u k (.im (.val (.slice none 0 0))) 0 []:=by
 refine⟨tk_notint (.inl hu),fun X ι w v H hv=> ?_⟩;rw[Y0z] at hv;subst hv;exact⟨fun w'=>by rfl,[],by rfl,by simp,by simp,fun w' _=>by rfl⟩
theorem SrcA.rsl{u:TypeId}{r ver off k m:Nat}{rt:Rt}(hu:tk P u=1)(hrt:h.at r=some rt)(hver:rt.ver=ver)(hl:rt.live=true)(hk:rt.k=k)(hfit:off+m*k≤rt.cs.length):
  SrcA P h u k (.rsl r ver off m) m ((rt.cs.drop off).take (m*k)):=by
 refine⟨tk_notint (.inl hu),fun X ι w v H hv=> ?_⟩;obtain⟨rt',hrt',_,hk',ao,c,rfl,hnc,hcase⟩:=VR.rsl_now (k:=k) hv (by simp_all);rw[hrt] at hrt';cases hrt';refine⟨fun w'=>by rfl, ?_⟩;rcases hcase with⟨b1,rfl,rfl,rfl,rfl⟩|⟨g,hg,⟨rfl,hcap⟩|⟨rfl,rfl⟩⟩
 ·exact⟨[],by simp[VRL],by simp,by simp,fun w' _=>by rfl⟩
 ·have⟨arr,h1,h2,h3,h4,h5⟩:=(H.roots r rt hrt hl).row hg;have h6:=(h4.drop off).take (m*k);have hl6:=h6.length;have hlen:(((arr.toList.take rt.cs.length).drop off).take (m*k)).length=m*k:=by
   grind
  refine⟨_,h6,fun u hu=>h5 u (List.mem_of_mem_drop (X0u hu)),hlen,fun w' hw'=> ?_⟩;refine run_firstCells_some w' k m _ m c _ hlen (fun j v hv=> ?_);rw[cell?_heap hw',Y6j,cell_of_row w g (off+j) arr rt.e (0,0) h1]
  grind
 ·refine⟨[],by simp[VRL],by simp,by simp,fun w' _=> ?_⟩;cases ao with
  |none=>rfl
  |some a=>simp[Builtin.firstCells,loadCells,loadCellsFrom]
theorem Elem.info{t e:TypeId}{k bytes:Nat}{z:List Value}(E:Elem P t e k bytes z):∃i u,P.info? e=some i∧i.size=k∧i.bytes=bytes∧i.zero=some u∧u.cells.toList=z:=by
 have h1:=E.size;have h2:=E.zc;unfold Abs.zc at h2;cases hi:P.info? e with
 |none=>simp_all
 |some i=>
  simp_all
theorem append_core{o:Oper}{s x:Operand}{t u e:TypeId}{k bytes:Nat}{z:List Value}(ho:o.op= .call ⟨.builtin .append, #[s,x], #[t,u]⟩)
  {r ver n m:Nat} {rt:Rt} {news:List AV} (E:Elem P t e k bytes z) (hrt:h.at r=some rt) (hver:rt.ver=ver) (hl:rt.live=true) (he:rt.e=e) (hk:rt.k=k) (hn:n*k≤rt.cs.length)
  (hsz:(n+m)*bytes≤140737488355328) (hmx:n+m≤140737488355328) (hud:(∃e',P.underlying u=some (.slice e'))∨P.underlying u=some .string)
  {X:Ctx} {a:Act} {w:World} {ι:Nat→Bk} {Q:Exit→Act→World→Prop} {next:Act→World→Prop} (H:Hol X h ι w) (hop:VR w h ι (Own X.B h ι) (.rsl r ver 0 n) (a.eval s))
  (hlen:∀w',(Builtin.lenOf (a.eval x)).run P w'= .ok m w') {l:List Value} (hvl:VRL w h ι (Own X.B h ι) news l) (hl1:∀u∈l,u.oneCell'=true) (hll:l.length=m*k)
  (hfc:∀w':World,w'.heap=w.heap→(Builtin.firstCells k m (a.eval x)).run P w'= .ok l.toArray w')
  (hnx:∀b' w' v,Hol X ((r,⟨ver+1,true,e,k,rt.cs.take (n*k)++news⟩)::h) (upd ι r b') w'→
   Keep w h ι (Own X.B h ι) w' ((r,⟨ver+1,true,e,k,rt.cs.take (n*k)++news⟩)::h) (upd ι r b') (Own X.B ((r,⟨ver+1,true,e,k,rt.cs.take (n*k)++news⟩)::h) (upd ι r b'))→
   VR w' ((r,⟨ver+1,true,e,k,rt.cs.take (n*k)++news⟩)::h) (upd ι r b') (Own X.B ((r,⟨ver+1,true,e,k,rt.cs.take (n*k)++news⟩)::h) (upd ι r b')) (.rsl r (ver+1) 0 (n+m)) v→next (a.put o.dst v) w'):
  o.wp P a w next Q:=by
 have⟨i,zu,hi,hisz,hiby,hiz,hzu⟩:=E.info;have⟨rt',hrt',_,_,ao,c,hsv,hnc,hcase⟩:=VR.rsl_now (k:=k) hop (by simp_all);rw[hrt] at hrt';cases hrt';have hpos:=E.pos;have hexec:∀v w',(Builtin.append_ #[t,u] o.type #[.slice ao n c,a.eval x]).run P w= .ok v w'→(execOp a.eval o).run P w= .ok (.value v) w':=by
  intro v w' hr;simp only[execOp,ho,resolve,invoke,builtin,Xa,X01,Xn,X1m,Xo,X0s,hsv,hr]
 --the elements that were there
 have hold:∃olds:List Value,VRL w h ι (Own X.B h ι) (rt.cs.take (n*k)) olds∧(∀u∈olds,u.oneCell'=true)∧olds.length=n*k∧
   ∀w':World,w'.heap=w.heap→(Builtin.firstCells k n (.slice ao n c)).run P w'= .ok olds.toArray w':=by
  have:=(SrcA.rsl (P:=P) (u:=t) (h:=h) (r:=r) (ver:=ver) (off:=0) (k:=k) (m:=n) (by have:=sle_some E.sle;simp[tk,this]) hrt hver hl hk (by omega)).2 X ι w _ H hop
  simp_all
 have⟨olds,ho1,ho2,ho3,ho4⟩:=hold;have hnl:VRL w h ι (Own X.B h ι) (rt.cs.take (n*k)++news) (olds++l):=ho1.append hvl;have hnll:(olds++l).length=(rt.cs.take (n*k)++news).length:=hnl.length;have hn1:∀u∈olds++l,u.oneCell'=true:=fun u hu=>by
  grind
 --where it grows
 have hgrow:c<n+m→o.wp P a w next Q:=by
  intro hgt;have hfit:Builtin.nextslicecap (n+m) c*i.bytes≤281474976710656:=growslice_fits hgt (by simp_all);have hr:=run_append_new (P:=P) w (ty:=o.type) (sle_some E.sle) hud hi hiz ao n c olds (by rw[hisz];exact ho4 _ rfl) (a.eval x) m l (hlen w) (by rw[hisz];exact hfc _ rfl) hgt (by omega) hfit;have hcap:grownCap w (n+m) c e≤maxLen:=grownCap_le_maxLen w _ _ _ (by simp only[maxLen];omega);have hge:=grownCap_ge w (n+m) c e;have hasz:((olds++l++(Builtin.zeroCells zu.cells (grownCap w (n+m) c e-(n+m))).toList).toArray).size=grownCap w (n+m) c e*k:=by
   have hzs:zu.cells.size=k:=by rw[←E.zlen, ←hzu];simp
   simp only[X1p,X4,ho3,hll,X1j,size_zeroCells,hzs];rw[←X0t, ←X0t]
   simp_all
  have hwd:Below w.heap.size w w.drew:=⟨rfl,rfl,rfl,Xk _,fun _ _=>rfl⟩;have hup:=H.upd r ⟨ver+1,true,e,k,rt.cs.take (n*k)++news⟩ ⟨some w.heap.size,grownCap w (n+m) c e⟩ (w.drew.alloc (.cells (olds++l++(Builtin.zeroCells zu.cells (grownCap w (n+m) c e-(n+m))).toList).toArray e))
   rfl rfl rfl (by simp) (fun β hβ _=>Below.heap_alloc w.drew _ β hβ) (fun rt2 h2=>by simp_all) (fun _ g hg=>.inl (by simp_all)) (fun _ Kp=>by
    refine .inr ⟨w.heap.size,_,rfl,heap_alloc_new w.drew _,hasz,hcap, ?_, ?_⟩
    ·have htk:((olds++l++(Builtin.zeroCells zu.cells (grownCap w (n+m) c e-(n+m))).toList).toArray).toList.take (rt.cs.take (n*k)++news).length=olds++l:=by
      grind
     rw[htk];exact VRL.keep Kp _ _ hnl
    grind)
  simp only[Oper.wp,hexec _ _ hr,Oper.upon];refine hnx _ _ _ hup.1 hup.2 (VR.newrsl (rt:=⟨ver+1,true,e,k,_⟩) ?_);exact⟨_,_,rfl,hge,.inr ⟨w.heap.size,rfl,.inl ⟨rfl,by simp⟩⟩⟩
 rcases hcase with⟨b1,rfl,rfl,rfl,_⟩|⟨g,hg,hrest⟩
 · --no block yet
  by_cases hm:m=0
  ·subst hm;have hl0:l=[]:=X08 (by omega);have hnews:news=[]:=by
    grind
   have hr:(Builtin.append_ #[t,u] o.type #[.slice none 0 0,a.eval x]).run P w= .ok (.slice none 0 0) w:=by
    have h2:=hfc w rfl;have h1:=hlen w;rw[hl0] at h2;rcases hud with⟨e',hud⟩|hud<;>simp[Builtin.append_,run_underlying (sle_some E.sle),run_underlying hud,sizeOf,typeInfo,hi,hisz,h1,h2]
   have hup:=H.upd r ⟨ver+1,true,e,k,rt.cs.take (0*k)++news⟩ ⟨none,0⟩ w rfl rfl rfl (Xk _) (fun β _ _=>rfl) (fun rt2 h2=>by simp_all) (fun _ g hg=>by simp at hg) (fun _ Kp=>.inl ⟨rfl,by grind,rfl⟩);simp only[Oper.wp,hexec _ _ hr,Oper.upon];refine hnx _ _ _ hup.1 hup.2 (VR.newrsl (rt:=⟨ver+1,true,e,k,_⟩) ?_);exact⟨_,_,rfl,Xk _,.inl ⟨rfl,rfl,rfl,rfl,rfl⟩⟩
  grind
 ·have⟨arr,c1,c2,c3,c4,c5⟩:=(H.roots r rt hrt hl).row hg
  by_cases hroom:n+m≤c
  ·rcases hrest with⟨rfl,hcap⟩|⟨rfl,rfl⟩
   ·have hce:c=(ι r).cap:=by
     have:c*k=(ι r).cap*k:=by omega
     exact Nat.eq_of_mul_eq_mul_right hpos this
    subst hce;rw[he] at c1;rw[hk] at c2;have hfit:n*k+l.length≤arr.size:=by rw[hll,c2, ←X0t];exact X16 _ hroom
    have hr:=run_append_fit (P:=P) w (ty:=o.type) (sle_some E.sle) hud hi g n (ι r).cap arr c1 (a.eval x) m l (hlen w) (by simp_all) hl1 hroom (by simp_all);rw[hisz] at hr;have holds:arr.toList.take (n*k)=olds:=by
     have h2:=ho4 w rfl;have h3:=run_firstCells_some (P:=P) w k n ⟨g,0,none⟩ n (ι r).cap (arr.toList.take (n*k)) (by grind) (fun j v hv=>by
      rw[Y6j,X05,cell_of_row w g j arr e (0,0) c1]
      grind)
     simp_all
    have htk:((Abs.putA arr.toList (n*k) l).toArray).toList.take (rt.cs.take (n*k)++news).length=olds++l:=by
     rw[←hnll];simp only[Abs.putA,holds]
     grind
    have hup:=H.upd r ⟨ver+1,true,e,k,rt.cs.take (n*k)++news⟩ (ι r) (w.setRow g (Abs.putA arr.toList (n*k) l).toArray) rfl rfl rfl (by simp)
     (fun β hβ hne=>setRow_other w g β _ (fun ee=>hne rt hrt hl (by simp_all))) (fun rt2 h2=>by simp_all) (fun _ g' hg'=>.inr ⟨rt,hrt,hl,hg'⟩) (fun _ Kp=>by
      refine .inr ⟨g,_,hg,setRow_heap w g arr _ e _ c1, ?_,c3, ?_, ?_⟩
      ·simp only[Abs.putA,X1p,X4,Xz,X0k,X1j];omega
      ·rw[htk];exact VRL.keep Kp _ _ hnl
      simp_all)
    simp only[Oper.wp,hexec _ _ hr,Oper.upon];refine hnx _ _ _ hup.1 hup.2 (VR.newrsl (rt:=⟨ver+1,true,e,k,_⟩) ?_);exact⟨_,_,rfl,hroom,.inr ⟨g,hg,.inl ⟨rfl,by simp⟩⟩⟩
   · --an empty slice without room:nothing is appended
    have hm0:m=0:=by omega
    subst hm0;have hl0:l=[]:=X08 (by omega);have hnews:news=[]:=by
     grind
    have hr:(Builtin.append_ #[t,u] o.type #[.slice ao 0 0,a.eval x]).run P w= .ok (.slice ao 0 0) w:=by
     have h2:=hfc w rfl;have h1:=hlen w;rw[hl0] at h2;rcases hud with⟨e',hud⟩|hud<;>cases ao<;>simp[Builtin.append_,run_underlying (sle_some E.sle),run_underlying hud,sizeOf,typeInfo,hi,hisz,h1,h2,storeCells]
    have hup:=H.upd r ⟨ver+1,true,e,k,rt.cs.take (0*k)++news⟩ (ι r) w rfl rfl rfl (Xk _)
     (fun β _ _=>rfl) (fun rt2 h2=>by simp_all) (fun _ g' hg'=>.inr ⟨rt,hrt,hl,hg'⟩) (fun _ Kp=>by
      refine .inr ⟨g,arr,hg,by rw[c1,he],by rw[c2,hk],c3, ?_, ?_⟩
      ·simp[hnews,VRL]
      simp_all)
    simp only[Oper.wp,hexec _ _ hr,Oper.upon];refine hnx _ _ _ hup.1 hup.2 (VR.newrsl (rt:=⟨ver+1,true,e,k,_⟩) ?_);exact⟨_,_,rfl,Xk _,.inr ⟨g,hg,.inr ⟨rfl,rfl⟩⟩⟩
  simp_all
end
section
variable {P:Program} {N:Nat} {ops:Array Oper} {env:Env} {h:Hp} {Q:Exit→Env→Hp→Prop}
def szt (P:Program) (t:TypeId):Option Nat:=(P.info? t).map (·.size)
end
section
variable {P:Program} {N:Nat} {ops:Array Oper} {env:Env} {h:Hp}
def pw (P:Program) (N:Nat) (ops:Array Oper) (h:Hp):List Oper→Env→(Env→Prop)→Prop
 |[],env,K=>K env
 |o::l,env,K=>o.dst.all (· <N)=true∧gpo ops env o (po P h (rdo env) o.op)∧pw P N ops h l (setd env o.dst (gav ops env o (pv P h (rdo env) o.op))) K
variable {Q:Exit→Env→Hp→Prop}
theorem Hol.own_lt{X:Ctx}{ι:Nat→Bk}{w:World}(H:Hol X h ι w){β:Nat}(hb:Own X.B h ι β):β<w.heap.size:=by
 rcases hb with hb|⟨r,rt,hr,hl,hg⟩
 ·exact X1e (H.old β hb).1 H.size
 ·have⟨arr,h1,_⟩:=(H.roots r rt hr hl).row hg
  grind
theorem Quiet.buildI{o:Oper}{t e:TypeId}{len k bytes:Nat}{z:List Value}{ps:List (Nat×Operand)}{ys:List IV}(ho:o.op= .buildSlice t len ps.toArray)(E:Elem P t e k bytes z)(hlen:len*k≤16777216)
  (hg:gpo ops env o ((∀p∈ps,gd (rdo env p.2))∧(∀p∈ps,okC h (st (rdo env p.2)))∧Y7a h (fun i=>some (i*k,k)) (zerosA z len) (ps.map fun p=>(p.1,st (rdo env p.2)))=some (ys.map .im)∧(∀x∈ys.map AV.im,oneA h x)∧ys.length=len*k)):
  Quiet P ops o env h (gav ops env o (.im (.sl ys len))):=
 Y4a hg fun⟨hgd,hok,hf,hone,hcl⟩ X a w ι Q H hop next hn=>by
  have⟨u,hu,hcu⟩:=zc_some (w:=w) E.zc;have⟨i,zu,hi,hisz,hiby,hiz,hzu⟩:=E.info;have husz:u.cells.size=k:=by rw[←E.zlen, ←hcu];simp
  have hvp:=VRP.mk (h:=h) (w:=w) (ι:=ι) (A:=Own X.B h ι) (η:=a.eval) ps hgd (fun p hp=>hop p.2 (by rw[ho];simp only[Op.operands];grind));have hz0:VRL w h ι (Own X.B h ι) (zerosA z len) ((Array.range (len*k)).map (u.cells[· %u.cells.size]!)).toList:=by
   rw[zeros_eq u.cells k len husz E.pos,hcu];exact VRL.vals _
  have⟨arr,h1,h2⟩:=fill_sound (arr:=(Array.range (len*k)).map (u.cells[· %u.cells.size]!)) hf hvp (fun p hp=>by
   grind) hz0
  have hal:arr.size=len*k:=by rw[←hcl];simpa using h2.length
  have hbig:¬(len*k>2^24):=by omega
  have hrun:(execOp a.eval o).run P w= .ok (.value (.slice (some ⟨w.heap.size,0,none⟩) len len)) (w.alloc (.cells arr e)):=by
   simp only[execOp,ho,Instr.buildSlice,Xa,run_underlying (sle_some E.sle),sizeOf,typeInfo,program,Sem.run,hi,Xn,X01,hisz]
   by_cases h0:len*k=0
   ·have hl0:len=0:=by
     rcases Nat.mul_eq_zero.1 h0 with h|h
     ·exact h
     ·have:=E.pos;omega
    subst hl0;have e0:Array.range 0= #[]:=rfl;simp only[X0q,e0,X1m,X0s] at h1;simp[e0,h1,newRow,Xa]
   ·simp[h0,hbig,hu,h1,newRow,Xa]
  simp only[Oper.wp,hrun,Oper.upon];have hb:Below w.heap.size w (w.alloc (.cells arr e)):=(Below.refl _ _).alloc (Xk _) _;refine hn _ _ hb ?_;simp only[VR,VRI];have hI:=VRL.toI (VRL.keep (Keep.below hb) _ _ h2);refine⟨some ⟨w.heap.size,0,none⟩,len,arr.toList,rfl,Xk _,by simp,fun a' ha'=> ?_,hI⟩;simp at ha';subst ha';intro j v hv;refine⟨?_,fun ho=>by have:=H.own_lt ho;grind,Y7q hone h2 v (X0c hv)⟩;rw[Y6j,X05,cell_of_row _ w.heap.size j arr e (0,0) (heap_alloc_new w _)]
  simp_all
end
open Go.RowKit Go.Deep
inductive Shp (P:Program):TypeId→List IV→Prop
 |int {t:TypeId} {k:IntKind} {n:Int} (ht:P.underlying t=some (.int k)) (hn:(Lit.int k n).wf=true):Shp P t [.val (.int k n)]
 |bool {t:TypeId} {b:Bool} (ht:P.underlying t=some .bool):Shp P t [.val (.bool b)]
 |str {t:TypeId} {s:ByteArray} (ht:P.underlying t=some .string) (hs:s.size≤maxLen):Shp P t [.val (.string s)]
 |sl {t e:TypeId} (xss:List (List IV)) (ht:P.underlying t=some (.slice e)) (hx:∀xs∈xss,Shp P e xs) (hn:xss.length≤maxLen):Shp P t [.sl xss.flatten xss.length]
 |arr {t e:TypeId} {n:Nat} (xss:List (List IV)) (ht:P.underlying t=some (.array n e)) (hx:∀xs∈xss,Shp P e xs) (hn:xss.length=n):Shp P t xss.flatten
 |st {t:TypeId} {fs:Array Field} (xss:List (List IV)) (ht:P.underlying t=some (.struct fs)) (hn:xss.length=fs.size) (hx:∀(i:Nat) (f:Field) (xs:List IV),fs[i]? =some f→xss[i]? =some xs→Shp P f.type xs):Shp P t xss.flatten
def seqFields (P:Program):Nat→List Field→Bool
 |_,[]=>true
 |o,f::fs=>f.offset==o&&seqFields P (o+P.cellsOf f.type) fs
def plainT (P:Program):Nat→TypeId→Bool
 |0,_=>false
 |n+1,t=>match P.underlying t with
  |some (.int _)=>P.cellsOf t==1
  |some .bool=>P.cellsOf t==1
  |some .string=>P.cellsOf t==1
  |some (.slice e)=>P.cellsOf t==1&&decide (0<P.cellsOf e)&&plainT P n e
  |some (.array k e)=>P.cellsOf t==k*P.cellsOf e&&plainT P n e
  |some (.struct fs)=>P.cellsOf t==(fs.toList.map fun f=>P.cellsOf f.type).sum&&seqFields P 0 fs.toList&&fs.toList.all fun f=>plainT P n f.type
  |_=>false
theorem VRIL.append{w:World}{A:Nat→Prop}:∀{cs ds:List IV} {l m:List Value},VRIL w A cs l→VRIL w A ds m→VRIL w A (cs++ds) (l++m)
 |[],ds,l,m,hv,hm=>by simp only[VRIL] at hv;simp_all
 |c::cs,ds,l,m,hv,hm=>by
  simp only[VRIL] at hv;obtain⟨v,l',rfl,hv,hr⟩:=hv;simp only[Xv,VRIL];exact⟨v,l'++m,rfl,hv,VRIL.append hr hm⟩
theorem VRIL.flat{w:World}{A:Nat→Prop}{α:Type}(f:α→List IV)(g:α→List Value):∀(l:List α),(∀a∈l,VRIL w A (f a) (g a))→VRIL w A (l.flatMap f) (l.flatMap g)
 |[],_=>by rfl
 |a::l,h=>by
  simp only[Xr];exact VRIL.append (h a (by simp)) (VRIL.flat f g l fun b hb=>h b (by simp[hb]))
theorem fm_get{α β:Type}(f:α→List β)(k:Nat):∀(l:List α),(∀a∈l,(f a).length=k)→∀(i j:Nat),j<k→(l.flatMap f)[i*k+j]? =(l[i]?).bind fun a=>(f a)[j]?
 |[],_,i,j,_=>by simp
 |a::l,hf,i,j,hj=>by
  cases i with
  |zero=>
   simp only[Xr,X0q,X05,X18,X1];rw[X0h (by simp_all)]
  |succ i=>
   simp only[Xr,X19];rw[X09 (by grind)];rw[←fm_get f k l (fun b hb=>hf b (by simp[hb])) i j hj]
   grind
theorem fm_len{α β:Type}(f:α→List β)(k:Nat)(l:List α)(hf:∀a∈l,(f a).length=k):(l.flatMap f).length=l.length*k:=by
 induction l with
 |nil=>simp
 |cons a l ih=>grind
theorem chunks{α:Type}(c:Nat):∀(k:Nat) (cs:List α),cs.length=k*c→(List.range k).flatMap (fun i=>(cs.drop (i*c)).take c)=cs
 |0,cs,h=>by simp_all
 |k+1,cs,h=>by
  rw[List.range_succ,List.flatMap_append];have h1:(List.range k).flatMap (fun i=>(cs.drop (i*c)).take c)=(List.range k).flatMap (fun i=>((cs.take (k*c)).drop (i*c)).take c):=by
   have e:∀i∈List.range k,(cs.drop (i*c)).take c=((cs.take (k*c)).drop (i*c)).take c:=by
    intro i hi;have hi:i<k:=Xy.1 hi;rw[List.drop_take,X10];congr 1;have:(i+1)*c≤k*c:=X16 c hi
    grind
   unfold List.flatMap;rw[X0e e]
  rw[h1,chunks c k (cs.take (k*c)) (by simp_all)];simp only[Xr,List.flatMap_nil,X0l];have h2:(cs.drop (k*c)).take c=cs.drop (k*c):=Xu (by grind)
  simp_all
theorem seq_chunks{α:Type}(P:Program):∀(fs:List Field) (o:Nat) (cs:List α),seqFields P o fs=true→cs.length=o+(fs.map fun f=>P.cellsOf f.type).sum→
  fs.flatMap (fun f=>(cs.drop f.offset).take (P.cellsOf f.type))=cs.drop o
 |[],o,cs,_,hl=>by simp_all
 |f::fs,o,cs,hs,hl=>by
  simp only[seqFields,X2,beq_iff_eq] at hs;simp only[Xo,List.sum_cons] at hl;simp only[Xr];rw[seq_chunks P fs (o+P.cellsOf f.type) cs hs.2 (by omega),hs.1, ←X1u];exact X0i _ _
theorem flatMap_range{α β:Type}(l:List α)(f:α→List β):l.flatMap f=(List.range l.length).flatMap fun i=>((l[i]?).map f).getD []:=by
 induction l with
 |nil=>simp
 |cons a l ih=>
  rw[X7,List.range_succ_eq_map];simp only[Xr,X18,X0b,X0p,List.flatMap_map,X19];rw[ih]
section
variable {H:Type} {enc:TypeId×Value→H} {P:Program} {w:World} {base:Nat} {spare:Nat→Bool} {held:Bool}
theorem read_plain:∀(n:Nat) (t:TypeId) (fuel:Nat) (cs:List Value) (x:DataW H×List MemPlace),plainT P n t=true→DataW.trod enc P w base spare held fuel t cs=some x→
  ∃xs:List IV,Shp P t xs∧VRIL w (fun _=>False) xs cs∧(∀v∈cs,v.oneCell'=true)∧cs.length=P.cellsOf t:=by
 intro n
 induction n with
 |zero=>intro t fuel cs x hp;simp[plainT] at hp
 |succ n ih=>
  intro t fuel cs x hp hx;unfold plainT at hp
  split at hp
  ·rename_i k hu;obtain⟨m,rfl,_,hwf⟩:=DataW.trod_int hu hx;exact⟨[.val (.int k m)],.int hu hwf,by simp[VRIL,VRI],by simp[Value.oneCell'],by simp_all⟩
  ·rename_i hu;obtain⟨b,rfl,_⟩:=DataW.trod_bool hu hx;exact⟨[.val (.bool b)],.bool hu,by simp[VRIL,VRI],by simp[Value.oneCell'],by simp_all⟩
  ·rename_i hu;obtain⟨s,rfl,_,hs⟩:=DataW.trod_string hu hx;exact⟨[.val (.string s)],.str hu hs,by simp[VRIL,VRI],by simp[Value.oneCell'],by simp_all⟩
  ·rename_i e hu;simp only[X2,beq_iff_eq,decide_eq_true_eq] at hp;have⟨⟨hp1,hp2⟩,hp3⟩:=hp;rcases open_slice hu hx with⟨rfl,_⟩|⟨a,len,cap,m,n',D,Pl,rfl,_,hl,hm,hmm,_,hi⟩
   ·refine⟨[.sl [] 0],.sl [] hu (by simp) (by simp), ?_,by simp[Value.oneCell'],by simp[hp1]⟩;simp only[VRIL,VRI]
    grind
   ·have hlm:len≤m:=by rw[hmm];split<;>omega
    have key:∀i,i<len→∃(q:List Value×List IV),w.cells? base (a.add (i*P.cellsOf e)) (P.cellsOf e)=some q.1∧Shp P e q.2∧VRIL w (fun _=>False) q.2 q.1∧(∀v∈q.1,v.oneCell'=true)∧q.1.length=P.cellsOf e:=by
     intro i hil;have⟨cs',h1,h2⟩:=hi i (by omega);have⟨xs,h3,h4,h5,h6⟩:=ih e n' cs' _ hp3 h2;exact⟨(cs',xs),h1,h3,h4,h5,h6⟩
    have⟨q,hq⟩:=choose_lt (α:=List Value×List IV) key;refine⟨[.sl (((List.range len).map fun i=>(q i).2).flatten) (((List.range len).map fun i=>(q i).2).length)],.sl _ hu ?_ (by grind), ?_,by simp[Value.oneCell'],by simp[hp1]⟩
    ·simp_all
    ·simp only[VRIL,VRI];refine⟨_,_,rfl,⟨some a,cap,(List.range len).flatMap (fun i=>(q i).1),by simp,by simp_all,by simp, ?_, ?_⟩,rfl⟩
     ·intro a' ha';simp at ha';subst ha';intro j u hu';have hlen:((List.range len).flatMap fun i=>(q i).1).length=len*P.cellsOf e:=by
       rw[fm_len (fun i=>(q i).1) (P.cellsOf e) (List.range len) (fun i hi=>(hq i (Xy.1 hi)).2.2.2.2)];simp
      have hj:j<len*P.cellsOf e:=by grind
      have hdm:=Nat.div_add_mod j (P.cellsOf e);have hml:=Nat.mod_lt j hp2;have hdl:j/P.cellsOf e<len:=Nat.div_lt_of_lt_mul (by grind);have hj2:j=j/P.cellsOf e*P.cellsOf e+j%P.cellsOf e:=by grind
      rw[hj2,fm_get (fun i=>(q i).1) (P.cellsOf e) (List.range len) (fun i hi=>(hq i (Xy.1 hi)).2.2.2.2) _ _ hml] at hu';rw[List.getElem?_range hdl] at hu';simp only[X1] at hu';have⟨h1,_,_,h5,h6⟩:=hq _ hdl;have⟨_,_,hcell⟩:=World.cells?_some h1;have:=hcell (j%P.cellsOf e) hml;rw[add_add, ←hj2] at this
      grind
     ·rw[←List.flatMap_def];exact VRIL.flat _ _ _ fun i hi=>(hq i (Xy.1 hi)).2.2.1
  ·rename_i k e hu;simp only[X2,beq_iff_eq] at hp;have⟨xs,m,_,_,hlen,_,hi⟩:=DataW.trod_array hu hx;rw[hp.1] at hlen;have key:∀i,i<k→∃ys:List IV,Shp P e ys∧VRIL w (fun _=>False) ys ((cs.drop (i*P.cellsOf e)).take (P.cellsOf e))∧∀v∈(cs.drop (i*P.cellsOf e)).take (P.cellsOf e),v.oneCell'=true:=by
    grind
   have⟨q,hq⟩:=choose_lt (α:=List IV) key;have hch:=chunks (P.cellsOf e) k cs hlen;refine⟨((List.range k).map q).flatten,.arr _ hu ?_ (by simp), ?_, ?_,by rw[hlen,hp.1]⟩
   ·simp_all
   ·rw[←List.flatMap_def];have:=VRIL.flat q (fun i=>(cs.drop (i*P.cellsOf e)).take (P.cellsOf e)) (List.range k) (w:=w) (A:=fun _=>False) fun i hi=>(hq i (Xy.1 hi)).2.1;rwa[hch] at this
   grind
  ·rename_i fs hu;simp only[X2,beq_iff_eq] at hp;have⟨⟨hp1,hp2⟩,hp3⟩:=hp;have⟨xs,m,_,_,hlen,hxl,hi⟩:=DataW.trod_struct hu hx;rw[hp1] at hlen;have key:∀i,i<fs.size→∃ys:List IV,∀f,fs[i]? =some f→Shp P f.type ys∧VRIL w (fun _=>False) ys ((cs.drop f.offset).take (P.cellsOf f.type))∧∀v∈(cs.drop f.offset).take (P.cellsOf f.type),v.oneCell'=true:=by
    intro i hik;have hf:fs[i]? =some fs[i]:=X0m hik;have h1:=hi i _ hf;have hxi:xs[i]? =some (xs[i]'(by omega)):=X5 (by omega);rw[hxi] at h1;have⟨ys,h3,h4,h5,_⟩:=ih fs[i].type m _ _ (Xg.1 hp3 _ (by simp)) h1;exact⟨ys,fun f hf'=>by simp_all⟩
   have⟨q,hq⟩:=choose_lt (α:=List IV) key;have hch:=seq_chunks P fs.toList 0 cs hp2 (by omega);simp only[X1b] at hch;refine⟨((List.range fs.size).map q).flatten,.st _ hu (by simp) ?_, ?_, ?_,by rw[hlen,hp1]⟩
   ·grind
   ·rw[←List.flatMap_def];rw[flatMap_range] at hch;have:=VRIL.flat q (fun i=>((fs.toList[i]?).map (fun f=>(cs.drop f.offset).take (P.cellsOf f.type))).getD []) (List.range fs.size) (w:=w) (A:=fun _=>False) (fun i hi=>by
     simp_all)
    have hch':(List.range fs.size).flatMap (fun i=>((fs.toList[i]?).map (fun f=>(cs.drop f.offset).take (P.cellsOf f.type))).getD [])=cs:=by
     simp_all
    rwa[hch'] at this
   ·intro v hv;rw[←hch] at hv;have⟨f,hf,hv⟩:=List.mem_flatMap.1 hv;have⟨i,hif⟩:=List.getElem?_of_mem hf
    grind
  ·cases hp
end
def argA (P:Program) (t:TypeId) (xs:List IV):AV:=match lz P t with
 |some (some _)=>.agg (xs.map .im)
 |_=>(match xs with|[x]=>.im x|_=>.any)
theorem Hol.empty(w:World)(hg:GlobOK w (fun _=>False))(ι:Nat→Bk):Hol ⟨w,fun _=>False,Own (fun _=>False) [] ι,pinOf [] ι⟩ [] ι w where
 pin r b k hp:=by simp[pinOf,Hp.at] at hp
 roots r rt hr:=by simp[Hp.at] at hr
 inj r r' rt rt' g hr:=by simp[Hp.at] at hr
 place r rt g hr:=by simp[Hp.at] at hr
 os:=rfl
 tape:=rfl
 output:=rfl
 size:=Xk _
 frame _ _ _:=rfl
 old β hb:=hb.elim
 glob:=hg.keep fun β _ hn=>⟨rfl,fun ho=>by
  rcases ho with ho|ho|⟨r,rt,hr,_⟩
  ·exact ho
  ·exact ho
  ·simp[Hp.at] at hr⟩
theorem QSpec.calls{P:Program}{f:FuncId}{args:List AV}{u:Value}{w:World}{vs:List Value}(hs:QSpec P f args (.im (.val u)))(hg:GlobOK w (fun _=>False))(hv:VRL w [] (fun _=>⟨none,0⟩) (fun _=>False) args vs):
  Calls P f vs.toArray w fun e w'=>e= .returned u∧Below w.heap.size w w':=by
 have hO:Own (fun _=>False) [] (fun _=>(⟨none,0⟩:Bk))=fun _=>False:=by funext β;simp[Own,Hp.at]
 refine(hs w (fun _=>⟨none,0⟩) (fun _=>False) vs (Hol.empty w hg _) (by simp_all)).mono ?_;rintro e w' ⟨v,r,h',ι',rfl,rfl,H',hvr⟩;rw[Y0z] at hvr;subst hvr;exact⟨rfl,H'.after⟩
open Go.RowKit Go.Deep Go.ChangeShapes Go.WideShapes
section
variable {H:Type} {enc:TypeId×Value→H} {P:Program}
theorem trodAll_below(hl:laidOutB P=true){W W':World}(hb:Below W.heap.size W W'):∀(ts:List TypeId) (vs:List Value) (ds:List (DataW H)) (ps:List MemPlace),(ts.all fun t=>P.readableRec t&&decide (t<P.types.size))=true→
  DataW.TrodAll enc P W 0 (fun _=>true) true ts vs ds ps→DataW.TrodAll enc P W' 0 (fun b=>decide (b<W.heap.size)) true ts vs ds ps
 |[],vs,ds,ps,_,h=>by
  obtain⟨rfl,rfl,rfl⟩:=trodAll_nil h
  rfl
 |t::ts,vs,ds,ps,ht,h=>by
  obtain⟨v,vs',d,ds',p,q,rfl,rfl,rfl,h1,h2⟩:=trodAll_cons h;simp only[X1a,X2,decide_eq_true_eq] at ht;have k1:=h1;have lt0:∀x∈p,x.block<W.heap.size:=by have⟨m,hm⟩:=k1;exact DataW.trod_lt m _ _ _ hm
  exact trodAll_cons_mk (Below.trod hl ht.1.1 ht.1.2 h1 hb lt0) (trodAll_below hl hb ts vs' ds' q (by simp_all) h2)
def ShpL (P:Program):List TypeId→List (List IV)→Prop
 |[],[]=>True
 |t::ts,x::xs=>Shp P t x∧ShpL P ts xs
 |_,_=>False
def argsA (P:Program):List TypeId→List (List IV)→List AV
 |t::ts,x::xs=>argA P t x::argsA P ts xs
 |_,_=>[]
theorem Shp.one{t:TypeId}{xs:List IV}(hs:Shp P t xs)(hz:lz P t=some none):∃x,xs=[x]:=by
 cases hs with
 |int=>simp_all
 |bool=>simp_all
 |str=>simp_all
 |sl=>simp_all
 |arr xss ht=>simp[lz,ht] at hz
 |st xss ht=>simp[lz,ht] at hz
theorem args_read{W:World}:∀(ts:List TypeId) (vs:List Value) (ds:List (DataW H)) (ps:List MemPlace),(ts.all fun t=>plainT P 12 t&&(lz P t).isSome)=true→
  (∀(j:Nat) (t:TypeId) (v:Value),ts[j]? =some t→vs[j]? =some v→Value.okWide P W .any 0 t v)→
  DataW.TrodAll enc P W 0 (fun _=>true) true ts vs ds ps→∃xss,ShpL P ts xss∧VRL W [] (fun _=>⟨none,0⟩) (fun _=>False) (argsA P ts xss) vs
 |[],vs,ds,ps,_,_,h=>by
  obtain⟨rfl,rfl,rfl⟩:=trodAll_nil h;exact⟨[],by simp[ShpL],by rfl⟩
 |t::ts,vs,ds,ps,ht,hok,h=>by
  obtain⟨v,vs',d,ds',p,q,rfl,rfl,rfl,h1,h2⟩:=trodAll_cons h;simp only[X1a,X2] at ht;have⟨xss,h3,h4⟩:=args_read ts vs' ds' q (by simp_all) (fun j t' v' hj hv=>hok (j+1) t' v' (by simp_all) (by simp_all)) h2;have⟨fuel,hf⟩:=h1;have⟨xs,h5,h6,h7,h8⟩:=read_plain 12 t fuel v.cells.toList _ ht.1.1 hf;refine⟨xs::xss,⟨h5,h3⟩, ?_⟩;simp only[argsA,VRL];refine⟨v,vs',rfl, ?_,h4⟩;have hv:=hok 0 t v (by simp) (by simp);unfold argA;cases hz:lz P t with
  |none=>simp_all
  |some o=>
   cases o with
   |none=>
    obtain⟨x,rfl⟩:=h5.one hz;simp only[VRIL] at h6;obtain⟨u,l',hl,hu,rfl⟩:=h6;have hvu:v=u:=by
     cases v<;>simp_all[Value.cells,Value.oneCell'];rename_i cs;have:u∈cs.toList:=by grind
     unfold Value.okWide at hv;unfold lz at hz;cases hd:P.underlying t with
     |none=>simp_all
     |some dd=>
      rw[hd] at hv hz;cases dd<;>simp_all[Cell.okWide,Cell.ok]
    subst hvu;simp only[VR];exact hu
   |some n=>
    have:∃cs,v= .agg cs:=by
     unfold lz at hz;unfold Value.okWide at hv
     grind
    obtain⟨cs,rfl⟩:=this;simp only[VR];exact⟨cs.toList,by simp,VRL.ofI (by simpa [Value.cells] using h6)⟩
theorem Shp.int_inv{t:TypeId}{k:IntKind}{xs:List IV}(hs:Shp P t xs)(ht:P.underlying t=some (.int k)):∃n,xs=[.val (.int k n)]∧(Lit.int k n).wf=true:=by
 cases hs with
 |int h1 h2=>simp_all
 |bool h1=>simp_all
 |str h1=>simp_all
 |sl _ h1=>simp_all
 |arr _ h1=>simp_all
 |st _ h1=>simp_all
theorem Shp.sl_inv{t e:TypeId}{xs:List IV}(hs:Shp P t xs)(ht:P.underlying t=some (.slice e)):∃xss:List (List IV),xs=[.sl xss.flatten xss.length]∧(∀ys∈xss,Shp P e ys)∧xss.length≤maxLen:=by
 cases hs with
 |int h1 h2=>simp_all
 |bool h1=>simp_all
 |str h1 h2=>simp_all
 |sl xss h1 h2 h3=>grind
 |arr _ h1=>simp_all
 |st _ h1=>simp_all
theorem Shp.arr_inv{t e:TypeId}{n:Nat}{xs:List IV}(hs:Shp P t xs)(ht:P.underlying t=some (.array n e)):∃xss:List (List IV),xs=xss.flatten∧(∀ys∈xss,Shp P e ys)∧xss.length=n:=by
 cases hs with
 |int h1 h2=>simp_all
 |bool h1=>simp_all
 |str h1 h2=>simp_all
 |sl _ h1=>simp_all
 |arr xss h1 h2 h3=>grind
 |st _ h1=>simp_all
end
end Go.Abs
