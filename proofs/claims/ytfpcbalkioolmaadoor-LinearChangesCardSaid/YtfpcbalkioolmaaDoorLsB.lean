/- Own work. -/
import Derived.Test.YtfpcbalkioolmaaDoorLsA
set_option linter.unusedSimpArgs false
set_option linter.unusedVariables false
namespace Go.Proofs.YtfpcbalkioolmaaDoor
open Go.Abs
section
variable {t:List Int} {q:Qs} {g:Qf} {x:Tr} {u:Cu}
theorem sep_lo{o:Int}(h:o≠12∧o≠13)(N:Int)(i:Nat):sepC ⟨o,N⟩ i=if i=0 then[] else[12]:=by
 unfold sepC
 by_cases h0:i=0
 ·rw[if_pos h0,if_pos h0]
 ·rw[if_neg h0,if_neg h0,if_neg (by simp only;omega),if_neg (by simp only;omega)]
theorem sep_lo_nf(ho:g.op≠12∧g.op≠13)(N:Int)(i:Nat):sepC ⟨g.op,N⟩ i=sepC (nf g) i:=by rw[nf,sep_lo ho,sep_lo ho]
theorem FolI.brk(R:FolI t q g x)(hb:q.base≠2)(ho:g.op=6∧g.ops.length=1∨g.op=9∨g.op=10∨g.op=11):(Y2c q.f.op 0 1 (qOpd (qU (xpc t [clB q.f.op] q.c) q))).c.wr=true∨∃g' x',FolI t (Y2c q.f.op 0 1 (qOpd (qU (xpc t [clB q.f.op] q.c) q))) g' x':=by
 have⟨x',hx,h2,h3,h4⟩:=R.join hb;have⟨g',F',e,hg,ok,fi⟩:=FI.outer R.fi (by omega);have ll:lvF (g::q.F)=lvF q.F:=by rw[lvF,Vn]
 have f4:q.f.op=g.op:=by rw[R.f];rfl
 rw[f4,clB_close (by omega)]
 by_cases hw:(xpc t [Y1k g.op] q.c).wr=true
 ·left;rw[close_c];exact hw
 ·refine .inr ?_;have X:=(R.txt hb).xpc (s:=[Y1k g.op]) (by simpa using hw);rw[h3] at X;have hl:g.ops.length=(if g.op=6 then 1 else 0):=by
   rcases ho with ho|ho
   ·rw[if_pos ho.1];exact ho.2
   ·rw[Vn];have:g.ops=[]:=by
     rcases ok with h|h|h|h|h
     ·exact h.2
     ·omega
     ·omega
     ·exact h.2
     ·omega
    rw[this];rfl
  refine R.close (op:=g.op) hb (by omega) (x':=x') hx (n:=0) (b:=1) (q1:=qU (xpc t [Y1k g.op] q.c) q) rfl rfl rfl rfl rfl (by show q.lv=_;rw[R.lv,ll]) R.dn ?_ ?_ (by omega) (.inr (.inl ⟨rfl, ?_⟩))
  ·have:txF q.F++(Tr.node ⟨g.op,0⟩ (g.ops++[x'])).cells (lvF q.F)=txF q.F++fh (lvF q.F) g++x'.cells q.lv++[Y1k g.op]:=by
    rw[big_cells (by simp only;omega),fh_open (by omega),cellsL_snoc,cellsL_congr (lvF q.F) _ (nf g) g.ops 0 (fun j _ hj=>sep_lo_nf (by omega) 0 j),sep_lo_nf (by omega),R.lv,ll];simp
   rw[this];exact X
  ·refine Gd.node ?_ (fun k hk=> ?_) (fun i k hk=>adm_any (by simp only;omega) (by simp only;omega))
   ·rw[X5,Xk,hl,ar,if_neg (by simp only;omega),if_neg (by simp only;omega)]
    by_cases h6:g.op=6
    ·rw[if_pos (by simp only;omega),if_pos rfl,if_pos h6]
    ·rw[if_neg (by simp only;omega),if_pos (by simp only;omega),if_pos rfl,if_neg h6]
   ·rw[Xs,Xh] at hk;rcases hk with hk|rfl
    ·exact hg k hk
    ·exact h2
  ·show Y5v g.op=true;unfold Y5v;exact decide_eq_true (by omega)
theorem FolI.frac(R:FolI t q g x)(hb:q.base≠2)(ho:g.op=6)(hops:g.ops=[]):(qOpd (qU (xpc t [12] q.c) q)).c.wr=true∨BegI t (qOpd (qU (xpc t [12] q.c) q)):=by
 have⟨x',hx,h2,h3,h4⟩:=R.join hb;have f4:q.f.op=g.op:=by rw[R.f];rfl
 have f5:q.f.ops=g.ops:=by rw[R.f];rfl
 by_cases hw:(xpc t [12] q.c).wr=true
 ·exact .inl hw
 ·refine .inr ?_;have X:=(R.txt hb).xpc (s:=[12]) (by simpa using hw);refine R.opd (x':=x') hb (.inl ho) h2 h3 (q1:=qOpd (qU (xpc t [12] q.c) q)) (c:=12) rfl rfl rfl rfl R.dn f4 ?_ rfl rfl ?_ ?_ ?_ X
  ·show q.f.ops++[qOpI _]=_;rw[f5,qOpI_of (by exact hx)]
  ·intro j hj;show sepC ⟨q.f.op,_⟩ j=_;rw[f4];exact sep_lo_nf (by omega) _ j
  ·show sepC ⟨q.f.op,_⟩ _=_;rw[f4,sep_lo (by omega),Vn]
  ·refine .inr (.inl ⟨f4.trans ho, ?_⟩);show(q.f.ops++[qOpI _]).length≤1;rw[f5,hops];simp
theorem FolI.sign(R:FolI t q g x)(hb:q.base≠2){op:Int}(ho:2≤op∧op≤5)(tk:Tk t u (txF (g::q.F)++x.cells q.lv++signC op)):BegI t (qSign op (qU u q)):=by
 have⟨x',ts',ss',a1,a2,a3,a4,a5,a6,a7,a8⟩:=join_si (Y3f op) q.lv g.ss g.ts x (FI.st R.fi) R.gd (R.hd hb);have h4:pr (opn x)=4:=by
  rcases R.b with h|h|h
  ·exact pr_four (by omega)
  ·exact pr_four (simple_rng h.2)
  ·exact absurd h.1 hb
 have hp:Y3f op≤pr (opn x'):=a6 (by rw[h4,lprec_pr ho];exact(pr_rng _).2);have ef:(qSign op (qU u q)).f={g with ts:=x'::ts',ss:=op::ss'}:=by
  show({(qJoin (Y3f op) (qU u q)).f with ss:=op::(qJoin (Y3f op) (qU u q)).f.ss}:Qf)=_;have e1:(qJoin (Y3f op) (qU u q)).f={q.f with ts:=(qJ (Y3f op) q.f.ss q.f.ts).1,ss:=(qJ (Y3f op) q.f.ss q.f.ts).2}:=rfl;have e2:qJ (Y3f op) q.f.ss q.f.ts=(x'::ts',ss'):=by rw[R.f];exact a1
  rw[e1,e2,R.f];rfl
 refine⟨?_, ?_, ?_,R.dn⟩
 ·rw[ef];show Tk t u (txF ({g with ts:=x'::ts',ss:=op::ss'}::q.F));have:txF ({g with ts:=x'::ts',ss:=op::ss'}::q.F)=txF (g::q.F)++x.cells q.lv++signC op:=by
   rw[txF,txF,sB,lvF_eq (f:=g) (f':={g with ts:=x'::ts',ss:=op::ss'}) q.F rfl, ←R.lv,a7];show txF q.F++fh (lvF q.F) g++_=_;simp
  rw[this];exact tk
 ·rw[ef];exact R.lv.trans (lvF_eq q.F rfl)
 ·rw[ef];show FI ({g with ts:=x'::ts',ss:=op::ss'}::q.F);have st:StI (x'::ts') (op::ss'):=⟨a3,ho,hp,a4,a5,a2⟩;have fi:=R.fi;cases hF:q.F with
  |nil=>rw[hF] at fi;exact⟨st,fi.2⟩
  |cons g' F'=>rw[hF] at fi;exact⟨st,fi.2⟩
theorem sgB_snd(R:FolI t q g x)(hb:q.base≠0)(tk:Tk t u (txF (g::q.F)++grp q.lv x++16::q.lv)):(qSgB t (qU u q)).2.c.wr=true∨St t (qSgB t (qU u q)).1 (qSgB t (qU u q)).2:=by
 have ex:∀op c:Int,(op=7∨op=8)→c=expC op→hit t c u=true→BegI t (qExp op c (qU u q)):=fun op c ho hc hh=>by
  have ef:(qExp op c (qU u q)).f=fr0 op [x]:=by
   show fr0 op [q.f.ts.headD noTr]=_;rw[R.f];rfl
  have eF:(qExp op c (qU u q)).F=g::q.F:=by
   show {q.f with ts:=q.f.ts.tail}::q.F=_;rw[R.f];rfl
  refine⟨?_, ?_, ?_,R.dn⟩
  ·rw[ef,eF];show Tk t u.adv _;have:txF (fr0 op [x]::g::q.F)=txF (g::q.F)++grp q.lv x++16::q.lv++[c]:=by
    rw[txF];show _++sB _ [] []=_;rw[sB_nil,R.lv,hc];unfold fh;rw[if_neg (by show ¬op= -1;omega),if_neg (by show ¬op= -2;omega),if_pos (by exact ho)]
    simp[fr0]
   rw[this];exact tk.hit hh
  ·rw[ef,eF];show q.lv++[c]=_;rw[lvF,if_pos (by exact ho),hc,R.lv];rfl
  ·rw[ef,eF];refine And.intro trivial (And.intro (fun k hk=> ?_) (And.intro ?_ R.fi))
   ·simp only[fr0,Xh] at hk;rw[hk];exact R.gd
   ·exact .inr (.inr (.inl ⟨ho,rfl⟩))
 unfold qSgB
 split
 ·rename_i hh;exact .inr (ex 7 24 (.inl rfl) rfl hh)
 ·split
  ·rename_i hh;exact .inr (ex 8 6 (.inr rfl) rfl hh)
  ·exact .inl rfl
theorem FolI.end_(R:FolI t q g x)(hb:q.base≠2)(ho:g.op=7∨g.op=8)(tk:Tk t u (txF (g::q.F)++x.cells q.lv++16::q.lv.dropLast)):∃g' x',FolI t (Y2c q.f.op 0 0 (qOpd {qU u q with lv:=q.lv.dropLast})) g' x':=by
 have⟨x',hx,h2,h3,h4⟩:=R.join hb;have⟨g',F',e,hg,ok,fi⟩:=FI.outer R.fi (by omega);have f4:q.f.op=g.op:=by rw[R.f];rfl
 have ll:q.lv=lvF q.F++[expC g.op]:=by rw[R.lv,lvF,if_pos ho]
 have ld:q.lv.dropLast=lvF q.F:=by rw[ll,List.dropLast_concat]
 have⟨a,ha⟩:∃a,g.ops=[a]:=by
  have:g.ops.length=1:=by
   rcases ok with h|h|h|h|h
   ·omega
   ·omega
   ·exact h.2
   ·omega
   ·omega
  exact List.length_eq_one_iff.1 this
 rw[f4];refine R.close (op:=g.op) hb (by omega) (x':=x') hx (n:=0) (b:=0) (q1:={qU u q with lv:=q.lv.dropLast}) rfl rfl rfl rfl rfl ld R.dn ?_ ?_ (by omega) (.inl ⟨rfl,ho⟩)
 ·have ef:fh (lvF q.F) g=Go.Proofs.YtfpcbalkioolmaaDoor.grp (lvF q.F) a++16::(lvF q.F++[expC g.op]):=by
   unfold fh;rw[Vn,Vn,if_pos ho,ha];rfl
  have:txF q.F++(Tr.node ⟨g.op,0⟩ (g.ops++[x'])).cells (lvF q.F)=txF (g::q.F)++x.cells q.lv++16::q.lv.dropLast:=by
   rw[h3,ef,ld,ll,ha,X0d,Y1z,if_neg (by simp only;omega),if_neg (by simp only;omega),if_neg (by simp only;omega),if_pos (by simp only;omega),powC_eq,opn_hd,Go.Proofs.YtfpcbalkioolmaaDoor.grp];simp
  rw[this];exact tk
 ·refine Gd.node ?_ (fun k hk=> ?_) (fun i k hk=>adm_any (by simp only;omega) (by simp only;omega))
  ·rw[ar,if_neg (by simp only;omega),if_neg (by simp only;omega),if_pos (by simp only;omega),if_pos rfl,ha];rfl
  ·rw[Xs,Xh] at hk;rcases hk with hk|rfl
   ·exact hg k hk
   ·exact h2
theorem FolI.sgn(R:FolI t q g x)(tk16:Tk t u (txF (g::q.F)++(if q.base=2 then 35::(x.cells q.lv++[50]) else x.cells q.lv)++[16])):(qSgn t (qU u q)).2.c.wr=true∨St t (qSgn t (qU u q)).1 (qSgn t (qU u q)).2:=by
 have f4:q.f.op=g.op:=by rw[R.f];rfl
 have eg:q.base≠0→(if q.base=2 then 35::(x.cells q.lv++[50]) else x.cells q.lv)=Go.Proofs.YtfpcbalkioolmaaDoor.grp q.lv x:=fun hb=>by
  rw[Go.Proofs.YtfpcbalkioolmaaDoor.grp];rcases R.b with h|h|h
  ·exact absurd h.1 hb
  ·have⟨h1,h2⟩:=h;rw[if_neg (show ¬q.base=2 by omega),if_pos h2]
  ·rw[if_pos h.1,if_neg (by rw[h.2];simp)]
 have hbeg:qBegs (qU u q)=true→q.base≠0:=fun h=>by
  have:(q.base !=0)=true:=h;simpa using this
 unfold qSgn
 split
 ·exact .inl rfl
 ·rename_i hA
  by_cases hl:(qU u q).lv=[]
  ·rw[if_pos hl];have hl:q.lv=[]:=hl;have hb:q.base≠0:=by
    intro h0;have e1:qBegs (qU u q)=false:=by show(q.base !=0)=false;rw[h0];rfl
    have e2:qEnds (qU u q)=true:=by
     cases h:qEnds (qU u q) with
     |true=>rfl
     |false=>exact absurd ⟨e1,h⟩ hA
    have e3:((q.f.op==7||q.f.op==8)&&q.base !=2)=true:=e2;simp only[X3,X07,beq_iff_eq] at e3;have:=R.lv;rw[hl,lvF,if_pos (by rw[←f4];exact e3.1)] at this;simp at this
   refine sgB_snd R hb ?_;rw[eg hb] at tk16;rw[hl] at tk16⊢;exact tk16
  ·rw[if_neg hl]
   by_cases hw:(xpc t (qU u q).lv.dropLast (qU u q).c).wr=true
   ·rw[if_pos hw];exact .inl hw
   ·rw[if_neg hw];have hw':(xpc t q.lv.dropLast u).wr=false:=Bool.eq_false_iff.2 hw;have X:=tk16.xpc (s:=q.lv.dropLast) hw'
    by_cases hB:qBegs (qU u q)=true∧hit t ((qU u q).lv.getLastD 0) (xpc t (qU u q).lv.dropLast (qU u q).c)=true
    ·rw[if_pos hB];have hb:=hbeg hB.1;show(qSgB t (qU (xpc t q.lv.dropLast u).adv q)).2.c.wr=true∨St t (qSgB t (qU (xpc t q.lv.dropLast u).adv q)).1 (qSgB t (qU (xpc t q.lv.dropLast u).adv q)).2;refine sgB_snd R hb (u:=(xpc t q.lv.dropLast u).adv) ?_;have X2:=X.hit hB.2;rw[eg hb] at X2;have el:q.lv=q.lv.dropLast++[q.lv.getLastD 0]:=by
      have hl:q.lv≠[]:=hl;rcases List.eq_nil_or_concat q.lv with h|⟨l,z,h⟩
      ·exact absurd h hl
      ·rw[h];simp
     have e:txF (g::q.F)++Go.Proofs.YtfpcbalkioolmaaDoor.grp q.lv x++16::q.lv=txF (g::q.F)++Go.Proofs.YtfpcbalkioolmaaDoor.grp q.lv x++[16]++q.lv.dropLast++[q.lv.getLastD 0]:=by
      conv=>lhs;rhs;rw[el]
      simp
     rw[e];exact X2
    ·rw[if_neg hB];unfold qEnd
     split
     ·rename_i he;have e3:((q.f.op==7||q.f.op==8)&&q.base !=2)=true:=he;simp only[X3,X07,beq_iff_eq,bne_iff_ne] at e3;refine .inr ?_;refine R.end_ e3.2 (by rw[←f4];exact e3.1) (u:=xpc t q.lv.dropLast u) ?_;rw[if_neg e3.2] at X;rw[Xf _ [16]] at X;exact X
     ·exact .inl rfl
def FinI (t:List Int) (q:Qs):Prop:=q.dn=true∧∃x,qJ 0 q.f.ss q.f.ts=([x],[])∧Gd x∧x.cells []=t∧q.F=[]∧q.f.ops=[]∧q.f.op= -1
theorem follow_snd(R:FolI t q g x):(Y0j t q).2.c.wr=true∨((Y0j t q).1=false∧FinI t (Y0j t q).2)∨St t (Y0j t q).1 (Y0j t q).2:=by
 have f4:q.f.op=g.op:=by rw[R.f];rfl
 have f5:q.f.ops=g.ops:=by rw[R.f];rfl
 unfold Y0j
 split
 ·rename_i hh;rcases R.sgn (R.tk.hit hh) with h|h
  ·exact .inl h
  ·exact .inr (.inr h)
 ·split
  ·exact .inl rfl
  ·rename_i hb;have T:=R.txt hb
   split
   ·rename_i hh;exact .inr (.inr (R.sign hb (op:=2) (by omega) (T.hit hh)))
   ·split
    ·rename_i hh;exact .inr (.inr (R.sign hb (op:=3) (by omega) (T.hit hh)))
    ·split
     ·rename_i hh;exact .inr (.inr (R.sign hb (op:=4) (by omega) (T.hit hh)))
     ·split
      ·rename_i hh
       by_cases hw:(xpc t [54,0] q.c.adv).wr=true
       ·exact .inl hw
       ·refine .inr (.inr (R.sign hb (op:=5) (by omega) ?_));have:=(T.hit hh).xpc (s:=[54,0]) (by simpa using hw);rw[Xf _ [0]] at this;exact this
      ·unfold qRest
       split
       ·rename_i ho;rw[f4] at ho;have hF:q.F=[]:=by
         cases hF:q.F with
         |nil=>rfl
         |cons g' F'=>
          have fi:=R.fi;rw[hF] at fi;rcases fi.2.2.1 with h|h|h|h|h<;>omega
        by_cases he:q.c.at_=(t.length:Nat)
        ·refine .inr (.inl ⟨rfl, ?_, ?_⟩)
         ·show(q.c.at_==(t.length:Nat))=true;rw[he];exact beq_self_eq_true _
         ·have⟨x',hx,h2,h3,h4⟩:=R.join hb;have fi:=R.fi;rw[hF] at fi;refine⟨x',hx,h2, ?_,hF,by show q.f.ops=[];rw[f5];exact fi.2.2,f4.trans ho⟩;have e:=T.e;rw[h3,he,R.lv,hF] at e;have e1:lvF [g]=[]:=by rw[lvF,Vn];rfl
          have e2:fh (lvF []) g=[]:=by unfold fh;rw[if_pos ho]
          rw[e1,e2] at e;simp only[txF,X04,X02,List.take_length] at e;exact e.symm
        ·left
         show(q.c.at_ !=(t.length:Nat))=true;exact bne_iff_ne.2 he
       ·rename_i ho1
        split
        ·rename_i ho;rcases R.ungroup hb (f4▸ho) with h|h
         ·exact .inl h
         ·exact .inr (.inr h)
        ·rename_i ho2
         split
         ·rename_i ho;rcases R.matrix hb (f4▸ho) with h|h
          ·exact .inl h
          ·exact .inr (.inr h)
         ·rename_i ho3;rw[f4] at ho1 ho2 ho3
          split
          ·rename_i ho;rw[f4,f5] at ho;rcases R.frac hb ho.1 ho.2 with h|h
           ·exact .inl h
           ·exact .inr (.inr h)
          ·rename_i ho4
           split
           ·exact .inl rfl
           ·rename_i ho5;rw[f4,f5] at ho4;rw[f4] at ho5;have⟨g',F',e,hg,ok,fi⟩:=FI.outer R.fi ho1;rcases R.brk hb (by
             rcases ok with h|h|h|h|h
             ·exact absurd h.1 ho2
             ·refine .inl ⟨h.1, ?_⟩;have:g.ops≠[]:=fun hn=>ho4 ⟨h.1,hn⟩;have:=List.length_pos_iff.2 this;omega
             ·exact absurd h.1 ho5
             ·exact .inr h.1
             ·exact absurd h.1 ho3) with h|h
            ·exact .inl h
            ·exact .inr (.inr h)
theorem Run.snd{b:Bool}{r:Qs}(h:Run t b q r):(q.c.wr=true∨FinI t q∨St t b q)→r.c.wr=true∨FinI t r:=by
 induction h with
 |@stop b q hs=>
  intro hq;rcases hq with h|h|h
  ·exact .inl h
  ·exact .inr h
  ·cases b with
   |true=>
    have B:BegI t q:=h;rcases hs with hs|hs
    ·exact .inl hs
    ·rw[B.dn] at hs;cases hs
   |false=>
    have⟨g,x,B⟩:∃g x,FolI t q g x:=h;rcases hs with hs|hs
    ·exact .inl hs
    ·rw[B.dn] at hs;cases hs
 |@step b q r hs hr ih=>
  intro hq;have hQ:St t b q:=by
   rcases hq with h|h|h
   ·exact absurd (.inl h) hs
   ·exact absurd (.inr h.1) hs
   ·exact h
  refine ih ?_;cases b with
  |true=>
   rcases begin_snd (show BegI t q from hQ) with h|h
   ·exact .inl h
   ·exact .inr (.inr h)
  |false=>
   have⟨g,x,B⟩:∃g x,FolI t q g x:=hQ;rcases follow_snd B with h|h|h
   ·exact .inl h
   ·exact .inr (.inl h.2)
   ·exact .inr (.inr h)
theorem q00_BegI(t:List Int):BegI t q00:=by
 refine⟨⟨rfl,⟨by simp[q00],by simp[q00]⟩, ?_⟩,rfl,⟨trivial,rfl,rfl⟩,rfl⟩;show t.take 0=txF [fr0 (-1) []];rw[txF];show _=txF []++fh _ _++sB _ [] [];rw[sB_nil]
 rfl
theorem m_snd(t:List Int):(mRun t).c.wr=true∨FinI t (mRun t):=(run_m t).snd (.inr (.inr (q00_BegI t)))
end
def cmp (f:Qf):Tr:=(qJ 0 f.ss f.ts).1.headD noTr
def Y5a (g:Qf) (y:Tr):Tr:=if g.op= -1∨g.op= -2 then y else .node ⟨g.op,0⟩ (g.ops++[y])
def wrapS:List Qf→Tr→Tr
 |[],x=>x
 |g::F,x=>wrapS F (Y5a g (cmp (pushT x g)))
def leaf:Tr:=.node ⟨0,0⟩ []
def K (b:Bool) (q:Qs):Tr:=if b=true then wrapS (q.f::q.F) leaf else wrapS q.F (Y5a q.f (cmp q.f))
theorem K_false(q:Qs):K false q=wrapS q.F (Y5a q.f (cmp q.f)):=rfl
theorem cmp_of{f:Qf}{x:Tr}(h:qJ 0 f.ss f.ts=([x],[])):cmp f=x:=by rw[cmp,h];rfl
section
variable {t:List Int} {q:Qs} {g:Qf} {x:Tr}
end
section
variable {t u:List Int}
theorem FinI.K{q:Qs}{x:Tr}(h:FinI t q)(hx:qJ 0 q.f.ss q.f.ts=([x],[])):Go.Proofs.YtfpcbalkioolmaaDoor.K false q=x:=by
 have⟨_,y,h1,_,_,h4,_,h6⟩:=h;rw[K_false,h4,wrapS,Y5a,if_pos (.inl h6),cmp_of hx]
end
end Go.Proofs.YtfpcbalkioolmaaDoor
