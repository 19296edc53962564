/- Own work. -/
import Derived.Test.YtfpcbalkioolmaaDoorLsA
set_option linter.unusedSimpArgs false
set_option linter.unusedVariables false
namespace Go.Proofs.YtfpcbalkioolmaaDoor
open Go.Abs
section
variable {t:List Int} {q:Qs} {g:Qf} {x:Tr} {u:Cu}
theorem sep_lo{o:Int}(h:o≠12/\o≠13)(N:Int)(i:Nat):sepC ⟨o,N⟩ i=if i=0 then[] else[12]:=by
 unfold sepC
 by_cases h0:i=0
 ·rw[if_pos h0,if_pos h0]
 ·rw[if_neg h0,if_neg h0,if_neg (by simp only;omega),if_neg (by simp only;omega)]
theorem sep_lo_nf(ho:g.op≠12/\g.op≠13)(N:Int)(i:Nat):sepC ⟨g.op,N⟩ i=sepC (nf g) i:=by rw[nf,sep_lo ho,sep_lo ho]
theorem FolI.brk(R:FolI t q g x)(hb:q.base≠2)(ho:g.op=6/\g.ops.length=1\/g.op=9\/g.op=10\/g.op=11):(Y2a q.f.op 0 1 (qOpd (qU (xpc t [clB q.f.op] q.c) q))).c.wr=true\/∃g' x',FolI t (Y2a q.f.op 0 1 (qOpd (qU (xpc t [clB q.f.op] q.c) q))) g' x':=by
 have⟨x',hx,h2,h3,h4⟩:=R.join hb;have⟨g',F',e,hg,ok,fi⟩:=FI.outer R.fi (by omega);have ll:lvF (g::q.F)=lvF q.F:=by rw[lvF,Vn]
 have f4:q.f.op=g.op:=by rw[R.f];rfl
 rw[f4,clB_close (by omega)]
 by_cases hw:(xpc t [Y1j g.op] q.c).wr=true
 ·left;rw[close_c];exact hw
 ·refine .inr ?_;have X:=(R.txt hb).xpc (s:=[Y1j g.op]) (by simpa using hw);rw[h3] at X;have hl:g.ops.length=(if g.op=6 then 1 else 0):=by
   rcases ho with ho|ho
   ·rw[if_pos ho.1];exact ho.2
   ·rw[Vn];have:g.ops=[]:=by
     rcases ok with h|h|h|h|h
     ·exact h.2
     ·omega
     ·omega
     ·exact h.2
     ·omega
    rw[this];rfl
  refine R.close (op:=g.op) hb (by omega) (x':=x') hx (n:=0) (b:=1) (q1:=qU (xpc t [Y1j g.op] q.c) q) rfl rfl rfl rfl rfl (by show q.lv=_;rw[R.lv,ll]) R.dn ?_ ?_ (by omega) (.inr (.inl ⟨rfl, ?_⟩))
  ·have:txF q.F++(Tr.node ⟨g.op,0⟩ (g.ops++[x'])).cells (lvF q.F)=txF q.F++fh (lvF q.F) g++x'.cells q.lv++[Y1j g.op]:=by
    rw[big_cells (by simp only;omega),fh_open (by omega),cellsL_snoc,cellsL_congr (lvF q.F) _ (nf g) g.ops 0 (fun j _ hj=>sep_lo_nf (by omega) 0 j),sep_lo_nf (by omega),R.lv,ll];simp
   rw[this];exact X
  ·refine Gd.node ?_ (fun k hk=> ?_) (fun i k hk=>adm_any (by simp only;omega) (by simp only;omega))
   ·rw[X5,Xk,hl,ar,if_neg (by simp only;omega),if_neg (by simp only;omega)]
    by_cases h6:g.op=6
    ·rw[if_pos (by simp only;omega),if_pos rfl,if_pos h6]
    ·rw[if_neg (by simp only;omega),if_pos (by simp only;omega),if_pos rfl,if_neg h6]
   ·rw[Xs,Xf] at hk;rcases hk with hk|rfl
    ·exact hg k hk
    ·exact h2
  ·show Y5m g.op=true;unfold Y5m;exact decide_eq_true (by omega)
theorem FolI.frac(R:FolI t q g x)(hb:q.base≠2)(ho:g.op=6)(hops:g.ops=[]):(qOpd (qU (xpc t [12] q.c) q)).c.wr=true\/BegI t (qOpd (qU (xpc t [12] q.c) q)):=by
 have⟨x',hx,h2,h3,h4⟩:=R.join hb;have f4:q.f.op=g.op:=by rw[R.f];rfl
 have f5:q.f.ops=g.ops:=by rw[R.f];rfl
 by_cases hw:(xpc t [12] q.c).wr=true
 ·exact .inl hw
 ·refine .inr ?_;have X:=(R.txt hb).xpc (s:=[12]) (by simpa using hw);refine R.opd (x':=x') hb (.inl ho) h2 h3 (q1:=qOpd (qU (xpc t [12] q.c) q)) (c:=12) rfl rfl rfl rfl R.dn f4 ?_ rfl rfl ?_ ?_ ?_ X
  ·show q.f.ops++[qOpI _]=_;rw[f5,qOpI_of (by exact hx)]
  ·intro j hj;show sepC ⟨q.f.op,_⟩ j=_;rw[f4];exact sep_lo_nf (by omega) _ j
  ·show sepC ⟨q.f.op,_⟩ _=_;rw[f4,sep_lo (by omega),Vn]
  ·refine .inr (.inl ⟨f4.trans ho, ?_⟩);show(q.f.ops++[qOpI _]).length<=1;rw[f5,hops];simp
theorem FolI.sign(R:FolI t q g x)(hb:q.base≠2){op:Int}(ho:2<=op/\op<=5)(tk:Tk t u (txF (g::q.F)++x.cells q.lv++signC op)):BegI t (qSign op (qU u q)):=by
 have⟨x',ts',ss',a1,a2,a3,a4,a5,a6,a7,a8⟩:=join_si (Y3e op) q.lv g.ss g.ts x (FI.st R.fi) R.gd (R.hd hb);have h4:pr (opn x)=4:=by
  rcases R.b with h|h|h
  ·exact pr_four (by omega)
  ·exact pr_four (simple_rng h.2)
  ·exact absurd h.1 hb
 have hp:Y3e op<=pr (opn x'):=a6 (by rw[h4,lprec_pr ho];exact(pr_rng _).2);have ef:(qSign op (qU u q)).f={g with ts:=x'::ts',ss:=op::ss'}:=by
  show({(qJoin (Y3e op) (qU u q)).f with ss:=op::(qJoin (Y3e op) (qU u q)).f.ss}:Qf)=_;have e1:(qJoin (Y3e op) (qU u q)).f={q.f with ts:=(qJ (Y3e op) q.f.ss q.f.ts).1,ss:=(qJ (Y3e op) q.f.ss q.f.ts).2}:=rfl;have e2:qJ (Y3e op) q.f.ss q.f.ts=(x'::ts',ss'):=by rw[R.f];exact a1
  rw[e1,e2,R.f];rfl
 refine⟨?_, ?_, ?_,R.dn⟩
 ·rw[ef];show Tk t u (txF ({g with ts:=x'::ts',ss:=op::ss'}::q.F));have:txF ({g with ts:=x'::ts',ss:=op::ss'}::q.F)=txF (g::q.F)++x.cells q.lv++signC op:=by
   rw[txF,txF,sB,lvF_eq (f:=g) (f':={g with ts:=x'::ts',ss:=op::ss'}) q.F rfl, <-R.lv,a7];show txF q.F++fh (lvF q.F) g++_=_;simp
  rw[this];exact tk
 ·rw[ef];exact R.lv.trans (lvF_eq q.F rfl)
 ·rw[ef];show FI ({g with ts:=x'::ts',ss:=op::ss'}::q.F);have st:StI (x'::ts') (op::ss'):=⟨a3,ho,hp,a4,a5,a2⟩;have fi:=R.fi;cases hF:q.F with
  |nil=>rw[hF] at fi;exact⟨st,fi.2⟩
  |cons g' F'=>rw[hF] at fi;exact⟨st,fi.2⟩
theorem sgB_snd(R:FolI t q g x)(hb:q.base≠0)(tk:Tk t u (txF (g::q.F)++grp q.lv x++16::q.lv)):(qSgB t (qU u q)).2.c.wr=true\/St t (qSgB t (qU u q)).1 (qSgB t (qU u q)).2:=by
 have ex:∀op c:Int,(op=7\/op=8)->c=expC op->hit t c u=true->BegI t (qExp op c (qU u q)):=fun op c ho hc hh=>by
  have ef:(qExp op c (qU u q)).f=fr0 op [x]:=by
   show fr0 op [q.f.ts.headD noTr]=_;rw[R.f];rfl
  have eF:(qExp op c (qU u q)).F=g::q.F:=by
   show {q.f with ts:=q.f.ts.tail}::q.F=_;rw[R.f];rfl
  refine⟨?_, ?_, ?_,R.dn⟩
  ·rw[ef,eF];show Tk t u.adv _;have:txF (fr0 op [x]::g::q.F)=txF (g::q.F)++grp q.lv x++16::q.lv++[c]:=by
    rw[txF];show _++sB _ [] []=_;rw[sB_nil,R.lv,hc];unfold fh;rw[if_neg (by show ¬op= -1;omega),if_neg (by show ¬op= -2;omega),if_pos (by exact ho)]
    simp[fr0]
   rw[this];exact tk.hit hh
  ·rw[ef,eF];show q.lv++[c]=_;rw[lvF,if_pos (by exact ho),hc,R.lv];rfl
  ·rw[ef,eF];refine And.intro trivial (And.intro (fun k hk=> ?_) (And.intro ?_ R.fi))
   ·simp only[fr0,Xf] at hk;rw[hk];exact R.gd
   ·exact .inr (.inr (.inl ⟨ho,rfl⟩))
 unfold qSgB
 split
 ·rename_i hh;exact .inr (ex 7 24 (.inl rfl) rfl hh)
 ·split
  ·rename_i hh;exact .inr (ex 8 6 (.inr rfl) rfl hh)
  ·exact .inl rfl
theorem FolI.end_(R:FolI t q g x)(hb:q.base≠2)(ho:g.op=7\/g.op=8)(tk:Tk t u (txF (g::q.F)++x.cells q.lv++16::q.lv.dropLast)):∃g' x',FolI t (Y2a q.f.op 0 0 (qOpd {qU u q with lv:=q.lv.dropLast})) g' x':=by
 have⟨x',hx,h2,h3,h4⟩:=R.join hb;have⟨g',F',e,hg,ok,fi⟩:=FI.outer R.fi (by omega);have f4:q.f.op=g.op:=by rw[R.f];rfl
 have ll:q.lv=lvF q.F++[expC g.op]:=by rw[R.lv,lvF,if_pos ho]
 have ld:q.lv.dropLast=lvF q.F:=by rw[ll,List.dropLast_concat]
 have⟨a,ha⟩:∃a,g.ops=[a]:=by
  have:g.ops.length=1:=by
   rcases ok with h|h|h|h|h
   ·omega
   ·omega
   ·exact h.2
   ·omega
   ·omega
  exact List.length_eq_one_iff.1 this
 rw[f4];refine R.close (op:=g.op) hb (by omega) (x':=x') hx (n:=0) (b:=0) (q1:={qU u q with lv:=q.lv.dropLast}) rfl rfl rfl rfl rfl ld R.dn ?_ ?_ (by omega) (.inl ⟨rfl,ho⟩)
 ·have ef:fh (lvF q.F) g=Go.Proofs.YtfpcbalkioolmaaDoor.grp (lvF q.F) a++16::(lvF q.F++[expC g.op]):=by
   unfold fh;rw[Vn,Vn,if_pos ho,ha];rfl
  have:txF q.F++(Tr.node ⟨g.op,0⟩ (g.ops++[x'])).cells (lvF q.F)=txF (g::q.F)++x.cells q.lv++16::q.lv.dropLast:=by
   rw[h3,ef,ld,ll,ha,X0c,Y1v,if_neg (by simp only;omega),if_neg (by simp only;omega),if_neg (by simp only;omega),if_pos (by simp only;omega),powC_eq,opn_hd,Go.Proofs.YtfpcbalkioolmaaDoor.grp];simp
  rw[this];exact tk
 ·refine Gd.node ?_ (fun k hk=> ?_) (fun i k hk=>adm_any (by simp only;omega) (by simp only;omega))
  ·rw[ar,if_neg (by simp only;omega),if_neg (by simp only;omega),if_pos (by simp only;omega),if_pos rfl,ha];rfl
  ·rw[Xs,Xf] at hk;rcases hk with hk|rfl
   ·exact hg k hk
   ·exact h2
theorem FolI.sgn(R:FolI t q g x)(tk16:Tk t u (txF (g::q.F)++(if q.base=2 then 35::(x.cells q.lv++[50]) else x.cells q.lv)++[16])):(qSgn t (qU u q)).2.c.wr=true\/St t (qSgn t (qU u q)).1 (qSgn t (qU u q)).2:=by
 have f4:q.f.op=g.op:=by rw[R.f];rfl
 have eg:q.base≠0->(if q.base=2 then 35::(x.cells q.lv++[50]) else x.cells q.lv)=Go.Proofs.YtfpcbalkioolmaaDoor.grp q.lv x:=fun hb=>by
  rw[Go.Proofs.YtfpcbalkioolmaaDoor.grp];rcases R.b with h|h|h
  ·exact absurd h.1 hb
  ·have⟨h1,h2⟩:=h;rw[if_neg (show ¬q.base=2 by omega),if_pos h2]
  ·rw[if_pos h.1,if_neg (by rw[h.2];simp)]
 have hbeg:qBegs (qU u q)=true->q.base≠0:=fun h=>by
  have:(q.base !=0)=true:=h;simpa using this
 unfold qSgn
 split
 ·exact .inl rfl
 ·rename_i hA
  by_cases hl:(qU u q).lv=[]
  ·rw[if_pos hl];have hl:q.lv=[]:=hl;have hb:q.base≠0:=by
    intro h0;have e1:qBegs (qU u q)=false:=by show(q.base !=0)=false;rw[h0];rfl
    have e2:qEnds (qU u q)=true:=by
     cases h:qEnds (qU u q) with
     |true=>rfl
     |false=>exact absurd ⟨e1,h⟩ hA
    have e3:((q.f.op==7||q.f.op==8)&&q.base !=2)=true:=e2;simp only[X3,X07,beq_iff_eq] at e3;have:=R.lv;rw[hl,lvF,if_pos (by rw[<-f4];exact e3.1)] at this;simp at this
   refine sgB_snd R hb ?_;rw[eg hb] at tk16;rw[hl] at tk16⊢;exact tk16
  ·rw[if_neg hl]
   by_cases hw:(xpc t (qU u q).lv.dropLast (qU u q).c).wr=true
   ·rw[if_pos hw];exact .inl hw
   ·rw[if_neg hw];have hw':(xpc t q.lv.dropLast u).wr=false:=Bool.eq_false_iff.2 hw;have X:=tk16.xpc (s:=q.lv.dropLast) hw'
    by_cases hB:qBegs (qU u q)=true/\hit t ((qU u q).lv.getLastD 0) (xpc t (qU u q).lv.dropLast (qU u q).c)=true
    ·rw[if_pos hB];have hb:=hbeg hB.1;show(qSgB t (qU (xpc t q.lv.dropLast u).adv q)).2.c.wr=true\/St t (qSgB t (qU (xpc t q.lv.dropLast u).adv q)).1 (qSgB t (qU (xpc t q.lv.dropLast u).adv q)).2;refine sgB_snd R hb (u:=(xpc t q.lv.dropLast u).adv) ?_;have X2:=X.hit hB.2;rw[eg hb] at X2;have el:q.lv=q.lv.dropLast++[q.lv.getLastD 0]:=by
      have hl:q.lv≠[]:=hl;rcases List.eq_nil_or_concat q.lv with h|⟨l,z,h⟩
      ·exact absurd h hl
      ·rw[h];simp
     have e:txF (g::q.F)++Go.Proofs.YtfpcbalkioolmaaDoor.grp q.lv x++16::q.lv=txF (g::q.F)++Go.Proofs.YtfpcbalkioolmaaDoor.grp q.lv x++[16]++q.lv.dropLast++[q.lv.getLastD 0]:=by
      conv=>lhs;rhs;rw[el]
      simp
     rw[e];exact X2
    ·rw[if_neg hB];unfold qEnd
     split
     ·rename_i he;have e3:((q.f.op==7||q.f.op==8)&&q.base !=2)=true:=he;simp only[X3,X07,beq_iff_eq,bne_iff_ne] at e3;refine .inr ?_;refine R.end_ e3.2 (by rw[<-f4];exact e3.1) (u:=xpc t q.lv.dropLast u) ?_;rw[if_neg e3.2] at X;rw[Xi _ [16]] at X;exact X
     ·exact .inl rfl
def FinI (t:List Int) (q:Qs):Prop:=q.dn=true/\∃x,qJ 0 q.f.ss q.f.ts=([x],[])/\Gd x/\x.cells []=t/\q.F=[]/\q.f.ops=[]/\q.f.op= -1
theorem follow_snd(R:FolI t q g x):(Y0h t q).2.c.wr=true\/((Y0h t q).1=false/\FinI t (Y0h t q).2)\/St t (Y0h t q).1 (Y0h t q).2:=by
 have f4:q.f.op=g.op:=by rw[R.f];rfl
 have f5:q.f.ops=g.ops:=by rw[R.f];rfl
 unfold Y0h
 split
 ·rename_i hh;rcases R.sgn (R.tk.hit hh) with h|h
  ·exact .inl h
  ·exact .inr (.inr h)
 ·split
  ·exact .inl rfl
  ·rename_i hb;have T:=R.txt hb
   split
   ·rename_i hh;exact .inr (.inr (R.sign hb (op:=2) (by omega) (T.hit hh)))
   ·split
    ·rename_i hh;exact .inr (.inr (R.sign hb (op:=3) (by omega) (T.hit hh)))
    ·split
     ·rename_i hh;exact .inr (.inr (R.sign hb (op:=4) (by omega) (T.hit hh)))
     ·split
      ·rename_i hh
       by_cases hw:(xpc t [54,0] q.c.adv).wr=true
       ·exact .inl hw
       ·refine .inr (.inr (R.sign hb (op:=5) (by omega) ?_));have:=(T.hit hh).xpc (s:=[54,0]) (by simpa using hw);rw[Xi _ [0]] at this;exact this
      ·unfold qRest
       split
       ·rename_i ho;rw[f4] at ho;have hF:q.F=[]:=by
         cases hF:q.F with
         |nil=>rfl
         |cons g' F'=>
          have fi:=R.fi;rw[hF] at fi;rcases fi.2.2.1 with h|h|h|h|h<;>omega
        by_cases he:q.c.at_=(t.length:Nat)
        ·refine .inr (.inl ⟨rfl, ?_, ?_⟩)
         ·show(q.c.at_==(t.length:Nat))=true;rw[he];exact beq_self_eq_true _
         ·have⟨x',hx,h2,h3,h4⟩:=R.join hb;have fi:=R.fi;rw[hF] at fi;refine⟨x',hx,h2, ?_,hF,by show q.f.ops=[];rw[f5];exact fi.2.2,f4.trans ho⟩;have e:=T.e;rw[h3,he,R.lv,hF] at e;have e1:lvF [g]=[]:=by rw[lvF,Vn];rfl
          have e2:fh (lvF []) g=[]:=by unfold fh;rw[if_pos ho]
          rw[e1,e2] at e;simp only[txF,X05,X01,List.take_length] at e;exact e.symm
        ·left
         show(q.c.at_ !=(t.length:Nat))=true;exact bne_iff_ne.2 he
       ·rename_i ho1
        split
        ·rename_i ho;rcases R.ungroup hb (f4▸ho) with h|h
         ·exact .inl h
         ·exact .inr (.inr h)
        ·rename_i ho2
         split
         ·rename_i ho;rcases R.matrix hb (f4▸ho) with h|h
          ·exact .inl h
          ·exact .inr (.inr h)
         ·rename_i ho3;rw[f4] at ho1 ho2 ho3
          split
          ·rename_i ho;rw[f4,f5] at ho;rcases R.frac hb ho.1 ho.2 with h|h
           ·exact .inl h
           ·exact .inr (.inr h)
          ·rename_i ho4
           split
           ·exact .inl rfl
           ·rename_i ho5;rw[f4,f5] at ho4;rw[f4] at ho5;have⟨g',F',e,hg,ok,fi⟩:=FI.outer R.fi ho1;rcases R.brk hb (by
             rcases ok with h|h|h|h|h
             ·exact absurd h.1 ho2
             ·refine .inl ⟨h.1, ?_⟩;have:g.ops≠[]:=fun hn=>ho4 ⟨h.1,hn⟩;have:=List.length_pos_iff.2 this;omega
             ·exact absurd h.1 ho5
             ·exact .inr h.1
             ·exact absurd h.1 ho3) with h|h
            ·exact .inl h
            ·exact .inr (.inr h)
theorem Run.snd{b:Bool}{r:Qs}(h:Run t b q r):(q.c.wr=true\/FinI t q\/St t b q)->r.c.wr=true\/FinI t r:=by
 induction h with
 |@stop b q hs=>
  intro hq;rcases hq with h|h|h
  ·exact .inl h
  ·exact .inr h
  ·cases b with
   |true=>
    have B:BegI t q:=h;rcases hs with hs|hs
    ·exact .inl hs
    ·rw[B.dn] at hs;cases hs
   |false=>
    have⟨g,x,B⟩:∃g x,FolI t q g x:=h;rcases hs with hs|hs
    ·exact .inl hs
    ·rw[B.dn] at hs;cases hs
 |@step b q r hs hr ih=>
  intro hq;have hQ:St t b q:=by
   rcases hq with h|h|h
   ·exact absurd (.inl h) hs
   ·exact absurd (.inr h.1) hs
   ·exact h
  refine ih ?_;cases b with
  |true=>
   rcases begin_snd (show BegI t q from hQ) with h|h
   ·exact .inl h
   ·exact .inr (.inr h)
  |false=>
   have⟨g,x,B⟩:∃g x,FolI t q g x:=hQ;rcases follow_snd B with h|h|h
   ·exact .inl h
   ·exact .inr (.inl h.2)
   ·exact .inr (.inr h)
theorem q00_BegI(t:List Int):BegI t q00:=by
 refine⟨⟨rfl,⟨by simp[q00],by simp[q00]⟩, ?_⟩,rfl,⟨trivial,rfl,rfl⟩,rfl⟩;show t.take 0=txF [fr0 (-1) []];rw[txF];show _=txF []++fh _ _++sB _ [] [];rw[sB_nil]
 rfl
theorem m_snd(t:List Int):(mRun t).c.wr=true\/FinI t (mRun t):=(run_m t).snd (.inr (.inr (q00_BegI t)))
end
def leT (x y:Tr):Prop:=nd x<=nd y/\x.dep<=y.dep
theorem leT.refl(x:Tr):leT x x:=⟨Xn _,by omega⟩
theorem leT.trans{x y z:Tr}(a:leT x y)(b:leT y z):leT x z:=⟨by have:=a.1;have:=b.1;omega,by have:=a.2;have:=b.2;omega⟩
theorem leT_leaf(n:Y6)(y:Tr):leT (.node n []) y:=⟨by have:=nd_pos y;rw[nd_node,Y48];omega,by have:=dep_pos y;rw[Tr.dep,depL];exact this⟩
theorem depL_snoc(x:Tr):∀(ks:List Tr) (d:Int),depL d (ks++[x])=if x.dep+1>depL d ks then x.dep+1 else depL d ks
 |[],d=>by rw[X05,depL,depL,depL]
 |k::ks,d=>by rw[Xu,depL,depL,depL_snoc x ks]
theorem dep_node(n:Y6)(ks:List Tr):(Tr.node n ks).dep=depL 1 ks:=by rw[Tr.dep]
theorem leT_snoc{n n':Y6}{ks:List Tr}{a b:Tr}(h:leT a b):leT (.node n (ks++[a])) (.node n' (ks++[b])):=by
 have h1:=h.1;have h2:=h.2;refine⟨?_, ?_⟩
 ·rw[nd_node,nd_node,ndL_app,ndL_app,Y2f,Y2f];omega
 ·rw[dep_node,dep_node,depL_snoc,depL_snoc]
  split<;>split<;>omega
theorem leT_more{n n':Y6}{ks:List Tr}{b:Tr}:leT (.node n ks) (.node n' (ks++[b])):=by
 refine⟨?_, ?_⟩
 ·rw[nd_node,nd_node,ndL_app,Y2f];omega
 ·rw[dep_node,dep_node,depL_snoc]
  split<;>omega
theorem leT_two{n n':Y6}{a b b':Tr}(h:leT b b'):leT (.node n [a,b]) (.node n' [a,b']):=leT_snoc (ks:=[a]) h
theorem leT_left(n:Y6)(a b:Tr):leT a (.node n [a,b]):=by
 refine⟨?_, ?_⟩
 ·rw[nd_node,Y2f];omega
 ·rw[dep_node,depL,depL,depL]
  split<;>split<;>omega
theorem qJ_cons(m:Int):∀(ss:List Int) (x:Tr) (ts:List Tr),∃x' ts',(qJ m ss (x::ts)).1=x'::ts'
 |[],x,ts=>⟨x,ts,rfl⟩
 |o::ss,x,ts=>by
  rw[qJ]
  split
  ·cases ts with
   |nil=>exact qJ_cons m ss x []
   |cons y ts=>exact qJ_cons m ss _ ts
  ·exact⟨x,ts,rfl⟩
def cmp (f:Qf):Tr:=(qJ 0 f.ss f.ts).1.headD noTr
theorem qJ_mono:∀(ss:List Int) (x y:Tr) (ts:List Tr),leT x y->leT ((qJ 0 ss (x::ts)).1.headD noTr) ((qJ 0 ss (y::ts)).1.headD noTr)
 |[],x,y,ts,h=>h
 |o::ss,x,y,ts,h=>by
  rw[qJ,qJ,if_pos (by have:=lprec_pos o;omega),if_pos (by have:=lprec_pos o;omega)];cases ts with
  |nil=>exact qJ_mono ss x y [] h
  |cons z ts=>exact qJ_mono ss _ _ ts (leT_two h)
def Y54 (g:Qf) (y:Tr):Tr:=if g.op= -1\/g.op= -2 then y else .node ⟨g.op,0⟩ (g.ops++[y])
theorem nodeOf_mono{g:Qf}{x y:Tr}(h:leT x y):leT (Y54 g x) (Y54 g y):=by
 unfold Y54
 split
 ·exact h
 ·exact leT_snoc h
def wrapS:List Qf->Tr->Tr
 |[],x=>x
 |g::F,x=>wrapS F (Y54 g (cmp (pushT x g)))
theorem Y5g:∀(F:List Qf) {x y:Tr},leT x y->leT (wrapS F x) (wrapS F y)
 |[],x,y,h=>h
 |g::F,x,y,h=>Y5g F (nodeOf_mono (qJ_mono g.ss x y g.ts h))
def leaf:Tr:=.node ⟨0,0⟩ []
def K (b:Bool) (q:Qs):Tr:=if b=true then wrapS (q.f::q.F) leaf else wrapS q.F (Y54 q.f (cmp q.f))
theorem K_true(q:Qs):K true q=wrapS (q.f::q.F) leaf:=rfl
theorem K_false(q:Qs):K false q=wrapS q.F (Y54 q.f (cmp q.f)):=rfl
theorem cmp_of{f:Qf}{x:Tr}(h:qJ 0 f.ss f.ts=([x],[])):cmp f=x:=by rw[cmp,h];rfl
section
variable {t:List Int} {q:Qs} {g:Qf} {x:Tr}
theorem K_term(x:Tr)(b:Int)(u:Cu)(q:Qs):K false (Y1e x b (qU u q))=wrapS (q.f::q.F) x:=rfl
theorem K_push(op:Int)(u:Cu)(q:Qs)(ho:op≠ -1):leT (K true q) (K true (Y50 op [] (qU u q))):=by
 show leT (wrapS (q.f::q.F) leaf) (wrapS (q.f::q.F) (Y54 (fr0 op []) (cmp (pushT leaf (fr0 op [])))));exact Y5g _ (leT_leaf _ _)
theorem K_new(x:Tr)(b:Int)(u:Cu)(q:Qs):leT (K true q) (K false (Y1e x b (qU u q))):=by
 rw[K_term,K_true];exact Y5g _ (leT_leaf _ _)
theorem begin_K(q:Qs):(Y1o t q).2.c.wr=true\/leT (K true q) (K (Y1o t q).1 (Y1o t q).2):=by
 unfold Y1o
 repeat' split
 ·exact .inr (K_new _ _ _ _)
 ·exact .inr (K_new _ _ _ _)
 ·exact .inr (K_new _ _ _ _)
 ·exact .inr (K_push _ _ _ (by omega))
 ·exact .inr (K_new _ _ _ _)
 ·exact .inr (K_push _ _ _ (by omega))
 ·exact .inr (K_push _ _ _ (by omega))
 ·exact .inr (K_push _ _ _ (by omega))
 ·exact .inr (K_push _ _ _ (by omega))
 ·exact .inr (K_push _ _ _ (by omega))
 ·exact .inl rfl
theorem K_opd{q q1:Qs}{f':Qf}(h2:q1.F=q.F)(h3:q1.f=f')(f1:f'.op=q.f.op)(f2:f'.ops=q.f.ops++[cmp q.f])(f3:f'.ts=[])(f4:f'.ss=[])(ho:q.f.op≠ -1/\q.f.op≠ -2):leT (K false q) (K true q1):=by
 rw[K_false,K_true,h2,h3,wrapS];refine Y5g _ ?_;unfold Y54;rw[Vn,Vn,f1,f2];exact leT_more
theorem K_close{q q1:Qs}{n b:Int}(h2:q1.F=q.F)(h3:q1.f.ts=q.f.ts)(h4:q1.f.ss=q.f.ss)(h5:q1.f.ops=q.f.ops)(hF:q.F≠[])(ho:q.f.op≠ -1/\q.f.op≠ -2):leT (K false q) (K false (Y2a q.f.op n b (qOpd q1)))/\leT (K false (Y2a q.f.op n b (qOpd q1))) (K false q):=by
 have⟨g',F',e⟩:∃g' F',q.F=g'::F':=by
  cases h:q.F with
  |nil=>exact absurd h hF
  |cons g' F'=>exact⟨g',F',rfl⟩
 have e1:K false q=wrapS (g'::F') (Y54 q.f (cmp q.f)):=by rw[K_false,e]
 have e2:K false (Y2a q.f.op n b (qOpd q1))=wrapS (g'::F') (.node ⟨q.f.op,n⟩ (q.f.ops++[cmp q.f])):=by
  have eF:(qOpd q1).F=g'::F':=h2.trans e;rw[Y2a,Y47,eF];show wrapS F' (Y54 _ (cmp {g' with ts:=.node ⟨q.f.op,n⟩ (q1.f.ops++[(qJ 0 q1.f.ss q1.f.ts).1.headD noTr])::g'.ts}))=_;rw[h3,h4,h5];rfl
 have e3:Y54 q.f (cmp q.f)= .node ⟨q.f.op,0⟩ (q.f.ops++[cmp q.f]):=by rw[Y54,Vn]
 rw[e1,e2,e3];exact⟨Y5g _ (leT_snoc (leT.refl _)),Y5g _ (leT_snoc (leT.refl _))⟩
theorem K_sign(op:Int)(u:Cu)(hf:q.f.ts≠[]):leT (K false q) (K true (qSign op (qU u q))):=by
 have⟨x,ts,hx⟩:∃x ts,q.f.ts=x::ts:=by
  cases h:q.f.ts with
  |nil=>exact absurd h hf
  |cons x ts=>exact⟨x,ts,rfl⟩
 have⟨x',ts',h1⟩:=qJ_cons (Y3e op) q.f.ss x ts;rw[<-hx] at h1;refine Y5g q.F ?_;have e:Y54 (qSign op (qU u q)).f (cmp (pushT leaf (qSign op (qU u q)).f))=Y54 q.f ((qJ 0 (op::(qJ (Y3e op) q.f.ss q.f.ts).2) (leaf::(qJ (Y3e op) q.f.ss q.f.ts).1)).1.headD noTr):=rfl;rw[e];refine nodeOf_mono ?_;rw[h1,qJ,if_pos (by have:=lprec_pos op;omega)];show leT _ ((qJ 0 (qJ (Y3e op) q.f.ss q.f.ts).2 (.node ⟨op,0⟩ [x',leaf]::ts')).1.headD noTr);have e2:cmp q.f=(qJ 0 (qJ (Y3e op) q.f.ss q.f.ts).2 (x'::ts')).1.headD noTr:=by
  rw[<-h1,qJ_qJ (by have:=lprec_pos op;omega)];rfl
 rw[e2];exact qJ_mono _ _ _ _ (leT_left _ _ _)
theorem K_exp(op c:Int)(ho:op=7\/op=8)(u:Cu)(hf:q.f=pushT x g):leT (K false q) (K true (qExp op c (qU u q))):=by
 have e1:K false q=wrapS (g::q.F) x:=by rw[K_false,hf];rfl
 have e2:K true (qExp op c (qU u q))=wrapS (g::q.F) (Y54 (fr0 op [x]) leaf):=by
  show wrapS ({q.f with ts:=q.f.ts.tail}::q.F) (Y54 (fr0 op [q.f.ts.headD noTr]) leaf)=_;rw[hf];rfl
 rw[e1,e2];refine Y5g _ ?_;rw[Y54,if_neg (by show ¬(op= -1\/op= -2);omega)];exact leT_left _ _ _
theorem K_ungroup(u:Cu)(hF:q.F≠[])(ho:q.f.op= -2)(b:Int):K false (Y1e (qOpI q) b (Y47 (qU u q)))=K false q:=by
 have⟨g',F',e⟩:∃g' F',q.F=g'::F':=by
  cases h:q.F with
  |nil=>exact absurd h hF
  |cons g' F'=>exact⟨g',F',rfl⟩
 have eF:(qU u q).F=g'::F':=e;rw[Y47,eF,K_false,K_false,e];show wrapS F' (Y54 _ (cmp {g' with ts:=qOpI q::g'.ts}))=wrapS F' (Y54 g' (cmp (pushT (Y54 q.f (cmp q.f)) g')));rw[Y54,Y54,Y54,if_pos (c:=q.f.op= -1\/q.f.op= -2) (.inr ho)]
 rfl
theorem follow_K(R:FolI t q g x):(Y0h t q).2.c.wr=true\/(leT (K false q) (K (Y0h t q).1 (Y0h t q).2)/\((Y0h t q).1=false->leT (K false (Y0h t q).2) (K false q))):=by
 have f4:q.f.op=g.op:=by rw[R.f];rfl
 have hts:q.f.ts≠[]:=by rw[R.f];simp[pushT]
 have hFn:q.f.op≠ -1->q.F≠[]:=fun h=>by
  have⟨g',F',e,_⟩:=FI.outer R.fi (by rw[<-f4];exact h);rw[e];simp
 have hB:∀u:Cu,(qSgB t (qU u q)).2.c.wr=true\/(leT (K false q) (K (qSgB t (qU u q)).1 (qSgB t (qU u q)).2)/\((qSgB t (qU u q)).1=false->leT (K false (qSgB t (qU u q)).2) (K false q))):=fun u=>by
  unfold qSgB
  split
  ·exact .inr ⟨K_exp 7 24 (.inl rfl) u R.f,fun h=>by cases h⟩
  ·split
   ·exact .inr ⟨K_exp 8 6 (.inr rfl) u R.f,fun h=>by cases h⟩
   ·exact .inl rfl
 unfold Y0h
 split
 ·unfold qSgn
  split
  ·exact .inl rfl
  ·split
   ·exact hB _
   ·split
    ·rename_i hw;exact .inl hw
    ·split
     ·exact hB _
     ·unfold qEnd
      split
      ·rename_i he;have e3:((q.f.op==7||q.f.op==8)&&q.base !=2)=true:=he;simp only[X3,X07,beq_iff_eq] at e3;have:=K_close (q:=q) (q1:={qU (xpc t q.lv.dropLast q.c.adv) q with lv:=q.lv.dropLast}) (n:=0) (b:=0) rfl rfl rfl rfl (hFn (by omega)) (by omega);exact .inr ⟨this.1,fun _=>this.2⟩
      ·exact .inl rfl
 ·split
  ·exact .inl rfl
  ·split
   ·exact .inr ⟨K_sign _ _ hts,fun h=>by cases h⟩
   ·split
    ·exact .inr ⟨K_sign _ _ hts,fun h=>by cases h⟩
    ·split
     ·exact .inr ⟨K_sign _ _ hts,fun h=>by cases h⟩
     ·split
      ·exact .inr ⟨K_sign _ _ hts,fun h=>by cases h⟩
      ·unfold qRest
       split
       ·exact .inr ⟨leT.refl _,fun _=>leT.refl _⟩
       ·rename_i h1
        split
        ·rename_i h2;unfold Y53
         split
         ·exact .inl rfl
         ·have:=K_ungroup q.c.adv (hFn h1) h2 2;exact .inr ⟨by rw[this];exact leT.refl _,fun _=>by rw[this];exact leT.refl _⟩
        ·rename_i h2
         split
         ·rename_i h3;unfold Y3o
          by_cases c1:q.f.ents+1<(if q.f.cols=0 then 4 else q.f.cols)/\hit t 32 q.c=true
          ·rw[if_pos c1];exact .inr ⟨K_opd rfl rfl rfl rfl rfl rfl ⟨h1,h2⟩,fun h=>by cases h⟩
          ·rw[if_neg c1]
           by_cases c2:q.f.cols≠0/\q.f.ents+1≠q.f.cols
           ·rw[if_pos c2];exact .inl rfl
           ·rw[if_neg c2]
            by_cases c3:q.f.rows+1<4/\hit t 51 q.c=true
            ·rw[if_pos c3];exact .inr ⟨K_opd rfl rfl rfl rfl rfl rfl ⟨h1,h2⟩,fun h=>by cases h⟩
            ·rw[if_neg c3];have:=K_close (q:=q) (q1:=qRow (qU (xpc t [43] q.c) q)) (n:=8*(q.f.rows+1)+(q.f.ents+1)) (b:=1) rfl rfl rfl rfl (hFn h1) ⟨h1,h2⟩;rw[h3] at this;exact .inr ⟨this.1,fun _=>this.2⟩
         ·split
          ·exact .inr ⟨K_opd rfl rfl rfl rfl rfl rfl ⟨h1,h2⟩,fun h=>by cases h⟩
          ·split
           ·exact .inl rfl
           ·have:=K_close (q:=q) (q1:=qU (xpc t [clB q.f.op] q.c) q) (n:=0) (b:=1) rfl rfl rfl rfl (hFn h1) ⟨h1,h2⟩;exact .inr ⟨this.1,fun _=>this.2⟩
end
section
variable {t u:List Int}
theorem sum_ag0{c:Cu}(h0:0<=c.at_){m:Int}(hm:(numU u (sumV u c)).at_<=m)(a:Ag u t m):sumT t c=sumT u c/\numU t (sumV t c)=numU u (sumV u c)/\0<=(numU u (sumV u c)).at_:=by
 have g2:=numU_ge (t:=u) (sumV u c);have g3:=sumV_ge (t:=u) c;have g4:=(sumL_ge (t:=u) 4 [numN u (xpc u [60] c)] (numU u (xpc u [60] c))).1;have g5:=numU_ge (t:=u) (xpc u [60] c);have g6:=xpc_ge (t:=u) [60] c;have hA:sumA u c=sumL u 4 [numN u (xpc u [60] c)] (numU u (xpc u [60] c)):=rfl;rw[<-hA] at g4;have e1:=xpc_ag (t:=u) (t':=t) [60] (by simp) h0 (m:=m) (by omega) a;have e2:=num_ag (t:=u) (t':=t) (u:=xpc u [60] c) (by omega) (m:=m) (by omega) a;have e3:sumA t c=sumA u c:=by
  rw[sumA,sumA,e1,e2.1,e2.2];exact sumL_ag 4 _ (by omega) (m:=m) (by rw[<-hA];omega) a
 have e4:sumV t c=sumV u c:=by
  rw[sumV,sumV,e3];have:(0:Int)<=(if(sumA u c).1.length<2 then(sumA u c).2.bad else(sumA u c).2).at_:=by
   split<;>(try simp only[Cu.bad])<;>omega
  refine xpc_ag [51,60] (by simp) this (m:=m) ?_ a;have hv:sumV u c=xpc u [51,60] (if(sumA u c).1.length<2 then(sumA u c).2.bad else(sumA u c).2):=rfl;rw[<-hv];omega
 have e5:=num_ag (t:=u) (t':=t) (u:=sumV u c) (by omega) (m:=m) (by omega) a;exact⟨by rw[sumT,sumT,e3,e4,e5.1],by rw[e4,e5.2],by omega⟩
theorem sum_strict{c:Cu}(h0:0<=c.at_){m:Int}(hw:(sumU u c).wr=false)(hm:(sumU u c).at_<=m+1)(a:Ag u t m):sumT t c=sumT u c/\sumU t c=sumU u c:=by
 have h1:=(xpc_ok [34] _ hw).2;have hs:sumU u c=xpc u [34] (numU u (sumV u c)):=rfl;rw[<-hs] at h1;simp only[Xk] at h1;have⟨a1,a2,a3⟩:=sum_ag0 (t:=t) h0 (m:=m) (by omega) a;refine⟨a1, ?_⟩;rw[sumU,sumU,a2,xpc,xpc,hit_ag (by omega) a3 (m:=m) (by omega) a]
 rfl
theorem begin_pre{q:Qs}(h0:0<=q.c.at_){m:Int}(hw:(Y1o u q).2.c.wr=false)(hb:(Y1o u q).1=false)(hlt:q.c.at_<=m)(hm:(Y1o u q).2.c.at_<=m+1)(a:Ag u t m):leT (K false (Y1o u q).2) (K true q)\/Y1o t q=Y1o u q:=by
 have hh:∀c:Int,0<=c->hit t c q.c=hit u c q.c:=fun c hc=>hit_ag hc h0 (m:=m) (by omega) a;have lf:∀(n:Y6) (b:Int) (c:Cu),leT (K false (Y1e (.node n []) b (qU c q))) (K true q):=fun n b c=>by
  rw[K_term,K_true];exact Y5g _ (leT_leaf _ _)
 unfold Y1o at hw hb hm⊢;rw[hh 60 (by omega),hh 48 (by omega),hh 35 (by omega),hh 56 (by omega),hh 57 (by omega),hh 28 (by omega),hh 55 (by omega),hh 42 (by omega),hh 41 (by omega)]
 by_cases h1:hit u 60 q.c=true
 ·rw[if_pos h1];exact .inl (lf _ _ _)
 ·rw[if_neg h1] at hw hb hm⊢;rw[if_neg h1]
  by_cases h2:hit u 48 q.c=true
  ·rw[if_pos h2];exact .inl (lf _ _ _)
  ·rw[if_neg h2] at hw hb hm⊢;rw[if_neg h2]
   by_cases h3:hit u 35 q.c=true
   ·rw[if_pos h3] at hb;cases hb
   ·rw[if_neg h3] at hw hb hm⊢;rw[if_neg h3]
    by_cases h4:hit u 56 q.c=true
    ·rw[if_pos h4] at hw hm⊢;rw[if_pos h4];have⟨e1,e2⟩:=sum_strict (t:=t) (c:=q.c.adv) (by simp only[Cu.adv];omega) hw hm a
     right
     rw[e1,e2]
    ·right
     rw[if_neg h4];rw[if_neg h4]
theorem Run.wrong{b:Bool}{q r:Qs}(h:Run t b q r)(hw:q.c.wr=true):r=q:=by
 cases h with
 |stop _=>rfl
 |step hn _=>exact absurd (.inl hw) hn
theorem Run.done{b:Bool}{q r:Qs}(h:Run t b q r)(hd:q.dn=true):r=q:=by
 cases h with
 |stop _=>rfl
 |step hn _=>exact absurd (.inr hd) hn
theorem St.go{b:Bool}{q:Qs}(h:St t b q):¬(q.c.wr=true\/q.dn=true):=by
 cases b with
 |true=>
  have B:BegI t q:=h;rw[B.tk.w,B.dn];simp
 |false=>
  have⟨g,x,B⟩:∃g x,FolI t q g x:=h;rw[B.tk.w,B.dn];simp
theorem St.cu{b:Bool}{q:Qs}(h:St t b q):CuOk t q.c:=by
 cases b with
 |true=>exact(show BegI t q from h).tk.o
 |false=>
  have⟨g,x,B⟩:∃g x,FolI t q g x:=h;exact B.tk.o
theorem step_snd{b:Bool}{q:Qs}(h:St t b q):(Y3b t b q).2.c.wr=true\/((Y3b t b q).1=false/\b=false/\FinI t (Y3b t b q).2)\/St t (Y3b t b q).1 (Y3b t b q).2:=by
 cases b with
 |true=>
  rcases begin_snd (show BegI t q from h) with h|h
  ·exact .inl h
  ·exact .inr (.inr h)
 |false=>
  have⟨g,x,B⟩:∃g x,FolI t q g x:=h;rcases follow_snd B with h|h|h
  ·exact .inl h
  ·exact .inr (.inl ⟨h.1,rfl,h.2⟩)
  ·exact .inr (.inr h)
theorem step_K{b:Bool}{q:Qs}(h:St t b q):(Y3b t b q).2.c.wr=true\/leT (K b q) (K (Y3b t b q).1 (Y3b t b q).2):=by
 cases b with
 |true=>exact begin_K q
 |false=>
  have⟨g,x,B⟩:∃g x,FolI t q g x:=h;rcases follow_K B with h|h
  ·exact .inl h
  ·exact .inr h.1
theorem Run.K{b:Bool}{q s:Qs}(h:Run t b q s):s.c.wr=false->(b=false/\q.dn=true\/St t b q)->leT (Go.Proofs.YtfpcbalkioolmaaDoor.K b q) (Go.Proofs.YtfpcbalkioolmaaDoor.K false s):=by
 induction h with
 |@stop b q hs=>
  intro hw hq;rcases hq with h|h
  ·rw[h.1];exact leT.refl _
  ·exact absurd hs h.go
 |@step b q s hn hr ih=>
  intro hw hq;rcases hq with h|h
  ·exact absurd (.inr h.2) hn
  ·have w1:¬(Y3b t b q).2.c.wr=true:=fun h'=>by
    have:=hr.wrong h';rw[this,h'] at hw;cases hw
   rcases step_K h with h'|h'
   ·exact absurd h' w1
   ·refine leT.trans h' (ih hw ?_);rcases step_snd h with h|h|h
    ·exact absurd h w1
    ·exact .inl ⟨h.1,h.2.2.1⟩
    ·exact .inr h
theorem Run.pre{b:Bool}{q r:Qs}(h:Run u b q r)(hn:Nn u)(hn':Nn t)(a:Ag u t ((u.length:Nat)-1)):r.c.wr=false->∀{s:Qs},Run t b q s->s.c.wr=false->St u b q->St t b q->QI u q b->LvOk q.lv->leT (Go.Proofs.YtfpcbalkioolmaaDoor.K false r) (Go.Proofs.YtfpcbalkioolmaaDoor.K false s):=by
 induction h with
 |stop hs=>
  intro _ s _ _ hu;exact absurd hs hu.go
 |@step b q r hs hr ih=>
  intro hw s hrt hwt hu ht hQ hv;have kt:=hrt.K hwt (.inr ht);have w1:¬(Y3b u b q).2.c.wr=true:=fun h'=>by
   have:=hr.wrong h';rw[this,h'] at hw;cases hw
  rcases step_inv hQ hs with i1|i1|i1
  ·exact absurd i1 w1
  ·have⟨d1,Q1,adv⟩:=i1;have hu1:St u (Y3b u b q).1 (Y3b u b q).2:=by
    rcases step_snd hu with h|h|h
    ·exact absurd h w1
    ·rw[h.2.2.1] at d1;cases d1
    ·exact h
   have o:CuOk u q.c:=hu.cu;have o1:=hu1.cu
   --the steps agree,or this one went to the end
   have key:Y3b t b q=Y3b u b q\/(leT (Go.Proofs.YtfpcbalkioolmaaDoor.K false r) (Go.Proofs.YtfpcbalkioolmaaDoor.K false s)):=by
    by_cases hlt:(Y3b u b q).2.c.at_<(u.length:Nat)
    ·left
     cases b with
     |true=>exact begin_ag o.a0 (m:=(u.length:Nat)-1) (by show(Y3b u true q).2.c.at_<=_;omega) a
     |false=>exact follow_ag o hv hn hn' (m:=(u.length:Nat)-1) (by show(Y3b u false q).2.c.at_<=_;omega) a
    ·have hat:(Y3b u b q).2.c.at_=(u.length:Nat):=by have:=o1.a1;omega
     --what comes next is the end
     have fin:(Y3b u b q).1=false/\Go.Proofs.YtfpcbalkioolmaaDoor.K false r=Go.Proofs.YtfpcbalkioolmaaDoor.K false (Y3b u b q).2:=by
      cases hr with
      |stop hs'=>exact absurd hs' hu1.go
      |step hs' hr'=>
       rcases step_inv Q1 hs' with j1|j1|j1
       ·have:=hr'.wrong j1;rw[this,j1] at hw;cases hw
       ·have o2:CuOk u (Y3b u (Y3b u b q).1 (Y3b u b q).2).2.c:=QJ.o j1.2.1;have:=o2.a1;have:=j1.2.2;omega
       ·have:=hr'.done j1.1;refine⟨j1.2.1, ?_⟩;rw[this,K_false,K_false,j1.2.2.2.1,j1.2.2.2.2.1]
     rw[fin.2];cases b with
     |true=>
      rcases begin_pre (t:=t) (m:=(u.length:Nat)-1) o.a0 (Bool.eq_false_iff.2 w1) fin.1 (by have:=adv;omega) (by show(Y3b u true q).2.c.at_<=_;omega) a with h|h
      ·exact .inr (leT.trans h kt)
      ·exact .inl h
     |false=>
      have⟨g,x,B⟩:∃g x,FolI u q g x:=hu;rcases follow_K B with h|h
      ·exact absurd h w1
      ·exact .inr (leT.trans (h.2 fin.1) kt)
   rcases key with key|key
   ·cases hrt with
    |stop hs'=>exact absurd hs' hs
    |step _ hrt'=>
     have st:=step_snd ht;rw[key] at hrt' st;refine ih hw hrt' hwt hu1 ?_ Q1 hv.step;rcases st with h|h|h
     ·exact absurd h w1
     ·rw[h.2.2.1] at d1;cases d1
     ·exact h
   ·exact key
  ·have hb:=i1.2.1;subst hb;have e:=hr.done i1.1;have⟨g,x,B⟩:∃g x,FolI u q g x:=hu;rw[e,K_false,i1.2.2.2.1,i1.2.2.2.2.1, <-K_false];exact kt
theorem FinI.K{q:Qs}{x:Tr}(h:FinI t q)(hx:qJ 0 q.f.ss q.f.ts=([x],[])):Go.Proofs.YtfpcbalkioolmaaDoor.K false q=x:=by
 have⟨_,y,h1,_,_,h4,_,h6⟩:=h;rw[K_false,h4,wrapS,Y54,if_pos (.inl h6),cmp_of hx]
theorem m_pre(hn:Nn u)(hn':Nn t)(a:Ag u t ((u.length:Nat)-1))(hu:(mRun u).c.wr=false)(ht:(mRun t).c.wr=false):leT (K false (mRun u)) (K false (mRun t)):=
 (run_m u).pre hn hn' a hu (run_m t) ht (q00_BegI u) (q00_BegI t) (q00_QI u) (fun c hc=>by simp[q00] at hc)
end
end Go.Proofs.YtfpcbalkioolmaaDoor
