/- Own work. -/
import Derived.Test.YtfpcbalkioolmaaDoorLrC
import Derived.Test.YtfpcbalkioolmaaDoorWpA
import Derived.Test.YtfpcbalkioolmaaDoorWpB
set_option linter.unusedSimpArgs false
set_option linter.unusedVariables false
namespace Go.Proofs.YtfpcbalkioolmaaDoor
open Go.Abs
def pOpd (s:Ls):Ls:={Y2m s with f:={(Y2m s).f with ops:=(Y2m s).f.ops++[pOpI s]}}
section
variable {h h0:Hp} {g g0:Tag} {t:List Int} {s:Ls} {L L0:Lay} {n0:Nat} {r:Bool×Qs}
theorem InvJ.cu(I:InvJ s n0)(u:Cu):InvJ {s with c:=u} n0:=⟨I.ok.cu u,I.len,I.bT,I.bF⟩
theorem pJoin_ops(m:Int):∀(k:Nat) (s:Ls),(Y55 m k s).f.ops=s.f.ops∧(Y55 m k s).f.op=s.f.op∧(Y55 m k s).f.cols=s.f.cols∧(Y55 m k s).f.rows=s.f.rows∧(Y55 m k s).f.ents=s.f.ents∧(Y55 m k s).F=s.F∧(Y55 m k s).c=s.c∧(Y55 m k s).lv=s.lv∧(Y55 m k s).base=s.base
 |0,s=>⟨rfl,rfl,rfl,rfl,rfl,rfl,rfl,rfl,rfl⟩
 |k+1,s=>by
  rw[Y55]
  split
  ·exact pJoin_ops m k (jStep s)
  simp_all
theorem pOpd_ok(I:InvJ s n0):Ok (pOpd s) n0∧abs (pOpd s)=qOpd (abs s)∧(pOpd s).F=s.F∧(pOpd s).T.length=s.T.length+s.f.signs.length∧(pOpd s).f.terms=[]∧(pOpd s).f.signs=[]∧(pOpd s).f.ops.length=s.f.ops.length+1:=by
 have⟨a,b,c,d⟩:=pOperand_ok I;have⟨h1,h2,h3,h4,h5⟩:=pOp_one I;have⟨j1,j2,j3,j4,j5,j6,_⟩:=pJoin_ops 0 s.f.signs.length s;have hT:(Y2m s).T=(Y55 0 s.f.signs.length s).T:=rfl;have e:abs (pOpd s)={abs (Y2m s) with f:={(abs (Y2m s)).f with ops:=(abs (Y2m s)).f.ops++[tr (Y2m s).T (pOpI s)]}}:=by simp[abs,pOpd,alf]
 have e2:abs (pOpd s)=qOpd (abs s):=by rw[e,b,hT,h5,qOpd]
 refine⟨⟨a.okT,a.vF,⟨a.vf.1,fun i hi=> ?_⟩,a.dep, ?_⟩,e2,j6,d,rfl,h2, ?_⟩
 ·simp only[pOpd,Xi,X8] at hi;rcases hi with hi|rfl
  ·exact a.vf.2 i hi
  ·exact⟨h3,h4⟩
 ·have ht:=a.tot;show(Y2m s).T.length=_;rw[ht,e2,b];simp only[szQ,szF,qOpd,Y79,Y10,Y27];omega
 ·show((Y55 0 s.f.signs.length s).f.ops++[pOpI s]).length=_;rw[j1,X4,Xc]
theorem m_op(R:Rep h g t s L)(hfn:L.fn=s.F.length+1)(I:InvJ s n0)(hn:s.f.ops.length≤900000000){J:Hp→Prop}(hJ:∀h' g' L',Rep h' g' t (pOpd s) L'→Kept h g h' g'→LX L L'→J h'):
  (Has h L.fr L.fv)∧∃(s19:AV),(NC s19)∧(Ld h L.fr L.fv (0+s.F.length*7+1) s19)∧∃(h22:Hp),∃(x23:Int),(CallOK Tryd.prog 28 [.ref L.p 0 0] h h22 (.int .i64 x23))∧∃(r25:Nat),∃(h26:Hp),(Nw h22 r25 ⟨0,true,3,1,[.int .i64 x23]⟩ h26)∧∃(h28:Hp),∃(s30:AV),(NC s30)∧(App h26 s19 3 1 8 1 [.int .i64 x23] h28 s30)∧(Has h28 L.fr L.fv)∧(oneA h28 s30)∧∃(h33:Hp),(St h28 L.fr L.fv (0+s.F.length*7+1) s30 h33)∧(Has h22 L.fr L.fv)∧(Has h26 L.fr L.fv)∧(Ld h22 L.fr L.fv (0+s.F.length*7+1) s19)∧(Ld h26 L.fr L.fv (0+s.F.length*7+1) s19)∧J h33:=by
 have⟨h1,g1,L1,a1,a2,a3,a4⟩:=c_operand R hfn I;have⟨j1,j2,j3,j4,j5,j6,_⟩:=pJoin_ops 0 s.f.signs.length s;have eF:(Y2m s).F=s.F:=j6;have eo:(Y2m s).f.ops=s.f.ops:=j1;have⟨r,hr⟩:=h1.fresh;have⟨c1,c2,c3,c4⟩:=a2.grow (u:=4) (rt:=⟨0,true,3,1,[.int .i64 (pOpI s)]⟩) (.inr rfl) hr;have⟨h3,y,d1,d2,d3,d4,h4,g4,d5,d6,d7⟩:=c2.appOp (pOpI s) (by grind);have l1:=a2.fp.ldRow (k:=1) rfl;have l2:=c2.fp.ldRow (k:=1) rfl;have k1:=a2.fp.hasF;have k2:=c2.fp.hasF;rw[eF] at d5 l1 l2;rw[a4.fr,a4.fv] at d3 d5 l1 l2 k1 k2;rw[a4.xo] at d1 l1 l2;exact⟨R.fp.hasF,L.ρ.xo,R.fp.row.1.1.nc,R.fp.ldRow (k:=1) rfl,h1,_,a1,r,_,c1,h3,y,d2,d1,d3,d4,h4,d5,k1,k2,l1,l2,hJ _ _ _ d6 ((a3.trans ((c3 fun u=>u=4).kept rfl)).trans d7) ⟨a4.p,a4.fr,a4.fv,a4.fn⟩⟩
theorem abs_drop{F':List Fr}{f':Fr}(hF:s.F=F'++[f']):abs {s with F:=F',f:=f'}=Y5x (abs s):=by
 have:(abs s).F=alf s.T f'::(F'.map (alf s.T)).reverse:=by simp[abs,hF]
 rw[Y5x,this]
 rfl
theorem Ok.drop{F':List Fr}{f':Fr}(hF:s.F=F'++[f'])(v:Ok s n0):Ok {s with F:=F',f:=f'} (n0+szF (abs s).f):=by
 have hf':=v.vF f' (by grind);refine⟨v.okT,fun f hf=>v.vF f (by simp_all),hf',v.dep, ?_⟩;have:(abs s).F=alf s.T f'::(F'.map (alf s.T)).reverse:=by simp[abs,hF]
 have ht:=v.tot;rw[abs_drop hF,Y5x,this];rw[szQ,this] at ht;show s.T.length=_;simp only[szQ,szFs] at ht⊢;omega
theorem m_close(R:Rep h g t s L)(hfn:L.fn=s.F.length+1)(hF:s.F≠[])(v:Ok s 0)(hts:s.f.terms=[])(hb:s.T.length≤900000000)(hn:s.f.ops.length≤900000000)(hf:s.F.length≤900000000)(ht:∀f∈s.F,f.terms.length≤900000000)(op n b:Int){a:Bool}(K:Kept h0 g0 h g)(hp:L.p=L0.p)(hr:r=(a,Y2y op n b (abs s))):
  NC L.ρ.xo∧(Ld h L.fr L.fv (0+s.F.length*7+1) L.ρ.xo)∧∃(h46:Hp),∃(x47:Int),(CallOK Tryd.prog 57 [.ref L.p 0 0,.int .i64 op,.int .i64 n,L.ρ.xo] h h46 (.int .i64 x47))∧∃(h49:Hp),(CallOK Tryd.prog 67 [.ref L.p 0 0,.int .i64 x47,.int .i64 b] h46 h49 (.tup []))∧(Y7i h0 g0 t L0 r h49 (.bool a)):=by
 have⟨F',f',hF'⟩:∃F' f',s.F=F'++[f']:=⟨s.F.dropLast,s.F.getLast hF,(List.dropLast_concat_getLast hF).symm⟩;have hlen:s.F.length=F'.length+1:=by simp_all
 have⟨R',ρ',R1,lR'⟩:=R.drop hF'
 --the operands' root is given to the trees
 have⟨g2,R2,x2,k2⟩:∃g2,Rep h g2 t {s with F:=F',f:=f'} {L with R:=R',ρ:=ρ',G:=row7 s.f L.ρ++L.G}∧(∀r∈Y18 L.ρ.xo,g2 r=3)∧Kept h g h g2:=by
  rcases hx:Y18 L.ρ.xo with _|⟨q,rest⟩
  ·exact⟨g,R1,fun r hr=>by simp at hr,Kept.refl _ _⟩
  ·have hq:g q=10+3*s.F.length:=R.fp.row.1.2 q (by grind);have⟨b1,b2⟩:=R1.retag (q:=q) (.inr (by simp_all));refine⟨upg g q 3,b1,fun r hr=> ?_,(b2.sub (S':=fun u=>u=4) fun t ht=>by omega).kept rfl⟩;rw[rootA_one hx] at hr;simp only[X8] at hr;rw[hr];exact upg_self _ _ _
 have v2:=v.drop hF';have e1:szF (abs s).f=ndL (s.f.ops.map (tr s.T)):=by simp[szF,abs,alf,hts,Y27]
 have⟨h4,g4,L4,a1,a2,a3,a4⟩:=c_add R2 op n R.fp.row.1.1 x2 v2 v.vf.2 (by grind) (by omega);have v4:=v2.add (op:=op) (n:=n) v.vf.2;have t4:tr (pAdd op n s.f.ops {s with F:=F',f:=f'}).T ((s.T.length:Nat):Int)= .node ⟨op,n⟩ (s.f.ops.map (tr s.T)):=tr_new v.okT v.vf.2;have⟨h5,g5,L5,b1,b2,b3,b4,b5⟩:=c_close a2 (by rw[a4.fn];simp only[pAdd];omega) ((s.T.length:Nat):Int) b (by simp only[pAdd];omega) (by have:=ht f' (by simp_all);simp only[pAdd];omega);have p4:L4.p=L.p:=a4.p;rw[p4] at b1;have ea:abs (pTerm ((s.T.length:Nat):Int) b (pAdd op n s.f.ops {s with F:=F',f:=f'}))=Y2y op n b (abs s):=by
  rw[abs_term,t4,abs_add v2,abs_drop hF'];rfl
 refine⟨R.fp.row.1.1.nc,R.fp.ldRow (k:=1) rfl,h4,_,a1,h5,b1,by rw[hr],g5,L5,_,b2,Ok.term (by rw[t4,Y5y, ←e1];simp_all) ⟨by omega,by simp only[pAdd,X4,Xc];omega⟩,by rw[ea,hr],(K.trans (k2.trans a3)).trans b3,(b4.trans p4).trans hp,by rw[b5];rfl⟩
structure InvF (t:List Int) (s:Ls):Prop where
 J:InvJ s 0
 b:Bd t s
 nO:s.f.ops.length≤800000000
 c:0≤s.f.cols∧s.f.cols≤4∧0≤s.f.rows∧s.f.rows≤3∧0≤s.f.ents∧s.f.ents≤3
 top:s.f.op= -1∨s.F≠[]
 tF:∀f∈s.F,f.terms.length≤800000000
 lv:s.lv.length≤800000000
 gr:s.f.op= -2→s.f.ops=[]
theorem c_end(R:Rep h g t s L)(hfn:L.fn=s.F.length+1)(I:InvF t s)(hF:s.F≠[])(hlv:s.lv≠[])(e:Bool)(K:Kept h0 g0 h g)(hp:L.p=L0.p)(hr:r=qEnd e (abs s)):
  ∃h' av,CallOK Tryd.prog 78 [.ref L.p 0 0,.ref L.fr L.fv (0+s.F.length*7),.bool e] h h' av∧Y7i h0 g0 t L0 r h' av:=by
 have hT:=I.b.T;refine Y3g (w_end (h:=h) (p:=L.p) (r1:=L.fr) (v1:=L.fv) (o1:=0+s.F.length*7) (a2:=e) (Q:=Y7i h0 g0 t L0 r) (Qp:=fun _ _=>False) ⟨fun he=>⟨R.has, ?_⟩,fun he=> ?_⟩)
 ·have he':e=false:=by simp_all
  exact m_bad R hfn I.J.ok K hp (by rw[hr,he',qEnd,if_neg (by simp)])
 ·have he':e=true:=by simp_all
  have hl0:0<s.lv.length:=List.length_pos_iff.2 hlv;have hl1:=I.lv;have⟨y,c1,c2,c3,c4⟩:=SlU.cut R.lp.1 (j:=((s.lv.length:Nat):Int)-1) (by omega) (by omega) hl0;rw[show(((s.lv.length:Nat):Int)-1).toNat=s.lv.length-1 by omega, ←List.dropLast_eq_take] at c3;have⟨h1,d1,d2,d3⟩:=Rep.setB (s':={s with lv:=s.lv.dropLast}) (L':={L with xl:=y}) R.box R.gp (k:=5) (y:=y) (by omega) (Y5o c3.one) (Y6b c3.one) rfl rfl R.fp R.tp ⟨c3,fun r hr=>R.lp.2 r (by simp_all)⟩;have K1:Kept h g h1 g:=(Kpt.same (S:=fun u=>u=4) d3 (by rw[R.gp];omega)).kept rfl;have I1:InvJ {s with lv:=s.lv.dropLast} 0:=⟨I.J.ok.same rfl rfl rfl rfl,I.J.len,I.J.bT,I.J.bF⟩;have⟨o1,o2,o3,o4,o5,o6,o7⟩:=pOpd_ok I1;refine⟨R.has,L.xl,R.lp.1.nc,R.ldL,s.lv.length,R.lp.1.len,Y93 (by omega) (by omega),y,c1,c2,c3.one,h1,d1,m_op d2 hfn I1 (by have:=I.nO;grind) fun h' g' L' b1 b2 b3=> ?_⟩;have hbT:=I.J.bT;have hbF:=I.b.F;have M:=m_close (h0:=h0) (g0:=g0) (L0:=L0) (r:=r) b1 (by rw[b3.fn,o3];exact hfn) (by simp_all) o1 o5 (by simp_all) (by rw[o7];have:=I.nO;grind) (by grind) (by rw[o3];exact fun f hf=>by have:=I.tF f hf;omega) s.f.op 0 0 (a:=false) ((K.trans K1).trans b2) (b3.p.trans hp) (by rw[hr,he',qEnd,if_pos rfl,o2];rfl);have hl:=b1.fp.ldRow (k:=0) rfl;rw[o3,b3.fr,b3.fv,b3.p] at M;rw[o3,b3.fr,b3.fv] at hl;have hh:=b1.fp.hasF;rw[b3.fr,b3.fv] at hh
  have eop:(pOpd {s with lv:=s.lv.dropLast}).f.op=s.f.op:=(pJoin_ops 0 s.f.signs.length {s with lv:=s.lv.dropLast}).2.1
  grind
end
section
variable {h h0:Hp} {g g0:Tag} {t:List Int} {s:Ls} {L L0:Lay} {n0:Nat} {r:Bool×Qs}
theorem c_simple(h:Hp)(op:Int):CallOK Tryd.prog 74 [.int .i64 op] h h (.bool (simO op)):=by
 have H:=Y3g (w_simple (h:=h) (a0:=op) (Q:=fun h' av=>h'=h∧av= .bool (simO op)) (Qp:=fun _ _=>False) (by
  unfold pre_simple simO
  simp_all))
 simp_all
theorem last_term{l:List Int}(h0:0<l.length):∃A,l=A++[l.getD (l.length-1) 0]∧A=l.take (l.length-1):=by
 refine⟨_, ?_,rfl⟩
 conv=>lhs;rw[←X0i (l.length-1) l]
 congr 1;rw[X06 (by omega),X1d (by omega),X6,X5 (by omega)]
 rfl
theorem abs_last(h0:0<s.f.terms.length):(abs s).f.ts=tr s.T (s.f.terms.getD (s.f.terms.length-1) 0)::((s.f.terms.take (s.f.terms.length-1)).map (tr s.T)).reverse:=by
 have⟨A,h1,h2⟩:=last_term h0;show(s.f.terms.map (tr s.T)).reverse=_
 grind
theorem opn_tr{T:List Tn}(hT:OkT T){i:Int}(h:0≤i∧i<(T.length:Nat)):opn (tr T i)=(T.getD i.toNat noT).op:=by rfl
theorem c_ungroup(R:Rep h g t s L)(hfn:L.fn=s.F.length+1)(I:InvF t s)(hF:s.F≠[])(hop:s.f.op= -2)(K:Kept h0 g0 h g)(hp:L.p=L0.p)(hr:r=Y4e t (abs s)):
  ∃h' av,CallOK Tryd.prog 65 [.ref L.p 0 0,.ref L.fr L.fv (0+s.F.length*7)] h h' av∧Y7i h0 g0 t L0 r h' av:=by
 have hT:=I.b.T;have hbF:=I.b.F;have hlen:=I.J.len;have hbT:=I.J.bT;have htm:=I.b.tm;have ht0:0<s.f.terms.length:=by omega
 have⟨r4,v4,o4,e1,e2⟩:=SlI.get R.fp.row.2.1.1 (j:=((s.f.terms.length:Nat):Int)-1) (by omega) (by omega);rw[show(((s.f.terms.length:Nat):Int)-1).toNat=s.f.terms.length-1 by omega] at e2;have hv:=I.J.ok.vf.1 (s.f.terms.getD (s.f.terms.length-1) 0) (by simp_all);have⟨r2,v2,f1,f2,f3,_⟩:=SlA.ix R.tp.trs hv.1 hv.2;have f4:=f3 0 _ (by omega) (treesC_op R.tp.lX (by omega));have hst:(abs s).f.ts.headD noTr=tr s.T (s.f.terms.getD (s.f.terms.length-1) 0):=by rw[abs_last ht0];rfl
 have hopn:=opn_tr I.J.ok.okT hv;have hss:(abs s).f.ss=[]↔s.f.signs.length=0:=by simp[abs,alf]
 have ru:r=if((abs s).f.ss=[]∧simO (opn ((abs s).f.ts.headD noTr))=true)∨hit t 50 s.c=false then(true,qBad (abs s)) else(false,Y1z (qOpI (abs s)) 2 (Y5x (qU s.c.adv (abs s)))):=hr
 refine Y3g (w_ungroup (h:=h) (p:=L.p) (r1:=L.fr) (v1:=L.fv) (o1:=0+s.F.length*7) (Q:=Y7i h0 g0 t L0 r) (Qp:=fun _ _=>False)
  ⟨R.has,L.xt,R.tp.trs.nc,R.ldT,R.fp.hasF,L.ρ.xt,R.fp.row.2.1.1.nc,R.fp.ldRow (k:=2) rfl,s.f.terms.length,R.fp.row.2.1.1.len,Y93 (by omega) (by omega),r4,v4,o4,e1,_,e2,r2,v2,_,f1,f2,_,f4,
   fun y h25=>(y=true∧r=(true,qBad (abs s))∧Rep h25 g t s L∧Kpt h g h25 g fun u=>u≠0)∨(y=false∧r=(false,Y1z (qOpI (abs s)) 2 (Y5x (qU s.c.adv (abs s))))∧Rep h25 g t {s with c:=s.c.adv} L∧Kpt h g h25 g fun u=>u≠0), ?_,L.ρ.xs,R.fp.row.2.2.1.nc,R.fp.ldRow (k:=3) rfl,s.f.signs.length,R.fp.row.2.2.1.len,fun h0'=> ?_,fun h0'=> ?_⟩)
 ·rintro y h25 (⟨rfl,hr1,R1,K1⟩|⟨rfl,hr1,R1,K1⟩)
  ·exact⟨fun _=>⟨R1.has,m_bad R1 hfn I.J.ok (K.trans (K1.kept (by omega))) hp hr1⟩,fun e=>by cases e⟩
  ·have I1:=I.J.cu s.c.adv;have⟨h49,g49,L49,a1,a2,a3,a4⟩:=c_operand R1 hfn I1;have⟨o1,o2,o3,o4'⟩:=pOperand_ok I1;have⟨p1,p2,p3,p4,p5⟩:=pOp_one I1;have⟨j1,j2,j3,j4,j5,j6,_⟩:=pJoin_ops 0 s.f.signs.length {s with c:=s.c.adv};have eF:(Y2m {s with c:=s.c.adv}).F=s.F:=j6;have⟨F',f',hF'⟩:∃F' f',s.F=F'++[f']:=⟨s.F.dropLast,s.F.getLast hF,(List.dropLast_concat_getLast hF).symm⟩;have hlF:s.F.length=F'.length+1:=by simp_all
   have⟨R',ρ',R2,lR'⟩:=a2.drop (eF.trans hF');have hmem:f'∈s.F:=by simp_all
   have⟨h52,g52,L52,b1,b2,b3,b4,b5⟩:=c_close R2 (by simp only;rw[a4.fn,hfn];omega) (pOpI {s with c:=s.c.adv}) 2 (by grind) (by have:=I.tF f' hmem;grind);have p49:L49.p=L.p:=a4.p;simp only[p49] at b1;have v2:=o1.drop (eF.trans hF');have sz0:szF (abs (Y2m {s with c:=s.c.adv})).f=0:=by
    rw[o2];have:(abs {s with c:=s.c.adv}).f.ops=[]:=by
     show s.f.ops.map (tr s.T)=[];rw[I.gr hop];rfl
    simp only[szF,this,Y27]
   rw[sz0] at v2;have ed:=abs_drop (eF.trans hF');have eabs:abs (pTerm (pOpI {s with c:=s.c.adv}) 2 {Y2m {s with c:=s.c.adv} with F:=F',f:=f'})=Y1z (qOpI (abs s)) 2 (Y5x (qU s.c.adv (abs s))):=by
    rw[abs_term,ed,o2];have e5:tr (Y2m {s with c:=s.c.adv}).T (pOpI {s with c:=s.c.adv})=qOpI (abs s):=p5;simp only[e5];have e6:(abs {s with c:=s.c.adv}).F=alf s.T f'::(F'.map (alf s.T)).reverse:=by simp[abs,hF']
    simp only[Y5x,qU,e6];have e7:(abs s).F=alf s.T f'::(F'.map (alf s.T)).reverse:=by simp[abs,hF']
    rw[e7]
    rfl
   refine⟨fun e=>(by cases e),fun _=>⟨h49,_,a1,h52,b1,by rw[hr1],g52,L52,_,b2,Ok.term (i:=pOpI {s with c:=s.c.adv}) (by
    have e5:tr (Y2m {s with c:=s.c.adv}).T (pOpI {s with c:=s.c.adv})=qOpI (abs {s with c:=s.c.adv}):=p5
    simp_all) ⟨p3,p4⟩,by rw[eabs,hr1],((K.trans (K1.kept (by omega))).trans a3).trans b3,(b4.trans p49).trans hp,by rw[b5];rfl⟩⟩
 ·have hs0:s.f.signs.length=0:=by simp_all
  refine⟨_,c_simple h _,fun hb=> ?_,fun hb=> ?_⟩
  ·exact .inl ⟨rfl,by rw[ru,if_pos (.inl ⟨hss.2 hs0,by simp_all⟩)],R,Kpt.refl⟩
  ·rcases nx R I.b.o I.b.l 50 with⟨hh,h1,a1,a2,a3,o1⟩|⟨hh,h1,a1,a2,a3⟩
   ·grind
   grind
 ·have hs0:¬s.f.signs.length=0:=by
   simp_all
  rcases nx R I.b.o I.b.l 50 with⟨hh,h1,a1,a2,a3,o1⟩|⟨hh,h1,a1,a2,a3⟩
  ·grind
  grind
def pRow (s:Ls):Ls:={s with f:={s.f with cols:=s.f.ents+1,ents:=0,rows:=s.f.rows+1}}
theorem InvJ.row(I:InvJ s n0):InvJ (pRow s) n0:=⟨I.ok.same rfl rfl rfl rfl,I.len,I.bT,I.bF⟩
theorem m_row(R:Rep h g t s L)(e4:0≤s.f.ents∧s.f.ents≤3)(r4:0≤s.f.rows∧s.f.rows≤3){J:Hp→Prop}(hJ:∀h',Rep h' g t (pRow s) L→Kept h g h' g→J h'):
  ∃(x94:Int),(Ld h L.fr L.fv (0+s.F.length*7+6) (.int .i64 x94))∧(okA .i64 (x94+1:Int))∧∃(h97:Hp),(St h L.fr L.fv (0+s.F.length*7+4) (.int .i64 (x94+1)) h97)∧(Has h97 L.fr L.fv)∧∃(h100:Hp),(St h97 L.fr L.fv (0+s.F.length*7+6) (.int .i64 0) h100)∧(Has h100 L.fr L.fv)∧∃(x103:Int),(Ld h100 L.fr L.fv (0+s.F.length*7+5) (.int .i64 x103))∧(okA .i64 (x103+1:Int))∧∃(h106:Hp),(St h100 L.fr L.fv (0+s.F.length*7+5) (.int .i64 (x103+1)) h106)∧J h106:=by
 have⟨h1,a1,a2,a3⟩:=R.stInt (k:=4) (v:=s.f.ents+1) (f':={s.f with cols:=s.f.ents+1}) (by omega) rfl rfl rfl rfl;have⟨h2,b1,b2,b3⟩:=a2.stInt (k:=6) (v:=0) (f':={s.f with cols:=s.f.ents+1,ents:=0}) (by omega) rfl rfl rfl rfl;have⟨h3,c1,c2,c3⟩:=b2.stInt (k:=5) (v:=s.f.rows+1) (f':={s.f with cols:=s.f.ents+1,ents:=0,rows:=s.f.rows+1}) (by omega) rfl rfl rfl rfl;exact⟨s.f.ents,R.fp.ldRow (k:=6) rfl,Y93 (by omega) (by omega),h1,a1,a2.fp.hasF,h2,b1,b2.fp.hasF,s.f.rows,b2.fp.ldRow (k:=5) rfl,Y93 (by omega) (by omega),h3,c1,hJ h3 c2 ((a3.trans b3).trans c3)⟩
def qMat2 (t:List Int) (q:Qs):Bool×Qs:=
 if q.f.cols≠0∧q.f.ents+1≠q.f.cols then(true,qBad q)
 else if q.f.rows+1<4∧hit t 51 q.c=true then(true,qOpd (qRow (qU q.c.adv q)))
 else(false,Y2y 13 (8*(q.f.rows+1)+(q.f.ents+1)) 1 (qOpd (qRow (qU (xpc t [43] q.c) q))))
theorem m_matB{h12:Hp}{y16:Bool}{r3:Nat}(hfn:L.fn=s.F.length+1)(I:InvF t s)(hF:s.F≠[])(K:Kept h0 g0 h12 g)(hp:L.p=L0.p)(hb:h12.at r3=some ⟨0,true,80,3,[.int .u8 41,.int .u8 32,.int .u8 43]⟩)(gb:g r3=4)
  (hJ:(y16=true∧Rep h12 g t {s with c:=s.c.adv} L∧r=(true,qOpd {qU s.c.adv (abs s) with f:={(abs s).f with ents:=(abs s).f.ents+1}}))∨(y16=false∧Rep h12 g t s L∧r=qMat2 t (abs s))):
  (((y16)=true→(Has h12 L.fr L.fv)∧∃(x29:Int),(Ld h12 L.fr L.fv (0+s.F.length*7+6) (.int .i64 x29))∧(okA .i64 (x29+1:Int))∧∃(h32:Hp),(St h12 L.fr L.fv (0+s.F.length*7+6) (.int .i64 (x29+1)) h32)∧(Has h32 L.fr L.fv)∧∃(s35:AV),(NC s35)∧(Ld h32 L.fr L.fv (0+s.F.length*7+1) s35)∧∃(h38:Hp),∃(x39:Int),(CallOK Tryd.prog 28 [.ref L.p 0 0] h32 h38 (.int .i64 x39))∧∃(r41:Nat),∃(h42:Hp),(Nw h38 r41 ⟨0,true,3,1,[.int .i64 x39]⟩ h42)∧∃(h44:Hp),∃(s46:AV),(NC s46)∧(App h42 s35 3 1 8 1 [.int .i64 x39] h44 s46)∧(Has h44 L.fr L.fv)∧(oneA h44 s46)∧∃(h49:Hp),(St h44 L.fr L.fv (0+s.F.length*7+1) s46 h49)∧(Has h38 L.fr L.fv)∧(Has h42 L.fr L.fv)∧(Ld h38 L.fr L.fv (0+s.F.length*7+1) s35)∧(Ld h42 L.fr L.fv (0+s.F.length*7+1) s35)∧(Y7i h0 g0 t L0 r h49 (.bool true)))∧((y16)=false→∃(J56:Bool→Prop),(∀(y59:Bool),J56 y59→((((y59)=true→(Has h12 L.p 0)∧∃(h69:Hp),(St h12 L.p 0 2 (.bool true) h69)∧(Y7i h0 g0 t L0 r h69 (.bool true)))∧((y59)=false→∃(J72:Bool→Hp→Prop),(∀(y75:Bool) (h71:Hp),J72 y75 h71→((((!y75)=true→(Has h71 r3 0)∧∃(x86:Int),(Ld h71 r3 0 2 (.int .u8 x86))∧∃(r88:Nat),∃(h89:Hp),(Nw h71 r88 ⟨0,true,33,1,[.int .u8 x86]⟩ h89)∧∃(h91:Hp),(CallOK Tryd.prog 62 [.ref L.p 0 0,.rsl r88 0 0 1] h89 h91 (.tup []))∧(Has h91 L.fr L.fv)∧∃(x94:Int),(Ld h91 L.fr L.fv (0+s.F.length*7+6) (.int .i64 x94))∧(okA .i64 (x94+1:Int))∧∃(h97:Hp),(St h91 L.fr L.fv (0+s.F.length*7+4) (.int .i64 (x94+1)) h97)∧(Has h97 L.fr L.fv)∧∃(h100:Hp),(St h97 L.fr L.fv (0+s.F.length*7+6) (.int .i64 0) h100)∧(Has h100 L.fr L.fv)∧∃(x103:Int),(Ld h100 L.fr L.fv (0+s.F.length*7+5) (.int .i64 x103))∧(okA .i64 (x103+1:Int))∧∃(h106:Hp),(St h100 L.fr L.fv (0+s.F.length*7+5) (.int .i64 (x103+1)) h106)∧(Has h106 L.fr L.fv)∧∃(s109:AV),(NC s109)∧(Ld h106 L.fr L.fv (0+s.F.length*7+1) s109)∧∃(h112:Hp),∃(x113:Int),(CallOK Tryd.prog 28 [.ref L.p 0 0] h106 h112 (.int .i64 x113))∧∃(r115:Nat),∃(h116:Hp),(Nw h112 r115 ⟨0,true,3,1,[.int .i64 x113]⟩ h116)∧∃(h118:Hp),∃(s120:AV),(NC s120)∧(App h116 s109 3 1 8 1 [.int .i64 x113] h118 s120)∧(Has h118 L.fr L.fv)∧(oneA h118 s120)∧∃(h123:Hp),(St h118 L.fr L.fv (0+s.F.length*7+1) s120 h123)∧(Has h112 L.fr L.fv)∧(Has h116 L.fr L.fv)∧(Ld h112 L.fr L.fv (0+s.F.length*7+1) s109)∧(Ld h116 L.fr L.fv (0+s.F.length*7+1) s109)∧(Has h123 L.fr L.fv)∧∃(x131:Int),(Ld h123 L.fr L.fv (0+s.F.length*7+5) (.int .i64 x131))∧(okA .i64 (8*x131:Int))∧∃(x134:Int),(Ld h123 L.fr L.fv (0+s.F.length*7+4) (.int .i64 x134))∧(okA .i64 ((8*x131)+x134:Int))∧∃(s137:AV),(NC s137)∧(Ld h123 L.fr L.fv (0+s.F.length*7+1) s137)∧∃(h140:Hp),∃(x141:Int),(CallOK Tryd.prog 57 [.ref L.p 0 0,.int .i64 13,.int .i64 ((8*x131)+x134),s137] h123 h140 (.int .i64 x141))∧∃(h143:Hp),(CallOK Tryd.prog 67 [.ref L.p 0 0,.int .i64 x141,.int .i64 1] h140 h143 (.tup []))∧(Y7i h0 g0 t L0 r h143 (.bool y75)))∧((!y75)=false→(Has h71 L.fr L.fv)∧∃(x146:Int),(Ld h71 L.fr L.fv (0+s.F.length*7+6) (.int .i64 x146))∧(okA .i64 (x146+1:Int))∧∃(h149:Hp),(St h71 L.fr L.fv (0+s.F.length*7+4) (.int .i64 (x146+1)) h149)∧(Has h149 L.fr L.fv)∧∃(h152:Hp),(St h149 L.fr L.fv (0+s.F.length*7+6) (.int .i64 0) h152)∧(Has h152 L.fr L.fv)∧∃(x155:Int),(Ld h152 L.fr L.fv (0+s.F.length*7+5) (.int .i64 x155))∧(okA .i64 (x155+1:Int))∧∃(h158:Hp),(St h152 L.fr L.fv (0+s.F.length*7+5) (.int .i64 (x155+1)) h158)∧(Has h158 L.fr L.fv)∧∃(s161:AV),(NC s161)∧(Ld h158 L.fr L.fv (0+s.F.length*7+1) s161)∧∃(h164:Hp),∃(x165:Int),(CallOK Tryd.prog 28 [.ref L.p 0 0] h158 h164 (.int .i64 x165))∧∃(r167:Nat),∃(h168:Hp),(Nw h164 r167 ⟨0,true,3,1,[.int .i64 x165]⟩ h168)∧∃(h170:Hp),∃(s172:AV),(NC s172)∧(App h168 s161 3 1 8 1 [.int .i64 x165] h170 s172)∧(Has h170 L.fr L.fv)∧(oneA h170 s172)∧∃(h175:Hp),(St h170 L.fr L.fv (0+s.F.length*7+1) s172 h175)∧(Has h164 L.fr L.fv)∧(Has h168 L.fr L.fv)∧(Ld h164 L.fr L.fv (0+s.F.length*7+1) s161)∧(Ld h168 L.fr L.fv (0+s.F.length*7+1) s161)∧(Y7i h0 g0 t L0 r h175 (.bool y75))))))∧((Has h12 L.fr L.fv)∧∃(x77:Int),(Ld h12 L.fr L.fv (0+s.F.length*7+5) (.int .i64 x77))∧(okA .i64 (x77+1:Int))∧(((decide ((x77+1:Int)<4))=true→∃(h81:Hp),∃(b82:Bool),(CallOK Tryd.prog 53 [.ref L.p 0 0,.int .u8 51] h12 h81 (.bool b82))∧(J72 b82 h81))∧((decide ((x77+1:Int)<4))=false→(J72 false h12))))))))∧((Has h12 L.fr L.fv)∧∃(x61:Int),(Ld h12 L.fr L.fv (0+s.F.length*7+4) (.int .i64 x61))∧((((x61:Int) !=0)=true→∃(x64:Int),(Ld h12 L.fr L.fv (0+s.F.length*7+6) (.int .i64 x64))∧(okA .i64 (x64+1:Int))∧(J56 ((x64+1:Int) !=x61)))∧(((x61:Int) !=0)=false→(J56 false)))))):=by
 have cc:=I.c;have hT:=I.b.T;have hbF:=I.b.F;have hbT:=I.J.bT;have nO:=I.nO;rcases hJ with⟨rfl,R1,hr⟩|⟨rfl,R1,hr⟩
 ·refine⟨fun _=> ?_,fun e=>by cases e⟩;have⟨h32,a1,a2,a3⟩:=R1.stInt (k:=6) (v:=s.f.ents+1) (f':={s.f with ents:=s.f.ents+1}) (by omega) rfl rfl rfl rfl;have I1:InvJ {s with c:=s.c.adv,f:={s.f with ents:=s.f.ents+1}} 0:=⟨I.J.ok.same rfl rfl rfl rfl,I.J.len,I.J.bT,I.J.bF⟩;have⟨o1,o2,o3,o4,o5,o6,o7⟩:=pOpd_ok I1;refine⟨R1.fp.hasF,s.f.ents,R1.fp.ldRow (k:=6) rfl,Y93 (by omega) (by omega),h32,a1,m_op a2 hfn I1 (by grind) fun h' g' L' b1 b2 b3=> ?_⟩;exact⟨by rw[hr],g',L',_,b1,o1,by rw[o2,hr];rfl,(K.trans a3).trans b2,b3.p.trans hp,by rw[b3.fn,o3];exact hfn⟩
 ·refine⟨fun e=>(by cases e),fun _=>⟨fun b=>b=decide (s.f.cols≠0∧s.f.ents+1≠s.f.cols), ?_,R1.fp.hasF,s.f.cols,R1.fp.ldRow (k:=4) rfl,fun hc=>⟨s.f.ents,R1.fp.ldRow (k:=6) rfl,Y93 (by omega) (by omega), ?_⟩,fun hc=> ?_⟩⟩
  ·rintro b rfl;refine⟨fun hb1=>⟨R1.has,m_bad R1 hfn I.J.ok K hp (by rw[hr,qMat2];exact if_pos (of_decide_eq_true hb1))⟩,fun hb1=> ?_⟩;have hn1:¬(s.f.cols≠0∧s.f.ents+1≠s.f.cols):=of_decide_eq_false hb1;have hr2:r=if s.f.rows+1<4∧hit t 51 s.c=true then(true,qOpd (qRow (qU s.c.adv (abs s)))) else(false,Y2y 13 (8*(s.f.rows+1)+(s.f.ents+1)) 1 (qOpd (qRow (qU (xpc t [43] s.c) (abs s))))):=by
    rw[hr,qMat2];exact if_neg hn1
   have nob:∀{h1:Hp},(Kpt h12 g h1 g fun u=>u≠0)→h1.at r3=some ⟨0,true,80,3,[.int .u8 41,.int .u8 32,.int .u8 43]⟩:=fun k=>(k r3 (by grind) (by omega)).1.trans hb;refine⟨fun b h71=>(b=true∧r=(true,qOpd (qRow (qU s.c.adv (abs s))))∧Rep h71 g t {s with c:=s.c.adv} L∧(Kpt h12 g h71 g fun u=>u≠0))∨(b=false∧r=(false,Y2y 13 (8*(s.f.rows+1)+(s.f.ents+1)) 1 (qOpd (qRow (qU (xpc t [43] s.c) (abs s)))))∧Rep h71 g t s L∧(Kpt h12 g h71 g fun u=>u≠0)), ?_,R1.fp.hasF,s.f.rows,R1.fp.ldRow (k:=5) rfl,Y93 (by omega) (by omega),fun h4=> ?_,fun h4=> ?_⟩
   ·rintro b h71 (⟨rfl,hr3,R2,K2⟩|⟨rfl,hr3,R2,K2⟩)
    ·refine⟨fun e=>(by cases e),fun _=>⟨R2.fp.hasF,m_row R2 ⟨cc.2.2.2.2.1,cc.2.2.2.2.2⟩ ⟨cc.2.2.1,cc.2.2.2.1⟩ fun h' R3 K3=> ?_⟩⟩;have I1:=(I.J.cu s.c.adv).row;have⟨o1,o2,o3,o4,o5,o6,o7⟩:=pOpd_ok I1;exact m_op R3 hfn I1 (by simp only[pRow];omega) fun h' g' L' b1 b2 b3=>⟨by rw[hr3],g',L',_,b1,o1,by rw[o2,hr3];rfl,((K.trans (K2.kept (by omega))).trans K3).trans b2,b3.p.trans hp,by rw[b3.fn,o3];exact hfn⟩
    ·refine⟨fun _=> ?_,fun e=>(by cases e)⟩;have hb2:=nob K2;have⟨r88,h89,a1,h91,a2,g91,a3,a4⟩:=c_expL R2 I.b.o I.b.l [43] (by simp);refine⟨Has.mk hb2 rfl,43,⟨_,hb2,rfl,rfl,rfl⟩,r88,h89,a1,h91,a2,a3.fp.hasF,m_row a3 ⟨cc.2.2.2.2.1,cc.2.2.2.2.2⟩ ⟨cc.2.2.1,cc.2.2.2.1⟩ fun h' R3 K3=> ?_⟩;have I1:=(I.J.cu (xpc t [43] s.c)).row;have⟨o1,o2,o3,o4,o5,o6,o7⟩:=pOpd_ok I1;refine m_op R3 hfn I1 (by simp only[pRow];omega) fun h' g' L' b1 b2 b3=> ?_;have eops:=pJoin_ops 0 (pRow {s with c:=xpc t [43] s.c}).f.signs.length (pRow {s with c:=xpc t [43] s.c});have er:(pOpd (pRow {s with c:=xpc t [43] s.c})).f.rows=s.f.rows+1:=eops.2.2.2.1;have ec:(pOpd (pRow {s with c:=xpc t [43] s.c})).f.cols=s.f.ents+1:=eops.2.2.1;have M:=m_close (h0:=h0) (g0:=g0) (L0:=L0) (r:=r) b1 (by rw[b3.fn,o3];exact hfn) (by rw[o3];exact hF) o1 o5 (by rw[o4];exact hbT) (by rw[o7];simp only[pRow];omega) (by rw[o3];simp only[pRow];omega) (by rw[o3];exact fun f hf=>by have:=I.tF f hf;omega) 13 (8*(s.f.rows+1)+(s.f.ents+1)) 1 (a:=false) (((K.trans (K2.kept (by omega))).trans (a4.kept (by omega))).trans (K3.trans b2)) (b3.p.trans hp) (by rw[hr3,o2];rfl);have l5:=b1.fp.ldRow (k:=5) rfl;have l4:=b1.fp.ldRow (k:=4) rfl;have hh:=b1.fp.hasF;rw[o3,b3.fr,b3.fv,b3.p] at M;rw[o3,b3.fr,b3.fv,er] at l5;rw[o3,b3.fr,b3.fv,ec] at l4;rw[b3.fr,b3.fv] at hh
     exact⟨hh,_,l5,Y93 (by omega) (by omega),_,l4,Y93 (by omega) (by omega),_,M⟩
   ·have h4':s.f.rows+1<4:=of_decide_eq_true h4;rcases nx R1 I.b.o I.b.l 51 with⟨hh,h1,a1,a2,a3,o1⟩|⟨hh,h1,a1,a2,a3⟩
    ·grind
    grind
   ·have h4':¬s.f.rows+1<4:=of_decide_eq_false h4;exact .inr ⟨rfl,by rw[hr2,if_neg (fun h=>h4' h.1)],R1,Kpt.refl⟩
  ·grind
  simp_all
theorem c_matrix(R:Rep h g t s L)(hfn:L.fn=s.F.length+1)(I:InvF t s)(hF:s.F≠[])(K:Kept h0 g0 h g)(hp:L.p=L0.p)(hr:r=Y3y t (abs s)):
  ∃h' av,CallOK Tryd.prog 66 [.ref L.p 0 0,.ref L.fr L.fv (0+s.F.length*7)] h h' av∧Y7i h0 g0 t L0 r h' av:=by
 have cc:=I.c;have⟨r3,h4,a1,h6,a2,g6,_,a3,a4,a5,a6,a7⟩:=arr3 R 41 32 43;have ru:r=if s.f.ents+1<(if s.f.cols=0 then 4 else s.f.cols)∧hit t 32 s.c=true then(true,qOpd {qU s.c.adv (abs s) with f:={(abs s).f with ents:=(abs s).f.ents+1}}) else qMat2 t (abs s):=hr
 have nob:∀{h1:Hp},(Kpt h6 g6 h1 g6 fun u=>u≠0)→h1.at r3=some ⟨0,true,80,3,[.int .u8 41,.int .u8 32,.int .u8 43]⟩:=fun k=>(k r3 (by grind) (by omega)).1.trans a6;refine Y3g (w_matrix (h:=h) (p:=L.p) (r1:=L.fr) (v1:=L.fv) (o1:=0+s.F.length*7) (Q:=Y7i h0 g0 t L0 r) (Qp:=fun _ _=>False)
  ⟨R.has,R.ldM,r3,h4,a1,h6,a2,a3.fp.hasF,s.f.cols,a3.fp.ldRow (k:=4) rfl,fun h0'=> ?_,fun h0'=> ?_⟩)
 all_goals
  refine⟨fun y h12=>((y=true∧Rep h12 g6 t {s with c:=s.c.adv} L∧r=(true,qOpd {qU s.c.adv (abs s) with f:={(abs s).f with ents:=(abs s).f.ents+1}}))∨(y=false∧Rep h12 g6 t s L∧r=qMat2 t (abs s)))∧(Kpt h6 g6 h12 g6 fun u=>u≠0),fun y h12 hJ=>m_matB (r3:=r3) hfn I hF ((K.trans a5).trans (hJ.2.kept (by omega))) hp (nob hJ.2) a7 hJ.1,s.f.ents,a3.fp.ldRow (k:=6) rfl,Y93 (by omega) (by omega),fun h4=> ?_,fun h4=> ?_⟩
 ·have c0:s.f.cols=0:=by simp_all
  rw[if_pos c0] at ru;have h4':s.f.ents+1<4:=of_decide_eq_true h4;refine⟨Has.mk a6 rfl,32,⟨_,a6,rfl,rfl,rfl⟩, ?_⟩;rcases nx a3 I.b.o I.b.l 32 with⟨hh,h1,b1,b2,b3,o1⟩|⟨hh,h1,b1,b2,b3⟩
  ·grind
  grind
 ·have c0:s.f.cols=0:=by simp_all
  rw[if_pos c0] at ru;have h4':¬s.f.ents+1<4:=of_decide_eq_false h4;exact⟨.inr ⟨rfl,a3,by rw[ru,if_neg (fun h=>h4' h.1)]⟩,Kpt.refl⟩
 ·have c0:¬s.f.cols=0:=by simp_all
  rw[if_neg c0] at ru;have h4':s.f.ents+1<s.f.cols:=of_decide_eq_true h4;refine⟨Has.mk a6 rfl,32,⟨_,a6,rfl,rfl,rfl⟩, ?_⟩;rcases nx a3 I.b.o I.b.l 32 with⟨hh,h1,b1,b2,b3,o1⟩|⟨hh,h1,b1,b2,b3⟩
  ·grind
  grind
 ·have c0:¬s.f.cols=0:=by simp_all
  rw[if_neg c0] at ru;have h4':¬s.f.ents+1<s.f.cols:=of_decide_eq_false h4;exact⟨.inr ⟨rfl,a3,by rw[ru,if_neg (fun h=>h4' h.1)]⟩,Kpt.refl⟩
end
def exC (op:Int):Int:=if op=7 then 24 else 6
section
variable {h h0:Hp} {g g0:Tag} {t:List Int} {s:Ls} {L L0:Lay} {n0:Nat} {r:Bool×Qs}
theorem c_exponent(h:Hp)(op:Int):CallOK Tryd.prog 75 [.int .i64 op] h h (.int .u8 (exC op)):=by
 have H:=Y3g (w_exponent (h:=h) (a0:=op) (Q:=fun h' av=>h'=h∧av= .int .u8 (exC op)) (Qp:=fun _ _=>False) (by
  unfold pre_exponent exC
  simp_all))
 simp_all
def pPop (s:Ls):Ls:={s with f:={s.f with terms:=s.f.terms.take (s.f.terms.length-1)}}
theorem pPop_ok(v:Ok s 0)(ht0:0<s.f.terms.length):Ok (pPop s) (nd (tr s.T (s.f.terms.getD (s.f.terms.length-1) 0)))∧abs (pPop s)={abs s with f:={(abs s).f with ts:=(abs s).f.ts.tail}}∧(0≤s.f.terms.getD (s.f.terms.length-1) 0∧s.f.terms.getD (s.f.terms.length-1) 0<(s.T.length:Nat)):=by
 have hv:=v.vf.1 (s.f.terms.getD (s.f.terms.length-1) 0) (by grind);have hl:=abs_last (s:=s) ht0;have e:abs (pPop s)={abs s with f:={(abs s).f with ts:=(abs s).f.ts.tail}}:=by
  rw[hl]
  rfl
 refine⟨⟨v.okT,v.vF,⟨fun i hi=>v.vf.1 i (X0u hi),v.vf.2⟩,v.dep, ?_⟩,e,hv⟩;rw[e];have ht:=v.tot;show s.T.length=_;simp only[szQ,szF,hl,Y10,List.tail_cons] at ht⊢;omega
theorem m_exp(R:Rep h g t s L)(hfn:L.fn=s.F.length+1)(v:Ok s 0)(ht0:0<s.f.terms.length)(htm:s.f.terms.length≤800000000)(hlv:s.lv.length≤800000000)(hF:s.F.length≤800000000)(op:Int)(K:Kept h0 g0 h g)(hp:L.p=L0.p)(hr:r=(true,Y8j op [(abs s).f.ts.headD noTr] {abs s with lv:=(abs s).lv++[exC op],f:={(abs s).f with ts:=(abs s).f.ts.tail}})):
  (Has h L.fr L.fv)∧∃(s78:AV),(NC s78)∧(Ld h L.fr L.fv (0+s.F.length*7+2) s78)∧∃(n81:Nat),(Len h s78 n81)∧(okA .i64 (((n81:Nat):Int)-1:Int))∧(Has h L.p 0)∧∃(s85:AV),(NC s85)∧(Ld h L.p 0 5 s85)∧∃(x88:Int),(CallOK Tryd.prog 75 [.int .i64 op] h h (.int .u8 x88))∧∃(r90:Nat),∃(h91:Hp),(Nw h r90 ⟨0,true,33,1,[.int .u8 x88]⟩ h91)∧∃(h93:Hp),∃(s95:AV),(NC s95)∧(App h91 s85 33 1 1 1 [.int .u8 x88] h93 s95)∧(Has h93 L.p 0)∧(oneA h93 s95)∧∃(h98:Hp),(St h93 L.p 0 5 s95 h98)∧(Has h91 L.p 0)∧(Ld h91 L.p 0 5 s85)∧(Has h98 L.fr L.fv)∧∃(s104:AV),(NC s104)∧(Ld h98 L.fr L.fv (0+s.F.length*7+2) s104)∧∃(r107:Nat),∃(v108:Nat),∃(o109:Nat),(Ix h98 s104 1 (((n81:Nat):Int)-1:Int) (.ref r107 v108 o109))∧∃(x111:Int),(Ld h98 r107 v108 o109 (.int .i64 x111))∧∃(r113:Nat),∃(h114:Hp),(Nw h98 r113 ⟨0,true,3,1,[.int .i64 x111]⟩ h114)∧(Has h114 L.fr L.fv)∧∃(s117:AV),(NC s117)∧(Ld h114 L.fr L.fv (0+s.F.length*7+2) s117)∧∃(s120:AV),(NC s120)∧(Cut h114 s117 1 (((n81:Nat):Int)-1:Int) s120)∧(oneA h114 s120)∧∃(h123:Hp),(St h114 L.fr L.fv (0+s.F.length*7+2) s120 h123)∧(Has h123 r113 0)∧∃(h127:Hp),(CallOK Tryd.prog 58 [.ref L.p 0 0,.agg [.int .i64 op,.rsl r113 0 0 1,.im (.val (.slice none 0 0)),.im (.val (.slice none 0 0)),.int .i64 0,.int .i64 0,.int .i64 0]] h123 h127 (.tup []))∧(Y7i h0 g0 t L0 r h127 (.bool true)):=by
 have hl:=abs_last (s:=s) ht0;have hst:(abs s).f.ts.headD noTr=tr s.T (s.f.terms.getD (s.f.terms.length-1) 0):=by grind
 have⟨P1,P2,P3⟩:=pPop_ok v ht0
 --the level
 have⟨r90,hr90⟩:=h.fresh;have⟨a1,a2,a3,a4⟩:=R.grow (u:=4) (rt:=⟨0,true,33,1,[.int .u8 (exC op)]⟩) (.inr rfl) hr90;have⟨h93,y,g93,b1,b2,b3,b4⟩:=SlU.appG a2.lp.1 a2.lp.2 (exC op) (by omega);have bp:=b4 (fun u=>u=0) (by omega) L.p a2.nep a2.gp;have hb93:=bp.1.trans a2.box;have⟨h98,c1,c2,c3⟩:=Rep.setB (L:=L) (s:=s) (s':={s with lv:=s.lv++[exC op]}) (L':={L with xl:=y}) hb93 (bp.2.trans a2.gp) (k:=5) (y:=y) (by omega) (Y5o b3.1.one) (Y6b b3.1.one) rfl rfl (a2.fp.keep (b4 _ (by omega))) (a2.tp.keep (b4 _ (by omega))) b3;have K98:Kept h g h98 g93:=((a3 fun u=>u=4).trans ((b4 (fun u=>u=4) (by omega)).trans (Kpt.same c3 (by rw[bp.2,a2.gp];omega)))).kept rfl
 --the term
 have⟨r107,v108,o109,d1,d2⟩:=SlI.get c2.fp.row.2.1.1 (j:=((s.f.terms.length:Nat):Int)-1) (by omega) (by grind);rw[show(((s.f.terms.length:Nat):Int)-1).toNat=s.f.terms.length-1 by omega] at d2;have⟨r113,hr113⟩:=h98.fresh;have⟨e1,e2,e3,e4⟩:=c2.grow (u:=4) (rt:=⟨0,true,3,1,[.int .i64 (s.f.terms.getD (s.f.terms.length-1) 0)]⟩) (.inr rfl) hr113;have⟨y2,f1,f2,f3,f4⟩:=SlI.cut e2.fp.row.2.1.1 (j:=((s.f.terms.length:Nat):Int)-1) (by omega) (by grind) ht0;rw[show(((s.f.terms.length:Nat):Int)-1).toNat=s.f.terms.length-1 by omega] at f3;have⟨h123,k1,k2,k3⟩:=e2.stRow (k:=2) (y:=y2) (f':={s.f with terms:=s.f.terms.take (s.f.terms.length-1)}) (ρ':={L.ρ with xt:=y2}) (by omega) (Y5o f3.one) (Y6b f3.one) rfl ⟨e2.fp.row.1,⟨f3,fun r hr=>e2.fp.row.2.1.2 r (by simp_all)⟩,e2.fp.row.2.2⟩;have h13:=k3 r113 (by rw[Y2z];simp) e4;rw[Y2z] at h13;have hx:SlI h123 (.rsl r113 0 0 1) [s.f.terms.getD (s.f.terms.length-1) 0]:=.inr ⟨r113,0,_,rfl,h13.1,rfl,rfl,rfl,rfl,rfl,rfl⟩;have⟨h127,g127,L127,l1,l2,l3,l4,l5⟩:=c_open k2 hfn op hx (fun r hr=>by simp only[Y18,X8] at hr;simp_all) (by grind);have v3:Ok {s with lv:=s.lv++[exC op],f:={s.f with terms:=s.f.terms.take (s.f.terms.length-1)}} (0+ndL ([s.f.terms.getD (s.f.terms.length-1) 0].map (tr s.T))):=by
  have:ndL ([s.f.terms.getD (s.f.terms.length-1) 0].map (tr s.T))=nd (tr s.T (s.f.terms.getD (s.f.terms.length-1) 0)):=by simp[Y10,Y27]
  rw[X05,this];exact P1.same rfl rfl rfl rfl
 have KE:KeptE [r113] h98 g93 h127 g127:=(((e3 fun u=>u=4).kept rfl).trans k3).toE.trans (by simpa [Y18] using l3);have ea:abs (pPush op [s.f.terms.getD (s.f.terms.length-1) 0] {s with lv:=s.lv++[exC op],f:={s.f with terms:=s.f.terms.take (s.f.terms.length-1)}})=r.2:=by
  rw[abs_push,hr,hst];have:abs {s with lv:=s.lv++[exC op],f:={s.f with terms:=s.f.terms.take (s.f.terms.length-1)}}={abs (pPop s) with lv:=s.lv++[exC op]}:=rfl;rw[this,P2]
  rfl
 refine⟨R.fp.hasF,L.ρ.xt,R.fp.row.2.1.1.nc,R.fp.ldRow (k:=2) rfl,s.f.terms.length,R.fp.row.2.1.1.len,Y93 (by omega) (by omega),R.has,L.xl,R.lp.1.nc,R.ldL,exC op,c_exponent h op,r90,_,a1,h93,y,b2,b1,Has.mk hb93 rfl,b3.1.one,h98,c1,a2.has,a2.ldL,c2.fp.hasF,L.ρ.xt,c2.fp.row.2.1.1.nc,c2.fp.ldRow (k:=2) rfl,r107,v108,o109,d1,_,d2,r113,_,e1,e2.fp.hasF,L.ρ.xt,e2.fp.row.2.1.1.nc,e2.fp.ldRow (k:=2) rfl,y2,f1,f2,f3.one,h123,k1,Has.mk h13.1 rfl,h127,l1,by rw[hr],g127,L127,_,l2,Ok.push v3 (fun i hi=>by simp_all),ea,K.trans (K98.trans (KE.done fun r hr=>by simp_all)),l4.trans hp,by rw[l5,hfn];simp[pPush]⟩
theorem m_sgB(R:Rep h g t s L)(hfn:L.fn=s.F.length+1)(I:InvF t s)(K:Kept h0 g0 h g)(hp:L.p=L0.p)(hr:r=qSgB t (abs s)):
  ∃(r65:Nat),∃(h66:Hp),(Nw h r65 ⟨0,true,3,1,[.int .i64 7,.int .i64 8]⟩ h66)∧(Has h66 r65 0)∧(HasK h66 r65 0 1)∧(Ld h66 r65 0 0 (.int .i64 7))∧∃(x71:Int),(CallOK Tryd.prog 75 [.int .i64 7] h66 h66 (.int .u8 x71))∧∃(h73:Hp),∃(b74:Bool),(CallOK Tryd.prog 53 [.ref L.p 0 0,.int .u8 x71] h66 h73 (.bool b74))∧(((b74)=true→(Has h73 L.fr L.fv)∧∃(s78:AV),(NC s78)∧(Ld h73 L.fr L.fv (0+s.F.length*7+2) s78)∧∃(n81:Nat),(Len h73 s78 n81)∧(okA .i64 (((n81:Nat):Int)-1:Int))∧(Has h73 L.p 0)∧∃(s85:AV),(NC s85)∧(Ld h73 L.p 0 5 s85)∧∃(x88:Int),(CallOK Tryd.prog 75 [.int .i64 7] h73 h73 (.int .u8 x88))∧∃(r90:Nat),∃(h91:Hp),(Nw h73 r90 ⟨0,true,33,1,[.int .u8 x88]⟩ h91)∧∃(h93:Hp),∃(s95:AV),(NC s95)∧(App h91 s85 33 1 1 1 [.int .u8 x88] h93 s95)∧(Has h93 L.p 0)∧(oneA h93 s95)∧∃(h98:Hp),(St h93 L.p 0 5 s95 h98)∧(Has h91 L.p 0)∧(Ld h91 L.p 0 5 s85)∧(Has h98 L.fr L.fv)∧∃(s104:AV),(NC s104)∧(Ld h98 L.fr L.fv (0+s.F.length*7+2) s104)∧∃(r107:Nat),∃(v108:Nat),∃(o109:Nat),(Ix h98 s104 1 (((n81:Nat):Int)-1:Int) (.ref r107 v108 o109))∧∃(x111:Int),(Ld h98 r107 v108 o109 (.int .i64 x111))∧∃(r113:Nat),∃(h114:Hp),(Nw h98 r113 ⟨0,true,3,1,[.int .i64 x111]⟩ h114)∧(Has h114 L.fr L.fv)∧∃(s117:AV),(NC s117)∧(Ld h114 L.fr L.fv (0+s.F.length*7+2) s117)∧∃(s120:AV),(NC s120)∧(Cut h114 s117 1 (((n81:Nat):Int)-1:Int) s120)∧(oneA h114 s120)∧∃(h123:Hp),(St h114 L.fr L.fv (0+s.F.length*7+2) s120 h123)∧(Has h123 r113 0)∧∃(h127:Hp),(CallOK Tryd.prog 58 [.ref L.p 0 0,.agg [.int .i64 7,.rsl r113 0 0 1,.im (.val (.slice none 0 0)),.im (.val (.slice none 0 0)),.int .i64 0,.int .i64 0,.int .i64 0]] h123 h127 (.tup []))∧(Y7i h0 g0 t L0 r h127 (.bool true)))∧((b74)=false→(HasK h73 r65 0 1)∧(Ld h73 r65 0 1 (.int .i64 8))∧∃(x131:Int),(CallOK Tryd.prog 75 [.int .i64 8] h73 h73 (.int .u8 x131))∧∃(h133:Hp),∃(b134:Bool),(CallOK Tryd.prog 53 [.ref L.p 0 0,.int .u8 x131] h73 h133 (.bool b134))∧(((b134)=true→(Has h133 L.fr L.fv)∧∃(s138:AV),(NC s138)∧(Ld h133 L.fr L.fv (0+s.F.length*7+2) s138)∧∃(n141:Nat),(Len h133 s138 n141)∧(okA .i64 (((n141:Nat):Int)-1:Int))∧(Has h133 L.p 0)∧∃(s145:AV),(NC s145)∧(Ld h133 L.p 0 5 s145)∧∃(x148:Int),(CallOK Tryd.prog 75 [.int .i64 8] h133 h133 (.int .u8 x148))∧∃(r150:Nat),∃(h151:Hp),(Nw h133 r150 ⟨0,true,33,1,[.int .u8 x148]⟩ h151)∧∃(h153:Hp),∃(s155:AV),(NC s155)∧(App h151 s145 33 1 1 1 [.int .u8 x148] h153 s155)∧(Has h153 L.p 0)∧(oneA h153 s155)∧∃(h158:Hp),(St h153 L.p 0 5 s155 h158)∧(Has h151 L.p 0)∧(Ld h151 L.p 0 5 s145)∧(Has h158 L.fr L.fv)∧∃(s164:AV),(NC s164)∧(Ld h158 L.fr L.fv (0+s.F.length*7+2) s164)∧∃(r167:Nat),∃(v168:Nat),∃(o169:Nat),(Ix h158 s164 1 (((n141:Nat):Int)-1:Int) (.ref r167 v168 o169))∧∃(x171:Int),(Ld h158 r167 v168 o169 (.int .i64 x171))∧∃(r173:Nat),∃(h174:Hp),(Nw h158 r173 ⟨0,true,3,1,[.int .i64 x171]⟩ h174)∧(Has h174 L.fr L.fv)∧∃(s177:AV),(NC s177)∧(Ld h174 L.fr L.fv (0+s.F.length*7+2) s177)∧∃(s180:AV),(NC s180)∧(Cut h174 s177 1 (((n141:Nat):Int)-1:Int) s180)∧(oneA h174 s180)∧∃(h183:Hp),(St h174 L.fr L.fv (0+s.F.length*7+2) s180 h183)∧(Has h183 r173 0)∧∃(h187:Hp),(CallOK Tryd.prog 58 [.ref L.p 0 0,.agg [.int .i64 8,.rsl r173 0 0 1,.im (.val (.slice none 0 0)),.im (.val (.slice none 0 0)),.int .i64 0,.int .i64 0,.int .i64 0]] h183 h187 (.tup []))∧(Y7i h0 g0 t L0 r h187 (.bool true)))∧((b134)=false→(Has h133 L.p 0)∧∃(h190:Hp),(St h133 L.p 0 2 (.bool true) h190)∧(Y7i h0 g0 t L0 r h190 (.bool true)))))):=by
 have hbF:=I.b.F;have htm:=I.b.tm;have hlv:=I.lv;have ht0:0<s.f.terms.length:=by have:=I.J.len;omega
 have ru:r=if hit t 24 s.c=true then(true,qExp 7 24 (abs s)) else if hit t 6 s.c=true then(true,qExp 8 6 (abs s)) else(true,qBad (abs s)):=hr
 have⟨q,hq⟩:=h.fresh;have⟨e1,e2,e3,e4⟩:=R.grow (u:=4) (rt:=⟨0,true,3,1,[.int .i64 7,.int .i64 8]⟩) (.inr rfl) hq;have hc:Hp.at ((q,(⟨0,true,3,1,[.int .i64 7,.int .i64 8]⟩:Rt))::h) q=some ⟨0,true,3,1,[.int .i64 7,.int .i64 8]⟩:=Y2z _ _ _;have K5:=K.trans ((e3 fun u=>u=4).kept rfl);refine⟨q,_,e1,Has.mk hc rfl,HasK.mk hc rfl rfl,⟨_,hc,rfl,rfl,rfl⟩,24,c_exponent _ 7, ?_⟩;rcases nx e2 I.b.o I.b.l 24 with⟨hh,h6,f1,f2,f3,o5⟩|⟨hh,h6,f1,f2,f3⟩
 ·rw[if_pos hh] at ru;exact⟨h6,true,f1,fun _=>m_exp f2 hfn (I.J.ok.cu _) ht0 htm hlv hbF 7 (K5.trans (f3.kept (by omega))) hp ru,fun e=>by cases e⟩
 ·rw[if_neg (by grind)] at ru;have hc6:=(f3 q (by grind) (by omega)).1.trans hc;have K6:=K5.trans (f3.kept (by omega));refine⟨h6,false,f1,fun e=>(by cases e),fun _=>⟨HasK.mk hc6 rfl rfl,⟨_,hc6,rfl,rfl,rfl⟩,6,c_exponent _ 8, ?_⟩⟩;rcases nx f2 I.b.o I.b.l 6 with⟨hh,h7,k1,k2,k3,o6⟩|⟨hh,h7,k1,k2,k3⟩
  ·rw[if_pos hh] at ru;exact⟨h7,true,k1,fun _=>m_exp k2 hfn (I.J.ok.cu _) ht0 htm hlv hbF 8 (K6.trans (k3.kept (by omega))) hp ru,fun e=>by cases e⟩
  ·rw[if_neg (by grind)] at ru;exact⟨h7,false,k1,fun e=>(by cases e),fun _=>⟨k2.has,m_bad k2 hfn I.J.ok (K6.trans (k3.kept (by omega))) hp ru⟩⟩
theorem InvF.cu(I:InvF t s){u:Cu}(o:CuOk t u):InvF t {s with c:=u}:=⟨I.J.cu u,⟨o,I.b.l,I.b.T,I.b.F,I.b.tm⟩,I.nO,I.c,I.top,I.tF,I.lv,I.gr⟩
theorem c_sgn(R:Rep h g t s L)(hfn:L.fn=s.F.length+1)(I:InvF t s)(K:Kept h0 g0 h g)(hp:L.p=L0.p)(hr:r=qSgn t (abs s)):
  ∃h' av,CallOK Tryd.prog 61 [.ref L.p 0 0,.ref L.fr L.fv (0+s.F.length*7)] h h' av∧Y7i h0 g0 t L0 r h' av:=by
 have a0:=I.b.o.a0;have a1:=I.b.o.a1;have hl:=I.b.l;have hlv:=I.lv;have hbeg:qBegs (abs s)=(s.base !=0):=rfl;have hends:qEnds (abs s)=((s.f.op==7||s.f.op==8)&&s.base !=2):=rfl;have hlab:(abs s).lv=s.lv:=rfl;have hcab:(abs s).c=s.c:=rfl;rw[qSgn,hlab,hcab] at hr;refine Y3g (w_sgn (h:=h) (p:=L.p) (r1:=L.fr) (v1:=L.fv) (o1:=0+s.F.length*7) (Q:=Y7i h0 g0 t L0 r) (Qp:=fun _ _=>False)
  ⟨R.has,s.base,R.ldB,fun b=>b=qEnds (abs s), ?_,R.fp.hasF,s.f.op,R.fp.ldRow (k:=0) rfl,fun h7=> ?_,fun h7=>⟨fun h8=> ?_,fun h8=> ?_⟩⟩)
 ·rintro e rfl;refine⟨fun b=>b=(!qBegs (abs s)&& !qEnds (abs s)), ?_,fun hb=> ?_,fun hb=> ?_⟩
  ·rintro b rfl;refine⟨fun hb1=> ?_,fun hb1=> ?_⟩
   ·simp only[X2,X00] at hb1;rw[if_pos hb1] at hr;have⟨h1,b1,b2,b3⟩:=R.setAt (s.c.at_-1);have⟨h2,c1,c2,c3⟩:=b2.setW true;exact⟨s.c.at_,R.ldAt,Y93 (by omega) (by omega),h1,b1,b2.has,h2,c1,by rw[hr],g,L,_,c2,I.J.ok.cu _,by rw[hr];rfl,K.trans ((b3.trans c3).kept (by omega)),hp,hfn⟩
   ·have hb2:¬(qBegs (abs s)=false∧qEnds (abs s)=false):=fun h=>by simp_all
    rw[if_neg hb2] at hr;refine⟨L.xl,R.lp.1.nc,R.ldL,s.lv.length,R.lp.1.len,fun hn=> ?_,fun hn=> ?_⟩
    ·have hn0:0<s.lv.length:=by simp_all
     have hne:s.lv≠[]:=List.length_pos_iff.1 hn0;rw[if_neg hne] at hr;have⟨y,c1,c2,c3,c4⟩:=SlU.cut R.lp.1 (j:=((s.lv.length:Nat):Int)-1) (by omega) (by omega) hn0;rw[show(((s.lv.length:Nat):Int)-1).toNat=s.lv.length-1 by omega, ←List.dropLast_eq_take] at c3;have⟨h37,d1,d2,d3⟩:=c_expect R I.b.o hl (SlU.rd c3 fun q hq=>by rw[c4] at hq;rw[R.lp.2 q hq];omega) (by grind);have o1:=I.b.o.xpc s.lv.dropLast;have K1:=K.trans (d3.kept (by omega));refine⟨Y93 (by omega) (by omega),y,c1,c2,h37,d1,d2.has,_,d2.ldW,fun hw=> ?_,fun hw=> ?_⟩
     ·rw[if_pos hw] at hr;exact⟨by rw[hr],g,L,_,d2,I.J.ok.cu _,by rw[hr];rfl,K1,hp,hfn⟩
     ·rw[if_neg (by grind)] at hr;have I1:=I.cu o1;refine⟨fun b h43=>(b=true∧r=qEnd (qEnds (abs s)) (qU (xpc t s.lv.dropLast s.c) (abs s))∧Rep h43 g t {s with c:=xpc t s.lv.dropLast s.c} L∧Kept h0 g0 h43 g)∨(b=false∧r=qSgB t (qU (xpc t s.lv.dropLast s.c).adv (abs s))∧Rep h43 g t {s with c:=(xpc t s.lv.dropLast s.c).adv} L∧Kept h0 g0 h43 g∧CuOk t (xpc t s.lv.dropLast s.c).adv), ?_,fun hb3=> ?_,fun hb3=> ?_⟩
      ·rintro b h43 (⟨rfl,hr3,R3,K3⟩|⟨rfl,hr3,R3,K3,o3⟩)
       ·refine⟨fun _=> ?_,fun e=>by cases e⟩;cases he:qEnds (abs s) with
        |false=>
         rw[he] at hr3;have E:=c_end R3 hfn I1 (h0:=h0) (g0:=g0) (L0:=L0) (r:=r)
         by_cases hF:s.F=[]
         ·have H:=Y3g (w_end (h:=h43) (p:=L.p) (r1:=L.fr) (v1:=L.fv) (o1:=0+s.F.length*7) (a2:=false) (Q:=Y7i h0 g0 t L0 r) (Qp:=fun _ _=>False) ⟨fun _=>⟨R3.has,m_bad R3 hfn (I.J.ok.cu _) K3 hp (by rw[hr3,qEnd,if_neg (by simp)];rfl)⟩,fun e=>by cases e⟩);have⟨h',av,x1,x2⟩:=H;have x3:=x2.1
          grind
         ·have⟨h',av,x1,x2⟩:=E hF hne false K3 hp hr3;have x3:=x2.1
          grind
        |true=>
         rw[he] at hr3;have hop:s.f.op≠ -1:=by
          grind
         have⟨h',av,x1,x2⟩:=c_end R3 hfn I1 (h0:=h0) (g0:=g0) (L0:=L0) (r:=r) (I.top.resolve_left hop) hne true K3 hp hr3;have x3:=x2.1
         grind
       ·exact⟨fun e=>(by cases e),fun _=>m_sgB (s:={s with c:=(xpc t s.lv.dropLast s.c).adv}) R3 hfn (I.cu o3) K3 hp hr3⟩
      ·simp_all
      ·have hb4:qBegs (abs s)=true:=by simp_all
       have⟨r52,v53,o54,e1,e2⟩:=SlU.get d2.lp.1 (j:=((s.lv.length:Nat):Int)-1) (by omega) (by grind);have elast:s.lv.getD (((s.lv.length:Nat):Int)-1).toNat 0=s.lv.getLastD 0:=by
        rw[show(((s.lv.length:Nat):Int)-1).toNat=s.lv.length-1 by omega,List.getLastD_eq_getLast?,List.getLast?_eq_getElem?,X6]
       refine⟨L.xl,d2.lp.1.nc,d2.ldL,r52,v53,o54,e1,_,e2, ?_⟩;simp only[elast];rcases nx d2 o1 hl (s.lv.getLastD 0) with⟨hh,h7,k1,k2,k3,o6⟩|⟨hh,h7,k1,k2,k3⟩
       ·rw[if_pos ⟨hb4,hh⟩] at hr;exact⟨h7,true,k1,.inr ⟨rfl,hr,k2,K1.trans (k3.kept (by omega)),o6⟩⟩
       ·rw[if_neg (fun h=>by simp_all)] at hr;exact⟨h7,false,k1,.inl ⟨rfl,hr,k2,K1.trans (k3.kept (by omega))⟩⟩
    ·have hn0:s.lv=[]:=by
      simp_all
     rw[if_pos hn0] at hr;exact m_sgB R hfn I K hp hr
  ·simp_all
  simp_all
 ·simp_all
 ·simp_all
 simp_all
end
def pSign (op:Int) (s:Ls):Ls:={Y55 (Y2k op) s.f.signs.length s with f:={(Y55 (Y2k op) s.f.signs.length s).f with signs:=(Y55 (Y2k op) s.f.signs.length s).f.signs++[op]}}
section
variable {h h0:Hp} {g g0:Tag} {t:List Int} {s:Ls} {L L0:Lay} {n0:Nat} {r:Bool×Qs}
theorem pSign_ok(I:InvJ s n0)(op:Int):Ok (pSign op s) n0∧abs (pSign op s)=Y9f op (abs s)∧(pSign op s).F=s.F:=by
 have⟨a,b,c,d⟩:=pJoin_abs (Y2k op) _ s I rfl;refine⟨a.ok.same rfl rfl rfl rfl, ?_,(pJoin_ops (Y2k op) s.f.signs.length s).2.2.2.2.2.1⟩;have:abs (pSign op s)={abs (Y55 (Y2k op) s.f.signs.length s) with f:={(abs (Y55 (Y2k op) s.f.signs.length s)).f with ss:=op::(abs (Y55 (Y2k op) s.f.signs.length s)).f.ss}}:=by simp[abs,pSign,alf]
 rw[this,b,Y9f]
theorem c_sg(h:Hp){op:Int}{cs:List Int}(hc:(op=2∧cs=[44])∨(op=3∧cs=[36])∨(op=4∧cs=[33])∨(op=5∧cs=[0,54,0])){q:Nat}(hq:h.at q=none):
  CallOK Tryd.prog 42 [.int .i64 op] h ((q,⟨0,true,33,1,eU8 cs⟩)::h) (.rsl q 0 0 cs.length):=by
 have H:=Y3g (w_sign (h:=h) (a0:=op) (Q:=fun h' av=>h'=(q,⟨0,true,33,1,eU8 cs⟩)::h∧av= .rsl q 0 0 cs.length) (Qp:=fun _ _=>False) (by
  unfold pre_sign;rcases hc with⟨rfl,rfl⟩|⟨rfl,rfl⟩|⟨rfl,rfl⟩|⟨rfl,rfl⟩
  ·exact⟨fun _=>⟨q,_,⟨hq,rfl⟩,rfl,rfl⟩,fun e=>by simp at e⟩
  ·exact⟨fun e=>by simp at e,fun _=>⟨fun _=>⟨q,_,⟨hq,rfl⟩,rfl,rfl⟩,fun e=>by simp at e⟩⟩
  ·exact⟨fun e=>by simp at e,fun _=>⟨fun e=>by simp at e,fun _=>⟨fun _=>⟨q,_,⟨hq,rfl⟩,rfl,rfl⟩,fun e=>by simp at e⟩⟩⟩
  ·exact⟨fun e=>by simp at e,fun _=>⟨fun e=>by simp at e,fun _=>⟨fun e=>by simp at e,fun _=>⟨q,_,⟨hq,rfl⟩,rfl,rfl⟩⟩⟩⟩))
 simp_all
theorem m_sign(R:Rep h g t s L)(hfn:L.fn=s.F.length+1)(I:InvF t s){q:Nat}{op c0:Int}{rest:List Int}(hq:h.at q=some ⟨0,true,33,1,eU8 (c0::rest)⟩)(gq:g q=4)(hn:rest.length≤100)(K:Kept h0 g0 h g)(hp:L.p=L0.p)(hr:r=(true,Y9f op (qU (xpc t rest s.c) (abs s)))):
  ∃(s38:AV),(NC s38)∧(CutL h (.rsl q 0 0 (c0::rest).length) 1 (1:Int) s38)∧∃(h41:Hp),(CallOK Tryd.prog 62 [.ref L.p 0 0,s38] h h41 (.tup []))∧∃(x43:Int),(CallOK Tryd.prog 64 [.int .i64 op] h41 h41 (.int .i64 x43))∧∃(h45:Hp),(CallOK Tryd.prog 63 [.ref L.p 0 0,.int .i64 x43] h41 h45 (.tup []))∧(Has h45 L.fr L.fv)∧∃(s48:AV),(NC s48)∧(Ld h45 L.fr L.fv (0+s.F.length*7+3) s48)∧∃(r51:Nat),∃(h52:Hp),(Nw h45 r51 ⟨0,true,3,1,[.int .i64 op]⟩ h52)∧∃(h54:Hp),∃(s56:AV),(NC s56)∧(App h52 s48 3 1 8 1 [.int .i64 op] h54 s56)∧(Has h54 L.fr L.fv)∧(oneA h54 s56)∧∃(h59:Hp),(St h54 L.fr L.fv (0+s.F.length*7+3) s56 h59)∧(Y7i h0 g0 t L0 r h59 (.bool true)):=by
 have hbF:=I.b.F;have hbT:=I.J.bT;have hrd:RdU h g (.rsl q 0 (0+(1:Int).toNat*1) ((c0::rest).length-(1:Int).toNat)) rest:=by
  refine⟨⟨trivial,rfl⟩,.inr (.inl ⟨_,_,_,rfl,Has.mk hq rfl⟩),fun h' a j j0 j1=> ?_⟩;have b:=(a q (by grind) (by omega)).1.trans hq;have hj:j.toNat<rest.length:=by omega
  refine⟨q,0,_,.inl ⟨q,0,_,_,rfl,HasK.mk b rfl rfl,j0,by grind,rfl⟩,_,b,rfl,rfl, ?_⟩;show(eU8 (c0::rest))[0+1*1+j.toNat*1]? =_;rw[show 0+1*1+j.toNat*1=j.toNat+1 by omega];simp[eU8,X5 hj]
 have⟨h41,a1,a2,a3⟩:=c_expect R I.b.o I.b.l hrd (by omega);have I1:=I.J.cu (xpc t rest s.c);have⟨h45,g45,L45,b1,b2,b3,b4⟩:=c_join a2 hfn I1 (Y2k op);have⟨p1,p2,p3,p4⟩:=pJoin_abs (Y2k op) _ {s with c:=xpc t rest s.c} I1 rfl;have pF:(Y55 (Y2k op) s.f.signs.length {s with c:=xpc t rest s.c}).F=s.F:=(pJoin_ops (Y2k op) s.f.signs.length {s with c:=xpc t rest s.c}).2.2.2.2.2.1;have⟨r51,hr51⟩:=h45.fresh;have⟨c1,c2,c3,c4⟩:=b2.grow (u:=4) (rt:=⟨0,true,3,1,[.int .i64 op]⟩) (.inr rfl) hr51;have⟨h54,y,d1,d2,d3,d4,h59,g59,d5,d6,d7⟩:=c2.appSign op (by grind);have⟨o1,o2,o3⟩:=pSign_ok I1 op;have l1:=b2.fp.ldRow (k:=3) rfl;have k1:=b2.fp.hasF;have e1:({s with c:=xpc t rest s.c}:Ls).f.signs.length=s.f.signs.length:=rfl;rw[e1] at d5 l1;rw[pF] at d5 l1;rw[b4.fr,b4.fv] at d3 d5 l1 k1;refine⟨.rsl q 0 (0+(1:Int).toNat*1) ((c0::rest).length-(1:Int).toNat),⟨trivial,rfl⟩,⟨q,0,0,_,rfl,HasK.mk hq rfl rfl,by omega,by grind,rfl⟩,h41,a1,Y2k op,c_prec h41 op,h45,b1,k1,L45.ρ.xs,b2.fp.row.2.2.1.nc,l1,r51,_,c1,h54,y,d2,d1,d3,d4,h59,d5,by rw[hr],g59,_,_,d6,o1,by rw[hr];exact o2,((K.trans (a3.kept (by omega))).trans b3).trans (((c3 fun u=>u=4).kept rfl).trans d7),b4.p.trans hp, ?_⟩;show L45.fn=(pSign op {s with c:=xpc t rest s.c}).F.length+1;rw[o3,b4.fn];exact hfn
theorem m_clo{r3:Nat}(R:Rep h g t s L)(hfn:L.fn=s.F.length+1)(I:InvF t s)(hF:s.F≠[]){a b:Int}(hb:h.at r3=some ⟨0,true,80,3,[.int .u8 a,.int .u8 b,.int .u8 (clB s.f.op)]⟩)(K:Kept h0 g0 h g)(hp:L.p=L0.p)(hr:r=(false,Y2y s.f.op 0 1 (qOpd (qU (xpc t [clB s.f.op] s.c) (abs s))))):
  (Has h r3 0)∧∃(x308:Int),(Ld h r3 0 2 (.int .u8 x308))∧∃(r310:Nat),∃(h311:Hp),(Nw h r310 ⟨0,true,33,1,[.int .u8 x308]⟩ h311)∧∃(h313:Hp),(CallOK Tryd.prog 62 [.ref L.p 0 0,.rsl r310 0 0 1] h311 h313 (.tup []))∧(Has h313 L.fr L.fv)∧∃(s316:AV),(NC s316)∧(Ld h313 L.fr L.fv (0+s.F.length*7+1) s316)∧∃(h319:Hp),∃(x320:Int),(CallOK Tryd.prog 28 [.ref L.p 0 0] h313 h319 (.int .i64 x320))∧∃(r322:Nat),∃(h323:Hp),(Nw h319 r322 ⟨0,true,3,1,[.int .i64 x320]⟩ h323)∧∃(h325:Hp),∃(s327:AV),(NC s327)∧(App h323 s316 3 1 8 1 [.int .i64 x320] h325 s327)∧(Has h325 L.fr L.fv)∧(oneA h325 s327)∧∃(h330:Hp),(St h325 L.fr L.fv (0+s.F.length*7+1) s327 h330)∧(Has h319 L.fr L.fv)∧(Has h323 L.fr L.fv)∧(Ld h319 L.fr L.fv (0+s.F.length*7+1) s316)∧(Ld h323 L.fr L.fv (0+s.F.length*7+1) s316)∧(Has h330 L.fr L.fv)∧∃(x338:Int),(Ld h330 L.fr L.fv (0+s.F.length*7+0) (.int .i64 x338))∧∃(s340:AV),(NC s340)∧(Ld h330 L.fr L.fv (0+s.F.length*7+1) s340)∧∃(h343:Hp),∃(x344:Int),(CallOK Tryd.prog 57 [.ref L.p 0 0,.int .i64 x338,.int .i64 0,s340] h330 h343 (.int .i64 x344))∧∃(h346:Hp),(CallOK Tryd.prog 67 [.ref L.p 0 0,.int .i64 x344,.int .i64 1] h343 h346 (.tup []))∧(Y7i h0 g0 t L0 r h346 (.bool false)):=by
 have hbF:=I.b.F;have hbT:=I.J.bT;have nO:=I.nO;have⟨r88,h89,a1,h91,a2,g91,a3,a4⟩:=c_expL R I.b.o I.b.l [clB s.f.op] (by simp);have I1:=I.J.cu (xpc t [clB s.f.op] s.c);have⟨o1,o2,o3,o4,o5,o6,o7⟩:=pOpd_ok I1;refine⟨Has.mk hb rfl,clB s.f.op,⟨_,hb,rfl,rfl,rfl⟩,r88,h89,a1,h91,a2,m_op a3 hfn I1 (by grind) fun h' g' L' b1 b2 b3=> ?_⟩;have M:=m_close (h0:=h0) (g0:=g0) (L0:=L0) (r:=r) b1 (by rw[b3.fn,o3];exact hfn) (by simp_all) o1 o5 (by simp_all) (by grind) (by grind) (by rw[o3];exact fun f hf=>by have:=I.tF f hf;omega) s.f.op 0 1 (a:=false) ((K.trans (a4.kept (by omega))).trans b2) (b3.p.trans hp) (by rw[hr,o2];rfl);have l0:=b1.fp.ldRow (k:=0) rfl;have hh:=b1.fp.hasF;have eop:(pOpd {s with c:=xpc t [clB s.f.op] s.c}).f.op=s.f.op:=(pJoin_ops 0 s.f.signs.length {s with c:=xpc t [clB s.f.op] s.c}).2.1;rw[o3,b3.fr,b3.fv,b3.p] at M;rw[o3,b3.fr,b3.fv,eop] at l0;rw[b3.fr,b3.fv] at hh
 grind
theorem m_rest(R:Rep h g t s L)(hfn:L.fn=s.F.length+1)(I:InvF t s)(K:Kept h0 g0 h g)(hp:L.p=L0.p)(hr:r=qRest t (abs s)):
  (Has h L.p 0)∧(Ld h L.p 0 8 (.im (.mp (mapV Y57))))∧(Has h L.fr L.fv)∧∃(x185:Int),(Ld h L.fr L.fv (0+s.F.length*7+0) (.int .i64 x185))∧∃(r187:Nat),∃(h188:Hp),(Nw h r187 ⟨0,true,80,3,[.int .u8 0,.int .u8 0,.int .u8 0]⟩ h188)∧∃(h190:Hp),(St h188 r187 0 0 (.agg [.int .u8 ((Y71 Y57 x185).getD 0 0),.int .u8 ((Y71 Y57 x185).getD 1 0),.int .u8 ((Y71 Y57 x185).getD 2 0)]) h190)∧(Has h188 L.p 0)∧(Ld h188 L.p 0 8 (.im (.mp (mapV Y57))))∧(Has h188 L.fr L.fv)∧(Ld h188 L.fr L.fv (0+s.F.length*7+0) (.int .i64 x185))∧(Has h190 L.fr L.fv)∧∃(x197:Int),(Ld h190 L.fr L.fv (0+s.F.length*7+0) (.int .i64 x197))∧((((x197:Int)==(-1))=true→(Has h190 L.p 0)∧∃(x201:Int),(Ld h190 L.p 0 1 (.int .i64 x201))∧∃(ys203:List IV),∃(n204:Nat),(Ld h190 L.p 0 0 (.im (.sl ys203 n204)))∧∃(h206:Hp),(St h190 L.p 0 7 (.bool ((x201:Int)==((n204:Nat):Int))) h206)∧(Has h206 L.p 0)∧∃(b209:Bool),(Ld h206 L.p 0 7 (.bool b209))∧∃(h211:Hp),(St h206 L.p 0 2 (.bool (!b209)) h211)∧(Y7i h0 g0 t L0 r h211 (.bool false)))∧(((x197:Int)==(-1))=false→((((x197:Int)==(-2))=true→∃(h214:Hp),∃(b215:Bool),(CallOK Tryd.prog 65 [.ref L.p 0 0,.ref L.fr L.fv (0+s.F.length*7)] h190 h214 (.bool b215))∧(Y7i h0 g0 t L0 r h214 (.bool b215)))∧(((x197:Int)==(-2))=false→((((x197:Int)==13)=true→∃(h218:Hp),∃(b219:Bool),(CallOK Tryd.prog 66 [.ref L.p 0 0,.ref L.fr L.fv (0+s.F.length*7)] h190 h218 (.bool b219))∧(Y7i h0 g0 t L0 r h218 (.bool b219)))∧(((x197:Int)==13)=false→((((x197:Int)==6)=true→∃(s222:AV),(NC s222)∧(Ld h190 L.fr L.fv (0+s.F.length*7+1) s222)∧∃(n225:Nat),(Len h190 s222 n225)∧((((((n225:Nat):Int):Int)==0)=true→(Has h190 r187 0)∧∃(x229:Int),(Ld h190 r187 0 1 (.int .u8 x229))∧∃(r231:Nat),∃(h232:Hp),(Nw h190 r231 ⟨0,true,33,1,[.int .u8 x229]⟩ h232)∧∃(h234:Hp),(CallOK Tryd.prog 62 [.ref L.p 0 0,.rsl r231 0 0 1] h232 h234 (.tup []))∧(Has h234 L.fr L.fv)∧∃(s237:AV),(NC s237)∧(Ld h234 L.fr L.fv (0+s.F.length*7+1) s237)∧∃(h240:Hp),∃(x241:Int),(CallOK Tryd.prog 28 [.ref L.p 0 0] h234 h240 (.int .i64 x241))∧∃(r243:Nat),∃(h244:Hp),(Nw h240 r243 ⟨0,true,3,1,[.int .i64 x241]⟩ h244)∧∃(h246:Hp),∃(s248:AV),(NC s248)∧(App h244 s237 3 1 8 1 [.int .i64 x241] h246 s248)∧(Has h246 L.fr L.fv)∧(oneA h246 s248)∧∃(h251:Hp),(St h246 L.fr L.fv (0+s.F.length*7+1) s248 h251)∧(Has h240 L.fr L.fv)∧(Has h244 L.fr L.fv)∧(Ld h240 L.fr L.fv (0+s.F.length*7+1) s237)∧(Ld h244 L.fr L.fv (0+s.F.length*7+1) s237)∧(Y7i h0 g0 t L0 r h251 (.bool true)))∧(((((n225:Nat):Int):Int)==0)=false→(Has h190 r187 0)∧∃(x259:Int),(Ld h190 r187 0 2 (.int .u8 x259))∧∃(r261:Nat),∃(h262:Hp),(Nw h190 r261 ⟨0,true,33,1,[.int .u8 x259]⟩ h262)∧∃(h264:Hp),(CallOK Tryd.prog 62 [.ref L.p 0 0,.rsl r261 0 0 1] h262 h264 (.tup []))∧(Has h264 L.fr L.fv)∧∃(s267:AV),(NC s267)∧(Ld h264 L.fr L.fv (0+s.F.length*7+1) s267)∧∃(h270:Hp),∃(x271:Int),(CallOK Tryd.prog 28 [.ref L.p 0 0] h264 h270 (.int .i64 x271))∧∃(r273:Nat),∃(h274:Hp),(Nw h270 r273 ⟨0,true,3,1,[.int .i64 x271]⟩ h274)∧∃(h276:Hp),∃(s278:AV),(NC s278)∧(App h274 s267 3 1 8 1 [.int .i64 x271] h276 s278)∧(Has h276 L.fr L.fv)∧(oneA h276 s278)∧∃(h281:Hp),(St h276 L.fr L.fv (0+s.F.length*7+1) s278 h281)∧(Has h270 L.fr L.fv)∧(Has h274 L.fr L.fv)∧(Ld h270 L.fr L.fv (0+s.F.length*7+1) s267)∧(Ld h274 L.fr L.fv (0+s.F.length*7+1) s267)∧(Has h281 L.fr L.fv)∧∃(x289:Int),(Ld h281 L.fr L.fv (0+s.F.length*7+0) (.int .i64 x289))∧∃(s291:AV),(NC s291)∧(Ld h281 L.fr L.fv (0+s.F.length*7+1) s291)∧∃(h294:Hp),∃(x295:Int),(CallOK Tryd.prog 57 [.ref L.p 0 0,.int .i64 x289,.int .i64 0,s291] h281 h294 (.int .i64 x295))∧∃(h297:Hp),(CallOK Tryd.prog 67 [.ref L.p 0 0,.int .i64 x295,.int .i64 1] h294 h297 (.tup []))∧(Y7i h0 g0 t L0 r h297 (.bool false)))))∧(((x197:Int)==6)=false→((((x197:Int)==7)=true→(Has h190 L.p 0)∧∃(h301:Hp),(St h190 L.p 0 2 (.bool true) h301)∧(Y7i h0 g0 t L0 r h301 (.bool true)))∧(((x197:Int)==7)=false→((((x197:Int)==8)=true→(Has h190 L.p 0)∧∃(h305:Hp),(St h190 L.p 0 2 (.bool true) h305)∧(Y7i h0 g0 t L0 r h305 (.bool true)))∧(((x197:Int)==8)=false→(Has h190 r187 0)∧∃(x308:Int),(Ld h190 r187 0 2 (.int .u8 x308))∧∃(r310:Nat),∃(h311:Hp),(Nw h190 r310 ⟨0,true,33,1,[.int .u8 x308]⟩ h311)∧∃(h313:Hp),(CallOK Tryd.prog 62 [.ref L.p 0 0,.rsl r310 0 0 1] h311 h313 (.tup []))∧(Has h313 L.fr L.fv)∧∃(s316:AV),(NC s316)∧(Ld h313 L.fr L.fv (0+s.F.length*7+1) s316)∧∃(h319:Hp),∃(x320:Int),(CallOK Tryd.prog 28 [.ref L.p 0 0] h313 h319 (.int .i64 x320))∧∃(r322:Nat),∃(h323:Hp),(Nw h319 r322 ⟨0,true,3,1,[.int .i64 x320]⟩ h323)∧∃(h325:Hp),∃(s327:AV),(NC s327)∧(App h323 s316 3 1 8 1 [.int .i64 x320] h325 s327)∧(Has h325 L.fr L.fv)∧(oneA h325 s327)∧∃(h330:Hp),(St h325 L.fr L.fv (0+s.F.length*7+1) s327 h330)∧(Has h319 L.fr L.fv)∧(Has h323 L.fr L.fv)∧(Ld h319 L.fr L.fv (0+s.F.length*7+1) s316)∧(Ld h323 L.fr L.fv (0+s.F.length*7+1) s316)∧(Has h330 L.fr L.fv)∧∃(x338:Int),(Ld h330 L.fr L.fv (0+s.F.length*7+0) (.int .i64 x338))∧∃(s340:AV),(NC s340)∧(Ld h330 L.fr L.fv (0+s.F.length*7+1) s340)∧∃(h343:Hp),∃(x344:Int),(CallOK Tryd.prog 57 [.ref L.p 0 0,.int .i64 x338,.int .i64 0,s340] h330 h343 (.int .i64 x344))∧∃(h346:Hp),(CallOK Tryd.prog 67 [.ref L.p 0 0,.int .i64 x344,.int .i64 1] h343 h346 (.tup []))∧(Y7i h0 g0 t L0 r h346 (.bool false)))))))))))))):=by
 have⟨r3,h188,a1,h190,a2,g6,a3',a3,a4,a5,a6,a7⟩:=arr3 R ((Y71 Y57 s.f.op).getD 0 0) ((Y71 Y57 s.f.op).getD 1 0) ((Y71 Y57 s.f.op).getD 2 0);have K1:=K.trans a5;have nO:=I.nO;have hqr:r=if s.f.op= -1 then(false,{abs s with c:=⟨s.c.at_,s.c.at_ !=(t.length:Nat)⟩,dn:=s.c.at_==(t.length:Nat)})
  else if s.f.op= -2 then Y4e t (abs s) else if s.f.op=13 then Y3y t (abs s) else if s.f.op=6∧(abs s).f.ops=[] then(true,qOpd (qU (xpc t [12] s.c) (abs s))) else if s.f.op=7∨s.f.op=8 then(true,qBad (abs s))
  else(false,Y2y s.f.op 0 1 (qOpd (qU (xpc t [clB s.f.op] s.c) (abs s)))):=hr
 refine⟨R.has,R.ldM,R.fp.hasF,s.f.op,R.fp.ldRow (k:=0) rfl,r3,h188,a1,h190,a2,a3'.has,a3'.ldM,a3'.fp.hasF,a3'.fp.ldRow (k:=0) rfl,a3.fp.hasF,s.f.op,a3.fp.ldRow (k:=0) rfl,fun h1=> ?_,fun h1=> ?_⟩
 ·have e1:s.f.op= -1:=by simp_all
  rw[if_pos e1] at hqr;have⟨h206,b1,b2,b3⟩:=a3.setD (s.c.at_==(t.length:Nat));have⟨h211,c1,c2,c3⟩:=b2.setW (!(s.c.at_==(t.length:Nat)));exact⟨a3.has,s.c.at_,a3.ldAt,_,_,a3.ldC,h206,b1,b2.has,_,b2.ldD,h211,c1,by rw[hqr],g6,L,_,c2,I.J.ok.same rfl rfl rfl rfl,by rw[hqr];rfl,K1.trans ((b3.trans c3).kept (by omega)),hp,hfn⟩
 ·have e1:¬s.f.op= -1:=by simp_all
  rw[if_neg e1] at hqr;have hF:=I.top.resolve_left e1;refine⟨fun h2=> ?_,fun h2=> ?_⟩
  ·have e2:s.f.op= -2:=by simp_all
   rw[if_pos e2] at hqr;have⟨h',av,x1,x2⟩:=c_ungroup a3 hfn I hF e2 K1 hp hqr;have x3:=x2.1
   grind
  ·have e2:¬s.f.op= -2:=by simp_all
   rw[if_neg e2] at hqr;refine⟨fun h3=> ?_,fun h3=> ?_⟩
   ·have e3:s.f.op=13:=by simp_all
    rw[if_pos e3] at hqr;have⟨h',av,x1,x2⟩:=c_matrix a3 hfn I hF K1 hp hqr;have x3:=x2.1
    grind
   ·have e3:¬s.f.op=13:=by simp_all
    rw[if_neg e3] at hqr;refine⟨fun h4=> ?_,fun h4=> ?_⟩
    ·have e4:s.f.op=6:=by simp_all
     refine⟨L.ρ.xo,a3.fp.row.1.1.nc,a3.fp.ldRow (k:=1) rfl,s.f.ops.length,a3.fp.row.1.1.len,fun h5=> ?_,fun h5=> ?_⟩
     ·have e5:s.f.ops.length=0:=by simp_all
      have e6:(abs s).f.ops=[]:=by
       show s.f.ops.map (tr s.T)=[]
       simp_all
      rw[if_pos ⟨e4,e6⟩] at hqr;have⟨r88,h89,b1,h91,b2,g91,b3,b4⟩:=c_expL a3 I.b.o I.b.l [12] (by simp);have I1:=I.J.cu (xpc t [12] s.c);have⟨o1,o2,o3,o4,o5,o6,o7⟩:=pOpd_ok I1;have hm:(Y71 Y57 s.f.op).getD 1 0=12:=by rw[e4];rfl
      refine⟨Has.mk a6 rfl,12,⟨_,a6,rfl,rfl,by grind⟩,r88,h89,b1,h91,b2,m_op b3 hfn I1 (by simp_all) fun h' g' L' c1 c2 c3=> ?_⟩;exact⟨by rw[hqr],g',L',_,c1,o1,by rw[o2,hqr];rfl,(K1.trans (b4.kept (by omega))).trans c2,c3.p.trans hp,by rw[c3.fn,o3];exact hfn⟩
     ·have e5:¬s.f.ops.length=0:=by simp_all
      have e6:¬(abs s).f.ops=[]:=by
       intro e;have:=congrArg List.length e;simp[abs,alf] at this
       simp_all
      rw[if_neg (fun h=>e6 h.2),Vn] at hqr;exact m_clo a3 hfn I hF a6 K1 hp hqr
    ·have e4:¬s.f.op=6:=by simp_all
     rw[if_neg (fun h=>e4 h.1)] at hqr;refine⟨fun h5=>⟨a3.has, ?_⟩,fun h5=>⟨fun h6=>⟨a3.has, ?_⟩,fun h6=> ?_⟩⟩
     ·rw[if_pos (.inl (by simp_all))] at hqr;exact m_bad a3 hfn I.J.ok K1 hp hqr
     ·rw[if_pos (.inr (by simp_all))] at hqr;exact m_bad a3 hfn I.J.ok K1 hp hqr
     ·have e7:¬s.f.op=7:=by simp_all
      have e8:¬s.f.op=8:=by simp_all
      rw[Vn] at hqr;exact m_clo a3 hfn I hF a6 K1 hp hqr
theorem c_follow(R:Rep h g t s L)(hfn:L.fn=s.F.length+1)(I:InvF t s):∃h' av,CallOK Tryd.prog 27 [.ref L.p 0 0] h h' av∧Y7i h g t L (Yk t (abs s)) h' av:=by
 have hl:=I.b.l;have hbF:=I.b.F;refine Y3g (w_follow (h:=h) (p:=L.p) (Q:=Y7i h g t L (Yk t (abs s))) (Qp:=fun _ _=>False) ?_);generalize hr:Yk t (abs s)=r;have hr':r=if hit t 16 s.c=true then qSgn t (qU s.c.adv (abs s)) else if s.base=2 then(true,qBad (abs s)) else if hit t 44 s.c=true then(true,Y9f 2 (qU s.c.adv (abs s))) else if hit t 36 s.c=true then(true,Y9f 3 (qU s.c.adv (abs s)))
  else if hit t 33 s.c=true then(true,Y9f 4 (qU s.c.adv (abs s))) else if hit t 0 s.c=true then(true,Y9f 5 (qU (xpc t [54,0] s.c.adv) (abs s))) else qRest t (abs s):=hr.symm
 refine⟨L.fr,L.fv,_,c_inner R hfn (by omega), ?_⟩;rcases nx R I.b.o hl 16 with⟨hh,h5,a1,a2,a3,o1⟩|⟨hh,h5,a1,a2,a3⟩
 ·rw[if_pos hh] at hr';have⟨h',av,x1,x2⟩:=c_sgn a2 hfn (I.cu o1) (h0:=h) (g0:=g) (L0:=L) (r:=r) (a3.kept (by omega)) rfl hr';have x3:=x2.1;subst x3;exact⟨h5,true,a1,fun _=>⟨h',_,x1,x2⟩,fun e=>by cases e⟩
 ·rw[if_neg (by grind)] at hr';have K1:Kept h g h5 g:=a3.kept (by omega);refine⟨h5,false,a1,fun e=>(by cases e),fun _=>⟨a2.has,s.base,a2.ldB,fun hb=> ?_,fun hb=> ?_⟩⟩
  ·have hb':s.base=2:=by simp_all
   rw[if_pos hb'] at hr';exact m_bad a2 hfn I.J.ok K1 rfl hr'
  ·have hb':¬s.base=2:=by simp_all
   rw[if_neg hb'] at hr';have⟨q,hq⟩:=h5.fresh;have⟨e1,e2,e3,e4⟩:=a2.grow (u:=4) (rt:=⟨0,true,3,1,[.int .i64 2,.int .i64 3,.int .i64 4,.int .i64 5]⟩) (.inr rfl) hq;have hc:Hp.at ((q,(⟨0,true,3,1,[.int .i64 2,.int .i64 3,.int .i64 4,.int .i64 5]⟩:Rt))::h5) q=some ⟨0,true,3,1,[.int .i64 2,.int .i64 3,.int .i64 4,.int .i64 5]⟩:=Y2z _ _ _;have K2:=K1.trans ((e3 fun u=>u=4).kept rfl)
   --one operator is tried
   have try1:∀{h1:Hp} {g1:Tag} {op c0:Int} {rest:List Int},Rep h1 g1 t s L→Kept h g h1 g1→h1.at q=some ⟨0,true,3,1,[.int .i64 2,.int .i64 3,.int .i64 4,.int .i64 5]⟩→g1 q=4→((op=2∧c0::rest=[44])∨(op=3∧c0::rest=[36])∨(op=4∧c0::rest=[33])∨(op=5∧c0::rest=[0,54,0]))→
     ∃(h2:Hp) (q2:Nat),CallOK Tryd.prog 42 [.int .i64 op] h1 h2 (.rsl q2 0 0 (c0::rest).length)∧Ix h2 (.rsl q2 0 0 (c0::rest).length) 1 0 (.ref q2 0 0)∧Ld h2 q2 0 0 (.int .u8 c0)∧∃(g3:Tag) (h3:Hp) (b:Bool),CallOK Tryd.prog 53 [.ref L.p 0 0,.int .u8 c0] h2 h3 (.bool b)∧hit t c0 s.c=b∧Kept h g h3 g3∧h3.at q=some ⟨0,true,3,1,[.int .i64 2,.int .i64 3,.int .i64 4,.int .i64 5]⟩∧g3 q=4∧
      ((b=true∧Rep h3 g3 t {s with c:=s.c.adv} L∧CuOk t s.c.adv∧h3.at q2=some ⟨0,true,33,1,eU8 (c0::rest)⟩∧g3 q2=4)∨(b=false∧Rep h3 g3 t s L)):=fun {h1 g1 op c0 rest} R1 K1 q1 gq1 hop=>by
    have⟨q2,hq2⟩:=h1.fresh;have⟨f1,f2,f3,f4⟩:=R1.grow (u:=4) (rt:=⟨0,true,33,1,eU8 (c0::rest)⟩) (.inr rfl) hq2;have hs:Hp.at ((q2,(⟨0,true,33,1,eU8 (c0::rest)⟩:Rt))::h1) q2=some ⟨0,true,33,1,eU8 (c0::rest)⟩:=Y2z _ _ _;have⟨b1,b2⟩:=f3 (fun u=>u=4) q (by grind) gq1;have K2:=K1.trans ((f3 fun u=>u=4).kept rfl);refine⟨_,q2,c_sg h1 hop hq2,.inl ⟨q2,0,0,_,rfl,HasK.mk hs rfl rfl,by omega,by simp,rfl⟩,⟨_,hs,rfl,rfl,rfl⟩,upg g1 q2 4, ?_⟩;rcases nx f2 I.b.o hl c0 with⟨hh,h3,k1,k2,k3,o6⟩|⟨hh,h3,k1,k2,k3⟩
    ·have⟨d1,d2⟩:=k3 q (by simp_all) (by omega);exact⟨h3,true,k1,hh,K2.trans (k3.kept (by omega)),d1.trans (b1.trans q1),d2.trans (b2.trans gq1),.inl ⟨rfl,k2,o6,(k3 q2 (by grind) (by omega)).1.trans hs,f4⟩⟩
    ·have⟨d1,d2⟩:=k3 q (by simp_all) (by omega);exact⟨h3,false,k1,hh,K2.trans (k3.kept (by omega)),d1.trans (b1.trans q1),d2.trans (b2.trans gq1),.inr ⟨rfl,k2⟩⟩
   refine⟨q,_,e1,Has.mk hc rfl,HasK.mk hc rfl rfl,⟨_,hc,rfl,rfl,rfl⟩, ?_⟩;have⟨h24,q2,b1,b2,b3,g3,h34,b,b4,b5,K3,q3,gq3,hb3⟩:=try1 (op:=2) (c0:=44) (rest:=[]) e2 K2 hc e4 (.inl ⟨rfl,rfl⟩);refine⟨h24,.rsl q2 0 0 1,⟨trivial,rfl⟩,b1,q2,0,0,b2,44,b3,h34,b,b4,fun hb=> ?_,fun hb=> ?_⟩
   ·rcases hb3 with⟨_,R3,o3,s3,gs3⟩|⟨hb',_⟩
    ·rw[b5,if_pos hb] at hr';exact m_sign R3 hfn (I.cu o3) s3 gs3 (by simp) K3 rfl hr'
    simp_all
   ·rcases hb3 with⟨hb',_⟩|⟨_,R3⟩
    ·simp_all
    ·rw[b5,if_neg (by grind)] at hr';refine⟨HasK.mk q3 rfl rfl,⟨_,q3,rfl,rfl,rfl⟩, ?_⟩;have⟨h24,q2,b1,b2,b3,g3,h34,b,b4,b5,K3,q3,gq3,hb3⟩:=try1 (op:=3) (c0:=36) (rest:=[]) R3 K3 q3 gq3 (.inr (.inl ⟨rfl,rfl⟩));refine⟨h24,.rsl q2 0 0 1,⟨trivial,rfl⟩,b1,q2,0,0,b2,36,b3,h34,b,b4,fun hb=> ?_,fun hb=> ?_⟩
     ·rcases hb3 with⟨_,R3,o3,s3,gs3⟩|⟨hb',_⟩
      ·rw[b5,if_pos hb] at hr';exact m_sign R3 hfn (I.cu o3) s3 gs3 (by simp) K3 rfl hr'
      simp_all
     ·rcases hb3 with⟨hb',_⟩|⟨_,R3⟩
      ·simp_all
      ·rw[b5,if_neg (by grind)] at hr';refine⟨HasK.mk q3 rfl rfl,⟨_,q3,rfl,rfl,rfl⟩, ?_⟩;have⟨h24,q2,b1,b2,b3,g3,h34,b,b4,b5,K3,q3,gq3,hb3⟩:=try1 (op:=4) (c0:=33) (rest:=[]) R3 K3 q3 gq3 (.inr (.inr (.inl ⟨rfl,rfl⟩)));refine⟨h24,.rsl q2 0 0 1,⟨trivial,rfl⟩,b1,q2,0,0,b2,33,b3,h34,b,b4,fun hb=> ?_,fun hb=> ?_⟩
       ·rcases hb3 with⟨_,R3,o3,s3,gs3⟩|⟨hb',_⟩
        ·rw[b5,if_pos hb] at hr';exact m_sign R3 hfn (I.cu o3) s3 gs3 (by simp) K3 rfl hr'
        simp_all
       ·rcases hb3 with⟨hb',_⟩|⟨_,R3⟩
        ·simp_all
        ·rw[b5,if_neg (by grind)] at hr';refine⟨HasK.mk q3 rfl rfl,⟨_,q3,rfl,rfl,rfl⟩, ?_⟩;have⟨h24,q2,b1,b2,b3,g3,h34,b,b4,b5,K3,q3,gq3,hb3⟩:=try1 (op:=5) (c0:=0) (rest:=[54,0]) R3 K3 q3 gq3 (.inr (.inr (.inr ⟨rfl,rfl⟩)));refine⟨h24,.rsl q2 0 0 3,⟨trivial,rfl⟩,b1,q2,0,0,b2,0,b3,h34,b,b4,fun hb=> ?_,fun hb=> ?_⟩
         ·rcases hb3 with⟨_,R3,o3,s3,gs3⟩|⟨hb',_⟩
          ·rw[b5,if_pos hb] at hr';exact m_sign R3 hfn (I.cu o3) s3 gs3 (by simp) K3 rfl hr'
          simp_all
         ·rcases hb3 with⟨hb',_⟩|⟨_,R3⟩
          ·simp_all
          ·rw[b5,if_neg (by grind)] at hr';exact m_rest R3 hfn I K3 rfl hr'
end
end Go.Proofs.YtfpcbalkioolmaaDoor
