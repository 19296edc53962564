/- Own work. -/
import Derived.Test.YtfpcbalkioolmaaDoorLrA
import Derived.Test.YtfpcbalkioolmaaDoorLq1
import Derived.Test.YtfpcbalkioolmaaDoorWpA
set_option linter.unusedSimpArgs false
set_option linter.unusedVariables false
namespace Go.Proofs.YtfpcbalkioolmaaDoor
open Go.Abs
structure Ls where
 c:Cu
 T:List Tn
 F:List Fr
 f:Fr
 lv:List Int
 base:Int
 dn:Bool
structure Lay where
 p:Nat
 fr:Nat
 fv:Nat
 fn:Nat
 xt:AV
 xl:AV
 X:List AV
 R:List Row
 ρ:Row
 G:List AV
def boxC (t:List Int) (s:Ls) (L:Lay):List AV:=[.im (.sl (t.flatMap (eI .u8)) t.length),.int .i64 s.c.at_,.bool s.c.wr,L.xt,.rsl L.fr L.fv 0 L.fn,L.xl,.int .i64 s.base,.bool s.dn,.im (.mp (mapV Y57))]
structure Rep (h:Hp) (g:Tag) (t:List Int) (s:Ls) (L:Lay):Prop where
 box:h.at L.p=some ⟨0,true,67,9,boxC t s L⟩
 gp:g L.p=0
 fp:FrP h g s.F s.f L.fr L.fv L.R L.ρ L.G
 tp:TrP h g s.T L.xt L.X
 lp:LvP h g s.lv L.xl
structure LX (L L':Lay):Prop where
 p:L'.p=L.p
 fr:L'.fr=L.fr
 fv:L'.fv=L.fv
 fn:L'.fn=L.fn
structure LS (L L':Lay):Prop extends LX L L' where
 R:L'.R=L.R
 G:L'.G=L.G
 xo:L'.ρ.xo=L.ρ.xo
theorem LX.refl(L:Lay):LX L L:=⟨rfl,rfl,rfl,rfl⟩
theorem LX.trans{L L1 L2:Lay}(a:LX L L1)(b:LX L1 L2):LX L L2:=⟨b.p.trans a.p,b.fr.trans a.fr,b.fv.trans a.fv,b.fn.trans a.fn⟩
theorem LS.refl(L:Lay):LS L L:=⟨LX.refl L,rfl,rfl,rfl⟩
theorem LS.trans{L L1 L2:Lay}(a:LS L L1)(b:LS L1 L2):LS L L2:=⟨a.toLX.trans b.toLX,b.R.trans a.R,b.G.trans a.G,b.xo.trans a.xo⟩
section
variable {h h1:Hp} {g g1:Tag} {t:List Int} {s s':Ls} {L L':Lay}
namespace Rep
theorem has(R:Rep h g t s L):Has h L.p 0:=Has.mk R.box rfl
theorem ldC(R:Rep h g t s L):Ld h L.p 0 0 (.im (.sl (t.flatMap (eI .u8)) t.length)):=⟨_,R.box,rfl,rfl,rfl⟩
theorem ldAt(R:Rep h g t s L):Ld h L.p 0 1 (.int .i64 s.c.at_):=⟨_,R.box,rfl,rfl,rfl⟩
theorem ldW(R:Rep h g t s L):Ld h L.p 0 2 (.bool s.c.wr):=⟨_,R.box,rfl,rfl,rfl⟩
theorem ldT(R:Rep h g t s L):Ld h L.p 0 3 L.xt:=⟨_,R.box,rfl,rfl,rfl⟩
theorem ldF(R:Rep h g t s L):Ld h L.p 0 4 (.rsl L.fr L.fv 0 L.fn):=⟨_,R.box,rfl,rfl,rfl⟩
theorem ldL(R:Rep h g t s L):Ld h L.p 0 5 L.xl:=⟨_,R.box,rfl,rfl,rfl⟩
theorem ldB(R:Rep h g t s L):Ld h L.p 0 6 (.int .i64 s.base):=⟨_,R.box,rfl,rfl,rfl⟩
theorem ldD(R:Rep h g t s L):Ld h L.p 0 7 (.bool s.dn):=⟨_,R.box,rfl,rfl,rfl⟩
theorem ldM(R:Rep h g t s L):Ld h L.p 0 8 (.im (.mp (mapV Y57))):=⟨_,R.box,rfl,rfl,rfl⟩
theorem nep(R:Rep h g t s L):h.at L.p≠none:=by rw[R.box];simp
theorem nef(R:Rep h g t s L):h.at L.fr≠none:=by rw[R.fp.frs];simp
theorem setB(hbox:h.at L.p=some ⟨0,true,67,9,boxC t s L⟩)(gp:g L.p=0){k:Nat}{y:AV}(hk:k<9)(hc:Y1r y=[y])(ho:okC h y)(hb:(boxC t s L).set k y=boxC t s' L')(hp:L'.p=L.p)
  (fp:FrP h g s'.F s'.f L'.fr L'.fv L'.R L'.ρ L'.G) (tp:TrP h g s'.T L'.xt L'.X) (lp:LvP h g s'.lv L'.xl):∃h1,St h L.p 0 k y h1∧Rep h1 g t s' L'∧Same h h1 [L.p]:=by
 have hS:Same h ((L.p,(⟨0,true,67,9,boxC t s' L'⟩:Rt))::h) [L.p]:=Same.cons _ _ _;have hl:(boxC t s L).length=9:=rfl;refine⟨_,⟨_,hbox,rfl,rfl,by grind,ho, ?_⟩,⟨by rw[hp];exact Y2z _ _ _,by simp_all,fp.keep (Kpt.same hS (by omega)),tp.keep (Kpt.same hS (by omega)),lp.keep (Kpt.same hS (by omega))⟩,hS⟩;congr 3;rw[hc, ←hb];have:=putA_mid (A:=[]) (row:=boxC t s L) (G:=[]) (n:=0) (k:=k) (y:=y) rfl (by omega)
 simp_all
theorem setU(R:Rep h g t s L){k:Nat}{y:AV}(hk:k<9)(hc:Y1r y=[y])(ho:okC h y){s':Ls}(hb:(boxC t s L).set k y=boxC t s' L)(h1:s'.T=s.T)(h2:s'.F=s.F)(h3:s'.f=s.f)(h4:s'.lv=s.lv):
  ∃h1,St h L.p 0 k y h1∧Rep h1 g t s' L∧Kpt h g h1 g fun u=>u≠0:=by
 have⟨q,a1,a2,a3⟩:=setB R.box R.gp hk hc ho hb rfl (by rw[h2,h3];exact R.fp) (by rw[h1];exact R.tp) (by rw[h4];exact R.lp);exact⟨q,a1,a2,Kpt.same a3 (by rw[R.gp];omega)⟩
theorem setAt(R:Rep h g t s L)(v:Int):∃h1,St h L.p 0 1 (.int .i64 v) h1∧Rep h1 g t {s with c:=⟨v,s.c.wr⟩} L∧Kpt h g h1 g fun u=>u≠0:=R.setU (k:=1) (y:=.int .i64 v) (by omega) rfl rfl rfl rfl rfl rfl rfl
theorem setW(R:Rep h g t s L)(b:Bool):∃h1,St h L.p 0 2 (.bool b) h1∧Rep h1 g t {s with c:=⟨s.c.at_,b⟩} L∧Kpt h g h1 g fun u=>u≠0:=R.setU (k:=2) (y:=.bool b) (by omega) rfl rfl rfl rfl rfl rfl rfl
theorem setBase(R:Rep h g t s L)(v:Int):∃h1,St h L.p 0 6 (.int .i64 v) h1∧Rep h1 g t {s with base:=v} L∧Kpt h g h1 g fun u=>u≠0:=R.setU (k:=6) (y:=.int .i64 v) (by omega) rfl rfl rfl rfl rfl rfl rfl
theorem setD(R:Rep h g t s L)(b:Bool):∃h1,St h L.p 0 7 (.bool b) h1∧Rep h1 g t {s with dn:=b} L∧Kpt h g h1 g fun u=>u≠0:=R.setU (k:=7) (y:=.bool b) (by omega) rfl rfl rfl rfl rfl rfl rfl
theorem kpt(R:Rep h g t s L)(a:Kpt h g h1 g1 fun u=>u≠4):Rep h1 g1 t s L:=by
 have b:=a L.p R.nep (by rw[R.gp];omega);exact⟨b.1.trans R.box,b.2.trans R.gp,R.fp.keep (a.sub fun u hu=>by omega),R.tp.keep (a.sub fun u hu=>by omega),R.lp.keep (a.sub fun u hu=>by omega)⟩
theorem grow(R:Rep h g t s L){r u:Nat}{rt:Rt}(hu:u=3∨u=4)(hr:h.at r=none):Nw h r rt ((r,rt)::h)∧Rep ((r,rt)::h) (upg g r u) t s L∧(∀S,Kpt h g ((r,rt)::h) (upg g r u) S)∧upg g r u r=u:=
 ⟨⟨hr,rfl⟩,R.kpt (Kpt.new hr),fun S=>Kpt.new hr,upg_self _ _ _⟩
theorem retag(R:Rep h g t s L){q:Nat}(hq:g q=4∨10+3*(s.F.length+1)≤g q):Rep h (upg g q 3) t s L∧Kpt h g h (upg g q 3) fun u=>u≠g q:=by
 have kp:∀S:Nat→Prop,¬S (g q)→Kpt h g h (upg g q 3) S:=fun S hS r hr hs=>⟨rfl,upg_ne g 3 fun e=>by simp_all⟩;refine⟨⟨R.box, ?_,R.fp.keep (kp _ (by omega)),R.tp.keep (kp _ (by omega)),R.lp.keep (kp _ (by omega))⟩,kp _ (by simp)⟩;rw[upg_ne g 3 (fun e=>by have:=R.gp;simp_all)];exact R.gp
theorem addTree(R:Rep h g t s L)(t':Tn)(x:AV)(hx:SlI h x t'.ops)(hg:∀r∈Y18 x,g r=3)(hn:s.T.length≤1000000000):
  ∃h1 y,App h L.xt 70 4 48 1 (treeC t' x) h1 y∧NC y∧Has h1 L.p 0∧oneA h1 y∧Ld h1 L.p 0 3 L.xt∧∃h2 g2,St h1 L.p 0 3 y h2∧Rep h2 g2 t {s with T:=s.T++[t']} {L with xt:=y,X:=L.X++[x]}∧Kept h g h2 g2:=by
 have⟨h1,y,g1,a1,a2,a3,a4,a5⟩:=R.tp.app t' x hx hg hn;have b:=a5 (fun u=>u=0) (by omega) L.p R.nep R.gp;have hb:=b.1.trans R.box;have⟨h2,c1,c2,c3⟩:=setB (s':={s with T:=s.T++[t']}) (L':={L with xt:=y,X:=L.X++[x]}) hb (b.2.trans R.gp) (k:=3) (y:=y) (by omega) (Y5o a3) (Y6b a3) rfl rfl (R.fp.keep (a5 _ (by omega))) a4 (R.lp.keep (a5 _ (by omega)));exact⟨h1,y,a1,a2,Has.mk hb rfl,a3,⟨_,hb,rfl,rfl,rfl⟩,h2,g1,c1,c2,((a5 (fun u=>u=4) (by omega)).trans (Kpt.same c3 (by rw[b.2,R.gp];omega))).kept rfl⟩
theorem stRow(R:Rep h g t s L){k:Nat}{y:AV}{f':Fr}{ρ':Row}(hk:k<7)(hc:Y1r y=[y])(ho:okC h y)(hrow:(row7 s.f L.ρ).set k y=row7 f' ρ')(hok:RowOK h g s.F.length f' ρ'):
  ∃h1,St h L.fr L.fv (0+s.F.length*7+k) y h1∧Rep h1 g t {s with f:=f'} {L with ρ:=ρ'}∧Kept h g h1 g:=by
 have⟨h1,a1,a2,a3⟩:=stRaw R.fp.frs R.fp.lR rfl hk hc ho;rw[hrow] at a2;have gf:=R.fp.gf;have kp:∀S:Nat→Prop,¬S 1→Kpt h g h1 g S:=fun S hS=>Kpt.same a3 (by simp_all);exact⟨h1,a1,⟨(kp (fun u=>u=0) (by omega) L.p R.nep R.gp).1.trans R.box,R.gp,R.fp.reRow (kp _ (by omega)) a2 gf (hok.kpt (kp _ (by omega))),R.tp.keep (kp _ (by omega)),R.lp.keep (kp _ (by omega))⟩,(kp (fun u=>u=4) (by omega)).kept rfl⟩
theorem stInt(R:Rep h g t s L){k:Nat}{v:Int}{f':Fr}(hk:k<7)(hrow:(row7 s.f L.ρ).set k (.int .i64 v)=row7 f' L.ρ)(h1:f'.ops=s.f.ops)(h2:f'.terms=s.f.terms)(h3:f'.signs=s.f.signs):
  ∃h1,St h L.fr L.fv (0+s.F.length*7+k) (.int .i64 v) h1∧Rep h1 g t {s with f:=f'} L∧Kept h g h1 g:=
 R.stRow (ρ':=L.ρ) hk rfl rfl hrow (by have:=R.fp.row;unfold RowOK at this⊢;simp_all)
theorem moved(R:Rep h g t s L){u:Nat}(hu:10+3*s.F.length≤u){h1:Hp}{g1:Tag}(a:∀S:Nat→Prop,¬S u→Kpt h g h1 g1 S){f':Fr}{ρ':Row}(hok:RowOK h1 g1 s.F.length f' ρ'){k:Nat}{y:AV}(hk:k<7)(hy:oneA h1 y)(hrow:(row7 s.f L.ρ).set k y=row7 f' ρ'):
  ∃h2,St h1 L.fr L.fv (0+s.F.length*7+k) y h2∧Rep h2 g1 t {s with f:=f'} {L with ρ:=ρ'}∧Kept h g h2 g1:=by
 have b:=a (fun v=>v=1) (by omega) L.fr R.nef R.fp.gf;have⟨h2,c1,c2,c3⟩:=stRaw (b.1.trans R.fp.frs) R.fp.lR rfl hk (Y5o hy) (Y6b hy);rw[hrow] at c2;have gf:g1 L.fr=1:=b.2.trans R.fp.gf;have kp:∀S:Nat→Prop,¬S 1→Kpt h1 g1 h2 g1 S:=fun S hS=>Kpt.same c3 (by simp_all);have kk:∀S:Nat→Prop,¬S u→¬S 1→Kpt h g h2 g1 S:=fun S h1 h2=>(a S h1).trans (kp S h2);have bp:=kk (fun v=>v=0) (by omega) (by omega) L.p R.nep R.gp;exact⟨h2,c1,⟨bp.1.trans R.box,bp.2.trans R.gp,R.fp.reRow (kk _ (by omega) (by omega)) c2 gf (hok.kpt (kp _ (by omega))),R.tp.keep (kk _ (by omega) (by omega)),R.lp.keep (kk _ (by omega) (by omega))⟩,(kk (fun v=>v=4) (by omega) (by omega)).kept rfl⟩
theorem appTerm(R:Rep h g t s L)(v:Int)(hn:s.f.terms.length≤1000000000):
  ∃h1 y,App h L.ρ.xt 3 1 8 1 [.int .i64 v] h1 y∧NC y∧Has h1 L.fr L.fv∧oneA h1 y∧∃h2 g2,St h1 L.fr L.fv (0+s.F.length*7+2) y h2∧Rep h2 g2 t {s with f:={s.f with terms:=s.f.terms++[v]}} {L with ρ:={L.ρ with xt:=y}}∧Kept h g h2 g2:=by
 have⟨h1,y,g1,a1,a2,a3,a4,a5,a6⟩:=SlI.appG R.fp.row.2.1.1 R.fp.row.2.1.2 v (by omega);have⟨h2,b1,b2,b3⟩:=R.moved (u:=11+3*s.F.length) (by omega) a4 (f':={s.f with terms:=s.f.terms++[v]}) (ρ':={L.ρ with xt:=y})
  ⟨SlA.kpt R.fp.row.1 (a4 (fun u=>u=10+3*s.F.length) (by omega)) rfl,a3,SlA.kpt R.fp.row.2.2 (a4 (fun u=>u=12+3*s.F.length) (by omega)) rfl⟩ (k:=2) (by omega) a3.1.one rfl
 exact⟨h1,y,a1,a2,R.fp.hasF.of (a4 (fun u=>u=1) (by omega) _ R.nef R.fp.gf).1,a3.1.one,h2,_,b1,b2,b3⟩
theorem appSign(R:Rep h g t s L)(v:Int)(hn:s.f.signs.length≤1000000000):
  ∃h1 y,App h L.ρ.xs 3 1 8 1 [.int .i64 v] h1 y∧NC y∧Has h1 L.fr L.fv∧oneA h1 y∧∃h2 g2,St h1 L.fr L.fv (0+s.F.length*7+3) y h2∧Rep h2 g2 t {s with f:={s.f with signs:=s.f.signs++[v]}} {L with ρ:={L.ρ with xs:=y}}∧Kept h g h2 g2:=by
 have⟨h1,y,g1,a1,a2,a3,a4,a5,a6⟩:=SlI.appG R.fp.row.2.2.1 R.fp.row.2.2.2 v (by omega);have⟨h2,b1,b2,b3⟩:=R.moved (u:=12+3*s.F.length) (by omega) a4 (f':={s.f with signs:=s.f.signs++[v]}) (ρ':={L.ρ with xs:=y})
  ⟨SlA.kpt R.fp.row.1 (a4 (fun u=>u=10+3*s.F.length) (by omega)) rfl,SlA.kpt R.fp.row.2.1 (a4 (fun u=>u=11+3*s.F.length) (by omega)) rfl,a3⟩ (k:=3) (by omega) a3.1.one rfl
 exact⟨h1,y,a1,a2,R.fp.hasF.of (a4 (fun u=>u=1) (by omega) _ R.nef R.fp.gf).1,a3.1.one,h2,_,b1,b2,b3⟩
theorem appOp(R:Rep h g t s L)(v:Int)(hn:s.f.ops.length≤1000000000):
  ∃h1 y,App h L.ρ.xo 3 1 8 1 [.int .i64 v] h1 y∧NC y∧Has h1 L.fr L.fv∧oneA h1 y∧∃h2 g2,St h1 L.fr L.fv (0+s.F.length*7+1) y h2∧Rep h2 g2 t {s with f:={s.f with ops:=s.f.ops++[v]}} {L with ρ:={L.ρ with xo:=y}}∧Kept h g h2 g2:=by
 have⟨h1,y,g1,a1,a2,a3,a4,a5,a6⟩:=SlI.appG R.fp.row.1.1 R.fp.row.1.2 v (by omega);have⟨h2,b1,b2,b3⟩:=R.moved (u:=10+3*s.F.length) (by omega) a4 (f':={s.f with ops:=s.f.ops++[v]}) (ρ':={L.ρ with xo:=y})
  ⟨a3,SlA.kpt R.fp.row.2.1 (a4 (fun u=>u=11+3*s.F.length) (by omega)) rfl,SlA.kpt R.fp.row.2.2 (a4 (fun u=>u=12+3*s.F.length) (by omega)) rfl⟩ (k:=1) (by omega) a3.1.one rfl
 exact⟨h1,y,a1,a2,R.fp.hasF.of (a4 (fun u=>u=1) (by omega) _ R.nef R.fp.gf).1,a3.1.one,h2,_,b1,b2,b3⟩
theorem drop(R:Rep h g t s L){F':List Fr}{f':Fr}(hF:s.F=F'++[f']):∃R' ρ',Rep h g t {s with F:=F',f:=f'} {L with R:=R',ρ:=ρ',G:=row7 s.f L.ρ++L.G}∧R'.length=F'.length:=by
 have rws:=R.fp.rows;rw[hF] at rws;have⟨R',ρ',hR,b1,b2⟩:=RowsOK.split rws;have lR':R'.length=F'.length:=by
  have:=R.fp.lR
  simp_all
 refine⟨R',ρ',⟨R.box,R.gp,⟨?_,R.fp.gf,lR',b1,by simp_all⟩,R.tp,R.lp⟩,lR'⟩;have:=R.fp.frs;rw[this];simp only[hF,hR,rowsC_app _ _ _ _ lR',Xh]
end Rep
end
theorem cell_at:∀(t:List Int) (i:Nat),i<t.length→(t.flatMap (eI .u8))[i*1]? =some (.val (.int .u8 (t.getD i 0)))
 |[],i,h=>by simp at h
 |x::t,0,h=>rfl
 |x::t,i+1,h=>by
  have:=cell_at t i (by grind);rw[Nat.mul_one] at this⊢;rw[Xr];show(eI .u8 x++t.flatMap (eI .u8))[i+1]? =_;rw[X09 (by show 1≤i+1;omega)]
  show(t.flatMap (eI .u8))[i+1-1]? =_
  simp_all
structure CuOk (t:List Int) (u:Cu):Prop where
 a0:0≤u.at_
 a1:u.at_≤(t.length:Nat)
theorem Y0g{t:List Int}{c:Int}{u:Cu}(h:hit t c u=true):u.wr=false∧u.at_<(t.length:Nat)∧cAt t u.at_=c:=by
 unfold hit at h
 simp_all
theorem CuOk.adv{t:List Int}{u:Cu}(h:CuOk t u)(hl:u.at_<(t.length:Nat)):CuOk t u.adv:=⟨by have:=h.a0;simp only[Cu.adv];omega,by simp only[Cu.adv];omega⟩
theorem CuOk.bad{t:List Int}{u:Cu}(h:CuOk t u):CuOk t u.bad:=⟨h.a0,h.a1⟩
theorem CuOk.nxt{t:List Int}{u:Cu}(h:CuOk t u)(c:Int):CuOk t (nxt t c u):=by
 unfold Go.Proofs.YtfpcbalkioolmaaDoor.nxt
 split
 ·rename_i hh;exact h.adv (Y0g hh).2.1
 ·exact h
theorem CuOk.xpc{t:List Int}:∀(l:List Int) {u:Cu},CuOk t u→CuOk t (xpc t l u)
 |[],_,h=>h
 |c::l,u,h=>by
  rw[Go.Proofs.YtfpcbalkioolmaaDoor.xpc]
  split
  ·rename_i hh;exact CuOk.xpc l (h.adv (Y0g hh).2.1)
  ·exact CuOk.xpc l h.bad
section
variable {h:Hp} {g:Tag} {t:List Int} {s:Ls} {L:Lay}
theorem c_next(R:Rep h g t s L)(o:CuOk t s.c)(hl:t.length≤1000000000)(c:Int):
  ∃h',CallOK Tryd.prog 53 [.ref L.p 0 0,.int .u8 c] h h' (.bool (hit t c s.c))∧Rep h' g t {s with c:=nxt t c s.c} L∧Kpt h g h' g fun u=>u≠0:=by
 have a0:=o.a0;have a1:=o.a1;have⟨h2,q1,q2,q3⟩:=R.setAt (s.c.at_+1);have e:hit t c s.c=true→nxt t c s.c=⟨s.c.at_+1,s.c.wr⟩:=fun hh=>by rw[nxt,if_pos hh];rfl
 have e':hit t c s.c=false→nxt t c s.c=s.c:=fun hh=>by rw[nxt,if_neg (by grind)]
 have no:hit t c s.c=false→Rep h g t {s with c:=nxt t c s.c} L:=fun hh=>by simp_all
 have H:=Y3g (w_next (h:=h) (p:=L.p) (a1:=c) (Q:=fun h' av=>av= .bool (hit t c s.c)∧Rep h' g t {s with c:=nxt t c s.c} L∧Kpt h g h' g fun u=>u≠0) (Qp:=fun _ _=>False) (by
  refine⟨R.has,s.c.wr,R.ldW,fun hw=> ?_,fun hw=>⟨s.c.at_,R.ldAt,_,_,R.ldC,fun hb=> ?_,fun hb=>⟨⟨a0,by simp_all⟩,cAt t s.c.at_,cell_at t _ (by simp_all),fun hc=> ?_,fun hc=>⟨Y93 (by omega) (by omega),h2,q1, ?_⟩⟩⟩⟩
  ·have hh:hit t c s.c=false:=by rw[hit,hw];rfl
   exact⟨by rw[hh],no hh,Kpt.refl⟩
  ·have hh:hit t c s.c=false:=by
    have:¬s.c.at_<(t.length:Nat):=by simp_all
    rw[hit,decide_eq_false this];simp
   exact⟨by rw[hh],no hh,Kpt.refl⟩
  ·have hh:hit t c s.c=false:=by
    have:¬cAt t s.c.at_=c:=by simp_all
    rw[hit];grind
   exact⟨by rw[hh],no hh,Kpt.refl⟩
  ·have hh:hit t c s.c=true:=by
    have h1:cAt t s.c.at_=c:=by simp_all
    have h2:s.c.at_<(t.length:Nat):=by simp_all
    rw[hit,hw,decide_eq_true h2,h1];simp
   simp_all))
 grind
structure RdU (h:Hp) (g:Tag) (x:AV) (l:List Int):Prop where
 nc:NC x
 len:Len h x l.length
 get:∀h',(Kpt h g h' g fun u=>u≠0)→∀j:Int,0≤j→j<(l.length:Nat)→∃r v o,Ix h' x 1 j (.ref r v o)∧Ld h' r v o (.int .u8 (l.getD j.toNat 0))
theorem SlU.rd{x:AV}{l:List Int}(hx:SlU h x l)(hg:∀r∈Y18 x,g r≠0):RdU h g x l:=by
 refine⟨hx.nc,hx.len,fun h' a j j0 j1=>SlU.get ?_ j0 j1⟩;rcases hx with hx|⟨r,v,rt,rfl,b1,b2⟩
 ·omega
 ·exact .inr ⟨r,v,rt,rfl,(a r (by grind) (hg r (by simp[Y18]))).1.trans b1,b2⟩
theorem c_expect(R:Rep h g t s L)(o:CuOk t s.c)(hl:t.length≤1000000000){x:AV}{l:List Int}(hx:RdU h g x l)(hn:l.length≤1000000000):
  ∃h',CallOK Tryd.prog 62 [.ref L.p 0 0,x] h h' (.tup [])∧Rep h' g t {s with c:=xpc t l s.c} L∧Kpt h g h' g fun u=>u≠0:=by
 have H:=Y3g (w_expect (h:=h) (p:=L.p) (a1:=x) (Q:=fun h' av=>av= .tup []∧Rep h' g t {s with c:=xpc t l s.c} L∧Kpt h g h' g fun u=>u≠0) (Qp:=fun _ _=>False) hx.nc (by
  refine⟨l.length,hx.len,fun m j h'=>∃u,Rep h' g t {s with c:=u} L∧(Kpt h g h' g fun u=>u≠0)∧0≤j∧j≤(l.length:Nat)∧m=l.length-j.toNat∧CuOk t u∧xpc t (l.drop j.toNat) u=xpc t l s.c,⟨l.length,s.c,R,Kpt.refl,by omega,by omega,by simp,o,rfl⟩, ?_⟩
  ·rintro m j h' ⟨u,R',K',j0,j1,rfl,o',he⟩;refine⟨fun hb=> ?_,fun hb=> ?_⟩
   ·have hj:j<(l.length:Nat):=by simp_all
    have hjn:j.toNat<l.length:=by omega
    have⟨r1,v1,o1,d1,d2⟩:=hx.get _ K' j j0 hj;have⟨h2,b1,b2,b3⟩:=c_next R' o' hl (l.getD j.toNat 0);have hd:l.drop j.toNat=l.getD j.toNat 0::l.drop (j.toNat+1):=by
     simp_all
    rw[hd,xpc] at he;refine⟨r1,v1,o1,d1,_,d2,h2,_,b1,fun hh=> ?_,fun hh=> ?_⟩
    ·have hh':hit t (l.getD j.toNat 0) u=false:=by simp_all
     have⟨h3,c1,c2,c3⟩:=b2.setW true;refine⟨b2.has,h3,c1,Y93 (by omega) (by omega),l.length-(j+1).toNat,by omega,u.bad, ?_,K'.trans (b3.trans c3),by omega,by omega,rfl,o'.bad, ?_⟩
     ·have:nxt t (l.getD j.toNat 0) u=u:=by rw[nxt,if_neg (by simp_all)]
      simp only[this] at c2;exact c2
     grind
    ·have hh':hit t (l.getD j.toNat 0) u=true:=by simp_all
     have e:nxt t (l.getD j.toNat 0) u=u.adv:=by rw[nxt,if_pos hh']
     refine⟨Y93 (by omega) (by omega),l.length-(j+1).toNat,by omega,u.adv,by simp_all,K'.trans b3,by omega,by omega,rfl,o'.adv (Y0g hh').2.1, ?_⟩
     grind
   ·have hj:j.toNat=l.length:=by
     grind
    rw[hj,List.drop_length,xpc] at he
    simp_all))
 grind
theorem lets_at{i:Int}(h0:0≤i)(h1:i<26):(Y8.flatMap (eI .u8))[(0+Int.toNat i*1:Nat)]? =some (.val (.int .u8 (Y8.getD i.toNat 0))):=by
 rw[X05];exact cell_at Y8 i.toNat (by show i.toNat<26;omega)
theorem c_character(R:Rep h g t s L)(o:CuOk t s.c)(hl:t.length≤1000000000){n:Nat}(hn:n≤26):
  ∃h',CallOK Tryd.prog 56 [.ref L.p 0 0,.int .i64 (n:Int)] h h' (.int .i64 (chrI t n s.c))∧Rep h' g t {s with c:=chrU t n s.c} L∧Kpt h g h' g fun u=>u≠0:=by
 have a0:=o.a0;have a1:=o.a1;have no:chrI t n s.c= -1→Rep h g t {s with c:=chrU t n s.c} L:=fun hh=>by rw[chrU,if_pos (by omega)];exact R
 have H:=Y3g (w_character (h:=h) (p:=L.p) (a1:=(n:Int)) (Q:=fun h' av=>av= .int .i64 (chrI t n s.c)∧Rep h' g t {s with c:=chrU t n s.c} L∧Kpt h g h' g fun u=>u≠0) (Qp:=fun _ _=>False) (by
  refine⟨R.has,s.c.wr,R.ldW,fun hw=> ?_,fun hw=>⟨s.c.at_,R.ldAt,_,_,R.ldC,fun hb=> ?_,fun hb=>⟨fun m _ j h'=>h'=h∧0≤j∧j≤(n:Nat)∧m=n-j.toNat∧lfind (cAt t s.c.at_) ((Y8.take n).drop j.toNat) j=chrI t n s.c,⟨n,rfl,by omega,by omega,by simp, ?_⟩, ?_⟩⟩⟩
  ·have hh:chrI t n s.c= -1:=by rw[chrI,if_pos (.inl hw)]
   exact⟨by rw[hh],no hh,Kpt.refl⟩
  ·have hh:chrI t n s.c= -1:=by rw[chrI,if_pos (.inr (of_decide_eq_true hb))]
   exact⟨by rw[hh],no hh,Kpt.refl⟩
  ·rw[chrI,if_neg (by simp_all)];rfl
  ·have hlt:s.c.at_<(t.length:Nat):=by simp_all
   rintro m _ j h' ⟨rfl,j0,j1,rfl,he⟩;refine⟨fun hj=> ?_,fun hj=> ?_⟩
   ·have hj':j<(n:Int):=by simp_all
    have hjn:j.toNat<(Y8.take n).length:=by
     have:Y8.length=26:=rfl
     simp_all
    have hd:(Y8.take n).drop j.toNat=Y8.getD j.toNat 0::(Y8.take n).drop (j.toNat+1):=by
     rw[X06 hjn,X6,List.getElem_take,X5 (by grind)];rfl
    rw[hd,lfind] at he;refine⟨⟨j0,by omega⟩,_,lets_at j0 (by omega),R.has,_,_,R.ldC,_,R.ldAt,⟨a0,hlt⟩,cAt t s.c.at_,cell_at t _ (by omega),fun hc=> ?_,fun hc=> ?_⟩
    ·have hc':Y8.getD j.toNat 0=cAt t s.c.at_:=by simp_all
     rw[if_pos hc'] at he;have⟨h2,q1,q2,q3⟩:=R.setAt (s.c.at_+1);refine⟨Y93 (by omega) (by omega),h2,q1,by rw[←he], ?_,q3⟩;rw[chrU,Vn];exact q2
    ·have hc':¬Y8.getD j.toNat 0=cAt t s.c.at_:=by simp_all
     rw[if_neg hc'] at he;exact⟨Y93 (by omega) (by omega),n-(j+1).toNat,by omega,rfl,by omega,by omega,rfl,by grind⟩
   ·have hj0:¬j<(n:Int):=by simp_all
    have hj':j.toNat=n:=by omega
    rw[hj',X1d (by grind),lfind] at he;exact⟨by rw[←he],no he.symm,Kpt.refl⟩))
 grind
theorem c_inner(R:Rep h g t s L)(hfn:L.fn=s.F.length+1)(hn:s.F.length≤1000000000):CallOK Tryd.prog 60 [.ref L.p 0 0] h h (.ref L.fr L.fv (0+s.F.length*7)):=by
 obtain⟨h',av,h1,rfl,rfl⟩:=Y3g (w_inner (h:=h) (p:=L.p) (Q:=fun h' av=>h'=h∧av= .ref L.fr L.fv (0+s.F.length*7)) (Qp:=fun _ _=>False)
  ⟨R.has,.rsl L.fr L.fv 0 L.fn,⟨trivial,rfl⟩,R.ldF,L.fn,.inr (.inl ⟨_,_,_,rfl,R.fp.hasF⟩),Y93 (by omega) (by omega),L.fr,L.fv,0+s.F.length*7,
   .inl ⟨_,_,_,_,rfl,HasK.mk R.fp.frs rfl rfl,by omega,by omega,by simp_all⟩,rfl,rfl⟩)
 exact h1
def pTerm (i b:Int) (s:Ls):Ls:={s with f:={s.f with terms:=s.f.terms++[i]},base:=b}
theorem c_term(R:Rep h g t s L)(hfn:L.fn=s.F.length+1)(i b:Int)(hF:s.F.length≤1000000000)(hn:s.f.terms.length≤1000000000):
  ∃h' g' L',CallOK Tryd.prog 54 [.ref L.p 0 0,.int .i64 i,.int .i64 b] h h' (.tup [])∧Rep h' g' t (pTerm i b s) L'∧Kept h g h' g'∧LS L L':=by
 have⟨r,hr⟩:=h.fresh;have⟨a1,a2,a3,a4⟩:=R.grow (u:=4) (rt:=⟨0,true,3,1,[.int .i64 i]⟩) (.inr rfl) hr;have⟨h1,y,b1,b2,b3,b4,h2,g2,b5,b6,b7⟩:=a2.appTerm i hn;have⟨h3,c1,c2,c3⟩:=b6.setBase b;obtain⟨h',av,d1,rfl,rfl⟩:=Y3g (w_term (h:=h) (p:=L.p) (a1:=i) (a2:=b) (Q:=fun h' av=>h'=h3∧av= .tup []) (Qp:=fun _ _=>False)
  ⟨L.fr,L.fv,_,c_inner R hfn hF,R.fp.hasF,L.ρ.xt,R.fp.row.2.1.1.nc,R.fp.ldRow (k:=2) rfl,r,_,a1,h1,y,b2,b1,b3,b4,h2,b5,b6.has,h3,c1,rfl,rfl⟩)
 exact⟨_,g2,_,d1,c2,(Kpt.kept (a3 _) rfl).trans (b7.trans (c3.kept (by omega))),⟨⟨rfl,rfl,rfl,rfl⟩,rfl,rfl,rfl⟩⟩
end
def noT:Tn:=⟨0,0,[],0⟩
def depS (T:List Tn) (d i:Int):Int:=if(T.getD i.toNat noT).dep+1>d then(T.getD i.toNat noT).dep+1 else d
def depOf (T:List Tn) (l:List Int):Int:=l.foldl (depS T) 1
def Val (T:List Tn) (l:List Int):Prop:=∀i∈l,0≤i∧i<(T.length:Nat)
def OkT (T:List Tn):Prop:=∀(i:Nat) (t:Tn),T[i]? =some t→0≤t.dep∧t.dep≤i+1∧∀o∈t.ops,0≤o∧o<(i:Nat)
theorem Val.mono{T T':List Tn}{l:List Int}(h:Val T l)(hl:T.length≤T'.length):Val T' l:=fun i hi=>by have:=h i hi;omega
theorem treesC_dep{T:List Tn}{X:List AV}(hl:X.length=T.length){i:Nat}(hi:i<T.length):(treesC T X)[i*4+3]? =some (.int .i64 (T.getD i noT).dep):=by
 have h1:T[i]? =some T[i]:=X5 hi;have h2:X[i]? =some (X[i]'(by omega)):=X5 (by omega);have:=treesC_get T X i _ _ h1 h2;have e:=congrArg (fun l:List AV=>l[3]?) this;simp only[Xs,X0n,treeC] at e
 simp_all
theorem treesC_op{T:List Tn}{X:List AV}(hl:X.length=T.length){i:Nat}(hi:i<T.length):(treesC T X)[i*4+0]? =some (.int .i64 (T.getD i noT).op):=by
 have h1:T[i]? =some T[i]:=X5 hi;have h2:X[i]? =some (X[i]'(by omega)):=X5 (by omega);have:=treesC_get T X i _ _ h1 h2;have e:=congrArg (fun l:List AV=>l[0]?) this;simp only[Xs,X0n,treeC] at e
 simp_all
theorem depOf_step{T:List Tn}{l:List Int}{k:Nat}(hk:k<l.length):depOf T (l.take (k+1))=depS T (depOf T (l.take k)) (l.getD k 0):=by
 unfold depOf;rw[List.take_add_one,X5 hk,List.foldl_append,X6,X5 hk]
 rfl
theorem depOf_le{T:List Tn}(hT:OkT T):∀(l:List Int),Val T l→1≤depOf T l∧depOf T l≤T.length+1:=by
 have key:∀(l:List Int) (d:Int),Val T l→1≤d→d≤T.length+1→1≤l.foldl (depS T) d∧l.foldl (depS T) d≤T.length+1:=by
  intro l
  induction l with
  |nil=>simp_all
  |cons i l ih=>
   intro d hv h1 h2;have hi:=hv i (by simp);have hlt:i.toNat<T.length:=by omega
   have hd:=hT i.toNat _ (X5 hlt);have e:T.getD i.toNat noT=T[i.toNat]:=by simp_all
   refine ih _ (fun j hj=>hv j (by simp[hj])) ?_ ?_
   ·unfold depS;split<;>omega
   ·unfold depS;rw[e];split<;>omega
 exact fun l hv=>key l 1 hv (by omega) (by omega)
theorem okT_add{T:List Tn}(hT:OkT T){op n:Int}{l:List Int}(hv:Val T l):OkT (T++[⟨op,n,l,depOf T l⟩]):=by
 intro i t hi
 by_cases e:i<T.length
 ·rw[X0h e] at hi;exact hT i t hi
 ·have:=(Xj.1 hi).1;simp at this;have e2:i=T.length:=by omega
  subst e2;rw[X09 (Xk _)] at hi;simp at hi;subst hi;have:=depOf_le hT l hv;exact⟨by grind,by simp_all,fun o ho=>hv o ho⟩
theorem getD_in{T:List Tn}{i:Int}(h:0≤i∧i<(T.length:Nat)):∃t,T[i.toNat]? =some t∧T.getD i.toNat noT=t:=by
 simp_all
theorem OkT.ops{T:List Tn}(hT:OkT T){i:Int}(h:0≤i∧i<(T.length:Nat)):∀o∈(T.getD i.toNat noT).ops,0≤o∧o<i:=by
 have⟨t,h1,h2⟩:=getD_in h;rw[h2];intro o ho;have:=(hT _ _ h1).2.2 o ho;omega
theorem getD_app{T T':List Tn}{i:Int}(h:0≤i∧i<(T.length:Nat)):(T++T').getD i.toNat noT=T.getD i.toNat noT:=by
 rw[X6,X6,X0h (by omega)]
def trT (T:List Tn):Nat→Int→Tr
 |0,_=>noTr
 |k+1,i=>.node ⟨(T.getD i.toNat noT).op,(T.getD i.toNat noT).n⟩ ((T.getD i.toNat noT).ops.map (trT T k))
def tr (T:List Tn) (i:Int):Tr:=trT T (i.toNat+1) i
theorem trT_eq{T:List Tn}(hT:OkT T):∀(k k':Nat) (i:Int),0≤i→i<(T.length:Nat)→i<(k:Nat)→i<(k':Nat)→trT T k i=trT T k' i
 |0,_,i,h0,_,hk,_=>by omega
 |_+1,0,i,h0,_,_,hk=>by omega
 |k+1,k'+1,i,h0,h1,hk,hk'=>by
  rw[trT,trT];congr 1;refine X0e fun o ho=> ?_;have:=hT.ops ⟨h0,h1⟩ o ho;exact trT_eq hT k k' o (by omega) (by omega) (by omega) (by omega)
theorem tr_step{T:List Tn}(hT:OkT T){i:Int}(h:0≤i∧i<(T.length:Nat)):tr T i= .node ⟨(T.getD i.toNat noT).op,(T.getD i.toNat noT).n⟩ ((T.getD i.toNat noT).ops.map (tr T)):=by
 rw[tr,trT];congr 1;refine X0e fun o ho=> ?_;have:=hT.ops h o ho;exact trT_eq hT _ _ o (by omega) (by omega) (by omega) (by omega)
theorem trT_app{T T':List Tn}(hT:OkT T):∀(k:Nat) (i:Int),0≤i→i<(T.length:Nat)→trT (T++T') k i=trT T k i
 |0,i,h0,h1=>rfl
 |k+1,i,h0,h1=>by
  rw[trT,trT,getD_app ⟨h0,h1⟩];congr 1;refine X0e fun o ho=> ?_;have:=hT.ops ⟨h0,h1⟩ o ho;exact trT_app hT k o (by omega) (by omega)
theorem tr_app{T T':List Tn}(hT:OkT T){i:Int}(h:0≤i∧i<(T.length:Nat)):tr (T++T') i=tr T i:=trT_app hT _ i h.1 h.2
theorem trs_app{T T':List Tn}(hT:OkT T){l:List Int}(h:Val T l):l.map (tr (T++T'))=l.map (tr T):=X0e fun i hi=>tr_app hT (h i hi)
theorem new_at{T:List Tn}(t:Tn):(T++[t]).getD ((T.length:Nat):Int).toNat noT=t:=by
 simp_all
theorem tr_new{T:List Tn}(hT:OkT T){op n:Int}{l:List Int}(hv:Val T l):tr (T++[⟨op,n,l,depOf T l⟩]) ((T.length:Nat):Int)= .node ⟨op,n⟩ (l.map (tr T)):=by
 rw[tr_step (okT_add hT hv) ⟨by omega,by grind⟩,new_at];simp only;rw[trs_app hT hv]
mutual
def Tr.dep:Tr→Int
 | .node _ ks=>depL 1 ks
def depL:Int→List Tr→Int
 |d,[]=>d
 |d,k::ks=>depL (if k.dep+1>d then k.dep+1 else d) ks
end
def DepOk (T:List Tn):Prop:=∀i:Int,0≤i→i<(T.length:Nat)→(T.getD i.toNat noT).dep=(tr T i).dep
theorem depOf_tr{T:List Tn}(hd:DepOk T):∀(l:List Int) (d:Int),Val T l→l.foldl (depS T) d=depL d (l.map (tr T))
 |[],d,_=>rfl
 |i::l,d,h=>by
  have:=h i (by simp);rw[List.foldl_cons,Xo,depL,depOf_tr hd l _ fun j hj=>h j (by simp[hj]),depS,hd i this.1 this.2]
theorem DepOk.add{T:List Tn}(hT:OkT T)(hd:DepOk T){op n:Int}{l:List Int}(hv:Val T l):DepOk (T++[⟨op,n,l,depOf T l⟩]):=fun i h0 h1=>by
 by_cases hi:i<(T.length:Nat)
 ·rw[getD_app ⟨h0,hi⟩,tr_app hT ⟨h0,hi⟩];exact hd i h0 hi
 ·have:i=((T.length:Nat):Int):=by grind
  subst this;rw[new_at,tr_new hT hv,Tr.dep];exact depOf_tr hd l 1 hv
def nd (x:Tr):Nat:=x.flat.length
def ndL (l:List Tr):Nat:=(Y0y l).length
theorem Y10(x:Tr)(l:List Tr):ndL (x::l)=nd x+ndL l:=by simp[ndL,Y0y,nd]
theorem Y27:ndL []=0:=rfl
theorem Y79:∀(a b:List Tr),ndL (a++b)=ndL a+ndL b
 |[],b=>by simp[Y27]
 |x::a,b=>by rw[Xv,Y10,Y10,Y79 a b];omega
theorem Y5y(n:Y1)(ks:List Tr):nd (.node n ks)=ndL ks+1:=by rfl
theorem nd_pos(x:Tr):1≤nd x:=by cases x;rw[Y5y];omega
theorem len_ndL:∀(l:List Tr),l.length≤ndL l
 |[]=>by simp
 |x::l=>by have:=len_ndL l;have:=nd_pos x;rw[Y10,X7];omega
def alf (T:List Tn) (f:Fr):Qf:=⟨f.op,f.ops.map (tr T),(f.terms.map (tr T)).reverse,f.signs.reverse,f.cols,f.rows,f.ents⟩
theorem alf_app{T T':List Tn}(hT:OkT T){f:Fr}(h1:Val T f.terms)(h2:Val T f.ops):alf (T++T') f=alf T f:=by rw[alf,alf,trs_app hT h1,trs_app hT h2]
def abs (s:Ls):Qs:=⟨s.c,(s.F.map (alf s.T)).reverse,alf s.T s.f,s.lv,s.base,s.dn⟩
def szF (f:Qf):Nat:=ndL f.ts+ndL f.ops
def szFs:List Qf→Nat
 |[]=>0
 |f::F=>szF f+szFs F
def szQ (q:Qs):Nat:=szFs q.F+szF q.f
structure Ok (s:Ls) (n:Nat):Prop where
 okT:OkT s.T
 vF:∀f∈s.F,Val s.T f.terms∧Val s.T f.ops
 vf:Val s.T s.f.terms∧Val s.T s.f.ops
 dep:DepOk s.T
 tot:s.T.length=szQ (abs s)+n
theorem fs_app{s:Ls}{T:List Tn}{n:Nat}(v:Ok s n):s.F.map (alf (s.T++T))=s.F.map (alf s.T):=X0e fun f hf=>alf_app v.okT (v.vF f hf).1 (v.vF f hf).2
def pAdd (op n:Int) (l:List Int) (s:Ls):Ls:={s with T:=s.T++[⟨op,n,l,depOf s.T l⟩]}
theorem abs_add{s:Ls}{op n:Int}{l:List Int}{m:Nat}(v:Ok s m):abs (pAdd op n l s)=abs s:=by
 show Qs.mk _ (s.F.map (alf (s.T++_))).reverse (alf (s.T++_) s.f) _ _ _=_;rw[fs_app v,alf_app v.okT v.vf.1 v.vf.2]
 rfl
theorem Ok.add{s:Ls}{op n:Int}{l:List Int}{m:Nat}(v:Ok s m)(hv:Val s.T l):Ok (pAdd op n l s) (m+1):=by
 refine⟨okT_add v.okT hv,fun f hf=>⟨(v.vF f hf).1.mono (by simp[pAdd]),(v.vF f hf).2.mono (by simp[pAdd])⟩,⟨v.vf.1.mono (by simp[pAdd]),v.vf.2.mono (by simp[pAdd])⟩,v.dep.add v.okT hv, ?_⟩;rw[abs_add v];have:=v.tot;simp only[pAdd,X4,Xc];omega
theorem add_new{s:Ls}{op n:Int}{l:List Int}{m:Nat}(v:Ok s m)(hv:Val s.T l):tr (pAdd op n l s).T ((s.T.length:Nat):Int)= .node ⟨op,n⟩ (l.map (tr s.T)):=tr_new v.okT hv
theorem add_old{s:Ls}{op n:Int}{l:List Int}{m:Nat}(v:Ok s m){l2:List Int}(hv:Val s.T l2):l2.map (tr (pAdd op n l s).T)=l2.map (tr s.T):=trs_app v.okT hv
theorem abs_term(s:Ls)(i b:Int):abs (pTerm i b s)=Y1z (tr s.T i) b (abs s):=by
 simp[abs,pTerm,Y1z,alf]
theorem Ok.term{s:Ls}{i b:Int}(v:Ok s (nd (tr s.T i)))(hi:0≤i∧i<(s.T.length:Nat)):Ok (pTerm i b s) 0:=by
 refine⟨v.okT,v.vF,⟨fun j hj=> ?_,v.vf.2⟩,v.dep, ?_⟩
 ·simp only[pTerm,Xi,X8] at hj;rcases hj with hj|rfl
  ·exact v.vf.1 j hj
  ·exact hi
 ·rw[abs_term];have:=v.tot;show s.T.length=_;simp only[szQ,szF,Y1z,Y10] at this⊢;omega
theorem Ok.same{s s':Ls}{n:Nat}(v:Ok s n)(h1:s'.T=s.T)(h2:s'.F=s.F)(h3:s'.f.terms=s.f.terms)(h4:s'.f.ops=s.f.ops):Ok s' n:=by
 refine⟨by rw[h1];exact v.okT,by rw[h1,h2];exact v.vF,by rw[h1,h3,h4];exact v.vf,by rw[h1];exact v.dep, ?_⟩;rw[h1,v.tot];simp only[szQ,szF,abs,alf,h1,h2,h3,h4]
end Go.Proofs.YtfpcbalkioolmaaDoor
namespace Go.Abs
def KeptE (e:List Nat) (h:Hp) (g:Tag) (h':Hp) (g':Tag):Prop:=∀r,r∉e→h.at r≠none→g r=4→h'.at r=h.at r∧g' r=4
theorem Kept.toE{e:List Nat}{h h':Hp}{g g':Tag}(K:Kept h g h' g'):KeptE e h g h' g':=fun r _ a b=>K r a b
theorem KeptE.trans{e:List Nat}{h h1 h2:Hp}{g g1 g2:Tag}(a:KeptE e h g h1 g1)(b:KeptE e h1 g1 h2 g2):KeptE e h g h2 g2:=fun r he hr hg=>by
 have⟨a1,a2⟩:=a r he hr hg;have⟨b1,b2⟩:=b r he (by simp_all) a2
 simp_all
theorem KeptE.done{e:List Nat}{h h':Hp}{g g':Tag}(K:KeptE e h g h' g')(he:∀r∈e,h.at r=none):Kept h g h' g':=fun r hr hg=>K r (fun hm=>hr (he r hm)) hr hg
end Go.Abs
namespace Go.Proofs.YtfpcbalkioolmaaDoor
open Go.Abs
structure LA (L L':Lay):Prop extends LS L L' where
 ρ:L'.ρ=L.ρ
 xl:L'.xl=L.xl
section
variable {h:Hp} {g:Tag} {t:List Int} {s:Ls} {L:Lay}
theorem c_add(R:Rep h g t s L)(op n:Int){x:AV}{l:List Int}(hx:SlI h x l)(hg:∀r∈Y18 x,g r=3){m0:Nat}(v:Ok s m0)(hv:Val s.T l)(hn:s.T.length≤1000000000)(hl:l.length≤1000000000):
  ∃h' g' L',CallOK Tryd.prog 57 [.ref L.p 0 0,.int .i64 op,.int .i64 n,x] h h' (.int .i64 (s.T.length:Nat))∧Rep h' g' t (pAdd op n l s) L'∧Kept h g h' g'∧LA L L':=by
 have hT:=v.okT;have⟨r,hr⟩:=h.fresh;have⟨a1,a2,a3,a4⟩:=R.grow (u:=4) (rt:=⟨0,true,70,4,treeC ⟨op,n,l,depOf s.T l⟩ x⟩) (.inr rfl) hr;have hx1:=SlA.kpt ⟨hx,hg⟩ (a3 fun u=>u=3) rfl;have⟨h1,y,b1,b2,b3,b4,b5,h2,g2,b6,b7,b8⟩:=a2.addTree ⟨op,n,l,depOf s.T l⟩ x hx1.1 hx1.2 hn;have hp:pre_add h L.p op n x (fun h' av=>h'=h2∧av= .int .i64 (s.T.length:Nat)) (fun _ _=>False):=by
  refine⟨l.length,hx.len,fun m d k h'=>h'=h∧0≤k∧k≤(l.length:Nat)∧m=l.length-k.toNat∧d=depOf s.T (l.take k.toNat),⟨l.length,rfl,by omega,by omega,by simp,by rfl⟩, ?_⟩;rintro m d k h' ⟨rfl,k0,k1,rfl,rfl⟩;refine⟨fun hb=> ?_,fun hb=> ?_⟩
  ·have hk:k<(l.length:Nat):=by simp_all
   have hkn:k.toNat<l.length:=by omega
   have⟨r1,v1,o1,d1,d2⟩:=SlI.get hx k0 hk;have hvi:=hv (l.getD k.toNat 0) (by simp_all);have⟨r2,v2,e1,e2,e3,_⟩:=SlA.ix R.tp.trs hvi.1 hvi.2;have hi:(l.getD k.toNat 0).toNat<s.T.length:=by omega
   have hd:=hT _ _ (X5 hi);have ed:s.T.getD (l.getD k.toNat 0).toNat noT=s.T[(l.getD k.toNat 0).toNat]:=by simp_all
   refine⟨r1,v1,o1,d1,_,d2,R.has,L.xt,R.tp.trs.nc,R.ldT,r2,v2,_,e1,e2,_,e3 3 _ (by omega) (treesC_dep R.tp.lX hi),Y93 (by grind) (by grind),Y93 (by omega) (by omega),l.length-(k+1).toNat,by omega,rfl,by omega,by omega,rfl, ?_⟩;rw[show(k+1).toNat=k.toNat+1 by omega,depOf_step hkn]
   rfl
  ·have hk:k.toNat=l.length:=by
    grind
   have e:l.take k.toNat=l:=Xu (by omega);rw[e];refine⟨R.has,L.xt,R.tp.trs.nc,R.ldT,hx.one,r,_,a1,h1,y,b2,b1,b3,b4,h2,b6,b7.has,y,b2,b7.ldT,s.T.length+1, ?_,Y93 (by omega) (by omega),rfl, ?_⟩
   ·have:=b7.tp.trs.len
    simp_all
   simp_all
 obtain⟨h',av,c1,rfl,rfl⟩:=Y3g (w_add hx.nc hp);exact⟨_,g2,_,c1,b7,((a3 fun u=>u=4).kept rfl).trans b8,⟨⟨⟨rfl,rfl,rfl,rfl⟩,rfl,rfl,rfl⟩,rfl,rfl⟩⟩
def pPush (op:Int) (l:List Int) (s:Ls):Ls:={s with F:=s.F++[s.f],f:=⟨op,l,[],[],0,0,0⟩}
theorem Rep.push(R:Rep h g t s L)(hfn:L.fn=s.F.length+1)(op:Int){xo:AV}{l:List Int}(hx:SlI h xo l)(hg:∀r∈Y18 xo,g r=4)(hn:s.F.length≤1000000000):
  ∃h1 y,App h (.rsl L.fr L.fv 0 L.fn) 63 7 104 1 (row7 ⟨op,l,[],[],0,0,0⟩ ⟨xo,nilA,nilA⟩) h1 y∧NC y∧Has h1 L.p 0∧oneA h1 y∧∃h2 g2 L2,St h1 L.p 0 4 y h2∧Rep h2 g2 t (pPush op l s) L2∧KeptE (Y18 xo) h g h2 g2∧L2.p=L.p∧L2.fn=L.fn+1:=by
 have gf:=R.fp.gf;have gp:=R.gp;have l0:=R.fp.lenA;have hle:L.fn*7≤(rowsC s.F L.R++(row7 s.f L.ρ++L.G)).length:=by simp[row7,l0];omega
 have htk:(rowsC s.F L.R++(row7 s.f L.ρ++L.G)).take (L.fn*7)=rowsC s.F L.R++row7 s.f L.ρ:=by
  rw[X1l,l0,Xu (by omega),show L.fn*7-s.F.length*7=7 by omega]
  rfl
 --the tags
 have g1:∃g1:Tag,(∀r∈Y18 xo,g1 r=10+3*(s.F.length+1))∧∀r,r∉Y18 xo→g1 r=g r:=by
  refine⟨fun r=>if r∈Y18 xo then 10+3*(s.F.length+1) else g r,fun r hr=>by simp_all,fun r hr=>by simp_all⟩
 have⟨g1,t1,t2⟩:=g1;have kt:∀S:Nat→Prop,¬S 4→Kpt h g h g1 S:=fun S hS r _ hs=>⟨rfl,t2 r fun hm=>by simp_all⟩;have hS:Same h ((L.fr,(⟨L.fv+1,true,63,7,(rowsC s.F L.R++(row7 s.f L.ρ++L.G)).take (L.fn*7)++row7 ⟨op,l,[],[],0,0,0⟩ ⟨xo,nilA,nilA⟩⟩:Rt))::h) [L.fr]:=Same.cons _ _ _;have gf1:g1 L.fr=1:=(kt (fun u=>u=1) (by omega) L.fr R.nef gf).2.trans gf;have gp1:g1 L.p=0:=(kt (fun u=>u=0) (by omega) L.p R.nep gp).2.trans gp;have ks:∀S:Nat→Prop,¬S 1→Kpt h g1 _ g1 S:=fun S h1=>Kpt.same hS (by simp_all);have kk:∀S:Nat→Prop,¬S 4→¬S 1→Kpt h g _ g1 S:=fun S h4 h1=>(kt S h4).trans (ks S h1);have hb:=(kk (fun u=>u=0) (by omega) (by omega) L.p R.nep gp).1.trans R.box;have hy:oneA ((L.fr,(⟨L.fv+1,true,63,7,(rowsC s.F L.R++(row7 s.f L.ρ++L.G)).take (L.fn*7)++row7 ⟨op,l,[],[],0,0,0⟩ ⟨xo,nilA,nilA⟩⟩:Rt))::h) (.rsl L.fr (L.fv+1) 0 (L.fn+1)):=Has.mk (Y2z _ _ _) rfl;have fp:FrP ((L.fr,(⟨L.fv+1,true,63,7,(rowsC s.F L.R++(row7 s.f L.ρ++L.G)).take (L.fn*7)++row7 ⟨op,l,[],[],0,0,0⟩ ⟨xo,nilA,nilA⟩⟩:Rt))::h) g1 (s.F++[s.f]) ⟨op,l,[],[],0,0,0⟩ L.fr (L.fv+1) (L.R++[L.ρ]) ⟨xo,nilA,nilA⟩ []:=by
  refine⟨?_,gf1,by simp[R.fp.lR], ?_, ?_⟩
  ·rw[Y2z,htk,rowsC_app _ _ _ _ R.fp.lR,X0l]
  ·refine RowsOK.app (RowsOK.keep R.fp.rows fun r hr a b=>kk (fun u=>10≤u) (by omega) (by omega) r hr (by omega)) ?_;rw[X05];exact R.fp.row.kpt (kk _ (by omega) (by omega))
  ·have hx':SlI ((L.fr,(⟨L.fv+1,true,63,7,(rowsC s.F L.R++(row7 s.f L.ρ++L.G)).take (L.fn*7)++row7 ⟨op,l,[],[],0,0,0⟩ ⟨xo,nilA,nilA⟩⟩:Rt))::h) xo l:=
    hx.same hS fun r hr=>by grind
   exact⟨⟨hx',fun r hr=>by simp_all⟩,⟨SlI.nil _,fun r hr=>by simp[Y18] at hr⟩,SlI.nil _,fun r hr=>by simp[Y18] at hr⟩
 have⟨h2,c1,c2,c3⟩:=Rep.setB (L:=L) (s:=s) (s':=pPush op l s) (L':={L with fv:=L.fv+1,fn:=L.fn+1,R:=L.R++[L.ρ],ρ:=⟨xo,nilA,nilA⟩,G:=[]}) hb gp1 (k:=4) (y:=.rsl L.fr (L.fv+1) 0 (L.fn+1)) (by omega) (Y5o hy) (Y6b hy) rfl rfl fp (R.tp.keep (kk _ (by omega) (by omega))) (R.lp.keep (kk _ (by omega) (by omega)));refine⟨_,.rsl L.fr (L.fv+1) 0 (L.fn+1),.inl ⟨L.fr,L.fv,L.fn,_,rfl,R.fp.frs,rfl,rfl,rfl,rfl,hle,by omega,by omega,rfl,rfl⟩,⟨trivial,rfl⟩,Has.mk hb rfl,hy,h2,g1,_,c1,c2,fun r hn hr h4=> ?_,rfl,rfl⟩;have e1:=t2 r hn;have e2:r≠L.fr:=fun e=>by simp_all
 have e3:r≠L.p:=fun e=>by simp_all
 exact⟨by rw[c3 r (by simp_all),Hp.at_ne (fun e=>e2 e.symm)],e1.trans h4⟩
theorem c_open(R:Rep h g t s L)(hfn:L.fn=s.F.length+1)(op:Int){xo:AV}{l:List Int}(hx:SlI h xo l)(hg:∀r∈Y18 xo,g r=4)(hn:s.F.length≤1000000000):
  ∃h' g' L',CallOK Tryd.prog 58 [.ref L.p 0 0,.agg [.int .i64 op,xo,nilA,nilA,.int .i64 0,.int .i64 0,.int .i64 0]] h h' (.tup [])∧Rep h' g' t (pPush op l s) L'∧KeptE (Y18 xo) h g h' g'∧L'.p=L.p∧L'.fn=L.fn+1:=by
 have⟨r,hr⟩:=h.fresh;have⟨a1,a2,a3,a4⟩:=R.grow (u:=4) (rt:=⟨0,true,63,7,[.int .i64 op,xo,nilA,nilA,.int .i64 0,.int .i64 0,.int .i64 0]⟩) (.inr rfl) hr;have hx1:=SlA.kpt ⟨hx,hg⟩ (a3 fun u=>u=4) rfl;have⟨r2,hr2⟩:=Hp.fresh ((r,(⟨0,true,63,7,[.int .i64 op,xo,nilA,nilA,.int .i64 0,.int .i64 0,.int .i64 0]⟩:Rt))::h);have⟨b1,b2,b3,b4⟩:=a2.grow (u:=4) (rt:=⟨0,true,63,7,[.int .i64 op,xo,nilA,nilA,.int .i64 0,.int .i64 0,.int .i64 0]⟩) (.inr rfl) hr2;have hx2:=SlA.kpt hx1 (b3 fun u=>u=4) rfl;have⟨h3,y,c1,c2,c3,c4,h4,g4,L4,c5,c6,c7,c8,c9⟩:=b2.push hfn op hx2.1 hx2.2 hn;have H:=Y3g (w_open (h:=h) (p:=L.p) (a1_op:=op) (a1_operands:=xo) (a1_terms:=nilA) (a1_signs:=nilA) (a1_columns:=0) (a1_rows:=0) (a1_entries:=0) (Q:=fun h' av=>h'=h4∧av= .tup []) (Qp:=fun _ _=>False) hx.nc ⟨trivial,rfl⟩ ⟨trivial,rfl⟩
  ⟨hx.one,rfl,rfl,r,_,a1,a2.has,.rsl L.fr L.fv 0 L.fn,⟨trivial,rfl⟩,a2.ldF,op,xo,hx.nc,nilA,⟨trivial,rfl⟩,nilA,⟨trivial,rfl⟩,0,0,0,⟨_,Y2z _ _ _,rfl,rfl,Xk _,rfl⟩,hx1.1.one,rfl,rfl,r2,_,b1,h3,y,c2,c1,c3,c4,h4,c5,b2.has,b2.ldF,rfl,rfl⟩)
 obtain⟨h',av,d1,rfl,rfl⟩:=H;exact⟨_,g4,L4,d1,c6,(((a3 fun u=>u=4).trans (b3 fun u=>u=4)).kept rfl).toE.trans c7,c8,c9⟩
theorem c_close(R:Rep h g t s L)(hfn:L.fn=s.F.length+2)(i b:Int)(hF:s.F.length≤900000000)(hn:s.f.terms.length≤1000000000):
  ∃h' g' L',CallOK Tryd.prog 67 [.ref L.p 0 0,.int .i64 i,.int .i64 b] h h' (.tup [])∧Rep h' g' t (pTerm i b s) L'∧Kept h g h' g'∧L'.p=L.p∧L'.fn=s.F.length+1:=by
 have hb:=R.box;have⟨h1,a1,a2,a3⟩:=Rep.setB (L:=L) (s:=s) (s':=s) (L':={L with fn:=s.F.length+1}) R.box R.gp (k:=4) (y:=.rsl L.fr L.fv 0 (s.F.length+1)) (by omega) (Y5o (h:=h) R.fp.hasF) (Y6b R.fp.hasF) rfl rfl R.fp R.tp R.lp;have⟨h2,g2,L2,b1,b2,b3,b4⟩:=c_term a2 rfl i b (by omega) hn;have H:=Y3g (w_close (h:=h) (p:=L.p) (a1:=i) (a2:=b) (Q:=fun h' av=>h'=h2∧av= .tup []) (Qp:=fun _ _=>False)
  ⟨R.has,.rsl L.fr L.fv 0 L.fn,⟨trivial,rfl⟩,R.ldF,L.fn,.inr (.inl ⟨_,_,_,rfl,R.fp.hasF⟩),Y93 (by omega) (by omega),.rsl L.fr L.fv 0 (s.F.length+1),⟨trivial,rfl⟩,⟨L.fr,L.fv,L.fn,rfl,HasK.mk R.fp.frs rfl rfl,by omega,by omega,by grind⟩,R.fp.hasF,h1,a1,h2,b1,rfl,rfl⟩)
 obtain⟨h',av,d1,rfl,rfl⟩:=H;exact⟨_,g2,L2,d1,b2,((Kpt.same (S:=fun u=>u=4) a3 (by rw[R.gp];omega)).kept rfl).trans b3,b4.p,b4.fn⟩
end
def jStep (s:Ls):Ls:=
 {pAdd (s.f.signs.getD (s.f.terms.length-2) 0) 0 [s.f.terms.getD (s.f.terms.length-2) 0,s.f.terms.getD (s.f.terms.length-1) 0] s with
  f:={s.f with signs:=s.f.signs.take (s.f.terms.length-2),terms:=s.f.terms.take (s.f.terms.length-2)++[(s.T.length:Int)]}}
def Y55 (least:Int):Nat→Ls→Ls
 |0,s=>s
 |k+1,s=>if 0<s.f.signs.length∧least≤Y2k (s.f.signs.getD (s.f.signs.length-1) 0) then Y55 least k (jStep s) else s
structure InvJ (s:Ls) (n:Nat):Prop where
 ok:Ok s n
 len:s.f.terms.length=s.f.signs.length+1
 bT:s.T.length+s.f.signs.length≤900000000
 bF:s.F.length≤900000000
section
variable {h:Hp} {g:Tag} {t:List Int} {s:Ls} {L:Lay} {n:Nat}
theorem list_last2{l:List Int}{n:Nat}(h:l.length=n+2):l=l.take n++[l.getD n 0,l.getD (n+1) 0]:=by
 have h1:l.drop n=[l.getD n 0,l.getD (n+1) 0]:=by
  rw[X06 (by omega),X06 (by omega),X1d (by omega)]
  simp_all
 conv=>lhs;rw[←X0i n l]
 rw[h1]
theorem InvJ.val2(I:InvJ s n)(h0:0<s.f.signs.length):Val s.T [s.f.terms.getD (s.f.terms.length-2) 0,s.f.terms.getD (s.f.terms.length-1) 0]:=by
 have hl:=I.len;have m:∀j,j<s.f.terms.length→0≤s.f.terms.getD j 0∧s.f.terms.getD j 0<(s.T.length:Nat):=fun j hj=>I.ok.vf.1 _ (by simp_all);intro i hi
 grind
theorem jStep_eq(I:InvJ s n)(h0:0<s.f.signs.length):∃A x1 x2 B op,s.f.terms=A++[x1,x2]∧s.f.signs=B++[op]∧s.f.signs.getD (s.f.signs.length-1) 0=op∧Val s.T [x1,x2]∧
  jStep s={pAdd op 0 [x1,x2] s with f:={s.f with signs:=B,terms:=A++[(s.T.length:Int)]}}:=by
 have hl:=I.len;have e2:s.f.terms=s.f.terms.take (s.f.terms.length-2)++[s.f.terms.getD (s.f.terms.length-2) 0,s.f.terms.getD (s.f.terms.length-1) 0]:=by
  have:=list_last2 (l:=s.f.terms) (n:=s.f.terms.length-2) (by omega);rwa[show s.f.terms.length-2+1=s.f.terms.length-1 by omega] at this
 have e3:s.f.signs=s.f.signs.take (s.f.terms.length-2)++[s.f.signs.getD (s.f.terms.length-2) 0]:=by
  conv=>lhs;rw[←X0i (s.f.terms.length-2) s.f.signs]
  congr 1;rw[X06 (by omega),X1d (by omega),X6,X5 (by omega)]
  rfl
 exact⟨_,_,_,_,_,e2,e3,by rw[show s.f.signs.length-1=s.f.terms.length-2 by omega],I.val2 h0,rfl⟩
theorem abs_jStep(I:InvJ s n)(h0:0<s.f.signs.length):InvJ (jStep s) n∧(jStep s).f.signs.length+1=s.f.signs.length∧∃op ss,(abs s).f.ss=op::ss∧s.f.signs.getD (s.f.signs.length-1) 0=op∧
  abs (jStep s)={abs s with f:={(abs s).f with ts:=mkB op (abs s).f.ts,ss:=ss}}:=by
 have⟨A,x1,x2,B,op,e1,e2,e3,hv,e4⟩:=jStep_eq I h0;have v:=I.ok;have va:=v.add (op:=op) (n:=0) hv;have vA:Val s.T A:=fun i hi=>v.vf.1 i (by simp_all);have eabs:abs (jStep s)={abs s with f:={(abs s).f with ts:=mkB op (abs s).f.ts,ss:=B.reverse}}:=by
  have h1:(abs s).f.ts=tr s.T x2::tr s.T x1::(A.map (tr s.T)).reverse:=by simp[abs,alf,e1]
  rw[h1,mkB,e4];have e5:s.F.map (alf (pAdd op 0 [x1,x2] s).T)=s.F.map (alf s.T):=fs_app v;simp only[abs];show Qs.mk s.c (s.F.map (alf (pAdd op 0 [x1,x2] s).T)).reverse (alf (pAdd op 0 [x1,x2] s).T _) s.lv s.base s.dn=_;rw[e5];simp only[alf,X0j,Xo,X0s,List.reverse_append,List.reverse_cons,List.reverse_nil,Xt,List.singleton_append];rw[add_new v hv,add_old v v.vf.2,add_old v vA]
  rfl
 have hT:(jStep s).T=(pAdd op 0 [x1,x2] s).T:=by rw[e4]
 have hF:(jStep s).F=s.F:=by rfl
 have hlen:s.f.terms.length=A.length+2:=by grind
 have hsig:s.f.signs.length=B.length+1:=by grind
 have hl:=I.len;have hb:=I.bT;refine⟨⟨⟨by rw[hT];exact va.okT,by rw[hT,hF];exact va.vF, ?_,by rw[hT];exact va.dep, ?_⟩, ?_, ?_,by rw[hF];exact I.bF⟩,by simp_all,op,B.reverse,by simp[abs,alf,e2],e3,eabs⟩
 ·rw[hT,e4];refine⟨fun i hi=> ?_,va.vf.2⟩;simp only[Xi,X8] at hi;rcases hi with hi|rfl
  ·have:=vA i hi;simp only[pAdd,X4,Xc];omega
  ·simp only[pAdd,X4,Xc];omega
 ·rw[eabs,hT];have ht:=v.tot;have h1:(abs s).f.ts=tr s.T x2::tr s.T x1::(A.map (tr s.T)).reverse:=by simp[abs,alf,e1]
  simp only[szQ,szF,h1,mkB,Y10,Y5y,Y27] at ht⊢;simp only[pAdd,X4,Xc];omega
 ·simp_all
 ·rw[hT,e4];simp only[pAdd,X4,Xc];omega
theorem c_prec(h:Hp)(op:Int):CallOK Tryd.prog 64 [.int .i64 op] h h (.int .i64 (Y2k op)):=by
 have H:=Y3g (w_precedence (h:=h) (a0:=op) (Q:=fun h' av=>h'=h∧av= .int .i64 (Y2k op)) (Qp:=fun _ _=>False) (by
  unfold pre_precedence Y2k
  simp_all))
 simp_all
theorem c_join(R:Rep h g t s L)(hfn:L.fn=s.F.length+1)(I:InvJ s n)(least:Int):
  ∃h' g' L',CallOK Tryd.prog 63 [.ref L.p 0 0,.int .i64 least] h h' (.tup [])∧Rep h' g' t (Y55 least s.f.signs.length s) L'∧Kept h g h' g'∧LS L L':=by
 have hp:pre_join h L.p least (fun h' av=>av= .tup []∧∃g' L',Rep h' g' t (Y55 least s.f.signs.length s) L'∧Kept h g h' g'∧LS L L') (fun _ _=>False):=by
  refine⟨L.fr,L.fv,_,c_inner R hfn (by have:=I.bF;omega),fun m h'=>∃g' L' s',Rep h' g' t s' L'∧Kept h g h' g'∧LS L L'∧InvJ s' n∧m=s'.f.signs.length∧s'.F.length=s.F.length∧Y55 least m s'=Y55 least s.f.signs.length s,
   ⟨_,g,L,s,R,Kept.refl _ _,LS.refl _,I,rfl,rfl,rfl⟩, ?_⟩
  rintro m h5 ⟨g',L',s',R',K',S',I',rfl,hF,hJ⟩;have ep:L'.p=L.p:=S'.p;have ef:L'.fr=L.fr:=S'.fr;have ev:L'.fv=L.fv:=S'.fv;rw[←hF, ←ef, ←ev];have hl:=I'.len;have hb:=I'.bT;have stop:¬(0<s'.f.signs.length∧least≤Y2k (s'.f.signs.getD (s'.f.signs.length-1) 0))→∃g' L',Rep h5 g' t (Y55 least s.f.signs.length s) L'∧Kept h g h5 g'∧LS L L':=fun hn=>by
   have e:Y55 least s'.f.signs.length s'=s':=by
    cases hk:s'.f.signs.length with
    |zero=>rfl
    |succ k=>rw[Y55,if_neg hn]
   grind
  refine⟨R'.fp.hasF,L'.ρ.xs,R'.fp.row.2.2.1.nc,R'.fp.ldRow (k:=3) rfl,s'.f.signs.length,R'.fp.row.2.2.1.len,fun hb0=> ?_,fun hb0=>⟨rfl,stop (fun⟨a,_⟩=>by simp_all)⟩⟩;have h0:0<s'.f.signs.length:=by simp_all
  have⟨r1,v1,o1,b1,b2⟩:=SlI.get R'.fp.row.2.2.1 (j:=((s'.f.signs.length:Nat):Int)-1) (by omega) (by omega);rw[show(((s'.f.signs.length:Nat):Int)-1).toNat=s'.f.signs.length-1 by omega] at b2;refine⟨Y93 (by omega) (by omega),r1,v1,o1,b1,_,b2,_,c_prec h5 _,fun hb1=> ?_,fun hb1=>⟨rfl,stop (fun⟨_,b⟩=>of_decide_eq_false hb1 b)⟩⟩;have hle:least≤Y2k (s'.f.signs.getD (s'.f.signs.length-1) 0):=of_decide_eq_true hb1
  --the last sign and the last two terms
  have⟨r2,v2,o2,c1,c2⟩:=SlI.get R'.fp.row.2.2.1 (j:=((s'.f.terms.length:Nat):Int)-2) (by omega) (by omega);have⟨r3,v3,o3,d1,d2⟩:=SlI.get R'.fp.row.2.1.1 (j:=((s'.f.terms.length:Nat):Int)-2) (by omega) (by omega);have⟨r4,v4,o4,e1,e2⟩:=SlI.get R'.fp.row.2.1.1 (j:=((s'.f.terms.length:Nat):Int)-1) (by omega) (by omega);rw[show(((s'.f.terms.length:Nat):Int)-2).toNat=s'.f.terms.length-2 by omega] at c2 d2;rw[show(((s'.f.terms.length:Nat):Int)-1).toNat=s'.f.terms.length-1 by omega] at e2
  --the operands
  have⟨q,hq⟩:=h5.fresh;have⟨a1,a2,a3,a4⟩:=R'.grow (u:=3) (rt:=⟨0,true,3,1,[.int .i64 (s'.f.terms.getD (s'.f.terms.length-2) 0),.int .i64 (s'.f.terms.getD (s'.f.terms.length-1) 0)]⟩) (.inl rfl) hq;have hx:SlI ((q,(⟨0,true,3,1,[.int .i64 (s'.f.terms.getD (s'.f.terms.length-2) 0),.int .i64 (s'.f.terms.getD (s'.f.terms.length-1) 0)]⟩:Rt))::h5) (.rsl q 0 0 2) [s'.f.terms.getD (s'.f.terms.length-2) 0,s'.f.terms.getD (s'.f.terms.length-1) 0]:=
   .inr ⟨q,0,_,rfl,Y2z _ _ _,rfl,rfl,rfl,rfl,rfl,rfl⟩
  have⟨h6,g6,L6,f1,f2,f3,f4⟩:=c_add a2 (s'.f.signs.getD (s'.f.terms.length-2) 0) 0 hx (fun r hr=>by simp only[Y18,X8] at hr;simp_all) I'.ok (I'.val2 h0) (by omega) (by simp);have ef6:L6.fr=L'.fr:=f4.fr;have ev6:L6.fv=L'.fv:=f4.fv
  --the slices,cut
  have w1:SlI h6 L6.ρ.xs s'.f.signs:=f2.fp.row.2.2.1;have w2:SlI h6 L6.ρ.xt s'.f.terms:=f2.fp.row.2.1.1;have⟨y1,i1,i2,i3,i4⟩:=SlI.cut w1 (j:=((s'.f.terms.length:Nat):Int)-2) (by omega) (by omega) h0;have⟨y2,j1,j2,j3,j4⟩:=SlI.cut w2 (j:=((s'.f.terms.length:Nat):Int)-2) (by omega) (by omega) (by omega);rw[show(((s'.f.terms.length:Nat):Int)-2).toNat=s'.f.terms.length-2 by omega] at i3 j3;have gy1:∀r∈Y18 y1,g6 r=12+3*s'.F.length:=fun r hr=>f2.fp.row.2.2.2 r (by simp_all);have gy2:∀r∈Y18 y2,g6 r=11+3*s'.F.length:=fun r hr=>f2.fp.row.2.1.2 r (by simp_all)
  --the new term
  have⟨q7,hq7⟩:=h6.fresh;have⟨k1,k2,k3,k4⟩:=f2.grow (u:=4) (rt:=⟨0,true,3,1,[.int .i64 ((s'.T.length:Nat):Int)]⟩) (.inr rfl) hq7;have z1:=SlA.kpt ⟨i3,gy1⟩ (k3 fun u=>u=12+3*s'.F.length) rfl;have z2:=SlA.kpt ⟨j3,gy2⟩ (k3 fun u=>u=11+3*s'.F.length) rfl;have⟨h9,y9,g9,l1,l2,l5,l9,l10,q9,l6,_⟩:=SlI.appG z2.1 z2.2 ((s'.T.length:Nat):Int) (by grind);have z1':=SlA.kpt z1 (l9 (fun u=>u=12+3*s'.F.length) (by omega)) rfl;have xo':=SlA.kpt k2.fp.row.1 (l9 (fun u=>u=10+3*s'.F.length) (by omega)) rfl;have b9:=l9 (fun u=>u=1) (by omega) L6.fr k2.nef k2.fp.gf;have gf9:g9 L6.fr=1:=b9.2.trans k2.fp.gf;have⟨h84,m1,m2,m3⟩:=stRaw (b9.1.trans k2.fp.frs) k2.fp.lR rfl (k:=3) (by omega) (Y5o z1'.1.one) (Y6b z1'.1.one);have y9o:oneA h84 y9:=(l5.1.same m3 fun r hr=>by grind).one;have⟨h88,n1,n2,n3⟩:=stRaw m2 k2.fp.lR rfl (k:=2) (by omega) (Y5o y9o) (Y6b y9o);have ks:∀S:Nat→Prop,¬S 1→Kpt h9 g9 h88 g9 S:=fun S hS=>(Kpt.same m3 (by simp_all)).trans (Kpt.same n3 (by simp_all));have kk:∀S:Nat→Prop,¬S (11+3*s'.F.length)→¬S 1→Kpt _ _ h88 g9 S:=fun S h1 h2=>(l9 S h1).trans (ks S h2);have bp:=kk (fun u=>u=0) (by omega) (by omega) L6.p k2.nep k2.gp;have ET:(jStep s').T=(pAdd (s'.f.signs.getD (s'.f.terms.length-2) 0) 0 [s'.f.terms.getD (s'.f.terms.length-2) 0,s'.f.terms.getD (s'.f.terms.length-1) 0] s').T:=rfl
  have RJ:Rep h88 g9 t (jStep s') {L6 with ρ:={L6.ρ with xs:=y1,xt:=y9}}:=
   ⟨bp.1.trans k2.box,bp.2.trans k2.gp,k2.fp.reRow (f':=(jStep s').f) (ρ':={L6.ρ with xs:=y1,xt:=y9}) (kk _ (by show ¬(10≤_∧_<10+3*s'.F.length);omega) (by omega)) n2 gf9
    ⟨SlA.kpt xo' (ks (fun u=>u=10+3*s'.F.length) (by omega)) rfl,SlA.kpt l5 (ks (fun u=>u=11+3*s'.F.length) (by omega)) rfl,SlA.kpt z1' (ks (fun u=>u=12+3*s'.F.length) (by omega)) rfl⟩,
    k2.tp.keep (kk _ (by omega) (by omega)),k2.lp.keep (kk _ (by omega) (by omega))⟩
  rw[←ef6, ←ev6];have n1':L6.ρ=L'.ρ:=f4.ρ;have fr7:h9.at L6.fr=Hp.at ((q7,(⟨0,true,3,1,[.int .i64 ((s'.T.length:Nat):Int)]⟩:Rt))::h6) L6.fr:=b9.1;have xs9:∀r∈Y18 L6.ρ.xs,h9.at r=Hp.at ((q7,(⟨0,true,3,1,[.int .i64 ((s'.T.length:Nat):Int)]⟩:Rt))::h6) r:=fun r hr=>(l9 (fun u=>u=12+3*s'.F.length) (by omega) r (k2.fp.row.2.2.1.dom r hr) (k2.fp.row.2.2.2 r hr)).1;have xs7:∀r∈Y18 L6.ρ.xs,Hp.at ((q7,(⟨0,true,3,1,[.int .i64 ((s'.T.length:Nat):Int)]⟩:Rt))::h6) r=h6.at r:=fun r hr=>grow_at hq7 (w1.dom r hr);have xt7:∀r∈Y18 L6.ρ.xt,Hp.at ((q7,(⟨0,true,3,1,[.int .i64 ((s'.T.length:Nat):Int)]⟩:Rt))::h6) r=h6.at r:=fun r hr=>grow_at hq7 (w2.dom r hr);refine⟨L'.ρ.xt,R'.fp.row.2.1.1.nc,by rw[ef6,ev6];exact R'.fp.ldRow (k:=2) rfl,s'.f.terms.length,R'.fp.row.2.1.1.len,Y93 (by omega) (by omega),r2,v2,o2,c1,_,c2,r3,v3,o3,d1,_,d2,Y93 (by omega) (by omega),r4,v4,o4,e1,_,e2,q,_,a1,h6,_,by grind,
   by rw[ef6,ev6];exact a2.fp.hasF,by rw[ef6,ev6];exact a2.fp.ldRow (k:=3) rfl,c1.of (fun r hr=>grow_at hq (R'.fp.row.2.2.1.dom r hr)),c2.of (grow_at hq (R'.fp.row.2.2.1.dom r2 c1.root)),f2.fp.hasF,L6.ρ.xs,w1.nc,f2.fp.ldRow (k:=3) rfl,y1,i1,i2,L6.ρ.xt,w2.nc,f2.fp.ldRow (k:=2) rfl,y2,j1,j2,q7,_,k1,h9,y9,l2,l1,k2.fp.hasF.of fr7,z1'.1.one,h84,m1,Has.mk m2 rfl,y9o,h88,n1,
   k2.fp.hasF,k2.fp.ldRow (k:=3) rfl,(k2.fp.ldRow (k:=3) rfl).of fr7,i2.of xs7,(i2.of xs7).of xs9,k2.fp.ldRow (k:=2) rfl,j2.of xt7, ?_⟩
  have⟨J1,J2,_⟩:=abs_jStep I' h0;refine⟨(jStep s').f.signs.length,by omega,_,_,jStep s',RJ,(K'.trans (((a3 fun u=>u=4).kept rfl).trans f3)).trans ((((k3 fun u=>u=4)).trans (kk (fun u=>u=4) (by omega) (by omega))).kept rfl),S'.trans (f4.toLS.trans ⟨⟨rfl,rfl,rfl,rfl⟩,rfl,rfl,rfl⟩),J1,rfl,rfl, ?_⟩;rw[←hJ];have e:s'.f.signs.length=(jStep s').f.signs.length+1:=by omega
  rw[e,Y55,if_pos ⟨h0,hle⟩]
 have H:=Y3g (w_join hp)
 grind
theorem pJoin_abs(m:Int):∀(k:Nat) (s:Ls),InvJ s n→k=s.f.signs.length→InvJ (Y55 m k s) n∧abs (Y55 m k s)=qJoin m (abs s)∧(Y55 m k s).F.length=s.F.length∧(Y55 m k s).T.length+(Y55 m k s).f.signs.length=s.T.length+s.f.signs.length
 |0,s,I,hk=>by
  have e:(abs s).f.ss=[]:=by
   have:s.f.signs=[]:=X17.1 hk.symm;simp[abs,alf,this]
  refine⟨I, ?_,rfl,rfl⟩;rw[Y55,qJoin,e,qJ, ←e]
 |k+1,s,I,hk=>by
  have⟨I1,l1,op,ss,e1,e2,e3⟩:=abs_jStep I (by omega);rw[Y55,e2,qJoin,e1,qJ]
  by_cases hp:m≤Y2k op
  ·rw[if_pos ⟨by omega,hp⟩,if_pos hp];have⟨a,b,c,d⟩:=pJoin_abs m k (jStep s) I1 (by omega);refine⟨a, ?_,c, ?_⟩
   ·rw[b,qJoin,e3]
   ·rw[d];have:(jStep s).T.length=s.T.length+1:=by simp[jStep,pAdd]
    omega
  ·rw[if_neg (fun h=>hp h.2),if_neg hp, ←e1]
   grind
theorem lprec_pos(o:Int):1≤Y2k o∧Y2k o≤3:=by
 unfold Y2k;omega
theorem qJ_all:∀(ss:List Int) (ts:List Tr),(qJ 0 ss ts).2=[]
 |[],ts=>rfl
 |o::ss,ts=>by rw[qJ,if_pos (by have:=lprec_pos o;omega)];exact qJ_all ss _
def pOpI (s:Ls):Int:=(Y55 0 s.f.signs.length s).f.terms.getD 0 0
def Y2m (s:Ls):Ls:={Y55 0 s.f.signs.length s with f:={(Y55 0 s.f.signs.length s).f with terms:=[]}}
theorem pOp_one(I:InvJ s n):(Y55 0 s.f.signs.length s).f.terms=[pOpI s]∧(Y55 0 s.f.signs.length s).f.signs=[]∧0≤pOpI s∧pOpI s<((Y55 0 s.f.signs.length s).T.length:Nat)∧tr (Y55 0 s.f.signs.length s).T (pOpI s)=qOpI (abs s):=by
 have⟨a,b,_⟩:=pJoin_abs 0 _ s I rfl;have p1:(Y55 0 s.f.signs.length s).f.signs=[]:=by
  have:=congrArg (fun q=>q.f.ss) b;simp only[qJoin,qJ_all] at this;simpa [abs,alf] using this
 have hl:=a.len;have h1:(Y55 0 s.f.signs.length s).f.terms=[pOpI s]:=by
  unfold pOpI;generalize (Y55 0 s.f.signs.length s).f.terms=l at hl;cases l with
  |nil=>simp at hl
  |cons a l=>
   simp_all
 have hv:=a.ok.vf.1 (pOpI s) (by grind);refine⟨h1,p1,hv.1,hv.2, ?_⟩;have:=congrArg (fun q=>q.f.ts) b;simp only[qJoin,abs,alf,h1,Xo,X0s,List.reverse_singleton] at this;rw[qOpI];show _=(qJ 0 s.f.signs.reverse (s.f.terms.map (tr s.T)).reverse).1.headD noTr
 grind
theorem pOperand_ok(I:InvJ s n):Ok (Y2m s) (n+nd (qOpI (abs s)))∧abs (Y2m s)={abs s with f:={(abs s).f with ts:=[],ss:=[]}}∧(Y2m s).F.length=s.F.length∧(Y2m s).T.length=s.T.length+s.f.signs.length:=by
 have⟨a,b,c,d⟩:=pJoin_abs 0 _ s I rfl;have⟨h1,h2,h3,h4,h5⟩:=pOp_one I;have e:abs (Y2m s)={abs s with f:={(abs s).f with ts:=[],ss:=[]}}:=by
  have:abs (Y2m s)={abs (Y55 0 s.f.signs.length s) with f:={(abs (Y55 0 s.f.signs.length s)).f with ts:=[]}}:=by rfl
  rw[this,b,qJoin];simp only[qJ_all]
 refine⟨⟨a.ok.okT,a.ok.vF,⟨fun i hi=>by simp[Y2m] at hi,a.ok.vf.2⟩,a.ok.dep, ?_⟩,e,c, ?_⟩
 ·have h6:=a.ok.tot;show(Y55 0 s.f.signs.length s).T.length=_;rw[h6,e,b];have h7:(qJoin 0 (abs s)).f.ts=[qOpI (abs s)]:=by
   rw[←b];simp[abs,alf,h1,h5]
  simp only[szQ,szF,h7,Y10,Y27];simp only[qJoin];omega
 ·rw[h2] at d;show(Y55 0 s.f.signs.length s).T.length=_;omega
theorem c_operand(R:Rep h g t s L)(hfn:L.fn=s.F.length+1)(I:InvJ s n):
  ∃h' g' L',CallOK Tryd.prog 28 [.ref L.p 0 0] h h' (.int .i64 (pOpI s))∧Rep h' g' t (Y2m s) L'∧Kept h g h' g'∧LS L L':=by
 have⟨h1,g1,L1,a1,a2,a3,a4⟩:=c_join R hfn I 0;have⟨b1,b2,b3,_⟩:=pJoin_abs 0 _ s I rfl;have hl:=b1.len;have⟨r,v,o,d1,d2⟩:=SlI.get a2.fp.row.2.1.1 (j:=0) (by omega) (by omega);have⟨h2,e1,e2,e3⟩:=a2.stRow (k:=2) (y:=nilA) (f':={(Y55 0 s.f.signs.length s).f with terms:=[]}) (ρ':={L1.ρ with xt:=nilA}) (by omega) rfl rfl rfl ⟨a2.fp.row.1,⟨SlI.nil _,fun r hr=>by simp[Y18] at hr⟩,a2.fp.row.2.2⟩;have hin:=c_inner a2 (by rw[a4.fn,hfn,b3]) (by have:=b1.bF;omega);rw[a4.p] at hin;have H:=Y3g (w_operand (h:=h) (p:=L.p) (Q:=fun h' av=>h'=h2∧av= .int .i64 (pOpI s)) (Qp:=fun _ _=>False)
  ⟨h1,a1,L1.fr,L1.fv,_,hin,a2.fp.hasF,L1.ρ.xt,a2.fp.row.2.1.1.nc,a2.fp.ldRow (k:=2) rfl,r,v,o,d1,_,d2,h2,e1,rfl,rfl⟩)
 obtain⟨h',av,c1,rfl,rfl⟩:=H;exact⟨_,g1,_,c1,e2,a3.trans e3,a4.trans ⟨⟨rfl,rfl,rfl,rfl⟩,rfl,rfl,rfl⟩⟩
end
end Go.Proofs.YtfpcbalkioolmaaDoor
