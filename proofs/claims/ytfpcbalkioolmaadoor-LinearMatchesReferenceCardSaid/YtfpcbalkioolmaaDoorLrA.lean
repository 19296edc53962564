/- Own work. -/
import Derived.Test.YtfpcbalkioolmaaDoorSymA
set_option linter.unusedSimpArgs false
set_option linter.unusedVariables false
namespace Go.Abs
open Go.RowKit
def Same (h h':Hp) (D:List Nat):Prop:=∀r,r∉D→h'.at r=h.at r
theorem Same.cons(h:Hp)(r:Nat)(rt:Rt):Same h ((r,rt)::h) [r]:=fun q hq=>by
 simp only[Hp.at];rw[if_neg (fun e=>hq (by simp[e]))]
theorem Y2z(r:Nat)(rt:Rt)(h:Hp):Hp.at ((r,rt)::h) r=some rt:=by simp[Hp.at]
theorem Hp.at_ne{r q:Nat}(e:r≠q)(rt:Rt)(h:Hp):Hp.at ((r,rt)::h) q=h.at q:=by simp[Hp.at,e]
theorem Hp.fresh(h:Hp):∃r,h.at r=none:=by
 have key:∀(h:Hp),∃n,∀r,n≤r→h.at r=none:=by
  intro h
  induction h with
  |nil=>exact⟨0,fun r _=>rfl⟩
  |cons p h ih=>
   have⟨i,v⟩:=p;have⟨n,hn⟩:=ih;refine⟨n+i+1,fun r hr=> ?_⟩;simp only[Hp.at]
   grind
 have⟨n,hn⟩:=key h;exact⟨n,hn n (Xk _)⟩
def Y18:AV→List Nat
 | .rsl r _ _ _=>[r]
 |_=>[]
abbrev nilA:AV:=.im (.val (.slice none 0 0))
def SlA (h:Hp) (x:AV) (e k n:Nat) (cs:List AV):Prop:=(x=nilA∧n=0∧cs=[])∨∃r v rt,x= .rsl r v 0 n∧h.at r=some rt∧rt.ver=v∧rt.live=true∧rt.e=e∧rt.k=k∧rt.cs.take (n*k)=cs∧cs.length=n*k
section
variable {h h1:Hp} {x:AV} {e k n:Nat} {cs:List AV}
theorem SlA.same{h':Hp}{D:List Nat}(hs:Same h h' D)(hd:∀r∈Y18 x,r∉D)(H:SlA h x e k n cs):SlA h' x e k n cs:=by
 rcases H with H|⟨r,v,rt,rfl,h1,h2⟩
 ·exact .inl H
 ·exact .inr ⟨r,v,rt,rfl,by rw[hs r (hd r (by simp[Y18]))];exact h1,h2⟩
theorem SlA.nc(H:SlA h x e k n cs):NC x:=by
 rcases H with⟨rfl,_⟩|⟨r,v,rt,rfl,_⟩<;>exact⟨trivial,rfl⟩
theorem SlA.one(H:SlA h x e k n cs):oneA h x:=by
 rcases H with⟨rfl,_⟩|⟨r,v,rt,rfl,h1,h2,_⟩
 ·rfl
 ·exact Has.mk h1 h2
theorem SlA.len(H:SlA h x e k n cs):Len h x n:=by
 rcases H with⟨rfl,rfl,_⟩|⟨r,v,rt,rfl,h1,h2,_⟩
 ·exact .inl ⟨rfl,rfl⟩
 ·exact .inr (.inl ⟨_,_,_,rfl,Has.mk h1 h2⟩)
theorem SlA.dom(H:SlA h x e k n cs):∀r∈Y18 x,h.at r≠none:=by
 rcases H with⟨rfl,rfl,_⟩|⟨r,v,rt,rfl,h1,h2,_⟩
 ·intro r hr;simp[Y18] at hr
 ·intro q hq;simp only[Y18,X8] at hq
  simp_all
theorem SlA.ix(H:SlA h x e k n cs){j:Int}(h0:0≤j)(hj:j<(n:Nat)):∃r v,Ix h x k j (.ref r v (0+j.toNat*k))∧Has h r v∧(∀i a,i<k→cs[j.toNat*k+i]? =some a→Ld h r v (0+j.toNat*k+i) a)∧
  ∀m,m≤k→LdN h r v (0+j.toNat*k) m ((cs.drop (j.toNat*k)).take m):=by
 rcases H with⟨rfl,rfl,_⟩|⟨r,v,rt,rfl,h1,h2,h3,h4,h5,h6,h7⟩
 ·omega
 ·have hjn:j.toNat<n:=by omega
  have hle:j.toNat*k+k≤n*k:=by rw[←X0w];exact X16 k (by omega)
  refine⟨r,v,.inl ⟨r,v,0,n,rfl,HasK.mk h1 h2 h5,h0,hj,rfl⟩,Has.mk h1 h2,fun i a hi ha=>⟨rt,h1,h2,h3, ?_⟩,fun m hm=>⟨rt,h1,h2,h3, ?_, ?_⟩⟩
  ·grind
  ·grind
  ·rw[X05, ←h6,List.drop_take,X10]
   grind
theorem SlA.cut(H:SlA h x e k n cs){j:Int}(h0:0≤j)(hj:j≤(n:Nat))(hn:0<n):∃y,NC y∧Cut h x k j y∧SlA h y e k j.toNat (cs.take (j.toNat*k))∧Y18 y=Y18 x:=by
 rcases H with⟨rfl,rfl,_⟩|⟨r,v,rt,rfl,h1,h2,h3,h4,h5,h6,h7⟩
 ·omega
 ·have hle:j.toNat*k≤n*k:=X16 k (by omega);refine⟨.rsl r v 0 j.toNat,⟨trivial,rfl⟩,⟨r,v,n,rfl,HasK.mk h1 h2 h5,h0,hj,rfl⟩,.inr ⟨r,v,rt,rfl,h1,h2,h3,h4,h5, ?_, ?_⟩,rfl⟩
  ·grind
  simp_all
theorem SlA.app(H:SlA h x e k n cs){bytes:Nat}(news:List AV)(hk:news.length=k)(hb:(n+1)*bytes≤140737488355328)(hn:n+1≤140737488355328):
  ∃h1 y q,App h x e k bytes 1 news h1 y∧NC y∧SlA h1 y e k (n+1) (cs++news)∧Y18 y=[q]∧Same h h1 [q]∧(Y18 x=[q]∨(Y18 x=[]∧h.at q=none)):=by
 rcases H with⟨rfl,rfl,rfl⟩|⟨r,v,rt,rfl,h1,h2,h3,h4,h5,h6,h7⟩
 ·have⟨q,hq⟩:=h.fresh;refine⟨_,_,q,.inr ⟨rfl,q,hq,by omega,by omega,rfl,rfl⟩,⟨trivial,rfl⟩,.inr ⟨q,1,_,rfl,Y2z _ _ _,rfl,rfl,rfl,rfl, ?_, ?_⟩,rfl,Same.cons _ _ _,.inr ⟨rfl,hq⟩⟩
  ·grind
  grind
 ·have hle:n*k≤rt.cs.length:=by
   grind
  refine⟨_,_,r,.inl ⟨r,v,n,rt,rfl,h1,h2,h3,h4,h5,hle,hb,hn,rfl,rfl⟩,⟨trivial,rfl⟩,.inr ⟨r,v+1,_,rfl,Y2z _ _ _,rfl,rfl,rfl,rfl, ?_, ?_⟩,rfl,Same.cons _ _ _,.inl rfl⟩
  ·simp only[h6];exact Xu (by grind)
  grind
end
def eI64 (l:List Int):List AV:=l.map fun n=>.int .i64 n
abbrev SlI (h:Hp) (x:AV) (l:List Int):Prop:=SlA h x 3 1 l.length (eI64 l)
theorem SlI.get{h:Hp}{x:AV}{l:List Int}(H:SlI h x l){j:Int}(h0:0≤j)(hj:j<(l.length:Nat)):∃r v o,Ix h x 1 j (.ref r v o)∧Ld h r v o (.int .i64 (l.getD j.toNat 0)):=by
 have⟨r,v,h1,_,h2,_⟩:=SlA.ix H h0 hj;refine⟨r,v,_,h1, ?_⟩;have:=h2 0 (.int .i64 (l.getD j.toNat 0)) (by omega) (by
  have hlt:j.toNat<l.length:=by omega
  simp[eI64,X0g,X5 hlt,X6])
 omega
theorem SlI.cut{h:Hp}{x:AV}{l:List Int}(H:SlI h x l){j:Int}(h0:0≤j)(hj:j≤(l.length:Nat))(hn:0<l.length):∃y,NC y∧Cut h x 1 j y∧SlI h y (l.take j.toNat)∧Y18 y=Y18 x:=by
 have⟨y,h1,h2,h3,h4⟩:=SlA.cut H h0 hj hn;refine⟨y,h1,h2, ?_,h4⟩;have e1:(l.take j.toNat).length=j.toNat:=by simp_all
 have e2:(eI64 l).take (j.toNat*1)=eI64 (l.take j.toNat):=by simp[eI64,List.map_take]
 grind
theorem SlI.app{h:Hp}{x:AV}{l:List Int}(H:SlI h x l)(v:Int)(hn:l.length≤10000000000):
  ∃h1 y q,App h x 3 1 8 1 [.int .i64 v] h1 y∧NC y∧SlI h1 y (l++[v])∧Y18 y=[q]∧Same h h1 [q]∧(Y18 x=[q]∨(Y18 x=[]∧h.at q=none)):=by
 have⟨h1,y,q,a1,a2,a3,a4⟩:=SlA.app (bytes:=8) H [.int .i64 v] rfl (by omega) (by omega);refine⟨h1,y,q,a1,a2, ?_,a4⟩;unfold SlI;have e1:(l++[v]).length=l.length+1:=by simp
 have e2:eI64 (l++[v])=eI64 l++[.int .i64 v]:=by simp[eI64]
 simp_all
theorem SlI.nil(h:Hp):SlI h nilA []:=.inl ⟨rfl,rfl,rfl⟩
structure Tn where
 op:Int
 n:Int
 ops:List Int
 dep:Int
structure Fr where
 op:Int
 ops:List Int
 terms:List Int
 signs:List Int
 cols:Int
 rows:Int
 ents:Int
def treeC (t:Tn) (x:AV):List AV:=[.int .i64 t.op,.int .i64 t.n,x,.int .i64 t.dep]
def treesC:List Tn→List AV→List AV
 |t::T,x::X=>treeC t x++treesC T X
 |_,_=>[]
theorem treesC_get:∀(T:List Tn) (X:List AV) (i:Nat) (t:Tn) (x:AV),T[i]? =some t→X[i]? =some x→((treesC T X).drop (i*4)).take 4=treeC t x
 |[],_,_,_,_,h,_=>by simp at h
 |_::_,[],_,_,_,_,h=>by simp at h
 |t'::T,x'::X,0,t,x,h1,h2=>by
  simp at h1 h2;subst h1 h2
  rfl
 |t'::T,x'::X,i+1,t,x,h1,h2=>by
  simp at h1 h2;have:=treesC_get T X i t x h1 h2;have e:List.drop ((i+1)*4) (treesC (t'::T) (x'::X))=List.drop (i*4) (treesC T X):=by
   rw[X0w,X0r, ←X1u];rfl
  simp_all
theorem treesC_app:∀(T:List Tn) (X:List AV) (t:Tn) (x:AV),X.length=T.length→treesC (T++[t]) (X++[x])=treesC T X++treeC t x
 |[],[],_,_,_=>by rfl
 |[],_::_,_,_,h=>by simp at h
 |_::_,[],_,_,h=>by simp at h
 |t'::T,x'::X,t,x,h=>by
  have:=treesC_app T X t x (by grind);simp[treesC,this]
structure Row where
 xo:AV
 xt:AV
 xs:AV
def row7 (f:Fr) (ρ:Row):List AV:=[.int .i64 f.op,ρ.xo,ρ.xt,ρ.xs,.int .i64 f.cols,.int .i64 f.rows,.int .i64 f.ents]
def rowsC:List Fr→List Row→List AV
 |f::F,ρ::R=>row7 f ρ++rowsC F R
 |_,_=>[]
theorem rowsC_len:∀(F:List Fr) (R:List Row),R.length=F.length→(rowsC F R).length=F.length*7
 |[],[],_=>rfl
 |[],_::_,h=>by rfl
 |_::_,[],h=>by simp at h
 |f::F,ρ::R,h=>by
  have:=rowsC_len F R (by grind);simp[rowsC,row7,this,X0w]
theorem rowsC_app:∀(F:List Fr) (R:List Row) (f:Fr) (ρ:Row),R.length=F.length→rowsC (F++[f]) (R++[ρ])=rowsC F R++row7 f ρ
 |[],[],_,_,_=>by rfl
 |[],_::_,_,_,h=>by simp at h
 |_::_,[],_,_,h=>by simp at h
 |f'::F,ρ'::R,f,ρ,h=>by
  have:=rowsC_app F R f ρ (by grind);simp[rowsC,this]
abbrev Tag:=Nat→Nat
def RowOK (h:Hp) (g:Tag) (i:Nat) (f:Fr) (ρ:Row):Prop:=
 (SlI h ρ.xo f.ops∧∀r∈Y18 ρ.xo,g r=10+3*i)∧(SlI h ρ.xt f.terms∧∀r∈Y18 ρ.xt,g r=11+3*i)∧SlI h ρ.xs f.signs∧∀r∈Y18 ρ.xs,g r=12+3*i
def RowsOK (h:Hp) (g:Tag):Nat→List Fr→List Row→Prop
 |_,[],[]=>True
 |i,f::F,ρ::R=>RowOK h g i f ρ∧RowsOK h g (i+1) F R
 |_,_,_=>False
def Kept (h:Hp) (g:Tag) (h':Hp) (g':Tag):Prop:=∀r,h.at r≠none→g r=4→h'.at r=h.at r∧g' r=4
theorem Kept.refl(h:Hp)(g:Tag):Kept h g h g:=fun _ _ hg=>⟨rfl,hg⟩
theorem Kept.trans{h h1 h2:Hp}{g g1 g2:Tag}(a:Kept h g h1 g1)(b:Kept h1 g1 h2 g2):Kept h g h2 g2:=fun r hr hg=>by
 have⟨a1,a2⟩:=a r hr hg;have⟨b1,b2⟩:=b r (by simp_all) a2
 simp_all
def upg (g:Tag) (r t:Nat):Tag:=fun q=>if q=r then t else g q
theorem upg_self(g:Tag)(r t:Nat):upg g r t r=t:=by simp[upg]
theorem upg_ne(g:Tag){r q:Nat}(t:Nat)(e:q≠r):upg g r t q=g q:=by simp[upg,e]
section
variable {h h1:Hp} {g g1:Tag}
theorem SlA.keep{x:AV}{e k n:Nat}{cs:List AV}{t:Nat}(H:SlA h x e k n cs∧∀r∈Y18 x,g r=t)(hk:∀r,h.at r≠none→g r=t→h1.at r=h.at r∧g1 r=t):SlA h1 x e k n cs∧∀r∈Y18 x,g1 r=t:=by
 refine⟨?_,fun r hr=>(hk r (H.1.dom r hr) (H.2 r hr)).2⟩;rcases H.1 with H1|⟨r,v,rt,rfl,h1',h2⟩
 ·exact .inl H1
 ·exact .inr ⟨r,v,rt,rfl,by rw[(hk r (by simp_all) (H.2 r (by simp[Y18]))).1];exact h1',h2⟩
theorem RowOK.keep{i:Nat}{f:Fr}{ρ:Row}(H:RowOK h g i f ρ)(hk:∀r,h.at r≠none→g r=10+3*i∨g r=11+3*i∨g r=12+3*i→h1.at r=h.at r∧g1 r=g r):RowOK h1 g1 i f ρ:=
 ⟨SlA.keep H.1 fun r a b=>by simp_all,SlA.keep H.2.1 fun r a b=>by simp_all,SlA.keep H.2.2 fun r a b=>by simp_all⟩
theorem RowsOK.keep:∀{i:Nat} {F:List Fr} {R:List Row},RowsOK h g i F R→(∀r,h.at r≠none→10+3*i≤g r→g r<10+3*(i+F.length)→h1.at r=h.at r∧g1 r=g r)→RowsOK h1 g1 i F R
 |_,[],[],_,_=>trivial
 |_,[],_::_,H,_=>H.elim
 |_,_::_,[],H,_=>H.elim
 |i,f::F,ρ::R,H,hk=>by
  refine⟨RowOK.keep H.1 fun r a b=>hk r a (by omega) (by grind),RowsOK.keep H.2 fun r a b c=>hk r a (by omega) (by grind)⟩
theorem RowsOK.app:∀{i:Nat} {F:List Fr} {R:List Row} {f:Fr} {ρ:Row},RowsOK h g i F R→RowOK h g (i+F.length) f ρ→RowsOK h g i (F++[f]) (R++[ρ])
 |_,[],[],_,_,_,H=>⟨H,trivial⟩
 |_,[],_::_,_,_,H,_=>H.elim
 |_,_::_,[],_,_,H,_=>H.elim
 |i,f::F,ρ::R,_,_,H,H2=>⟨H.1,RowsOK.app H.2 (by grind)⟩
theorem RowsOK.split:∀{i:Nat} {F:List Fr} {R:List Row} {f:Fr},RowsOK h g i (F++[f]) R→∃R' ρ,R=R'++[ρ]∧RowsOK h g i F R'∧RowOK h g (i+F.length) f ρ
 |_,[],[],_,H=>H.elim
 |_,[],[ρ],_,H=>⟨[],ρ,rfl,trivial,H.1⟩
 |_,[],_::_::_,_,H=>H.2.elim
 |_,_::_,[],_,H=>H.elim
 |i,f'::F,ρ'::R,f,H=>by
  obtain⟨R',ρ,rfl,h1,h2⟩:=RowsOK.split H.2;exact⟨ρ'::R',ρ,rfl,⟨H.1,h1⟩,by grind⟩
end
def Kpt (h:Hp) (g:Tag) (h1:Hp) (g1:Tag) (S:Nat→Prop):Prop:=∀r,h.at r≠none→S (g r)→h1.at r=h.at r∧g1 r=g r
def eU8 (l:List Int):List AV:=l.map fun n=>.int .u8 n
abbrev SlU (h:Hp) (x:AV) (l:List Int):Prop:=SlA h x 33 1 l.length (eU8 l)
section
variable {h h1 h2:Hp} {g g1 g2:Tag} {S S':Nat→Prop} {x y:AV} {e k n t:Nat} {cs:List AV}
theorem Kpt.refl:Kpt h g h g S:=fun _ _ _=>⟨rfl,rfl⟩
theorem Kpt.trans(a:Kpt h g h1 g1 S)(b:Kpt h1 g1 h2 g2 S):Kpt h g h2 g2 S:=fun r hr hs=>by
 have⟨a1,a2⟩:=a r hr hs;have⟨b1,b2⟩:=b r (by simp_all) (by simp_all)
 simp_all
theorem Kpt.sub(a:Kpt h g h1 g1 S)(hs:∀t,S' t→S t):Kpt h g h1 g1 S':=fun r hr hs'=>a r hr (hs _ hs')
theorem Kpt.same{q:Nat}(hs:Same h h1 [q])(hq:¬S (g q)):Kpt h g h1 g S:=fun r _ hr=>⟨hs r (by grind),rfl⟩
theorem Kpt.kept(a:Kpt h g h1 g1 S)(h4:S 4):Kept h g h1 g1:=fun r hr hg=>by
 have⟨b,c⟩:=a r hr (by simp_all)
 simp_all
theorem Kpt.grown{q:Nat}{t:Nat}(hs:Same h h1 [q])(hq:h.at q=none∨g q=t)(ht:¬S t):Kpt h g h1 (upg g q t) S:=fun r hr hg=>by
 have e:r≠q:=fun e=>by
  simp_all
 exact⟨hs r (by grind),upg_ne g t e⟩
theorem Kpt.new{q:Nat}{rt:Rt}{t:Nat}(hq:h.at q=none):Kpt h g ((q,rt)::h) (upg g q t) S:=fun r hr hg=>by
 have e:r≠q:=fun e=>hr (by simp_all);exact⟨Hp.at_ne (fun e2=>e e2.symm) _ _,upg_ne g t e⟩
theorem SlA.kpt(H:SlA h x e k n cs∧∀r∈Y18 x,g r=t)(a:Kpt h g h1 g1 S)(ht:S t):SlA h1 x e k n cs∧∀r∈Y18 x,g1 r=t:=
 SlA.keep H fun r hr hg=>by
  have⟨b,c⟩:=a r hr (by simp_all)
  simp_all
theorem rootA_one{x:AV}{q:Nat}{l:List Nat}(hx:Y18 x=q::l):l=[]:=by
 cases x with
 |rsl r v o n=>simp[Y18] at hx;exact hx.2
 |_=>simp[Y18] at hx
end
structure FrP (h:Hp) (g:Tag) (F:List Fr) (f:Fr) (fr fv:Nat) (R:List Row) (ρ:Row) (G:List AV):Prop where
 frs:h.at fr=some ⟨fv,true,63,7,rowsC F R++(row7 f ρ++G)⟩
 gf:g fr=1
 lR:R.length=F.length
 rows:RowsOK h g 0 F R
 row:RowOK h g F.length f ρ
structure TrP (h:Hp) (g:Tag) (T:List Tn) (xt:AV) (X:List AV):Prop where
 trs:SlA h xt 70 4 T.length (treesC T X)
 gt:∀r∈Y18 xt,g r=2
 lX:X.length=T.length
 xs:∀(i:Nat) (x:AV) (t:Tn),X[i]? =some x→T[i]? =some t→SlI h x t.ops∧∀r∈Y18 x,g r=3
def LvP (h:Hp) (g:Tag) (lv:List Int) (xl:AV):Prop:=SlU h xl lv∧∀r∈Y18 xl,g r=5
section
variable {h h1 h2:Hp} {g g1 g2:Tag} {T:List Tn} {F:List Fr} {f f':Fr} {fr fv:Nat} {R:List Row} {ρ ρ':Row} {G:List AV} {xt xl:AV} {X:List AV} {lv:List Int}
theorem FrP.keep(H:FrP h g F f fr fv R ρ G)(a:Kpt h g h1 g1 fun t=>t=1∨(10≤t∧t<10+3*(F.length+1))):FrP h1 g1 F f fr fv R ρ G:=by
 have b:=a fr (by rw[H.frs];simp) (.inl H.gf);exact⟨b.1.trans H.frs,b.2.trans H.gf,H.lR,RowsOK.keep H.rows fun r hr h1 h2=>a r hr (.inr ⟨by omega,by omega⟩),RowOK.keep H.row fun r hr h1=>a r hr (.inr ⟨by omega,by omega⟩)⟩
theorem TrP.keep(H:TrP h g T xt X)(a:Kpt h g h1 g1 fun t=>t=2∨t=3):TrP h1 g1 T xt X:=by
 have b:=SlA.kpt ⟨H.trs,H.gt⟩ a (.inl rfl);exact⟨b.1,b.2,H.lX,fun i x t hx ht=>SlA.kpt (H.xs i x t hx ht) a (.inr rfl)⟩
theorem LvP.keep(H:LvP h g lv xl)(a:Kpt h g h1 g1 fun t=>t=5):LvP h1 g1 lv xl:=SlA.kpt H a rfl
theorem FrP.hasF(H:FrP h g F f fr fv R ρ G):Has h fr fv:=Has.mk H.frs rfl
theorem FrP.lenA(H:FrP h g F f fr fv R ρ G):(rowsC F R).length=F.length*7:=rowsC_len _ _ H.lR
theorem FrP.ldRow(H:FrP h g F f fr fv R ρ G){k:Nat}{a:AV}(hk:(row7 f ρ)[k]? =some a):Ld h fr fv (0+F.length*7+k) a:=by
 refine⟨_,H.frs,rfl,rfl, ?_⟩;have h7:k<7:=(Xj.1 hk).1;simp only;rw[X09 (by rw[H.lenA];omega),H.lenA,X0h (by grind)]
 simp_all
theorem putA_mid{A row G:List AV}{n k:Nat}{y:AV}(hA:A.length=n*7)(hk:k<row.length):putA (A++(row++G)) (0+n*7+k) [y]=A++(row.set k y++G):=by
 unfold putA;have d0:A.drop (0+n*7+k+[y].length)=[]:=List.drop_eq_nil_of_le (by omega);rw[X1l,List.drop_append,hA,Xu (by omega),d0];rw[show 0+n*7+k-n*7=k by omega,show 0+n*7+k+[y].length-n*7=k+1 by grind];rw[X1k (by omega),List.drop_append_of_le_length (by omega)];rw[X1w,if_pos hk];simp
theorem stRaw{row:List AV}{k:Nat}{y:AV}(hf:h.at fr=some ⟨fv,true,63,7,rowsC F R++(row++G)⟩)(lR:R.length=F.length)(hl:row.length=7)(hk:k<7)(hc:Y1r y=[y])(ho:okC h y):
  ∃h1,St h fr fv (0+F.length*7+k) y h1∧h1.at fr=some ⟨fv,true,63,7,rowsC F R++(row.set k y++G)⟩∧Same h h1 [fr]:=by
 have hA:=rowsC_len F R lR;refine⟨_,⟨_,hf,rfl,rfl, ?_,ho,rfl⟩, ?_,Same.cons _ _ _⟩
 ·grind
 ·rw[Y2z,hc];simp only;rw[putA_mid hA (by omega)]
theorem Ld.of{h h':Hp}{r v o:Nat}{a:AV}(H:Ld h r v o a)(e:h'.at r=h.at r):Ld h' r v o a:=by
 have⟨rt,h1,h2⟩:=H;exact⟨rt,e.trans h1,h2⟩
theorem Has.of{h h':Hp}{r v:Nat}(H:Has h r v)(e:h'.at r=h.at r):Has h' r v:=by unfold Has at H⊢;simp_all
theorem HasK.of{h h':Hp}{r v k:Nat}(H:HasK h r v k)(e:h'.at r=h.at r):HasK h' r v k:=by unfold HasK at H⊢;simp_all
theorem Ix.root{h:Hp}{x:AV}{k r v o:Nat}{j:Int}(H:Ix h x k j (.ref r v o)):r∈Y18 x:=by
 rcases H with⟨r',v',o',n,rfl,_,_,_,e⟩|⟨ys,n,rfl,_,_,e⟩
 ·cases e;simp[Y18]
 ·cases e
theorem Ix.of{h h':Hp}{x:AV}{k:Nat}{j:Int}{a:AV}(H:Ix h x k j a)(e:∀r∈Y18 x,h'.at r=h.at r):Ix h' x k j a:=by
 rcases H with⟨r',v',o',n,rfl,h1,h2⟩|H
 ·exact .inl ⟨r',v',o',n,rfl,h1.of (e r' (by simp[Y18])),h2⟩
 ·exact .inr H
theorem Cut.of{h h':Hp}{x:AV}{k:Nat}{j:Int}{a:AV}(H:Cut h x k j a)(e:∀r∈Y18 x,h'.at r=h.at r):Cut h' x k j a:=by
 obtain⟨r',v',n,rfl,h1,h2⟩:=H;exact⟨r',v',n,rfl,h1.of (e r' (by simp[Y18])),h2⟩
theorem grow_at{h:Hp}{q:Nat}{rt:Rt}(hq:h.at q=none){r:Nat}(hr:h.at r≠none):Hp.at ((q,rt)::h) r=h.at r:=Hp.at_ne (fun e=>hr (by simp_all)) _ _
theorem SlI.appG{x:AV}{l:List Int}{t:Nat}(hx:SlI h x l)(hg:∀r∈Y18 x,g r=t)(v:Int)(hn:l.length≤10000000000):
  ∃h1 y g1,App h x 3 1 8 1 [.int .i64 v] h1 y∧NC y∧(SlI h1 y (l++[v])∧∀r∈Y18 y,g1 r=t)∧(∀S:Nat→Prop,¬S t→Kpt h g h1 g1 S)∧(∀r,h.at r≠none→g1 r=g r)∧∃q,Y18 y=[q]∧(Y18 x=[q]∨(Y18 x=[]∧h.at q=none)):=by
 have⟨h1,y,q,a1,a2,a3,a4,a5,a6⟩:=SlI.app hx v hn;have hq:h.at q=none∨g q=t:=by
  grind
 refine⟨h1,y,upg g q t,a1,a2,⟨a3,fun r hr=> ?_⟩,fun S hS=>Kpt.grown a5 hq hS,fun r hr=> ?_,q,a4,a6⟩
 ·rw[a4] at hr;simp only[X8] at hr;rw[hr];exact upg_self _ _ _
 ·by_cases e:r=q
  ·subst e;rcases hq with hq|hq
   ·simp_all
   ·rw[upg_self,hq]
  ·exact upg_ne g t e
theorem SlU.appG{x:AV}{l:List Int}{t:Nat}(hx:SlU h x l)(hg:∀r∈Y18 x,g r=t)(v:Int)(hn:l.length≤10000000000):
  ∃h1 y g1,App h x 33 1 1 1 [.int .u8 v] h1 y∧NC y∧(SlU h1 y (l++[v])∧∀r∈Y18 y,g1 r=t)∧(∀S:Nat→Prop,¬S t→Kpt h g h1 g1 S):=by
 have⟨h1,y,q,a1,a2,a3,a4,a5,a6⟩:=SlA.app (bytes:=1) hx [.int .u8 v] rfl (by omega) (by omega);have hq:h.at q=none∨g q=t:=by
  grind
 have e1:(l++[v]).length=l.length+1:=by simp
 have e2:eU8 (l++[v])=eU8 l++[.int .u8 v]:=by simp[eU8]
 refine⟨h1,y,upg g q t,a1,a2,⟨?_,fun r hr=> ?_⟩,fun S hS=>Kpt.grown a5 hq hS⟩
 ·grind
 ·rw[a4] at hr;simp only[X8] at hr;rw[hr];exact upg_self _ _ _
theorem SlU.get{x:AV}{l:List Int}(H:SlU h x l){j:Int}(h0:0≤j)(hj:j<(l.length:Nat)):∃r v o,Ix h x 1 j (.ref r v o)∧Ld h r v o (.int .u8 (l.getD j.toNat 0)):=by
 have⟨r,v,h1,_,h2,_⟩:=SlA.ix H h0 hj;refine⟨r,v,_,h1, ?_⟩;have:=h2 0 (.int .u8 (l.getD j.toNat 0)) (by omega) (by
  have hlt:j.toNat<l.length:=by omega
  simp[eU8,X0g,X5 hlt,X6])
 omega
theorem SlU.cut{x:AV}{l:List Int}(H:SlU h x l){j:Int}(h0:0≤j)(hj:j≤(l.length:Nat))(hn:0<l.length):∃y,NC y∧Cut h x 1 j y∧SlU h y (l.take j.toNat)∧Y18 y=Y18 x:=by
 have⟨y,h1,h2,h3,h4⟩:=SlA.cut H h0 hj hn;refine⟨y,h1,h2, ?_,h4⟩;have e1:(l.take j.toNat).length=j.toNat:=by simp_all
 have e2:(eU8 l).take (j.toNat*1)=eU8 (l.take j.toNat):=by simp[eU8,List.map_take]
 grind
theorem TrP.app(H:TrP h g T xt X)(t:Tn)(x:AV)(hx:SlI h x t.ops)(hg:∀r∈Y18 x,g r=3)(hn:T.length≤1000000000):
  ∃h1 y g1,App h xt 70 4 48 1 (treeC t x) h1 y∧NC y∧oneA h1 y∧TrP h1 g1 (T++[t]) y (X++[x])∧(∀S:Nat→Prop,¬S 2→Kpt h g h1 g1 S):=by
 have⟨h1,y,q,a1,a2,a3,a4,a5,a6⟩:=SlA.app (bytes:=48) H.trs (treeC t x) rfl (by omega) (by omega);have hq:h.at q=none∨g q=2:=by
  rcases a6 with a6|a6
  ·exact .inr (H.gt q (by grind))
  simp_all
 have kp:∀S:Nat→Prop,¬S 2→Kpt h g h1 (upg g q 2) S:=fun S hS=>Kpt.grown a5 hq hS;refine⟨h1,y,upg g q 2,a1,a2,a3.one,⟨?_,fun r hr=> ?_,by simp[H.lX],fun i x' t' hi ht=> ?_⟩,kp⟩
 ·simp only[X4,Xc];rw[treesC_app _ _ _ _ H.lX];exact a3
 ·rw[a4] at hr;simp only[X8] at hr;rw[hr];exact upg_self _ _ _
 ·by_cases e:i<T.length
  ·rw[X0h (by rw[H.lX];exact e)] at hi;rw[X0h e] at ht;exact SlA.kpt (H.xs i x' t' hi ht) (kp (fun u=>u=3) (by omega)) rfl
  ·have e2:i=T.length:=by
    grind
   subst e2;rw[X09 (by rw[H.lX];exact Xk _),H.lX] at hi;rw[X09 (Xk _)] at ht;simp at hi ht;subst hi ht;exact SlA.kpt ⟨hx,hg⟩ (kp (fun u=>u=3) (by omega)) rfl
theorem FrP.reRow(H:FrP h g F f fr fv R ρ G)(a:Kpt h g h1 g1 fun t=>10≤t∧t<10+3*F.length)(hf:h1.at fr=some ⟨fv,true,63,7,rowsC F R++(row7 f' ρ'++G)⟩)(gf:g1 fr=1)(hr:RowOK h1 g1 F.length f' ρ'):FrP h1 g1 F f' fr fv R ρ' G:=
 ⟨hf,gf,H.lR,RowsOK.keep H.rows fun r hr h1 h2=>a r hr ⟨by omega,by omega⟩,hr⟩
theorem RowOK.kpt{i:Nat}(H:RowOK h g i f ρ)(a:Kpt h g h1 g1 fun t=>10+3*i≤t∧t<10+3*(i+1)):RowOK h1 g1 i f ρ:=RowOK.keep H fun r hr h1=>a r hr ⟨by omega,by omega⟩
theorem Y93{n:Int}(h1: -9223372036854775808≤n)(h2:n≤9223372036854775807):okA .i64 n:=⟨h1,h2⟩
end
theorem Y3g{P:Program}{f:FuncId}{args:List AV}{h:Hp}{Q:Hp→AV→Prop}(H:FnO P f args h Q (fun _ _=>False)):∃h' av,CallOK P f args h h' av∧Q h' av:=by
 rcases H with H|⟨_,_,_,H⟩
 ·exact H
 simp_all
end Go.Abs
