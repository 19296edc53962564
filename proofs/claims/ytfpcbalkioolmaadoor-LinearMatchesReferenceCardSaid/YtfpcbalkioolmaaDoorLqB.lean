/- Own work. -/
import Derived.Test.YtfpcbalkioolmaaDoorLqA
import Derived.Test.YtfpcbalkioolmaaDoorFmZ
set_option linter.unusedSimpArgs false
set_option linter.unusedVariables false
namespace Go.Proofs.YtfpcbalkioolmaaDoor
open Go.Abs
section
variable {t:List Int} {i:Int} {l:List Int} {c:Int}
def FolC (c:Int):Prop:=c≠24∧c≠6∧lfind c (Y8.take 10) 0<0
theorem folC_all:∀c∈[44,36,33,0,12,47,59,62,46,32,51,34,43,16,(50:Int)],FolC c:=by
 intro c hc;simp only[Xb,X04,or_false] at hc;rcases hc with h|h|h|h|h|h|h|h|h|h|h|h|h|h|h<;>subst h<;>exact⟨by decide,by decide,by decide⟩
end
def HD (ss:List Int) (p:Int):Prop:=∀o,ss.head? =some o→Y2k o<p
theorem qJ_stop{ss:List Int}{m:Int}(h:HD ss m)(ts:List Tr):qJ m ss ts=(ts,ss):=by
 cases ss with
 |nil=>rfl
 |cons o ss=>have:=h o rfl;rw[qJ,Vn]
theorem qJ_qJ{m m':Int}(h:m≤m'):∀(ss:List Int) (ts:List Tr),qJ m (qJ m' ss ts).2 (qJ m' ss ts).1=qJ m ss ts
 |[],ts=>rfl
 |o::ss,ts=>by
  by_cases h1:m'≤Y2k o
  ·rw[qJ,if_pos h1,qJ_qJ h ss,qJ,Vp]
  ·rw[qJ,if_neg h1]
theorem qJ_of{m m':Int}(h:m≤m'){ss ss':List Int}{ts ts':List Tr}(e:qJ m' ss ts=(ts',ss')):qJ m ss ts=qJ m ss' ts':=by
 rw[←qJ_qJ h ss ts,e]
theorem opn_hd:∀T:Tr,(hd T.flat).Op=opn T
 | .node n ks=>by rfl
theorem lprec_pr{o:Int}(h:2≤o∧o≤5):Y2k o=pr o:=by
 have:o=2∨o=3∨o=4∨o=5:=by omega
 rcases this with h|h|h|h<;>subst h<;>decide
theorem pr_rng(o:Int):1≤pr o∧pr o≤4:=by
 unfold pr;omega
theorem pr_four{o:Int}(h:¬(2≤o∧o≤5)):pr o=4:=by
 unfold pr;rw[Vn,Vn,Vn]
section
variable {t:List Int}
def RunP (t:List Int) (b:Bool) (q:Qs) (P:Qs→Prop):Prop:=∃r,Run t b q r∧P r
theorem run_f{q q':Qs}{r:Qs→Prop}{b:Bool}{i:Int}(hc:q.c=⟨i,false⟩)(hd:q.dn=false)(h:Yk t q=(b,q'))(R:RunP t b q' r):RunP t false q r:=by
 have⟨e,R,hp⟩:=R;refine⟨e,.step (by simp_all) ?_,hp⟩;show Run t (Yk t q).1 (Yk t q).2 e
 simp_all
theorem run_b{q q':Qs}{r:Qs→Prop}{b:Bool}{i:Int}(hc:q.c=⟨i,false⟩)(hd:q.dn=false)(h:Y0x t q=(b,q'))(R:RunP t b q' r):RunP t true q r:=by
 have⟨e,R,hp⟩:=R;refine⟨e,.step (by simp_all) ?_,hp⟩;show Run t (Y0x t q).1 (Y0x t q).2 e
 simp_all
theorem Y7o{q:Qs}{x:Tr}(h:qJ 0 q.f.ss q.f.ts=([x],[])):qOpI q=x:=by rw[qOpI,h];rfl
theorem clB_close{o:Int}(h:o=6∨o=9∨o=10∨o=11):clB o=Y1i o:=by
 rcases h with h|h|h|h<;>subst h<;>rfl
theorem close_fol{o:Int}:FolC (Y1i o)∧Y1i o≠16∧Y1i o≠44∧Y1i o≠36∧Y1i o≠33∧Y1i o≠0:=by
 have:Y1i o=47∨Y1i o=59∨Y1i o=62∨Y1i o=46∨Y1i o=34∨Y1i o=43:=by
  unfold Y1i;omega
 refine⟨folC_all _ (by simp only[Xb];omega),by omega,by omega,by omega,by omega,by omega⟩
end
section
variable {t:List Int}
theorem simO_eq{o:Int}(h:0≤o∧o≤13):simO o=Y2r o:=by
 have:o=0∨o=1∨o=2∨o=3∨o=4∨o=5∨o=6∨o=7∨o=8∨o=9∨o=10∨o=11∨o=12∨o=13:=by omega
 rcases this with h|h|h|h|h|h|h|h|h|h|h|h|h|h<;>subst h<;>decide
end
end Go.Proofs.YtfpcbalkioolmaaDoor
