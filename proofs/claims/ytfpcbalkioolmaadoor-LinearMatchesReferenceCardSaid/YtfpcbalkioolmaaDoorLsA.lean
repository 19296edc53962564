/- Own work. -/
import Derived.Test.YtfpcbalkioolmaaDoorLq7
set_option linter.unusedSimpArgs false
set_option linter.unusedVariables false
namespace Go.Proofs.YtfpcbalkioolmaaDoor
open Go.Abs
section
variable {t l:List Int} {u:Cu} {c:Int}
theorem lfind_some(c:Int):∀(l:List Int) (i:Int),lfind c l i= -1∨∃k:Nat,k<l.length∧lfind c l i=i+k∧l.getD k 0=c
 |[],i=>.inl rfl
 |x::l,i=>by
  rw[lfind]
  split
  ·grind
  ·rcases lfind_some c l (i+1) with h|⟨k,h1,h2,h3⟩
   ·omega
   ·exact .inr ⟨k+1,by grind,by omega,by simp_all⟩
theorem chr_some{n:Nat}(hn:n≤26)(h:¬chrI t n u<0):0≤chrI t n u∧chrI t n u<(n:Nat)∧u.wr=false∧u.at_<(t.length:Nat)∧cAt t u.at_=Y8.getD (chrI t n u).toNat 0:=by
 unfold chrI at h⊢
 split at h
 ·omega
 ·rename_i hh;rw[if_neg hh];simp only[not_or] at hh;rcases lfind_some (cAt t u.at_) (Y8.take n) 0 with h1|⟨k,h1,h2,h3⟩
  ·omega
  grind
end
theorem numT_gd{m:Int}(h:0≤m∧m≤99999):Gd (numT m):=Gd.leaf (by rw[ar,if_pos rfl,if_pos h])
section
variable {t l:List Int} {u:Cu}
end
def StI:List Tr→List Int→Prop
 |x::ts,o::ss=>Gd x∧(2≤o∧o≤5)∧Y2k o≤pr (opn x)∧HD ss (Y2k o)∧HD ss (pr (opn x))∧StI ts ss
 |[],[]=>True
 |_,_=>False
theorem bin_gd{o:Int}(ho:2≤o∧o≤5){a b:Tr}(ha:Gd a)(hb:Gd b)(h1:Y2k o≤pr (opn a))(h2:Y2k o<pr (opn b)):Gd (.node ⟨o,0⟩ [a,b]):=by
 rw[lprec_pr ho] at h1 h2;refine Gd.node ?_ (fun k hk=> ?_) (fun i k hk=> ?_)
 ·rw[ar,if_neg (by grind),if_neg (by grind),if_pos (by grind),if_pos rfl];rfl
 ·grind
 ·rw[adm,if_pos (by omega),opn_hd]
  match i,hk with
  |0,hk=>
   simp_all
  |1,hk=>
   simp_all
  |k+2,hk=>simp at hk
def mOk (f:Qf):Prop:=0≤f.cols∧f.cols≤4∧0≤f.rows∧f.rows≤3∧0≤f.ents∧(f.ops.length:Int)=f.rows*f.cols+f.ents∧(f.cols=0→f.rows=0∧f.ents≤3)∧(f.cols≠0→1≤f.rows∧f.ents+1≤f.cols)
def opOk (f:Qf):Prop:=f.op= -2∧f.ops=[]∨f.op=6∧f.ops.length≤1∨(f.op=7∨f.op=8)∧f.ops.length=1∨(f.op=9∨f.op=10∨f.op=11)∧f.ops=[]∨f.op=13∧mOk f
def FI:List Qf→Prop
 |[]=>False
 |[f]=>StI f.ts f.ss∧f.op= -1∧f.ops=[]
 |f::g::F=>StI f.ts f.ss∧(∀k∈f.ops,Gd k)∧opOk f∧FI (g::F)
def pushT (x:Tr) (g:Qf):Qf:={g with ts:=x::g.ts}
def bOk (b:Int) (x:Tr):Prop:=(b=0∧(opn x=7∨opn x=8))∨(b=1∧Y2r (opn x)=true)∨(b=2∧Y2r (opn x)=false)
section
variable {t:List Int} {q:Qs} {g:Qf} {x:Tr} {u:Cu}
theorem simple_rng{o:Int}(h:Y2r o=true):¬(2≤o∧o≤5):=by
 unfold Y2r at h
 grind
theorem StI.le3:∀{ts:List Tr} {ss:List Int},StI ts ss→HD ss 4
 |[],[],_=>fun o ho=>by cases ho
 |[],_::_,h=>h.elim
 |_::_,[],h=>h.elim
 |y::ts,o::ss,h=>fun o' ho'=>by
  simp only[List.head?_cons,X0] at ho';rw[←ho'];have h2:=h.2.1;unfold Y2k;omega
theorem FI.st{F:List Qf}(h:FI (g::F)):StI g.ts g.ss:=by
 cases F with
 |nil=>exact h.1
 |cons f F=>exact h.1
theorem Y7h{F:List Qf}(h:FI (g::F))(ho:g.op≠ -1):∃g' F',F=g'::F'∧(∀k∈g.ops,Gd k)∧opOk g∧FI (g'::F'):=by
 cases F with
 |nil=>exact absurd h.2.1 ho
 |cons g' F'=>exact⟨g',F',rfl,h.2.1,h.2.2.1,h.2.2.2⟩
end
section
variable {t:List Int} {q:Qs} {g:Qf} {x:Tr} {u:Cu}
theorem mat_len(m:mOk g)(hc:g.cols=0∨g.ents+1=g.cols):(g.ops.length:Int)+1=(g.rows+1)*(g.ents+1):=by
 have⟨m1,m2,m3,m4,m5,m6,m7,m8⟩:=m
 grind
end
end Go.Proofs.YtfpcbalkioolmaaDoor
