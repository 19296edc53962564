/- Own work. -/
import Derived.Test.YtfpcbalkioolmaaDoorLibG
import Derived.Test.YtfpcbalkioolmaaDoorW5
set_option linter.unusedSimpArgs false
set_option linter.unusedVariables false
namespace Go.Abs
theorem Y53{n:Int}{α:Type}{x:Option α}(h: -9223372036854775808≤n∧n≤9223372036854775807):G (inR n) x=x:=if_pos h
theorem G_room{b n:Nat}{α:Type}{x:Option α}(h:n*b≤140737488355328∧n≤140737488355328):G (room b n) x=x:=if_pos h
theorem inR_of{n:Int}(h: -9223372036854775808≤n∧n≤9223372036854775807):inR n:=h
theorem cond_pos{b:Bool}{α:Type}{x y:α}(h:b=true):cond b x y=x:=by rw[h];rfl
theorem cond_neg{b:Bool}{α:Type}{x y:α}(h:b=false):cond b x y=y:=by rw[h];rfl
theorem wrap_i64{n:Int}(h: -9223372036854775808≤n∧n≤9223372036854775807):IntKind.wrap .i64 n=n:=IntWalk.i64_in n h
theorem getD_drop{α:Type}(l:List α)(i:Nat)(d:α)(h:i<l.length):l.drop i=l.getD i d::l.drop (i+1):=by
  rw[X0c h];simp[X7,X2 h]
theorem Y6e{p:Prop}[Decidable p]{α:Type}{x y:α}(h:p):cond (decide p) x y=x:=by rw[decide_eq_true h];rfl
theorem Y5b{p:Prop}[Decidable p]{α:Type}{x y:α}(h:¬p):cond (decide p) x y=y:=by rw[decide_eq_false h];rfl
theorem Y47{α:Type}{a b:Int}{x y:α}(h:a=b):cond (a==b) x y=x:=by rw[beq_iff_eq.2 h];rfl
theorem Y48{α:Type}{a b:Int}{x y:α}(h:¬a=b):cond (a==b) x y=y:=by rw[beq_eq_false_iff_ne.2 h];rfl
theorem cn_neg{α:Type}{a b:Int}{x y:α}(h:a=b):cond (a !=b) x y=y:=by rw[h,bne_self_eq_false];rfl
theorem and_tt{a b:Bool}:cond a b false=(a&&b):=by cases a<;>rfl
def WP {α:Type} (t:Option α) (Q:α→Prop):Prop:=∃a,t=some a∧Q a
theorem WP.bind{α β:Type}{o:Option α}{a:α}{f:α→Option β}{Q:β→Prop}(h:o=Option.some a)(k:WP (f a) Q):WP (o.bind f) Q:=by
  rw[h];exact k
end Go.Abs
namespace Go.Proofs.YtfpcbalkioolmaaDoor
section
open Go.Abs
def ar (n:Y4):Option Nat:=
  if n.Op=0 then(if 0≤n.N∧n.N≤99999 then some 0 else none)
  else if n.Op=1 then(if 0≤n.N∧n.N≤25 then some 0 else none)
  else if 2≤n.Op∧n.Op≤8 then(if n.N=0 then some 2 else none)
  else if 9≤n.Op∧n.Op≤11 then(if n.N=0 then some 1 else none)
  else if n.Op=12 then(if 2≤n.N∧n.N≤5 then some (n.N.toNat+1) else none)
  else if n.Op=13 then(if 8≤n.N∧n.N<40∧1≤n.N%8∧n.N%8≤4 then some ((n.N/8*(n.N%8)).toNat) else none)
  else none
def pr (o:Int):Int:=if o=5 then 1 else if o=2∨o=3 then 2 else if o=4 then 3 else 4
def adm (n:Y4) (i:Nat) (m:Y4):Bool:=
  if 2≤n.Op∧n.Op≤5 then(if i=0 then decide (pr n.Op≤pr m.Op) else decide (pr n.Op<pr m.Op)) else if n.Op=12 then decide (m.Op=0) else true
def hd (l:List Y4):Y4:=l.getD 0 Yl
def IsTA (A:Y4→Nat→Y4→Bool):Nat→List Y4→Prop
  |0,_=>False
  |d+1,l=>∃(n:Y4) (ks:List (List Y4)),l=n::ks.flatten∧ar n=some ks.length∧(∀k∈ks,IsTA A d k)∧∀(i:Nat) (k:List Y4),ks[i]? =some k→A n i (hd k)=true
abbrev IsT:=IsTA adm
variable {A:Y4→Nat→Y4→Bool}
theorem IsTA.mono:∀{d:Nat} {t:List Y4},IsTA A d t→IsTA A (d+1) t
  |0,t,h=>h.elim
  |d+1,t,h=>by
    have⟨n,ks,h1,h2,h3,h4⟩:=h;exact⟨n,ks,h1,h2,fun k hk=>IsTA.mono (h3 k hk),h4⟩
theorem IsTA.le{d e:Nat}{t:List Y4}(h:IsTA A d t)(hde:d≤e):IsTA A e t:=by
  induction e with
  | zero => have:d=0:=by omega
            subst this;exact h
  |succ e ih=>
    by_cases he:d=e+1
    · subst he;exact h
    · exact(ih (by omega)).mono
theorem IsTA.pos{d:Nat}{t:List Y4}(h:IsTA A d t):0<t.length:=by
  cases d with
  |zero=>exact h.elim
  |succ d=>obtain⟨n,ks,rfl,_⟩:=h;simp
theorem IsT.le{d e:Nat}{t:List Y4}(h:IsT d t)(hde:d≤e):IsT e t:=IsTA.le h hde
theorem ar_cases{n:Y4}{k:Nat}(h:ar n=some k):n.Op=0∨n.Op=1∨n.Op=2∨n.Op=3∨n.Op=4∨n.Op=5∨n.Op=6∨n.Op=7∨n.Op=8∨n.Op=9∨n.Op=10∨n.Op=11∨n.Op=12∨n.Op=13:=by
  unfold ar at h
  repeat' split at h
  all_goals first
    |omega
    |cases h
theorem tdiv8{n:Int}(h:0≤n):Int.tdiv n 8=n/8:=Int.tdiv_eq_ediv_of_nonneg h
theorem tmod8{n:Int}(h:0≤n):Int.tmod n 8=n%8:=Int.tmod_eq_emod_of_nonneg h
theorem mat_mul{n:Int}(h:8≤n∧n<40∧1≤n%8∧n%8≤4):0≤n/8*(n%8)∧n/8*(n%8)≤16:=by
  have h1:n/8≤4:=by omega
  have h2:n%8≤4:=by omega
  have h3:0≤n/8:=by omega
  have h4:0≤n%8:=by omega
  have:=Int.mul_le_mul h1 h2 h4 (by omega:(0:Int)≤4);exact⟨Int.mul_nonneg h3 h4,by omega⟩
theorem ar_le {n : Y4} {k : Nat} (h : ar n = some k) : k ≤ 16 := by
  unfold ar at h
  repeat' split at h
  all_goals simp only [X0, reduceCtorEq] at h
  all_goals subst h
  all_goals first
    | omega
    | (rename_i hx
       have := mat_mul hx
       omega)
theorem R09_Arity_ok {n : Y4} {k : Nat} (h : ar n = some k) : Y4u n = some (k : Int) := by
  have hc := ar_cases h
  obtain ⟨o, N⟩ := n
  simp only at hc
  rcases hc with rfl | rfl | rfl | rfl | rfl | rfl | rfl | rfl | rfl | rfl | rfl | rfl | rfl | rfl
  all_goals first
    | (simp only [ar, Int.reduceEq, if_false, if_true, Int.reduceLE, and_true, true_and, and_self, and_false, false_and] at h
       split at h
       · rename_i hN
         simp only [X0] at h
         subst h
         first
           | (simp [Y4u, Y26, Y3m, hN]; done)
           | (have h3 : inR (N + 1) := inR_of (by omega)
              simp [Y4u, Y26, Y3m, hN, Y42 h3]; omega)
           | (have h0 : 0 ≤ N := by omega
              have hm := mat_mul hN
              have h3 : inR (N / 8) := inR_of (by omega)
              have h4 : inR (N / 8 * (N % 8)) := inR_of (by omega)
              have c1 : (0 : Int) < N := by omega
              have c2 : 1 ≤ N / 8 := by omega
              have c3 : N / 8 ≤ 4 := by omega
              simp [Y4u, Y26, Y3m, tdiv8 h0, tmod8 h0, Y42 h3, Y42 h4, c1, c2, c3, hN]
              exact (Int.max_eq_left hm.1).symm)
       · cases h)
theorem formula_arity_ok {n : Y4} {k : Nat} (h : ar n = some k) : Y3t n = some ((k : Int), true) := by
  have hc := ar_cases h
  obtain ⟨o, N⟩ := n
  simp only at hc
  rcases hc with rfl | rfl | rfl | rfl | rfl | rfl | rfl | rfl | rfl | rfl | rfl | rfl | rfl | rfl
  all_goals first
    | (simp only [ar, Int.reduceEq, if_false, if_true, Int.reduceLE, and_true, true_and, and_self, and_false, false_and] at h
       split at h
       · rename_i hN
         simp only [X0] at h
         subst h
         first
           | (simp [Y3t, Y0w, Y2d, hN]; done)
           | (have h3 : inR (N + 1) := inR_of (by omega)
              have c1 : ¬ N < 2 := by omega
              have c2 : ¬ 5 < N := by omega
              simp [Y3t, Y0w, Y2d, c1, c2, Y42 h3]; omega)
           | (have h0 : 0 ≤ N := by omega
              have hm := mat_mul hN
              have h3 : inR (N / 8) := inR_of (by omega)
              have h4 : inR (N / 8 * (N % 8)) := inR_of (by omega)
              have c1 : ¬ N < 0 := by omega
              have c2 : 1 ≤ N / 8 := by omega
              have c3 : N / 8 ≤ 4 := by omega
              simp [Y3t, Y0w, Y2d, tdiv8 h0, tmod8 h0, Y42 h3, Y42 h4, c1, c2, c3, hN]
              exact (Int.max_eq_left hm.1).symm)
       · cases h)
theorem R09_prec(o:Int):Y30 o=some (pr o):=by
  unfold Y30 Y3v Y4t pr
  by_cases h5:o=5
  · simp[h5]
  · by_cases h2:o=2
    · simp[h2]
    · by_cases h3:o=3
      · simp[h3]
      · have b5:(o==5)=false:=by simpa using h5
        have b2:(o==2)=false:=by simpa using h2
        have b3:(o==3)=false:=by simpa using h3
        by_cases h4:o=4
        · simp[h4]
        · have b4:(o==4)=false:=by simpa using h4
          simp[h5,h2,h3,h4,b5,b2,b3,b4]
theorem formula_prec(o:Int):Y1t o=some (pr o):=by
  unfold Y1t Y2x Y3i pr
  by_cases h5:o=5
  · simp[h5]
  · by_cases h2:o=2
    · simp[h2]
    · by_cases h3:o=3
      · simp[h3]
      · have b5:(o==5)=false:=by simpa using h5
        have b2:(o==2)=false:=by simpa using h2
        have b3:(o==3)=false:=by simpa using h3
        by_cases h4:o=4
        · simp[h4]
        · have b4:(o==4)=false:=by simpa using h4
          simp[h5,h2,h3,h4,b5,b2,b3,b4]
theorem formula_adm(n m:Y4)(i:Nat):Y50 n (i:Int) m=some (adm n i m):=by
  unfold Y50 Y2n Y4q adm;have hi:((i:Int)==0)=decide (i=0):=by
    rw[Bool.eq_iff_iff];simp
  simp only[formula_prec,X8,hi]
  by_cases h2:n.Op=2
  · by_cases h0:i=0<;>simp[h2,h0]
  · by_cases h3:n.Op=3
    · by_cases h0:i=0<;>simp[h3,h0]
    · by_cases h4:n.Op=4
      · by_cases h0:i=0<;>simp[h4,h0]
      · by_cases h5:n.Op=5
        · by_cases h0:i=0<;>simp[h5,h0]
        · have hn:¬(2≤n.Op∧n.Op≤5):=by omega
          by_cases h12:n.Op=12
          · simp[h12,Bool.beq_eq_decide_eq]
          · have b5:(n.Op==5)=false:=by simpa using h5
            have b2:(n.Op==2)=false:=by simpa using h2
            have b3:(n.Op==3)=false:=by simpa using h3
            have b4:(n.Op==4)=false:=by simpa using h4
            have b12:(n.Op==12)=false:=by simpa using h12
            simp[h12,hn,b2,b3,b4,b5,b12]
theorem getD_mid(pre post:List Y4)(n:Y4):(pre++n::post).getD pre.length Yl=n:=by simp[List.getD]
def endB (f:List Y4):(Int×Int→Option Int)→Int×Int→Option Int:=fun loop s=>Y6d f loop s.1 s.2
theorem end_step{f pre post:List Y4}{n:Y4}{k:Nat}(hf:f=pre++n::post)(hl:f.length≤100000)(ha:ar n=some k){o:Nat}(h0:0<o)(h1:o≤4000000)(loop:Int×Int→Option Int):
    endB f loop ((pre.length:Int),(o:Int))=loop (((pre.length+1:Nat):Int),((o+k-1:Nat):Int)):=by
  have hlt:pre.length<f.length:=by rw[hf];simp
  have hg:f.getD pre.length Yl=n:=by rw[hf];exact getD_mid _ _ _
  have hk:=ar_le ha;unfold endB Y6d;have c1:decide ((0:Int)<(o:Int))=true:=by simpa using h0
  have c2:decide ((pre.length:Int)<0)=false:=by simp
  have c3:decide ((f.length:Int)≤(pre.length:Int))=false:=by simp;omega
  have c4:decide ((k:Int)<0)=false:=by simp
  have hb:(0:Int)≤(pre.length:Int)∧(pre.length:Int)<(f.length:Int):=by omega
  have g1:inR ((k:Int)-1):=inR_of (by omega);have g2:inR ((o:Int)+((k:Int)-1)):=inR_of (by omega);have g3:inR ((pre.length:Int)+1):=inR_of (by omega);simp only[c1,cond_true,c2,cond_false,c3,X12,X02,hg,R09_Arity_ok ha,X8,c4,Y42 hb,Y42 g1,Y42 g2,Y42 g3];rw[Y42 (fun _=>hb)];have e1:(o:Int)+((k:Int)-1)=((o+k-1:Nat):Int):=by omega
  rw[e1]
  rfl
theorem end_run(f:List Y4)(hl:f.length≤100000):∀(d:Nat) (t pre post:List Y4) (o:Nat),IsTA A d t→f=pre++t++post→0<o→o+16*t.length≤4000000→∀m,iter (endB f) (m+t.length) ((pre.length:Int),(o:Int))=iter (endB f) m (((pre.length+t.length:Nat):Int),((o-1:Nat):Int))
  |0,_,_,_,_,h,_,_,_=>h.elim
  |d+1,t,pre,post,o,h,hf,h0,h1=>by
    intro m;obtain⟨n,ks,rfl,ha,hks,_⟩:=h;have hf':f=pre++n::(ks.flatten++post):=by rw[hf];simp
    have hlen:(n::ks.flatten).length=ks.flatten.length+1:=by simp
    rw[hlen,show m+(ks.flatten.length+1)=(m+ks.flatten.length)+1 by omega,Y1v,end_step hf' hl ha h0 (by omega)];have kids:∀(ks:List (List Y4)) (pre post:List Y4) (o:Nat),(∀k∈ks,IsTA A d k)→f=pre++(ks.flatten++post)→ks.length≤o→o+16*ks.flatten.length≤4000000→∀m,iter (endB f) (m+ks.flatten.length) ((pre.length:Int),(o:Int))=iter (endB f) m (((pre.length+ks.flatten.length:Nat):Int),((o-ks.length:Nat):Int)):=by
      intro ks
      induction ks with
      |nil=>intro pre post o _ _ _ _ m;simp
      |cons k ks ih=>
        intro pre post o hk hf ho h1 m;simp only[Xa,X13,X5] at ho h1⊢;have e1:=end_run f hl d k pre (ks.flatten++post) o (hk k (by simp)) (by rw[hf];simp) (by omega) (by omega) (m+ks.flatten.length);rw[show m+(k.length+ks.flatten.length)=m+ks.flatten.length+k.length by omega,e1];have e2:=ih (pre++k) post (o-1) (fun q hq=>hk q (by simp[hq])) (by rw[hf];simp) (by omega) (by omega) m;simp only[X5] at e2;rw[e2,show pre.length+k.length+ks.flatten.length=pre.length+(k.length+ks.flatten.length) by omega,show o-1-ks.length=o-(ks.length+1) by omega]
    have hk:=ar_le ha;have e3:=kids ks (pre++[n]) post (o+ks.length-1) hks (by rw[hf'];simp) (by omega) (by omega) m;simp only[X5,Xk] at e3;rw[e3,show pre.length+1+ks.flatten.length=pre.length+(ks.flatten.length+1) by omega,show o+ks.length-1-ks.length=o-1 by omega]
theorem End_ok{f pre t post:List Y4}{d:Nat}(ht:IsTA A d t)(hf:f=pre++t++post)(hl:f.length≤100000):f_R09_End f (pre.length:Int)=some ((pre.length+t.length:Nat):Int):=by
  have hle:t.length≤f.length:=by rw[hf];simp;omega
  have e:=end_run f hl d t pre post 1 ht hf (by omega) (by omega) (999999-t.length+1);unfold f_R09_End;have e2:999999-t.length+1+t.length=1000000:=by omega
  rw[e2] at e;refine Eq.trans e ?_;rw[Y1v];unfold endB Y6d;simp
end
section
open Go.Abs
variable {A:Y4→Nat→Y4→Bool}
theorem tmod_n{v:Int}(h:0≤v)(n:Int):Int.tmod v n=v%n:=Int.tmod_eq_emod_of_nonneg h
def offs:Nat→List (List Y4)→List Int
  |_,[]=>[]
  |p,k::ks=>(p:Int)::offs (p+k.length) ks
theorem offs_len:∀(ks:List (List Y4)) (p:Nat),(offs p ks).length=ks.length
  |[],_=>rfl
  |k::ks,p=>by simp[offs,offs_len ks]
theorem offs_app:∀(ks ls:List (List Y4)) (p:Nat),offs p (ks++ls)=offs p ks++offs (p+ks.flatten.length) ls
  |[],ls,p=>by simp[offs]
  |k::ks,ls,p=>by simp[offs,offs_app ks ls,X0s]
theorem offs_get:∀(ks:List (List Y4)) (p i:Nat),i<ks.length→(offs p ks).getD i 0=((p+(ks.take i).flatten.length:Nat):Int)
  |[],p,i,h=>by simp at h
  |k::ks,p,0,h=>by simp[offs]
  |k::ks,p,i+1,h=>by
    simp only[offs,List.getD_cons_succ];rw[offs_get ks _ i (by simpa using h)];simp[X0s]
def opB (f:List Y4) (i:Int):(List Int×Int×Int→Option (List Int))→List Int×Int×Int→Option (List Int):=fun loop s=>Y33 f i loop s.1 s.2.1 s.2.2
theorem op_run{f pre post:List Y4}{n:Y4}{ks:List (List Y4)}{d:Nat}(hf:f=pre++(n::ks.flatten)++post)(hl:f.length≤100000)(ha:ar n=some ks.length)(hks:∀k∈ks,IsTA A d k):
    ∀(ls done:List (List Y4)) (m:Nat),ks=done++ls→iter (opB f (pre.length:Int)) (m+1+ls.length) (offs (pre.length+1) done,((pre.length+1+done.flatten.length:Nat):Int),(done.length:Int))=some (offs (pre.length+1) ks):=by
  have hlt:pre.length<f.length:=by rw[hf];simp
  have hg:f.getD pre.length Yl=n:=by rw[hf,Xf];exact getD_mid _ _ _
  have hb:(0:Int)≤(pre.length:Int)∧(pre.length:Int)<(f.length:Int):=by omega
  intro ls
  induction ls with
  |nil=>
    intro done m he;have hd:done=ks:=by simpa using he.symm
    subst hd;rw[show m+1+([]:List (List Y4)).length=m+1 by simp,Y1v];unfold opB Y33;simp only[Y42 hb,X02,hg,R09_Arity_ok ha,X8];rw[Y5b (by omega)]
  |cons k ls ih=>
    intro done m he;rw[show m+1+(k::ls).length=(m+1+ls.length)+1 by simp;omega,Y1v];have hkl:ks.length=done.length+(ls.length+1):=by rw[he];simp
    have h16:=ar_le ha;have hf2:f=(pre++n::done.flatten)++k++(ls.flatten++post):=by rw[hf,he];simp
    have hE:=End_ok (hks k (by rw[he];simp)) hf2 hl;have hpl:(pre++n::done.flatten).length=pre.length+1+done.flatten.length:=by simp;omega
    rw[hpl] at hE;have e:opB f (pre.length:Int) (iter (opB f (pre.length:Int)) (m+1+ls.length)) (offs (pre.length+1) done,((pre.length+1+done.flatten.length:Nat):Int),(done.length:Int))=
        iter (opB f (pre.length:Int)) (m+1+ls.length) (offs (pre.length+1) done++[((pre.length+1+done.flatten.length:Nat):Int)],((pre.length+1+done.flatten.length+k.length:Nat):Int),(done.length:Int)+1):=by
      show Y33 _ _ _ _ _ _=_;unfold Y33;simp only[Y42 hb,X02,hg,R09_Arity_ok ha,X8];rw[Y6e (by omega),G_room (by rw[offs_len];omega),hE,X8,Y53 (by omega)]
    rw[e];have e2:=ih (done++[k]) m (by rw[he];simp);rw[offs_app,show offs (pre.length+1+done.flatten.length) [k]=[((pre.length+1+done.flatten.length:Nat):Int)] from rfl] at e2;rw[←e2];congr 3
    · simp[X0s]
    · simp
theorem Operands_ok{f pre post:List Y4}{n:Y4}{ks:List (List Y4)}{d:Nat}(hf:f=pre++(n::ks.flatten)++post)(hl:f.length≤100000)(ha:ar n=some ks.length)(hks:∀k∈ks,IsTA A d k):
    Y55 f (pre.length:Int)=some (offs (pre.length+1) ks):=by
  have hlt:pre.length<f.length:=by rw[hf];simp
  have h16:=ar_le ha;unfold Y55;rw[Y53 (by omega)];have e:=op_run hf hl ha hks ks [] (999999-ks.length) rfl;rw[show 999999-ks.length+1+ks.length=1000000 by omega] at e;have e0:(pre.length:Int)+1=((pre.length+1+([]:List (List Y4)).flatten.length:Nat):Int):=by simp
  rw[e0];exact e
theorem hd_at{f pre k post:List Y4}{d:Nat}(hk:IsTA A d k)(hf:f=pre++k++post):f.getD pre.length Yl=hd k∧pre.length<f.length:=by
  have:=hk.pos;cases k with
  |nil=>simp at this
  |cons x k=>
    subst hf;refine⟨?_,by simp⟩;rw[Xf];exact getD_mid _ _ _
theorem kid_at{f pre post:List Y4}{n:Y4}{ks:List (List Y4)}{d:Nat}(hf:f=pre++(n::ks.flatten)++post)(hks:∀k∈ks,IsTA A d k){i:Nat}{k:List Y4}(hk:ks[i]? =some k):
    f=(pre++n::(ks.take i).flatten)++k++((ks.drop (i+1)).flatten++post)∧(pre++n::(ks.take i).flatten).length=pre.length+1+(ks.take i).flatten.length∧f.getD (pre.length+1+(ks.take i).flatten.length) Yl=hd k∧pre.length+1+(ks.take i).flatten.length<f.length:=by
  have hi:=(Xp.1 hk).1;have hke:=(Xp.1 hk).2;have hsp:ks=ks.take i++k::ks.drop (i+1):=by
    rw[←hke,List.getElem_cons_drop,X0z]
  have h1:f=(pre++n::(ks.take i).flatten)++k++((ks.drop (i+1)).flatten++post):=by
    have:ks.flatten=(ks.take i).flatten++(k++(ks.drop (i+1)).flatten):=by
      conv=>lhs;rw[hsp]
      simp
    rw[hf,this];simp
  have h2:(pre++n::(ks.take i).flatten).length=pre.length+1+(ks.take i).flatten.length:=by simp;omega
  have h3:=hd_at (hks k (X0l hk)) h1;rw[h2] at h3;exact⟨h1,h2,h3.1,h3.2⟩
def sdB (f:List Y4) (l:List Int):(Int→Option Bool)→Int→Option Bool:=fun loop s=>Y4c f l loop s
theorem sound_ok{f pre post:List Y4}{n:Y4}{ks:List (List Y4)}{d:Nat}(hf:f=pre++(n::ks.flatten)++post)(hl:f.length≤100000)(ha:ar n=some ks.length)(hks:∀k∈ks,IsTA A d k)
    (had:∀(i:Nat) (k:List Y4),ks[i]? =some k→adm n i (hd k)=true):f_R09_sound f (pre.length:Int)=some true:=by
  have hlt:pre.length<f.length:=by rw[hf];simp
  have hg:f.getD pre.length Yl=n:=by rw[hf,Xf];exact getD_mid _ _ _
  have hb:(0:Int)≤(pre.length:Int)∧(pre.length:Int)<(f.length:Int):=by omega
  have h16:=ar_le ha;have two:2≤n.Op→n.Op≤5→Y34 f (pre.length:Int) (offs (pre.length+1) ks) true=some true:=by
    intro h2 h5;have hk2:ks.length=2:=by
      unfold ar at ha;rw[Vn,Vn,Vp] at ha
      split at ha
      · simpa using ha.symm
      · cases ha
    match hks2:ks,hk2 with
    |[a,b],_=>
      have k0:=kid_at (i:=0) (k:=a) hf hks rfl;have k1:=kid_at (i:=1) (k:=b) hf hks rfl;have a0:=had 0 a rfl;have a1:=had 1 b rfl;unfold adm at a0 a1;rw[if_pos ⟨h2,h5⟩] at a0 a1;simp only[if_true,Nat.succ_ne_zero,if_false,decide_eq_true_eq] at a0 a1;simp only[List.take_zero,List.flatten_nil,Xj,X0m,X0e,X13,X5] at k0 k1;unfold Y34;simp only[cond_true,X02,hg,R09_prec,X8,offs,Xa,Xj,Int.toNat_zero,X15];rw[Y42 (by omega),Y42 (by omega),k0.2.2.1];have c1:decide (pr n.Op≤pr (hd a).Op)=true:=by simpa using a0
      rw[c1];have e1:([((pre.length+1:Nat):Int),((pre.length+1+a.length:Nat):Int)]:List Int).getD (1:Int).toNat 0=((pre.length+1+a.length:Nat):Int):=rfl;rw[e1];rw[Y42 (fun _=>by omega),Y42 (fun _=>by omega)];simp only[cond_true,X02,k1.2.2.1,X8,X0,decide_eq_true_eq];exact a1
  unfold f_R09_sound;rw[Operands_ok hf hl ha hks,X8,Y42 hb];simp only[X02,hg]
  by_cases h2:n.Op=2
  · rw[Y47 h2,beq_iff_eq.2 h2];exact two (by omega) (by omega)
  · rw[Y48 h2]
    by_cases h3:n.Op=3
    · rw[Y47 h3,beq_iff_eq.2 h3];exact two (by omega) (by omega)
    · rw[Y48 h3]
      by_cases h4:n.Op=4
      · rw[Y47 h4,beq_iff_eq.2 h4];exact two (by omega) (by omega)
      · rw[Y48 h4]
        by_cases h5:n.Op=5
        · rw[beq_iff_eq.2 h5];exact two (by omega) (by omega)
        · rw[beq_eq_false_iff_ne.2 h5];unfold Y34;simp only[cond_false,X02,hg]
          by_cases h12:n.Op=12
          · rw[Y47 h12];have run:∀(j i m:Nat),i+j=ks.length→iter (sdB f (offs (pre.length+1) ks)) (m+1+j) (i:Int)=some true:=by
              intro j
              induction j with
              |zero=>
                intro i m hi;rw[X0m,Y1v];unfold sdB Y4c Y5z;rw[Y5b (by rw[offs_len];omega)]
              |succ j ih=>
                intro i m hi;rw[show m+1+(j+1)=(m+1+j)+1 by omega,Y1v];have hik:i<ks.length:=by omega
                have kk:=kid_at (i:=i) (k:=ks[i]) hf hks (X2 hik);have aa:=had i _ (X2 hik);unfold adm at aa;rw[Vn,if_pos h12] at aa;have aa':(hd ks[i]).Op=0:=by simpa using aa
                have e:sdB f (offs (pre.length+1) ks) (iter (sdB f (offs (pre.length+1) ks)) (m+1+j)) (i:Int)=iter (sdB f (offs (pre.length+1) ks)) (m+1+j) ((i+1:Nat):Int):=by
                  show Y4c _ _ _ _=_;unfold Y4c;simp only[X02,offs_get ks _ i hik];rw[Y6e (by rw[offs_len];omega),Y42 (by rw[offs_len];omega),Y42 (by omega),kk.2.2.1,cn_neg aa',Y53 (by omega)]
                  rfl
                rw[e];exact ih (i+1) m (by omega)
            have e:=run ks.length 0 (999999-ks.length) (by omega);rw[show 999999-ks.length+1+ks.length=1000000 by omega] at e;exact e
          · rw[Y48 h12];rfl
theorem sub_at:∀(d:Nat) (t:List Y4) (i:Nat),IsTA A d t→i<t.length→∃(pre:List Y4) (n:Y4) (ks:List (List Y4)) (post:List Y4) (e:Nat),t=pre++(n::ks.flatten)++post∧pre.length=i∧ar n=some ks.length∧(∀k∈ks,IsTA A e k)∧∀(j:Nat) (k:List Y4),ks[j]? =some k→A n j (hd k)=true
  |0,_,_,h,_=>h.elim
  |d+1,t,i,h,hi=>by
    obtain⟨n,ks,rfl,h2,h3,h4⟩:=h;cases i with
    |zero=>exact⟨[],n,ks,[],d,by simp,rfl,h2,h3,h4⟩
    |succ i=>
      have kids:∀(ls:List (List Y4)) (i:Nat),(∀k∈ls,IsTA A d k)→i<ls.flatten.length→∃(pre:List Y4) (n:Y4) (ks:List (List Y4)) (post:List Y4) (e:Nat),ls.flatten=pre++(n::ks.flatten)++post∧pre.length=i∧ar n=some ks.length∧(∀k∈ks,IsTA A e k)∧∀(j:Nat) (k:List Y4),ks[j]? =some k→A n j (hd k)=true:=by
        intro ls
        induction ls with
        |nil=>intro i _ hi;simp at hi
        |cons l ls ih=>
          intro i hk hi
          by_cases hil:i<l.length
          · have⟨pre,n,ks,post,e,h1,h5,h6⟩:=sub_at d l i (hk l (by simp)) hil;exact⟨pre,n,ks,post++ls.flatten,e,by rw[X13,h1];simp,h5,h6⟩
          · have⟨pre,n,ks,post,e,h1,h5,h6⟩:=ih (i-l.length) (fun k hk'=>hk k (by simp[hk'])) (by simp only[X13,X5] at hi;omega);exact⟨l++pre,n,ks,post,e,by rw[X13,h1];simp,by simp only[X5];omega,h6⟩
      have⟨pre,n',ks',post,e,h1,h5,h6⟩:=kids ks i h3 (by simpa using hi);exact⟨n::pre,n',ks',post,e,by rw[h1];simp,by simp[h5],h6⟩
def trB (f:List Y4):(Int→Option Bool)→Int→Option Bool:=fun loop s=>Y4r f loop s
theorem Tree_ok{f:List Y4}{d:Nat}(ht:IsT d f)(hl:f.length≤200):f_R09_Tree f=some true:=by
  have hp:=ht.pos;unfold f_R09_Tree;have hE:=End_ok (f:=f) (pre:=[]) (post:=[]) ht (by simp) (by omega);simp only[Xj,X03] at hE;have c1:((f.length:Int)==0)=false:=by rw[beq_eq_false_iff_ne];omega
  have c2:decide ((200:Int)<(f.length:Int))=false:=by rw[decide_eq_false_iff_not];omega
  have hE':f_R09_End f 0=some (f.length:Int):=hE;simp only[c1,c2,cond_false,X12,cond_true,hE',X8,bne_self_eq_false];have run:∀(j i m:Nat),i+j=f.length→iter (trB f) (m+1+j) (i:Int)=some true:=by
    intro j
    induction j with
    |zero=>
      intro i m hi;rw[X0m,Y1v];unfold trB Y4r;rw[Y5b (by omega)]
    |succ j ih=>
      intro i m hi;rw[show m+1+(j+1)=(m+1+j)+1 by omega,Y1v];have⟨pre,n,ks,post,e,h1,h2,h3,h4,h5⟩:=sub_at d f i ht (by omega);have hs:=sound_ok h1 (by omega) h3 h4 h5;rw[h2] at hs;have e:trB f (iter (trB f) (m+1+j)) (i:Int)=iter (trB f) (m+1+j) ((i+1:Nat):Int):=by
        show Y4r _ _ _=_;unfold Y4r;rw[Y6e (by omega),hs,X8,Bool.not_true,cond_false,Y53 (by omega)]
        rfl
      rw[e];exact ih (i+1) m (by omega)
  have e:=run f.length 0 (999999-f.length) (by omega);rw[show 999999-f.length+1+f.length=1000000 by omega] at e;exact e
def dpB (f:List Y4) (l:List Int) (rc:List Y4→Int→Option Int):(Int×Int→Option Int)→Int×Int→Option Int:=fun loop s=>Y23 rc f l loop s.1 s.2
theorem depth_ok{f:List Y4}(hl:f.length≤100000):∀(d:Nat) (t pre post:List Y4) (m:Nat),d≤100→IsTA A d t→f=pre++t++post→∃v:Nat,1≤v∧v≤d∧IsTA A v t∧Y2j (m+d) f (pre.length:Int)=some (v:Int)
  |0,_,_,_,_,_,h,_=>h.elim
  |d+1,t,pre,post,m,h100,h,hf=>by
    obtain⟨n,ks,rfl,ha,hks,had⟩:=h;rw[show m+(d+1)=(m+d)+1 by omega,Y2j];unfold Y64;rw[Operands_ok hf hl ha hks,X8];have h16:=ar_le ha;have run:∀(j i q v:Nat),i+j=ks.length→v≤d→(∀k∈ks.take i,IsTA A v k)→∃r:Nat,r≤d∧(∀k∈ks,IsTA A r k)∧iter (dpB f (offs (pre.length+1) ks) (Y2j (m+d))) (q+1+j) ((v:Int),(i:Int))=some ((r+1:Nat):Int):=by
      intro j
      induction j with
      |zero=>
        intro i q v hi hv hk;refine⟨v,hv,by rwa[Xy (by omega)] at hk, ?_⟩;rw[X0m,Y1v];show Y23 _ f _ _ (v:Int) (i:Int)=_;unfold Y23;rw[Y5b (by rw[offs_len];omega),Y53 (by omega)]
        rfl
      |succ j ih=>
        intro i q v hi hv hk;rw[show q+1+(j+1)=(q+1+j)+1 by omega,Y1v];have hik:i<ks.length:=by omega
        have kk:=kid_at (i:=i) (k:=ks[i]) hf hks (X2 hik);have⟨u,u1,u2,u4,u3⟩:=depth_ok hl d ks[i] _ _ m (by omega) (hks _ (List.getElem_mem hik)) kk.1;rw[kk.2.1] at u3;have e:dpB f (offs (pre.length+1) ks) (Y2j (m+d)) (iter (dpB f (offs (pre.length+1) ks) (Y2j (m+d))) (q+1+j)) ((v:Int),(i:Int))=iter (dpB f (offs (pre.length+1) ks) (Y2j (m+d))) (q+1+j) (((max v u:Nat):Int),((i+1:Nat):Int)):=by
          show Y23 _ _ _ _ _ _=_;unfold Y23;simp only[X02,offs_get ks _ i hik];rw[Y6e (by rw[offs_len];omega),Y42 (by rw[offs_len];omega),u3,X8,Y53 (by omega)];have e0:(if(u:Int)>(v:Int) then(u:Int) else(v:Int))=((max v u:Nat):Int):=by split<;>omega
          rw[e0]
          rfl
        rw[e];refine ih (i+1) q _ (by omega) (by omega) (fun k hk'=> ?_);rw[List.take_succ_eq_append_getElem hik] at hk';rcases Xs.1 hk' with h|h
        · exact(hk k h).le (by omega)
        · have:k=ks[i]:=by simpa using h
          rw[this];exact u4.le (by omega)
    have⟨r,r2,r4,r3⟩:=run ks.length 0 (999999-ks.length) 0 (by omega) (by omega) (fun k hk=>by simp at hk);rw[show 999999-ks.length+1+ks.length=1000000 by omega] at r3;exact⟨r+1,by omega,by omega,⟨n,ks,rfl,ha,r4,had⟩,r3⟩
theorem R09_Valid_ok{f:List Y4}{d:Nat}(ht:IsT d f)(hd:d≤8)(hl:f.length≤100000):f_R09_Valid f=some (decide (f.length≤60)):=by
  unfold f_R09_Valid
  by_cases h:f.length≤60
  · rw[Y6e (by omega),Tree_ok ht (by omega),X8];have⟨v,v1,v2,_,v3⟩:=depth_ok hl d f [] [] (1000000-d) (by omega) ht (by simp);rw[show 1000000-d+d=1000000 by omega] at v3;have hD:f_R09_Depth f=some (v:Int):=by
      unfold f_R09_Depth f_R09_depth;have v3':Y2j 1000000 f 0=some (v:Int):=v3;rw[v3',X8]
    rw[Y6e (by omega),cond_true,hD,X8,decide_eq_true h,show decide ((v:Int)≤8)=true by rw[decide_eq_true_iff];omega]
    rfl
  · rw[Y5b (by omega),X8,Y5b (by omega),cond_false,X8,decide_eq_false h]
    rfl
def meB (f:List Y4) (i:Int) (x:Int×Bool) (rc:List Y4→Int→Option (Int×Int×Bool)):(Int×Int×Int→Option (Int×Int×Bool))→Int×Int×Int→Option (Int×Int×Bool):=fun loop s=>Y0t rc f i x loop s.1 s.2.1 s.2.2
theorem measure_ok{f:List Y4}(hl:f.length≤100000):∀(d:Nat) (t pre post:List Y4) (m:Nat),d≤100→IsT d t→f=pre++t++post→∃v:Int,1≤v∧v≤d∧Y10 (m+d) f (pre.length:Int)=some (((pre.length+t.length:Nat):Int),v,true):=by
  intro d
  induction d with
  |zero=>intro _ _ _ _ _ h _;exact h.elim
  |succ d measure_ok=>
    intro t pre post m h100 h hf;obtain⟨n,ks,rfl,ha,hks,had⟩:=h;have hlt:pre.length<f.length:=by rw[hf];simp
    have hg:f.getD pre.length Yl=n:=by rw[hf,Xf];exact getD_mid _ _ _
    have h16:=ar_le ha;rw[show m+(d+1)=(m+d)+1 by omega,Y10];unfold Y40;rw[Y5b (by omega),Y42 (by omega)];rw[X02,hg,formula_arity_ok ha,X8,show(!((ks.length:Int),true).2)=false from rfl,cond_false];rw[Y53 (by omega)];have run:∀(j i q:Nat) (v:Int),i+j=ks.length→1≤v→v≤((d+1:Nat):Int)→∃r:Int,1≤r∧r≤((d+1:Nat):Int)∧iter (meB f (pre.length:Int) ((ks.length:Int),true) (Y10 (m+d))) (q+1+j) (((pre.length+1+(ks.take i).flatten.length:Nat):Int),v,(i:Int))=
        some (((pre.length+1+ks.flatten.length:Nat):Int),r,true):=by
      intro j
      induction j with
      |zero=>
        intro i q v hi h0 hv;refine⟨v,by omega,by omega, ?_⟩;rw[X0m,Y1v];show Y0t _ _ _ _ _ _ _ _=_;unfold Y0t;rw[Y5b (by simp only;omega),Xy (by omega)]
      |succ j ih=>
        intro i q v hi h0 hv;rw[show q+1+(j+1)=(q+1+j)+1 by omega,Y1v];have hik:i<ks.length:=by omega
        have kk:=kid_at (i:=i) (k:=ks[i]) hf hks (X2 hik);have aa:=had i _ (X2 hik);have⟨u,u1,u2,u3⟩:=measure_ok ks[i] _ _ m (by omega) (hks _ (List.getElem_mem hik)) kk.1;rw[kk.2.1] at u3;have htk:(ks.take (i+1)).flatten.length=(ks.take i).flatten.length+ks[i].length:=by
          rw[List.take_succ_eq_append_getElem hik];simp only[List.flatten_append,X13,List.flatten_nil,X1b,X5]
        have e:meB f (pre.length:Int) ((ks.length:Int),true) (Y10 (m+d)) (iter (meB f (pre.length:Int) ((ks.length:Int),true) (Y10 (m+d))) (q+1+j)) (((pre.length+1+(ks.take i).flatten.length:Nat):Int),v,(i:Int))=
            iter (meB f (pre.length:Int) ((ks.length:Int),true) (Y10 (m+d))) (q+1+j) (((pre.length+1+(ks.take (i+1)).flatten.length:Nat):Int),(if u+1>v then u+1 else v),((i+1:Nat):Int)):=by
          show Y0t _ _ _ _ _ _ _ _=_;unfold Y0t;have c1:decide ((f.length:Int)≤((pre.length+1+(ks.take i).flatten.length:Nat):Int))=false:=by rw[decide_eq_false_iff_not];omega
          simp only[c1,X12,cond_true,cond_false,X02,hg,kk.2.2.1,formula_adm,aa,X8,Bool.not_true,u3];rw[Y6e (by omega),Y42 (fun _=>by omega),Y53 (by omega),Y53 (by omega),htk];congr 3;omega
        rw[e];exact ih (i+1) q _ (by omega) (by split<;>omega) (by split<;>omega)
    have⟨r,r1,r2,r3⟩:=run ks.length 0 (999999-ks.length) 1 (by omega) (by omega) (by omega);rw[show 999999-ks.length+1+ks.length=1000000 by omega] at r3;refine⟨r,r1,r2, ?_⟩;have e0:(pre.length:Int)+1=((pre.length+1+(ks.take 0).flatten.length:Nat):Int):=by simp
    rw[e0,show pre.length+(n::ks.flatten).length=pre.length+1+ks.flatten.length by simp;omega];exact r3
theorem formula_Valid_ok{f:List Y4}{d:Nat}(ht:IsT d f)(hd:d≤8)(hl:f.length≤60):Y5j f=some true:=by
  have⟨v,v1,v2,v3⟩:=measure_ok (f:=f) (by omega) d f [] [] (1000000-d) (by omega) ht (by simp);rw[show 1000000-d+d=1000000 by omega] at v3;have v3':Y5r f 0=some ((f.length:Int),v,true):=by
    unfold Y5r;simpa using v3
  unfold Y5j f_formula_Depth;rw[Y5b (by omega),v3',X8];simp only[Bool.not_true,cond_false,X12,cond_true,bne_self_eq_false];rw[Y5b (by omega),X8];rw[show decide ((0:Int)<v)=true by rw[decide_eq_true_iff];omega]
end
open Go.Abs
def OkM (s:Yb):Prop:=(∀i:Nat,0≤s.B.getD i 0∧s.B.getD i 0≤255)∧s.B.length≤40∧0≤s.At∧s.At≤s.B.length
theorem take_ok{s:Yb}(h:OkM s):∃(v:Int) (s':Yb),Y1c s=some (v,s')∧0≤v∧v≤255∧OkM s':=by
  have⟨h1,h2,h3,h4⟩:=h;unfold Y1c
  by_cases hc:(s.B.length:Int)≤s.At
  · exact⟨0,s,by rw[Y6e hc],by omega,by omega,h1,h2,h3,h4⟩
  · have hb:=h1 ((s.At+1)-1).toNat;refine⟨_,⟨s.B,s.At+1⟩,by rw[Y5b hc,Y53 (by omega),Y53 (by omega),Y42 (by omega),wrap_i64 (by omega)],hb.1,hb.2,h1,h2,by simp only;omega,by simp only;omega⟩
theorem number_ok{s:Yb}(h:OkM s):∃(n:Y4) (s':Yb),Y2e s=some ([n],s')∧n.Op=0∧0≤n.N∧n.N≤99999∧OkM s':=by
  have⟨v,s1,e1,v0,v1,h1⟩:=take_ok h;have⟨w,s2,e2,w0,w1,h2⟩:=take_ok h1;have hm:0≤w%3∧w%3≤2:=by omega
  have hp:0≤v*(1+w%3)∧v*(1+w%3)≤255*3:=⟨Int.mul_nonneg v0 (by omega),Int.mul_le_mul v1 (by omega) (by omega) (by omega)⟩;refine⟨⟨0,v*(1+w%3)⟩,s2, ?_,rfl,hp.1,by simp only;omega,h2⟩;unfold Y2e;rw[e1,X8,e2,X8];simp only[tmod_n w0];rw[Y53 (by omega),Y53 (by omega)]
def jnB (l:List (List Y4)):(List Y4×Int→Option (List Y4))→List Y4×Int→Option (List Y4):=fun loop s=>Y3u l loop s.1 s.2
theorem flat_len{L:Nat}:∀(ks:List (List Y4)),(∀k∈ks,k.length≤L)→ks.flatten.length≤ks.length*L
  |[],_=>by simp
  |k::ks,h=>by
    have:=flat_len ks (fun x hx=>h x (by simp[hx]));have h0:=h k (by simp);simp only[X13,X5,Xa,X0p];omega
theorem joined_ok{n:Y4}{ks:List (List Y4)}(h1:ks.length≤16)(h2:∀k∈ks,k.length≤100000):Y2q n ks=some (n::ks.flatten):=by
  have run:∀(ls done:List (List Y4)) (m:Nat),ks=done++ls→iter (jnB ks) (m+1+ls.length) (n::done.flatten,(done.length:Int))=some (n::ks.flatten):=by
    intro ls
    induction ls with
    |nil=>
      intro done m he;have hd:done=ks:=by simpa using he.symm
      subst hd;rw[show m+1+([]:List (List Y4)).length=m+1 by simp,Y1v];unfold jnB Y3u;rw[Y5b (by omega)]
    |cons k ls ih=>
      intro done m he;rw[show m+1+(k::ls).length=(m+1+ls.length)+1 by simp;omega,Y1v];have hkl:ks.length=done.length+(ls.length+1):=by rw[he];simp
      have hg:ks.getD done.length []=k:=by rw[he];simp[List.getD]
      have hk:=h2 k (by rw[he];simp);have hfl:=flat_len done (L:=100000) (fun x hx=>h2 x (by rw[he];simp[hx]));have hfl2:done.flatten.length≤1600000:=X0q hfl (by have:done.length≤16:=(by omega);omega);have e:jnB ks (iter (jnB ks) (m+1+ls.length)) (n::done.flatten,(done.length:Int))=iter (jnB ks) (m+1+ls.length) ((n::done.flatten)++k,(done.length:Int)+1):=by
        show Y3u _ _ _ _=_;unfold Y3u;rw[Y6e (by omega),Y42 (by omega),X02,hg,G_room (by simp only[Xa];omega),Y53 (by omega)]
      rw[e];have e2:=ih (done++[k]) m (by rw[he];simp);rw[←e2];congr 2
      · simp
      · simp
  unfold Y2q;have e:=run ks [] (999999-ks.length) rfl;rw[show 999999-ks.length+1+ks.length=1000000 by omega] at e;exact e
def Pt (m:Nat) (least:Int) (t:List Y4):Prop:=IsT m t∧least≤pr (hd t).Op∧3*t.length+1≤4^m
theorem four_pos(m:Nat):1≤4^m:=Nat.one_le_two_pow (n:=2*m) |> fun h=>by rwa[Nat.pow_mul] at h
theorem four_le{m:Nat}(h:m≤5):4^m≤1024:=X0q (X1a (by omega) h) (by decide)
theorem mkT{n:Y4}{ks:List (List Y4)}{m:Nat}(hm:m≤5)(ha:ar n=some ks.length)(h4:ks.length≤4)(hks:∀k∈ks,IsT m k∧3*k.length+1≤4^m)
    (had:∀(i:Nat) (k:List Y4),ks[i]? =some k→adm n i (hd k)=true):Y2q n ks=some (n::ks.flatten)∧IsT (m+1) (n::ks.flatten)∧3*(n::ks.flatten).length+1≤4^(m+1):=by
  have p1:=four_pos m;have p2:=four_le hm;refine⟨joined_ok (by omega) (fun k hk=> ?_),⟨n,ks,rfl,ha,fun k hk=>(hks k hk).1,had⟩, ?_⟩
  · have:=(hks k hk).2;omega
  · have hf:=flat_len ks (L:=(4^m-1)/3) (fun k hk=>by have:=(hks k hk).2;omega);rw[Nat.pow_succ,Xa];have:ks.length*((4^m-1)/3)≤4*((4^m-1)/3):=X0o _ h4;omega
theorem Pt.up{m:Nat}{t:List Y4}{l:Int}(h:Pt m l t):IsT m t∧3*t.length+1≤4^m:=⟨h.1,h.2.2⟩
theorem leafT{n:Y4}(ha:ar n=some 0)(hp:pr n.Op=4){m:Nat}(hm:1≤m){least:Int}(hl:least≤4):Pt m least [n]:=by
  refine⟨IsT.le (d:=1) ⟨n,[],rfl,ha,fun k hk=>by simp at hk,fun i k hk=>by simp at hk⟩ hm, ?_, ?_⟩
  · show least≤pr n.Op;omega
  · have:4^1≤4^m:=X1a (by omega) hm;simp only[Xa,Xj];omega
def TOk (T:Yb→Int→Int→Option (List Y4×Yb)) (m:Nat):Prop:=∀(s:Yb) (least:Int),OkM s→1≤least→least≤4→∃t s',T s (m:Int) least=some (t,s')∧Pt m least t∧OkM s'
def SOk (S:Yb→Int→Int→Option (List (List Y4)×Yb)) (m:Nat):Prop:=∀(s:Yb) (c:Nat),c≤4→OkM s→∃ks s',S s (c:Int) (m:Int)=some (ks,s')∧ks.length=c∧(∀k∈ks,Pt m 1 k)∧OkM s'
def numB (x1 x36:Int×Yb):(Yb×List (List Y4)×Int→Option (List Y4×Yb))→Yb×List (List Y4)×Int→Option (List Y4×Yb):=fun loop s=>Y14 x1 x36 loop s.1 s.2.1 s.2.2
theorem num_run(x1 x36:Int×Yb)(c:Nat)(hc:(2:Int)+Int.tmod x36.1 2=(c:Int))(hc3:c≤3):∀(j m:Nat) (s:Yb) (ks:List (List Y4)),ks.length+j=c+1→OkM s→(∀k∈ks,∃n:Y4,k=[n]∧n.Op=0∧0≤n.N∧n.N≤99999)→
    ∃(ks':List (List Y4)) (s':Yb),iter (numB x1 x36) (m+1+j) (s,ks,(ks.length:Int))=(Y2q ⟨Int.tmod x1.1 14,(c:Int)⟩ ks').bind (fun x46=>some (x46,s'))∧ks'.length=c+1∧OkM s'∧(∀k∈ks',∃n:Y4,k=[n]∧n.Op=0∧0≤n.N∧n.N≤99999)
  |0,m,s,ks,hl,hs,hk=>by
    refine⟨ks,s, ?_,by omega,hs,hk⟩;rw[X0m,Y1v];show Y14 x1 x36 _ s ks (ks.length:Int)=_;unfold Y14;rw[hc,Y5b (by omega)]
    rfl
  |j+1,m,s,ks,hl,hs,hk=>by
    have⟨n,s1,e1,n0,n1,n2,h1⟩:=number_ok hs;have⟨ks',s',r1,r2⟩:=num_run x1 x36 c hc hc3 j m s1 (ks++[[n]]) (by simp;omega) h1 (fun k hk'=>by
      rcases Xs.1 hk' with h|h
      · exact hk k h
      · exact⟨n,by simpa using h,n0,n1,n2⟩)
    refine⟨ks',s', ?_,r2⟩;rw[←r1,show m+1+(j+1)=(m+1+j)+1 by omega,Y1v];show Y14 x1 x36 _ s ks (ks.length:Int)=_;unfold Y14;rw[hc,Y6e (by omega),e1,X8,G_room (by omega),Y53 (by omega)];rw[show((ks++[[n]]).length:Int)=(ks.length:Int)+1 by simp]
theorem two_ok{S:Yb→Int→Int→Option (List (List Y4)×Yb)}{m:Nat}(hm:1≤m)(h5:m≤4)(hS:SOk S m){s:Yb}(hs:OkM s){n:Y4}{c:Nat}(hc:c≤4)(ha:ar n=some c)(hp:pr n.Op=4)(hb:¬(2≤n.Op∧n.Op≤5))(hb2:n.Op≠12){least:Int}(hl:least≤4):
    ∃t s',((S s (c:Int) (m:Int)).bind fun x33=>(Y2q n x33.1).bind fun x34=>some (x34,x33.2))=some (t,s')∧Pt (m+1) least t∧OkM s':=by
  have⟨ks,s',e,k1,k2,k3⟩:=hS s c hc hs;have⟨j1,j2,j3⟩:=mkT (n:=n) (ks:=ks) (m:=m) (by omega) (by rw[k1];exact ha) (by omega) (fun k hk=>(k2 k hk).up) (fun i k _=>by
    unfold adm;rw[if_neg hb,if_neg hb2])
  refine⟨_,s',by rw[e,X8];simp only;rw[j1,X8],⟨j2, ?_,j3⟩,k3⟩;show least≤pr n.Op;omega
theorem k2_ok{S:Yb→Int→Int→Option (List (List Y4)×Yb)}{m:Nat}(hm:1≤m)(h5:m≤4)(hS:SOk S m){s:Yb}(hs:OkM s)(x1:Int×Yb){kd:Int}(hk:Int.tmod x1.1 14=kd)(h9:9≤kd)(h13:kd≤13){least:Int}(hl:least≤4):
    ∃t s',Y1i S ((m+1:Nat):Int) x1 s (decide (kd≤11))=some (t,s')∧Pt (m+1) least t∧OkM s':=by
  unfold Y1i Y0a;rw[hk];have hm1:((m+1:Nat):Int)-1=(m:Int):=by omega
  by_cases h11:kd≤11
  · rw[Y6e h11,Y53 (by omega),hm1];have:=two_ok hm h5 hS hs (n:=⟨kd,0⟩) (c:=1) (by omega) (by
      unfold ar;simp only
      rw[Vn,Vn,Vn,Vp];rfl) (by
      unfold pr;simp only
      rw[Vn,Vn,Vn]) (by simp only;omega) (by simp only;omega) hl
    exact this
  · rw[Y5b h11]
    by_cases h12:kd=12
    · rw[Y47 h12];have⟨v,s1,e1,v0,v1,h1⟩:=take_ok hs;rw[e1,X8];have hv:Int.tmod v 2=v%2:=tmod_n v0 2;have⟨c,hc⟩:∃c:Nat,(2:Int)+v%2=(c:Int):=⟨(2+v%2).toNat,by omega⟩;rw[Y53 (by simp only[hv];omega)];have⟨ks,s',r1,r2,r3,r4⟩:=num_run x1 (v,s1) c (by simp only[hv];exact hc) (by omega) (c+1) (999999-(c+1)) s1 [] (by simp) h1 (by simp);rw[show 999999-(c+1)+1+(c+1)=1000000 by omega,hk] at r1;have⟨j1,j2,j3⟩:=mkT (n:=⟨kd,(c:Int)⟩) (ks:=ks) (m:=m) (by omega) (by
        unfold ar;simp only
        rw[Vn,Vn,Vn,Vn,if_pos h12,Vp,r2];simp) (by omega) (fun k hk'=>by
          obtain⟨n,rfl,n0,n1,n2⟩:=r4 k hk';have:=leafT (n:=n) (by unfold ar;rw[if_pos n0,if_pos ⟨n1,n2⟩]) (by rw[n0];rfl) hm (least:=1) (by omega);exact this.up) (fun i k hk'=>by
          obtain⟨n,rfl,n0,n1,n2⟩:=r4 k (X0l hk');unfold adm;simp only;rw[Vn,if_pos h12];exact decide_eq_true n0)
      rw[j1] at r1;refine⟨_,s',r1,⟨j2, ?_,j3⟩,r3⟩;show least≤pr kd;rw[h12];exact hl
    · rw[Y48 h12];have h13':kd=13:=by omega
      have⟨v,s1,e1,v0,v1,h1⟩:=take_ok hs;have⟨w,s2,e2,w0,w1,h2⟩:=take_ok h1;rw[e1,X8];have hv:Int.tmod v 2=v%2:=tmod_n v0 2;have hw:Int.tmod w 2=w%2:=tmod_n w0 2;simp only[hv];rw[Y53 (by omega),e2,X8];simp only[hw];rw[Y53 (by omega),Y53 (by omega),Y53 (by omega)];have cs:∃(a b:Int) (c:Nat),1+v%2=a∧1+w%2=b∧a*b=(c:Int)∧c≤4∧ar ⟨kd,8*a+b⟩=some c:=by
        have ha:v%2=0∨v%2=1:=by omega
        have hb:w%2=0∨w%2=1:=by omega
        subst h13';rcases ha with ha|ha<;>rcases hb with hb|hb<;>rw[ha,hb]
        · exact⟨1,1,1,rfl,rfl,rfl,by omega,rfl⟩
        · exact⟨1,2,2,rfl,rfl,rfl,by omega,rfl⟩
        · exact⟨2,1,2,rfl,rfl,rfl,by omega,rfl⟩
        · exact⟨2,2,4,rfl,rfl,rfl,by omega,rfl⟩
      have⟨a,b,c,ea,eb,ec,hc,har⟩:=cs;rw[ea,eb,ec,Y53 (by omega),Y53 (by omega),hm1];exact two_ok hm h5 hS h2 (n:=⟨kd,8*a+b⟩) hc har (by rw[h13'];rfl) (by simp only;omega) (by simp only;omega) hl
theorem k3_ok{S:Yb→Int→Int→Option (List (List Y4)×Yb)}{m:Nat}(hm:1≤m)(h5:m≤4)(hS:SOk S m){s:Yb}(hs:OkM s)(x1:Int×Yb){kd:Int}(hk:Int.tmod x1.1 14=kd)(h9:6≤kd)(h13:kd≤13){least:Int}(hl:least≤4):
    ∃t s',Y1h S ((m+1:Nat):Int) x1 s (decide (kd≤8))=some (t,s')∧Pt (m+1) least t∧OkM s':=by
  unfold Y1h;rw[hk];have hm1:((m+1:Nat):Int)-1=(m:Int):=by omega
  by_cases h8:kd≤8
  · rw[Y6e h8,Y53 (by omega),hm1];have:=two_ok hm h5 hS hs (n:=⟨kd,0⟩) (c:=2) (by omega) (by
      unfold ar;simp only
      rw[Vn,Vn,Vp];rfl) (by
      unfold pr;simp only
      rw[Vn,Vn,Vn]) (by simp only;omega) (by simp only;omega) hl
    exact this
  · rw[Y5b h8];have:=k2_ok hm h5 hS hs x1 hk (by omega) h13 hl
    by_cases h9':kd=9
    · rw[Y47 h9',beq_iff_eq.2 h9'];rwa[decide_eq_true (by omega:kd≤11)] at this
    · rw[Y48 h9']
      by_cases h10:kd=10
      · rw[Y47 h10,beq_iff_eq.2 h10];rwa[decide_eq_true (by omega:kd≤11)] at this
      · rw[Y48 h10];rwa[show(kd==11)=decide (kd≤11) by
          by_cases h:kd=11
          · rw[beq_iff_eq.2 h,decide_eq_true (by omega)]
          · rw[beq_eq_false_iff_ne.2 h,decide_eq_false (by omega)]]
theorem k4_ok{T:Yb→Int→Int→Option (List Y4×Yb)}{S:Yb→Int→Int→Option (List (List Y4)×Yb)}{m:Nat}(hm:1≤m)(h5:m≤4)(hT:2≤m→TOk T (m-1))(hS:SOk S m){s:Yb}(hs:OkM s)(x1:Int×Yb){kd:Int}(hk:Int.tmod x1.1 14=kd)(h9:2≤kd)(h13:kd≤13)(h2m:kd≤5→2≤m){least:Int}(hl0:1≤least)(hl:least≤4):
    ∃t s',Y13 T S ((m+1:Nat):Int) least x1 s (decide (kd≤5))=some (t,s')∧Pt (m+1) least t∧OkM s':=by
  unfold Y13 Y0a;rw[hk]
  by_cases h8:kd≤5
  · have hm2:=h2m h8;have hm1:((m+1:Nat):Int)-2=((m-1:Nat):Int):=by omega
    have hp:1≤pr kd∧pr kd≤3:=by
      unfold pr
      split
      · omega
      · split
        · omega
        · rw[Vp];omega
    rw[Y6e h8,R09_prec,X8,Y53 (by omega),hm1];have⟨a,s1,e1,a1,h1⟩:=hT hm2 s (pr kd) hs hp.1 (by omega);rw[e1,X8,Y53 (by omega)];have⟨b,s2,e2,b1,h2⟩:=hT hm2 s1 (pr kd+1) h1 (by omega) (by omega);simp only;rw[e2,X8];obtain⟨m',rfl⟩:∃m',m=m'+1:=⟨m-1,by omega⟩;rw[Nat.add_sub_cancel] at a1 b1;have⟨j1,j2,j3⟩:=mkT (n:=⟨kd,0⟩) (ks:=[a,b]) (m:=m') (by omega) (by
      unfold ar;simp only
      rw[Vn,Vn,Vp];rfl) (by simp) (fun k hk'=>by
        simp only[Xm,X05,or_false] at hk';rcases hk' with rfl|rfl
        · exact a1.up
        · exact b1.up) (fun i k hk'=>by
        unfold adm;simp only;rw[Vp]
        match i,hk' with
        |0,hk'=>
          obtain rfl:a=k:=by simpa using hk'
          rw[if_pos rfl];exact decide_eq_true a1.2.1
        |1,hk'=>
          obtain rfl:b=k:=by simpa using hk'
          rw[Vn];exact decide_eq_true (by have:=b1.2.1;omega))
    simp only;rw[j1,X8]
    by_cases hlt:pr kd<least
    · rw[Y6e hlt];have⟨q1,q2,q3⟩:=mkT (n:=⟨10,0⟩) (ks:=[(⟨kd,0⟩:Y4)::[a,b].flatten]) (m:=m'+1) (by omega) rfl (by simp) (fun k hk'=>by
        simp only[Xm,X05,or_false] at hk';subst hk';exact⟨j2,j3⟩) (fun i k hk'=>rfl)
      rw[q1,X8];exact⟨_,_,rfl,⟨q2,hl,q3⟩,h2⟩
    · rw[Y5b hlt];refine⟨_,_,rfl,⟨j2.mono, ?_, ?_⟩,h2⟩
      · show least≤pr kd;omega
      · have:4^(m'+1)≤4^(m'+1+1):=X1a (by omega) (by omega);omega
  · rw[Y5b h8];have:=k3_ok hm h5 hS hs x1 hk (by omega) h13 hl
    by_cases h6:kd=6
    · rw[Y47 h6,beq_iff_eq.2 h6];rwa[decide_eq_true (by omega:kd≤8)] at this
    · rw[Y48 h6]
      by_cases h7:kd=7
      · rw[Y47 h7,beq_iff_eq.2 h7];rwa[decide_eq_true (by omega:kd≤8)] at this
      · rw[Y48 h7];rwa[show(kd==8)=decide (kd≤8) by
          by_cases h:kd=8
          · rw[beq_iff_eq.2 h,decide_eq_true (by omega)]
          · rw[beq_eq_false_iff_ne.2 h,decide_eq_false (by omega)]]
theorem tree_body_ok{T:Yb→Int→Int→Option (List Y4×Yb)}{S:Yb→Int→Int→Option (List (List Y4)×Yb)}{m:Nat}(h5:m≤4)(hT:2≤m→TOk T (m-1))(hS:1≤m→SOk S m){s:Yb}(hs:OkM s){least:Int}(hl0:1≤least)(hl:least≤4):
    ∃t s',Y37 T S s ((m+1:Nat):Int) least=some (t,s')∧Pt (m+1) least t∧OkM s':=by
  unfold Y37;have⟨v,s1,e1,v0,v1,h1⟩:=take_ok hs;rw[e1,X8];have⟨kd,hk⟩:∃kd,Int.tmod v 14=kd:=⟨_,rfl⟩;have hkd:0≤kd∧kd≤13:=by rw[←hk,tmod_n v0];omega
  have hk':Int.tmod (v,s1).1 14=kd:=hk;simp only[hk];have nl:∃t s',((Y2e s1).bind fun x9=>some (x9.1,x9.2))=some (t,s')∧Pt (m+1) least t∧OkM s':=by
    have⟨n,s2,e2,n0,n1,n2,h2⟩:=number_ok h1;refine⟨[n],s2,by rw[e2,X8],leafT (by unfold ar;rw[if_pos n0,if_pos ⟨n1,n2⟩]) (by rw[n0];rfl) (by omega) hl,h2⟩
  have vl:∃t s',((Y1c s1).bind fun x4=>some ([(⟨(1:Int),Int.tmod x4.1 (26:Int)⟩:Y4)],x4.2))=some (t,s')∧Pt (m+1) least t∧OkM s':=by
    have⟨w,s2,e2,w0,w1,h2⟩:=take_ok h1;refine⟨[⟨1,w%26⟩],s2,by rw[e2,X8];simp only[tmod_n w0],leafT (by unfold ar;rw[if_neg (show ¬(1:Int)=0 by omega),if_pos rfl,if_pos (show 0≤w%26∧w%26≤25 by omega)]) rfl (by omega) hl,h2⟩
  have hcond:(bif decide (((m+1:Nat):Int)<2) then true else bif bif decide (((m+1:Nat):Int)<3) then decide (kd<6) else false then decide (1<kd) else false)=decide (m=0∨(m=1∧kd<6∧1<kd)):=by
    by_cases h0:m=0
    · rw[decide_eq_true (by omega:((m+1:Nat):Int)<2),decide_eq_true (Or.inl h0)];rfl
    · rw[decide_eq_false (by omega:¬((m+1:Nat):Int)<2)]
      by_cases h1:m=1
      · rw[decide_eq_true (by omega:((m+1:Nat):Int)<3)]
        by_cases h6:kd<6
        · by_cases h1k:1<kd
          · rw[decide_eq_true h6,decide_eq_true h1k,decide_eq_true (Or.inr ⟨h1,h6,h1k⟩)];rfl
          · rw[decide_eq_true h6,decide_eq_false h1k,decide_eq_false (by omega)];rfl
        · rw[decide_eq_false h6,decide_eq_false (by omega:¬(m=0∨(m=1∧kd<6∧1<kd)))];rfl
      · rw[decide_eq_false (by omega:¬((m+1:Nat):Int)<3),decide_eq_false (by omega:¬(m=0∨(m=1∧kd<6∧1<kd)))];rfl
  rw[hcond]
  by_cases hc:m=0∨(m=1∧kd<6∧1<kd)
  · rw[Y6e hc]
    by_cases hp:Int.tmod kd 2=1
    · rw[Y47 hp];exact vl
    · rw[Y48 hp];exact nl
  · rw[Y5b hc]
    by_cases h0:kd=0
    · rw[Y47 h0];exact nl
    rw[Y48 h0]
    by_cases h1':kd=1
    · rw[Y47 h1'];exact vl
    rw[Y48 h1'];have hm:1≤m:=by omega
    have:=k4_ok hm h5 hT (hS hm) h1 (v,s1) hk' (by omega) hkd.2 (by omega) hl0 hl
    by_cases h2:kd=2
    · rw[Y47 h2,beq_iff_eq.2 h2];rwa[decide_eq_true (by omega:kd≤5)] at this
    · rw[Y48 h2]
      by_cases h3:kd=3
      · rw[Y47 h3,beq_iff_eq.2 h3];rwa[decide_eq_true (by omega:kd≤5)] at this
      · rw[Y48 h3]
        by_cases h4:kd=4
        · rw[Y47 h4,beq_iff_eq.2 h4];rwa[decide_eq_true (by omega:kd≤5)] at this
        · rw[Y48 h4];rwa[show(kd==5)=decide (kd≤5) by
            by_cases h:kd=5
            · rw[beq_iff_eq.2 h,decide_eq_true (by omega)]
            · rw[beq_eq_false_iff_ne.2 h,decide_eq_false (by omega)]]
def smB (T:Yb→Int→Int→Option (List Y4×Yb)) (c m:Int):(Yb×List (List Y4)×Int→Option (List (List Y4)×Yb))→Yb×List (List Y4)×Int→Option (List (List Y4)×Yb):=fun loop s=>Y15 T c m loop s.1 s.2.1 s.2.2
theorem some_body_ok{T:Yb→Int→Int→Option (List Y4×Yb)}{m:Nat}(hT:TOk T m)(R:Yb→Int→Int→Option (List (List Y4)×Yb)){s:Yb}(hs:OkM s){c:Nat}(hc:c≤4):
    ∃ks s',Y46 T R s (c:Int) (m:Int)=some (ks,s')∧ks.length=c∧(∀k∈ks,Pt m 1 k)∧OkM s':=by
  have run:∀(j q:Nat) (s:Yb) (ks:List (List Y4)),ks.length+j=c→OkM s→(∀k∈ks,Pt m 1 k)→∃ks' s',iter (smB T (c:Int) (m:Int)) (q+1+j) (s,ks,(ks.length:Int))=some (ks',s')∧ks'.length=c∧(∀k∈ks',Pt m 1 k)∧OkM s':=by
    intro j
    induction j with
    |zero=>
      intro q s ks hl hs hk;refine⟨ks,s, ?_,by omega,hk,hs⟩;rw[X0m,Y1v];show Y15 T (c:Int) (m:Int) _ s ks (ks.length:Int)=_;unfold Y15;rw[Y5b (by omega)]
    |succ j ih=>
      intro q s ks hl hs hk;have⟨t,s1,e1,t1,h1⟩:=hT s 1 hs (by omega) (by omega);have⟨ks',s',r⟩:=ih q s1 (ks++[t]) (by simp;omega) h1 (fun k hk'=>by
        rcases Xs.1 hk' with h|h
        · exact hk k h
        · have:k=t:=by simpa using h
          rw[this];exact t1)
      refine⟨ks',s', ?_,r.2⟩;rw[←r.1,show q+1+(j+1)=(q+1+j)+1 by omega,Y1v];show Y15 T (c:Int) (m:Int) _ s ks (ks.length:Int)=_;unfold Y15;rw[Y6e (by omega),e1,X8,G_room (by omega),Y53 (by omega)];rw[show((ks++[t]).length:Int)=(ks.length:Int)+1 by simp]
  have⟨ks',s',r⟩:=run c (999999-c) s [] (by simp) hs (by simp);rw[show 999999-c+1+c=1000000 by omega] at r;exact⟨ks',s',r.1,r.2⟩
theorem maker_ok:∀(m e:Nat),m≤4→TOk (Y1y (2*m+1+e)) (m+1)∧SOk (Y2y (2*m+2+e)) (m+1):=by
  intro m
  induction m using Nat.strongRecOn with
  |ind m ih=>
    intro e hm;have hT:∀e,TOk (Y1y (2*m+1+e)) (m+1):=by
      intro e s least hs h0 h4;rw[show 2*m+1+e=(2*m+e)+1 by omega,Y1y];refine tree_body_ok hm (fun h2=> ?_) (fun h1=> ?_) hs h0 h4
      · have:=(ih (m-2) (by omega) (3+e) (by omega)).1;rwa[show 2*(m-2)+1+(3+e)=2*m+e by omega,show m-2+1=m-1 by omega] at this
      · have:=(ih (m-1) (by omega) e (by omega)).2;rwa[show 2*(m-1)+2+e=2*m+e by omega,show m-1+1=m by omega] at this
    refine⟨hT e,fun s c hc hs=> ?_⟩;rw[show 2*m+2+e=(2*m+1+e)+1 by omega,Y2y];exact some_body_ok (hT e) _ hs hc
theorem Made_tree{t0:List Int}(h0:okList (okInt .u8) t0):∃f:List Y4,f_R09_Made t0=some f∧IsT 5 f∧f.length≤60:=by
  unfold f_R09_Made;have hn:(0:Int)≤(if(40:Int)<(t0.length:Int) then(40:Int) else(t0.length:Int))∧(if(40:Int)<(t0.length:Int) then(40:Int) else(t0.length:Int))≤(t0.length:Int)∧(if(40:Int)<(t0.length:Int) then(40:Int) else(t0.length:Int))≤40:=by split<;>omega
  rw[Y42 ⟨hn.1,hn.2.1⟩];have hs:OkM ⟨t0.take ((if(40:Int)<(t0.length:Int) then(40:Int) else(t0.length:Int)).toNat),0⟩:=by
    refine⟨fun i=> ?_, ?_,by simp,by simp⟩
    · simp only[List.getD];cases h:(t0.take ((if(40:Int)<(t0.length:Int) then(40:Int) else(t0.length:Int)).toNat))[i]? with
      |none=>simp
      |some x=>exact h0.1 x (X0x (X0l h))
    · simp only[X0b];omega
  have⟨t,s',e1,t1,h1⟩:=(maker_ok 4 999991 (by omega)).1 _ 1 hs (by omega) (by omega);have e1':f_R09_maker_tree (⟨t0.take ((if(40:Int)<(t0.length:Int) then(40:Int) else(t0.length:Int)).toNat),(0:Int)⟩:Yb) (5:Int) (1:Int)=some (t,s'):=e1;rw[e1',X8];have hb:=t1.2.2;have:(4:Nat)^(4+1)=1024:=by decide
  simp only;rw[R09_Valid_ok t1.1 (by omega) (by omega),X8]
  by_cases h:t.length≤60
  · rw[decide_eq_true h];exact⟨t,rfl,t1.1,h⟩
  · rw[decide_eq_false h];exact⟨_,rfl,IsT.le (d:=1) ⟨⟨1,0⟩,[],rfl,rfl,fun k hk=>by simp at hk,fun i k hk=>by simp at hk⟩ (by omega),by simp⟩
end Go.Proofs.YtfpcbalkioolmaaDoor
