/- Own work. -/
import Derived.Test.YtkgfbpbndmklnaaDoorLibG
import Derived.Test.YtkgfbpbndmklnaaDoorW5
set_option linter.unusedSimpArgs false
set_option linter.unusedVariables false
namespace Go.Abs
theorem Y49{n:Int}{α:Type}{x:Option α}(h: -9223372036854775808≤n∧n≤9223372036854775807):G (inR n) x=x:=if_pos h
theorem G_room{b n:Nat}{α:Type}{x:Option α}(h:n*b≤140737488355328∧n≤140737488355328):G (room b n) x=x:=if_pos h
theorem inR_of{n:Int}(h: -9223372036854775808≤n∧n≤9223372036854775807):inR n:=h
theorem wrap_i64{n:Int}(h: -9223372036854775808≤n∧n≤9223372036854775807):IntKind.wrap .i64 n=n:=IntWalk.i64_in n h
theorem cd_pos{p:Prop}[Decidable p]{α:Type}{x y:α}(h:p):cond (decide p) x y=x:=by rw[decide_eq_true h];rfl
theorem Y69{p:Prop}[Decidable p]{α:Type}{x y:α}(h:¬p):cond (decide p) x y=y:=by rw[decide_eq_false h];rfl
theorem cb_pos{α:Type}{a b:Int}{x y:α}(h:a=b):cond (a==b) x y=x:=by rw[beq_iff_eq.2 h];rfl
theorem cb_neg{α:Type}{a b:Int}{x y:α}(h:¬a=b):cond (a==b) x y=y:=by rw[beq_eq_false_iff_ne.2 h];rfl
theorem cn_pos{α:Type}{a b:Int}{x y:α}(h:¬a=b):cond (a !=b) x y=x:=by rw[bne_iff_ne.2 h];rfl
theorem cn_neg{α:Type}{a b:Int}{x y:α}(h:a=b):cond (a !=b) x y=y:=by rw[h,bne_self_eq_false];rfl
def WP {α:Type} (t:Option α) (Q:α→Prop):Prop:=∃a,t=some a∧Q a
theorem WP.bind{α β:Type}{o:Option α}{a:α}{f:α→Option β}{Q:β→Prop}(h:o=Option.some a)(k:WP (f a) Q):WP (o.bind f) Q:=by
  rw[h];exact k
theorem toList_loop(bs:ByteArray):∀(n i:Nat) (r:List UInt8),bs.size=n+i→ByteArray.toList.loop bs i r=r.reverse++bs.data.toList.drop i
  |0,i,r,h=>by
    rw[ByteArray.toList.loop,Vn,X0j (by simp;omega)];simp
  |n+1,i,r,h=>by
    have hi:i<bs.size:=by omega
    have hi':i<bs.data.toList.length:=by simpa using hi
    rw[ByteArray.toList.loop,if_pos hi,toList_loop bs n (i+1) _ (by omega),X07 hi'];simp only[X1b,Xu,List.singleton_append];congr 2;simp[ByteArray.get!,hi]
theorem toList_data(bs:ByteArray):bs.toList=bs.data.toList:=by
  unfold ByteArray.toList;rw[toList_loop bs bs.size 0 [] (by omega)];simp
end Go.Abs
namespace Go.Proofs.YtkgfbpbndmklnaaDoor
section
open Go.Abs
def ar (n:Y5):Option Nat:=
  if n.Op=0 then(if 0≤n.N∧n.N≤99999 then some 0 else none)
  else if n.Op=1 then(if 0≤n.N∧n.N≤25 then some 0 else none)
  else if 2≤n.Op∧n.Op≤8 then(if n.N=0 then some 2 else none)
  else if 9≤n.Op∧n.Op≤11 then(if n.N=0 then some 1 else none)
  else if n.Op=12 then(if 2≤n.N∧n.N≤5 then some (n.N.toNat+1) else none)
  else if n.Op=13 then(if 8≤n.N∧n.N<40∧1≤n.N%8∧n.N%8≤4 then some ((n.N/8*(n.N%8)).toNat) else none)
  else none
def pr (o:Int):Int:=if o=5 then 1 else if o=2∨o=3 then 2 else if o=4 then 3 else 4
def adm (n:Y5) (i:Nat) (m:Y5):Bool:=
  if 2≤n.Op∧n.Op≤5 then(if i=0 then decide (pr n.Op≤pr m.Op) else decide (pr n.Op<pr m.Op)) else if n.Op=12 then decide (m.Op=0) else true
def hd (l:List Y5):Y5:=l.getD 0 Yd
def IsTA (A:Y5→Nat→Y5→Bool):Nat→List Y5→Prop
  |0,_=>False
  |d+1,l=>∃(n:Y5) (ks:List (List Y5)),l=n::ks.flatten∧ar n=some ks.length∧(∀k∈ks,IsTA A d k)∧∀(i:Nat) (k:List Y5),ks[i]? =some k→A n i (hd k)=true
abbrev IsT:=IsTA adm
variable {A:Y5→Nat→Y5→Bool}
theorem IsTA.mono:∀{d:Nat} {t:List Y5},IsTA A d t→IsTA A (d+1) t
  |0,t,h=>h.elim
  |d+1,t,h=>by
    have⟨n,ks,h1,h2,h3,h4⟩:=h;exact⟨n,ks,h1,h2,fun k hk=>IsTA.mono (h3 k hk),h4⟩
theorem IsTA.le{d e:Nat}{t:List Y5}(h:IsTA A d t)(hde:d≤e):IsTA A e t:=by
  induction e with
  | zero => have:d=0:=by omega
            subst this;exact h
  |succ e ih=>
    by_cases he:d=e+1
    · subst he;exact h
    · exact(ih (by omega)).mono
theorem IsTA.pos{d:Nat}{t:List Y5}(h:IsTA A d t):0<t.length:=by
  cases d with
  |zero=>exact h.elim
  |succ d=>obtain⟨n,ks,rfl,_⟩:=h;simp
theorem ar_cases{n:Y5}{k:Nat}(h:ar n=some k):n.Op=0∨n.Op=1∨n.Op=2∨n.Op=3∨n.Op=4∨n.Op=5∨n.Op=6∨n.Op=7∨n.Op=8∨n.Op=9∨n.Op=10∨n.Op=11∨n.Op=12∨n.Op=13:=by
  unfold ar at h
  repeat' split at h
  all_goals first
    |omega
    |cases h
theorem tdiv8{n:Int}(h:0≤n):Int.tdiv n 8=n/8:=Int.tdiv_eq_ediv_of_nonneg h
theorem tmod8{n:Int}(h:0≤n):Int.tmod n 8=n%8:=Int.tmod_eq_emod_of_nonneg h
theorem mat_mul{n:Int}(h:8≤n∧n<40∧1≤n%8∧n%8≤4):0≤n/8*(n%8)∧n/8*(n%8)≤16:=by
  have h1:n/8≤4:=by omega
  have h2:n%8≤4:=by omega
  have h3:0≤n/8:=by omega
  have h4:0≤n%8:=by omega
  have:=Int.mul_le_mul h1 h2 h4 (by omega:(0:Int)≤4);exact⟨Int.mul_nonneg h3 h4,by omega⟩
theorem ar_le {n : Y5} {k : Nat} (h : ar n = some k) : k ≤ 16 := by
  unfold ar at h
  repeat' split at h
  all_goals simp only [X0, reduceCtorEq] at h
  all_goals subst h
  all_goals first
    | omega
    | (rename_i hx
       have := mat_mul hx
       omega)
theorem R09_Arity_ok {n : Y5} {k : Nat} (h : ar n = some k) : Y4n n = some (k : Int) := by
  have hc := ar_cases h
  obtain ⟨o, N⟩ := n
  simp only at hc
  rcases hc with rfl | rfl | rfl | rfl | rfl | rfl | rfl | rfl | rfl | rfl | rfl | rfl | rfl | rfl
  all_goals first
    | (simp only [ar, Int.reduceEq, if_false, if_true, Int.reduceLE, and_true, true_and, and_self, and_false, false_and] at h
       split at h
       · rename_i hN
         simp only [X0] at h
         subst h
         first
           | (simp [Y4n, Y1v, Y3g, hN]; done)
           | (have h3 : inR (N + 1) := inR_of (by omega)
              simp [Y4n, Y1v, Y3g, hN, Y1j h3]; omega)
           | (have h0 : 0 ≤ N := by omega
              have hm := mat_mul hN
              have h3 : inR (N / 8) := inR_of (by omega)
              have h4 : inR (N / 8 * (N % 8)) := inR_of (by omega)
              have c1 : (0 : Int) < N := by omega
              have c2 : 1 ≤ N / 8 := by omega
              have c3 : N / 8 ≤ 4 := by omega
              simp [Y4n, Y1v, Y3g, tdiv8 h0, tmod8 h0, Y1j h3, Y1j h4, c1, c2, c3, hN]
              exact (Int.max_eq_left hm.1).symm)
       · cases h)
theorem formula_arity_ok {n : Y5} {k : Nat} (h : ar n = some k) : Y35 n = some ((k : Int), true) := by
  have hc := ar_cases h
  obtain ⟨o, N⟩ := n
  simp only at hc
  rcases hc with rfl | rfl | rfl | rfl | rfl | rfl | rfl | rfl | rfl | rfl | rfl | rfl | rfl | rfl
  all_goals first
    | (simp only [ar, Int.reduceEq, if_false, if_true, Int.reduceLE, and_true, true_and, and_self, and_false, false_and] at h
       split at h
       · rename_i hN
         simp only [X0] at h
         subst h
         first
           | (simp [Y35, Y0l, Y25, hN]; done)
           | (have h3 : inR (N + 1) := inR_of (by omega)
              have c1 : ¬ N < 2 := by omega
              have c2 : ¬ 5 < N := by omega
              simp [Y35, Y0l, Y25, c1, c2, Y1j h3]; omega)
           | (have h0 : 0 ≤ N := by omega
              have hm := mat_mul hN
              have h3 : inR (N / 8) := inR_of (by omega)
              have h4 : inR (N / 8 * (N % 8)) := inR_of (by omega)
              have c1 : ¬ N < 0 := by omega
              have c2 : 1 ≤ N / 8 := by omega
              have c3 : N / 8 ≤ 4 := by omega
              simp [Y35, Y0l, Y25, tdiv8 h0, tmod8 h0, Y1j h3, Y1j h4, c1, c2, c3, hN]
              exact (Int.max_eq_left hm.1).symm)
       · cases h)
theorem R09_prec(o:Int):Y1u o=some (pr o):=by
  unfold Y1u Y3n Y4m pr
  by_cases h5:o=5
  · simp[h5]
  · by_cases h2:o=2
    · simp[h2]
    · by_cases h3:o=3
      · simp[h3]
      · have b5:(o==5)=false:=by simpa using h5
        have b2:(o==2)=false:=by simpa using h2
        have b3:(o==3)=false:=by simpa using h3
        by_cases h4:o=4
        · simp[h4]
        · have b4:(o==4)=false:=by simpa using h4
          simp[h5,h2,h3,h4,b5,b2,b3,b4]
theorem formula_prec(o:Int):Y1k o=some (pr o):=by
  unfold Y1k Y2n Y3e pr
  by_cases h5:o=5
  · simp[h5]
  · by_cases h2:o=2
    · simp[h2]
    · by_cases h3:o=3
      · simp[h3]
      · have b5:(o==5)=false:=by simpa using h5
        have b2:(o==2)=false:=by simpa using h2
        have b3:(o==3)=false:=by simpa using h3
        by_cases h4:o=4
        · simp[h4]
        · have b4:(o==4)=false:=by simpa using h4
          simp[h5,h2,h3,h4,b5,b2,b3,b4]
theorem formula_adm(n m:Y5)(i:Nat):Y4x n (i:Int) m=some (adm n i m):=by
  unfold Y4x Y2d Y4j adm;have hi:((i:Int)==0)=decide (i=0):=by
    rw[X0w];simp
  simp only[formula_prec,X2,hi]
  by_cases h2:n.Op=2
  · by_cases h0:i=0<;>simp[h2,h0]
  · by_cases h3:n.Op=3
    · by_cases h0:i=0<;>simp[h3,h0]
    · by_cases h4:n.Op=4
      · by_cases h0:i=0<;>simp[h4,h0]
      · by_cases h5:n.Op=5
        · by_cases h0:i=0<;>simp[h5,h0]
        · have hn:¬(2≤n.Op∧n.Op≤5):=by omega
          by_cases h12:n.Op=12
          · simp[h12,Bool.beq_eq_decide_eq]
          · have b5:(n.Op==5)=false:=by simpa using h5
            have b2:(n.Op==2)=false:=by simpa using h2
            have b3:(n.Op==3)=false:=by simpa using h3
            have b4:(n.Op==4)=false:=by simpa using h4
            have b12:(n.Op==12)=false:=by simpa using h12
            simp[h12,hn,b2,b3,b4,b5,b12]
theorem getD_mid(pre post:List Y5)(n:Y5):(pre++n::post).getD pre.length Yd=n:=by simp[List.getD]
def endB (f:List Y5):(Int×Int→Option Int)→Int×Int→Option Int:=fun loop s=>Y68 f loop s.1 s.2
theorem end_step{f pre post:List Y5}{n:Y5}{k:Nat}(hf:f=pre++n::post)(hl:f.length≤100000)(ha:ar n=some k){o:Nat}(h0:0<o)(h1:o≤4000000)(loop:Int×Int→Option Int):
    endB f loop ((pre.length:Int),(o:Int))=loop (((pre.length+1:Nat):Int),((o+k-1:Nat):Int)):=by
  have hlt:pre.length<f.length:=by rw[hf];simp
  have hg:f.getD pre.length Yd=n:=by rw[hf];exact getD_mid _ _ _
  have hk:=ar_le ha;unfold endB Y68;have c1:decide ((0:Int)<(o:Int))=true:=by simpa using h0
  have c2:decide ((pre.length:Int)<0)=false:=by simp
  have c3:decide ((f.length:Int)≤(pre.length:Int))=false:=by simp;omega
  have c4:decide ((k:Int)<0)=false:=by simp
  have hb:(0:Int)≤(pre.length:Int)∧(pre.length:Int)<(f.length:Int):=by omega
  have g1:inR ((k:Int)-1):=inR_of (by omega);have g2:inR ((o:Int)+((k:Int)-1)):=inR_of (by omega);have g3:inR ((pre.length:Int)+1):=inR_of (by omega);simp only[c1,cond_true,c2,cond_false,c3,Xy,X02,hg,R09_Arity_ok ha,X2,c4,Y1j hb,Y1j g1,Y1j g2,Y1j g3];rw[Y1j (fun _=>hb)];have e1:(o:Int)+((k:Int)-1)=((o+k-1:Nat):Int):=by omega
  rw[e1]
  rfl
theorem end_run(f:List Y5)(hl:f.length≤100000):∀(d:Nat) (t pre post:List Y5) (o:Nat),IsTA A d t→f=pre++t++post→0<o→o+16*t.length≤4000000→∀m,iter (endB f) (m+t.length) ((pre.length:Int),(o:Int))=iter (endB f) m (((pre.length+t.length:Nat):Int),((o-1:Nat):Int))
  |0,_,_,_,_,h,_,_,_=>h.elim
  |d+1,t,pre,post,o,h,hf,h0,h1=>by
    intro m;obtain⟨n,ks,rfl,ha,hks,_⟩:=h;have hf':f=pre++n::(ks.flatten++post):=by rw[hf];simp
    have hlen:(n::ks.flatten).length=ks.flatten.length+1:=by simp
    rw[hlen,show m+(ks.flatten.length+1)=(m+ks.flatten.length)+1 by omega,Yv,end_step hf' hl ha h0 (by omega)];have kids:∀(ks:List (List Y5)) (pre post:List Y5) (o:Nat),(∀k∈ks,IsTA A d k)→f=pre++(ks.flatten++post)→ks.length≤o→o+16*ks.flatten.length≤4000000→∀m,iter (endB f) (m+ks.flatten.length) ((pre.length:Int),(o:Int))=iter (endB f) m (((pre.length+ks.flatten.length:Nat):Int),((o-ks.length:Nat):Int)):=by
      intro ks
      induction ks with
      |nil=>intro pre post o _ _ _ _ m;simp
      |cons k ks ih=>
        intro pre post o hk hf ho h1 m;simp only[Xa,X0q,X4] at ho h1⊢;have e1:=end_run f hl d k pre (ks.flatten++post) o (hk k (by simp)) (by rw[hf];simp) (by omega) (by omega) (m+ks.flatten.length);rw[show m+(k.length+ks.flatten.length)=m+ks.flatten.length+k.length by omega,e1];have e2:=ih (pre++k) post (o-1) (fun q hq=>hk q (by simp[hq])) (by rw[hf];simp) (by omega) (by omega) m;simp only[X4] at e2;rw[e2,show pre.length+k.length+ks.flatten.length=pre.length+(k.length+ks.flatten.length) by omega,show o-1-ks.length=o-(ks.length+1) by omega]
    have hk:=ar_le ha;have e3:=kids ks (pre++[n]) post (o+ks.length-1) hks (by rw[hf'];simp) (by omega) (by omega) m;simp only[X4,Xj] at e3;rw[e3,show pre.length+1+ks.flatten.length=pre.length+(ks.flatten.length+1) by omega,show o+ks.length-1-ks.length=o-1 by omega]
theorem End_ok{f pre t post:List Y5}{d:Nat}(ht:IsTA A d t)(hf:f=pre++t++post)(hl:f.length≤100000):f_R09_End f (pre.length:Int)=some ((pre.length+t.length:Nat):Int):=by
  have hle:t.length≤f.length:=by rw[hf];simp;omega
  have e:=end_run f hl d t pre post 1 ht hf (by omega) (by omega) (999999-t.length+1);unfold f_R09_End;have e2:999999-t.length+1+t.length=1000000:=by omega
  rw[e2] at e;refine Eq.trans e ?_;rw[Yv];unfold endB Y68;simp
end
section
open Go.Abs
variable {A:Y5→Nat→Y5→Bool}
def offs:Nat→List (List Y5)→List Int
  |_,[]=>[]
  |p,k::ks=>(p:Int)::offs (p+k.length) ks
theorem Y61:∀(ks:List (List Y5)) (p:Nat),(offs p ks).length=ks.length
  |[],_=>rfl
  |k::ks,p=>by simp[offs,Y61 ks]
theorem offs_app:∀(ks ls:List (List Y5)) (p:Nat),offs p (ks++ls)=offs p ks++offs (p+ks.flatten.length) ls
  |[],ls,p=>by simp[offs]
  |k::ks,ls,p=>by simp[offs,offs_app ks ls,X1j]
theorem offs_get:∀(ks:List (List Y5)) (p i:Nat),i<ks.length→(offs p ks).getD i 0=((p+(ks.take i).flatten.length:Nat):Int)
  |[],p,i,h=>by simp at h
  |k::ks,p,0,h=>by simp[offs]
  |k::ks,p,i+1,h=>by
    simp only[offs,List.getD_cons_succ];rw[offs_get ks _ i (by simpa using h)];simp[X1j]
def opB (f:List Y5) (i:Int):(List Int×Int×Int→Option (List Int))→List Int×Int×Int→Option (List Int):=fun loop s=>Y2t f i loop s.1 s.2.1 s.2.2
theorem op_run{f pre post:List Y5}{n:Y5}{ks:List (List Y5)}{d:Nat}(hf:f=pre++(n::ks.flatten)++post)(hl:f.length≤100000)(ha:ar n=some ks.length)(hks:∀k∈ks,IsTA A d k):
    ∀(ls done:List (List Y5)) (m:Nat),ks=done++ls→iter (opB f (pre.length:Int)) (m+1+ls.length) (offs (pre.length+1) done,((pre.length+1+done.flatten.length:Nat):Int),(done.length:Int))=some (offs (pre.length+1) ks):=by
  have hlt:pre.length<f.length:=by rw[hf];simp
  have hg:f.getD pre.length Yd=n:=by rw[hf,Xu];exact getD_mid _ _ _
  have hb:(0:Int)≤(pre.length:Int)∧(pre.length:Int)<(f.length:Int):=by omega
  intro ls
  induction ls with
  |nil=>
    intro done m he;have hd:done=ks:=by simpa using he.symm
    subst hd;rw[show m+1+([]:List (List Y5)).length=m+1 by simp,Yv];unfold opB Y2t;simp only[Y1j hb,X02,hg,R09_Arity_ok ha,X2];rw[Y69 (by omega)]
  |cons k ls ih=>
    intro done m he;rw[show m+1+(k::ls).length=(m+1+ls.length)+1 by simp;omega,Yv];have hkl:ks.length=done.length+(ls.length+1):=by rw[he];simp
    have h16:=ar_le ha;have hf2:f=(pre++n::done.flatten)++k++(ls.flatten++post):=by rw[hf,he];simp
    have hE:=End_ok (hks k (by rw[he];simp)) hf2 hl;have hpl:(pre++n::done.flatten).length=pre.length+1+done.flatten.length:=by simp;omega
    rw[hpl] at hE;have e:opB f (pre.length:Int) (iter (opB f (pre.length:Int)) (m+1+ls.length)) (offs (pre.length+1) done,((pre.length+1+done.flatten.length:Nat):Int),(done.length:Int))=
        iter (opB f (pre.length:Int)) (m+1+ls.length) (offs (pre.length+1) done++[((pre.length+1+done.flatten.length:Nat):Int)],((pre.length+1+done.flatten.length+k.length:Nat):Int),(done.length:Int)+1):=by
      show Y2t _ _ _ _ _ _=_;unfold Y2t;simp only[Y1j hb,X02,hg,R09_Arity_ok ha,X2];rw[cd_pos (by omega),G_room (by rw[Y61];omega),hE,X2,Y49 (by omega)]
    rw[e];have e2:=ih (done++[k]) m (by rw[he];simp);rw[offs_app,show offs (pre.length+1+done.flatten.length) [k]=[((pre.length+1+done.flatten.length:Nat):Int)] from rfl] at e2;rw[←e2];congr 3
    · simp[X1j]
    · simp
theorem Operands_ok{f pre post:List Y5}{n:Y5}{ks:List (List Y5)}{d:Nat}(hf:f=pre++(n::ks.flatten)++post)(hl:f.length≤100000)(ha:ar n=some ks.length)(hks:∀k∈ks,IsTA A d k):
    Y42 f (pre.length:Int)=some (offs (pre.length+1) ks):=by
  have hlt:pre.length<f.length:=by rw[hf];simp
  have h16:=ar_le ha;unfold Y42;rw[Y49 (by omega)];have e:=op_run hf hl ha hks ks [] (999999-ks.length) rfl;rw[show 999999-ks.length+1+ks.length=1000000 by omega] at e;have e0:(pre.length:Int)+1=((pre.length+1+([]:List (List Y5)).flatten.length:Nat):Int):=by simp
  rw[e0];exact e
theorem hd_at{f pre k post:List Y5}{d:Nat}(hk:IsTA A d k)(hf:f=pre++k++post):f.getD pre.length Yd=hd k∧pre.length<f.length:=by
  have:=hk.pos;cases k with
  |nil=>simp at this
  |cons x k=>
    subst hf;refine⟨?_,by simp⟩;rw[Xu];exact getD_mid _ _ _
theorem kid_at{f pre post:List Y5}{n:Y5}{ks:List (List Y5)}{d:Nat}(hf:f=pre++(n::ks.flatten)++post)(hks:∀k∈ks,IsTA A d k){i:Nat}{k:List Y5}(hk:ks[i]? =some k):
    f=(pre++n::(ks.take i).flatten)++k++((ks.drop (i+1)).flatten++post)∧(pre++n::(ks.take i).flatten).length=pre.length+1+(ks.take i).flatten.length∧f.getD (pre.length+1+(ks.take i).flatten.length) Yd=hd k∧pre.length+1+(ks.take i).flatten.length<f.length:=by
  have hi:=(Xk.1 hk).1;have hke:=(Xk.1 hk).2;have hsp:ks=ks.take i++k::ks.drop (i+1):=by
    rw[←hke,List.getElem_cons_drop,X17]
  have h1:f=(pre++n::(ks.take i).flatten)++k++((ks.drop (i+1)).flatten++post):=by
    have:ks.flatten=(ks.take i).flatten++(k++(ks.drop (i+1)).flatten):=by
      conv=>lhs;rw[hsp]
      simp
    rw[hf,this];simp
  have h2:(pre++n::(ks.take i).flatten).length=pre.length+1+(ks.take i).flatten.length:=by simp;omega
  have h3:=hd_at (hks k (X0x hk)) h1;rw[h2] at h3;exact⟨h1,h2,h3.1,h3.2⟩
def sdB (f:List Y5) (l:List Int):(Int→Option Bool)→Int→Option Bool:=fun loop s=>Y41 f l loop s
theorem sound_ok{f pre post:List Y5}{n:Y5}{ks:List (List Y5)}{d:Nat}(hf:f=pre++(n::ks.flatten)++post)(hl:f.length≤100000)(ha:ar n=some ks.length)(hks:∀k∈ks,IsTA A d k)
    (had:∀(i:Nat) (k:List Y5),ks[i]? =some k→adm n i (hd k)=true):f_R09_sound f (pre.length:Int)=some true:=by
  have hlt:pre.length<f.length:=by rw[hf];simp
  have hg:f.getD pre.length Yd=n:=by rw[hf,Xu];exact getD_mid _ _ _
  have hb:(0:Int)≤(pre.length:Int)∧(pre.length:Int)<(f.length:Int):=by omega
  have h16:=ar_le ha;have two:2≤n.Op→n.Op≤5→Y2z f (pre.length:Int) (offs (pre.length+1) ks) true=some true:=by
    intro h2 h5;have hk2:ks.length=2:=by
      unfold ar at ha;rw[Vn,Vn,Vp] at ha
      split at ha
      · simpa using ha.symm
      · cases ha
    match hks2:ks,hk2 with
    |[a,b],_=>
      have k0:=kid_at (i:=0) (k:=a) hf hks rfl;have k1:=kid_at (i:=1) (k:=b) hf hks rfl;have a0:=had 0 a rfl;have a1:=had 1 b rfl;unfold adm at a0 a1;rw[if_pos ⟨h2,h5⟩] at a0 a1;simp only[if_true,Nat.succ_ne_zero,if_false,decide_eq_true_eq] at a0 a1;simp only[List.take_zero,List.flatten_nil,Xi,X0y,X0b,X0q,X4] at k0 k1;unfold Y2z;simp only[cond_true,X02,hg,R09_prec,X2,offs,Xa,Xi,Int.toNat_zero,X1c];rw[Y1j (by omega),Y1j (by omega),k0.2.2.1];have c1:decide (pr n.Op≤pr (hd a).Op)=true:=by simpa using a0
      rw[c1];have e1:([((pre.length+1:Nat):Int),((pre.length+1+a.length:Nat):Int)]:List Int).getD (1:Int).toNat 0=((pre.length+1+a.length:Nat):Int):=rfl;rw[e1];rw[Y1j (fun _=>by omega),Y1j (fun _=>by omega)];simp only[cond_true,X02,k1.2.2.1,X2,X0,decide_eq_true_eq];exact a1
  unfold f_R09_sound;rw[Operands_ok hf hl ha hks,X2,Y1j hb];simp only[X02,hg]
  by_cases h2:n.Op=2
  · rw[cb_pos h2,beq_iff_eq.2 h2];exact two (by omega) (by omega)
  · rw[cb_neg h2]
    by_cases h3:n.Op=3
    · rw[cb_pos h3,beq_iff_eq.2 h3];exact two (by omega) (by omega)
    · rw[cb_neg h3]
      by_cases h4:n.Op=4
      · rw[cb_pos h4,beq_iff_eq.2 h4];exact two (by omega) (by omega)
      · rw[cb_neg h4]
        by_cases h5:n.Op=5
        · rw[beq_iff_eq.2 h5];exact two (by omega) (by omega)
        · rw[beq_eq_false_iff_ne.2 h5];unfold Y2z;simp only[cond_false,X02,hg]
          by_cases h12:n.Op=12
          · rw[cb_pos h12];have run:∀(j i m:Nat),i+j=ks.length→iter (sdB f (offs (pre.length+1) ks)) (m+1+j) (i:Int)=some true:=by
              intro j
              induction j with
              |zero=>
                intro i m hi;rw[X0y,Yv];unfold sdB Y41 Y5x;rw[Y69 (by rw[Y61];omega)]
              |succ j ih=>
                intro i m hi;rw[show m+1+(j+1)=(m+1+j)+1 by omega,Yv];have hik:i<ks.length:=by omega
                have kk:=kid_at (i:=i) (k:=ks[i]) hf hks (X1 hik);have aa:=had i _ (X1 hik);unfold adm at aa;rw[Vn,if_pos h12] at aa;have aa':(hd ks[i]).Op=0:=by simpa using aa
                have e:sdB f (offs (pre.length+1) ks) (iter (sdB f (offs (pre.length+1) ks)) (m+1+j)) (i:Int)=iter (sdB f (offs (pre.length+1) ks)) (m+1+j) ((i+1:Nat):Int):=by
                  show Y41 _ _ _ _=_;unfold Y41;simp only[X02,offs_get ks _ i hik];rw[cd_pos (by rw[Y61];omega),Y1j (by rw[Y61];omega),Y1j (by omega),kk.2.2.1,cn_neg aa',Y49 (by omega)]
                  rfl
                rw[e];exact ih (i+1) m (by omega)
            have e:=run ks.length 0 (999999-ks.length) (by omega);rw[show 999999-ks.length+1+ks.length=1000000 by omega] at e;exact e
          · rw[cb_neg h12];rfl
theorem sub_at:∀(d:Nat) (t:List Y5) (i:Nat),IsTA A d t→i<t.length→∃(pre:List Y5) (n:Y5) (ks:List (List Y5)) (post:List Y5) (e:Nat),t=pre++(n::ks.flatten)++post∧pre.length=i∧ar n=some ks.length∧(∀k∈ks,IsTA A e k)∧∀(j:Nat) (k:List Y5),ks[j]? =some k→A n j (hd k)=true
  |0,_,_,h,_=>h.elim
  |d+1,t,i,h,hi=>by
    obtain⟨n,ks,rfl,h2,h3,h4⟩:=h;cases i with
    |zero=>exact⟨[],n,ks,[],d,by simp,rfl,h2,h3,h4⟩
    |succ i=>
      have kids:∀(ls:List (List Y5)) (i:Nat),(∀k∈ls,IsTA A d k)→i<ls.flatten.length→∃(pre:List Y5) (n:Y5) (ks:List (List Y5)) (post:List Y5) (e:Nat),ls.flatten=pre++(n::ks.flatten)++post∧pre.length=i∧ar n=some ks.length∧(∀k∈ks,IsTA A e k)∧∀(j:Nat) (k:List Y5),ks[j]? =some k→A n j (hd k)=true:=by
        intro ls
        induction ls with
        |nil=>intro i _ hi;simp at hi
        |cons l ls ih=>
          intro i hk hi
          by_cases hil:i<l.length
          · have⟨pre,n,ks,post,e,h1,h5,h6⟩:=sub_at d l i (hk l (by simp)) hil;exact⟨pre,n,ks,post++ls.flatten,e,by rw[X0q,h1];simp,h5,h6⟩
          · have⟨pre,n,ks,post,e,h1,h5,h6⟩:=ih (i-l.length) (fun k hk'=>hk k (by simp[hk'])) (by simp only[X0q,X4] at hi;omega);exact⟨l++pre,n,ks,post,e,by rw[X0q,h1];simp,by simp only[X4];omega,h6⟩
      have⟨pre,n',ks',post,e,h1,h5,h6⟩:=kids ks i h3 (by simpa using hi);exact⟨n::pre,n',ks',post,e,by rw[h1];simp,by simp[h5],h6⟩
def trB (f:List Y5):(Int→Option Bool)→Int→Option Bool:=fun loop s=>Y4l f loop s
theorem Tree_ok{f:List Y5}{d:Nat}(ht:IsT d f)(hl:f.length≤200):f_R09_Tree f=some true:=by
  have hp:=ht.pos;unfold f_R09_Tree;have hE:=End_ok (f:=f) (pre:=[]) (post:=[]) ht (by simp) (by omega);simp only[Xi,X08] at hE;have c1:((f.length:Int)==0)=false:=by rw[beq_eq_false_iff_ne];omega
  have c2:decide ((200:Int)<(f.length:Int))=false:=by rw[decide_eq_false_iff_not];omega
  have hE':f_R09_End f 0=some (f.length:Int):=hE;simp only[c1,c2,cond_false,Xy,cond_true,hE',X2,bne_self_eq_false];have run:∀(j i m:Nat),i+j=f.length→iter (trB f) (m+1+j) (i:Int)=some true:=by
    intro j
    induction j with
    |zero=>
      intro i m hi;rw[X0y,Yv];unfold trB Y4l;rw[Y69 (by omega)]
    |succ j ih=>
      intro i m hi;rw[show m+1+(j+1)=(m+1+j)+1 by omega,Yv];have⟨pre,n,ks,post,e,h1,h2,h3,h4,h5⟩:=sub_at d f i ht (by omega);have hs:=sound_ok h1 (by omega) h3 h4 h5;rw[h2] at hs;have e:trB f (iter (trB f) (m+1+j)) (i:Int)=iter (trB f) (m+1+j) ((i+1:Nat):Int):=by
        show Y4l _ _ _=_;unfold Y4l;rw[cd_pos (by omega),hs,X2,X0z,cond_false,Y49 (by omega)]
        rfl
      rw[e];exact ih (i+1) m (by omega)
  have e:=run f.length 0 (999999-f.length) (by omega);rw[show 999999-f.length+1+f.length=1000000 by omega] at e;exact e
def dpB (f:List Y5) (l:List Int) (rc:List Y5→Int→Option Int):(Int×Int→Option Int)→Int×Int→Option Int:=fun loop s=>Y1s rc f l loop s.1 s.2
theorem depth_ok{f:List Y5}(hl:f.length≤100000):∀(d:Nat) (t pre post:List Y5) (m:Nat),d≤100→IsTA A d t→f=pre++t++post→∃v:Nat,1≤v∧v≤d∧IsTA A v t∧Y2a (m+d) f (pre.length:Int)=some (v:Int)
  |0,_,_,_,_,_,h,_=>h.elim
  |d+1,t,pre,post,m,h100,h,hf=>by
    obtain⟨n,ks,rfl,ha,hks,had⟩:=h;rw[show m+(d+1)=(m+d)+1 by omega,Y2a];unfold Y62;rw[Operands_ok hf hl ha hks,X2];have h16:=ar_le ha;have run:∀(j i q v:Nat),i+j=ks.length→v≤d→(∀k∈ks.take i,IsTA A v k)→∃r:Nat,r≤d∧(∀k∈ks,IsTA A r k)∧iter (dpB f (offs (pre.length+1) ks) (Y2a (m+d))) (q+1+j) ((v:Int),(i:Int))=some ((r+1:Nat):Int):=by
      intro j
      induction j with
      |zero=>
        intro i q v hi hv hk;refine⟨v,hv,by rwa[X00 (by omega)] at hk, ?_⟩;rw[X0y,Yv];show Y1s _ f _ _ (v:Int) (i:Int)=_;unfold Y1s;rw[Y69 (by rw[Y61];omega),Y49 (by omega)]
        rfl
      |succ j ih=>
        intro i q v hi hv hk;rw[show q+1+(j+1)=(q+1+j)+1 by omega,Yv];have hik:i<ks.length:=by omega
        have kk:=kid_at (i:=i) (k:=ks[i]) hf hks (X1 hik);have⟨u,u1,u2,u4,u3⟩:=depth_ok hl d ks[i] _ _ m (by omega) (hks _ (List.getElem_mem hik)) kk.1;rw[kk.2.1] at u3;have e:dpB f (offs (pre.length+1) ks) (Y2a (m+d)) (iter (dpB f (offs (pre.length+1) ks) (Y2a (m+d))) (q+1+j)) ((v:Int),(i:Int))=iter (dpB f (offs (pre.length+1) ks) (Y2a (m+d))) (q+1+j) (((max v u:Nat):Int),((i+1:Nat):Int)):=by
          show Y1s _ _ _ _ _ _=_;unfold Y1s;simp only[X02,offs_get ks _ i hik];rw[cd_pos (by rw[Y61];omega),Y1j (by rw[Y61];omega),u3,X2,Y49 (by omega)];have e0:(if(u:Int)>(v:Int) then(u:Int) else(v:Int))=((max v u:Nat):Int):=by split<;>omega
          rw[e0]
          rfl
        rw[e];refine ih (i+1) q _ (by omega) (by omega) (fun k hk'=> ?_);rw[List.take_succ_eq_append_getElem hik] at hk';rcases X01.1 hk' with h|h
        · exact(hk k h).le (by omega)
        · have:k=ks[i]:=by simpa using h
          rw[this];exact u4.le (by omega)
    have⟨r,r2,r4,r3⟩:=run ks.length 0 (999999-ks.length) 0 (by omega) (by omega) (fun k hk=>by simp at hk);rw[show 999999-ks.length+1+ks.length=1000000 by omega] at r3;exact⟨r+1,by omega,by omega,⟨n,ks,rfl,ha,r4,had⟩,r3⟩
def meB (f:List Y5) (i:Int) (x:Int×Bool) (rc:List Y5→Int→Option (Int×Int×Bool)):(Int×Int×Int→Option (Int×Int×Bool))→Int×Int×Int→Option (Int×Int×Bool):=fun loop s=>Y0h rc f i x loop s.1 s.2.1 s.2.2
theorem measure_ok{f:List Y5}(hl:f.length≤100000):∀(d:Nat) (t pre post:List Y5) (m:Nat),d≤100→IsT d t→f=pre++t++post→∃v:Int,1≤v∧v≤d∧Y0n (m+d) f (pre.length:Int)=some (((pre.length+t.length:Nat):Int),v,true):=by
  intro d
  induction d with
  |zero=>intro _ _ _ _ _ h _;exact h.elim
  |succ d measure_ok=>
    intro t pre post m h100 h hf;obtain⟨n,ks,rfl,ha,hks,had⟩:=h;have hlt:pre.length<f.length:=by rw[hf];simp
    have hg:f.getD pre.length Yd=n:=by rw[hf,Xu];exact getD_mid _ _ _
    have h16:=ar_le ha;rw[show m+(d+1)=(m+d)+1 by omega,Y0n];unfold Y3q;rw[Y69 (by omega),Y1j (by omega)];rw[X02,hg,formula_arity_ok ha,X2,show(!((ks.length:Int),true).2)=false from rfl,cond_false];rw[Y49 (by omega)];have run:∀(j i q:Nat) (v:Int),i+j=ks.length→1≤v→v≤((d+1:Nat):Int)→∃r:Int,1≤r∧r≤((d+1:Nat):Int)∧iter (meB f (pre.length:Int) ((ks.length:Int),true) (Y0n (m+d))) (q+1+j) (((pre.length+1+(ks.take i).flatten.length:Nat):Int),v,(i:Int))=
        some (((pre.length+1+ks.flatten.length:Nat):Int),r,true):=by
      intro j
      induction j with
      |zero=>
        intro i q v hi h0 hv;refine⟨v,by omega,by omega, ?_⟩;rw[X0y,Yv];show Y0h _ _ _ _ _ _ _ _=_;unfold Y0h;rw[Y69 (by simp only;omega),X00 (by omega)]
      |succ j ih=>
        intro i q v hi h0 hv;rw[show q+1+(j+1)=(q+1+j)+1 by omega,Yv];have hik:i<ks.length:=by omega
        have kk:=kid_at (i:=i) (k:=ks[i]) hf hks (X1 hik);have aa:=had i _ (X1 hik);have⟨u,u1,u2,u3⟩:=measure_ok ks[i] _ _ m (by omega) (hks _ (List.getElem_mem hik)) kk.1;rw[kk.2.1] at u3;have htk:(ks.take (i+1)).flatten.length=(ks.take i).flatten.length+ks[i].length:=by
          rw[List.take_succ_eq_append_getElem hik];simp only[X0i,X0q,List.flatten_nil,X0d,X4]
        have e:meB f (pre.length:Int) ((ks.length:Int),true) (Y0n (m+d)) (iter (meB f (pre.length:Int) ((ks.length:Int),true) (Y0n (m+d))) (q+1+j)) (((pre.length+1+(ks.take i).flatten.length:Nat):Int),v,(i:Int))=
            iter (meB f (pre.length:Int) ((ks.length:Int),true) (Y0n (m+d))) (q+1+j) (((pre.length+1+(ks.take (i+1)).flatten.length:Nat):Int),(if u+1>v then u+1 else v),((i+1:Nat):Int)):=by
          show Y0h _ _ _ _ _ _ _ _=_;unfold Y0h;have c1:decide ((f.length:Int)≤((pre.length+1+(ks.take i).flatten.length:Nat):Int))=false:=by rw[decide_eq_false_iff_not];omega
          simp only[c1,Xy,cond_true,cond_false,X02,hg,kk.2.2.1,formula_adm,aa,X2,X0z,u3];rw[cd_pos (by omega),Y1j (fun _=>by omega),Y49 (by omega),Y49 (by omega),htk];congr 3;omega
        rw[e];exact ih (i+1) q _ (by omega) (by split<;>omega) (by split<;>omega)
    have⟨r,r1,r2,r3⟩:=run ks.length 0 (999999-ks.length) 1 (by omega) (by omega) (by omega);rw[show 999999-ks.length+1+ks.length=1000000 by omega] at r3;refine⟨r,r1,r2, ?_⟩;have e0:(pre.length:Int)+1=((pre.length+1+(ks.take 0).flatten.length:Nat):Int):=by simp
    rw[e0,show pre.length+(n::ks.flatten).length=pre.length+1+ks.flatten.length by simp;omega];exact r3
theorem formula_Valid_ok{f:List Y5}{d:Nat}(ht:IsT d f)(hd:d≤8)(hl:f.length≤60):Y4d f=some true:=by
  have⟨v,v1,v2,v3⟩:=measure_ok (f:=f) (by omega) d f [] [] (1000000-d) (by omega) ht (by simp);rw[show 1000000-d+d=1000000 by omega] at v3;have v3':Y5o f 0=some ((f.length:Int),v,true):=by
    unfold Y5o;simpa using v3
  unfold Y4d f_formula_Depth;rw[Y69 (by omega),v3',X2];simp only[X0z,cond_false,Xy,cond_true,bne_self_eq_false];rw[Y69 (by omega),X2];rw[show decide ((0:Int)<v)=true by rw[decide_eq_true_iff];omega]
end
open Go.Abs
def jnB (l:List (List Y5)):(List Y5×Int→Option (List Y5))→List Y5×Int→Option (List Y5):=fun loop s=>Y3l l loop s.1 s.2
theorem flat_len{L:Nat}:∀(ks:List (List Y5)),(∀k∈ks,k.length≤L)→ks.flatten.length≤ks.length*L
  |[],_=>by simp
  |k::ks,h=>by
    have:=flat_len ks (fun x hx=>h x (by simp[hx]));have h0:=h k (by simp);simp only[X0q,X4,Xa,X0u];omega
theorem joined_ok{n:Y5}{ks:List (List Y5)}(h1:ks.length≤16)(h2:∀k∈ks,k.length≤100000):Y1l n ks=some (n::ks.flatten):=by
  have run:∀(ls done:List (List Y5)) (m:Nat),ks=done++ls→iter (jnB ks) (m+1+ls.length) (n::done.flatten,(done.length:Int))=some (n::ks.flatten):=by
    intro ls
    induction ls with
    |nil=>
      intro done m he;have hd:done=ks:=by simpa using he.symm
      subst hd;rw[show m+1+([]:List (List Y5)).length=m+1 by simp,Yv];unfold jnB Y3l;rw[Y69 (by omega)]
    |cons k ls ih=>
      intro done m he;rw[show m+1+(k::ls).length=(m+1+ls.length)+1 by simp;omega,Yv];have hkl:ks.length=done.length+(ls.length+1):=by rw[he];simp
      have hg:ks.getD done.length []=k:=by rw[he];simp[List.getD]
      have hk:=h2 k (by rw[he];simp);have hfl:=flat_len done (L:=100000) (fun x hx=>h2 x (by rw[he];simp[hx]));have hfl2:done.flatten.length≤1600000:=X0r hfl (by have:done.length≤16:=(by omega);omega);have e:jnB ks (iter (jnB ks) (m+1+ls.length)) (n::done.flatten,(done.length:Int))=iter (jnB ks) (m+1+ls.length) ((n::done.flatten)++k,(done.length:Int)+1):=by
        show Y3l _ _ _ _=_;unfold Y3l;rw[cd_pos (by omega),Y1j (by omega),X02,hg,G_room (by simp only[Xa];omega),Y49 (by omega)]
      rw[e];have e2:=ih (done++[k]) m (by rw[he];simp);rw[←e2];congr 2
      · simp
      · simp
  unfold Y1l;have e:=run ks [] (999999-ks.length) rfl;rw[show 999999-ks.length+1+ks.length=1000000 by omega] at e;exact e
inductive Tr where
  |node (n:Y5) (ks:List Tr)
mutual
def Tr.flat:Tr→List Y5
  | .node n ks=>n::Y1a ks
def Y1a:List Tr→List Y5
  |[]=>[]
  |k::ks=>k.flat++Y1a ks
end
mutual
def Y43:Nat→Tr→Prop
  |0,_=>False
  |d+1,.node n ks=>ar n=some ks.length∧goodL d ks∧∀(i:Nat) (k:Tr),ks[i]? =some k→adm n i (hd k.flat)=true
def goodL:Nat→List Tr→Prop
  |_,[]=>True
  |d,k::ks=>Y43 d k∧goodL d ks
end
theorem Y2l:∀ks:List Tr,Y1a ks=(ks.map Tr.flat).flatten
  |[]=>rfl
  |k::ks=>by rw[Y1a,Y2l ks];rfl
theorem Y5d{d:Nat}:∀{ks:List Tr},goodL d ks↔∀k∈ks,Y43 d k
  |[]=>by simp[goodL]
  |k::ks=>by simp[goodL,Y5d (ks:=ks)]
theorem good_IsT:∀(d:Nat) (T:Tr),Y43 d T→IsT d T.flat
  |0,T,h=>by cases T;exact h.elim
  |d+1,.node n ks,h=>by
    have⟨h1,h2,h3⟩:=h;refine⟨n,ks.map Tr.flat,by rw[Tr.flat,Y2l],by rw[Xr];exact h1,fun k hk=> ?_,fun i k hk=> ?_⟩
    · obtain⟨T,hT,rfl⟩:=X06.1 hk;exact good_IsT d T (Y5d.1 h2 T hT)
    · rw[X0p] at hk;cases hi:ks[i]? with
      |none=>rw[hi] at hk;cases hk
      |some T=>
        rw[hi] at hk;simp only[Xz,X0] at hk;rw[←hk];exact h3 i T hi
theorem IsT_good:∀(d:Nat) (t:List Y5),IsT d t→∃T:Tr,T.flat=t∧Y43 d T
  |0,t,h=>h.elim
  |d+1,t,h=>by
    obtain⟨n,ks,rfl,h1,h2,h3⟩:=h;have kids:∀ls:List (List Y5),(∀k∈ls,IsT d k)→∃Ts:List Tr,Ts.map Tr.flat=ls∧goodL d Ts:=by
      intro ls
      induction ls with
      |nil=>intro _;exact⟨[],rfl,trivial⟩
      |cons l ls ih=>
        intro hl;have⟨T,e,g⟩:=IsT_good d l (hl l (by simp));have⟨Ts,es,gs⟩:=ih (fun k hk=>hl k (by simp[hk]));exact⟨T::Ts,by rw[Xs,e,es],g,gs⟩
    have⟨Ts,es,gs⟩:=kids ks h2;refine⟨.node n Ts,by rw[Tr.flat,Y2l,es],by rw[h1, ←es,Xr],gs,fun i k hk=> ?_⟩;exact h3 i k.flat (by rw[←es,X0p,hk];rfl)
mutual
def Tr.dep:Tr→Int
  | .node _ ks=>depL 1 ks
def depL:Int→List Tr→Int
  |d,[]=>d
  |d,k::ks=>depL (if k.dep+1>d then k.dep+1 else d) ks
end
end Go.Proofs.YtkgfbpbndmklnaaDoor
