/- Own work. -/
import Derived.Test.YtfpcbalkioolmaaDoorLibG
import Derived.Test.YtfpcbalkioolmaaDoorWA
set_option linter.unusedSimpArgs false
set_option linter.unusedVariables false
namespace Go.Abs
theorem Y1k{n:Int}{α:Type}{x:Option α}(h: -9223372036854775808≤n∧n≤9223372036854775807):G (inR n) x=x:=if_pos h
theorem Y1j{b n:Nat}{α:Type}{x:Option α}(h:n*b≤140737488355328∧n≤140737488355328):G (room b n) x=x:=if_pos h
theorem inR_of{n:Int}(h: -9223372036854775808≤n∧n≤9223372036854775807):inR n:=h
theorem Y2q{b:Bool}{α:Type}{x y:α}(h:b=true):cond b x y=x:=by grind
theorem Y3w{b:Bool}{α:Type}{x y:α}(h:b=false):cond b x y=y:=by grind
theorem wrap_i64{n:Int}(h: -9223372036854775808≤n∧n≤9223372036854775807):IntKind.wrap .i64 n=n:=IntWalk.i64_in n h
theorem getD_drop{α:Type}(l:List α)(i:Nat)(d:α)(h:i<l.length):l.drop i=l.getD i d::l.drop (i+1):=by
  simp_all
theorem Y5v{p:Prop}[Decidable p]{α:Type}{x y:α}(h:p):cond (decide p) x y=x:=by simp_all
theorem Y56{p:Prop}[Decidable p]{α:Type}{x y:α}(h:¬p):cond (decide p) x y=y:=by simp_all
theorem Y3c{α:Type}{a b:Int}{x y:α}(h:a=b):cond (a==b) x y=x:=by simp_all
theorem Y3d{α:Type}{a b:Int}{x y:α}(h:¬a=b):cond (a==b) x y=y:=by grind
theorem cn_pos{α:Type}{a b:Int}{x y:α}(h:¬a=b):cond (a !=b) x y=x:=by grind
theorem cn_neg{α:Type}{a b:Int}{x y:α}(h:a=b):cond (a !=b) x y=y:=by simp_all
theorem and_tt{a b:Bool}:cond a b false=(a&&b):=by cases a<;>rfl
end Go.Abs
namespace Go.Proofs.YtfpcbalkioolmaaDoor
section
open Go.Abs
def ar (n:Y1):Option Nat:=
  if n.Op=0 then(if 0≤n.N∧n.N≤99999 then some 0 else none)
  else if n.Op=1 then(if 0≤n.N∧n.N≤25 then some 0 else none)
  else if 2≤n.Op∧n.Op≤8 then(if n.N=0 then some 2 else none)
  else if 9≤n.Op∧n.Op≤11 then(if n.N=0 then some 1 else none)
  else if n.Op=12 then(if 2≤n.N∧n.N≤5 then some (n.N.toNat+1) else none)
  else if n.Op=13 then(if 8≤n.N∧n.N<40∧1≤n.N%8∧n.N%8≤4 then some ((n.N/8*(n.N%8)).toNat) else none)
  else none
def pr (o:Int):Int:=if o=5 then 1 else if o=2∨o=3 then 2 else if o=4 then 3 else 4
def adm (n:Y1) (i:Nat) (m:Y1):Bool:=
  if 2≤n.Op∧n.Op≤5 then(if i=0 then decide (pr n.Op≤pr m.Op) else decide (pr n.Op<pr m.Op)) else if n.Op=12 then decide (m.Op=0) else true
def hd (l:List Y1):Y1:=l.getD 0 Yh
def IsTA (A:Y1→Nat→Y1→Bool):Nat→List Y1→Prop
  |0,_=>False
  |d+1,l=>∃(n:Y1) (ks:List (List Y1)),l=n::ks.flatten∧ar n=some ks.length∧(∀k∈ks,IsTA A d k)∧∀(i:Nat) (k:List Y1),ks[i]? =some k→A n i (hd k)=true
abbrev IsT:=IsTA adm
variable {A:Y1→Nat→Y1→Bool}
theorem IsTA.mono:∀{d:Nat} {t:List Y1},IsTA A d t→IsTA A (d+1) t
  |0,t,h=>h.elim
  |d+1,t,h=>by
    have⟨n,ks,h1,h2,h3,h4⟩:=h;exact⟨n,ks,h1,h2,fun k hk=>IsTA.mono (h3 k hk),h4⟩
theorem IsTA.le{d e:Nat}{t:List Y1}(h:IsTA A d t)(hde:d≤e):IsTA A e t:=by
  induction e with
  |zero=>simp_all
  |succ e ih=>
    by_cases he:d=e+1
    · simp_all
    · exact(ih (by omega)).mono
theorem IsTA.pos{d:Nat}{t:List Y1}(h:IsTA A d t):0<t.length:=by
  cases d with
  |zero=>exact h.elim
  |succ d=>obtain⟨n,ks,rfl,_⟩:=h;simp
theorem IsT.le{d e:Nat}{t:List Y1}(h:IsT d t)(hde:d≤e):IsT e t:=IsTA.le h hde
theorem ar_cases{n:Y1}{k:Nat}(h:ar n=some k):n.Op=0∨n.Op=1∨n.Op=2∨n.Op=3∨n.Op=4∨n.Op=5∨n.Op=6∨n.Op=7∨n.Op=8∨n.Op=9∨n.Op=10∨n.Op=11∨n.Op=12∨n.Op=13:=by
  unfold ar at h
  grind
theorem tdiv8{n:Int}(h:0≤n):Int.tdiv n 8=n/8:=X1t h
theorem tmod8{n:Int}(h:0≤n):Int.tmod n 8=n%8:=X1s h
theorem mat_mul{n:Int}(h:8≤n∧n<40∧1≤n%8∧n%8≤4):0≤n/8*(n%8)∧n/8*(n%8)≤16:=by
  have h1:n/8≤4:=by omega
  have h2:n%8≤4:=by omega
  have h3:0≤n/8:=by omega
  have h4:0≤n%8:=by omega
  have:=Int.mul_le_mul h1 h2 h4 (by omega:(0:Int)≤4);exact⟨Int.mul_nonneg h3 h4,by omega⟩
theorem ar_le {n : Y1} {k : Nat} (h : ar n = some k) : k ≤ 16 := by
  unfold ar at h
  repeat' split at h
  all_goals simp only [X0, reduceCtorEq] at h
  all_goals subst h
  all_goals first
    | omega
    | (rename_i hx
       have := mat_mul hx
       omega)
theorem R09_Arity_ok {n : Y1} {k : Nat} (h : ar n = some k) : Y5n n = some (k : Int) := by
  have hc := ar_cases h
  obtain ⟨o, N⟩ := n
  simp only at hc
  rcases hc with rfl | rfl | rfl | rfl | rfl | rfl | rfl | rfl | rfl | rfl | rfl | rfl | rfl | rfl
  all_goals first
    | (simp only [ar, Int.reduceEq, if_false, if_true, Int.reduceLE, and_true, true_and, and_self, and_false, false_and] at h
       split at h
       · rename_i hN
         simp only [X0] at h
         subst h
         first
           | (simp [Y5n, Y44, Y77, hN]; done)
           | (have h3 : inR (N + 1) := inR_of (by omega)
              simp [Y5n, Y44, Y77, hN, Y2s h3]; omega)
           | (have h0 : 0 ≤ N := by omega
              have hm := mat_mul hN
              have h3 : inR (N / 8) := inR_of (by omega)
              have h4 : inR (N / 8 * (N % 8)) := inR_of (by omega)
              have c1 : (0 : Int) < N := by omega
              have c2 : 1 ≤ N / 8 := by omega
              have c3 : N / 8 ≤ 4 := by omega
              simp [Y5n, Y44, Y77, tdiv8 h0, tmod8 h0, Y2s h3, Y2s h4, c1, c2, c3, hN]
              omega)
       · cases h)
theorem formula_arity_ok {n : Y1} {k : Nat} (h : ar n = some k) : Y50 n = some ((k : Int), true) := by
  have hc := ar_cases h
  obtain ⟨o, N⟩ := n
  simp only at hc
  rcases hc with rfl | rfl | rfl | rfl | rfl | rfl | rfl | rfl | rfl | rfl | rfl | rfl | rfl | rfl
  all_goals first
    | (simp only [ar, Int.reduceEq, if_false, if_true, Int.reduceLE, and_true, true_and, and_self, and_false, false_and] at h
       split at h
       · rename_i hN
         simp only [X0] at h
         subst h
         first
           | (simp [Y50, Y26, Y52, hN]; done)
           | (have h3 : inR (N + 1) := inR_of (by omega)
              have c1 : ¬ N < 2 := by omega
              have c2 : ¬ 5 < N := by omega
              simp [Y50, Y26, Y52, c1, c2, Y2s h3]; omega)
           | (have h0 : 0 ≤ N := by omega
              have hm := mat_mul hN
              have h3 : inR (N / 8) := inR_of (by omega)
              have h4 : inR (N / 8 * (N % 8)) := inR_of (by omega)
              have c1 : ¬ N < 0 := by omega
              have c2 : 1 ≤ N / 8 := by omega
              have c3 : N / 8 ≤ 4 := by omega
              simp [Y50, Y26, Y52, tdiv8 h0, tmod8 h0, Y2s h3, Y2s h4, c1, c2, c3, hN]
              omega)
       · cases h)
theorem R09_prec(o:Int):Y0m o=some (pr o):=by
  unfold Y0m Y94 f_R09_Precedence_k1 pr
  grind
theorem formula_prec(o:Int):Y20 o=some (pr o):=by
  unfold Y20 Y6w f_formula_precedence_k1 pr
  grind
theorem formula_adm(n m:Y1)(i:Nat):Y5z n (i:Int) m=some (adm n i m):=by
  unfold Y5z Y5m f_formula_admits_k1 adm;have hi:((i:Int)==0)=decide (i=0):=by
    grind
  simp only[formula_prec,X1,hi]
  grind
theorem getD_mid(pre post:List Y1)(n:Y1):(pre++n::post).getD pre.length Yh=n:=by simp_all
def endB (f:List Y1):(Int×Int→Option Int)→Int×Int→Option Int:=fun loop s=>f_R09_End_b1 f loop s.1 s.2
theorem end_step{f pre post:List Y1}{n:Y1}{k:Nat}(hf:f=pre++n::post)(hl:f.length≤100000)(ha:ar n=some k){o:Nat}(h0:0<o)(h1:o≤4000000)(loop:Int×Int→Option Int):
    endB f loop ((pre.length:Int),(o:Int))=loop (((pre.length+1:Nat):Int),((o+k-1:Nat):Int)):=by
  have hlt:pre.length<f.length:=by grind
  have hg:f.getD pre.length Yh=n:=by simp_all
  have hk:=ar_le ha;unfold endB f_R09_End_b1;have c1:decide ((0:Int)<(o:Int))=true:=by simp_all
  have c2:decide ((pre.length:Int)<0)=false:=by simp
  have c3:decide ((f.length:Int)≤(pre.length:Int))=false:=by grind
  have c4:decide ((k:Int)<0)=false:=by simp
  have hb:(0:Int)≤(pre.length:Int)∧(pre.length:Int)<(f.length:Int):=by omega
  have g1:inR ((k:Int)-1):=inR_of (by omega);have g2:inR ((o:Int)+((k:Int)-1)):=inR_of (by omega);have g3:inR ((pre.length:Int)+1):=inR_of (by omega);simp only[c1,cond_true,c2,cond_false,c3,X1g,Xl,hg,R09_Arity_ok ha,X1,c4,Y2s hb,Y2s g1,Y2s g2,Y2s g3];rw[Y2s (fun _=>hb)]
  grind
theorem end_run(f:List Y1)(hl:f.length≤100000):∀(d:Nat) (t pre post:List Y1) (o:Nat),IsTA A d t→f=pre++t++post→0<o→o+16*t.length≤4000000→∀m,iter (endB f) (m+t.length) ((pre.length:Int),(o:Int))=iter (endB f) m (((pre.length+t.length:Nat):Int),((o-1:Nat):Int))
  |0,_,_,_,_,h,_,_,_=>h.elim
  |d+1,t,pre,post,o,h,hf,h0,h1=>by
    intro m;obtain⟨n,ks,rfl,ha,hks,_⟩:=h;have hf':f=pre++n::(ks.flatten++post):=by grind
    have hlen:(n::ks.flatten).length=ks.flatten.length+1:=by simp
    rw[hlen,show m+(ks.flatten.length+1)=(m+ks.flatten.length)+1 by omega,Yw,end_step hf' hl ha h0 (by omega)];have kids:∀(ks:List (List Y1)) (pre post:List Y1) (o:Nat),(∀k∈ks,IsTA A d k)→f=pre++(ks.flatten++post)→ks.length≤o→o+16*ks.flatten.length≤4000000→∀m,iter (endB f) (m+ks.flatten.length) ((pre.length:Int),(o:Int))=iter (endB f) m (((pre.length+ks.flatten.length:Nat):Int),((o-ks.length:Nat):Int)):=by
      intro ks
      induction ks with
      |nil=>simp_all
      |cons k ks ih=>
        intro pre post o hk hf ho h1 m;simp only[X7,X1c,X4] at ho h1⊢;have e1:=end_run f hl d k pre (ks.flatten++post) o (hk k (by simp)) (by grind) (by omega) (by omega) (m+ks.flatten.length);rw[show m+(k.length+ks.flatten.length)=m+ks.flatten.length+k.length by omega,e1];have e2:=ih (pre++k) post (o-1) (fun q hq=>hk q (by simp[hq])) (by grind) (by omega) (by omega) m;simp only[X4] at e2;rw[e2,show pre.length+k.length+ks.flatten.length=pre.length+(k.length+ks.flatten.length) by omega,show o-1-ks.length=o-(ks.length+1) by omega]
    have hk:=ar_le ha;have e3:=kids ks (pre++[n]) post (o+ks.length-1) hks (by simp_all) (by omega) (by omega) m;simp only[X4,Xc] at e3;rw[e3,show pre.length+1+ks.flatten.length=pre.length+(ks.flatten.length+1) by omega,show o+ks.length-1-ks.length=o-1 by omega]
theorem End_ok{f pre t post:List Y1}{d:Nat}(ht:IsTA A d t)(hf:f=pre++t++post)(hl:f.length≤100000):f_R09_End f (pre.length:Int)=some ((pre.length+t.length:Nat):Int):=by
  have hle:t.length≤f.length:=by grind
  have e:=end_run f hl d t pre post 1 ht hf (by omega) (by omega) (999999-t.length+1);unfold f_R09_End;have e2:999999-t.length+1+t.length=1000000:=by omega
  rw[e2] at e;refine Eq.trans e ?_
  rfl
end
section
open Go.Abs
variable {A:Y1→Nat→Y1→Bool}
theorem tmod_n{v:Int}(h:0≤v)(n:Int):Int.tmod v n=v%n:=X1s h
def offs:Nat→List (List Y1)→List Int
  |_,[]=>[]
  |p,k::ks=>(p:Int)::offs (p+k.length) ks
theorem offs_len:∀(ks:List (List Y1)) (p:Nat),(offs p ks).length=ks.length
  |[],_=>rfl
  |k::ks,p=>by simp[offs,offs_len ks]
theorem offs_app:∀(ks ls:List (List Y1)) (p:Nat),offs p (ks++ls)=offs p ks++offs (p+ks.flatten.length) ls
  |[],ls,p=>by rfl
  |k::ks,ls,p=>by simp[offs,offs_app ks ls,X0d]
theorem offs_get:∀(ks:List (List Y1)) (p i:Nat),i<ks.length→(offs p ks).getD i 0=((p+(ks.take i).flatten.length:Nat):Int)
  |[],p,i,h=>by simp at h
  |k::ks,p,0,h=>by rfl
  |k::ks,p,i+1,h=>by
    simp only[offs,List.getD_cons_succ];rw[offs_get ks _ i (by grind)];simp[X0d]
def opB (f:List Y1) (i:Int):(List Int×Int×Int→Option (List Int))→List Int×Int×Int→Option (List Int):=fun loop s=>Y5i f i loop s.1 s.2.1 s.2.2
theorem op_run{f pre post:List Y1}{n:Y1}{ks:List (List Y1)}{d:Nat}(hf:f=pre++(n::ks.flatten)++post)(hl:f.length≤100000)(ha:ar n=some ks.length)(hks:∀k∈ks,IsTA A d k):
    ∀(ls done:List (List Y1)) (m:Nat),ks=done++ls→iter (opB f (pre.length:Int)) (m+1+ls.length) (offs (pre.length+1) done,((pre.length+1+done.flatten.length:Nat):Int),(done.length:Int))=some (offs (pre.length+1) ks):=by
  have hlt:pre.length<f.length:=by grind
  have hg:f.getD pre.length Yh=n:=by simp_all
  have hb:(0:Int)≤(pre.length:Int)∧(pre.length:Int)<(f.length:Int):=by omega
  intro ls
  induction ls with
  |nil=>
    intro done m he;have hd:done=ks:=by simp_all
    subst hd;rw[show m+1+([]:List (List Y1)).length=m+1 by simp,Yw];unfold opB Y5i;simp only[Y2s hb,Xl,hg,R09_Arity_ok ha,X1];rw[Y56 (by omega)]
  |cons k ls ih=>
    intro done m he;rw[show m+1+(k::ls).length=(m+1+ls.length)+1 by rfl,Yw];have hkl:ks.length=done.length+(ls.length+1):=by grind
    have h16:=ar_le ha;have hf2:f=(pre++n::done.flatten)++k++(ls.flatten++post):=by simp_all
    have hE:=End_ok (hks k (by grind)) hf2 hl;have hpl:(pre++n::done.flatten).length=pre.length+1+done.flatten.length:=by grind
    rw[hpl] at hE;have e:opB f (pre.length:Int) (iter (opB f (pre.length:Int)) (m+1+ls.length)) (offs (pre.length+1) done,((pre.length+1+done.flatten.length:Nat):Int),(done.length:Int))=
        iter (opB f (pre.length:Int)) (m+1+ls.length) (offs (pre.length+1) done++[((pre.length+1+done.flatten.length:Nat):Int)],((pre.length+1+done.flatten.length+k.length:Nat):Int),(done.length:Int)+1):=by
      show Y5i _ _ _ _ _ _=_;unfold Y5i;simp only[Y2s hb,Xl,hg,R09_Arity_ok ha,X1];rw[Y5v (by omega),Y1j (by rw[offs_len];omega),hE,X1,Y1k (by omega)]
    rw[e];have e2:=ih (done++[k]) m (by grind);rw[offs_app,show offs (pre.length+1+done.flatten.length) [k]=[((pre.length+1+done.flatten.length:Nat):Int)] from rfl] at e2
    grind
theorem Operands_ok{f pre post:List Y1}{n:Y1}{ks:List (List Y1)}{d:Nat}(hf:f=pre++(n::ks.flatten)++post)(hl:f.length≤100000)(ha:ar n=some ks.length)(hks:∀k∈ks,IsTA A d k):
    Y3b f (pre.length:Int)=some (offs (pre.length+1) ks):=by
  have hlt:pre.length<f.length:=by grind
  have h16:=ar_le ha;unfold Y3b;rw[Y1k (by omega)];have e:=op_run hf hl ha hks ks [] (999999-ks.length) rfl;rw[show 999999-ks.length+1+ks.length=1000000 by omega] at e;have e0:(pre.length:Int)+1=((pre.length+1+([]:List (List Y1)).flatten.length:Nat):Int):=by simp
  rw[e0];exact e
theorem hd_at{f pre k post:List Y1}{d:Nat}(hk:IsTA A d k)(hf:f=pre++k++post):f.getD pre.length Yh=hd k∧pre.length<f.length:=by
  have:=hk.pos;cases k with
  |nil=>grind
  |cons x k=>
    subst hf;refine⟨?_,by simp⟩;rw[Xh];exact getD_mid _ _ _
theorem kid_at{f pre post:List Y1}{n:Y1}{ks:List (List Y1)}{d:Nat}(hf:f=pre++(n::ks.flatten)++post)(hks:∀k∈ks,IsTA A d k){i:Nat}{k:List Y1}(hk:ks[i]? =some k):
    f=(pre++n::(ks.take i).flatten)++k++((ks.drop (i+1)).flatten++post)∧(pre++n::(ks.take i).flatten).length=pre.length+1+(ks.take i).flatten.length∧f.getD (pre.length+1+(ks.take i).flatten.length) Yh=hd k∧pre.length+1+(ks.take i).flatten.length<f.length:=by
  have hi:=(Xj.1 hk).1;have hke:=(Xj.1 hk).2;have hsp:ks=ks.take i++k::ks.drop (i+1):=by
    rw[←hke,List.getElem_cons_drop,X0i]
  have h1:f=(pre++n::(ks.take i).flatten)++k++((ks.drop (i+1)).flatten++post):=by
    grind
  have h2:(pre++n::(ks.take i).flatten).length=pre.length+1+(ks.take i).flatten.length:=by grind
  have h3:=hd_at (hks k (X0c hk)) h1
  grind
def sdB (f:List Y1) (l:List Int):(Int→Option Bool)→Int→Option Bool:=fun loop s=>Y76 f l loop s
theorem sound_ok{f pre post:List Y1}{n:Y1}{ks:List (List Y1)}{d:Nat}(hf:f=pre++(n::ks.flatten)++post)(hl:f.length≤100000)(ha:ar n=some ks.length)(hks:∀k∈ks,IsTA A d k)
    (had:∀(i:Nat) (k:List Y1),ks[i]? =some k→adm n i (hd k)=true):f_R09_sound f (pre.length:Int)=some true:=by
  have hlt:pre.length<f.length:=by grind
  have hg:f.getD pre.length Yh=n:=by simp_all
  have hb:(0:Int)≤(pre.length:Int)∧(pre.length:Int)<(f.length:Int):=by omega
  have h16:=ar_le ha;have two:2≤n.Op→n.Op≤5→Y6d f (pre.length:Int) (offs (pre.length+1) ks) true=some true:=by
    intro h2 h5;have hk2:ks.length=2:=by
      unfold ar at ha
      grind
    match hks2:ks,hk2 with
    |[a,b],_=>
      have k0:=kid_at (i:=0) (k:=a) hf hks rfl;have k1:=kid_at (i:=1) (k:=b) hf hks rfl;have a0:=had 0 a rfl;have a1:=had 1 b rfl;unfold adm at a0 a1;rw[if_pos ⟨h2,h5⟩] at a0 a1;simp only[if_true,Nat.succ_ne_zero,if_false,decide_eq_true_eq] at a0 a1;simp only[List.take_zero,List.flatten_nil,Xd,X0f,X07,X1c,X4] at k0 k1;unfold Y6d;simp only[cond_true,Xl,hg,R09_prec,X1,offs,X7,Xd,Int.toNat_zero,X1i];rw[Y2s (by omega),Y2s (by omega),k0.2.2.1];have c1:decide (pr n.Op≤pr (hd a).Op)=true:=by simp_all
      rw[c1];have e1:([((pre.length+1:Nat):Int),((pre.length+1+a.length:Nat):Int)]:List Int).getD (1:Int).toNat 0=((pre.length+1+a.length:Nat):Int):=rfl;rw[e1];rw[Y2s (fun _=>by omega),Y2s (fun _=>by omega)];simp only[cond_true,Xl,k1.2.2.1,X1,X0,decide_eq_true_eq];exact a1
  unfold f_R09_sound;rw[Operands_ok hf hl ha hks,X1,Y2s hb];simp only[Xl,hg]
  by_cases h2:n.Op=2
  · simp_all
  · rw[Y3d h2]
    by_cases h3:n.Op=3
    · simp_all
    · rw[Y3d h3]
      by_cases h4:n.Op=4
      · simp_all
      · rw[Y3d h4]
        by_cases h5:n.Op=5
        · simp_all
        · rw[beq_eq_false_iff_ne.2 h5];unfold Y6d;simp only[cond_false,Xl,hg]
          by_cases h12:n.Op=12
          · rw[Y3c h12];have run:∀(j i m:Nat),i+j=ks.length→iter (sdB f (offs (pre.length+1) ks)) (m+1+j) (i:Int)=some true:=by
              intro j
              induction j with
              |zero=>
                intro i m hi;rw[X0f,Yw];unfold sdB Y76 f_R09_sound_k1;rw[Y56 (by rw[offs_len];omega)]
              |succ j ih=>
                intro i m hi;rw[show m+1+(j+1)=(m+1+j)+1 by omega,Yw];have hik:i<ks.length:=by omega
                have kk:=kid_at (i:=i) (k:=ks[i]) hf hks (X5 hik);have aa:=had i _ (X5 hik);unfold adm at aa;rw[Vn,if_pos h12] at aa;have aa':(hd ks[i]).Op=0:=by simp_all
                have e:sdB f (offs (pre.length+1) ks) (iter (sdB f (offs (pre.length+1) ks)) (m+1+j)) (i:Int)=iter (sdB f (offs (pre.length+1) ks)) (m+1+j) ((i+1:Nat):Int):=by
                  show Y76 _ _ _ _=_;unfold Y76;simp only[Xl,offs_get ks _ i hik];rw[Y5v (by rw[offs_len];omega),Y2s (by rw[offs_len];omega),Y2s (by omega),kk.2.2.1,cn_neg aa',Y1k (by omega)]
                  rfl
                rw[e];exact ih (i+1) m (by omega)
            have e:=run ks.length 0 (999999-ks.length) (by omega);rw[show 999999-ks.length+1+ks.length=1000000 by omega] at e;exact e
          · rw[Y3d h12];rfl
theorem sub_at:∀(d:Nat) (t:List Y1) (i:Nat),IsTA A d t→i<t.length→∃(pre:List Y1) (n:Y1) (ks:List (List Y1)) (post:List Y1) (e:Nat),t=pre++(n::ks.flatten)++post∧pre.length=i∧ar n=some ks.length∧(∀k∈ks,IsTA A e k)∧∀(j:Nat) (k:List Y1),ks[j]? =some k→A n j (hd k)=true
  |0,_,_,h,_=>h.elim
  |d+1,t,i,h,hi=>by
    obtain⟨n,ks,rfl,h2,h3,h4⟩:=h;cases i with
    |zero=>exact⟨[],n,ks,[],d,by simp,rfl,h2,h3,h4⟩
    |succ i=>
      have kids:∀(ls:List (List Y1)) (i:Nat),(∀k∈ls,IsTA A d k)→i<ls.flatten.length→∃(pre:List Y1) (n:Y1) (ks:List (List Y1)) (post:List Y1) (e:Nat),ls.flatten=pre++(n::ks.flatten)++post∧pre.length=i∧ar n=some ks.length∧(∀k∈ks,IsTA A e k)∧∀(j:Nat) (k:List Y1),ks[j]? =some k→A n j (hd k)=true:=by
        intro ls
        induction ls with
        |nil=>simp_all
        |cons l ls ih=>
          intro i hk hi
          by_cases hil:i<l.length
          · have⟨pre,n,ks,post,e,h1,h5,h6⟩:=sub_at d l i (hk l (by simp)) hil;exact⟨pre,n,ks,post++ls.flatten,e,by simp_all,h5,h6⟩
          · have⟨pre,n,ks,post,e,h1,h5,h6⟩:=ih (i-l.length) (fun k hk'=>hk k (by simp[hk'])) (by grind);exact⟨l++pre,n,ks,post,e,by simp_all,by simp_all,h6⟩
      have⟨pre,n',ks',post,e,h1,h5,h6⟩:=kids ks i h3 (by simp_all);exact⟨n::pre,n',ks',post,e,by grind,by simp[h5],h6⟩
def trB (f:List Y1):(Int→Option Bool)→Int→Option Bool:=fun loop s=>Y8b f loop s
theorem Tree_ok{f:List Y1}{d:Nat}(ht:IsT d f)(hl:f.length≤200):f_R09_Tree f=some true:=by
  have hp:=ht.pos;unfold f_R09_Tree;have hE:=End_ok (f:=f) (pre:=[]) (post:=[]) ht (by simp) (by omega);simp only[Xd,X05] at hE;have c1:((f.length:Int)==0)=false:=by grind
  have c2:decide ((200:Int)<(f.length:Int))=false:=by grind
  have hE':f_R09_End f 0=some (f.length:Int):=hE;simp only[c1,c2,cond_false,X1g,cond_true,hE',X1,bne_self_eq_false];have run:∀(j i m:Nat),i+j=f.length→iter (trB f) (m+1+j) (i:Int)=some true:=by
    intro j
    induction j with
    |zero=>
      intro i m hi;rw[X0f,Yw];unfold trB Y8b;rw[Y56 (by omega)]
    |succ j ih=>
      intro i m hi;rw[show m+1+(j+1)=(m+1+j)+1 by omega,Yw];have⟨pre,n,ks,post,e,h1,h2,h3,h4,h5⟩:=sub_at d f i ht (by omega);have hs:=sound_ok h1 (by omega) h3 h4 h5;rw[h2] at hs;have e:trB f (iter (trB f) (m+1+j)) (i:Int)=iter (trB f) (m+1+j) ((i+1:Nat):Int):=by
        show Y8b _ _ _=_;unfold Y8b;rw[Y5v (by omega),hs,X1,X1q,cond_false,Y1k (by omega)]
        rfl
      rw[e];exact ih (i+1) m (by omega)
  have e:=run f.length 0 (999999-f.length) (by omega);rw[show 999999-f.length+1+f.length=1000000 by omega] at e;exact e
def dpB (f:List Y1) (l:List Int) (rc:List Y1→Int→Option Int):(Int×Int→Option Int)→Int×Int→Option Int:=fun loop s=>Y3p rc f l loop s.1 s.2
theorem depth_ok{f:List Y1}(hl:f.length≤100000):∀(d:Nat) (t pre post:List Y1) (m:Nat),d≤100→IsTA A d t→f=pre++t++post→∃v:Nat,1≤v∧v≤d∧IsTA A v t∧Y3f (m+d) f (pre.length:Int)=some (v:Int)
  |0,_,_,_,_,_,h,_=>h.elim
  |d+1,t,pre,post,m,h100,h,hf=>by
    obtain⟨n,ks,rfl,ha,hks,had⟩:=h;rw[show m+(d+1)=(m+d)+1 by omega,Y3f];unfold f_R09_depth_body;rw[Operands_ok hf hl ha hks,X1];have h16:=ar_le ha;have run:∀(j i q v:Nat),i+j=ks.length→v≤d→(∀k∈ks.take i,IsTA A v k)→∃r:Nat,r≤d∧(∀k∈ks,IsTA A r k)∧iter (dpB f (offs (pre.length+1) ks) (Y3f (m+d))) (q+1+j) ((v:Int),(i:Int))=some ((r+1:Nat):Int):=by
      intro j
      induction j with
      |zero=>
        intro i q v hi hv hk;refine⟨v,hv,by rwa[Xu (by omega)] at hk, ?_⟩;rw[X0f,Yw];show Y3p _ f _ _ (v:Int) (i:Int)=_;unfold Y3p;rw[Y56 (by rw[offs_len];omega),Y1k (by omega)]
        rfl
      |succ j ih=>
        intro i q v hi hv hk;rw[show q+1+(j+1)=(q+1+j)+1 by omega,Yw];have hik:i<ks.length:=by omega
        have kk:=kid_at (i:=i) (k:=ks[i]) hf hks (X5 hik);have⟨u,u1,u2,u4,u3⟩:=depth_ok hl d ks[i] _ _ m (by omega) (hks _ (List.getElem_mem hik)) kk.1;rw[kk.2.1] at u3;have e:dpB f (offs (pre.length+1) ks) (Y3f (m+d)) (iter (dpB f (offs (pre.length+1) ks) (Y3f (m+d))) (q+1+j)) ((v:Int),(i:Int))=iter (dpB f (offs (pre.length+1) ks) (Y3f (m+d))) (q+1+j) (((max v u:Nat):Int),((i+1:Nat):Int)):=by
          show Y3p _ _ _ _ _ _=_;unfold Y3p;simp only[Xl,offs_get ks _ i hik];rw[Y5v (by rw[offs_len];omega),Y2s (by rw[offs_len];omega),u3,X1,Y1k (by omega)]
          grind
        rw[e];refine ih (i+1) q _ (by omega) (by omega) (fun k hk'=> ?_);rw[List.take_succ_eq_append_getElem hik] at hk';rcases Xi.1 hk' with h|h
        · exact(hk k h).le (by omega)
        · have:k=ks[i]:=by grind
          rw[this];exact u4.le (by omega)
    have⟨r,r2,r4,r3⟩:=run ks.length 0 (999999-ks.length) 0 (by omega) (by omega) (fun k hk=>by simp at hk);rw[show 999999-ks.length+1+ks.length=1000000 by omega] at r3;exact⟨r+1,by omega,by omega,⟨n,ks,rfl,ha,r4,had⟩,r3⟩
theorem R09_Valid_ok{f:List Y1}{d:Nat}(ht:IsT d f)(hd:d≤8)(hl:f.length≤100000):Y4r f=some (decide (f.length≤60)):=by
  unfold Y4r
  by_cases h:f.length≤60
  · rw[Y5v (by omega),Tree_ok ht (by omega),X1];have⟨v,v1,v2,_,v3⟩:=depth_ok hl d f [] [] (1000000-d) (by omega) ht (by simp);rw[show 1000000-d+d=1000000 by omega] at v3;have hD:Y7x f=some (v:Int):=by
      unfold Y7x f_R09_depth;have v3':Y3f 1000000 f 0=some (v:Int):=v3;rw[v3',X1]
    grind
  grind
def meB (f:List Y1) (i:Int) (x:Int×Bool) (rc:List Y1→Int→Option (Int×Int×Bool)):(Int×Int×Int→Option (Int×Int×Bool))→Int×Int×Int→Option (Int×Int×Bool):=fun loop s=>Y1v rc f i x loop s.1 s.2.1 s.2.2
theorem measure_ok{f:List Y1}(hl:f.length≤100000):∀(d:Nat) (t pre post:List Y1) (m:Nat),d≤100→IsT d t→f=pre++t++post→∃v:Int,1≤v∧v≤d∧Y1u (m+d) f (pre.length:Int)=some (((pre.length+t.length:Nat):Int),v,true):=by
  intro d
  induction d with
  |zero=>intro _ _ _ _ _ h _;exact h.elim
  |succ d measure_ok=>
    intro t pre post m h100 h hf;obtain⟨n,ks,rfl,ha,hks,had⟩:=h;have hlt:pre.length<f.length:=by grind
    have hg:f.getD pre.length Yh=n:=by simp_all
    have h16:=ar_le ha;rw[show m+(d+1)=(m+d)+1 by omega,Y1u];unfold Y7b;rw[Y56 (by omega),Y2s (by omega)];rw[Xl,hg,formula_arity_ok ha,X1,show(!((ks.length:Int),true).2)=false from rfl,cond_false];rw[Y1k (by omega)];have run:∀(j i q:Nat) (v:Int),i+j=ks.length→1≤v→v≤((d+1:Nat):Int)→∃r:Int,1≤r∧r≤((d+1:Nat):Int)∧iter (meB f (pre.length:Int) ((ks.length:Int),true) (Y1u (m+d))) (q+1+j) (((pre.length+1+(ks.take i).flatten.length:Nat):Int),v,(i:Int))=
        some (((pre.length+1+ks.flatten.length:Nat):Int),r,true):=by
      intro j
      induction j with
      |zero=>
        intro i q v hi h0 hv;refine⟨v,by omega,by omega, ?_⟩;rw[X0f,Yw];show Y1v _ _ _ _ _ _ _ _=_;unfold Y1v;rw[Y56 (by simp_all),Xu (by omega)]
      |succ j ih=>
        intro i q v hi h0 hv;rw[show q+1+(j+1)=(q+1+j)+1 by omega,Yw];have hik:i<ks.length:=by omega
        have kk:=kid_at (i:=i) (k:=ks[i]) hf hks (X5 hik);have aa:=had i _ (X5 hik);have⟨u,u1,u2,u3⟩:=measure_ok ks[i] _ _ m (by omega) (hks _ (List.getElem_mem hik)) kk.1;rw[kk.2.1] at u3;have htk:(ks.take (i+1)).flatten.length=(ks.take i).flatten.length+ks[i].length:=by
          rw[List.take_succ_eq_append_getElem hik]
          grind
        have e:meB f (pre.length:Int) ((ks.length:Int),true) (Y1u (m+d)) (iter (meB f (pre.length:Int) ((ks.length:Int),true) (Y1u (m+d))) (q+1+j)) (((pre.length+1+(ks.take i).flatten.length:Nat):Int),v,(i:Int))=
            iter (meB f (pre.length:Int) ((ks.length:Int),true) (Y1u (m+d))) (q+1+j) (((pre.length+1+(ks.take (i+1)).flatten.length:Nat):Int),(if u+1>v then u+1 else v),((i+1:Nat):Int)):=by
          show Y1v _ _ _ _ _ _ _ _=_;unfold Y1v;have c1:decide ((f.length:Int)≤((pre.length+1+(ks.take i).flatten.length:Nat):Int))=false:=by grind
          simp only[c1,X1g,cond_true,cond_false,Xl,hg,kk.2.2.1,formula_adm,aa,X1,X1q,u3];rw[Y5v (by omega),Y2s (fun _=>by omega),Y1k (by omega),Y1k (by omega),htk]
          grind
        rw[e];exact ih (i+1) q _ (by omega) (by split<;>omega) (by split<;>omega)
    have⟨r,r1,r2,r3⟩:=run ks.length 0 (999999-ks.length) 1 (by omega) (by omega) (by omega);rw[show 999999-ks.length+1+ks.length=1000000 by omega] at r3;refine⟨r,r1,r2, ?_⟩;have e0:(pre.length:Int)+1=((pre.length+1+(ks.take 0).flatten.length:Nat):Int):=by simp
    rw[e0,show pre.length+(n::ks.flatten).length=pre.length+1+ks.flatten.length by grind];exact r3
theorem formula_Valid_ok{f:List Y1}{d:Nat}(ht:IsT d f)(hd:d≤8)(hl:f.length≤60):Y6o f=some true:=by
  have⟨v,v1,v2,v3⟩:=measure_ok (f:=f) (by omega) d f [] [] (1000000-d) (by omega) ht (by simp);rw[show 1000000-d+d=1000000 by omega] at v3;have v3':Y6n f 0=some ((f.length:Int),v,true):=by
    unfold Y6n
    simp_all
  unfold Y6o Y7t;rw[Y56 (by omega),v3',X1];simp only[X1q,cond_false,X1g,cond_true,bne_self_eq_false];rw[Y56 (by omega),X1];rw[show decide ((0:Int)<v)=true by grind]
end
open Go.Abs
def OkM (s:Yb):Prop:=(∀i:Nat,0≤s.B.getD i 0∧s.B.getD i 0≤255)∧s.B.length≤40∧0≤s.At∧s.At≤s.B.length
theorem take_ok{s:Yb}(h:OkM s):∃(v:Int) (s':Yb),Y14 s=some (v,s')∧0≤v∧v≤255∧OkM s':=by
  have⟨h1,h2,h3,h4⟩:=h;unfold Y14
  by_cases hc:(s.B.length:Int)≤s.At
  · exact⟨0,s,by rw[Y5v hc],by omega,by omega,h1,h2,h3,h4⟩
  · have hb:=h1 ((s.At+1)-1).toNat;refine⟨_,⟨s.B,s.At+1⟩,by rw[Y56 hc,Y1k (by omega),Y1k (by omega),Y2s (by omega),wrap_i64 (by omega)],hb.1,hb.2,h1,h2,by grind,by grind⟩
theorem number_ok{s:Yb}(h:OkM s):∃(n:Y1) (s':Yb),Y2p s=some ([n],s')∧n.Op=0∧0≤n.N∧n.N≤99999∧OkM s':=by
  have⟨v,s1,e1,v0,v1,h1⟩:=take_ok h;have⟨w,s2,e2,w0,w1,h2⟩:=take_ok h1;have hm:0≤w%3∧w%3≤2:=by omega
  have hp:0≤v*(1+w%3)∧v*(1+w%3)≤255*3:=⟨Int.mul_nonneg v0 (by omega),Int.mul_le_mul v1 (by omega) (by omega) (by omega)⟩;refine⟨⟨0,v*(1+w%3)⟩,s2, ?_,rfl,hp.1,by grind,h2⟩;unfold Y2p;rw[e1,X1,e2,X1];simp only[tmod_n w0];rw[Y1k (by omega),Y1k (by omega)]
def jnB (l:List (List Y1)):(List Y1×Int→Option (List Y1))→List Y1×Int→Option (List Y1):=fun loop s=>Y6q l loop s.1 s.2
theorem flat_len{L:Nat}:∀(ks:List (List Y1)),(∀k∈ks,k.length≤L)→ks.flatten.length≤ks.length*L
  |[],_=>by simp
  |k::ks,h=>by
    have:=flat_len ks (fun x hx=>h x (by simp[hx]));have h0:=h k (by simp);simp only[X1c,X4,X7,X0t];omega
theorem joined_ok{n:Y1}{ks:List (List Y1)}(h1:ks.length≤16)(h2:∀k∈ks,k.length≤100000):Y37 n ks=some (n::ks.flatten):=by
  have run:∀(ls done:List (List Y1)) (m:Nat),ks=done++ls→iter (jnB ks) (m+1+ls.length) (n::done.flatten,(done.length:Int))=some (n::ks.flatten):=by
    intro ls
    induction ls with
    |nil=>
      intro done m he;have hd:done=ks:=by simp_all
      subst hd;rw[show m+1+([]:List (List Y1)).length=m+1 by simp,Yw];unfold jnB Y6q;rw[Y56 (by omega)]
    |cons k ls ih=>
      intro done m he;rw[show m+1+(k::ls).length=(m+1+ls.length)+1 by rfl,Yw];have hkl:ks.length=done.length+(ls.length+1):=by grind
      have hg:ks.getD done.length []=k:=by simp_all
      have hk:=h2 k (by grind);have hfl:=flat_len done (L:=100000) (fun x hx=>h2 x (by simp_all));have hfl2:done.flatten.length≤1600000:=X0x hfl (by omega);have e:jnB ks (iter (jnB ks) (m+1+ls.length)) (n::done.flatten,(done.length:Int))=iter (jnB ks) (m+1+ls.length) ((n::done.flatten)++k,(done.length:Int)+1):=by
        show Y6q _ _ _ _=_;unfold Y6q;rw[Y5v (by omega),Y2s (by omega),Xl,hg,Y1j (by grind),Y1k (by omega)]
      rw[e];have e2:=ih (done++[k]) m (by grind)
      simp_all
  unfold Y37;have e:=run ks [] (999999-ks.length) rfl;rw[show 999999-ks.length+1+ks.length=1000000 by omega] at e;exact e
def Pt (m:Nat) (least:Int) (t:List Y1):Prop:=IsT m t∧least≤pr (hd t).Op∧3*t.length+1≤4^m
theorem four_pos(m:Nat):1≤4^m:=Nat.one_le_two_pow (n:=2*m) |> fun h=>by rwa[Nat.pow_mul] at h
theorem four_le{m:Nat}(h:m≤5):4^m≤1024:=X0x (X15 (by omega) h) (by decide)
theorem mkT{n:Y1}{ks:List (List Y1)}{m:Nat}(hm:m≤5)(ha:ar n=some ks.length)(h4:ks.length≤4)(hks:∀k∈ks,IsT m k∧3*k.length+1≤4^m)
    (had:∀(i:Nat) (k:List Y1),ks[i]? =some k→adm n i (hd k)=true):Y37 n ks=some (n::ks.flatten)∧IsT (m+1) (n::ks.flatten)∧3*(n::ks.flatten).length+1≤4^(m+1):=by
  have p1:=four_pos m;have p2:=four_le hm;refine⟨joined_ok (by omega) (fun k hk=> ?_),⟨n,ks,rfl,ha,fun k hk=>(hks k hk).1,had⟩, ?_⟩
  · grind
  · have hf:=flat_len ks (L:=(4^m-1)/3) (fun k hk=>by grind);rw[Nat.pow_succ,X7];have:ks.length*((4^m-1)/3)≤4*((4^m-1)/3):=X16 _ h4;omega
theorem Pt.up{m:Nat}{t:List Y1}{l:Int}(h:Pt m l t):IsT m t∧3*t.length+1≤4^m:=⟨h.1,h.2.2⟩
theorem leafT{n:Y1}(ha:ar n=some 0)(hp:pr n.Op=4){m:Nat}(hm:1≤m){least:Int}(hl:least≤4):Pt m least [n]:=by
  refine⟨IsT.le (d:=1) ⟨n,[],rfl,ha,fun k hk=>by simp at hk,fun i k hk=>by simp at hk⟩ hm, ?_, ?_⟩
  · show least≤pr n.Op;omega
  grind
def TOk (T:Yb→Int→Int→Option (List Y1×Yb)) (m:Nat):Prop:=∀(s:Yb) (least:Int),OkM s→1≤least→least≤4→∃t s',T s (m:Int) least=some (t,s')∧Pt m least t∧OkM s'
def SOk (S:Yb→Int→Int→Option (List (List Y1)×Yb)) (m:Nat):Prop:=∀(s:Yb) (c:Nat),c≤4→OkM s→∃ks s',S s (c:Int) (m:Int)=some (ks,s')∧ks.length=c∧(∀k∈ks,Pt m 1 k)∧OkM s'
def numB (x1 x36:Int×Yb):(Yb×List (List Y1)×Int→Option (List Y1×Yb))→Yb×List (List Y1)×Int→Option (List Y1×Yb):=fun loop s=>Y23 x1 x36 loop s.1 s.2.1 s.2.2
theorem num_run(x1 x36:Int×Yb)(c:Nat)(hc:(2:Int)+Int.tmod x36.1 2=(c:Int))(hc3:c≤3):∀(j m:Nat) (s:Yb) (ks:List (List Y1)),ks.length+j=c+1→OkM s→(∀k∈ks,∃n:Y1,k=[n]∧n.Op=0∧0≤n.N∧n.N≤99999)→
    ∃(ks':List (List Y1)) (s':Yb),iter (numB x1 x36) (m+1+j) (s,ks,(ks.length:Int))=(Y37 ⟨Int.tmod x1.1 14,(c:Int)⟩ ks').bind (fun x46=>some (x46,s'))∧ks'.length=c+1∧OkM s'∧(∀k∈ks',∃n:Y1,k=[n]∧n.Op=0∧0≤n.N∧n.N≤99999)
  |0,m,s,ks,hl,hs,hk=>by
    refine⟨ks,s, ?_,by omega,hs,hk⟩;rw[X0f,Yw];show Y23 x1 x36 _ s ks (ks.length:Int)=_;unfold Y23;rw[hc,Y56 (by omega)]
    rfl
  |j+1,m,s,ks,hl,hs,hk=>by
    have⟨n,s1,e1,n0,n1,n2,h1⟩:=number_ok hs;have⟨ks',s',r1,r2⟩:=num_run x1 x36 c hc hc3 j m s1 (ks++[[n]]) (by grind) h1 (fun k hk'=>by
      grind)
    refine⟨ks',s', ?_,r2⟩;rw[←r1,show m+1+(j+1)=(m+1+j)+1 by omega,Yw];show Y23 x1 x36 _ s ks (ks.length:Int)=_;unfold Y23;rw[hc,Y5v (by omega),e1,X1,Y1j (by omega),Y1k (by omega)];rw[show((ks++[[n]]).length:Int)=(ks.length:Int)+1 by simp]
theorem two_ok{S:Yb→Int→Int→Option (List (List Y1)×Yb)}{m:Nat}(hm:1≤m)(h5:m≤4)(hS:SOk S m){s:Yb}(hs:OkM s){n:Y1}{c:Nat}(hc:c≤4)(ha:ar n=some c)(hp:pr n.Op=4)(hb:¬(2≤n.Op∧n.Op≤5))(hb2:n.Op≠12){least:Int}(hl:least≤4):
    ∃t s',((S s (c:Int) (m:Int)).bind fun x33=>(Y37 n x33.1).bind fun x34=>some (x34,x33.2))=some (t,s')∧Pt (m+1) least t∧OkM s':=by
  have⟨ks,s',e,k1,k2,k3⟩:=hS s c hc hs;have⟨j1,j2,j3⟩:=mkT (n:=n) (ks:=ks) (m:=m) (by omega) (by simp_all) (by omega) (fun k hk=>(k2 k hk).up) (fun i k _=>by
    unfold adm;rw[if_neg hb,if_neg hb2])
  refine⟨_,s',by rw[e,X1];simp only;rw[j1,X1],⟨j2, ?_,j3⟩,k3⟩;show least≤pr n.Op;omega
theorem k2_ok{S:Yb→Int→Int→Option (List (List Y1)×Yb)}{m:Nat}(hm:1≤m)(h5:m≤4)(hS:SOk S m){s:Yb}(hs:OkM s)(x1:Int×Yb){kd:Int}(hk:Int.tmod x1.1 14=kd)(h9:9≤kd)(h13:kd≤13){least:Int}(hl:least≤4):
    ∃t s',Y3t S ((m+1:Nat):Int) x1 s (decide (kd≤11))=some (t,s')∧Pt (m+1) least t∧OkM s':=by
  unfold Y3t Y1h;rw[hk];have hm1:((m+1:Nat):Int)-1=(m:Int):=by omega
  by_cases h11:kd≤11
  · rw[Y5v h11,Y1k (by omega),hm1];have:=two_ok hm h5 hS hs (n:=⟨kd,0⟩) (c:=1) (by omega) (by
      unfold ar;grind) (by
      unfold pr;simp only
      rw[Vn,Vn,Vn]) (by grind) (by grind) hl
    exact this
  · rw[Y56 h11]
    by_cases h12:kd=12
    · rw[Y3c h12];have⟨v,s1,e1,v0,v1,h1⟩:=take_ok hs;rw[e1,X1];have hv:Int.tmod v 2=v%2:=tmod_n v0 2;have⟨c,hc⟩:∃c:Nat,(2:Int)+v%2=(c:Int):=⟨(2+v%2).toNat,by omega⟩;rw[Y1k (by grind)];have⟨ks,s',r1,r2,r3,r4⟩:=num_run x1 (v,s1) c (by simp_all) (by omega) (c+1) (999999-(c+1)) s1 [] (by simp) h1 (by simp);rw[show 999999-(c+1)+1+(c+1)=1000000 by omega,hk] at r1;have⟨j1,j2,j3⟩:=mkT (n:=⟨kd,(c:Int)⟩) (ks:=ks) (m:=m) (by omega) (by
        unfold ar;grind) (by omega) (fun k hk'=>by
          obtain⟨n,rfl,n0,n1,n2⟩:=r4 k hk';have:=leafT (n:=n) (by unfold ar;rw[if_pos n0,if_pos ⟨n1,n2⟩]) (by rw[n0];rfl) hm (least:=1) (by omega);exact this.up) (fun i k hk'=>by
          obtain⟨n,rfl,n0,n1,n2⟩:=r4 k (X0c hk');unfold adm;simp only;rw[Vn,if_pos h12];exact decide_eq_true n0)
      rw[j1] at r1;refine⟨_,s',r1,⟨j2, ?_,j3⟩,r3⟩;show least≤pr kd;rw[h12];exact hl
    · rw[Y3d h12];have h13':kd=13:=by omega
      have⟨v,s1,e1,v0,v1,h1⟩:=take_ok hs;have⟨w,s2,e2,w0,w1,h2⟩:=take_ok h1;rw[e1,X1];have hv:Int.tmod v 2=v%2:=tmod_n v0 2;have hw:Int.tmod w 2=w%2:=tmod_n w0 2;simp only[hv];rw[Y1k (by omega),e2,X1];simp only[hw];rw[Y1k (by omega),Y1k (by omega),Y1k (by omega)];have cs:∃(a b:Int) (c:Nat),1+v%2=a∧1+w%2=b∧a*b=(c:Int)∧c≤4∧ar ⟨kd,8*a+b⟩=some c:=by
        have ha:v%2=0∨v%2=1:=by omega
        have hb:w%2=0∨w%2=1:=by omega
        subst h13';rcases ha with ha|ha<;>rcases hb with hb|hb<;>rw[ha,hb]
        · exact⟨1,1,1,rfl,rfl,rfl,by omega,rfl⟩
        · exact⟨1,2,2,rfl,rfl,rfl,by omega,rfl⟩
        · exact⟨2,1,2,rfl,rfl,rfl,by omega,rfl⟩
        · exact⟨2,2,4,rfl,rfl,rfl,by omega,rfl⟩
      have⟨a,b,c,ea,eb,ec,hc,har⟩:=cs;rw[ea,eb,ec,Y1k (by omega),Y1k (by omega),hm1];exact two_ok hm h5 hS h2 (n:=⟨kd,8*a+b⟩) hc har (by rw[h13'];rfl) (by simp_all) (by omega) hl
theorem k3_ok{S:Yb→Int→Int→Option (List (List Y1)×Yb)}{m:Nat}(hm:1≤m)(h5:m≤4)(hS:SOk S m){s:Yb}(hs:OkM s)(x1:Int×Yb){kd:Int}(hk:Int.tmod x1.1 14=kd)(h9:6≤kd)(h13:kd≤13){least:Int}(hl:least≤4):
    ∃t s',Y3s S ((m+1:Nat):Int) x1 s (decide (kd≤8))=some (t,s')∧Pt (m+1) least t∧OkM s':=by
  unfold Y3s;rw[hk];have hm1:((m+1:Nat):Int)-1=(m:Int):=by omega
  by_cases h8:kd≤8
  · rw[Y5v h8,Y1k (by omega),hm1];have:=two_ok hm h5 hS hs (n:=⟨kd,0⟩) (c:=2) (by omega) (by
      unfold ar;grind) (by
      unfold pr;simp only
      rw[Vn,Vn,Vn]) (by grind) (by grind) hl
    exact this
  · rw[Y56 h8];have:=k2_ok hm h5 hS hs x1 hk (by omega) h13 hl
    by_cases h9':kd=9
    · rw[Y3c h9',beq_iff_eq.2 h9'];rwa[decide_eq_true (by omega:kd≤11)] at this
    · rw[Y3d h9']
      by_cases h10:kd=10
      · rw[Y3c h10,beq_iff_eq.2 h10];rwa[decide_eq_true (by omega:kd≤11)] at this
      · rw[Y3d h10];rwa[show(kd==11)=decide (kd≤11) by
          grind]
theorem k4_ok{T:Yb→Int→Int→Option (List Y1×Yb)}{S:Yb→Int→Int→Option (List (List Y1)×Yb)}{m:Nat}(hm:1≤m)(h5:m≤4)(hT:2≤m→TOk T (m-1))(hS:SOk S m){s:Yb}(hs:OkM s)(x1:Int×Yb){kd:Int}(hk:Int.tmod x1.1 14=kd)(h9:2≤kd)(h13:kd≤13)(h2m:kd≤5→2≤m){least:Int}(hl0:1≤least)(hl:least≤4):
    ∃t s',Y2t T S ((m+1:Nat):Int) least x1 s (decide (kd≤5))=some (t,s')∧Pt (m+1) least t∧OkM s':=by
  unfold Y2t Y1h;rw[hk]
  by_cases h8:kd≤5
  · have hm2:=h2m h8;have hm1:((m+1:Nat):Int)-2=((m-1:Nat):Int):=by omega
    have hp:1≤pr kd∧pr kd≤3:=by
      unfold pr;omega
    rw[Y5v h8,R09_prec,X1,Y1k (by omega),hm1];have⟨a,s1,e1,a1,h1⟩:=hT hm2 s (pr kd) hs hp.1 (by omega);rw[e1,X1,Y1k (by omega)];have⟨b,s2,e2,b1,h2⟩:=hT hm2 s1 (pr kd+1) h1 (by omega) (by omega);simp only;rw[e2,X1];obtain⟨m',rfl⟩:∃m',m=m'+1:=⟨m-1,by omega⟩;rw[Nat.add_sub_cancel] at a1 b1;have⟨j1,j2,j3⟩:=mkT (n:=⟨kd,0⟩) (ks:=[a,b]) (m:=m') (by omega) (by
      unfold ar;grind) (by simp) (fun k hk'=>by
        simp only[Xb,X04,or_false] at hk';rcases hk' with rfl|rfl
        · exact a1.up
        · exact b1.up) (fun i k hk'=>by
        unfold adm;simp only;rw[Vp]
        match i,hk' with
        |0,hk'=>
          obtain rfl:a=k:=by simp_all
          rw[if_pos rfl];exact decide_eq_true a1.2.1
        |1,hk'=>
          obtain rfl:b=k:=by simp_all
          rw[Vn];exact decide_eq_true (by have:=b1.2.1;omega))
    simp only;rw[j1,X1]
    by_cases hlt:pr kd<least
    · rw[Y5v hlt];have⟨q1,q2,q3⟩:=mkT (n:=⟨10,0⟩) (ks:=[(⟨kd,0⟩:Y1)::[a,b].flatten]) (m:=m'+1) (by omega) rfl (by simp) (fun k hk'=>by
        simp_all) (fun i k hk'=>rfl)
      rw[q1,X1];exact⟨_,_,rfl,⟨q2,hl,q3⟩,h2⟩
    · rw[Y56 hlt];refine⟨_,_,rfl,⟨j2.mono, ?_, ?_⟩,h2⟩
      · show least≤pr kd;omega
      omega
  · rw[Y56 h8];have:=k3_ok hm h5 hS hs x1 hk (by omega) h13 hl
    by_cases h6:kd=6
    · rw[Y3c h6,beq_iff_eq.2 h6];rwa[decide_eq_true (by omega:kd≤8)] at this
    · rw[Y3d h6]
      by_cases h7:kd=7
      · rw[Y3c h7,beq_iff_eq.2 h7];rwa[decide_eq_true (by omega:kd≤8)] at this
      · rw[Y3d h7];rwa[show(kd==8)=decide (kd≤8) by
          grind]
theorem tree_body_ok{T:Yb→Int→Int→Option (List Y1×Yb)}{S:Yb→Int→Int→Option (List (List Y1)×Yb)}{m:Nat}(h5:m≤4)(hT:2≤m→TOk T (m-1))(hS:1≤m→SOk S m){s:Yb}(hs:OkM s){least:Int}(hl0:1≤least)(hl:least≤4):
    ∃t s',Y66 T S s ((m+1:Nat):Int) least=some (t,s')∧Pt (m+1) least t∧OkM s':=by
  unfold Y66;have⟨v,s1,e1,v0,v1,h1⟩:=take_ok hs;rw[e1,X1];have⟨kd,hk⟩:∃kd,Int.tmod v 14=kd:=⟨_,rfl⟩;have hkd:0≤kd∧kd≤13:=by grind
  have hk':Int.tmod (v,s1).1 14=kd:=hk;simp only[hk];have nl:∃t s',((Y2p s1).bind fun x9=>some (x9.1,x9.2))=some (t,s')∧Pt (m+1) least t∧OkM s':=by
    have⟨n,s2,e2,n0,n1,n2,h2⟩:=number_ok h1;refine⟨[n],s2,by rw[e2,X1],leafT (by unfold ar;rw[if_pos n0,if_pos ⟨n1,n2⟩]) (by rw[n0];rfl) (by omega) hl,h2⟩
  have vl:∃t s',((Y14 s1).bind fun x4=>some ([(⟨(1:Int),Int.tmod x4.1 (26:Int)⟩:Y1)],x4.2))=some (t,s')∧Pt (m+1) least t∧OkM s':=by
    have⟨w,s2,e2,w0,w1,h2⟩:=take_ok h1;refine⟨[⟨1,w%26⟩],s2,by grind,leafT (by unfold ar;rw[if_neg (show ¬(1:Int)=0 by omega),if_pos rfl,if_pos (show 0≤w%26∧w%26≤25 by omega)]) rfl (by omega) hl,h2⟩
  have hcond:(bif decide (((m+1:Nat):Int)<2) then true else bif bif decide (((m+1:Nat):Int)<3) then decide (kd<6) else false then decide (1<kd) else false)=decide (m=0∨(m=1∧kd<6∧1<kd)):=by
    grind
  rw[hcond]
  by_cases hc:m=0∨(m=1∧kd<6∧1<kd)
  · grind
  · rw[Y56 hc]
    by_cases h0:kd=0
    · simp_all
    rw[Y3d h0]
    by_cases h1':kd=1
    · simp_all
    rw[Y3d h1'];have hm:1≤m:=by omega
    have:=k4_ok hm h5 hT (hS hm) h1 (v,s1) hk' (by omega) hkd.2 (by omega) hl0 hl
    by_cases h2:kd=2
    · rw[Y3c h2,beq_iff_eq.2 h2];rwa[decide_eq_true (by omega:kd≤5)] at this
    · rw[Y3d h2]
      by_cases h3:kd=3
      · rw[Y3c h3,beq_iff_eq.2 h3];rwa[decide_eq_true (by omega:kd≤5)] at this
      · rw[Y3d h3]
        by_cases h4:kd=4
        · rw[Y3c h4,beq_iff_eq.2 h4];rwa[decide_eq_true (by omega:kd≤5)] at this
        · rw[Y3d h4];rwa[show(kd==5)=decide (kd≤5) by
            grind]
def smB (T:Yb→Int→Int→Option (List Y1×Yb)) (c m:Int):(Yb×List (List Y1)×Int→Option (List (List Y1)×Yb))→Yb×List (List Y1)×Int→Option (List (List Y1)×Yb):=fun loop s=>Y24 T c m loop s.1 s.2.1 s.2.2
theorem some_body_ok{T:Yb→Int→Int→Option (List Y1×Yb)}{m:Nat}(hT:TOk T m)(R:Yb→Int→Int→Option (List (List Y1)×Yb)){s:Yb}(hs:OkM s){c:Nat}(hc:c≤4):
    ∃ks s',Y7w T R s (c:Int) (m:Int)=some (ks,s')∧ks.length=c∧(∀k∈ks,Pt m 1 k)∧OkM s':=by
  have run:∀(j q:Nat) (s:Yb) (ks:List (List Y1)),ks.length+j=c→OkM s→(∀k∈ks,Pt m 1 k)→∃ks' s',iter (smB T (c:Int) (m:Int)) (q+1+j) (s,ks,(ks.length:Int))=some (ks',s')∧ks'.length=c∧(∀k∈ks',Pt m 1 k)∧OkM s':=by
    intro j
    induction j with
    |zero=>
      intro q s ks hl hs hk;refine⟨ks,s, ?_,by omega,hk,hs⟩;rw[X0f,Yw];show Y24 T (c:Int) (m:Int) _ s ks (ks.length:Int)=_;unfold Y24;rw[Y56 (by omega)]
    |succ j ih=>
      intro q s ks hl hs hk;have⟨t,s1,e1,t1,h1⟩:=hT s 1 hs (by omega) (by omega);have⟨ks',s',r⟩:=ih q s1 (ks++[t]) (by grind) h1 (fun k hk'=>by
        grind)
      refine⟨ks',s', ?_,r.2⟩;rw[←r.1,show q+1+(j+1)=(q+1+j)+1 by omega,Yw];show Y24 T (c:Int) (m:Int) _ s ks (ks.length:Int)=_;unfold Y24;rw[Y5v (by omega),e1,X1,Y1j (by omega),Y1k (by omega)];rw[show((ks++[t]).length:Int)=(ks.length:Int)+1 by simp]
  have⟨ks',s',r⟩:=run c (999999-c) s [] (by simp) hs (by simp);rw[show 999999-c+1+c=1000000 by omega] at r;exact⟨ks',s',r.1,r.2⟩
theorem maker_ok:∀(m e:Nat),m≤4→TOk (Y2o (2*m+1+e)) (m+1)∧SOk (Y49 (2*m+2+e)) (m+1):=by
  intro m
  induction m using Nat.strongRecOn with
  |ind m ih=>
    intro e hm;have hT:∀e,TOk (Y2o (2*m+1+e)) (m+1):=by
      intro e s least hs h0 h4;rw[show 2*m+1+e=(2*m+e)+1 by omega,Y2o];refine tree_body_ok hm (fun h2=> ?_) (fun h1=> ?_) hs h0 h4
      · have:=(ih (m-2) (by omega) (3+e) (by omega)).1;rwa[show 2*(m-2)+1+(3+e)=2*m+e by omega,show m-2+1=m-1 by omega] at this
      · have:=(ih (m-1) (by omega) e (by omega)).2;rwa[show 2*(m-1)+2+e=2*m+e by omega,show m-1+1=m by omega] at this
    refine⟨hT e,fun s c hc hs=> ?_⟩;rw[show 2*m+2+e=(2*m+1+e)+1 by omega,Y49];exact some_body_ok (hT e) _ hs hc
theorem Made_tree{t0:List Int}(h0:okList (okInt .u8) t0):∃f:List Y1,f_R09_Made t0=some f∧IsT 5 f∧f.length≤60:=by
  unfold f_R09_Made;have hn:(0:Int)≤(if(40:Int)<(t0.length:Int) then(40:Int) else(t0.length:Int))∧(if(40:Int)<(t0.length:Int) then(40:Int) else(t0.length:Int))≤(t0.length:Int)∧(if(40:Int)<(t0.length:Int) then(40:Int) else(t0.length:Int))≤40:=by split<;>omega
  rw[Y2s ⟨hn.1,hn.2.1⟩];have hs:OkM ⟨t0.take ((if(40:Int)<(t0.length:Int) then(40:Int) else(t0.length:Int)).toNat),0⟩:=by
    refine⟨fun i=> ?_, ?_,by simp,by simp⟩
    · simp only[List.getD];cases h:(t0.take ((if(40:Int)<(t0.length:Int) then(40:Int) else(t0.length:Int)).toNat))[i]? with
      |none=>simp
      |some x=>exact h0.1 x (X0u (X0c h))
    simp_all
  have⟨t,s',e1,t1,h1⟩:=(maker_ok 4 999991 (by omega)).1 _ 1 hs (by omega) (by omega);have e1':Y8x (⟨t0.take ((if(40:Int)<(t0.length:Int) then(40:Int) else(t0.length:Int)).toNat),(0:Int)⟩:Yb) (5:Int) (1:Int)=some (t,s'):=e1;rw[e1',X1];have hb:=t1.2.2;have:(4:Nat)^(4+1)=1024:=by decide
  simp only;rw[R09_Valid_ok t1.1 (by omega) (by omega),X1]
  by_cases h:t.length≤60
  · rw[decide_eq_true h];exact⟨t,rfl,t1.1,h⟩
  · rw[decide_eq_false h];exact⟨_,rfl,IsT.le (d:=1) ⟨⟨1,0⟩,[],rfl,rfl,fun k hk=>by simp at hk,fun i k hk=>by rfl⟩ (by omega),by simp⟩
end Go.Proofs.YtfpcbalkioolmaaDoor
