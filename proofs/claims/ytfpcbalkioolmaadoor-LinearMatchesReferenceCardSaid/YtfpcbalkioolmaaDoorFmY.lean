/- Own work. -/
import Derived.Test.YtfpcbalkioolmaaDoorFmX
set_option linter.unusedSimpArgs false
set_option linter.unusedVariables false
namespace Go.Proofs.YtfpcbalkioolmaaDoor
open Go.Abs
def cl:Bool→List Int→Prop
  |z,[]=>z=false
  |z,x::r=>0≤x∧x≤62∧(x=0→z=false)∧cl (decide (x=0)) r
abbrev W (f:List Y1) (i:Nat) (l c:List Int):Y3:=⟨f,(i:Int),l,c,()⟩
theorem put_ok{f:List Y1}{i:Nat}{l c x:List Int}(h:c.length+x.length≤10000000):Y00 (W f i l c) x=some (W f i l (c++x)):=by
  unfold Y00;rw[Y1j (by grind)]
theorem putl_ok{f:List Y1}{i:Nat}{l c:List Int}(h:c.length+l.length≤10000000):Y0r (W f i l c)=some (W f i l (c++l)):=by
  unfold Y0r;rw[Y1j (by grind)]
def lvOk (l:List Int):Prop:=∀x∈l,x=6∨x=24
def bkB (F:Y3→Option Y3) (k:Int):(Y3×Y1×List Int×Int→Option Y3)→Y3×Y1×List Int×Int→Option Y3:=fun loop s=>Y0p F k loop s.1 s.2.1 s.2.2.1 s.2.2.2
theorem at1(i:Nat):(i:Int)+1=((i+1:Nat):Int):=rfl
theorem ar_num{n:Y1}{k:Nat}(h:ar n=some k)(h0:n.Op=0):k=0∧0≤n.N∧n.N≤99999:=by
  unfold ar at h
  simp_all
theorem ar_var{n:Y1}{k:Nat}(h:ar n=some k)(h0:n.Op=1):k=0∧0≤n.N∧n.N≤25:=by
  unfold ar at h
  simp_all
theorem ar_two{n:Y1}{k:Nat}(h:ar n=some k)(h2:2≤n.Op)(h8:n.Op≤8):k=2:=by
  unfold ar at h
  grind
theorem ar_one{n:Y1}{k:Nat}(h:ar n=some k)(h2:9≤n.Op)(h8:n.Op≤11):k=1:=by
  unfold ar at h
  grind
theorem ar_tab{n:Y1}{k:Nat}(h:ar n=some k)(h2:n.Op=12):(k:Int)=n.N+1∧2≤n.N∧n.N≤5:=by
  unfold ar at h
  grind
theorem ar_mat{n:Y1}{k:Nat}(h:ar n=some k)(h2:n.Op=13):(k:Int)=n.N/8*(n.N%8)∧8≤n.N∧n.N<40∧(k:Int)≤16:=by
  unfold ar at h;rw[Vn,Vn,Vn,Vn,Vn,if_pos h2] at h
  split at h
  · rename_i hx;have:=mat_mul hx;have hk:=X0a h;omega
  · cases h
def dg (d:Int):Int:=Y8.getD ((d+9)%10).toNat 0
def dgIf (p n:Int):List Int:=if p≤n then[dg (n/p%10)] else[]
def digs (n:Int):List Int:=dgIf 10000 n++(dgIf 1000 n++(dgIf 100 n++(dgIf 10 n++[dg (n%10)])))
theorem dgIf_div{p q n:Int}(hn:0≤n)(hp:1≤p)(hq:q=p*10):dgIf p (n/10)=dgIf q n:=by
  subst hq;unfold dgIf;have e:n/10/p=n/(p*10):=by rw[Int.ediv_ediv_of_nonneg (by omega),Int.mul_comm]
  grind
theorem digs_step{n:Int}(h:10≤n)(h9:n≤99999):digs n=digs (n/10)++[dg (n%10)]:=by
  have d1:dgIf 10000 (n/10)=dgIf 100000 n:=dgIf_div (by omega) (by omega) (by omega);have d2:dgIf 1000 (n/10)=dgIf 10000 n:=dgIf_div (by omega) (by omega) (by omega);have d3:dgIf 100 (n/10)=dgIf 1000 n:=dgIf_div (by omega) (by omega) (by omega);have d4:dgIf 10 (n/10)=dgIf 100 n:=dgIf_div (by omega) (by omega) (by omega);have e1:dgIf 100000 n=[]:=by unfold dgIf;rw[Vn]
  have e2:dgIf 10 n=[dg (n/10%10)]:=by unfold dgIf;rw[if_pos h]
  show dgIf 10000 n++(dgIf 1000 n++(dgIf 100 n++(dgIf 10 n++[dg (n%10)])))=(dgIf 10000 (n/10)++(dgIf 1000 (n/10)++(dgIf 100 (n/10)++(dgIf 10 (n/10)++[dg (n/10%10)]))))++[dg (n%10)];rw[d1,d2,d3,d4,e1,e2,Xt,Xh,Xh,Xh]
theorem digs_one{n:Int}(h0:0≤n)(h:n<10):digs n=[dg n]:=by
  unfold digs dgIf
  grind
theorem lin_last{f:List Y1}{i:Nat}{l:List Int}(n:Int)(c:List Int)(hn:0≤n)(hc:c.length+1≤10000000):Y34 n (W f i l c)=some (W f i l (c++[dg (n%10)])):=by
  have h1:Int.tmod n 10=n%10:=tmod_n hn 10;have h2:Int.tmod (n%10+9) 10=(n%10+9)%10:=tmod_n (by omega) 10;unfold Y34;rw[h1,h2,Y1k (by omega),Y2s (by omega)];rw[put_ok (by omega),X1]
  rfl
theorem lin_num{f:List Y1}{i:Nat}{l:List Int}:∀(k m:Nat) (n:Int) (c:List Int),0≤n→n<(10:Int)^(k+1)→n≤99999→c.length+(k+1)≤10000000→
    Y1g (m+(k+1)) (W f i l c) n=some (W f i l (c++digs n))∧(digs n).length≤k+1:=by
  intro k
  induction k with
  |zero=>
    intro m n c hn hlt h9 hc;have h10:n<10:=by omega
    rw[digs_one hn h10];refine⟨?_,by simp⟩;rw[show m+(0+1)=m+1 by omega,Y1g];unfold Y46;rw[Y56 (by omega)];have:=lin_last (f:=f) (i:=i) (l:=l) n c hn hc
    grind
  |succ k ih=>
    intro m n c hn hlt h9 hc;rw[show m+(k+1+1)=(m+(k+1))+1 by omega,Y1g];unfold Y46
    by_cases h10:10≤n
    · have hd:Int.tdiv n 10=n/10:=X1t hn;have hp:(10:Int)^(k+1+1)=10^(k+1)*10:=Int.pow_succ 10 (k+1);rw[hp] at hlt;generalize hP:(10:Int)^(k+1)=P at hlt ih;rw[Y5v h10,hd,Y1k (by omega)];have⟨e1,e3⟩:=ih m (n/10) c (by omega) (by omega) (by omega) (by omega);have e1':Y1g (m+(k+1)) ⟨f,(i:Int),l,c,()⟩ (n/10)=_:=e1;rw[e1',X1,digs_step h10 h9];refine⟨?_,by simp_all⟩;rw[←Xh];exact lin_last n _ hn (by grind)
    · rw[Y56 h10,digs_one hn (by omega)];refine⟨?_,by simp⟩;have:=lin_last (f:=f) (i:=i) (l:=l) n c hn (by omega)
      grind
theorem R10_letter_ok{i:Int}(h:0≤i∧i<26):Y4c i=some (Y8.getD i.toNat 0):=by
  unfold Y4c;exact Y2s h _
theorem R10_digit_ok{d:Int}(h:0≤d∧d<10):f_R10_digit d=some (dg d):=by
  unfold f_R10_digit;rw[Y1k (by omega),tmod_n (by omega) 10,R10_letter_ok (by omega),X1]
  rfl
theorem R10_num_step{n p:Int}(hn:0≤n∧n≤99999)(hp:1<p∧p≤10000)(v:List Int)(hv:v.length≤1000)(loop:List Int×Int→Option (List Int)):Y7v n loop v p=loop (v++dgIf p n,p/10):=by
  unfold Y7v f_R10_number_k1;have ht:Int.tdiv p 10=p/10:=X1t (by omega);have c1:(p==1)=false:=beq_eq_false_iff_ne.2 (by omega);rw[Y5v (by omega),c1,ht];unfold dgIf
  by_cases h:p≤n
  · have hq:Int.tdiv n p=n/p:=X1t hn.1;have hq0:0≤n/p:=Int.ediv_nonneg hn.1 (by omega);have hqn:n/p≤n:=Int.ediv_le_self p hn.1;rw[decide_eq_true h,if_pos h];rw[cond_true,cond_true,Y2s (by omega),hq,Y1k (by omega),tmod_n hq0,R10_digit_ok (by omega),X1,Y1j (by omega),Y1k (by omega)]
  · rw[decide_eq_false h,if_neg h];rw[cond_false,cond_false,Y1k (by omega),X0l]
theorem R10_number_ok{n:Int}(hn:0≤n∧n≤99999):Y9c n=some (60::digs n):=by
  have l1:∀p,(dgIf p n).length≤1:=fun p=>by unfold dgIf;split<;>simp
  have a1:=l1 10000;have a2:=l1 1000;have a3:=l1 100;have a4:=l1 10;unfold Y9c;rw[show(1000000:Nat)=999994+1+1+1+1+1+1 from rfl];rw[Yw,R10_num_step hn (by omega) _ (by simp)];rw[show(10000:Int)/10=1000 from rfl,Yw,R10_num_step hn (by omega) _ (by grind)];rw[show(1000:Int)/10=100 from rfl,Yw,R10_num_step hn (by omega) _ (by grind)];rw[show(100:Int)/10=10 from rfl,Yw,R10_num_step hn (by omega) _ (by grind)];rw[show(10:Int)/10=1 from rfl,Yw];unfold Y7v f_R10_number_k1;have hq:Int.tdiv n 1=n:=by rw[Int.tdiv_one]
  have c1:(bif decide ((1:Int)≤n) then true else(1:Int)==1)=true:=by cases decide ((1:Int)≤n)<;>rfl
  simp only;rw[Y5v (by omega),c1,cond_true,Y2s (by omega),hq,Y1k (by omega),tmod_n hn.1,R10_digit_ok (by omega),X1];rw[Y1j (by grind),show Int.tdiv 1 10=0 from rfl,Y1k (by omega),Yw];unfold digs
  simp_all
inductive Tr where
  |node (n:Y1) (ks:List Tr)
mutual
def Tr.flat:Tr→List Y1
  | .node n ks=>n::Y0y ks
def Y0y:List Tr→List Y1
  |[]=>[]
  |k::ks=>k.flat++Y0y ks
end
mutual
def Tr.good:Nat→Tr→Prop
  |0,_=>False
  |d+1,.node n ks=>ar n=some ks.length∧goodL d ks∧∀(i:Nat) (k:Tr),ks[i]? =some k→adm n i (hd k.flat)=true
def goodL:Nat→List Tr→Prop
  |_,[]=>True
  |d,k::ks=>Tr.good d k∧goodL d ks
end
theorem flatL_map:∀ks:List Tr,Y0y ks=(ks.map Tr.flat).flatten
  |[]=>rfl
  |k::ks=>by rw[Y0y,flatL_map ks];rfl
theorem Y45{d:Nat}:∀{ks:List Tr},goodL d ks↔∀k∈ks,Tr.good d k
  |[]=>by simp[goodL]
  |k::ks=>by simp[goodL,Y45 (ks:=ks)]
theorem good_IsT:∀(d:Nat) (T:Tr),Tr.good d T→IsT d T.flat
  |0,T,h=>by cases T;exact h.elim
  |d+1,.node n ks,h=>by
    have⟨h1,h2,h3⟩:=h;refine⟨n,ks.map Tr.flat,by rw[Tr.flat,flatL_map],by simp_all,fun k hk=> ?_,fun i k hk=> ?_⟩
    · obtain⟨T,hT,rfl⟩:=Xp.1 hk;exact good_IsT d T (Y45.1 h2 T hT)
    grind
theorem IsT_good:∀(d:Nat) (t:List Y1),IsT d t→∃T:Tr,T.flat=t∧Tr.good d T
  |0,t,h=>h.elim
  |d+1,t,h=>by
    obtain⟨n,ks,rfl,h1,h2,h3⟩:=h;have kids:∀ls:List (List Y1),(∀k∈ls,IsT d k)→∃Ts:List Tr,Ts.map Tr.flat=ls∧goodL d Ts:=by
      intro ls
      induction ls with
      |nil=>intro _;exact⟨[],rfl,trivial⟩
      |cons l ls ih=>
        intro hl;have⟨T,e,g⟩:=IsT_good d l (hl l (by simp));have⟨Ts,es,gs⟩:=ih (fun k hk=>hl k (by simp[hk]));exact⟨T::Ts,by rw[Xo,e,es],g,gs⟩
    have⟨Ts,es,gs⟩:=kids ks h2;refine⟨.node n Ts,by rw[Tr.flat,flatL_map,es],by rw[h1, ←es,Xw],gs,fun i k hk=> ?_⟩
    grind
def Y6a (o:Int):List Int:=if o=2 then[44] else if o=3 then[36] else if o=4 then[33] else[0,54,0]
def expC (o:Int):Int:=if o=7 then 24 else 6
def Y2r (o:Int):Bool:=decide (o=0∨o=1∨o=6∨9≤o)
def sepC (n:Y1) (i:Nat):List Int:=
  if i=0 then[] else if n.Op=12 then(if(i:Int)=n.N then[51] else[32]) else if n.Op=13 then(if(i:Int)%(n.N%8)=0 then[51] else[32]) else[12]
def Y92 (o:Int):Int:=if o=6 then 57 else if o=9 then 28 else if o=10 then 55 else if o=11 then 42 else if o=12 then 56 else 41
def Y1i (o:Int):Int:=if o=6 then 47 else if o=9 then 59 else if o=10 then 62 else if o=11 then 46 else if o=12 then 34 else 43
mutual
def Tr.cells:List Int→Tr→List Int
  |l,.node n ks=>
    if n.Op=0 then 60::digs n.N
    else if n.Op=1 then[48,Y8.getD n.N.toNat 0]
    else if n.Op≤5 then binC l (Y6a n.Op) ks
    else if n.Op=7∨n.Op=8 then powC l (expC n.Op) ks
    else Y92 n.Op::(Y1b l n 0 ks++[Y1i n.Op])
def binC:List Int→List Int→List Tr→List Int
  |l,s,a::b::_=>a.cells l++s++b.cells l
  |_,_,_=>[]
def powC:List Int→Int→List Tr→List Int
  |l,x,a::b::_=>(if Y2r (hd a.flat).Op then a.cells l else 35::(a.cells l++[50]))++(16::(l++[x]))++b.cells (l++[x])++(16::l)
  |_,_,_=>[]
def Y1b:List Int→Y1→Nat→List Tr→List Int
  |_,_,_,[]=>[]
  |l,n,i,k::ks=>sepC n i++k.cells l++Y1b l n (i+1) ks
end
end Go.Proofs.YtfpcbalkioolmaaDoor
