/- Own work. -/
import Derived.Test.YtkgfbpbndmklnaaDoorQuB
import Derived.Test.YtkgfbpbndmklnaaDoorFmX
import Derived.Test.YtkgfbpbndmklnaaDoorPl4
import Derived.Test.YtkgfbpbndmklnaaDoorQuA
set_option linter.unusedSimpArgs false
set_option linter.unusedVariables false
namespace Go.Proofs.YtkgfbpbndmklnaaDoor
section
open Go.Abs
def digs:Nat→Nat→List UInt8
 |0,n=>[UInt8.ofNat (48+n)]
 |k+1,n=>if n<10 then[UInt8.ofNat (48+n)] else digs k (n/10)++[UInt8.ofNat (48+n%10)]
def nameL (op:Int):List UInt8:=(Y2a op).data.toList
def sgnC (op:Int):UInt8:=if op=2 then 43 else if op=3 then 45 else if op=4 then 42 else 61
def sepOf (n:Y4) (k:Nat):UInt8:=
 if n.Op≤5 then sgnC n.Op else if n.Op=12∧(k:Int)=n.N∨n.Op=13∧(k:Int)%(n.N%8)=0 then 59 else 44
def wrapT (n:Y4) (l:List UInt8):List UInt8:=if n.Op≤5 then l else(if n.Op=10 then[] else nameL n.Op)++40::(l++[41])
mutual
def Tr.tx:Tr→List UInt8
 | .node n ks=>if n.Op=0 then digs 4 n.N.toNat else if n.Op=1 then[UInt8.ofNat (97+n.N.toNat)] else wrapT n (txs n 0 ks)
def txs:Y4→Nat→List Tr→List UInt8
 |_,_,[]=>[]
 |n,k,x::xs=>(if k=0 then[] else[sepOf n k])++(x.tx++txs n (k+1) xs)
end
def Std (t:ByteArray) (i:Int):List UInt8→Prop
 |[]=>True
 |c::l=>Ys t i=((c.toNat:Nat):Int)∧Std t (i+1) l
variable {t:ByteArray} {i j:Int}
theorem Std.get:∀{l:List UInt8} {i:Int} {k:Nat},Std t i l→k<l.length→Ys t (i+(k:Int))=(((l.getD k 0).toNat:Nat):Int)
 |[],i,k,h,hk=>by simp at hk
 |c::l,i,0,h,hk=>by simpa using h.1
 |c::l,i,k+1,h,hk=>by
  have:=Std.get (k:=k) h.2 (by simpa using hk);rw[show i+((k+1:Nat):Int)=i+1+(k:Int) by push_cast;omega,this]
  rfl
def Stp (b:Int):Prop:=¬(48≤b∧b≤57)∧¬(97≤b∧b≤122)
def Fol (t:ByteArray) (q j:Int):Prop:=Stp (Ys t j)∧∀o,opOf (Ys t j)=some o→prec o≤q
theorem Fol.of{q:Int}{b:Int}(h:Ys t j=b)(hb:b=44∨b=59∨b=41∨b=0):Fol t q j:=by
 rw[Fol,h];refine⟨?_,fun o ho=> ?_⟩
 ·unfold Stp;omega
 ·exfalso
  unfold opOf at ho;rw[Vn,Vn,Vn,Vn] at ho;cases ho
def val (n:Int) (l:List UInt8):Int:=l.foldl (fun a c=>10*a+((c.toNat:Nat)-48:Int)) n
theorem ofNat_toNat{n:Nat}(h:n<256):(UInt8.ofNat n).toNat=n:=by rw[UInt8.toNat_ofNat'];omega
end
section
open Go.Abs
variable {t:ByteArray} {i j:Int}
def Tr.op:Tr→Int
 | .node n _=>n.Op
theorem Ev.stop{p:Int}{l:List Tr}(h:∀o,opOf (Ys t j)=some o→prec o<p):Ev t (.L p l j) (.ok l j):=by
 refine Ev.st (by intro e;cases e) (k:=0) ?_;simp only[stp];cases ho:opOf (Ys t j) with
 |none=>rfl
 |some o=>have:=h o ho;simp only;rw[Vn]
theorem Std.cons{c:UInt8}{l:List UInt8}:Std t i (c::l)↔Ys t i=((c.toNat:Nat):Int)∧Std t (i+1) l:=Iff.rfl
end
open Go.Abs
theorem digs_len(k n:Nat):(digs k n).length≤k+1:=by
 induction k generalizing n with
 |zero=>simp[digs]
 |succ k ih=>
  rw[digs]
  split
  ·simp
  ·have:=ih (n/10);simp;omega
theorem nameB_len(op:Int):(Y2a op).size≤6:=by
 unfold Y2a
 repeat' split
 all_goals decide
theorem nameL_len(op:Int):(nameL op).length≤6:=by
 have:=nameB_len op;rw[nameL,X15];exact this
mutual
theorem tx_len:∀T:Tr,T.tx.length+1≤10*T.flat.length
 | .node n ks=>by
  have h:=txs_len n 0 ks;rw[Tr.tx,Tr.flat];simp only[Xf]
  split
  ·have:=digs_len 4 n.N.toNat;omega
  ·split
   ·simp;omega
   ·unfold wrapT
    split
    ·omega
    ·have:=nameL_len n.Op
     split<;>simp<;>omega
theorem txs_len:∀(n:Y4) (k:Nat) (ks:List Tr),(txs n k ks).length≤10*(Y39 ks).length
 |n,k,[]=>by simp[txs]
 |n,k,x::xs=>by
  have h1:=tx_len x;have h2:=txs_len n (k+1) xs;rw[txs,Y39];simp only[X7]
  split<;>simp<;>omega
end
theorem strOf_one{c:Int}(h:0≤c∧c≤255):strOf [IntKind.wrap .u8 c]=B [UInt8.ofNat c.toNat]:=by
 rw[wrap_u8' h,strOf_B];rfl
theorem tdiv10(n:Nat):Int.tdiv (n:Int) 10=((n/10:Nat):Int):=by rw[Int.tdiv_eq_ediv_of_nonneg (by omega)];rfl
theorem tmod10(n:Nat):Int.tmod (n:Int) 10=((n%10:Nat):Int):=by rw[X16 (by omega)];rfl
theorem digits_ok:∀(k n m:Nat),k≤100→n<10^(k+1)→n≤100000→Y37 (m+k+1) (n:Int)=some (B (digs k n))
 |0,n,m,_,h,_=>by
  rw[Y37];unfold Y41;rw[Y2p (by omega),Y3k (by omega),strOf_one (by omega)];rw[show(48+(n:Int)).toNat=48+n by omega]
  rfl
 |k+1,n,m,hk,h,hn=>by
  rw[Y37];unfold Y41
  by_cases h1:n<10
  ·rw[Y2p (by omega),Y3k (by omega),strOf_one (by omega),digs,if_pos h1];rw[show(48+(n:Int)).toNat=48+n by omega]
  ·have e:=digits_ok k (n/10) m (by omega) (by rw[Nat.pow_succ] at h;omega) (by omega);rw[Y2q (by omega),tdiv10,tmod10,Y3k (by omega),show m+(k+1)=m+k+1 by omega,e,X6,Y3k (by omega),strOf_one (by omega),Y1q (by
    rw[B_size,B_size];have:=digs_len k (n/10);simp only[Xf,Xq];omega),B_app,digs,if_neg h1]
   rw[show(48+((n%10:Nat):Int)).toNat=48+n%10 by omega]
theorem R09_Digits_ok{n:Int}(h0:0≤n)(h1:n≤99999):f_R09_Digits n=some (B (digs 4 n.toNat)):=by
 have:=digits_ok 4 n.toNat 999995 (by omega) (by omega) (by omega);rw[show((n.toNat:Nat):Int)=n by omega] at this;exact this
theorem R09_name_ok{o:Int}(h:o=6∨o=7∨o=8∨o=9∨o=10∨o=11∨o=12∨o=13):f_R09_name o=some (B (if o=10 then[] else nameL o)):=by
 rcases h with rfl|rfl|rfl|rfl|rfl|rfl|rfl|rfl<;>rfl
abbrev fls (ks:List Tr):List (List Y4):=ks.map Tr.flat
def TxOk (f:List Y4) (rc:List Y4→Int→Option ByteArray) (T:Tr):Prop:=∀pre post:List Y4,f=pre++T.flat++post→rc f (pre.length:Int)=some (B T.tx)
def txB (f:List Y4) (i:Int) (l:List Int) (rc:List Y4→Int→Option ByteArray):(ByteArray×Int→Option ByteArray)→ByteArray×Int→Option ByteArray:=fun loop s=>Y2y rc f i l loop s.1 s.2
theorem tmod_nat(a b:Int)(h:0≤a):Int.tmod a b=a%b:=X16 h
theorem bsz{a b:List UInt8}(h:a.length+b.length≤9000000000):(B a).size+(B b).size≤9223372036854775807:=by rw[B_size,B_size];omega
theorem tx_run{f pre post:List Y4}{n:Y4}{ks:List Tr}{rc:List Y4→Int→Option ByteArray}(hf:f=pre++(n::(fls ks).flatten)++post)(hl:f.length≤100000)(hn:6≤n.Op)(ha:ar n=some ks.length)
  (hk:∀x∈ks,TxOk f rc x):∀(ls done:List Tr) (acc:List UInt8) (m:Nat),ks=done++ls→acc.length≤10+10*(Y39 done).length→
  iter (txB f (pre.length:Int) (offs (pre.length+1) (fls ks)) rc) (m+1+ls.length) (B acc,(done.length:Int))=some (B (acc++txs n done.length ls++[41])):=by
 have hg:f.getD ((pre.length:Nat):Int).toNat Ye=n:=by rw[hf,Xw];exact Y5b _ _ _
 have h16:=ar_le ha;have tot:(Y39 ks).length≤100000:=by
  rw[Y3p];show(fls ks).flatten.length≤_;rw[hf] at hl;simp only[X7,Xf] at hl;omega
 intro ls
 induction ls with
 |nil=>
  intro done acc m he hacc;have hd:done=ks:=by simpa using he.symm
  subst hd;rw[show m+1+([]:List Tr).length=m+1 by simp,Y0b];unfold txB Y2y;simp only;rw[Y2q (by rw[Y47,X00];omega),show(⟨#[41]⟩:ByteArray)=B [41] from rfl,Y1q (bsz (by simp only[Xf,Xq];omega)),B_app,txs,X0m]
 |cons x ls ih=>
  intro done acc m he hacc;have hdl:done.length<(fls ks).length:=by rw[X00,he];simp
  have hdk:done.length<ks.length:=by rw[he];simp
  have hx:x∈ks:=by rw[he];simp
  have fd:(Y39 done).length+x.flat.length≤(Y39 ks).length:=by
   rw[Y3p,Y3p,he];simp only[X0k,Xt,X0l,X09,X7];omega
  have tl:=tx_len x;have epos:(offs (pre.length+1) (fls ks)).getD ((done.length:Nat):Int).toNat 0=((pre.length+1+(fls done).flatten.length:Nat):Int):=by
   rw[Xx,offs_get _ _ _ hdl];have:(fls ks).take done.length=fls done:=by rw[he];simp
   rw[this]
  have hrec:rc f (((pre.length+1+(fls done).flatten.length:Nat):Int))=some (B x.tx):=by
   have:=hk x hx (pre++n::(fls done).flatten) ((fls ls).flatten++post) (by rw[hf,he];simp);rw[show(pre++n::(fls done).flatten).length=pre.length+1+(fls done).flatten.length by simp only[X7,Xf];omega] at this;exact this
  have nx:=fun(a2:List UInt8) (h2:a2.length≤10+10*(Y39 (done++[x])).length)=>ih (done++[x]) a2 m (by rw[he];simp) h2;rw[show m+1+(x::ls).length=(m+1+ls.length)+1 by simp only[Xf];omega,Y0b];generalize iter (txB f (pre.length:Int) (offs (pre.length+1) (fls ks)) rc) (m+1+ls.length)=L at nx⊢;have step:∀a:List UInt8,a.length≤acc.length+1→Y2x rc f (offs (pre.length+1) (fls ks)) L (done.length:Int) (B a)=some (B (a++(x.tx++txs n (done.length+1) ls)++[41])):=fun a ha2=>by
   unfold Y2x Y4u;rw[Y1q (by rw[Y47];omega),epos,hrec,X6,Y1q (bsz (by omega)),B_app,Y3k (by omega)];have:=nx (a++x.tx) (by
    rw[Y3p] at hacc⊢;simp only[X0k,Xt,X0t,X0l,X09,X1f,X7,Xq];omega)
   rw[show((done++[x]).length:Int)=(done.length:Int)+1 by simp] at this;rw[this];simp
  unfold txB Y2y;simp only;rw[Y2p (by rw[Y47];omega)]
  by_cases h0:done.length=0
  ·rw[Y2q (by omega)];have:=step acc (by omega);refine Eq.trans this ?_;rw[txs,if_pos h0];simp
  ·rw[Y2p (by omega),hg,Y47,Y1q (by intro _;have:(fls ks).length=ks.length:=X00 _;unfold inR;omega)];have k3:∀c:UInt8,Y2w rc f (offs (pre.length+1) (fls ks)) L (B acc) (done.length:Int) (B [c])=some (B (acc++c::(x.tx++txs n (done.length+1) ls)++[41])):=fun c=>by
    unfold Y2w;rw[Y1q (bsz (by simp only[Xf,Xq];omega)),B_app];have:=step (acc++[c]) (by simp);refine Eq.trans this ?_;simp
   have hN8:n.Op=13→1≤n.N%8∧0≤n.N:=fun h13=>by
    unfold ar at ha;rw[Vn,Vn,Vn,Vn,Vn,if_pos h13] at ha
    split at ha
    ·next h=>omega
    ·cases ha
   have hN12:n.Op=12→(ks.length:Int)=n.N+1:=fun h12=>by
    unfold ar at ha;rw[Vn,Vn,Vn,Vn,if_pos h12] at ha
    split at ha
    ·next h=>
     have:n.N.toNat+1=ks.length:=by simpa using ha
     omega
    ·cases ha
   rw[Y1q (by
    intro hh;simp only[X1,beq_iff_eq] at hh;obtain⟨g1,g2⟩:=hN8 hh.2;rw[tmod_nat _ _ g2];omega)]
   have esep:(cond (cond (n.Op==12) ((done.length:Int)==((fls ks).length:Int)-1) false) true (cond (n.Op==13) (Int.tmod (done.length:Int) (Int.tmod n.N 8)==0) false))=decide (n.Op=12∧(done.length:Int)=n.N∨n.Op=13∧(done.length:Int)%(n.N%8)=0):=by
    by_cases h12:n.Op=12
    ·have:=hN12 h12;rw[h12,X00];simp only[beq_self_eq_true,cond_true,true_and]
     by_cases hd:(done.length:Int)=n.N
     ·rw[show((done.length:Int)==(ks.length:Int)-1)=true by rw[beq_iff_eq];omega,decide_eq_true (.inl hd)];rfl
     ·rw[show((done.length:Int)==(ks.length:Int)-1)=false by rw[beq_eq_false_iff_ne];omega,decide_eq_false (by rintro(h|h);exact hd h;exact absurd h.1 (by decide))];rfl
    ·rw[show(n.Op==12)=false by rw[beq_eq_false_iff_ne];exact h12];simp only[cond_false]
     by_cases h13:n.Op=13
     ·obtain⟨g1,g2⟩:=hN8 h13;rw[tmod_nat _ _ g2,tmod_nat _ _ (by omega:(0:Int)≤(done.length:Nat)),h13];simp only[beq_self_eq_true,cond_true,true_and];rw[Bool.eq_iff_iff];simp
     ·rw[show(n.Op==13)=false by rw[beq_eq_false_iff_ne];exact h13,decide_eq_false (by rintro(h|h);exact h12 h.1;exact h13 h.1)];rfl
   rw[esep]
   by_cases hs:n.Op=12∧(done.length:Int)=n.N∨n.Op=13∧(done.length:Int)%(n.N%8)=0
   ·rw[Y2p hs];rw[show(⟨#[59]⟩:ByteArray)=B [59] from rfl];refine Eq.trans (k3 59) ?_;rw[txs,if_neg h0,sepOf,Vn,if_pos hs];simp
   ·rw[Y2q hs];rw[show(⟨#[44]⟩:ByteArray)=B [44] from rfl];refine Eq.trans (k3 44) ?_;rw[txs,if_neg h0,sepOf,Vn,if_neg hs];simp
theorem text_all{f:List Y4}(hl:f.length≤100000):∀(d:Nat) (T:Tr) (m:Nat),Tr.good d T→TxOk f (Y2i (m+d)) T
 |0,T,m,h=>by cases T;exact h.elim
 |d+1,.node n ks,m,h=>by
  obtain⟨h1,h2,h3⟩:=h;have hk:∀x∈ks,TxOk f (Y2i (m+d)) x:=fun x hx=>text_all hl d x m (goodL_iff.1 h2 x hx);have hT:∀k∈fls ks,IsT d k:=fun k hk=>by
   obtain⟨T,hT,rfl⟩:=X01.1 hk;exact good_IsT d T (goodL_iff.1 h2 T hT)
  intro pre post hf;rw[Tr.flat,Y3p] at hf;have ha:ar n=some (fls ks).length:=by rw[X00];exact h1
  have hO:=Operands_ok hf hl ha hT;have hlt:pre.length<f.length:=by rw[hf];simp
  have hg:f.getD ((pre.length:Nat):Int).toNat Ye=n:=by rw[hf,Xw];exact Y5b _ _ _
  have h16:=ar_le h1;have tot:(Y39 ks).length≤100000:=by
   rw[Y3p];rw[hf] at hl;simp only[X7,Xf] at hl;exact X0h (by omega) hl
  rw[show m+(d+1)=(m+d)+1 by omega,Y2i];unfold f_R09_text_body;rw[hO,X6,Y1q (by omega),hg];have big:6≤n.Op→Y3q (Y2i (m+d)) f (pre.length:Int) (offs (pre.length+1) (fls ks))=some (B (Tr.node n ks).tx):=fun hn=>by
   have hc:=ar_cases h1;unfold Y3q;rw[hg,R09_name_ok (by omega),X6,show(⟨#[40]⟩:ByteArray)=B [40] from rfl];have nl:(if n.Op=10 then[] else nameL n.Op).length≤6:=by
    have:=nameL_len n.Op
    split<;>simp<;>omega
   rw[Y1q (bsz (by simp only[Xf,Xq];omega)),B_app];have:=tx_run hf hl hn h1 hk ks [] ((if n.Op=10 then[] else nameL n.Op)++[40]) (999999-ks.length) rfl (by simp only[X7,Xf,Xq];omega);rw[show 999999-ks.length+1+ks.length=1000000 by omega] at this;have etx:(Tr.node n ks).tx=(if n.Op=10 then[] else nameL n.Op)++40::(txs n 0 ks++[41]):=by
    rw[Tr.tx,Vn,Vn,wrapT,if_neg (show ¬n.Op≤5 by omega)]
   rw[etx];refine Eq.trans this ?_;simp
  have bin:(n.Op=2∨n.Op=3∨n.Op=4∨n.Op=5)→Y11 (Y2i (m+d)) f (pre.length:Int) (offs (pre.length+1) (fls ks)) true=some (B (Tr.node n ks).tx):=fun hn=>by
   have e2:ks.length=2:=by
    unfold ar at h1;rw[Vn,Vn,Vp] at h1
    split at h1
    ·simpa using h1.symm
    ·cases h1
   obtain⟨a,b,rfl⟩:∃a b,ks=[a,b]:=by
    cases ks with
    |nil=>simp at e2
    |cons a ks=>cases ks with
     |nil=>simp at e2
     |cons b ks=>cases ks with
      |nil=>exact⟨a,b,rfl⟩
      |cons c ks=>simp at e2
   have hra:=hk a (by simp) (pre++[n]) (b.flat++post) (by rw[hf];simp);have hrb:=hk b (by simp) (pre++n::a.flat) post (by rw[hf];simp);have la:=tx_len a;have lb:=tx_len b;simp only[Y39,X7,X0m] at tot;unfold Y11;have eo:offs (pre.length+1) (fls [a,b])=[((pre++[n]).length:Int),((pre++n::a.flat).length:Int)]:=by
    have e1:(pre++[n]).length=pre.length+1:=by simp
    have e3:(pre++n::a.flat).length=pre.length+1+a.flat.length:=by simp only[X7,Xf];omega
    rw[e1,e3];rfl
   have es:([(⟨#[]⟩:ByteArray),(⟨#[]⟩:ByteArray),(⟨#[43]⟩:ByteArray),(⟨#[45]⟩:ByteArray),(⟨#[42]⟩:ByteArray),(⟨#[61]⟩:ByteArray)].getD n.Op.toNat ByteArray.empty)=B [sgnC n.Op]:=by
    rcases hn with e|e|e|e<;>rw[e]<;>rfl
   rw[cond_true,eo,hg,es,Y1q (by
    simp only[Xf,Xq];omega),Y1q (by simp only[Xf,Xq];omega)]
   rw[show([((pre++[n]).length:Int),((pre++n::a.flat).length:Int)].getD (0:Int).toNat 0)=((pre++[n]).length:Int) from rfl,hra,X6,Y1q (bsz (by simp only[Xf,Xq];omega)),Y1q (by simp only[Xf,Xq];omega)];rw[show([((pre++[n]).length:Int),((pre++n::a.flat).length:Int)].getD (1:Int).toNat 0)=((pre++n::a.flat).length:Int) from rfl,hrb,X6,B_app,Y1q (bsz (by simp only[X7,Xf,Xq];omega)),B_app];rw[Tr.tx,Vn,Vn,wrapT,Vp,txs,txs,txs,if_pos rfl,Vn,sepOf,Vp];simp
  have k4':6≤n.Op→Y11 (Y2i (m+d)) f (pre.length:Int) (offs (pre.length+1) (fls ks)) false=some (B (Tr.node n ks).tx):=fun hn=>by
   unfold Y11;rw[cond_false];exact big hn
  have hc:=ar_cases h1;have h1':=h1
  by_cases h0:n.Op=0
  ·unfold ar at h1';rw[if_pos h0] at h1'
   split at h1'
   ·next hN=>
    rw[show(n.Op==0)=true by rw[beq_iff_eq];exact h0,cond_true,R09_Digits_ok hN.1 hN.2,X6,Tr.tx,if_pos h0]
   ·cases h1'
  ·rw[show(n.Op==0)=false by rw[beq_eq_false_iff_ne];exact h0,cond_false]
   by_cases h1o:n.Op=1
   ·unfold ar at h1';rw[if_neg h0,if_pos h1o] at h1'
    split at h1'
    ·next hN=>
     rw[show(n.Op==1)=true by rw[beq_iff_eq];exact h1o,cond_true,Y3k (by omega),strOf_one (by omega),Tr.tx,if_neg h0,if_pos h1o,show((97:Int)+n.N).toNat=97+n.N.toNat by omega]
    ·cases h1'
   ·rw[show(n.Op==1)=false by rw[beq_eq_false_iff_ne];exact h1o,cond_false]
    by_cases h2o:n.Op=2
    ·rw[show(n.Op==2)=true by rw[beq_iff_eq];exact h2o,cond_true];exact bin (by omega)
    ·rw[show(n.Op==2)=false by rw[beq_eq_false_iff_ne];exact h2o,cond_false]
     by_cases h3o:n.Op=3
     ·rw[show(n.Op==3)=true by rw[beq_iff_eq];exact h3o,cond_true];exact bin (by omega)
     ·rw[show(n.Op==3)=false by rw[beq_eq_false_iff_ne];exact h3o,cond_false]
      by_cases h4o:n.Op=4
      ·rw[show(n.Op==4)=true by rw[beq_iff_eq];exact h4o,cond_true];exact bin (by omega)
      ·rw[show(n.Op==4)=false by rw[beq_eq_false_iff_ne];exact h4o,cond_false]
       by_cases h5o:n.Op=5
       ·rw[show(n.Op==5)=true by rw[beq_iff_eq];exact h5o];exact bin (by omega)
       ·rw[show(n.Op==5)=false by rw[beq_eq_false_iff_ne];exact h5o];exact k4' (by omega)
theorem R09_Text_ok{d:Nat}{T:Tr}(hd:d≤100)(h:Tr.good d T)(hl:T.flat.length≤100000):f_R09_Text T.flat=some (B T.tx):=by
 have:=text_all hl d T (1000000-d) h [] [] (by simp);rw[show 1000000-d+d=1000000 by omega] at this;unfold f_R09_Text f_R09_text;have e:Y2i 1000000 T.flat 0=some (B T.tx):=this;rw[e,X6]
theorem R09_Print_ok{d:Nat}{T:Tr}(hd:d≤8)(h:Tr.good d T)(hl:T.flat.length≤60):Y5d T.flat=some (B T.tx):=by
 unfold Y5d;rw[R09_Valid_ok (good_IsT d T h) hd (by omega),X6,decide_eq_true hl,X1e,cond_false,R09_Text_ok (by omega) h (by omega),X6]
def Stops (t:ByteArray) (n:Int):Prop:=rdF t= .err n∨∃l,rdF t= .ok l n∧n<(t.size:Nat)
theorem Stops.range{t:ByteArray}{n:Int}(h:Stops t n):0≤n∧n≤(t.size:Nat):=by
 rcases h with h|⟨l,h,hn⟩
 ·have:=(rdF_loc (t':=t) h).1 n rfl;exact⟨this.1,this.2.1⟩
 ·have:=(rdF_loc (t':=t) h).2 l n rfl;exact⟨by omega,this.2.1⟩
theorem Stops.move{t t':ByteArray}{n:Int}(h:Stops t n)(g:Ag t t' n)(hn:n<(t'.size:Nat)):Stops t' n:=by
 rcases h with h|⟨l,h,h1⟩
 ·exact .inl (((rdF_loc (t':=t') h).1 n rfl).2.2 g)
 ·exact .inr ⟨l,((rdF_loc (t':=t') h).2 l n rfl).2.2 g,hn⟩
end Go.Proofs.YtkgfbpbndmklnaaDoor
