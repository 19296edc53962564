/- Own work. -/
import Derived.Test.YtfpcbalkioolmaaDoorRunC
import Derived.Defers
import Derived.Recover
set_option linter.unusedSimpArgs false
set_option linter.unusedVariables false
namespace Go.Abs
open Go.RowKit
section
variable {P:Program} {N:Nat} {ops:Array Oper} {env:Env} {h h1:Hp} {da:DA} {K:Exit→Env→Hp→Prop}
theorem Goes.weaken{c:Code}{x:Exit}{env' e1:Env}{h1:Hp}(hle:Env.le env env')(hg:Goes da P N c env' h x e1 h1):Goes da P N c env h x e1 h1:=
 fun X a w ι H S=>hg X a w ι H (S.le hle)
def GQ (da:DA) (P:Program) (N:Nat) (c:Code) (env:Env) (h:Hp) (K:Exit→Env→Hp→Prop):Prop:=∃x env' h',Goes da P N c env h x env' h'∧K x env' h'
theorem GQ.mono{c:Code}{K':Exit→Env→Hp→Prop}(H:GQ da P N c env h K)(hk:∀x e h,K x e h→K' x e h):GQ da P N c env h K':=by
 have⟨x,e,h',g,k⟩:=H;exact⟨x,e,h',g,hk _ _ _ k⟩
theorem Y4{c d:Code}(H:GQ da P N c env h (Ex.then (fun e h'=>GQ da P N d e h' K) K)):GQ da P N (.seq c d) env h K:=by
 have⟨x,e1,h1,g,k⟩:=H;cases x with
 |normal=>have⟨y,e2,h2,g2,k2⟩:=k;exact⟨y,e2,h2,g.seq g2,k2⟩
 |_=>exact⟨_,e1,h1,Goes.seqOut (by simp) g,k⟩
theorem Y3q{c:Operand}{y z:Code}{b:Bool}(hc:rdo env c= .bool b)(ht:b=true→GQ da P N y env h K)(hf:b=false→GQ da P N z env h K):GQ da P N (.cond c y z) env h K:=by
 cases b with
 |true=>have⟨x,e,h',g,k⟩:=ht rfl;exact⟨x,e,h',Goes.cond hc g,k⟩
 |false=>have⟨x,e,h',g,k⟩:=hf rfl;exact⟨x,e,h',Goes.cond hc g,k⟩
theorem Y17{id:Nat}{c:Code}(H:GQ da P N c env h (Ex.inBlock id K)):GQ da P N (.block id c) env h K:=by
 have⟨x,e,h',g,k⟩:=H;refine⟨_,e,h',g.block, ?_⟩;cases x with
 |exit j=>
  simp only[Ex.inBlock] at k⊢
  grind
 |_=>exact k
theorem Y02(H:K .normal env h):GQ da P N .skip env h K:=⟨_,_,_,fun X a w ι H S=>wp_skip ⟨rfl,ι,H,S,Keep.refl _ _ _ _⟩,H⟩
theorem GQ.label{l:Nat}(H:K .normal env h):GQ da P N (.label l) env h K:=⟨_,_,_,fun X a w ι H S=>wp_label ⟨rfl,ι,H,S,Keep.refl _ _ _ _⟩,H⟩
theorem Y8m{id:Nat}(H:K (.exit id) env h):GQ da P N (.exit id) env h K:=⟨_,_,_,fun X a w ι H S=>wp_exit ⟨rfl,ι,H,S,Keep.refl _ _ _ _⟩,H⟩
theorem Y0c(H:K .ret env h):GQ da P N .ret env h K:=⟨_,_,_,fun X a w ι H S=>wp_ret ⟨rfl,ι,H,S,Keep.refl _ _ _ _⟩,H⟩
theorem Y2v{c:Code}(env':Env)(hle:Env.le env env')(H:GQ da P N c env' h K):GQ da P N c env h K:=by
 have⟨x,e,h',g,k⟩:=H;exact⟨x,e,h',g.weaken hle,k⟩
theorem GQ.keep{c:Code}(l:List Nat)(H:GQ da P N c (env.keep l) h K):GQ da P N c env h K:=Y2v _ (Env.le_keep env l) H
def LGn (da:DA) (P:Program) (N:Nat) (c:Code):Nat→Env→Hp→Exit→Env→Hp→Prop
 |0,_,_,_,_,_=>False
 |m+1,env,h,x,e2,h2=>(x≠ .normal∧Goes da P N c env h x e2 h2)∨∃e1 h1,Goes da P N c env h .normal e1 h1∧LGn da P N c m e1 h1 x e2 h2
theorem Goes.loop{c:Code}{k:Nat}{x:Exit}{e2:Env}{h2:Hp}(hl:LGn da P N c k env h x e2 h2):Goes da P N (.loop c) env h x e2 h2:=by
 intro X a w ι H S;refine wp_loop_ghost (fun m a1 w1=>∃(env1:Env) (h1:Hp) (ι1:Nat→Bk),LGn da P N c m env1 h1 x e2 h2∧Hol X h1 ι1 w1∧SlD da N env1 h1 ι1 (Own X.B h1 ι1) a1 w1∧Keep w h ι (Own X.B h ι) w1 h1 ι1 (Own X.B h1 ι1)) k
  ⟨env,h,ι,hl,H,S,Keep.refl _ _ _ _⟩ ?_
 rintro m a1 w1 ⟨env1,h1,ι1,hl1,H1,S1,K1⟩;cases m with
 |zero=>simp[LGn] at hl1
 |succ m=>
  simp only[LGn] at hl1;rcases hl1 with⟨hx,g⟩|⟨e3,h3,g,hl2⟩
  ·refine wp_mono (g X a1 w1 ι1 H1 S1) ?_;rintro e a2 w2 ⟨rfl,ι2,H2,S2,K2⟩;cases e with
   |normal=>simp_all
   |_=>exact⟨rfl,ι2,H2,S2,K1.trans K2⟩
  ·refine wp_mono (g X a1 w1 ι1 H1 S1) ?_;rintro e a2 w2 ⟨rfl,ι2,H2,S2,K2⟩;exact⟨m,by omega,e3,h3,ι2,hl2,H2,S2,K1.trans K2⟩
theorem Y9m{c:Code}(I:Nat→Env→Hp→Prop)(step:∀n e h,I n e h→GQ da P N c e h (Ex.then (fun e' h'=>∃n',n'<n∧I n' e' h') K))(n:Nat)(h0:I n env h):GQ da P N (.loop c) env h K:=by
 have main:∀(n m:Nat) (e:Env) (h:Hp),m≤n→I m e h→∃k x e' h',LGn da P N c k e h x e' h'∧x≠ .normal∧K x e' h':=by
  intro n
  induction n with
  |zero=>
   intro m e h hm hi;have⟨x,e1,h1,g,k⟩:=step m e h hi;cases x with
   |normal=>have⟨n',hlt,_⟩:=k;omega
   |_=>exact⟨1,_,e1,h1,.inl ⟨by simp,g⟩,by simp,k⟩
  |succ n ih=>
   intro m e h hm hi;have⟨x,e1,h1,g,k⟩:=step m e h hi;cases x with
   |normal=>
    have⟨n',hlt,hi'⟩:=k;have⟨q,x,e2,h2,hq,hx,hk⟩:=ih n' e1 h1 (by omega) hi';exact⟨q+1,x,e2,h2,.inr ⟨e1,h1,g,hq⟩,hx,hk⟩
   |_=>exact⟨1,_,e1,h1,.inl ⟨by simp,g⟩,by simp,k⟩
 have⟨k,x,e',h',hl,_,hk⟩:=main n n env h (Xk _) h0;exact⟨x,e',h',Goes.loop hl,hk⟩
def SeqG (P:Program) (N:Nat) (ops:Array Oper) (l:List Oper) (env:Env) (h:Hp) (x:Exit) (env':Env) (h':Hp):Prop:=
 ∀(da:DA) (X:Ctx) (a:Act) (w:World) (ι:Nat→Bk) (Q:Exit→Act→World→Prop),Hol X h ι w→SlD da N env h ι (Own X.B h ι) a w→
  (∀ι' a' w',Hol X h' ι' w'→SlD da N env' h' ι' (Own X.B h' ι') a' w'→Keep w h ι (Own X.B h ι) w' h' ι' (Own X.B h' ι')→Q x a' w')→wpList P ops Q l a w
def SQ (P:Program) (N:Nat) (ops:Array Oper) (l:List Oper) (env:Env) (h:Hp) (K:Exit→Env→Hp→Prop):Prop:=∃x env' h',SeqG P N ops l env h x env' h'∧K x env' h'
theorem Y6(H:K .normal env h):SQ P N ops [] env h K:=⟨_,_,_,fun da X a w ι Q H S hQ=>hQ ι a w H S (Keep.refl _ _ _ _),H⟩
theorem Y0f{o:Oper}{l:List Oper}{av:AV}(hd:o.dst.all (· <N)=true)(hs:OStep P ops o env h h1 av)(H:SQ P N ops l (setd env o.dst av) h1 K):SQ P N ops (o::l) env h K:=by
 have⟨x,e2,h2,g,k⟩:=H;refine⟨x,e2,h2, ?_,k⟩;intro da X a w ι Q H S hQ;exact wpList_step fun K' hK'=>hs X a w ι Q K' H (fun s _=>S.at_ s) fun ι' w' v H' K1 hv=>hK' _ _<|g da X _ w' ι' Q H' (S.setd K1 hd hv) fun ι'' a'' w'' H'' S'' K''=>hQ ι'' a'' w'' H'' S'' (K1.trans K'')
theorem Y2{id:Nat}(H:SQ P N ops ops.toList env h K):GQ da P N (.region id ops false) env h K:=by
 have⟨x,e2,h2,g,k⟩:=H;exact⟨x,e2,h2,fun X a w ι H S=>wp_region_list (g da X a w ι _ H S fun ι' a' w' H' S' K'=>⟨rfl,ι',H',S',K'⟩),k⟩
def posN:List Nat→Nat→Nat→Option Nat
 |[],_,_=>none
 |c::l,i,k=>bif Nat.beq c i then some k else posN l i (k+1)
theorem posN_some:∀(l:List Nat) (i k j:Nat),posN l i k=some j→k≤j∧l[j-k]? =some i
 |[],_,_,_,hp=>by simp[posN] at hp
 |c::l,i,k,j,hp=>by
  simp only[posN] at hp;rcases beqS c i with⟨e,hb⟩|⟨e,hb⟩
  ·simp_all
  ·rw[hb,cond_false] at hp;have⟨h1,h2⟩:=posN_some l i (k+1) j hp
   grind
theorem posN_none:∀(l:List Nat) (i k:Nat),posN l i k=none→i∉l
 |[],_,_,_=>by simp
 |c::l,i,k,hp=>by
  simp only[posN] at hp;rcases beqS c i with⟨e,hb⟩|⟨e,hb⟩
  ·simp_all
  ·rw[hb,cond_false] at hp;have:=posN_none l i (k+1) hp
   grind
def winOK (ms cl:List Nat) (i m p:Nat):Bool:= !((List.range m).any fun k=>(nlt k p&&(ms.getD (cl.getD k 0) 0).testBit i)||(nle p k&&(ms.getD i 0).testBit (cl.getD k 0)))
def wins (ms cl:List Nat) (i m:Nat):List Nat:=(List.range (m+1)).filter (winOK ms cl i m)
def DObl (P:Program) (ops:Array Oper) (ms cl:List Nat) (hl:List Hp):Nat→List Oper→List AV→Env→Prop
 |_,[],[],_=>True
 |i,o::l,v::vs,env=>(match posN cl i 0 with
   |some k=>OStep P ops o env (hl.getD k []) (hl.getD (k+1) []) v
   |none=>∀p∈wins ms cl i cl.length,OStep P ops o env (hl.getD p []) (hl.getD p []) v)∧DObl P ops ms cl hl (i+1) l vs (setd env o.dst v)
 |_,_,_,_=>False
theorem DObl.get{ms cl:List Nat}{hl:List Hp}:∀(l:List Oper) (vs:List AV) (i:Nat) (env:Env),DObl P ops ms cl hl i l vs env→vs.length=l.length∧∀(j:Nat) (o:Oper) (v:AV),l[j]? =some o→vs[j]? =some v→
   (match posN cl (i+j) 0 with
   |some k=>OStep P ops o (envAt env (l.take j) (vs.take j)) (hl.getD k []) (hl.getD (k+1) []) v
   |none=>∀p∈wins ms cl (i+j) cl.length,OStep P ops o (envAt env (l.take j) (vs.take j)) (hl.getD p []) (hl.getD p []) v)
 |[],[],_,_,_=>⟨rfl,fun j o v ho=>by simp at ho⟩
 |[],_::_,_,_,hd=>by simp[DObl] at hd
 |_::_,[],_,_,hd=>by simp[DObl] at hd
 |o::l,v::vs,i,env,hd=>by
  simp only[DObl] at hd;have⟨h1,h2⟩:=DObl.get l vs (i+1) _ hd.2;refine⟨by simp[h1],fun j o' v' ho hv=> ?_⟩;cases j with
  |zero=>
   simp at ho hv;subst ho hv;exact hd.1
  |succ j=>
   simp at ho hv;have:=h2 j o' v' ho hv;rw[show i+1+j=i+(j+1) by omega] at this;simpa only[X07,envAt] using this
theorem Y1x{id:Nat}(hm:P.follows .mixedOrders=true)(hk:drawOk N ops=true)(vs:List AV)(cl:List Nat)(hl:List Hp)(hf:Hp)(hc:(cl.all fun c=>nlt c ops.size)=true)(ho:ordB (ancs ops.toList []) cl=true)
  (h0:hl.getD 0 []=h) (hL:hl.getD cl.length []=hf) (hob:DObl P ops (ancs ops.toList []) cl hl 0 ops.toList vs env) (H:K .normal (envAt env ops.toList vs) hf):GQ da P N (.region id ops true) env h K:=by
 subst h0 hL;refine⟨_,_,_, ?_,H⟩;have⟨hlen,hget⟩:=DObl.get _ _ _ _ hob;have hanc:∀i j,((ancs ops.toList []).getD i 0).testBit j=true→Anc ops j i:=ancs_bit ops.toList [] [] rfl rfl (fun i j hb=>by simp at hb);have hinj:∀j k,j<k→k<cl.length→cl.getD j 0≠cl.getD k 0:=fun j k hjk hkm=>(ordB_sound ho j k hjk hkm).2;have hpos:∀k,k<cl.length→posN cl (cl.getD k 0) 0=some k:=fun k hk=>by
  cases hp:posN cl (cl.getD k 0) 0 with
  |none=>
   exfalso
   refine posN_none _ _ _ hp ?_
   simp_all
  |some j=>
   have⟨_,h2⟩:=posN_some _ _ _ _ hp;rw[Nat.sub_zero] at h2;have hj:j<cl.length:=(Xj.1 h2).1;have h3:cl.getD j 0=cl.getD k 0:=by simp_all
   grind
 intro X a w ι H S;refine draw_sound (P:=P) (N:=N) (env:=env) (id:=id) hm hk vs (by omega) cl.length (fun k=>cl.getD k 0) (fun p=>hl.getD p []) hinj (fun j k hjk hkm=>hanc _ _ (ordB_sound ho j k hjk hkm).1) ?_ ?_ H S
 ·intro k hkm;have hlt:cl.getD k 0<ops.size:=by
   have:=Xg.1 hc (cl.getD k 0) (by simp_all);rwa[nlt_eq] at this
  have e1:ops.toList[cl.getD k 0]? =some ops[cl.getD k 0]:=by simp_all
  have hv:vs[cl.getD k 0]? =some (vs[cl.getD k 0]'(by grind)):=X5 _
  grind
 ·intro i o v hoi hv hne p hp;have:=hget i o v (by simp_all) hv;rw[X05] at this;cases hq:posN cl i 0 with
  |some k=>
   exfalso
   have⟨_,h2⟩:=posN_some _ _ _ _ hq
   grind
  |none=>
   rw[hq] at this;cases hw:winOK (ancs ops.toList []) cl i cl.length p with
   |true=>exact .inr (.inr (this p (List.mem_filter.2 ⟨Xy.2 (by omega),hw⟩)))
   |false=>
    unfold winOK at hw;simp only[Bool.not_eq_false',List.any_eq_true,X02,X2,nlt_eq,nle_eq,Xy] at hw;obtain⟨k,hkm,⟨h1,h2⟩|⟨h1,h2⟩⟩:=hw
    ·grind
    grind
def FnO (P:Program) (f:FuncId) (args:List AV) (h:Hp) (Q:Hp→AV→Prop) (Qp:Hp→List PanicEntry→Prop):Prop:=(∃h' av,CallOK P f args h h' av∧Q h' av)∨∃h' ch,CallPan P f args h h' ch∧Qp h' ch
def EndK (P:Program) (fn:Func) (Q:Hp→AV→Prop) (Qp:Hp→List PanicEntry→Prop):Exit→Env→Hp→Prop
 | .normal,e,h=>∃xs,resE P h e fn.results.toList=some xs∧Q h (Y8i xs)
 | .ret,e,h=>∃xs,resE P h e fn.results.toList=some xs∧Q h (Y8i xs)
 | .panic ch,_,h=>Qp h ch
 |_,_,_=>False
theorem fnArgs{X:Ctx}{w:World}{ι:Nat→Bk}{args:List AV}{vs:List Value}(hn:args.length≤N)(hv:VRL w h ι (Own X.B h ι) args vs):
  SlD [] N (args0 0 args) h ι (Own X.B h ι) {tmps:=vs.toArray++Array.replicate (N-vs.toArray.size) undef,defers:=[]} w:=by
 have hlen:=hv.length;refine⟨by simp_all,rfl,fun i=> ?_⟩
 by_cases hi:i<vs.length
 ·have:=rd_args0 args vs 0 hv i;simp only[X05] at this;simp only[Xf]
  grind
 ·rw[rd_args0_ge args 0 i (by omega)];simp[VR]
theorem Y6t{f:FuncId}{fn:Func}{c:Code}{args:List AV}{Q:Hp→AV→Prop}{Qp:Hp→List PanicEntry→Prop}(hf:P.funcs[f]? =some fn)(hb:fn.body=some c)(hn:args.length≤fn.ntmps)
  (H:GQ [] P fn.ntmps c (args0 0 args) h (EndK P fn Q Qp)):FnO P f args h Q Qp:=by
 have⟨x,e,h',g,k⟩:=H;have fin:∀(xs:List AV),(x= .normal∨x= .ret)→resE P h' e fn.results.toList=some xs→CallOK P f args h h' (Y8i xs):=by
  intro xs hx hres X w ι vs H hv;have hdone:Done P fn (fun r _=>r=Y8i xs) .ret e h':=Done.gen (by simp) (resE_sound _ _ hres) rfl;refine calls_of_wp hf hb (wp_mono (g X _ w ι H (fnArgs hn hv)) ?_);rintro e a' w' ⟨rfl,ι',H',S',K'⟩;have⟨r,hr,hre⟩:=hdone;subst hre;have⟨v,hrun,hvr⟩:=hr _ _ _ _ H' S'.slots;rcases hx with rfl|rfl
  ·exact⟨S'.defers,v,hrun,v,ι',rfl,H',K',hvr⟩
  ·exact⟨S'.defers,v,hrun,v,ι',rfl,H',K',hvr⟩
 cases x with
 |normal=>have⟨xs,h1,h2⟩:=k;exact .inl ⟨_,_,fin xs (.inl rfl) h1,h2⟩
 |ret=>have⟨xs,h1,h2⟩:=k;exact .inl ⟨_,_,fin xs (.inr rfl) h1,h2⟩
 |panic ch=>
  refine .inr ⟨_,_,fun X w ι vs H hv=> ?_,k⟩;refine calls_of_wp hf hb (wp_mono (g X _ w ι H (fnArgs hn hv)) ?_);rintro e a' w' ⟨rfl,ι',H',S',K'⟩;exact⟨S'.defers,rfl,ι',H',K'⟩
 |_=>exact k.elim
end
section
variable {P:Program} {N:Nat} {ops:Array Oper} {env:Env} {h h1:Hp}
def Has (h:Hp) (r ver:Nat):Prop:=(h.at r).map (·.ver)=some ver
def HasK (h:Hp) (r ver k:Nat):Prop:=(h.at r).map (fun rt=>(rt.ver,rt.k))=some (ver,k)
theorem Has.mk{r ver:Nat}{rt:Rt}(hr:h.at r=some rt)(hv:rt.ver=ver):Has h r ver:=by simp[Has,hr,hv]
theorem HasK.mk{r ver k:Nat}{rt:Rt}(hr:h.at r=some rt)(hv:rt.ver=ver)(hk:rt.k=k):HasK h r ver k:=by simp[HasK,hr,hv,hk]
theorem HasK.has{r ver k:Nat}(hh:HasK h r ver k):Has h r ver:=by
 unfold HasK at hh;unfold Has
 cases hr:h.at r with
 |none=>simp_all
 |some rt=>simp_all
def Ld (h:Hp) (r ver off:Nat) (av:AV):Prop:=∃rt,h.at r=some rt∧rt.ver=ver∧rt.live=true∧rt.cs[off]? =some av
def LdN (h:Hp) (r ver off n:Nat) (cs:List AV):Prop:=∃rt,h.at r=some rt∧rt.ver=ver∧rt.live=true∧off+n≤rt.cs.length∧(rt.cs.drop off).take n=cs
def NC (s:AV):Prop:=gd s∧st s=s
theorem Yq{o:Oper}{av:AV}(hp:po P h (rdo env) o.op)(he:pv P h (rdo env) o.op=av):HStep P o env h h av:=he▸Y2c (Quiet.pure (o:={o with guard:=none}) hp)
theorem HStep.mv{o:Oper}{x:Operand}{s:AV}(ho:o.op= .move x)(hx:rdo env x=s)(hs:NC s):HStep P o env h h s:=
 Yq (by rw[ho];show gd (rdo env x);rw[hx];exact hs.1) (by rw[ho];show st (rdo env x)=s;rw[hx];exact hs.2)
theorem Y8v{o:Oper}{x:Operand}{s:AV}(ho:o.op= .assign x)(hx:rdo env x=s)(hs:NC s):HStep P o env h h s:=
 Yq (by rw[ho];show gd (rdo env x);rw[hx];exact hs.1) (by rw[ho];show st (rdo env x)=s;rw[hx];exact hs.2)
theorem Ya3{o:Oper}{x:Operand}{r ver off:Nat}(ho:o.op= .nilCheck x)(hx:rdo env x= .ref r ver off)(hh:Has h r ver):HStep P o env h h (.ref r ver off):=
 Y2c (Quiet.nilCheck (o:={o with guard:=none}) (x:=x) ho (gpoU rfl ⟨by rw[hx];trivial,by rw[hx];rfl,hh⟩))
theorem HStep.fa{o:Oper}{s:TypeId}{x:Operand}{f d r ver off:Nat}(ho:o.op= .fieldAddr s x f)(hf:fo P s f=some d)(hx:rdo env x= .ref r ver off)(hh:Has h r ver):HStep P o env h h (.ref r ver (off+d)):=
 Yq (by rw[ho];show gd (rdo env x)∧poField h (fo P s f) (st (rdo env x));rw[hx,hf];exact⟨trivial,hh⟩) (by rw[ho];show pvField (fo P s f) (st (rdo env x))=_;rw[hx,hf];rfl)
theorem HStep.ld{o:Oper}{t:TypeId}{x:Operand}{r ver off:Nat}{av:AV}(ho:o.op= .load t x)(hz:lz P t=some none)(hx:rdo env x= .ref r ver off)(hl:Ld h r ver off av):HStep P o env h h av:=by
 have⟨rt,h1,h2,h3,h4⟩:=hl;refine Yq ?_ ?_
 ·rw[ho];show gd (rdo env x)∧Y7p h (lz P t) (st (rdo env x))
  rw[hx,hz];refine⟨trivial, ?_⟩;simp only[st,Y7p,h1]
  grind
 ·rw[ho];show Y5u h (lz P t) (st (rdo env x))=_
  rw[hx,hz];simp only[st,Y5u,h1,h4]
theorem HStep.ldN{o:Oper}{t:TypeId}{x:Operand}{r ver off n:Nat}{cs:List AV}(ho:o.op= .load t x)(hz:lz P t=some (some n))(hx:rdo env x= .ref r ver off)(hl:LdN h r ver off n cs):HStep P o env h h (.agg cs):=by
 have⟨rt,h1,h2,h3,h4,h5⟩:=hl;refine Yq ?_ ?_
 ·rw[ho];show gd (rdo env x)∧Y7p h (lz P t) (st (rdo env x))
  rw[hx,hz];refine⟨trivial, ?_⟩;simp only[st,Y7p,h1]
  simp_all
 ·rw[ho];show Y5u h (lz P t) (st (rdo env x))=_
  rw[hx,hz];simp only[st,Y5u,h1,h5]
def Len (h:Hp) (s:AV) (n:Nat):Prop:=(s= .im (.val (.slice none 0 0))∧n=0)∨(∃r ver off,s= .rsl r ver off n∧Has h r ver)∨∃ys,s= .im (.sl ys n)
theorem Y5p{o:Oper}{t:TypeId}{x:Operand}{s:AV}{n:Nat}(ho:o.op= .call ⟨.builtin .len, #[x], #[t]⟩)(ht:tk P t=1)(hx:rdo env x=s)(hl:Len h s n):HStep P o env h h (.int .i64 n):=by
 refine Yq ?_ ?_
 ·rw[ho];show gd (rdo env x)∧poLen P h t (st (rdo env x))
  rw[hx];rcases hl with⟨rfl,rfl⟩|⟨r,ver,off,rfl,hh⟩|⟨ys,rfl⟩
  ·exact⟨trivial,ht⟩
  ·exact⟨trivial,ht,hh⟩
  ·exact⟨trivial,ht⟩
 ·rw[ho];show pvLen (st (rdo env x))=_
  rw[hx];rcases hl with⟨rfl,rfl⟩|⟨r,ver,off,rfl,hh⟩|⟨ys,rfl⟩<;>rfl
def Ix (h:Hp) (s:AV) (k:Nat) (j:Int) (av:AV):Prop:=(∃r ver off n,s= .rsl r ver off n∧HasK h r ver k∧0≤j∧j<(n:Nat)∧av= .ref r ver (off+j.toNat*k))∨∃ys n,s= .im (.sl ys n)∧0≤j∧j<(n:Nat)∧av= .ipt ys (j.toNat*k)
theorem Y5t{o:Oper}{t:TypeId}{x i:Operand}{s av:AV}{k:Nat}{j:Int}{kk:IntKind}(ho:o.op= .indexAddr t x i)(ht:tk P t=1)(he:ez P t=some k)(hx:rdo env x=s)(hi:rdo env i= .int kk j)(hj:Ix h s k j av):HStep P o env h h av:=by
 refine Yq ?_ ?_
 ·rw[ho];show gd (rdo env x)∧gd (rdo env i)∧poIdx P h t (st (rdo env x)) (st (rdo env i))
  rw[hx,hi];rcases hj with⟨r,ver,off,n,rfl,h1,h2,h3,rfl⟩|⟨ys,n,rfl,h2,h3,rfl⟩
  ·refine⟨trivial,trivial, ?_⟩;simp only[st,poIdx,he];exact⟨ht,h1,h2,h3⟩
  ·refine⟨trivial,trivial, ?_⟩;simp only[st,poIdx,he];omega
 ·rw[ho];show pvIdx (ez P t) (st (rdo env x)) (st (rdo env i))=_
  rw[hx,hi,he];rcases hj with⟨r,ver,off,n,rfl,h1,h2,h3,rfl⟩|⟨ys,n,rfl,h2,h3,rfl⟩<;>rfl
theorem Ya0{o:Oper}{t:TypeId}{x:Operand}{ys:List IV}{off:Nat}{y:IV}(ho:o.op= .load t x)(hz:lz P t=some none)(hx:rdo env x= .ipt ys off)(hl:ys[off]? =some y):HStep P o env h h (.im y):=by
 refine Yq ?_ ?_
 ·rw[ho];show gd (rdo env x)∧Y7p h (lz P t) (st (rdo env x))
  rw[hx,hz];exact⟨trivial,(Xj.1 hl).1⟩
 ·rw[ho];show Y5u h (lz P t) (st (rdo env x))=_
  rw[hx,hz];simp only[st,Y5u,hl]
def Cut (h:Hp) (s:AV) (k:Nat) (j:Int) (av:AV):Prop:=∃r ver n,s= .rsl r ver 0 n∧HasK h r ver k∧0≤j∧j≤(n:Nat)∧av= .rsl r ver 0 j.toNat
theorem HStep.cut{o:Oper}{t:TypeId}{x i:Operand}{s av:AV}{k:Nat}{j:Int}{kk:IntKind}(ho:o.op= .slice t x none (some i) none)(ht:tk P t=1)(he:ez P t=some k)(hx:rdo env x=s)(hi:rdo env i= .int kk j)(hj:Cut h s k j av):HStep P o env h h av:=by
 obtain⟨r,ver,n,rfl,h1,h2,h3,rfl⟩:=hj;refine Yq ?_ ?_
 ·rw[ho];show gd (rdo env x)∧True∧gd (rdo env i)∧Y91 P h t (st (rdo env x)) none (some (st (rdo env i)))
  rw[hx,hi];refine⟨trivial,trivial,trivial, ?_⟩;simp only[st,Y91,he];exact⟨ht,h1,⟨h2,h3⟩,trivial⟩
 ·rw[ho];show Y8k (ez P t) (st (rdo env x)) none (some (st (rdo env i)))=_
  rw[hx,hi,he];simp[st,Y8k,Y86,Y4i]
def St (h:Hp) (r ver off:Nat) (y:AV) (h1:Hp):Prop:=∃rt,h.at r=some rt∧rt.ver=ver∧rt.live=true∧off+(Y1r y).length≤rt.cs.length∧okC h y∧h1=(r,⟨rt.ver,true,rt.e,rt.k,putA rt.cs off (Y1r y)⟩)::h
theorem HStep.sto{o:Oper}{t:TypeId}{x y:Operand}{r ver off n:Nat}{v:AV}(ho:o.op= .store t x y)(hz:szt P t=some n)(hx:rdo env x= .ref r ver off)(hy:rdo env y=v)(hv:NC v)(hn:(Y1r v).length=n)(hs:St h r ver off v h1):HStep P o env h h1 .any:=by
 obtain⟨rt,a1,a2,a3,a4,a5,rfl⟩:=hs;have:=RStep.store (P:=P) (env:=env) (h:=h) ho (r:=r) (ver:=ver) (off:=off) (rt:=rt) (by rw[hx];rfl) (by rw[hx];trivial) (by rw[hy];exact hv.1) a1 a2 a3 (by rw[hy,hv.2,hn];exact hz) (by rw[hy,hv.2];exact a5) (by rw[hy,hv.2];exact a4);rw[hy,hv.2] at this;exact Y30 this
def Nw (h:Hp) (r:Nat) (rt:Rt) (h1:Hp):Prop:=h.at r=none∧h1=(r,rt)::h
theorem Y9r{o:Oper}{e:TypeId}{z:List Value}{r:Nat}(ho:o.op= .alloc e)(hz:zc P e=some z)(hz1:z.all (·.oneCell')=true)(hn:Nw h r ⟨0,true,e,z.length,z.map fun v=>.im (.val v)⟩ h1):HStep P o env h h1 (.ref r 0 0):=by
 obtain⟨a1,rfl⟩:=hn;exact Y30 (RStep.alloc ho r a1 hz hz1)
theorem Ya4{o:Oper}{e:TypeId}{x:Operand}{v:AV}{r:Nat}(ho:o.op= .box e x)(hx:rdo env x=v)(hok:okC h v)(hn:Nw h r ⟨0,true,e,(Y1r v).length,Y1r v⟩ h1):HStep P o env h h1 (.ref r 0 0):=by
 obtain⟨a1,rfl⟩:=hn;subst hx;exact Y30 (RStep.box ho r a1 hok)
theorem Ya1{o:Oper}{t e:TypeId}{len k bytes r:Nat}{z:List Value}{ps:List (Nat×Operand)}{qs:List (Nat×AV)}{cs:List AV}(ho:o.op= .buildSlice t len ps.toArray)(E:Elem P t e k bytes z)(hlen:len*k≤16777216)
  (hq:ps.map (fun p=>(p.1,rdo env p.2))=qs) (hqs:∀q∈qs,NC q.2∧okC h q.2) (hf:Y7a h (fun i=>some (i*k,k)) (zerosA z len) qs=some cs) (hone:∀x∈cs,oneA h x) (hcl:cs.length=len*k) (hn:Nw h r ⟨0,true,e,k,cs⟩ h1):HStep P o env h h1 (.rsl r 0 0 len):=by
 obtain⟨a1,rfl⟩:=hn;have hp:∀p∈ps,NC (rdo env p.2)∧okC h (rdo env p.2):=fun p hp=>hqs (p.1,rdo env p.2) (by grind);have he:(ps.map fun p=>(p.1,st (rdo env p.2)))=qs:=by
  rw[←hq];exact X0e fun p hp'=>by rw[(hp p hp').1.2]
 exact Y30 (RStep.build ho r a1 E hlen (fun p hp'=>(hp p hp').1.1) (fun p hp'=>by rw[(hp p hp').1.2];grind) cs (by simp_all) hone hcl)
def App (h:Hp) (s:AV) (e k bytes m:Nat) (news:List AV) (h1:Hp) (s1:AV):Prop:=
 (∃r ver n rt,s= .rsl r ver 0 n∧h.at r=some rt∧rt.ver=ver∧rt.live=true∧rt.e=e∧rt.k=k∧n*k≤rt.cs.length∧(n+m)*bytes≤140737488355328∧n+m≤140737488355328∧
  h1=(r,⟨ver+1,true,e,k,rt.cs.take (n*k)++news⟩)::h∧s1= .rsl r (ver+1) 0 (n+m))∨
 (s= .im (.val (.slice none 0 0))∧∃r,h.at r=none∧(0+m)*bytes≤140737488355328∧0+m≤140737488355328∧h1=(r,⟨1,true,e,k,news⟩)::h∧s1= .rsl r 1 0 m)
theorem Y9q{o:Oper}{s x:Operand}{t u e:TypeId}{k bytes m:Nat}{z:List Value}{sv xv s1:AV}{news:List AV}(ho:o.op= .call ⟨.builtin .append, #[s,x], #[t,u]⟩)(E:Elem P t e k bytes z)(hs:rdo env s=sv)(hx:rdo env x=xv)(hg:gd xv)(src:SrcA P h u k (Abs.st xv) m news)
  (ha:App h sv e k bytes m news h1 s1):HStep P o env h h1 s1:=by
 subst hs hx;rcases ha with⟨r,ver,n,rt,b1,b2,b3,b4,b5,b6,b7,b8,b9,rfl,rfl⟩|⟨b1,r,b2,b3,b4,rfl,rfl⟩
 ·exact Y30 (RStep.append ho E b1 b2 b3 b4 b5 b6 b7 hg src b8 b9)
 ·refine Y9k ?_ (Y9p ho E b1 (r:=r) b2 hg src b3 b4);intro i;simp only[Hp.at]
  split<;>rfl
theorem Y9x{o:Oper}{f:FuncId}{xs:List Operand}{ts:Array TypeId}{vs:List AV}{av:AV}(ho:o.op= .call ⟨.value (.func f),xs.toArray,ts⟩)(hc:Y4g P f=true)(hq:xs.map (fun y=>rdo env y)=vs)(hv:∀v∈vs,NC v)(hs:CallOK P f vs h h1 av):HStep P o env h h1 av:=by
 have hy:∀y∈xs,NC (rdo env y):=fun y hy=>hv _ (by grind);refine Y9l (first:=[]) ho hc (.inl ⟨rfl,rfl⟩) (fun y h=>(hy y h).1) ?_;have he:(xs.map fun y=>Abs.st (rdo env y))=vs:=by rw[←hq];exact X0e fun y h=>(hy y h).2
 simp_all
end
section
variable {P:Program} {N:Nat} {ops:Array Oper} {env:Env} {h h1:Hp} {da:DA} {K:Exit→Env→Hp→Prop}
theorem GQ.toE{c:Code}(env':Env)(he:env.keep (env'.map (·.1))=env')(H:GQ da P N c env' h K):GQ da P N c env h K:=GQ.keep (env'.map (·.1)) (by simp_all)
theorem Ye{env':Env}(he:env.keep (env'.map (·.1))=env'):Env.le env env':=by
 have:=Env.le_keep env (env'.map (·.1));rwa[he] at this
def GL (da:DA) (P:Program) (N:Nat) (c:Code) (env:Env) (h:Hp) (K:Exit→Env→Hp→Prop):Prop:=∃k x e' h',LGn da P N c k env h x e' h'∧K x e' h'
theorem GQ.ofGL{c:Code}(H:GL da P N c env h K):GQ da P N (.loop c) env h K:=by
 have⟨k,x,e',h',hl,hk⟩:=H;exact⟨x,e',h',Goes.loop hl,hk⟩
theorem Y7z{c:Code}(H:GQ da P N c env h (Ex.then (fun e h'=>GL da P N c e h' K) K)):GL da P N c env h K:=by
 have⟨x,e1,h1,g,k⟩:=H;cases x with
 |normal=>
  have⟨q,x,e2,h2,hq,hk⟩:=k;exact⟨q+1,x,e2,h2,.inr ⟨e1,h1,g,hq⟩,hk⟩
 |_=>exact⟨1,_,e1,h1,.inl ⟨by simp,g⟩,k⟩
theorem LGn.weaken{c:Code}{env':Env}(hle:Env.le env env'){k:Nat}{x:Exit}{e2:Env}{h2:Hp}(hl:LGn da P N c k env' h x e2 h2):LGn da P N c k env h x e2 h2:=by
 cases k with
 |zero=>exact hl
 |succ k=>
  simp only[LGn] at hl⊢;rcases hl with⟨hx,g⟩|⟨e1,h1,g,hq⟩
  ·exact .inl ⟨hx,g.weaken hle⟩
  ·exact .inr ⟨e1,h1,g.weaken hle,hq⟩
theorem Y9o{c:Code}(env':Env)(he:env.keep (env'.map (·.1))=env')(H:GL da P N c env' h K):GL da P N c env h K:=by
 have⟨k,x,e',h',hl,hk⟩:=H;exact⟨k,x,e',h',hl.weaken (Ye he),hk⟩
theorem Y9g{c d:Code}(J:Env→Hp→Prop)(hc:GQ da P N c env h (Ex.then J K))(hd:∀e h',J e h'→GQ da P N d e h' K):GQ da P N (.seq c d) env h K:=by
 refine Y4 (hc.mono fun x e h' k=> ?_);cases x with
 |normal=>exact hd e h' k
 |_=>exact k
theorem Yj{fn:Func}{Q:Hp→AV→Prop}{Qp:Hp→List PanicEntry→Prop}{xs:List AV}(hr:resE P h env fn.results.toList=some xs)(H:Q h (Y8i xs)):EndK P fn Q Qp .ret env h:=⟨xs,hr,H⟩
theorem Y9t{fn:Func}{Q:Hp→AV→Prop}{Qp:Hp→List PanicEntry→Prop}{xs:List AV}(hr:resE P h env fn.results.toList=some xs)(H:Q h (Y8i xs)):EndK P fn Q Qp .normal env h:=⟨xs,hr,H⟩
theorem Nw.at{r:Nat}{rt:Rt}(hn:Nw h r rt h1):h1.at r=some rt:=by
 obtain⟨_,rfl⟩:=hn;simp[Hp.at]
theorem Y73{o:Oper}{b:Bool}(hs:HStep P o env h h1 (.bool b))(hb:b=true):HStep P o env h h1 (.bool true):=hb▸hs
theorem Y74{o:Oper}{b:Bool}(hs:HStep P o env h h1 (.bool b))(hb:b=false):HStep P o env h h1 (.bool false):=hb▸hs
theorem Y5o{s:AV}(hs:oneA h s):Y1r s=[s]:=by
 cases s<;>first|rfl|(exact hs.elim)
inductive CL:List (Nat×AV)→List (Nat×List AV)→Prop
 |nil:CL [] []
 |cons {i:Nat} {v:AV} {cs:List AV} {r:List (Nat×AV)} {r':List (Nat×List AV)} (e:Y1r v=cs) (t:CL r r'):CL ((i,v)::r) ((i,cs)::r')
def fillB (place:Nat→Option (Nat×Nat)):List AV→List (Nat×List AV)→Option (List AV)
 |cells,[]=>some cells
 |cells,(i,v)::rest=>match place i with
  |none=>none
  |some (off,size)=>if v.length=size∧off+v.length≤cells.length then fillB place (putA cells off v) rest else none
theorem CL.fill{place:Nat→Option (Nat×Nat)}:∀{qs:List (Nat×AV)} {rs:List (Nat×List AV)} (cells:List AV),CL qs rs→Y7a h place cells qs=fillB place cells rs
 |_,_,cells,.nil=>rfl
 |_,_,cells,.cons (i:=i) e t=>by
  simp only[Y7a,fillB,e];cases place i with
  |none=>rfl
  |some p=>have⟨off,size⟩:=p;simp only;split<;>first|exact CL.fill _ t|rfl
theorem Y67{o:Oper}{t:TypeId}{ps:List (Nat×Operand)}{qs:List (Nat×AV)}{z:List Value}{fs:List (Nat×Nat)}{cs:List AV}{rs:List (Nat×List AV)}(ho:o.op= .build t ps.toArray)(hz:zc P t=some z)(hf:fps P t=some fs)
  (hq:ps.map (fun p=>(p.1,rdo env p.2))=qs) (hqs:∀q∈qs,NC q.2∧okC h q.2) (hcl:CL qs rs) (hfillB:fillB (fs[·]?) (z.map fun v=>.im (.val v)) rs=some cs):HStep P o env h h (.agg cs):=by
 have hfill:Y7a h (fs[·]?) (z.map fun v=>.im (.val v)) qs=some cs:=(hcl.fill _).trans hfillB;have hp:∀p∈ps,NC (rdo env p.2)∧okC h (rdo env p.2):=fun p hp=>hqs (p.1,rdo env p.2) (by grind);have he:(ps.map fun p=>(p.1,st (rdo env p.2)))=qs:=by
  rw[←hq];exact X0e fun p hp'=>by rw[(hp p hp').1.2]
 refine Yq ?_ ?_
 ·rw[ho];show(∀p∈ps.toArray.toList,gd (rdo env p.2))∧poBuild P h t (ps.toArray.toList.map fun p=>(p.1,st (rdo env p.2)));simp only[List.toList_toArray];rw[he];refine⟨fun p hp'=>(hp p hp').1.1,fun q hq'=>(hqs q hq').2, ?_⟩
  simp_all
 ·rw[ho];show pvBuild P h t (ps.toArray.toList.map fun p=>(p.1,st (rdo env p.2)))=_;simp only[List.toList_toArray];rw[he];simp only[pvBuild,hz,hf,hfill]
theorem okC_agg{cs:List AV}(hs:∀x∈cs,oneA h x):okC h (.agg cs):=hs
theorem Y6b{s:AV}(hs:oneA h s):okC h s:=by
 cases s<;>first|exact hs|(exact hs.elim)
theorem cellsA_one{s:AV}(hs:oneA h s):(Y1r s).length=1:=by
 cases s<;>first|rfl|(exact hs.elim)
theorem Y2f{u:Value}(hu:u.oneCell'=true):okC h (.im (.val u)):=hu
theorem Y9h{o:Oper}{c a b:Operand}{s:AV}(ho:o.op= .pick c a b)(hc:rdo env c= .bool true)(hx:rdo env a=s)(hs:NC s):HStep P o env h h s:=
 Yq (by rw[ho];show gd (rdo env c)∧poPick (st (rdo env c)) (rdo env a) (rdo env b);rw[hc];exact⟨trivial,fun _=>by rw[hx];exact hs.1,fun e=>by cases e⟩)
  (by rw[ho];show pvPick (st (rdo env c)) (rdo env a) (rdo env b)=s;rw[hc];show selA true (st (rdo env a)) (st (rdo env b))=s;rw[selA_true,hx];exact hs.2)
theorem Y9i{o:Oper}{c a b:Operand}{s:AV}(ho:o.op= .pick c a b)(hc:rdo env c= .bool false)(hx:rdo env b=s)(hs:NC s):HStep P o env h h s:=
 Yq (by rw[ho];show gd (rdo env c)∧poPick (st (rdo env c)) (rdo env a) (rdo env b);rw[hc];exact⟨trivial,fun e=>(by cases e),fun _=>by rw[hx];exact hs.1⟩)
  (by rw[ho];show pvPick (st (rdo env c)) (rdo env a) (rdo env b)=s;rw[hc];show selA false (st (rdo env a)) (st (rdo env b))=s;rw[selA_false,hx];exact hs.2)
theorem Y8u{o:Oper}{t:TypeId}{x i:Operand}{r ver off k n:Nat}{j:Nat}{kk:IntKind}(ho:o.op= .indexAddr t x i)(hx:rdo env x= .ref r ver off)(hi:rdo env i= .int kk (j:Nat))(he:ez P t=some k)(ha:alen P t=some n)(hh:Has h r ver)(hj:j<n):HStep P o env h h (.ref r ver (off+j*k)):=
 Yq (by rw[ho];show gd (rdo env x)∧gd (rdo env i)∧poIdx P h t (st (rdo env x)) (st (rdo env i));rw[hx,hi];refine⟨trivial,trivial, ?_⟩;simp only[st,poIdx,he,ha];exact⟨hh,by omega,by omega⟩)
  (by rw[ho];show pvIdx (ez P t) (st (rdo env x)) (st (rdo env i))=_;rw[hx,hi,he];rfl)
theorem Y11{ms cl:List Nat}{hl:List Hp}{i:Nat}:DObl P ops ms cl hl i [] [] env:=trivial
theorem Ya2{ms cl:List Nat}{hl:List Hp}{i:Nat}{o:Oper}{l:List Oper}{v:AV}{vs:List AV}(hp:posN cl i 0=none)(hs:∀h,OStep P ops o env h h v)(hr:DObl P ops ms cl hl (i+1) l vs (setd env o.dst v)):DObl P ops ms cl hl i (o::l) (v::vs) env:=by
 refine⟨?_,hr⟩
 simp_all
theorem DObl.lite1{ms cl:List Nat}{hl:List Hp}{i:Nat}{o:Oper}{l:List Oper}{v:AV}{vs:List AV}(p0:Nat)(hp:posN cl i 0=none)(hw:wins ms cl i cl.length=[p0])(hs:OStep P ops o env (hl.getD p0 []) (hl.getD p0 []) v)(hr:DObl P ops ms cl hl (i+1) l vs (setd env o.dst v)):DObl P ops ms cl hl i (o::l) (v::vs) env:=by
 refine⟨?_,hr⟩
 simp_all
theorem DObl.lite2{ms cl:List Nat}{hl:List Hp}{i:Nat}{o:Oper}{l:List Oper}{v:AV}{vs:List AV}(p0 p1:Nat)(hp:posN cl i 0=none)(hw:wins ms cl i cl.length=[p0,p1])(hs:OStep P ops o env (hl.getD p0 []) (hl.getD p0 []) v)(hs1:OStep P ops o env (hl.getD p1 []) (hl.getD p1 []) v)(hr:DObl P ops ms cl hl (i+1) l vs (setd env o.dst v)):DObl P ops ms cl hl i (o::l) (v::vs) env:=by
 refine⟨?_,hr⟩
 simp_all
theorem DObl.lite3{ms cl:List Nat}{hl:List Hp}{i:Nat}{o:Oper}{l:List Oper}{v:AV}{vs:List AV}(p0 p1 p2:Nat)(hp:posN cl i 0=none)(hw:wins ms cl i cl.length=[p0,p1,p2])(hs0:OStep P ops o env (hl.getD p0 []) (hl.getD p0 []) v)(hs1:OStep P ops o env (hl.getD p1 []) (hl.getD p1 []) v)(hs2:OStep P ops o env (hl.getD p2 []) (hl.getD p2 []) v)(hr:DObl P ops ms cl hl (i+1) l vs (setd env o.dst v)):DObl P ops ms cl hl i (o::l) (v::vs) env:=by
 refine⟨?_,hr⟩
 simp_all
theorem DObl.hv{ms cl:List Nat}{hl:List Hp}{i:Nat}{o:Oper}{l:List Oper}{v:AV}{vs:List AV}(k:Nat)(hp:posN cl i 0=some k)(hs:OStep P ops o env (hl.getD k []) (hl.getD (k+1) []) v)(hr:DObl P ops ms cl hl (i+1) l vs (setd env o.dst v)):DObl P ops ms cl hl i (o::l) (v::vs) env:=by
 refine⟨?_,hr⟩
 simp_all
end
section
variable {P:Program} {N:Nat} {ops:Array Oper} {env:Env} {h h1:Hp} {da da':DA} {K:Exit→Env→Hp→Prop}
theorem SlD.slots0{ι:Nat→Bk}{A:Nat→Prop}{a:Act}{w:World}(S:SlD da N env h ι A a w):Slots N env h ι A {tmps:=a.tmps,defers:=[]} w:=⟨S.size,rfl,S.at_⟩
end
theorem nc1{a:AV}(h:NC a:=by exact⟨trivial,rfl⟩):∀v∈[a],NC v:=fun v hv=>by
 simp_all
theorem nc2{a b:AV}(h:NC a:=by exact⟨trivial,rfl⟩) (k:NC b:=by exact⟨trivial,rfl⟩):∀v∈[a,b],NC v:=fun v hv=>by
 grind
section
variable {P:Program} {N:Nat} {ops:Array Oper} {env:Env} {h h1:Hp} {da da':DA} {K:Exit→Env→Hp→Prop} {o:Oper} {l:List Oper}
theorem Y7g{c:Code}(env':Env)(H:GQ da P N c env' h K)(he:env.keep (env'.map (·.1))=env':=by kernel_rfl):GQ da P N c env h K:=GQ.toE env' he H
theorem Y0l{c:Operand}{y z:Code}{b:Bool}(hb:b=true)(H:GQ da P N y env h K)(hc:rdo env c= .bool b:=by kernel_rfl):GQ da P N (.cond c y z) env h K:=Y3q hc (fun _=>H) (fun e=>by simp_all)
theorem Y0w{c:Operand}{y z:Code}{b:Bool}(hb:b=false)(H:GQ da P N z env h K)(hc:rdo env c= .bool b:=by kernel_rfl):GQ da P N (.cond c y z) env h K:=Y3q hc (fun e=>by simp_all) (fun _=>H)
theorem Y5(s:AV){x:Operand}(H:SQ P N ops l (setd env o.dst s) h K)(hn:NC s:=by exact⟨trivial,rfl⟩) (ho:o.op= .move x:=by rfl) (hx:rdo env x=s:=by kernel_rfl) (hd:o.dst.all (· <N)=true:=by rfl) (hg:gB ops env o=some true:=by rfl):SQ P N ops (o::l) env h K:=
 Y0f hd (OStep.yes hg (HStep.mv ho hx hn)) H
theorem Yc(s:AV){x:Operand}(H:SQ P N ops l (setd env o.dst s) h K)(hn:NC s:=by exact⟨trivial,rfl⟩) (ho:o.op= .assign x:=by rfl) (hx:rdo env x=s:=by kernel_rfl) (hd:o.dst.all (· <N)=true:=by rfl) (hg:gB ops env o=some true:=by rfl):SQ P N ops (o::l) env h K:=
 Y0f hd (OStep.yes hg (Y8v ho hx hn)) H
theorem Yi{t:TypeId}{x:Operand}{r ver off:Nat}{av:AV}(hl:Ld h r ver off av)(ho:o.op= .load t x:=by rfl) (hz:lz P t=some none:=by kernel_rfl) (hx:rdo env x= .ref r ver off:=by kernel_rfl):HStep P o env h h av:=HStep.ld ho hz hx hl
theorem Yf{x:Operand}{r ver:Nat}(off:Nat)(hh:Has h r ver)(ho:o.op= .nilCheck x:=by rfl) (hx:rdo env x= .ref r ver off:=by kernel_rfl):HStep P o env h h (.ref r ver off):=Ya3 ho hx hh
theorem Yd{t:TypeId}{i:Nat}{x:Operand}{r ver:Nat}(d off:Nat)(hh:Has h r ver)(ho:o.op= .fieldAddr t x i:=by rfl) (hf:fo P t i=some d:=by kernel_rfl) (hx:rdo env x= .ref r ver off:=by kernel_rfl):HStep P o env h h (.ref r ver (off+d)):=HStep.fa ho hf hx hh
theorem Yu{t:TypeId}{x:Operand}{r ver off:Nat}{av:AV}(hl:Ld h r ver off av)(H:SQ P N ops l (setd env o.dst av) h K)(ho:o.op= .load t x:=by rfl) (hz:lz P t=some none:=by kernel_rfl) (hx:rdo env x= .ref r ver off:=by kernel_rfl) (hd:o.dst.all (· <N)=true:=by rfl) (hg:gB ops env o=some true:=by rfl):SQ P N ops (o::l) env h K:=
 Y0f hd (OStep.yes hg (HStep.ld ho hz hx hl)) H
theorem Ys{x:Operand}{r ver:Nat}(off:Nat)(hh:Has h r ver)(H:SQ P N ops l (setd env o.dst (.ref r ver off)) h K)(ho:o.op= .nilCheck x:=by rfl) (hx:rdo env x= .ref r ver off:=by kernel_rfl) (hd:o.dst.all (· <N)=true:=by rfl) (hg:gB ops env o=some true:=by rfl):SQ P N ops (o::l) env h K:=
 Y0f hd (OStep.yes hg (Ya3 ho hx hh)) H
theorem Yo{t:TypeId}{i:Nat}{x:Operand}{r ver:Nat}(d off:Nat)(hh:Has h r ver)(H:SQ P N ops l (setd env o.dst (.ref r ver (off+d))) h K)(ho:o.op= .fieldAddr t x i:=by rfl) (hf:fo P t i=some d:=by kernel_rfl) (hx:rdo env x= .ref r ver off:=by kernel_rfl) (hd:o.dst.all (· <N)=true:=by rfl) (hg:gB ops env o=some true:=by rfl):SQ P N ops (o::l) env h K:=
 Y0f hd (OStep.yes hg (HStep.fa ho hf hx hh)) H
theorem Yy(v:AV)(hp:po P h (rdo env) o.op)(H:SQ P N ops l (setd env o.dst v) h K)(he:pv P h (rdo env) o.op=v:=by kernel_rfl) (hd:o.dst.all (· <N)=true:=by rfl) (hg:gB ops env o=some true:=by rfl):SQ P N ops (o::l) env h K:=
 Y0f hd (OStep.yes hg (Yq hp he)) H
theorem SQ.c{f:FuncId}{xs:List Operand}{ts:Array TypeId}{av:AV}(vs:List AV)(hv:∀v∈vs,NC v)(hs:CallOK P f vs h h1 av)(H:SQ P N ops l (setd env o.dst av) h1 K)(ho:o.op= .call ⟨.value (.func f),xs.toArray,ts⟩:=by rfl) (hc:Y4g P f=true:=by kernel_rfl) (hq:xs.map (fun y=>rdo env y)=vs:=by kernel_rfl) (hd:o.dst.all (· <N)=true:=by rfl) (hg:gB ops env o=some true:=by rfl):SQ P N ops (o::l) env h K:=
 Y0f hd (OStep.yes hg (Y9x ho hc hq hv hs)) H
section
variable {ms cl:List Nat} {hl:List Hp} {i:Nat} {v:AV} {vs:List AV}
theorem Ym(s:AV){x:Operand}(H:DObl P ops ms cl hl (i+1) l vs (setd env o.dst s))(hn:NC s:=by exact⟨trivial,rfl⟩) (hp:posN cl i 0=none:=by kernel_rfl) (ho:o.op= .move x:=by rfl) (hx:rdo env x=s:=by kernel_rfl) (hg:gB ops env o=some true:=by rfl):DObl P ops ms cl hl i (o::l) (s::vs) env:=
 Ya2 hp (fun _=>OStep.yes hg (HStep.mv ho hx hn)) H
theorem Ya(p0:Nat)(hs:HStep P o env (hl.getD p0 []) (hl.getD p0 []) v)(H:DObl P ops ms cl hl (i+1) l vs (setd env o.dst v))(hp:posN cl i 0=none:=by kernel_rfl) (hw:wins ms cl i cl.length=[p0]:=by kernel_rfl) (hg:gB ops env o=some true:=by rfl):DObl P ops ms cl hl i (o::l) (v::vs) env:=
 DObl.lite1 p0 hp hw (OStep.yes hg hs) H
theorem Y1c(hs:∀h,HStep P o env h h v)(H:DObl P ops ms cl hl (i+1) l vs (setd env o.dst v))(hp:posN cl i 0=none:=by kernel_rfl) (hg:gB ops env o=some true:=by rfl):DObl P ops ms cl hl i (o::l) (v::vs) env:=
 Ya2 hp (fun h=>OStep.yes hg (hs h)) H
end
end
theorem al_{α:Type}{p:α→Prop}:∀{l:List α},l.foldr (fun x q=>p x∧q) True→∀x∈l,p x
 |[],_,x,hx=>by cases hx
 |a::l,h,x,hx=>by
  rcases Xb.1 hx with rfl|hx
  ·exact h.1
  ·exact al_ (l:=l) h.2 x hx
section
variable {P:Program} {N:Nat} {ops:Array Oper} {env:Env} {h h1:Hp} {da da':DA} {K:Exit→Env→Hp→Prop} {o:Oper} {l:List Oper} {av:AV}
theorem Y9(hs:HStep P o env h h1 av)(H:SQ P N ops l (setd env o.dst av) h1 K)(hd:o.dst.all (· <N)=true:=by rfl) (hg:gB ops env o=some true:=by rfl):SQ P N ops (o::l) env h K:=Y0f hd (OStep.yes hg hs) H
theorem Y2d(H:SQ P N ops l (setd env o.dst undA) h K)(hd:o.dst.all (· <N)=true:=by rfl) (hg:gB ops env o=some false:=by rfl):SQ P N ops (o::l) env h K:=Y0f hd (OStep.no hg) H
theorem Y4d{f:FuncId}{xs:List Operand}{ts:Array TypeId}{vs:List AV}(hs:CallOK P f vs h h1 av)(hv:∀v∈vs,NC v)(ho:o.op= .call ⟨.value (.func f),xs.toArray,ts⟩:=by rfl) (hc:Y4g P f=true:=by kernel_rfl) (hq:xs.map (fun y=>rdo env y)=vs:=by kernel_rfl):HStep P o env h h1 av:=Y9x ho hc hq hv hs
theorem Y06{f:FuncId}{xs:List Operand}{ts:Array TypeId}{vs:List AV}(hs:CallOK P f vs h h1 av)(hv:∀v∈vs,NC v)(H:SQ P N ops l (setd env o.dst av) h1 K)(ho:o.op= .call ⟨.value (.func f),xs.toArray,ts⟩:=by rfl) (hc:Y4g P f=true:=by kernel_rfl) (hq:xs.map (fun y=>rdo env y)=vs:=by kernel_rfl) (hd:o.dst.all (· <N)=true:=by rfl) (hg:gB ops env o=some true:=by rfl):SQ P N ops (o::l) env h K:=
 Y0f hd (OStep.yes hg (Y9x ho hc hq hv hs)) H
theorem Y2b{t:TypeId}{x y:Operand}{r ver off:Nat}{v:AV}(hs:St h r ver off v h1)(hv:NC v:=by exact⟨trivial,rfl⟩) (ho:o.op= .store t x y:=by rfl) (hz:szt P t=some (Y1r v).length:=by kernel_rfl) (hx:rdo env x= .ref r ver off:=by kernel_rfl) (hy:rdo env y=v:=by kernel_rfl):HStep P o env h h1 .any:=HStep.sto ho hz hx hy hv rfl hs
theorem Y4b{t:TypeId}{x y:Operand}{r ver off:Nat}{v:AV}(hs:St h r ver off v h1)(hv:NC v)(hn:oneA h v)(ho:o.op= .store t x y:=by rfl) (hz:szt P t=some 1:=by kernel_rfl) (hx:rdo env x= .ref r ver off:=by kernel_rfl) (hy:rdo env y=v:=by kernel_rfl):HStep P o env h h1 .any:=HStep.sto ho hz hx hy hv (cellsA_one hn) hs
theorem Y59{t:TypeId}{x i:Operand}{s:AV}{k:Nat}{j:Int}(hj:Ix h s k j av)(ho:o.op= .indexAddr t x i:=by rfl) (ht:tk P t=1:=by kernel_rfl) (he:ez P t=some k:=by kernel_rfl) (hx:rdo env x=s:=by kernel_rfl) (hi:rdo env i= .int .i64 j:=by kernel_rfl):HStep P o env h h av:=Y5t ho ht he hx hi hj
theorem Y9j{t:TypeId}{x i:Operand}{s:AV}{k:Nat}{j:Int}(hj:Cut h s k j av)(ho:o.op= .slice t x none (some i) none:=by rfl) (ht:tk P t=1:=by kernel_rfl) (he:ez P t=some k:=by kernel_rfl) (hx:rdo env x=s:=by kernel_rfl) (hi:rdo env i= .int .i64 j:=by kernel_rfl):HStep P o env h h av:=HStep.cut ho ht he hx hi hj
theorem Y5a{t:TypeId}{x:Operand}{s:AV}{n:Nat}(hl:Len h s n)(ho:o.op= .call ⟨.builtin .len, #[x], #[t]⟩:=by rfl) (ht:tk P t=1:=by kernel_rfl) (hx:rdo env x=s:=by kernel_rfl):HStep P o env h h (.int .i64 n):=Y5p ho ht hx hl
theorem Y51{s x:Operand}{t u e:TypeId}{k bytes m:Nat}{z:List Value}{sv s1:AV}{news:List AV}(xv:AV)(E:Elem P t e k bytes z)(src:SrcA P h u k (Abs.st xv) m news)(ha:App h sv e k bytes m news h1 s1)(hg:gd xv:=by exact trivial) (ho:o.op= .call ⟨.builtin .append, #[s,x], #[t,u]⟩:=by rfl) (hs:rdo env s=sv:=by kernel_rfl) (hx:rdo env x=xv:=by kernel_rfl):HStep P o env h h1 s1:=Y9q ho E hs hx hg src ha
theorem Y15{t e:TypeId}{len k bytes r:Nat}{z:List Value}{ps:List (Nat×Operand)}{cs:List AV}(qs:List (Nat×AV))(E:Elem P t e k bytes z)(hn:Nw h r ⟨0,true,e,k,cs⟩ h1)(hqs:∀q∈qs,NC q.2∧okC h q.2)(hone:∀x∈cs,oneA h x)(ho:o.op= .buildSlice t len ps.toArray:=by rfl) (hlen:len*k≤16777216:=by decide)
  (hq:ps.map (fun p=>(p.1,rdo env p.2))=qs:=by kernel_rfl) (hf:Y7a h (fun i=>some (i*k,k)) (zerosA z len) qs=some cs:=by kernel_rfl) (hcl:cs.length=len*k:=by rfl):HStep P o env h h1 (.rsl r 0 0 len):=Ya1 ho E hlen hq hqs hf hone hcl hn
theorem Y6f{c a b:Operand}(s:AV)(hc:rdo env c= .bool true:=by kernel_rfl) (hx:rdo env a=s:=by kernel_rfl) (hs:NC s:=by exact⟨trivial,rfl⟩) (ho:o.op= .pick c a b:=by rfl):HStep P o env h h s:=Y9h ho hc hx hs
theorem Y6s{c a b:Operand}(s:AV)(hc:rdo env c= .bool false:=by kernel_rfl) (hx:rdo env b=s:=by kernel_rfl) (hs:NC s:=by exact⟨trivial,rfl⟩) (ho:o.op= .pick c a b:=by rfl):HStep P o env h h s:=Y9i ho hc hx hs
theorem Y96{b:Bool}(hp:po P h (rdo env) o.op)(hb:b=true)(he:pv P h (rdo env) o.op= .bool b:=by kernel_rfl):HStep P o env h h (.bool true):=Y73 (Yq hp he) hb
theorem Y97{b:Bool}(hp:po P h (rdo env) o.op)(hb:b=false)(he:pv P h (rdo env) o.op= .bool b:=by kernel_rfl):HStep P o env h h (.bool false):=Y74 (Yq hp he) hb
section
variable {ms cl:List Nat} {hl:List Hp} {i:Nat} {v:AV} {vs:List AV}
theorem Y0q(H:DObl P ops ms cl hl (i+1) l vs (setd env o.dst undA))(hp:posN cl i 0=none:=by kernel_rfl) (hg:gB ops env o=some false:=by rfl):DObl P ops ms cl hl i (o::l) (undA::vs) env:=Ya2 hp (fun _=>OStep.no hg) H
theorem Y0s(k:Nat)(hs:HStep P o env (hl.getD k []) (hl.getD (k+1) []) v)(H:DObl P ops ms cl hl (i+1) l vs (setd env o.dst v))(hp:posN cl i 0=some k:=by kernel_rfl) (hg:gB ops env o=some true:=by rfl):DObl P ops ms cl hl i (o::l) (v::vs) env:=DObl.hv k hp (OStep.yes hg hs) H
theorem Y43(p0 p1:Nat)(hs:HStep P o env (hl.getD p0 []) (hl.getD p0 []) v)(hs1:HStep P o env (hl.getD p1 []) (hl.getD p1 []) v)(H:DObl P ops ms cl hl (i+1) l vs (setd env o.dst v))(hp:posN cl i 0=none:=by kernel_rfl) (hw:wins ms cl i cl.length=[p0,p1]:=by kernel_rfl) (hg:gB ops env o=some true:=by rfl):DObl P ops ms cl hl i (o::l) (v::vs) env:=DObl.lite2 p0 p1 hp hw (OStep.yes hg hs) (OStep.yes hg hs1) H
theorem Y31(p0 p1 p2:Nat)(hs:HStep P o env (hl.getD p0 []) (hl.getD p0 []) v)(hs1:HStep P o env (hl.getD p1 []) (hl.getD p1 []) v)(hs2:HStep P o env (hl.getD p2 []) (hl.getD p2 []) v)(H:DObl P ops ms cl hl (i+1) l vs (setd env o.dst v))(hp:posN cl i 0=none:=by kernel_rfl) (hw:wins ms cl i cl.length=[p0,p1,p2]:=by kernel_rfl) (hg:gB ops env o=some true:=by rfl):DObl P ops ms cl hl i (o::l) (v::vs) env:=DObl.lite3 p0 p1 p2 hp hw (OStep.yes hg hs) (OStep.yes hg hs1) (OStep.yes hg hs2) H
end
end
section
variable {P:Program} {N:Nat} {env:Env} {h h1:Hp}
theorem HStep.ixG{o:Oper}{t:TypeId}{x i:Operand}{cs:List IV}{off k n:Nat}{j:Int}{kk:IntKind}(ho:o.op= .indexAddr t x i)(hx:rdo env x= .ipt cs off)(hi:rdo env i= .int kk j)(he:ez P t=some k)(ha:alen P t=some n)(h0:0≤j∧j<(n:Nat)):HStep P o env h h (.ipt cs (off+j.toNat*k)):=
 Yq (by rw[ho];show gd (rdo env x)∧gd (rdo env i)∧poIdx P h t (st (rdo env x)) (st (rdo env i));rw[hx,hi];refine⟨trivial,trivial, ?_⟩;simp only[st,poIdx,he,ha];exact h0)
  (by rw[ho];show pvIdx (ez P t) (st (rdo env x)) (st (rdo env i))=_;rw[hx,hi,he];rfl)
def CutL (h:Hp) (s:AV) (k:Nat) (j:Int) (av:AV):Prop:=∃r ver off n,s= .rsl r ver off n∧HasK h r ver k∧0≤j∧j≤(n:Nat)∧av= .rsl r ver (off+j.toNat*k) (n-j.toNat)
theorem Y9s{o:Oper}{t:TypeId}{x i:Operand}{s av:AV}{k:Nat}{j:Int}{kk:IntKind}(ho:o.op= .slice t x (some i) none none)(ht:tk P t=1)(he:ez P t=some k)(hx:rdo env x=s)(hi:rdo env i= .int kk j)(hj:CutL h s k j av):HStep P o env h h av:=by
 obtain⟨r,ver,off,n,rfl,h1,h2,h3,rfl⟩:=hj;refine Yq ?_ ?_
 ·rw[ho];show gd (rdo env x)∧gd (rdo env i)∧True∧Y91 P h t (st (rdo env x)) (some (st (rdo env i))) none
  rw[hx,hi];refine⟨trivial,trivial,trivial, ?_⟩;simp only[st,Y91,he];exact⟨ht,h1,trivial,⟨h2,h3⟩⟩
 ·rw[ho];show Y8k (ez P t) (st (rdo env x)) (some (st (rdo env i))) none=_
  rw[hx,hi,he]
  rfl
theorem Y9z{o:Oper}{t kt et:TypeId}{x y:Operand}{tab:List (Int×List Int)}{n:Int}(ho:o.op= .lookup t x y false)(hx:rdo env x= .im (.mp (mapV tab)))(hy:rdo env y= .int .i64 n)(hu:P.underlying t=some (.map kt et))(hk:ik P kt=some .i64)(hz:zv P et=some (.agg #[.int .u8 0,.int .u8 0,.int .u8 0]))(ht:(tab.all fun p=>p.2.length==3)=true):
  HStep P o env h h (.agg [.int .u8 ((Y71 tab n).getD 0 0),.int .u8 ((Y71 tab n).getD 1 0),.int .u8 ((Y71 tab n).getD 2 0)]):=
 Y5d ho (by rw[hx,hy];exact Go.Abs.look3 hu hk hz ht)
theorem Y9n{o:Oper}{t e:TypeId}{x i:Operand}{cs:List AV}{k n:Nat}(j:Nat){v:AV}{kk:IntKind}(ho:o.op= .index t x i)(hx:rdo env x= .agg cs)(hi:rdo env i= .int kk (j:Nat))(he:ez P t=some k)(ha:aty P t=some e)(hn:alen P t=some n)(hl:lz P e=some none)(hj:Nat.ble (j+1) n=true)(hc:Nat.ble (j*k+1) cs.length=true)(hv:pvPart cs (j*k) (some none)=v):HStep P o env h h v:=
 Yq (by rw[ho];show gd (rdo env x)∧gd (rdo env i)∧poIndex P t (st (rdo env x)) (st (rdo env i));rw[hx,hi];refine⟨trivial,trivial, ?_⟩;simp only[st,poIndex,he,ha,hn,hl,poPart];exact⟨by omega,by have:=X9 hj;omega,by have:=X9 hc;grind⟩)
  (by rw[ho];show pvIndex P t (st (rdo env x)) (st (rdo env i))=_;rw[hx,hi];simp only[st,pvIndex,he,ha,hl,Xl];exact hv)
theorem Y9w{o:Oper}{f:FuncId}{x:Operand}{r ver off:Nat}(ho:o.op= .makeFunc (.func f) #[x] #[])(hx:rdo env x= .ref r ver off):HStep P o env h h (.fnv f [.ref r ver off]):=by
 have:=Y9u (P:=P) (o:=o) (f:=f) (xs:=[x]) (env:=env) (h:=h) ho (fun y hy=>by
  simp only[X8] at hy;subst hy;rw[hx];trivial)
 simpa [hx,st] using this
theorem HStep.callF{o:Oper}{x:Operand}{f:FuncId}{first:List AV}{ts:Array TypeId}{av:AV}(ho:o.op= .call ⟨.value x, #[],ts⟩)(hc:Y4g P f=true)(hx:rdo env x= .fnv f first)(hs:CallOK P f first h h1 av):HStep P o env h h1 av:=
 Y9l (xs:=[]) ho hc (.inr hx) (fun y hy=>by cases hy) (by simp_all)
end
theorem tv{α:Type}{a:α}:True∧True∧a=a:=⟨trivial,trivial,rfl⟩
theorem tw{α:Type}{a:α}{c:Prop}(h:c):True∧True∧a=a∧c:=⟨trivial,trivial,rfl,h⟩
theorem ax{h:Hp}{i:Nat}{k:IntKind}{n:Int}:∀q∈[(i,AV.int k n)],NC q.2∧okC h q.2:=al_ ⟨⟨⟨trivial,rfl⟩,Y2f rfl⟩,trivial⟩
theorem ay{h:Hp}{k:IntKind}{n:Int}:∀x∈[AV.int k n],oneA h x:=al_ ⟨rfl,trivial⟩
abbrev iI (n:Int):AV:=.int .i64 n
abbrev iU (n:Int):AV:=.int .u8 n
end Go.Abs
