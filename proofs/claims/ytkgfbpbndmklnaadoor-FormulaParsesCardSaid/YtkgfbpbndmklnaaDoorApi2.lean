/- Own work. -/
import Derived.Test.YtkgfbpbndmklnaaDoorApi1
import Derived.Test.YtkgfbpbndmklnaaDoorChecked
import Derived.Test.YtkgfbpbndmklnaaDoorLayP
set_option linter.unusedSimpArgs false
set_option linter.unusedVariables false
namespace Go.Proofs.YtkgfbpbndmklnaaDoor
open Go.Shelf Go.Abs Go.RowKit
def decs:Nat→Nat→List Int
  |0,_=>[]
  |k+1,n=>if n<10 then[48+(n:Int)] else decs k (n/10)++[48+((n%10:Nat):Int)]
theorem decs_eq:∀(k n:Nat),n<10^k→0<k→(decs k n).map (fun x=>UInt8.ofNat x.toNat)=Lib.decDigits n
  |0,n,h,h0=>by omega
  |k+1,n,h,_=>by
    rw[Lib.decDigits,decs]
    by_cases hn:n<10
    · rw[if_pos hn,dif_pos hn];simp only[Xs,X0l];congr 2
    · rw[if_neg hn,dif_neg hn];have hk:0<k:=by
        rcases Nat.eq_zero_or_pos k with e|e
        · subst e;simp at h;omega
        · exact e
      have h1:n/10<10^k:=by rw[Nat.div_lt_iff_lt_mul (by omega)];rw[Nat.pow_succ] at h;exact h
      rw[X0c,decs_eq k (n/10) h1 hk];simp only[Xs,X0l];congr 2
theorem decs_rng:∀(k n:Nat),∀x∈decs k n,48≤x∧x≤57
  |0,n,x,hx=>by simp[decs] at hx
  |k+1,n,x,hx=>by
    rw[decs] at hx
    split at hx
    · simp at hx;omega
    · simp at hx;rcases hx with hx|hx
      · exact decs_rng k _ x hx
      · omega
theorem decs_len:∀(k n:Nat),(decs k n).length≤k
  |0,n=>by simp[decs]
  |k+1,n=>by
    rw[decs]
    split
    · simp
    · have:=decs_len k (n/10);simp;omega
theorem decs_cells(n:Nat)(h:n<100000):Lib.byteCells (Lib.decDigits n)=(decs 5 n).map fun z=>Value.int .u8 z:=by
  rw[←decs_eq 5 n (by omega) (by omega),Lib.byteCells,List.map_map];refine X09 fun x hx=> ?_;have:=decs_rng 5 n x hx;simp only[Function.comp];congr 1;have h2:(UInt8.ofNat x.toNat).toNat=x.toNat:=by rw[UInt8.toNat_ofNat'];omega
  omega
theorem Keep.after{w w2 w':World}{h h':Hp}{ι ι':Nat→Bk}{A A':Nat→Prop}(hb:Below w.heap.size w w2)(K:Keep w2 h ι A w' h' ι' A'):Keep w h ι A w' h' ι' A':=
  ⟨fun β hβ hA=>by
    have⟨k1,k2⟩:=K.blk β (X0o hβ hb.size) hA;exact⟨k1.trans (hb.block β hβ),k2⟩,K.hp⟩
theorem RStep.appendInt{env:Env}{h:Hp}{o:Oper}{s x y:Operand}{ts:Array TypeId}{l:List Int}{n:Int}(ho:o.op= .call ⟨.value (.func 44),[s,x,y].toArray,ts⟩)
    {r ver:Nat} (hs:rdo env s= .rsl r ver 0 l.length) (hrt:h.at r=some (rtA ver 5 1 (eI .u8) l)) (hx:rdo env x= .int .i64 n) (hy:rdo env y= .int .i64 10) (h0:0≤n∧n≤99999) (hsz:room 1 (l.length+5)):
    RStep Tryd.prog o env h r (rtA (ver+1) 5 1 (eI .u8) (l++decs 5 n.toNat)) (.rsl r (ver+1) 0 (l++decs 5 n.toNat).length):=by
  intro X a w ι Q next H hop hn;have vs:=hop s (by simp[ho,Op.operands,Call.operands]);have vx:=hop x (by simp[ho,Op.operands,Call.operands]);have vy:=hop y (by simp[ho,Op.operands,Call.operands]);rw[hs] at vs;rw[hx,Y2r] at vx;rw[hy,Y2r] at vy;refine wp_call ho (by kernel_rfl) ?_;obtain⟨k,rfl⟩:∃k:Nat,n=k:=⟨n.toNat,by omega⟩;simp only[Xs,X0l,vx,vy,X02] at hn⊢;have⟨e,fr,hb⟩:=H.globOK.block (g:=0) (l:=Lib.pow10Tab.map fun z=>Value.int .u64 z) (by kernel_rfl);have hl5:=decs_len 5 k;refine(AI Tryd.lays176 k (by omega) (a.eval s) w (Post:=fun v w'=>next (a.put o.dst v) w') ?_ (by
    unfold Lib.TabIs World.var?;rw[show Tryd.prog.globalNamed _=some 0 from by kernel_rfl];simp only[X2,hb])).mono fun e w' h=>h
  rw[decs_cells k (by omega)];intro o2 s2 x2 u2 a2 W Q2 next2 ho2 hu2 hs2 hbw hl hf hnx;have key:∀b' w' v,Hol X ((r,rtA (ver+1) 5 1 (eI .u8) (l++decs 5 k))::h) (upd ι r b') w'→Keep W h ι (Own X.B h ι) w' ((r,rtA (ver+1) 5 1 (eI .u8) (l++decs 5 k))::h) (upd ι r b') (Own X.B ((r,rtA (ver+1) 5 1 (eI .u8) (l++decs 5 k))::h) (upd ι r b'))→
      VR w' ((r,rtA (ver+1) 5 1 (eI .u8) (l++decs 5 k))::h) (upd ι r b') (Own X.B ((r,rtA (ver+1) 5 1 (eI .u8) (l++decs 5 k))::h) (upd ι r b')) (.rsl r (ver+1) 0 (l++decs 5 k).length) v→next2 (a2.put o2.dst v) w':=
    fun b' w' v H' K' V'=>hnx v w' (hn b' w' v H' (Keep.after hbw K') V')
  have hcs:(rtA ver 5 1 (eI .u8) l).cs.take (l.length*1)++((decs 5 k).flatMap (eI .u8)).map .im=(rtA (ver+1) 5 1 (eI .u8) (l++decs 5 k)).cs:=by
    rw[put_app (eI .u8) 1 _ (fun _=>rfl),take_all_len]
  have hvl:((decs 5 k).flatMap (eI .u8)).map AV.im=((decs 5 k).map fun z=>Value.int .u8 z).map fun v=>.im (.val v):=by
    generalize decs 5 k=l
    induction l with
    |nil=>rfl
    |cons a l ih=>rw[Xv,X0c,ih];rfl
  have hm:((decs 5 k).map fun z=>Value.int .u8 z).length=(decs 5 k).length:=Xr _;rw[hm] at hl hf;rw[X4] at key;refine append_core (h:=h) (ι:=ι) (X:=X) (k:=1) (bytes:=1) (z:=[.int .u8 0]) (rt:=rtA ver 5 1 (eI .u8) l) (news:=((decs 5 k).flatMap (eI .u8)).map .im) (n:=l.length) (m:=(decs 5 k).length) (l:=(decs 5 k).map fun z=>Value.int .u8 z) ho2 (⟨by kernel_rfl,by kernel_rfl,by kernel_rfl,rfl,rfl,by decide⟩:Elem Tryd.prog 24 5 1 1 [.int .u8 0]) hrt rfl rfl rfl rfl (by simp only[Xr];rw[Y18 (eI .u8) 1 (fun _=>rfl)];exact Xf _) (by unfold room at hsz;omega) (by unfold room at hsz;omega) hu2 (H.below hbw) (hs2▸VR.keep (Keep.below hbw) _ _ vs) hl (by rw[hvl];exact VRL.vals _) (fun u hu=>by obtain⟨z,_,rfl⟩:=X06.1 hu;rfl) (by simp) hf ?_;rw[hcs];exact key
end Go.Proofs.YtkgfbpbndmklnaaDoor
