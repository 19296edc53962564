/- Own work. -/
import Derived.Shelf.Strconv.AppendIntPublic10
import Derived.Lib.AppendIntMem
import Derived.Test.YtkgfbpbndmklnaaDoorGen34
set_option linter.unusedSimpArgs false
set_option linter.unusedVariables false
namespace Go.Proofs
section
open Go.Shelf Go.RowKit Go.Sort Go.Lib Go.Abs
abbrev p10Nm : String := String.ofList ([105, 110, 116, 101, 114, 110, 97, 108, 47, 115, 116, 114, 99, 111, 110, 118, 46, 117, 105, 110, 116, 54, 52, 112, 111, 119, 49, 48].map Char.ofNat)
variable {P:Program} {ρ:Ren}
def AppS (P:Program) (t:TypeId) (sv:Value) (w:World) (cs:List Value) (Post:Value→World→Prop):Prop:=
  ∀(o:Oper) (s x:Operand) (u:TypeId) (a:Act) (W:World) (Q:Exit→Act→World→Prop) (next:Act→World→Prop),
    o.op= .call ⟨.builtin .append, #[s,x], #[t,u]⟩→((∃e',P.underlying u=some (.slice e'))∨P.underlying u=some .string)→a.eval s=sv→Below w.heap.size w W→
    (∀w',(Builtin.lenOf (a.eval x)).run P w'= .ok cs.length w')→(∀w':World,w'.heap=W.heap→(Builtin.firstCells 1 cs.length (a.eval x)).run P w'= .ok cs.toArray w')→
    (∀v w',Post v w'→next (a.put o.dst v) w')→o.wp P a W next Q
theorem AppS.list{t:TypeId}{sv:Value}{w:World}{cs:List Value}{Post:Value→World→Prop}(hA:AppS P t sv w cs Post)
    {ops:Array Oper} {rest:List Oper} {o:Oper} {a:Act} {Q:Exit→Act→World→Prop} {W:World} (hgd:o.guard=none) (s x:Operand) (u:TypeId)
    (ho:o.op= .call {callee:=.builtin .append,args:= #[s,x],argTypes:= #[t,u]}) (hu:(∃e',P.underlying u=some (.slice e'))∨P.underlying u=some .string) (hs:a.eval s=sv) (hb:Below w.heap.size w W)
    (hl:∀w',(Builtin.lenOf (a.eval x)).run P w'= .ok cs.length w') (hf:∀w':World,w'.heap=W.heap→(Builtin.firstCells 1 cs.length (a.eval x)).run P w'= .ok cs.toArray w')
    (h:∀v' w',Post v' w'→wpList P ops Q rest (a.put o.dst v') w'):wpList P ops Q (o::rest) a W:=
  wpList_plain hgd fun _ hK=>hA o s x u a W Q _ ho hu hs hb hl hf fun v w' hp=>hK _ _ (h v w' hp)
theorem lenOf_str(b:ByteArray)(w':World):(Builtin.lenOf (.string b)).run P w'= .ok b.size w':=by simp[Builtin.lenOf]
theorem first_str(b:ByteArray)(w':World):(Builtin.firstCells 1 b.size (.string b)).run P w'= .ok (strCells b).toArray w':=by
  have hx:(b.extract 0 b.size).data=b.data:=by simp
  simp only[Builtin.firstCells,hx,Xz];congr 1;apply Array.ext';simp[strCells]
set_option maxHeartbeats 6400000 in
set_option maxRecDepth 100000 in
theorem AU_small(L:LaysM.n288 P ρ)(u:Nat)(hu:u<100)(sv:Value)(w:World){Post:Value→World→Prop}(hA:AppS P (ρ.t 37) sv w (Lib.byteCells (Lib.decDigits u)) Post):
    Calls P (ρ.f 288) #[sv,.int .u64 u,.int .i64 10] w fun e w'=>∃v',e= .returned v'∧Post v' w':=by
  have mixed:=L.mixed;have t5:=L.t5;have a5:=L.a5;have z5:=L.z5;have v5:=L.v5
  have t37:=L.t37;have u37:=run_underlying L.t37;have a37:=L.a37;have z37:=L.z37;have v37:=L.v37
  have t53:=L.t53;have a53:=L.a53;have z53:=L.z53;have v53:=L.v53
  have t3:=L.t3;have a3:=L.a3;have z3:=L.z3;have v3:=L.v3
  have t4:=L.t4;have a4:=L.a4;have z4:=L.z4;have v4:=L.v4
  have t9:=L.t9;have a9:=L.a9;have z9:=L.z9;have v9:=L.v9
  have t171:=L.t171;have a171:=L.a171;have z171:=L.z171;have v171:=L.v171
  have t0:=L.t0;have a0:=L.a0;have z0:=L.z0;have v0:=L.v0
  have t173:=L.t173;have a173:=L.a173;have z173:=L.z173;have v173:=L.v173
  have e283:∀args w,(callFunc (ρ.f 283) args).run P w= .ok (.enter (ρ.f 283) args) w:=enters_of L.f283 (by kernel_rfl) rfl;have hsz:(⟨(Lib.decDigits u).toArray⟩:ByteArray).size=(Lib.byteCells (Lib.decDigits u)).length:=by simp[ByteArray.size,Lib.byteCells]
  have hcl:strCells (⟨(Lib.decDigits u).toArray⟩:ByteArray)=Lib.byteCells (Lib.decDigits u):=by simp[strCells,Lib.byteCells]
  go_enter L.f288,Body.n288_ntmps ρ
  go_wp2_with (first
    |(go_at_fn (ρ.f 283);refine(Any.internal_strconv_small {L with} u hu _).mono ?_;rintro e w' ⟨rfl,rfl⟩)
    |(at_builtin;refine hA.list rfl _ _ (ρ.t 9) rfl (.inr L.t9) rfl (Below.refl _ _) (fun w'=>by rw[←hsz];exact lenOf_str _ w') (fun w' _=>by rw[←hsz, ←hcl];exact first_str _ w') ?_))
  intro v' w1 hp
  go_wp2
  go_ret
  exact⟨v',rfl,hp⟩
set_option maxHeartbeats 12800000 in
set_option maxRecDepth 100000 in
theorem AU_big(L:LaysM.n288 P ρ)(u:Nat)(hu:100≤u)(hu64:u<18446744073709551616)(sv:Value)(w:World){Post:Value→World→Prop}(hA:AppS P (ρ.t 37) sv w (Lib.byteCells (Lib.decDigits u)) Post)
    (htab:Lib.TabIs P w p10Nm .u64 Lib.pow10Tab):
    Calls P (ρ.f 288) #[sv,.int .u64 u,.int .i64 10] w fun e w'=>∃v',e= .returned v'∧Post v' w':=by
  have mixed:=L.mixed;have t5:=L.t5;have a5:=L.a5;have z5:=L.z5;have v5:=L.v5
  have t37:=L.t37;have u37:=run_underlying L.t37;have a37:=L.a37;have z37:=L.z37;have v37:=L.v37
  have t53:=L.t53;have a53:=L.a53;have z53:=L.z53;have v53:=L.v53
  have t3:=L.t3;have a3:=L.a3;have z3:=L.z3;have v3:=L.v3
  have t4:=L.t4;have a4:=L.a4;have z4:=L.z4;have v4:=L.v4
  have t9:=L.t9;have a9:=L.a9;have z9:=L.z9;have v9:=L.v9
  have t171:=L.t171;have a171:=L.a171;have z171:=L.z171;have v171:=L.v171
  have t0:=L.t0;have a0:=L.a0;have z0:=L.z0;have v0:=L.v0
  have t173:=L.t173;have a173:=L.a173;have z173:=L.z173;have v173:=L.v173
  have e284:∀args w,(callFunc (ρ.f 284) args).run P w= .ok (.enter (ρ.f 284) args) w:=enters_of L.f284 (by kernel_rfl) rfl;have e285:∀args w,(callFunc (ρ.f 285) args).run P w= .ok (.enter (ρ.f 285) args) w:=enters_of L.f285 (by kernel_rfl) rfl;have hu1:1≤u:=by omega
  have hnd20:Lib.nDigits u≤20:=by have:=Lib.numDigits_eq u hu1 hu64;split at this<;>omega
  have hal:P.arrayLen (ρ.t 171)=24:=by simp[Program.arrayLen,L.t171]
  have hsl:∀W,(Instr.sliceAt (ρ.t 171) (.pointer (some ⟨w.heap.size,0,none⟩)) none (some (.int .i64 (Lib.nDigits u:Int))) none).run P W= .ok (.slice (some ⟨w.heap.size,0,none⟩) (Lib.nDigits u) 24) W:=fun W=>by
    rw[run_sliceAt_array_h W (ρ.t 171) ⟨w.heap.size,0,none⟩ (by simp[Program.arrayLen,Program.elem,L.t171]) .i64 (Lib.nDigits u:Int) (by omega) (by rw[hal];omega)]
    go_simp
  have hH0:=Lib.holds_zero0 w (ρ.t 171) (Lib.nDigits u) (by omega);have hfmt:=Any.internal_strconv_formatBase10 {L with} w.heap.size 0 24 u (Array.replicate (Lib.nDigits u) 0) (w.alloc (.cells Lib.zeros24 (ρ.t 171))) hH0 (by rw[Array.size_replicate];exact Lib.lt_pow_nDigits u) hu64 (by rw[Array.size_replicate];omega);rw[Array.size_replicate] at hfmt;have HH0:=Lib.hid hH0;have iu:(100:Int)≤(u:Int):=by omega
  clear hH0 hal
  go_enter L.f288,Body.n288_ntmps ρ
  go_wp2_with (first
    |(go_at_fn (ρ.f 284);refine(Any.internal_strconv_numDigits {L with} u hu1 hu64 _ (Lib.tabIs_alloc htab _)).mono ?_;rintro e w' ⟨rfl,rfl⟩))
  go_at_fn (ρ.f 285)
  refine hfmt.mono ?_;rintro e w' ⟨rfl,k,v',dk,rfl,hF⟩;have hcells:∀j u',(Lib.byteCells (Lib.decDigits u))[j]? =some u'→((putRow (fun(b:UInt8)=>Value.int .u8 (b.toNat:Int)) (w.alloc (.cells Lib.zeros24 (ρ.t 171))) w.heap.size 0 dk).drewN k).cell? ((⟨w.heap.size,0,none⟩:Addr).add j)=some u':=by
    intro j u' hj;have hjl:j<(Lib.decDigits u).length:=by
      have h5:=(Xh.1 hj).1;rwa[Lib.byteCells_length] at h5
    have e5:(Lib.byteCells (Lib.decDigits u))[j]? =some (Value.int .u8 ((Lib.decDigits u)[j].toNat:Int)):=by simp[Lib.byteCells,hjl]
    rw[e5] at hj;cases hj;rw[Lib.row_is_numeral hF j hjl,Lib.add_plain,World.cell?_drewN];exact cell?_putRow (fun(b:UInt8)=>Value.int .u8 (b.toNat:Int)) _ w.heap.size 0 _ dk HH0.out (by rw[hF.size,Array.size_replicate]) j (by rw[hF.size];rw[Lib.decDigits_length] at hjl;exact hjl)
  obtain⟨os,eo⟩:=Lib.fin_at w (.cells Lib.zeros24 (ρ.t 171)) dk k 0;have hb2:Below w.heap.size w ((putRow (fun(b:UInt8)=>Value.int .u8 (b.toNat:Int)) (w.alloc (.cells Lib.zeros24 (ρ.t 171))) w.heap.size 0 dk).drewN k):=by rw[eo];exact Lib.below_grow w.heap.size w (Xk _) k os
  generalize (putRow (fun(b:UInt8)=>Value.int .u8 (b.toNat:Int)) (w.alloc (.cells Lib.zeros24 (ρ.t 171))) w.heap.size 0 dk).drewN k=W2 at hcells hb2⊢;clear eo HH0 hfmt;have hbl:(Lib.byteCells (Lib.decDigits u)).length=Lib.nDigits u:=by rw[Lib.byteCells_length,Lib.decDigits_length]
  go_wp2_with (at_builtin;refine hA.list rfl _ _ (ρ.t 37) rfl (.inl ⟨_,L.t37⟩) rfl hb2 (fun w'=>by rw[hbl];simp[Builtin.lenOf,Act.eval]) (fun w' hw'=>by rw[hbl];exact run_firstCells_some w' 1 (Lib.nDigits u) ⟨w.heap.size,0,none⟩ (Lib.nDigits u) 24 (Lib.byteCells (Lib.decDigits u)) (by rw[hbl];omega) (fun j v hv=>by rw[Go.Abs.cell?_heap hw'];exact hcells j v hv)) ?_)
  intro v2 w3 hp
  go_wp2
  go_ret
  exact⟨v2,rfl,hp⟩
theorem AU(L:LaysM.n288 P ρ)(u:Nat)(hu64:u<18446744073709551616)(sv:Value)(w:World){Post:Value→World→Prop}(hA:AppS P (ρ.t 37) sv w (Lib.byteCells (Lib.decDigits u)) Post)
    (htab:Lib.TabIs P w p10Nm .u64 Lib.pow10Tab):
    Calls P (ρ.f 288) #[sv,.int .u64 u,.int .i64 10] w fun e w'=>∃v',e= .returned v'∧Post v' w':=by
  by_cases h:u<100
  · exact AU_small L u h sv w hA
  · exact AU_big L u (by omega) hu64 sv w hA htab
set_option maxHeartbeats 6400000 in
set_option maxRecDepth 100000 in
theorem AI_in(L:LaysM.n249 P ρ)(u:Nat)(hu:u<9223372036854775808)(sv:Value)(w:World){Post:Value→World→Prop}(hA:AppS P (ρ.t 37) sv w (Lib.byteCells (Lib.decDigits u)) Post)
    (htab:Lib.TabIs P w p10Nm .u64 Lib.pow10Tab):
    Calls P (ρ.f 249) #[sv,.int .i64 u,.int .i64 10] w fun e w'=>∃v',e= .returned v'∧Post v' w':=by
  have mixed:=L.mixed;have t5:=L.t5;have a5:=L.a5;have z5:=L.z5;have v5:=L.v5
  have t37:=L.t37;have u37:=run_underlying L.t37;have a37:=L.a37;have z37:=L.z37;have v37:=L.v37
  have t2:=L.t2;have a2:=L.a2;have z2:=L.z2;have v2:=L.v2
  have t3:=L.t3;have a3:=L.a3;have z3:=L.z3;have v3:=L.v3
  have t53:=L.t53;have a53:=L.a53;have z53:=L.z53;have v53:=L.v53
  have t4:=L.t4;have a4:=L.a4;have z4:=L.z4;have v4:=L.v4
  have e288:∀args w,(callFunc (ρ.f 288) args).run P w= .ok (.enter (ρ.f 288) args) w:=enters_of L.f288 (by kernel_rfl) rfl;have h0:(-9223372036854775808:Int)≤u:=by omega
  have h1:(u:Int)≤9223372036854775807:=by omega
  have hneg:¬(u:Int)<0:=by omega
  have hu64:u<18446744073709551616:=by omega
  go_enter L.f249,Body.n249_ntmps ρ
  go_wp2_with (go_at_fn (ρ.f 288);refine(AU {L with} u hu64 sv w hA htab).mono ?_;rintro e w2 ⟨v2,rfl,hp⟩)
  go_wp2
  first|go_ret|go_ret2
  exact⟨v2,rfl,hp⟩
set_option maxRecDepth 100000 in
theorem AI(L:LaysM.n176 P ρ)(u:Nat)(hu:u<9223372036854775808)(sv:Value)(w:World){Post:Value→World→Prop}(hA:AppS P (ρ.t 37) sv w (Lib.byteCells (Lib.decDigits u)) Post)
    (htab:Lib.TabIs P w p10Nm .u64 Lib.pow10Tab):
    Calls P (ρ.f 176) #[sv,.int .i64 u,.int .i64 10] w fun e w'=>∃v',e= .returned v'∧Post v' w':=by
  have mixed:=L.mixed;have t5:=L.t5;have a5:=L.a5;have z5:=L.z5;have v5:=L.v5
  have t37:=L.t37;have u37:=run_underlying L.t37;have a37:=L.a37;have z37:=L.z37;have v37:=L.v37
  have t2:=L.t2;have a2:=L.a2;have z2:=L.z2;have v2:=L.v2
  have t3:=L.t3;have a3:=L.a3;have z3:=L.z3;have v3:=L.v3
  have e249:∀args w,(callFunc (ρ.f 249) args).run P w= .ok (.enter (ρ.f 249) args) w:=enters_of L.f249 (by kernel_rfl) rfl
  go_enter L.f176,Body.n176_ntmps ρ
  go_wp2_with (go_at_fn (ρ.f 249);refine(AI_in {L with} u hu sv w hA htab).mono ?_;rintro e w2 ⟨v2,rfl,hp⟩)
  go_wp2
  go_ret
  exact⟨v2,rfl,hp⟩
end
end Go.Proofs
