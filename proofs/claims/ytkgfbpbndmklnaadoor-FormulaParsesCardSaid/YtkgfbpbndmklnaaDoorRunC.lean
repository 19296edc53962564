/- Own work. -/
import Derived.Test.YtkgfbpbndmklnaaDoorRunB
set_option linter.unusedSimpArgs false
set_option linter.unusedVariables false
namespace Go.Abs
open Go.RowKit
section
variable {P:Program} {N:Nat} {env:Env} {h:Hp}
theorem CallOK.ofQ{f:FuncId}{args:List AV}{r:AV}(hq:QSpec P f args r)(ha:Abs.purL args=true)(hr:Abs.pur r=true)(h:Hp):CallOK P f args h h r:=by
 intro X w ι vs H hv;have hBO:Own (Brw X.B h ι []) [] ι=Brw X.B h ι []:=by
  funext β;simp[Own,Hp.at]
 have hv':VRL w [] ι (Brw X.B h ι []) args vs:=VRL.pure (fun _ _ hA=>⟨rfl,fun hb=>hA hb.1⟩) args vs ha hv;refine(hq w ι (Brw X.B h ι []) _ (H.start []) (by rw[hBO];exact hv')).mono ?_;rintro e w' ⟨v,r',h',ι',rfl,rfl,H',hvr⟩;refine⟨v,ι,rfl,H.below H'.after,Keep.below H'.after, ?_⟩;exact VR.pure (fun β hβ hA=>⟨rfl,fun ho=>hA (.inl ⟨ho,by simp⟩)⟩) _ _ hr hvr
end
section
variable {P:Program} {N:Nat} {ops:Array Oper} {env:Env} {h:Hp} {da:DA}
def Y0b (P:Program) (f:FuncId) (args:List AV) (h h':Hp) (ch:List PanicEntry):Prop:=
 ∀(X:Ctx) (w:World) (ι:Nat→Bk) (vs:List Value),Hol X h ι w→VRL w h ι (Own X.B h ι) args vs→
  Calls P f vs.toArray w fun e w'=>e= .panicked ch∧∃ι',Hol X h' ι' w'∧Keep w h ι (Own X.B h ι) w' h' ι' (Own X.B h' ι')
def HPan (P:Program) (o:Oper) (env:Env) (h h':Hp) (ch:List PanicEntry):Prop:=
 ∀(X:Ctx) (a:Act) (w:World) (ι:Nat→Bk) (Q:Exit→Act→World→Prop) (next:Act→World→Prop),Hol X h ι w→
  (∀x,x∈o.op.operands→VR w h ι (Own X.B h ι) (rdo env x) (a.eval x))→
  (∀ι' w',Hol X h' ι' w'→Keep w h ι (Own X.B h ι) w' h' ι' (Own X.B h' ι')→Q (.panic ch) a w')→o.wp P a w next Q
def OPan (P:Program) (ops:Array Oper) (o:Oper) (env:Env) (h h':Hp) (ch:List PanicEntry):Prop:=
 ∀(X:Ctx) (a:Act) (w:World) (ι:Nat→Bk) (Q:Exit→Act→World→Prop) (next:Act→World→Prop),Hol X h ι w→
  (∀s,s∈o.looksAt ops→VR w h ι (Own X.B h ι) (rd env s) (a.tmps.getD s undef))→
  (∀ι' w',Hol X h' ι' w'→Keep w h ι (Own X.B h ι) w' h' ι' (Own X.B h' ι')→Q (.panic ch) a w')→
  if Region.wanted o (yielded ops a.tmps) then o.wp P a w next Q else next (a.put o.dst undef) w
theorem OPan.yes{o:Oper}{h':Hp}{ch:List PanicEntry}(hg:gB ops env o=some true)(hs:HPan P o env h h' ch):OPan P ops o env h h' ch:=by
 intro X a w ι Q next H hl hn;rw[gB_sound hg hl,if_pos rfl];exact hs X a w ι Q next H (operand_vr H.globOK hl) hn
theorem HPan.panic{o:Oper}{x:Operand}{t:TypeId}{v:Value}(ho:o.op= .panic x)(hx:rdo env x= .im (.val (.iface t v))):HPan P o env h h [{v:=.iface t v,recovered:=false}]:=by
 intro X a w ι Q next H hop hn;have hv:=hop x (by simp[ho,Op.operands]);rw[hx,Y0a] at hv;have hr:(execOp a.eval o).run P w= .halt (.panic (.iface t v)) w:=by
  simp only[execOp,ho,hv,Instr.panic,goPanic,Xb]
  rfl
 simp only[Oper.wp,hr,Oper.upon];exact hn ι w H (Keep.refl _ _ _ _)
theorem HPan.callV{o:Oper}{x:Operand}{f:FuncId}{first:List AV}{xs:List Operand}{ts:Array TypeId}{h':Hp}{ch:List PanicEntry}(ho:o.op= .call ⟨.value x,xs.toArray,ts⟩)(hc:Y2b P f=true)
  (hx:(rdo env x= .im (.val (.func (.func f) #[] #[]))∧first=[])∨rdo env x= .fnv f first) (hgd:∀y∈xs,gd (rdo env y)) (hs:Y0b P f (first++xs.map fun y=>st (rdo env y)) h h' ch):HPan P o env h h' ch:=by
 intro X a w ι Q next H hop hn;have hvx:=hop x (by simp[ho,Op.operands,Call.operands]);have hvs:=args_vr xs hgd (fun y hy=>hop y (by simp[ho,Op.operands,Call.operands,hy]));have⟨l,hl,hvl⟩:∃l:List Value,a.eval x= .func (.func f) l.toArray #[]∧VRL w h ι (Own X.B h ι) first l:=by
  rcases hx with⟨hx,rfl⟩|hx
  ·rw[hx,Y0a] at hvx;exact⟨[],hvx,by simp[VRL]⟩
  ·rw[hx] at hvx;simpa only[VR] using hvx
 have hr:(execOp a.eval o).run P w= .ok (.enter f (l++xs.map a.eval).toArray) w:=by
  simp only[execOp,ho,resolve,Xb,hl];have hof:Deferred.ofValue (.func (.func f) l.toArray #[]) (xs.toArray.map a.eval)=Pure.pure ({target:=.fn (.func f) #[],args:=l.toArray++xs.toArray.map a.eval}:Deferred):=rfl;simp only[hof,X05,Xl,invoke,Array.append_empty,callFunc_run hc];simp
 simp only[Oper.wp,hr,Oper.upon];refine(hs X w ι _ H (hvl.append hvs)).mono ?_;rintro e w' ⟨rfl,ι',H',K'⟩;exact hn ι' w' H' K'
end
end Go.Abs
