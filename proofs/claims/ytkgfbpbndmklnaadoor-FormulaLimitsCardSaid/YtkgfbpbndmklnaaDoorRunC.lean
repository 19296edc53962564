/- Own work. -/
import Derived.Test.YtkgfbpbndmklnaaDoorRunB
set_option linter.unusedSimpArgs false
set_option linter.unusedVariables false
namespace Go.Abs
open Go.RowKit
section
variable {P : Program} {N : Nat} {env : Env} {h : Hp}
theorem CallOK.ofQ {f : FuncId} {args : List AV} {r : AV} (hq : QSpec P f args r) (ha : Abs.purL args = true) (hr : Abs.pur r = true) (h : Hp) : CallOK P f args h h r := by
 intro X w ι vs H hv
 have hBO : Own (Brw X.B h ι []) [] ι = Brw X.B h ι [] := by
  funext β
  simp [Own, Hp.at]
 have hv' : VRL w [] ι (Brw X.B h ι []) args vs := VRL.pure (fun _ _ hA => ⟨rfl, fun hb => hA hb.1⟩) args vs ha hv
 refine (hq w ι (Brw X.B h ι []) _ (H.start []) (by rw [hBO]; exact hv')).mono ?_
 rintro e w' ⟨v, r', h', ι', rfl, rfl, H', hvr⟩
 refine ⟨v, ι, rfl, H.below H'.after, Keep.below H'.after, ?_⟩
 exact VR.pure (fun β hβ hA => ⟨rfl, fun ho => hA (.inl ⟨ho, by simp⟩)⟩) _ _ hr hvr
end
section
variable {P : Program} {N : Nat} {ops : Array Oper} {env : Env} {h : Hp} {da : DA}
def Y03 (P : Program) (f : FuncId) (args : List AV) (h h' : Hp) (ch : List PanicEntry) : Prop :=
 ∀ (X : Ctx) (w : World) (ι : Nat → Bk) (vs : List Value), Hol X h ι w → VRL w h ι (Own X.B h ι) args vs →
  Calls P f vs.toArray w fun e w' => e = .panicked ch ∧ ∃ ι', Hol X h' ι' w' ∧ Keep w h ι (Own X.B h ι) w' h' ι' (Own X.B h' ι')
def HPan (P : Program) (o : Oper) (env : Env) (h h' : Hp) (ch : List PanicEntry) : Prop :=
 ∀ (X : Ctx) (a : Act) (w : World) (ι : Nat → Bk) (Q : Exit → Act → World → Prop) (next : Act → World → Prop), Hol X h ι w →
  (∀ x, x ∈ o.op.operands → VR w h ι (Own X.B h ι) (rdo env x) (a.eval x)) →
  (∀ ι' w', Hol X h' ι' w' → Keep w h ι (Own X.B h ι) w' h' ι' (Own X.B h' ι') → Q (.panic ch) a w') → o.wp P a w next Q
def OPan (P : Program) (ops : Array Oper) (o : Oper) (env : Env) (h h' : Hp) (ch : List PanicEntry) : Prop :=
 ∀ (X : Ctx) (a : Act) (w : World) (ι : Nat → Bk) (Q : Exit → Act → World → Prop) (next : Act → World → Prop), Hol X h ι w →
  (∀ s, s ∈ o.looksAt ops → VR w h ι (Own X.B h ι) (rd env s) (a.tmps.getD s undef)) →
  (∀ ι' w', Hol X h' ι' w' → Keep w h ι (Own X.B h ι) w' h' ι' (Own X.B h' ι') → Q (.panic ch) a w') →
  if Region.wanted o (yielded ops a.tmps) then o.wp P a w next Q else next (a.put o.dst undef) w
theorem OPan.yes {o : Oper} {h' : Hp} {ch : List PanicEntry} (hg : gB ops env o = some true) (hs : HPan P o env h h' ch) : OPan P ops o env h h' ch := by
 intro X a w ι Q next H hl hn
 rw [gB_sound hg hl, if_pos rfl]
 exact hs X a w ι Q next H (operand_vr H.globOK hl) hn
theorem HPan.panic {o : Oper} {x : Operand} {t : TypeId} {v : Value} (ho : o.op = .panic x) (hx : rdo env x = .im (.val (.iface t v))) : HPan P o env h h [{ v := .iface t v, recovered := false }] := by
 intro X a w ι Q next H hop hn
 have hv := hop x (by simp [ho, Op.operands])
 rw [hx, Y02] at hv
 have hr : (execOp a.eval o).run P w = .halt (.panic (.iface t v)) w := by
  simp only [execOp, ho, hv, Instr.panic, goPanic, X6]
  rfl
 simp only [Oper.wp, hr, Oper.upon]
 exact hn ι w H (Keep.refl _ _ _ _)
theorem HPan.callV {o : Oper} {x : Operand} {f : FuncId} {first : List AV} {xs : List Operand} {ts : Array TypeId} {h' : Hp} {ch : List PanicEntry} (ho : o.op = .call ⟨.value x, xs.toArray, ts⟩) (hc : Y1r P f = true)
  (hx : (rdo env x = .im (.val (.func (.func f) #[] #[])) ∧ first = []) ∨ rdo env x = .fnv f first) (hgd : ∀ y ∈ xs, gd (rdo env y)) (hs : Y03 P f (first ++ xs.map fun y => st (rdo env y)) h h' ch) : HPan P o env h h' ch := by
 intro X a w ι Q next H hop hn
 have hvx := hop x (by simp [ho, Op.operands, Call.operands])
 have hvs := args_vr xs hgd (fun y hy => hop y (by simp [ho, Op.operands, Call.operands, hy]))
 obtain ⟨l, hl, hvl⟩ : ∃ l : List Value, a.eval x = .func (.func f) l.toArray #[] ∧ VRL w h ι (Own X.B h ι) first l := by
  rcases hx with ⟨hx, rfl⟩ | hx
  ·rw [hx, Y02] at hvx
   exact ⟨[], hvx, by simp [VRL]⟩
  ·rw [hx] at hvx
   simpa only [VR] using hvx
 have hr : (execOp a.eval o).run P w = .ok (.enter f (l ++ xs.map a.eval).toArray) w := by
  simp only [execOp, ho, resolve, X6, hl]
  have hof : Deferred.ofValue (.func (.func f) l.toArray #[]) (xs.toArray.map a.eval) = Pure.pure ({ target := .fn (.func f) #[], args := l.toArray ++ xs.toArray.map a.eval } : Deferred) := rfl
  simp only [hof, Xz, Xi, invoke, Array.append_empty, callFunc_run hc]
  simp
 simp only [Oper.wp, hr, Oper.upon]
 refine (hs X w ι _ H (hvl.append hvs)).mono ?_
 rintro e w' ⟨rfl, ι', H', K'⟩
 exact hn ι' w' H' K'
abbrev CallX := FuncId → List AV → Hp → Nat → Option (List PanicEntry × Hp × Nat)
def callVX (P : Program) (cx : CallX) (h : Hp) (n : Nat) (x : AV) (args : List AV) : Option (List PanicEntry × Hp × Nat) := match x with
 | .im (.val (.func (.func f) ⟨[]⟩ ⟨[]⟩)) => bif Y1r P f then cx f args h n else none
 | .fnv f first => bif Y1r P f then cx f (first ++ args) h n else none
 | _ => none
def stepX (P : Program) (cx : CallX) (h : Hp) (n : Nat) (ops : Array Oper) (env : Env) (o : Oper) : Option (List PanicEntry × Hp × Nat) := match gB ops env o with
 | some true => (match o.op with
  | .panic x => (match rdo env x with
   | .im (.val (.iface t v)) => some ([{ v := .iface t v, recovered := false }], h, n)
   | _ => none)
  | .call ⟨.value x, ⟨xs⟩, _⟩ => bif xs.all fun y => gdb (rdo env y) then callVX P cx h n (rdo env x) (xs.map fun y => st (rdo env y)) else none
  | _ => none)
 | _ => none
def seqX (P : Program) (call : CallE) (cx : CallX) (N : Nat) (ops : Array Oper) : List Oper → Env → Hp → Nat → Option (List PanicEntry × Hp × Nat)
 | [], _, _, _ => none
 | o :: l, env, h, n => match stepL P (atG n h) ops env o with
  | some av => bif dstB N o.dst then seqX P call cx N ops l (setd env o.dst av) h n else none
  | none => match stepH P call h n ops env o with
   | some (av, h', n') => bif dstB N o.dst then seqX P call cx N ops l (setd env o.dst av) h' n' else none
   | none => stepX P cx h n ops env o
def endX : Option (Exit × Env × Hp × Nat) → Option (List PanicEntry × Hp × Nat)
 | some (.panic ch, _, h', n') => some (ch, h', n')
 | _ => none
def callX (P : Program) (Y4e : List Lv) (self : RunT) : CallX := fun f args h n => match P.funcs[f]? with
 | some fn => (match fn.body with
  | some c => bif nle args.length fn.ntmps then endX (self fn.ntmps (Y4e.getD f []) c (args0 0 args) h n) else none
  | none => none)
 | none => none
def rbPan : Option (List PanicEntry × Hp × Nat) → Option (Exit × Env × Hp × Nat)
 | some (ch, h', n') => some (.panic ch, [], h', n')
 | none => none
def runY (P : Program) (Y4e : List Lv) (orc : Orc) (self : RunT) : RunT := fun N lv c env h n => match runB P Y4e orc self N lv c env h n with
 | some r => some r
 | none => (match c with
  | .region _ ops false => rbPan (seqX P (callR P Y4e orc self) (callX P Y4e self) N ops ops.toList env h n)
  | _ => none)
def runP (P : Program) (Y4e : List Lv) (orc : Orc) : Nat → RunT
 | 0 => fun _ _ _ _ _ _ => none
 | k + 1 => runY P Y4e orc (runP P Y4e orc k)
end
end Go.Abs
