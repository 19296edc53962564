/- Own work. -/
import Derived.Test.YtioockkejhpleaaDoorRun2
set_option linter.unusedSimpArgs false
set_option linter.unusedVariables false
namespace Go.Abs
open Go.RowKit
section
variable {P : Program} {N : Nat} {ops : Array Oper} {env : Env} {h : Hp}
def undA : AV := .im (.val undef)
def gB (ops : Array Oper) (env : Env) (o : Oper) : Option Bool := match o.guard with
 | none => some true
 | some (j, b) => match (ops[j]?).bind (·.dst) with
  | some t => match rdq env t with
   | .im (.val (.bool g)) => some (g == b)
   | .im (.val (.tuple ⟨[]⟩)) => some false
   | _ => none
  | none => none
theorem gB_sound {w : World} {ι : Nat → Bk} {A : Nat → Prop} {a : Act} {o : Oper} {g : Bool} (hg : gB ops env o = some g) (hs : ∀ s, s ∈ o.looksAt ops → VR w h ι A (rd env s) (a.tmps.getD s undef)) :
  Region.wanted o (yielded ops a.tmps) = g := by
 unfold gB at hg
 split at hg
 ·rename_i h0
  simp only [X1] at hg
  subst hg
  simp [Region.wanted, h0]
 ·rename_i j b h0
  split at hg
  ·rename_i t ht
   have hv := hs t (looks_guard h0 ht)
   have hy := yielded_iff (ops := ops) (tmps := a.tmps) (b := b) ht
   simp only [Region.wanted, h0]
   rw [rdq_eq] at hg
   split at hg
   ·rename_i g' hr
    simp only [X1] at hg
    subst hg
    rw [hr, Y5h] at hv
    rw [hv] at hy
    by_cases e : g' = b
    ·subst e; rw [hy.2 rfl]; simp
    ·have : yielded ops a.tmps j ≠ some b := fun e2 => by have := hy.1 e2; simp at this; exact e this
     rw [show (g' == b) = false by simpa using e]
     simpa using this
   ·rename_i hr
    simp only [X1] at hg
    subst hg
    rw [hr, Y0c] at hv
    rw [hv] at hy
    have : yielded ops a.tmps j ≠ some b := fun e2 => by have := hy.1 e2; cases this
    simpa using this
   ·cases hg
  ·cases hg
def OStep (P : Program) (ops : Array Oper) (o : Oper) (env : Env) (h h' : Hp) (av : AV) : Prop :=
 ∀ (X : Ctx) (a : Act) (w : World) (ι : Nat → Bk) (Q : Exit → Act → World → Prop) (next : Act → World → Prop), Hol X h ι w →
  (∀ s, s ∈ o.looksAt ops → VR w h ι (Own X.B h ι) (rd env s) (a.tmps.getD s undef)) →
  (∀ ι' w' v, Hol X h' ι' w' → Keep w h ι (Own X.B h ι) w' h' ι' (Own X.B h' ι') → VR w' h' ι' (Own X.B h' ι') av v → next (a.put o.dst v) w') →
  if Region.wanted o (yielded ops a.tmps) then o.wp P a w next Q else next (a.put o.dst undef) w
theorem OStep.yes {o : Oper} {h' : Hp} {av : AV} (hg : gB ops env o = some true) (hs : HStep P o env h h' av) : OStep P ops o env h h' av := by
 intro X a w ι Q next H hl hn
 rw [gB_sound hg hl, if_pos rfl]
 exact hs X a w ι Q next H (operand_vr H.globOK hl) hn
theorem OStep.no {o : Oper} (hg : gB ops env o = some false) : OStep P ops o env h h undA := by
 intro X a w ι Q next H hl hn
 rw [gB_sound hg hl, if_neg (by simp)]
 exact hn ι w undef H (Keep.refl _ _ _ _) (by simp [undA, VR, VRI])
def CallOK (P : Program) (f : FuncId) (args : List AV) (h h' : Hp) (av : AV) : Prop :=
 ∀ (X : Ctx) (w : World) (ι : Nat → Bk) (vs : List Value), Hol X h ι w → VRL w h ι (Own X.B h ι) args vs →
  Calls P f vs.toArray w fun e w' => ∃ v ι', e = .returned v ∧ Hol X h' ι' w' ∧ Keep w h ι (Own X.B h ι) w' h' ι' (Own X.B h' ι') ∧ VR w' h' ι' (Own X.B h' ι') av v
theorem HStep.callV {o : Oper} {x : Operand} {f : FuncId} {first : List AV} {xs : List Operand} {ts : Array TypeId} {h' : Hp} {av : AV} (ho : o.op = .call ⟨.value x, xs.toArray, ts⟩) (hc : Y32 P f = true)
  (hx : (rdo env x = .im (.val (.func (.func f) #[] #[])) ∧ first = []) ∨ rdo env x = .fnv f first) (hgd : ∀ y ∈ xs, gd (rdo env y)) (hs : CallOK P f (first ++ xs.map fun y => st (rdo env y)) h h' av) : HStep P o env h h' av := by
 intro X a w ι Q next H hop hn
 have hvx := hop x (by simp [ho, Op.operands, Call.operands])
 have hvs := args_vr xs hgd (fun y hy => hop y (by simp [ho, Op.operands, Call.operands, hy]))
 obtain ⟨l, hl, hvl⟩ : ∃ l : List Value, a.eval x = .func (.func f) l.toArray #[] ∧ VRL w h ι (Own X.B h ι) first l := by
  rcases hx with ⟨hx, rfl⟩ | hx
  ·rw [hx, Y0c] at hvx
   exact ⟨[], hvx, by simp [VRL]⟩
  ·rw [hx] at hvx
   simpa only [VR] using hvx
 have hr : (execOp a.eval o).run P w = .ok (.enter f (l ++ xs.map a.eval).toArray) w := by
  simp only [execOp, ho, resolve, X9, hl]
  have hof : Deferred.ofValue (.func (.func f) l.toArray #[]) (xs.toArray.map a.eval) = Pure.pure ({ target := .fn (.func f) #[], args := l.toArray ++ xs.toArray.map a.eval } : Deferred) := rfl
  simp only [hof, Xz, Xn, invoke, Array.append_empty, callFunc_run hc]
  simp
 simp only [Oper.wp, hr, Oper.upon]
 refine (hs X w ι _ H (hvl.append hvs)).mono ?_
 rintro e w' ⟨v, ι', rfl, H', K', hv⟩
 exact hn ι' w' v H' K' hv
abbrev CallE := FuncId → List AV → Hp → Nat → Option (AV × Hp × Nat)
def CallsOK (P : Program) (call : CallE) : Prop := ∀ f args h n av h' n', call f args h n = some (av, h', n') → CallOK P f args (cutH n h) (cutH n' h') av
def callV (P : Program) (call : CallE) (h : Hp) (n : Nat) (x : AV) (args : List AV) : Option (AV × Hp × Nat) := match x with
 | .im (.val (.func (.func f) ⟨[]⟩ ⟨[]⟩)) => bif Y32 P f then call f args h n else none
 | .fnv f first => bif Y32 P f then call f (first ++ args) h n else none
 | _ => none
def callC (P : Program) (call : CallE) (h : Hp) (n : Nat) (ρ : Operand → AV) : Call → Option (AV × Hp × Nat)
 | ⟨.value x, ⟨xs⟩, _⟩ => bif xs.all fun y => gdb (ρ y) then callV P call h n (ρ x) (xs.map fun y => st (ρ y)) else none
 | _ => none
def callE (P : Program) (call : CallE) (h : Hp) (n : Nat) (ρ : Operand → AV) : Op → Option (AV × Hp × Nat)
 | .call c => callC P call h n ρ c
 | _ => none
theorem callE_sound {call : CallE} (hcall : CallsOK P call) {o : Oper} {n n' : Nat} {av : AV} {h' : Hp}
  (hc : callE P call h n (rdo env) o.op = some (av, h', n')) : HStep P o env (cutH n h) (cutH n' h') av := by
 unfold callE at hc
 split at hc
 ·rename_i c ho
  unfold callC at hc
  split at hc
  ·rename_i x xs ts
   obtain ⟨hg, hc⟩ := Y3f hc
   have hgd : ∀ y ∈ xs, gd (rdo env y) := fun y hy => Y0g (Xe.1 hg y hy)
   unfold callV at hc
   split at hc
   ·rename_i f hx
    obtain ⟨hca, hc⟩ := Y3f hc
    exact HStep.callV (first := []) ho hca (.inl ⟨hx, rfl⟩) hgd (by rw [X02]; exact hcall _ _ _ _ _ _ _ hc)
   ·rename_i f first hx
    obtain ⟨hca, hc⟩ := Y3f hc
    exact HStep.callV ho hca (.inr hx) hgd (hcall _ _ _ _ _ _ _ hc)
   ·cases hc
  ·cases hc
 ·cases hc
/- What lite and heavy leave out: capacities and parts of nil slices; room that append makes. -/
def lite2 (P : Program) (ρ : Operand → AV) (op : Op) : Option AV := match op with
 | .slice t x none (some y) none => (match ρ x, ρ y with
  | .im (.val (.slice none 0 0)), .im (.val (.int .i64 j)) => bif decide (j = 0) && (Nat.beq (tk P t) 1 && (ez P t).isSome) then some (.im (.val (.slice none 0 0))) else none
  | _, _ => none)
 | .call ⟨.builtin .cap, ⟨[x]⟩, ⟨[t]⟩⟩ => (match ρ x with
  | .im (.val (.slice none 0 0)) => bif Nat.beq (tk P t) 1 then iv .i64 0 else none
  | _ => none)
 | _ => none
theorem lite2_sound {o : Oper} {av : AV} (hl : lite2 P (rdo env) o.op = some av) : HStep P o env h h av := by
 refine HStep.quiet ?_
 unfold lite2 at hl
 split at hl
 ·rename_i t x y ho
  split at hl
  ·rename_i j hx hy
   obtain ⟨h1, h2⟩ := Y3f hl
   simp only [X3, decide_eq_true_eq] at h1
   simp only [X1] at h2
   subst h2
   have h3 : tk P t = 1 := by simpa using h1.2.1
   obtain rfl := h1.1
   exact Quiet.sliceNil (o := { o with guard := none }) (ops := #[]) ho h3 h1.2.2 (by show _ ∧ _; rw [hx, hy]; exact ⟨trivial, rfl, trivial, rfl⟩)
  ·cases hl
 ·rename_i x t ho
  split at hl
  ·rename_i hx
   obtain ⟨h1, h2⟩ := Y3f hl
   simp only [iv, X1] at h2
   subst h2
   have h3 : tk P t = 1 := by simpa using h1
   exact Quiet.capNil (o := { o with guard := none }) (ops := #[]) ho h3 (by show _ ∧ _; rw [hx]; exact ⟨trivial, rfl⟩)
  ·cases hl
 ·cases hl
def heavy2 (P : Program) (n : Nat) (ρ : Operand → AV) (op : Op) : Option (AV × Rt) := match op with
 | .call ⟨.builtin .append, ⟨[x, y]⟩, ⟨[t, u]⟩⟩ => (match ρ x, ρ y, elemE P t, P.underlying u with
  | .im (.val (.slice none 0 0)), .im (.val (.int .i64 j)), some (e, k, bytes, _), some (.int .i64) => bif decide (0 < j) && (nle (j.toNat * bytes) 140737488355328 && nle j.toNat 140737488355328) then some (.rsl n 0 0 j.toNat, ⟨0, true, e, k, []⟩) else none
  | _, _, _, _ => none)
 | _ => none
theorem RStep.growNil {o : Oper} {t u e : TypeId} {k bytes : Nat} {z : List Value} {x y : Operand} {n : Int} (ho : o.op = .call ⟨.builtin .append, #[x, y], #[t, u]⟩)
  (r : Nat) (hr : h.at r = none) (E : Elem P t e k bytes z) (hu : P.underlying u = some (.int .i64)) (hx : rdo env x = .im (.val (.slice none 0 0))) (hy : rdo env y = .int .i64 n) (h0 : 0 < n) (hrm : room bytes n.toNat) :
  RStep P o env h r ⟨0, true, e, k, []⟩ (.rsl r 0 0 n.toNat) := by
 intro X a w ι Q next H hop hn
 obtain ⟨i, zu, hi, hisz, hiby, hiz, hzu⟩ := E.info
 have hxv := hop x (by simp [ho, Op.operands, Call.operands])
 have hyv := hop y (by simp [ho, Op.operands, Call.operands])
 rw [hx, Y0c] at hxv
 rw [hy, Y1v] at hyv
 have hzs : zu.cells.size = k := by rw [← E.zlen, ← hzu]; simp
 have hpos := E.pos
 obtain ⟨hr1, hr2⟩ := hrm
 have hb : n * i.bytes ≤ 281474976710656 := by
  have h2 : ((n.toNat * bytes : Nat) : Int) ≤ 281474976710656 := by omega
  rw [Int.natCast_mul, Int.toNat_of_nonneg (by omega)] at h2
  rw [hiby]
  exact h2
 have hfit : Builtin.nextslicecap n.toNat 0 * i.bytes ≤ 281474976710656 := growslice_fits (by omega) (by rw [hiby]; exact hr1)
 have hrun := run_append_count (P := P) w (ty := o.type) (Y4m E.sle) hu hi hiz n h0 (by omega) hb hfit (by rw [hisz]; exact hpos)
 have hge := grownCap_ge w n.toNat 0 e
 have hcap : grownCap w n.toNat 0 e ≤ maxLen := grownCap_le_maxLen w _ _ _ (by simp only [maxLen]; omega)
 have hb0 : Below w.heap.size w w.drew := ⟨rfl, rfl, rfl, Xi _, fun _ _ => rfl⟩
 obtain ⟨H', K'⟩ := (H.below hb0).alloc r hr e k (grownCap w n.toNat 0 e) [] (Builtin.zeroCells zu.cells n.toNat ++ Builtin.zeroCells zu.cells (grownCap w n.toNat 0 e - n.toNat))
  (by rw [Array.size_append, size_zeroCells, size_zeroCells, hzs, ← X0j]; congr 1; omega) hcap (by simp [VRL]) (by simp)
 have hex : (execOp a.eval o).run P w = .ok (.value (.slice (some ⟨w.heap.size, 0, none⟩) n.toNat (grownCap w n.toNat 0 e))) (w.drew.alloc (.cells (Builtin.zeroCells zu.cells n.toNat ++ Builtin.zeroCells zu.cells (grownCap w n.toNat 0 e - n.toNat)) e)) := by
  simp only [execOp, ho, resolve, invoke, builtin, X9, Xz, Xn, X0z, Xs, X0y, hxv, hyv, hrun]
 simp only [Oper.wp, hex, Oper.upon]
 refine hn _ _ _ H' ⟨K'.blk, K'.hp⟩ (Y51 (rt := ⟨0, true, e, k, _⟩) ?_)
 exact ⟨_, _, rfl, hge, .inr ⟨w.heap.size, rfl, .inl ⟨rfl, by simp⟩⟩⟩
theorem heavy2_sound {o : Oper} {n : Nat} {av : AV} {rt : Rt} (hn : h.at n = none) (hh : heavy2 P n (rdo env) o.op = some (av, rt)) : HStep P o env h ((n, rt) :: h) av := by
 unfold heavy2 at hh
 split at hh
 ·rename_i x y t u ho
  split at hh
  ·rename_i j e k bytes z hx hy hE hu
   obtain ⟨h1, h2⟩ := Y3f hh
   simp only [X3, decide_eq_true_eq, nle_eq] at h1
   simp only [X1, Prod.mk.injEq] at h2
   obtain ⟨rfl, rfl⟩ := h2
   exact HStep.root (RStep.growNil ho n hn (elemE_sound hE) hu hx hy h1.1 h1.2)
  ·cases hh
 ·cases hh
def stepL (P : Program) (A : Look) (ops : Array Oper) (env : Env) (o : Oper) : Option AV := match gB ops env o with
 | some true => (match lite P A (rdoq env) o.op with
  | some av => some av
  | none => lite2 P (rdoq env) o.op)
 | some false => some undA
 | none => none
theorem stepL_sound {n : Nat} {o : Oper} {av : AV} (hs : stepL P (atG n h) ops env o = some av) : OStep P ops o env (cutH n h) (cutH n h) av := by
 unfold stepL at hs
 split at hs
 ·rename_i hg
  rw [rdoq_eq] at hs
  split at hs
  ·rename_i av' hl; simp only [X1] at hs; subst hs; exact .yes hg (lite_sound (fun r => (cutH_at n r h).symm) hl)
  ·exact .yes hg (lite2_sound hs)
 ·rename_i hg; simp only [X1] at hs; subst hs; exact .no hg
 ·cases hs
def stepN (h : Hp) (n : Nat) (av : AV) (r : Nat) (rt : Rt) (b : Bool) : AV × Hp × Nat := bif b then (av, (r, rt) :: h, n + 1) else (av, h.put r rt, n)
def stepH (P : Program) (call : CallE) (h : Hp) (n : Nat) (ops : Array Oper) (env : Env) (o : Oper) : Option (AV × Hp × Nat) := match gB ops env o with
 | some true => match heavy P (atG n h) n (rdoq env) o.op with
  | some (av, r, rt, b) => some (stepN h n av r rt b)
  | none => match heavy2 P n (rdoq env) o.op with
   | some (av, rt) => some (av, (n, rt) :: h, n + 1)
   | none => callE P call h n (rdoq env) o.op
 | _ => none
theorem stepH_sound {call : CallE} (hcall : CallsOK P call) {o : Oper} {n n' : Nat} {av : AV} {h' : Hp}
  (hs : stepH P call h n ops env o = some (av, h', n')) : OStep P ops o env (cutH n h) (cutH n' h') av := by
 unfold stepH at hs
 split at hs
 ·rename_i hg
  rw [rdoq_eq] at hs
  split at hs
  ·rename_i av' r rt b hh
   obtain ⟨h1, h2, h3⟩ := heavy_sound (h := cutH n h) (fun r => (cutH_at n r h).symm) (atG_n n h) hh
   cases b with
   | true =>
    simp only [stepN, cond_true, X1, Prod.mk.injEq] at hs
    obtain ⟨rfl, rfl, rfl⟩ := hs
    obtain rfl := h2 rfl
    exact .yes hg (HStep.eqv (cut_new _ _ _) h1)
   | false =>
    simp only [stepN, cond_false, X1, Prod.mk.injEq] at hs
    obtain ⟨rfl, rfl, rfl⟩ := hs
    exact .yes hg (HStep.eqv (cut_put (h3 rfl)) h1)
  ·split at hs
   ·rename_i av' rt hh
    simp only [X1, Prod.mk.injEq] at hs
    obtain ⟨rfl, rfl, rfl⟩ := hs
    exact .yes hg (HStep.eqv (cut_new _ _ _) (heavy2_sound (by rw [cutH_at]; exact atG_n n h) hh))
   ·exact .yes hg (callE_sound hcall hs)
 ·cases hs
def dstB (N : Nat) : Option Nat → Bool
 | none => true
 | some d => nlt d N
theorem dstB_sound {d : Option Nat} (hd : dstB N d = true) : d.all (· < N) = true := by
 cases d with
 | none => rfl
 | some d => simp only [dstB, nlt_eq] at hd; simpa using hd
def seqR (P : Program) (call : CallE) (N : Nat) (ops : Array Oper) : List Oper → Env → Hp → Nat → Option (Env × Hp × Nat)
 | [], env, h, n => some (env, h, n)
 | o :: l, env, h, n => bif dstB N o.dst then (match stepL P (atG n h) ops env o with
  | some av => seqR P call N ops l (setd env o.dst av) h n
  | none => match stepH P call h n ops env o with
   | some (av, h', n') => seqR P call N ops l (setd env o.dst av) h' n'
   | none => none) else none
theorem Slots.setd {X : Ctx} {w w' : World} {h' : Hp} {ι ι' : Nat → Bk} {a : Act} (S : Slots N env h ι (Own X.B h ι) a w) (K : Keep w h ι (Own X.B h ι) w' h' ι' (Own X.B h' ι')) {d : Option Nat} (hd : d.all (· < N) = true) {v : Value} {av : AV}
  (hv : VR w' h' ι' (Own X.B h' ι') av v) : Slots N (Abs.setd env d av) h' ι' (Own X.B h' ι') (a.put d v) w' :=
 Slots.putd (N := N) (env := env) (h := h') (ι := ι') (A := Own X.B h' ι') (a := a) (w := w') ⟨S.size, S.defers, fun i => VR.keep K _ _ (S.at_ i)⟩ hd hv
theorem seqR_sound {call : CallE} (hcall : CallsOK P call) : ∀ (l : List Oper) (env : Env) (h : Hp) (n : Nat) (env' : Env) (h' : Hp) (n' : Nat), seqR P call N ops l env h n = some (env', h', n') →
  ∀ (X : Ctx) (a : Act) (w : World) (ι : Nat → Bk) (Q : Exit → Act → World → Prop), Hol X (cutH n h) ι w → Slots N env (cutH n h) ι (Own X.B (cutH n h) ι) a w →
   (∀ ι' a' w', Hol X (cutH n' h') ι' w' → Slots N env' (cutH n' h') ι' (Own X.B (cutH n' h') ι') a' w' → Keep w (cutH n h) ι (Own X.B (cutH n h) ι) w' (cutH n' h') ι' (Own X.B (cutH n' h') ι') → Q .normal a' w') → wpList P ops Q l a w
 | [], env, h, n, env', h', n', hs => by
  simp only [seqR, X1, Prod.mk.injEq] at hs
  obtain ⟨rfl, rfl, rfl⟩ := hs
  intro X a w ι Q H S hQ
  exact hQ ι a w H S (Keep.refl _ _ _ _)
 | o :: l, env, h, n, env', h', n', hs => by
  simp only [seqR] at hs
  intro X a w ι Q H S hQ
  obtain ⟨hd0, hs⟩ := Y3f hs
  have hd := dstB_sound hd0
  have main : ∀ (av : AV) (h1 : Hp) (n1 : Nat), OStep P ops o env (cutH n h) (cutH n1 h1) av → seqR P call N ops l (Abs.setd env o.dst av) h1 n1 = some (env', h', n') → wpList P ops Q (o :: l) a w := by
   intro av h1 n1 ho hr
   refine wpList_step fun K' hK' => ho X a w ι Q K' H (fun s _ => S.at_ s) fun ι' w' v H' K1 hv => hK' _ _ ?_
   exact seqR_sound hcall l _ h1 n1 env' h' n' hr X _ w' ι' Q H' (S.setd K1 hd hv) fun ι'' a'' w'' H'' S'' K'' => hQ ι'' a'' w'' H'' S'' (K1.trans K'')
  split at hs
  ·rename_i av hst
   exact main av h n (stepL_sound hst) hs
  ·split at hs
   ·rename_i av h1 n1 hst
    exact main av h1 n1 (stepH_sound hcall hst) hs
   ·cases hs
/- Drawn orders. `Anc ops j i`: whenever `i` is carried out, `j` was. -/
def Down (ops : Array Oper) (S : Nat → Bool) : Prop := ∀ (i : Nat) (o : Oper), S i = true → ops[i]? = some o → ∀ e ∈ o.after, Region.binds .any e = true → S e.on = true
def Anc (ops : Array Oper) (j i : Nat) : Prop := ∀ S : Nat → Bool, Down ops S → S i = true → S j = true
theorem draw_sound {id : Nat} (hm : P.follows .mixedOrders = true) (hk : drawOk N ops = true) (vs : List AV) (hlen : vs.length = ops.size) (m : Nat) (cs : Nat → Nat) (hs : Nat → Hp)
  (inc : ∀ j k, j < k → k < m → cs j ≠ cs k) (ord : ∀ j k, j < k → k < m → Anc ops (cs j) (cs k))
  (heavyOK : ∀ k, k < m → ∃ o v, ops[cs k]? = some o ∧ vs[cs k]? = some v ∧ OStep P ops o (Y3s env (ops.toList.take (cs k)) (vs.take (cs k))) (hs k) (hs (k + 1)) v)
  (liteOK : ∀ (i : Nat) (o : Oper) (v : AV), ops[i]? = some o → vs[i]? = some v → (∀ k, k < m → cs k ≠ i) → ∀ p, p ≤ m →
   (∃ k, k < p ∧ Anc ops i (cs k)) ∨ (∃ k, p ≤ k ∧ k < m ∧ Anc ops (cs k) i) ∨ OStep P ops o (Y3s env (ops.toList.take i) (vs.take i)) (hs p) (hs p) v)
  {X : Ctx} {a : Act} {w : World} {ι : Nat → Bk} (H : Hol X (hs 0) ι w) (S : Slots N env (hs 0) ι (Own X.B (hs 0) ι) a w) :
  (Code.region id ops true).wp P (fun e a' w' => e = .normal ∧ ∃ ι', Hol X (hs m) ι' w' ∧ Slots N (Y3s env ops.toList vs) (hs m) ι' (Own X.B (hs m) ι') a' w' ∧ Keep w (hs 0) ι (Own X.B (hs 0) ι) w' (hs m) ι' (Own X.B (hs m) ι')) a w := by
 have D := drawOk.spec hk
 refine wp_region_any hm ?_
 have hdrew : Below w.heap.size w { w with drawn := w.drawn + 1 } := ⟨rfl, rfl, rfl, Xi _, fun _ _ => rfl⟩
 have H' := H.below hdrew
 have S' := S.below hdrew
 have K' : Keep w (hs 0) ι (Own X.B (hs 0) ι) { w with drawn := w.drawn + 1 } (hs 0) ι (Own X.B (hs 0) ι) := Keep.below hdrew
 generalize hQd : (fun (e : Exit) (a' : Act) (w' : World) => e = .normal ∧ ∃ ι', Hol X (hs m) ι' w' ∧ Slots N (Y3s env ops.toList vs) (hs m) ι' (Own X.B (hs m) ι') a' w' ∧ Keep w (hs 0) ι (Own X.B (hs 0) ι) w' (hs m) ι' (Own X.B (hs m) ι')) = Q
 generalize ({ w with drawn := w.drawn + 1 } : World) = w1 at H' S' K'
 have main : ∀ (fuel : Nat) (listed : Array Bool) (a : Act) (w2 : World) (p : Nat) (ι2 : Nat → Bk), listed.size = ops.size → ((List.range ops.size).filter fun j => !listed.getD j true).length ≤ fuel → p ≤ m →
   (∀ k, k < p → listed.getD (cs k) false = true) → (∀ k, p ≤ k → k < m → listed.getD (cs k) false = false) → Hol X (hs p) ι2 w2 → Keep w (hs 0) ι (Own X.B (hs 0) ι) w2 (hs p) ι2 (Own X.B (hs p) ι2) →
   Mid N ops env vs (hs p) ι2 (Own X.B (hs p) ι2) (fun i => listed.getD i false) a w2 → wpAny P .any ops Q fuel listed a w2 := by
  have fin : ∀ (listed : Array Bool) (a : Act) (w2 : World) (p : Nat) (ι2 : Nat → Bk), listed.size = ops.size → Region.ready .any ops listed = [] → p ≤ m → (∀ k, p ≤ k → k < m → listed.getD (cs k) false = false) → Hol X (hs p) ι2 w2 →
    Keep w (hs 0) ι (Own X.B (hs 0) ι) w2 (hs p) ι2 (Own X.B (hs p) ι2) → Mid N ops env vs (hs p) ι2 (Own X.B (hs p) ι2) (fun i => listed.getD i false) a w2 → Q .normal a w2 := by
   intro listed a w2 p ι2 hsz hr hpm hun H K M
   have all : ∀ i, i < ops.size → listed.getD i false = true := by
    intro i
    induction i using Nat.strongRecOn with
    | _ i ih =>
     intro hi
     cases hl : listed.getD i false with
     | true => rfl
     | false =>
      exfalso
      have hmem : i ∈ Region.ready .any ops listed := by
       unfold Region.ready
       refine X0f.2 ⟨Xl.2 hi, ?_⟩
       have ho : ops[i]? = some ops[i] := Xc hi
       have hl' : listed.getD i true = false := by
        have hi' : i < listed.size := by omega
        simp only [X4, Xc hi', Xm] at hl ⊢
        exact hl
       simp only [hl', X0q, Bool.true_and, ho, Xp, Xm]
       refine Xg.2 fun e he => ?_
       cases hb : Region.binds .any e with
       | false => simp
       | true =>
        have := D.back i _ ho e he hb
        simp [ih e.on this (by omega)]
      rw [hr] at hmem
      cases hmem
   have hpe : p = m := by
    by_cases h1 : p = m
    ·exact h1
    ·exfalso
     obtain ⟨o, v, ho, _⟩ := heavyOK p (by omega)
     have h2 := hun p (Xi _) (by omega)
     have hi : cs p < ops.size := (Xq.1 ho).1
     rw [all _ hi] at h2
     cases h2
   subst hpe
   rw [← hQd]
   refine ⟨rfl, ι2, H, ⟨M.size, M.defers, fun s => ?_⟩, K⟩
   by_cases hex : ∃ (i : Nat) (o : Oper), ops[i]? = some o ∧ o.dst = some s
   ·obtain ⟨i, o, ho, hd⟩ := hex
    have hi : i < ops.size := (Xq.1 ho).1
    have hv : vs[i]? = some (vs[i]'(by omega)) := X6 (by omega)
    rw [Y42 ops.toList vs env i o _ (by simpa using ho) hv hd (fun j p hp e => (D.one i j o p s ho (by simpa using hp) hd e).symm)]
    exact M.put i o _ s (all i hi) ho hv hd
   ·rw [Y1n ops.toList vs env (fun i o ho e => hex ⟨i, o, by simpa using ho, e⟩)]
    exact M.left s (fun i o _ ho e => hex ⟨i, o, ho, e⟩)
  intro fuel
  induction fuel with
  | zero =>
   intro listed a w2 p ι2 hsz hc hpm hli hun H K M
   have hr : Region.ready .any ops listed = [] := by
    have h0 : ((List.range ops.size).filter fun j => !listed.getD j true) = [] := Xv (by omega)
    unfold Region.ready
    rw [X1a] at h0 ⊢
    intro i hi
    have := h0 i hi
    simp only [X0n, X1m] at this
    simp [this]
   exact ⟨hr, fin listed a w2 p ι2 hsz hr hpm hun H K M⟩
  | succ fuel ih =>
   intro listed a w2 p ι2 hsz hc hpm hli hun H K M
   refine ⟨fun hr => fin listed a w2 p ι2 hsz hr hpm hun H K M, fun i hi => ?_⟩
   unfold Region.ready at hi
   obtain ⟨hir, hi2⟩ := X0f.1 hi
   have hi' : i < ops.size := Xl.1 hir
   have ho : ops[i]? = some ops[i] := Xc hi'
   simp only [ho, Xp, Xm, X3, X0a] at hi2
   obtain ⟨hul, hpred⟩ := hi2
   have hpred' : ∀ e ∈ (ops[i]).after, Region.binds .any e = true → listed.getD e.on false = true := fun e he hb => by
    have := Xg.1 hpred e he
    simpa [hb] using this
   have hulf : listed.getD i false = false := by
    have hi'' : i < listed.size := by omega
    simp only [X4, Xc hi'', Xm] at hul ⊢
    exact hul
   have hv : vs[i]? = some (vs[i]'(by omega)) := X6 (by omega)
   have hdown : Down ops (fun i => listed.getD i false) := M.down
   -- what an ancestor of `i` is
   have hanc : ∀ j, Anc ops j i → j ≠ i → listed.getD j false = true := by
    intro j hj hne
    have := hj (fun k => (listed.setIfInBounds i true).getD k false) (by
     intro k o hk hok e he hb
     have hset : ∀ k, (listed.setIfInBounds i true).getD k false = if k = i then true else listed.getD k false := by
      intro k
      simp only [X4]
      by_cases hki : k = i
      ·subst hki; rw [Xd (by omega)]; simp
      ·rw [Xk (fun e => hki e.symm)]; simp [hki]
     simp only [hset] at hk ⊢
     by_cases hki : k = i
     ·subst hki
      rw [ho] at hok; cases hok
      have := hpred' e he hb
      split
      ·rfl
      ·exact this
     ·rw [if_neg hki] at hk
      have := M.down k o hk hok e he hb
      split
      ·rfl
      ·exact this) (by
     simp only [X4]
     rw [Xd (by omega)]; rfl)
    simp only [X4] at this ⊢
    rwa [Xk (fun e => hne e.symm)] at this
   simp only [wpOp, ho]
   -- the slots that it looks at hold what they hold in the order of the text
   have hlook : ∀ s, s ∈ (ops[i]).looksAt ops → VR w2 (hs p) ι2 (Own X.B (hs p) ι2) (rd (Y3s env (ops.toList.take i) (vs.take i)) s) (a.tmps.getD s undef) := by
    intro s hss
    by_cases hex : ∃ (j : Nat) (q : Oper), ops[j]? = some q ∧ q.dst = some s
    ·obtain ⟨j, q, hq, hd⟩ := hex
     have hj : j < ops.size := (Xq.1 hq).1
     have hij : i ≠ j := by
      rintro rfl
      rw [ho] at hq
      cases hq
      exact D.self i _ s ho hd hss
     rcases D.look i j _ q s ho hq hij hd hss with ⟨hlt, e, he, hb, hon⟩ | ⟨hlt, e, he, hb, hon⟩
     ·have hS : listed.getD j false = true := hon ▸ hpred' e he hb
      have hvj : vs[j]? = some (vs[j]'(by omega)) := X6 (by omega)
      rw [Y42 (ops.toList.take i) (vs.take i) env j q (vs[j]'(by omega)) (by rw [Xj, if_pos hlt]; simpa using hq) (by rw [Xj, if_pos hlt]; exact hvj) hd
       (fun k q' hq' e => by
        rw [Xj] at hq'
        split at hq'
        ·exact (D.one j k q q' s hq (by simpa using hq') hd e).symm
        ·cases hq')]
      exact M.put j q _ s hS hq hvj hd
     ·rw [Y1n (ops.toList.take i) (vs.take i) env (fun k q' hq' e => by
       rw [Xj] at hq'
       split at hq'
       ·have := D.one j k q q' s hq (by simpa using hq') hd e
        omega
       ·cases hq')]
      refine M.left s (fun k q' hk hq' e => ?_)
      have hjk := D.one j k q q' s hq hq' hd e
      subst hjk
      rw [hq] at hq'
      cases hq'
      have := M.down j q hk hq _ he hb
      rw [hon] at this
      simp [hulf] at this
    ·rw [Y1n (ops.toList.take i) (vs.take i) env (fun k q hq e => by
      rw [Xj] at hq
      split at hq
      ·exact hex ⟨k, q, by simpa using hq, e⟩
      ·cases hq)]
     exact M.left s (fun k q _ hq e => hex ⟨k, q, hq, e⟩)
   -- how it goes on
   have cont : ∀ (p' : Nat), p' ≤ m → (∀ k, k < p' → (k < p ∨ cs k = i)) → (∀ k, p' ≤ k → k < m → (p ≤ k ∧ cs k ≠ i)) →
     OStep P ops (ops[i]) (Y3s env (ops.toList.take i) (vs.take i)) (hs p) (hs p') (vs[i]'(by omega)) →
     (if Region.wanted (ops[i]) (yielded ops a.tmps) then (ops[i]).wp P a w2 (wpAny P .any ops Q fuel (listed.setIfInBounds i true)) Q ∨ ((ops[i]).asks P a w2 ∧ LetsOut Q) else wpAny P .any ops Q fuel (listed.setIfInBounds i true) (a.put (ops[i]).dst undef) w2) := by
    intro p' hp' hbel habv hstep
    have step := hstep X a w2 ι2 Q (wpAny P .any ops Q fuel (listed.setIfInBounds i true)) H hlook ?_
    ·split
     ·rename_i hw; rw [if_pos hw] at step; exact .inl step
     ·rename_i hw; rw [if_neg hw] at step; exact step
    ·intro ι3 w3 v H3 K3 hvv
     have hset : ∀ k, (listed.setIfInBounds i true).getD k false = if k = i then true else listed.getD k false := by
      intro k
      simp only [X4]
      by_cases hki : k = i
      ·subst hki; rw [Xd (by omega)]; simp
      ·rw [Xk (fun e => hki e.symm)]; simp [hki]
     refine ih _ _ _ p' ι3 (by simpa using hsz) ?_ hp' (fun k hk => ?_) (fun k hk1 hk2 => ?_) H3 (K.trans K3) ?_
     ·have := unlisted_lt hi' hsz hul
      omega
     ·rw [hset]
      rcases hbel k hk with h1 | h1
      ·split
       ·rfl
       ·exact hli k h1
      ·rw [if_pos h1]
     ·rw [hset, if_neg (habv k hk1 hk2).2]
      exact hun k (habv k hk1 hk2).1 hk2
     ·have hother : ∀ s, (ops[i]).dst ≠ some s → (a.put (ops[i]).dst v).tmps.getD s undef = a.tmps.getD s undef := by
       intro s hs
       cases hd : (ops[i]).dst with
       | none => rfl
       | some d =>
        have : d ≠ s := fun e => hs (by rw [hd, e])
        simp only [Act.put, X4, Xk this]
      have hself : ∀ s, (ops[i]).dst = some s → (a.put (ops[i]).dst v).tmps.getD s undef = v := by
       intro s hs
       have hsN : s < N := by have := D.dst i _ ho; rw [hs] at this; simpa using this
       rw [hs]
       simp only [Act.put, X4]
       rw [Xd (by rw [M.size]; exact hsN)]
       rfl
      refine ⟨?_, ?_, ?_, ?_, ?_⟩
      ·rw [← M.size]; unfold Act.put; split <;> simp
      ·rw [← M.defers]; unfold Act.put; split <;> rfl
      ·intro k o u s hk hok huk hd
       simp only [hset] at hk
       by_cases hki : k = i
       ·subst hki
        rw [ho] at hok; cases hok
        rw [hv] at huk; cases huk
        rw [hself s hd]
        exact hvv
       ·rw [if_neg hki] at hk
        rw [hother s (fun e => hki (D.one k i o _ s hok ho hd e))]
        exact VR.keep K3 _ _ (M.put k o u s hk hok huk hd)
      ·intro s hs
       have hne : (ops[i]).dst ≠ some s := hs i _ (by simp [hset]) ho
       rw [hother s hne]
       refine VR.keep K3 _ _ (M.left s fun k o hk hok => hs k o ?_ hok)
       simp only [hset]
       split
       ·rfl
       ·exact hk
      ·intro k o hk hok e he hb'
       simp only [hset] at hk ⊢
       by_cases hki : k = i
       ·subst hki
        rw [ho] at hok; cases hok
        have := hpred' e he hb'
        split
        ·rfl
        ·exact this
       ·rw [if_neg hki] at hk
        have := M.down k o hk hok e he hb'
        split
        ·rfl
        ·exact this
   by_cases hcs : ∃ k, k < m ∧ cs k = i
   ·obtain ⟨k, hkm, hki⟩ := hcs
    have h1 : p ≤ k := by
     by_cases h : p ≤ k
     ·exact h
     ·have := hli k (by omega)
      rw [hki, hulf] at this
      cases this
    have h2 : k ≤ p := by
     by_cases h : k ≤ p
     ·exact h
     ·exfalso
      have := hanc (cs p) (by have := ord p k (by omega) hkm; rwa [hki] at this) (by rw [← hki]; exact inc p k (by omega) hkm)
      rw [hun p (Xi _) (by omega)] at this
      cases this
    have hpk : p = k := by omega
    subst hpk
    obtain ⟨o, v, ho2, hv2, hst⟩ := heavyOK p hkm
    rw [hki, ho] at ho2
    cases ho2
    rw [hki, hv] at hv2
    cases hv2
    rw [hki] at hst
    refine cont (p + 1) (by omega) (fun k hk => ?_) (fun k hk1 hk2 => ⟨by omega, ?_⟩) hst
    ·by_cases h : k < p
     ·exact .inl h
     ·have : k = p := by omega
      subst this
      exact .inr hki
    ·rw [← hki]
     exact (inc p k (by omega) hk2).symm
   ·have hcs' : ∀ k, k < m → cs k ≠ i := fun k hk e => hcs ⟨k, hk, e⟩
    rcases liteOK i _ _ ho hv hcs' p hpm with ⟨k, hk, ha⟩ | ⟨k, hk1, hk2, ha⟩ | hst
    ·exfalso
     have := ha _ hdown (hli k hk)
     simp only [hulf] at this
     cases this
    ·exfalso
     have := hanc (cs k) ha (hcs' k hk2)
     rw [hun k hk1 hk2] at this
     cases this
    ·exact cont p hpm (fun k hk => .inl hk) (fun k hk1 hk2 => ⟨hk1, hcs' k hk2⟩) hst
 refine main ops.size _ a w1 0 ι (by simp) ?_ (Nat.zero_le _) (fun k hk => by omega) (fun k _ _ => ?_) H' K' ⟨S'.size, S'.defers, ?_, ?_, ?_⟩
 ·exact X0p (X1d _ _) (by simp)
 ·simp only [X4, X04]; split <;> rfl
 ·intro i o v s hS
  exfalso
  have : (Array.replicate ops.size false).getD i false = false := by
   simp only [X4, X04]; split <;> rfl
  simp only [this] at hS
  cases hS
 ·exact fun s _ => S'.at_ s
 ·intro i o hS
  exfalso
  have : (Array.replicate ops.size false).getD i false = false := by
   simp only [X4, X04]; split <;> rfl
  simp only [this] at hS
  cases hS
end
end Go.Abs
