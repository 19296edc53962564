/-
  Own work. The abstract layer, part 11: rows of computing operations at once.
-/
import Derived.Test.YthfdgicfcjkfgaaAbs10
import Derived.ScopeJumps
set_option linter.unusedSimpArgs false
set_option linter.unusedVariables false
namespace Go.Abs
open Go.RowKit

theorem take_len_map {α β : Type} (f : α → β) (l : List α) : (l.map f).take l.length = l.map f := List.take_of_length_le (by simp)

section
variable {P : Program} {N : Nat} {ops : Array Oper} {env : Env} {h : Hp}

def pw (P : Program) (N : Nat) (ops : Array Oper) (h : Hp) : List Oper → Env → (Env → Prop) → Prop
  | [], env, K => K env
  | o :: l, env, K => o.dst.all (· < N) = true ∧ gpo ops env o (po P h (rdo env) o.op) ∧ pw P N ops h l (setd env o.dst (gav ops env o (pv P h (rdo env) o.op))) K

theorem OpsW.pures {K : Env → Hp → Prop} : ∀ (n : Nat) (l : List Oper) (env : Env), pw P N ops h (l.take n) env (fun env' => OpsW P N ops (l.drop n) env' h K) → OpsW P N ops l env h K
  | 0, l, env, hw => by simpa [pw] using hw
  | n + 1, [], env, hw => by simpa [pw] using hw
  | n + 1, o :: l, env, hw => by
    simp only [List.take_succ_cons, List.drop_succ_cons, pw] at hw
    exact OpsW.pure hw.1 hw.2.1 (OpsW.pures n l _ hw.2.2)

theorem OpsW.all {K : Env → Hp → Prop} : ∀ (l : List Oper) (env : Env), pw P N ops h l env (fun env' => K env' h) → OpsW P N ops l env h K
  | [], env, hw => OpsW.nil hw
  | o :: l, env, hw => by
    simp only [pw] at hw
    exact OpsW.pure hw.1 hw.2.1 (OpsW.all l _ hw.2.2)

theorem QOps.all {K : Env → Prop} : ∀ (l : List Oper) (env : Env), pw P N ops h l env K → QOps P ops h l env K
  | [], env, hw => hw
  | o :: l, env, hw => by
    simp only [pw] at hw
    exact QOps.pure hw.2.1 (QOps.all l _ hw.2.2)

theorem QOps.pures {K : Env → Prop} : ∀ (n : Nat) (l : List Oper) (env : Env), pw P N ops h (l.take n) env (fun env' => QOps P ops h (l.drop n) env' K) → QOps P ops h l env K
  | 0, l, env, hw => by simpa [pw] using hw
  | n + 1, [], env, hw => by simpa [pw] using hw
  | n + 1, o :: l, env, hw => by
    simp only [List.take_succ_cons, List.drop_succ_cons, pw] at hw
    exact QOps.pure hw.2.1 (QOps.pures n l _ hw.2.2)


/-- One computing operation whose value is stated anew. -/
theorem OpsW.as {o : Oper} {rest : List Oper} {K : Env → Hp → Prop} (x : AV) (hd : o.dst.all (· < N) = true) (hg : gpo ops env o (po P h (rdo env) o.op ∧ pv P h (rdo env) o.op = x))
    (hr : OpsW P N ops rest (setd env o.dst (gav ops env o x)) h K) : OpsW P N ops (o :: rest) env h K :=
  OpsW.quiet hd (Quiet.guarded hg fun hp X a w ι Q H hop next hn => by
    obtain ⟨v, hr, hv⟩ := pv_sound (P := P) H hp.1 hop
    simp only [Oper.wp, hr, Oper.upon]
    exact hn v w (Below.refl _ _) (hp.2 ▸ hv)) hr

theorem QOps.as {o : Oper} {rest : List Oper} {K : Env → Prop} (x : AV) (hg : gpo ops env o (po P h (rdo env) o.op ∧ pv P h (rdo env) o.op = x))
    (hr : QOps P ops h rest (setd env o.dst (gav ops env o x)) K) : QOps P ops h (o :: rest) env K :=
  ⟨_, Quiet.guarded hg fun hp X a w ι Q H hop next hn => by
    obtain ⟨v, hr, hv⟩ := pv_sound (P := P) H hp.1 hop
    simp only [Oper.wp, hr, Oper.upon]
    exact hn v w (Below.refl _ _) (hp.2 ▸ hv), hr⟩

variable {Q : Exit → Env → Hp → Prop}

theorem AW.skipSeq {z : Code} (hw : AW P N z env h Q) : AW P N (.seq .skip z) env h Q := AW.seq (AW.skip hw)
theorem AW.labelSeq {l : Nat} {z : Code} (hw : AW P N z env h Q) : AW P N (.seq (.label l) z) env h Q := AW.seq (AW.label hw)
theorem AW.retSeq {z : Code} (hq : Q .ret env h) : AW P N (.seq .ret z) env h Q := AW.seq (AW.ret hq)
theorem AW.exitSeq {z : Code} {id : Nat} (hq : Q (.exit id) env h) : AW P N (.seq (.exit id) z) env h Q := AW.seq (AW.exit hq)
theorem AW.blockSeq {z c : Code} {id : Nat} (hw : AW P N c env h (Ex.inBlock id (Ex.then (fun e h => AW P N z e h Q) Q))) : AW P N (.seq (.block id c) z) env h Q := AW.seq (AW.block hw)


theorem Env.le.nil : Env.le env [] := fun _ => .inl rfl
theorem Env.le.cons {i : Nat} {v : AV} {r : Env} (hv : rd env i = v) (hr : Env.le env r) : Env.le env ((i, v) :: r) := by
  intro j
  by_cases hj : i = j
  · subst hj; right; simp [rd, hv]
  · simp only [rd, if_neg hj]; exact hr j

theorem Done.one {fn : Func} {t : Nat} {x r : AV} {R : AV → Hp → Prop} (hres : fn.results = #[.tmp t]) (hx : rd env t = x) (hs : Sub x r) (hR : R r h) : Done P fn R .ret env h :=
  ⟨r, (Res.tmp hres).sub (hx ▸ hs), hR⟩
theorem Done.two {fn : Func} {t u : Nat} {x y r s : AV} {R : AV → Hp → Prop} (hres : fn.results = #[.tmp t, .tmp u]) (hx : rd env t = x) (hy : rd env u = y) (hs : Sub x r) (hs2 : Sub y s) (hR : R (.tup [r, s]) h) : Done P fn R .ret env h :=
  ⟨_, (Res.tmp2 hres).sub (by rw [hx, hy]; exact Sub.tup2 hs hs2), hR⟩
theorem Done.three {fn : Func} {t u v : Nat} {x y z r s q : AV} {R : AV → Hp → Prop} (hres : fn.results = #[.tmp t, .tmp u, .tmp v]) (hx : rd env t = x) (hy : rd env u = y) (hz : rd env v = z) (hs : Sub x r) (hs2 : Sub y s) (hs3 : Sub z q)
    (hR : R (.tup [r, s, q]) h) : Done P fn R .ret env h :=
  ⟨_, (Res.tmp3 hres).sub (by rw [hx, hy, hz]; exact Sub.tup3 hs hs2 hs3), hR⟩

theorem Hp.eqv.refl (h : Hp) : Hp.eqv h h := fun _ => rfl
theorem Hp.eqv.shadow {r : Nat} {a b : Rt} {h h' : Hp} (he : Hp.eqv ((r, a) :: h) h') : Hp.eqv ((r, a) :: (r, b) :: h) h' := by
  intro i
  rw [he i]
  simp only [Hp.at]
  split <;> simp_all


/-- A call that only reads and makes new data. -/
theorem OpsW.qcall {o : Oper} {f : FuncId} {xs : List Operand} {ts : Array TypeId} {rest : List Oper} {K : Env → Hp → Prop} {ys : List AV} {r : AV} (ho : o.op = .call ⟨.value (.func f), xs.toArray, ts⟩) (hc : callable P f = true) (hgu : o.guard = none) (hd : o.dst.all (· < N) = true)
    (hgd : ∀ x ∈ xs, gd (rdo env x)) (ha : ArgL h [] (xs.map fun x => st (rdo env x)) ys) (hs : QSpec P f ys r) (hp : pur r = true) (hr : OpsW P N ops rest (setd env o.dst r) h K) : OpsW P N ops (o :: rest) env h K := by
  have hq := Quiet.call (ops := ops) (env := env) ho hc [] ys r (by unfold gpo; rw [hgu]; exact ⟨hgd, ha, hs, .inl ⟨rfl, hp⟩⟩)
  have e : gav ops env o r = r := by unfold gav; rw [hgu]
  rw [e] at hq
  exact OpsW.quiet hd hq hr

theorem QOps.qcall {o : Oper} {f : FuncId} {xs : List Operand} {ts : Array TypeId} {rest : List Oper} {K : Env → Prop} {ys : List AV} {r : AV} (ho : o.op = .call ⟨.value (.func f), xs.toArray, ts⟩) (hc : callable P f = true) (hgu : o.guard = none)
    (hgd : ∀ x ∈ xs, gd (rdo env x)) (ha : ArgL h [] (xs.map fun x => st (rdo env x)) ys) (hs : QSpec P f ys r) (hp : pur r = true) (hr : QOps P ops h rest (setd env o.dst r) K) : QOps P ops h (o :: rest) env K := by
  have hq := Quiet.call (ops := ops) (env := env) ho hc [] ys r (by unfold gpo; rw [hgu]; exact ⟨hgd, ha, hs, .inl ⟨rfl, hp⟩⟩)
  have e : gav ops env o r = r := by unfold gav; rw [hgu]
  rw [e] at hq
  exact ⟨_, hq, hr⟩

/-- The same with owned roots `bs` that the callee reads; its result is no memory. -/
theorem OpsW.bcall {o : Oper} {f : FuncId} {xs : List Operand} {ts : Array TypeId} {rest : List Oper} {K : Env → Hp → Prop} {ys : List AV} {r : AV} (bs : List Nat) (ho : o.op = .call ⟨.value (.func f), xs.toArray, ts⟩) (hc : callable P f = true) (hgu : o.guard = none) (hd : o.dst.all (· < N) = true)
    (hgd : ∀ x ∈ xs, gd (rdo env x)) (ha : ArgL h bs (xs.map fun x => st (rdo env x)) ys) (hs : QSpec P f ys r) (hp : scal r = true) (hr : OpsW P N ops rest (setd env o.dst r) h K) : OpsW P N ops (o :: rest) env h K := by
  have hq := Quiet.call (ops := ops) (env := env) ho hc bs ys r (by unfold gpo; rw [hgu]; exact ⟨hgd, ha, hs, .inr hp⟩)
  have e : gav ops env o r = r := by unfold gav; rw [hgu]
  rw [e] at hq
  exact OpsW.quiet hd hq hr

/-- A guarded call. -/
theorem OpsW.gcall {o : Oper} {f : FuncId} {xs : List Operand} {ts : Array TypeId} {rest : List Oper} {K : Env → Hp → Prop} {ys : List AV} {r : AV} {j t : Nat} {b c : Bool} (bs : List Nat) (ho : o.op = .call ⟨.value (.func f), xs.toArray, ts⟩) (hc : callable P f = true)
    (hgu : o.guard = some (j, b)) (hj : (ops[j]?).bind (·.dst) = some t) (hgc : gcond b (rd env t) = some c) (hd : o.dst.all (· < N) = true)
    (hs : c = true → (∀ x ∈ xs, gd (rdo env x)) ∧ ArgL h bs (xs.map fun x => st (rdo env x)) ys ∧ QSpec P f ys r ∧ ((bs = [] ∧ pur r = true) ∨ scal r = true)) (hr : OpsW P N ops rest (setd env o.dst (.cnd c r)) h K) : OpsW P N ops (o :: rest) env h K := by
  have hq := Quiet.call (ops := ops) (env := env) ho hc bs ys r (by unfold gpo; simp only [hgu, hj, hgc]; exact hs)
  have e : gav ops env o r = .cnd c r := by unfold gav; simp only [hgu, hj, hgc]
  rw [e] at hq
  exact OpsW.quiet hd hq hr

theorem QOps.gcall {o : Oper} {f : FuncId} {xs : List Operand} {ts : Array TypeId} {rest : List Oper} {K : Env → Prop} {ys : List AV} {r : AV} {j t : Nat} {b c : Bool} (bs : List Nat) (ho : o.op = .call ⟨.value (.func f), xs.toArray, ts⟩) (hc : callable P f = true)
    (hgu : o.guard = some (j, b)) (hj : (ops[j]?).bind (·.dst) = some t) (hgc : gcond b (rd env t) = some c)
    (hs : c = true → (∀ x ∈ xs, gd (rdo env x)) ∧ ArgL h bs (xs.map fun x => st (rdo env x)) ys ∧ QSpec P f ys r ∧ ((bs = [] ∧ pur r = true) ∨ scal r = true)) (hr : QOps P ops h rest (setd env o.dst (.cnd c r)) K) : QOps P ops h (o :: rest) env K := by
  have hq := Quiet.call (ops := ops) (env := env) ho hc bs ys r (by unfold gpo; simp only [hgu, hj, hgc]; exact hs)
  have e : gav ops env o r = .cnd c r := by unfold gav; simp only [hgu, hj, hgc]
  rw [e] at hq
  exact ⟨_, hq, hr⟩

def Ex.jump (l : Nat) (J : Env → Hp → Prop) (Q : Exit → Env → Hp → Prop) : Exit → Env → Hp → Prop
  | .goto l', e, h => l' = l ∧ J e h
  | x, e, h => Q x e h

/-- A scope with a label that the run jumps to at most once. -/
theorem AW.scopeJump {c rest : Code} (l : Nat) (J : Env → Hp → Prop) (hf : findLabel c l = some rest) (first : AW P N c env h (Ex.jump l J Q)) (pass : ∀ e h, J e h → AW P N rest e h (Ex.noGoto Q)) : AW P N (.scope c) env h Q := by
  intro X a w ι H S
  refine wp_scope_jumps l (fun a w => ∃ env' h' ι', J env' h' ∧ Hol X h' ι' w ∧ Slots N env' h' ι' (Own X.B h' ι') a w) (fun _ _ => 0) hf (wp_mono (first X a w ι H S) ?_) ?_
  · rintro e a' w' ⟨env', h', ι', hq, H', S'⟩
    cases e with
    | goto l' => exact ⟨hq.1, env', h', ι', hq.2, H', S'⟩
    | _ => exact ⟨env', h', ι', hq, H', S'⟩
  · rintro a w ⟨env', h', ι', hJ, H', S'⟩
    refine wp_mono (pass env' h' hJ X a w ι' H' S') ?_
    rintro e a' w' ⟨env'', h'', ι'', hq, H'', S''⟩
    cases e with
    | goto l' => exact hq.elim
    | _ => exact ⟨env'', h'', ι'', hq, H'', S''⟩


theorem Hol.own_lt {X : Ctx} {ι : Nat → Bk} {w : World} (H : Hol X h ι w) {β : Nat} (hb : Own X.B h ι β) : β < w.heap.size := by
  rcases hb with hb | ⟨r, rt, hr, hl, hg⟩
  · exact Nat.lt_of_lt_of_le (H.old β hb).1 H.size
  · obtain ⟨arr, h1, _⟩ := (H.roots r rt hr hl).row hg
    exact lt_of_heap h1

/-- A literal slice that nobody writes. -/
theorem Quiet.buildI {o : Oper} {t e : TypeId} {len k bytes : Nat} {z : List Value} {ps : List (Nat × Operand)} {ys : List IV} (ho : o.op = .buildSlice t len ps.toArray) (E : Elem P t e k bytes z) (hlen : len * k ≤ 16777216)
    (hg : gpo ops env o ((∀ p ∈ ps, gd (rdo env p.2)) ∧ (∀ p ∈ ps, okC h (st (rdo env p.2))) ∧ fillA h (fun i => some (i * k, k)) (zerosA z len) (ps.map fun p => (p.1, st (rdo env p.2))) = some (ys.map .im) ∧ (∀ x ∈ ys.map AV.im, oneA h x) ∧ ys.length = len * k)) :
    Quiet P ops o env h (gav ops env o (.im (.sl ys len))) :=
  Quiet.guarded hg fun ⟨hgd, hok, hf, hone, hcl⟩ X a w ι Q H hop next hn => by
    obtain ⟨u, hu, hcu⟩ := zc_some (w := w) E.zc
    obtain ⟨i, zu, hi, hisz, hiby, hiz, hzu⟩ := E.info
    have husz : u.cells.size = k := by rw [← E.zlen, ← hcu]; simp
    have hvp := VRP.mk (h := h) (w := w) (ι := ι) (A := Own X.B h ι) (η := a.eval) ps hgd (fun p hp => hop p.2 (by rw [ho]; simp only [Op.operands]; exact (List.mem_toArray).2 (List.mem_map.2 ⟨p, by simpa using hp, rfl⟩)))
    have hz0 : VRL w h ι (Own X.B h ι) (zerosA z len) ((Array.range (len * k)).map (u.cells[· % u.cells.size]!)).toList := by
      rw [zeros_eq u.cells k len husz E.pos, hcu]
      exact VRL.vals _
    obtain ⟨arr, h1, h2⟩ := fill_sound (arr := (Array.range (len * k)).map (u.cells[· % u.cells.size]!)) hf hvp (fun p hp => by
      obtain ⟨q, hq, rfl⟩ := List.mem_map.1 hp
      exact hok q hq) hz0
    have hal : arr.size = len * k := by rw [← hcl]; simpa using h2.length
    have hbig : ¬ (len * k > 2 ^ 24) := by omega
    have hrun : (execOp a.eval o).run P w = .ok (.value (.slice (some ⟨w.heap.size, 0, none⟩) len len)) (w.alloc (.cells arr e)) := by
      simp only [execOp, ho, Instr.buildSlice, Sem.run_bind, run_underlying (sle_some E.sle), sizeOf, typeInfo, program, Sem.run, hi, Result.andThen_ok, Sem.run_pure, hisz]
      by_cases h0 : len * k = 0
      · have hl0 : len = 0 := by
          rcases Nat.mul_eq_zero.1 h0 with h | h
          · exact h
          · have := E.pos; omega
        subst hl0
        have e0 : Array.range 0 = #[] := rfl
        simp only [Nat.zero_mul, e0, List.map_toArray, List.map_nil] at h1
        simp [e0, h1, newRow, Sem.run_bind]
      · simp [h0, hbig, hu, h1, newRow, Sem.run_bind]
    simp only [Oper.wp, hrun, Oper.upon]
    have hb : Below w.heap.size w (w.alloc (.cells arr e)) := (Below.refl _ _).alloc (Nat.le_refl _) _
    refine hn _ _ hb ?_
    simp only [VR, VRI]
    have hI := VRL.toI (VRL.keep (Keep.below hb) _ _ h2)
    refine ⟨some ⟨w.heap.size, 0, none⟩, len, arr.toList, rfl, Nat.le_refl _, by simp, fun a' ha' => ?_, hI⟩
    simp at ha'
    subst ha'
    intro j v hv
    refine ⟨?_, fun ho => by have := H.own_lt ho; simp at this, oneA.sound_list hone h2 v (List.mem_of_getElem? hv)⟩
    rw [addr_add, Nat.zero_add, cell_of_row _ w.heap.size j arr e (0, 0) (heap_alloc_new w _)]
    simpa using hv

theorem OpsW.buildI {o : Oper} {rest : List Oper} {K : Env → Hp → Prop} {t e : TypeId} {len k bytes : Nat} {z : List Value} {ps : List (Nat × Operand)} {ys : List IV} (ho : o.op = .buildSlice t len ps.toArray) (hgu : o.guard = none) (hd : o.dst.all (· < N) = true) (E : Elem P t e k bytes z) (hlen : len * k ≤ 16777216)
    (hgd : ∀ p ∈ ps, gd (rdo env p.2)) (hok : ∀ p ∈ ps, okC h (st (rdo env p.2))) (hf : fillA h (fun i => some (i * k, k)) (zerosA z len) (ps.map fun p => (p.1, st (rdo env p.2))) = some (ys.map .im)) (hone : ∀ x ∈ ys.map AV.im, oneA h x) (hcl : ys.length = len * k)
    (hr : OpsW P N ops rest (setd env o.dst (.im (.sl ys len))) h K) : OpsW P N ops (o :: rest) env h K := by
  have hq := Quiet.buildI (ops := ops) (env := env) (h := h) ho E hlen (ys := ys) (by unfold gpo; rw [hgu]; exact ⟨hgd, hok, hf, hone, hcl⟩)
  have e1 : gav ops env o (.im (.sl ys len)) = .im (.sl ys len) := by unfold gav; rw [hgu]
  rw [e1] at hq
  exact OpsW.quiet hd hq hr


theorem OpsW.gbuildI {o : Oper} {rest : List Oper} {K : Env → Hp → Prop} {t e : TypeId} {len k bytes : Nat} {z : List Value} {ps : List (Nat × Operand)} {j tt : Nat} {b c : Bool} (ys : List IV) (ho : o.op = .buildSlice t len ps.toArray) (hgu : o.guard = some (j, b)) (hj : (ops[j]?).bind (·.dst) = some tt) (hgc : gcond b (rd env tt) = some c) (hd : o.dst.all (· < N) = true) (E : Elem P t e k bytes z) (hlen : len * k ≤ 16777216)
    (hg : c = true → (∀ p ∈ ps, gd (rdo env p.2)) ∧ (∀ p ∈ ps, okC h (st (rdo env p.2))) ∧ fillA h (fun i => some (i * k, k)) (zerosA z len) (ps.map fun p => (p.1, st (rdo env p.2))) = some (ys.map .im) ∧ (∀ x ∈ ys.map AV.im, oneA h x) ∧ ys.length = len * k)
    (hr : OpsW P N ops rest (setd env o.dst (.cnd c (.im (.sl ys len)))) h K) : OpsW P N ops (o :: rest) env h K := by
  have hq := Quiet.buildI (ops := ops) (env := env) (h := h) ho E hlen (ys := ys) (by unfold gpo; simp only [hgu, hj, hgc]; exact hg)
  have e1 : gav ops env o (.im (.sl ys len)) = .cnd c (.im (.sl ys len)) := by unfold gav; simp only [hgu, hj, hgc]
  rw [e1] at hq
  exact OpsW.quiet hd hq hr

/-- The whole of a row of cells is given up. -/
theorem AW.freezeAll {c : Code} (t r : Nat) {ver n : Nat} {rt : Rt} (ys : List IV) (ht : rd env t = .rsl r ver 0 n) (hrt : h.at r = some rt) (hver : rt.ver = ver) (hl : rt.live = true) (hcs : rt.cs = ys.map .im) (hlen : ys.length = n * rt.k)
    (hw : AW P N c ((t, .im (.sl ys n)) :: env) ((r, ⟨rt.ver + 1, false, rt.e, rt.k, []⟩) :: h) Q) : AW P N c env h Q := by
  refine AW.freeze t r (ys := ys) ht hrt hver hl hcs (by omega) ?_
  rw [List.drop_zero, List.take_of_length_le (by omega)]
  exact hw

/-- Where ways meet again: what holds there, by a family of states. -/
theorem AW.cut {c z : Code} {Q' : Exit → Env → Hp → Prop} {α : Type} (E : α → Env) (G : α → Hp) (J : α → Prop) (hw : AW P N c env h (Ex.then (fun e h => ∃ y, J y ∧ Env.le e (E y) ∧ Hp.eqv h (G y)) Q)) (hn : ∀ y, J y → AW P N z (E y) (G y) Q') :
    AW P N c env h (Ex.then (fun e h => AW P N z e h Q') Q) :=
  AW.mono hw fun x e h hq => by
    cases x with
    | normal =>
      obtain ⟨y, h1, h2, h3⟩ := hq
      exact AW.heap _ h3 (AW.weaken _ h2 (hn y h1))
    | _ => exact hq

end
end Go.Abs
