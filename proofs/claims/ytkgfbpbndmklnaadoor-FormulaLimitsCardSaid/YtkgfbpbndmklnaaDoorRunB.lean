/- Own work. -/
import Derived.Test.YtkgfbpbndmklnaaDoorRunA
set_option linter.unusedSimpArgs false
set_option linter.unusedVariables false
namespace Go.Abs
open Go.RowKit
section
variable {P : Program} {N : Nat} {ops : Array Oper} {env : Env} {h : Hp}
def undA : AV := .im (.val undef)
def gB (ops : Array Oper) (env : Env) (o : Oper) : Option Bool := match o.guard with
 | none => some true
 | some (j, b) => match (ops[j]?).bind (·.dst) with
  | some t => match rdq env t with
   | .im (.val (.bool g)) => some (g == b)
   | .im (.val (.tuple ⟨[]⟩)) => some false
   | _ => none
  | none => none
theorem gB_sound {w : World} {ι : Nat → Bk} {A : Nat → Prop} {a : Act} {o : Oper} {g : Bool} (hg : gB ops env o = some g) (hs : ∀ s, s ∈ o.looksAt ops → VR w h ι A (rd env s) (a.tmps.getD s undef)) :
  Region.wanted o (yielded ops a.tmps) = g := by
 unfold gB at hg
 split at hg
 ·rename_i h0
  simp only [X0] at hg
  subst hg
  simp [Region.wanted, h0]
 ·rename_i j b h0
  split at hg
  ·rename_i t ht
   have hv := hs t (looks_guard h0 ht)
   have hy := yielded_iff (ops := ops) (tmps := a.tmps) (b := b) ht
   simp only [Region.wanted, h0]
   rw [rdq_eq] at hg
   split at hg
   ·rename_i g' hr
    simp only [X0] at hg
    subst hg
    rw [hr, Y51] at hv
    rw [hv] at hy
    by_cases e : g' = b
    ·subst e; rw [hy.2 rfl]; simp
    ·have : yielded ops a.tmps j ≠ some b := fun e2 => by have := hy.1 e2; simp at this; exact e this
     rw [show (g' == b) = false by simpa using e]
     simpa using this
   ·rename_i hr
    simp only [X0] at hg
    subst hg
    rw [hr, Y02] at hv
    rw [hv] at hy
    have : yielded ops a.tmps j ≠ some b := fun e2 => by have := hy.1 e2; cases this
    simpa using this
   ·cases hg
  ·cases hg
def OStep (P : Program) (ops : Array Oper) (o : Oper) (env : Env) (h h' : Hp) (av : AV) : Prop :=
 ∀ (X : Ctx) (a : Act) (w : World) (ι : Nat → Bk) (Q : Exit → Act → World → Prop) (next : Act → World → Prop), Hol X h ι w →
  (∀ s, s ∈ o.looksAt ops → VR w h ι (Own X.B h ι) (rd env s) (a.tmps.getD s undef)) →
  (∀ ι' w' v, Hol X h' ι' w' → Keep w h ι (Own X.B h ι) w' h' ι' (Own X.B h' ι') → VR w' h' ι' (Own X.B h' ι') av v → next (a.put o.dst v) w') →
  if Region.wanted o (yielded ops a.tmps) then o.wp P a w next Q else next (a.put o.dst undef) w
theorem OStep.yes {o : Oper} {h' : Hp} {av : AV} (hg : gB ops env o = some true) (hs : HStep P o env h h' av) : OStep P ops o env h h' av := by
 intro X a w ι Q next H hl hn
 rw [gB_sound hg hl, if_pos rfl]
 exact hs X a w ι Q next H (operand_vr H.globOK hl) hn
theorem OStep.no {o : Oper} (hg : gB ops env o = some false) : OStep P ops o env h h undA := by
 intro X a w ι Q next H hl hn
 rw [gB_sound hg hl, if_neg (by simp)]
 exact hn ι w undef H (Keep.refl _ _ _ _) (by simp [undA, VR, VRI])
def CallOK (P : Program) (f : FuncId) (args : List AV) (h h' : Hp) (av : AV) : Prop :=
 ∀ (X : Ctx) (w : World) (ι : Nat → Bk) (vs : List Value), Hol X h ι w → VRL w h ι (Own X.B h ι) args vs →
  Calls P f vs.toArray w fun e w' => ∃ v ι', e = .returned v ∧ Hol X h' ι' w' ∧ Keep w h ι (Own X.B h ι) w' h' ι' (Own X.B h' ι') ∧ VR w' h' ι' (Own X.B h' ι') av v
theorem Y5q {o : Oper} {x : Operand} {f : FuncId} {first : List AV} {xs : List Operand} {ts : Array TypeId} {h' : Hp} {av : AV} (ho : o.op = .call ⟨.value x, xs.toArray, ts⟩) (hc : Y1r P f = true)
  (hx : (rdo env x = .im (.val (.func (.func f) #[] #[])) ∧ first = []) ∨ rdo env x = .fnv f first) (hgd : ∀ y ∈ xs, gd (rdo env y)) (hs : CallOK P f (first ++ xs.map fun y => st (rdo env y)) h h' av) : HStep P o env h h' av := by
 intro X a w ι Q next H hop hn
 have hvx := hop x (by simp [ho, Op.operands, Call.operands])
 have hvs := args_vr xs hgd (fun y hy => hop y (by simp [ho, Op.operands, Call.operands, hy]))
 obtain ⟨l, hl, hvl⟩ : ∃ l : List Value, a.eval x = .func (.func f) l.toArray #[] ∧ VRL w h ι (Own X.B h ι) first l := by
  rcases hx with ⟨hx, rfl⟩ | hx
  ·rw [hx, Y02] at hvx
   exact ⟨[], hvx, by simp [VRL]⟩
  ·rw [hx] at hvx
   simpa only [VR] using hvx
 have hr : (execOp a.eval o).run P w = .ok (.enter f (l ++ xs.map a.eval).toArray) w := by
  simp only [execOp, ho, resolve, X6, hl]
  have hof : Deferred.ofValue (.func (.func f) l.toArray #[]) (xs.toArray.map a.eval) = Pure.pure ({ target := .fn (.func f) #[], args := l.toArray ++ xs.toArray.map a.eval } : Deferred) := rfl
  simp only [hof, Xz, Xi, invoke, Array.append_empty, callFunc_run hc]
  simp
 simp only [Oper.wp, hr, Oper.upon]
 refine (hs X w ι _ H (hvl.append hvs)).mono ?_
 rintro e w' ⟨v, ι', rfl, H', K', hv⟩
 exact hn ι' w' v H' K' hv
abbrev CallE := FuncId → List AV → Hp → Nat → Option (AV × Hp × Nat)
def CallsOK (P : Program) (call : CallE) : Prop := ∀ f args h n av h' n', call f args h n = some (av, h', n') → CallOK P f args (cutH n h) (cutH n' h') av
def callV (P : Program) (call : CallE) (h : Hp) (n : Nat) (x : AV) (args : List AV) : Option (AV × Hp × Nat) := match x with
 | .im (.val (.func (.func f) ⟨[]⟩ ⟨[]⟩)) => bif Y1r P f then call f args h n else none
 | .fnv f first => bif Y1r P f then call f (first ++ args) h n else none
 | _ => none
def callC (P : Program) (call : CallE) (h : Hp) (n : Nat) (ρ : Operand → AV) : Call → Option (AV × Hp × Nat)
 | ⟨.value x, ⟨xs⟩, _⟩ => bif xs.all fun y => gdb (ρ y) then callV P call h n (ρ x) (xs.map fun y => st (ρ y)) else none
 | _ => none
def callE (P : Program) (call : CallE) (h : Hp) (n : Nat) (ρ : Operand → AV) : Op → Option (AV × Hp × Nat)
 | .call c => callC P call h n ρ c
 | _ => none
theorem callE_sound {call : CallE} (hcall : CallsOK P call) {o : Oper} {n n' : Nat} {av : AV} {h' : Hp}
  (hc : callE P call h n (rdo env) o.op = some (av, h', n')) : HStep P o env (cutH n h) (cutH n' h') av := by
 unfold callE at hc
 split at hc
 ·rename_i c ho
  unfold callC at hc
  split at hc
  ·rename_i x xs ts
   obtain ⟨hg, hc⟩ := Y34 hc
   have hgd : ∀ y ∈ xs, gd (rdo env y) := fun y hy => Y08 (Xa.1 hg y hy)
   unfold callV at hc
   split at hc
   ·rename_i f hx
    obtain ⟨hca, hc⟩ := Y34 hc
    exact Y5q (first := []) ho hca (.inl ⟨hx, rfl⟩) hgd (by rw [X0a]; exact hcall _ _ _ _ _ _ _ hc)
   ·rename_i f first hx
    obtain ⟨hca, hc⟩ := Y34 hc
    exact Y5q ho hca (.inr hx) hgd (hcall _ _ _ _ _ _ _ hc)
   ·cases hc
  ·cases hc
 ·cases hc
def constV : AV → Option Value
 | .im (.val u) => some u
 | .agg cs => (match valsA cs with
  | some us => some (.agg us.toArray)
  | none => none)
 | _ => none
theorem constV_sound {w : World} {ι : Nat → Bk} {A : Nat → Prop} {x : AV} {u v : Value} (hc : constV x = some u) (hv : VR w h ι A x v) : v = u := by
 unfold constV at hc
 split at hc
 ·simp only [X0] at hc; subst hc; exact Y02.1 hv
 ·split at hc
  ·rename_i cs us hus
   simp only [X0] at hc
   subst hc
   simp only [VR] at hv
   obtain ⟨l, rfl, h2⟩ := hv
   rw [valsA_sound _ _ hus] at h2
   rw [VRL.of_vals _ _ h2]
  ·cases hc
 ·cases hc
theorem Y5n {o : Oper} {t : TypeId} {x : Operand} {fs : Array Field} {v : Value} (ho : o.op = .makeInterface t x) (hu : P.underlying t = some (.struct fs)) (hx : constV (rdo env x) = some v) : HStep P o env h h (.im (.val (.iface t v))) := by
 intro X a w ι Q next H hop hn
 have hv := constV_sound hx (hop x (by simp [ho, Op.operands]))
 have hr : (execOp a.eval o).run P w = .ok (.value (.iface t v)) w := by
  simp only [execOp, ho, Instr.makeInterface, X6, run_underlying hu, Xi, hv, Xz]
 simp only [Oper.wp, hr, Oper.upon]
 exact hn ι w _ H (Keep.refl _ _ _ _) (by simp [VR, VRI])
def lite2 (P : Program) (ρ : Operand → AV) (op : Op) : Option AV := match op with
 | .slice t x none (some y) none => (match ρ x, ρ y with
  | .im (.val (.slice none 0 0)), .im (.val (.int .i64 j)) => bif decide (j = 0) && (Nat.beq (tk P t) 1 && (ez P t).isSome) then some (.im (.val (.slice none 0 0))) else none
  | _, _ => none)
 | .call ⟨.builtin .cap, ⟨[x]⟩, ⟨[t]⟩⟩ => (match ρ x with
  | .im (.val (.slice none 0 0)) => bif Nat.beq (tk P t) 1 then iv .i64 0 else none
  | _ => none)
 | .makeInterface t x => (match P.underlying t with
  | some (.struct _) => (match constV (ρ x) with
   | some v => some (.im (.val (.iface t v)))
   | none => none)
  | _ => none)
 | _ => none
theorem lite2_sound {o : Oper} {av : AV} (hl : lite2 P (rdo env) o.op = some av) : HStep P o env h h av := by
 unfold lite2 at hl
 split at hl
 ·rename_i t x y ho
  split at hl
  ·rename_i j hx hy
   obtain ⟨h1, h2⟩ := Y34 hl
   simp only [X3, decide_eq_true_eq] at h1
   simp only [X0] at h2
   subst h2
   have h3 : tk P t = 1 := by simpa using h1.2.1
   obtain rfl := h1.1
   exact Y2p <| Quiet.sliceNil (o := { o with guard := none }) (ops := #[]) ho h3 h1.2.2 (by show _ ∧ _; rw [hx, hy]; exact ⟨trivial, rfl, trivial, rfl⟩)
  ·cases hl
 ·rename_i x t ho
  split at hl
  ·rename_i hx
   obtain ⟨h1, h2⟩ := Y34 hl
   simp only [iv, X0] at h2
   subst h2
   have h3 : tk P t = 1 := by simpa using h1
   exact Y2p <| Quiet.capNil (o := { o with guard := none }) (ops := #[]) ho h3 (by show _ ∧ _; rw [hx]; exact ⟨trivial, rfl⟩)
  ·cases hl
 ·rename_i t x ho
  split at hl
  ·rename_i fs hu
   split at hl
   ·rename_i v hv
    simp only [X0] at hl
    subst hl
    exact Y5n ho hu hv
   ·cases hl
  ·cases hl
 ·cases hl
def heavy2 (P : Program) (n : Nat) (ρ : Operand → AV) (op : Op) : Option (AV × Rt) := match op with
 | .call ⟨.builtin .append, ⟨[x, y]⟩, ⟨[t, u]⟩⟩ => (match ρ x, ρ y, elemE P t, P.underlying u with
  | .im (.val (.slice none 0 0)), .im (.val (.int .i64 j)), some (e, k, bytes, _), some (.int .i64) => bif decide (0 < j) && (nle (j.toNat * bytes) 140737488355328 && nle j.toNat 140737488355328) then some (.rsl n 0 0 j.toNat, ⟨0, true, e, k, []⟩) else none
  | _, _, _, _ => none)
 | _ => none
theorem RStep.growNil {o : Oper} {t u e : TypeId} {k bytes : Nat} {z : List Value} {x y : Operand} {n : Int} (ho : o.op = .call ⟨.builtin .append, #[x, y], #[t, u]⟩)
  (r : Nat) (hr : h.at r = none) (E : Elem P t e k bytes z) (hu : P.underlying u = some (.int .i64)) (hx : rdo env x = .im (.val (.slice none 0 0))) (hy : rdo env y = .int .i64 n) (h0 : 0 < n) (hrm : room bytes n.toNat) :
  RStep P o env h r ⟨0, true, e, k, []⟩ (.rsl r 0 0 n.toNat) := by
 intro X a w ι Q next H hop hn
 obtain ⟨i, zu, hi, hisz, hiby, hiz, hzu⟩ := E.info
 have hxv := hop x (by simp [ho, Op.operands, Call.operands])
 have hyv := hop y (by simp [ho, Op.operands, Call.operands])
 rw [hx, Y02] at hxv
 rw [hy, Y2l] at hyv
 have hzs : zu.cells.size = k := by rw [← E.zlen, ← hzu]; simp
 have hpos := E.pos
 obtain ⟨hr1, hr2⟩ := hrm
 have hb : n * i.bytes ≤ 281474976710656 := by
  have h2 : ((n.toNat * bytes : Nat) : Int) ≤ 281474976710656 := by omega
  rw [Int.natCast_mul, Int.toNat_of_nonneg (by omega)] at h2
  rw [hiby]
  exact h2
 have hfit : Builtin.nextslicecap n.toNat 0 * i.bytes ≤ 281474976710656 := growslice_fits (by omega) (by rw [hiby]; exact hr1)
 have hrun := run_append_count (P := P) w (ty := o.type) (Y4x E.sle) hu hi hiz n h0 (by omega) hb hfit (by rw [hisz]; exact hpos)
 have hge := grownCap_ge w n.toNat 0 e
 have hcap : grownCap w n.toNat 0 e ≤ maxLen := grownCap_le_maxLen w _ _ _ (by simp only [maxLen]; omega)
 have hb0 : Below w.heap.size w w.drew := ⟨rfl, rfl, rfl, Xf _, fun _ _ => rfl⟩
 obtain ⟨H', K'⟩ := (H.below hb0).alloc r hr e k (grownCap w n.toNat 0 e) [] (Builtin.zeroCells zu.cells n.toNat ++ Builtin.zeroCells zu.cells (grownCap w n.toNat 0 e - n.toNat))
  (by rw [Array.size_append, size_zeroCells, size_zeroCells, hzs, ← X0m]; congr 1; omega) hcap (by simp [VRL]) (by simp)
 have hex : (execOp a.eval o).run P w = .ok (.value (.slice (some ⟨w.heap.size, 0, none⟩) n.toNat (grownCap w n.toNat 0 e))) (w.drew.alloc (.cells (Builtin.zeroCells zu.cells n.toNat ++ Builtin.zeroCells zu.cells (grownCap w n.toNat 0 e - n.toNat)) e)) := by
  simp only [execOp, ho, resolve, invoke, builtin, X6, Xz, Xi, X13, Xp, X0q, hxv, hyv, hrun]
 simp only [Oper.wp, hex, Oper.upon]
 refine hn _ _ _ H' ⟨K'.blk, K'.hp⟩ (VR.newrsl (rt := ⟨0, true, e, k, _⟩) ?_)
 exact ⟨_, _, rfl, hge, .inr ⟨w.heap.size, rfl, .inl ⟨rfl, by simp⟩⟩⟩
theorem heavy2_sound {o : Oper} {n : Nat} {av : AV} {rt : Rt} (hn : h.at n = none) (hh : heavy2 P n (rdo env) o.op = some (av, rt)) : HStep P o env h ((n, rt) :: h) av := by
 unfold heavy2 at hh
 split at hh
 ·rename_i x y t u ho
  split at hh
  ·rename_i j e k bytes z hx hy hE hu
   obtain ⟨h1, h2⟩ := Y34 hh
   simp only [X3, decide_eq_true_eq, nle_eq] at h1
   simp only [X0, Prod.mk.injEq] at h2
   obtain ⟨rfl, rfl⟩ := h2
   exact Y38 (RStep.growNil ho n hn (Y41 hE) hu hx hy h1.1 h1.2)
  ·cases hh
 ·cases hh
def stepL (P : Program) (A : Look) (ops : Array Oper) (env : Env) (o : Oper) : Option AV := match gB ops env o with
 | some true => (match lite P A (rdoq env) o.op with
  | some av => some av
  | none => lite2 P (rdoq env) o.op)
 | some false => some undA
 | none => none
theorem stepL_sound {n : Nat} {o : Oper} {av : AV} (hs : stepL P (atG n h) ops env o = some av) : OStep P ops o env (cutH n h) (cutH n h) av := by
 unfold stepL at hs
 split at hs
 ·rename_i hg
  rw [rdoq_eq] at hs
  split at hs
  ·rename_i av' hl; simp only [X0] at hs; subst hs; exact .yes hg (lite_sound (fun r => (cutH_at n r h).symm) hl)
  ·exact .yes hg (lite2_sound hs)
 ·rename_i hg; simp only [X0] at hs; subst hs; exact .no hg
 ·cases hs
def stepN (h : Hp) (n : Nat) (av : AV) (r : Nat) (rt : Rt) (b : Bool) : AV × Hp × Nat := bif b then (av, (r, rt) :: h, n + 1) else (av, h.put r rt, n)
def stepH (P : Program) (call : CallE) (h : Hp) (n : Nat) (ops : Array Oper) (env : Env) (o : Oper) : Option (AV × Hp × Nat) := match gB ops env o with
 | some true => match heavy P (atG n h) n (rdoq env) o.op with
  | some (av, r, rt, b) => some (stepN h n av r rt b)
  | none => match heavy2 P n (rdoq env) o.op with
   | some (av, rt) => some (av, (n, rt) :: h, n + 1)
   | none => callE P call h n (rdoq env) o.op
 | _ => none
theorem stepH_sound {call : CallE} (hcall : CallsOK P call) {o : Oper} {n n' : Nat} {av : AV} {h' : Hp}
  (hs : stepH P call h n ops env o = some (av, h', n')) : OStep P ops o env (cutH n h) (cutH n' h') av := by
 unfold stepH at hs
 split at hs
 ·rename_i hg
  rw [rdoq_eq] at hs
  split at hs
  ·rename_i av' r rt b hh
   obtain ⟨h1, h2, h3⟩ := heavy_sound (h := cutH n h) (fun r => (cutH_at n r h).symm) (atG_n n h) hh
   cases b with
   | true =>
    simp only [stepN, cond_true, X0, Prod.mk.injEq] at hs
    obtain ⟨rfl, rfl, rfl⟩ := hs
    obtain rfl := h2 rfl
    exact .yes hg (Y5o (cut_new _ _ _) h1)
   | false =>
    simp only [stepN, cond_false, X0, Prod.mk.injEq] at hs
    obtain ⟨rfl, rfl, rfl⟩ := hs
    exact .yes hg (Y5o (cut_put (h3 rfl)) h1)
  ·split at hs
   ·rename_i av' rt hh
    simp only [X0, Prod.mk.injEq] at hs
    obtain ⟨rfl, rfl, rfl⟩ := hs
    exact .yes hg (Y5o (cut_new _ _ _) (heavy2_sound (by rw [cutH_at]; exact atG_n n h) hh))
   ·exact .yes hg (callE_sound hcall hs)
 ·cases hs
abbrev DA := List (FuncId × List AV × List AV)
def DR (w : World) (h : Hp) (ι : Nat → Bk) (A : Nat → Prop) : DA → List Deferred → Prop
 | [], ds => ds = []
 | (f, xs, ys) :: da, ds => ∃ (ds' : List Deferred) (l m : List Value), ds = { target := .fn (.func f) m.toArray, args := l.toArray } :: ds' ∧ VRL w h ι A xs l ∧ VRL w h ι A ys m ∧ DR w h ι A da ds'
theorem DR.keep {w w' : World} {h h' : Hp} {ι ι' : Nat → Bk} {A A' : Nat → Prop} (K : Keep w h ι A w' h' ι' A') : ∀ (da : DA) (ds : List Deferred), DR w h ι A da ds → DR w' h' ι' A' da ds
 | [], _, hd => hd
 | (_, xs, ys) :: da, ds, hd => by
  simp only [DR] at hd ⊢
  obtain ⟨ds', l, m, rfl, h1, h2, h3⟩ := hd
  exact ⟨ds', l, m, rfl, VRL.keep K _ _ h1, VRL.keep K _ _ h2, DR.keep K da ds' h3⟩
structure SlD (da : DA) (N : Nat) (env : Env) (h : Hp) (ι : Nat → Bk) (A : Nat → Prop) (a : Act) (w : World) : Prop where
 size : a.tmps.size = N
 defers : DR w h ι A da a.defers
 at_ : ∀ i, VR w h ι A (rd env i) (a.tmps.getD i undef)
theorem SlD.keep {da : DA} {env : Env} {h h' : Hp} {ι ι' : Nat → Bk} {A A' : Nat → Prop} {a : Act} {w w' : World} (S : SlD da N env h ι A a w) (K : Keep w h ι A w' h' ι' A') : SlD da N env h' ι' A' a w' :=
 ⟨S.size, DR.keep K _ _ S.defers, fun i => VR.keep K _ _ (S.at_ i)⟩
theorem SlD.below {da : DA} {env : Env} {h : Hp} {ι : Nat → Bk} {A : Nat → Prop} {a : Act} {w w' : World} (S : SlD da N env h ι A a w) (hb : Below w.heap.size w w') : SlD da N env h ι A a w' := S.keep (Keep.below hb)
theorem put_defers (a : Act) (d : Option Nat) (v : Value) : (a.put d v).defers = a.defers := by unfold Act.put; split <;> rfl
theorem SlD.putd {da : DA} {env : Env} {h : Hp} {ι : Nat → Bk} {A : Nat → Prop} {a : Act} {w : World} (S : SlD da N env h ι A a w) {d : Option Nat} (hd : d.all (· < N) = true) {v : Value} {av : AV}
  (hv : VR w h ι A av v) : SlD da N (Abs.setd env d av) h ι A (a.put d v) w := by
 have S0 : Slots N env h ι A { a with defers := [] } w := ⟨S.size, rfl, S.at_⟩
 have S1 := S0.putd hd hv
 refine ⟨?_, by rw [put_defers]; exact S.defers, fun i => ?_⟩
 ·have := S1.size; revert this; unfold Act.put; split <;> exact id
 ·have := S1.at_ i; revert this; unfold Act.put; split <;> exact id
theorem SlD.eval {da : DA} {env : Env} {h : Hp} {ι : Nat → Bk} {A : Nat → Prop} {a : Act} {w : World} (S : SlD da N env h ι A a w) (hg : GlobOK w A) (x : Operand) : VR w h ι A (rdo env x) (a.eval x) := by
 have S0 : Slots N env h ι A { a with defers := [] } w := ⟨S.size, rfl, S.at_⟩
 have := S0.eval hg x
 cases x <;> exact this
theorem SlD.le {da : DA} {env env' : Env} {h : Hp} {ι : Nat → Bk} {A : Nat → Prop} {a : Act} {w : World} (hle : Env.le env env') (S : SlD da N env h ι A a w) : SlD da N env' h ι A a w :=
 ⟨S.size, S.defers, fun i => by
  rcases hle i with he | he
  ·rw [he]; simp [VR]
  ·rw [← he]; exact S.at_ i⟩
theorem SlD.slots {env : Env} {h : Hp} {ι : Nat → Bk} {A : Nat → Prop} {a : Act} {w : World} (S : SlD [] N env h ι A a w) : Slots N env h ι A a w := ⟨S.size, S.defers, S.at_⟩
structure MidD (da : DA) (N : Nat) (ops : Array Oper) (env : Env) (vs : List AV) (h : Hp) (ι : Nat → Bk) (A : Nat → Prop) (S : Nat → Bool) (a : Act) (w : World) : Prop where
 size : a.tmps.size = N
 defers : DR w h ι A da a.defers
 put : ∀ (i : Nat) (o : Oper) (v : AV) (s : Nat), S i = true → ops[i]? = some o → vs[i]? = some v → o.dst = some s → VR w h ι A v (a.tmps.getD s undef)
 left : ∀ s, (∀ (i : Nat) (o : Oper), S i = true → ops[i]? = some o → o.dst ≠ some s) → VR w h ι A (rd env s) (a.tmps.getD s undef)
 down : ∀ (i : Nat) (o : Oper), S i = true → ops[i]? = some o → ∀ e ∈ o.after, Region.binds .any e = true → S e.on = true
variable {da : DA}
def dstB (N : Nat) : Option Nat → Bool
 | none => true
 | some d => nlt d N
theorem dstB_sound {d : Option Nat} (hd : dstB N d = true) : d.all (· < N) = true := by
 cases d with
 | none => rfl
 | some d => simp only [dstB, nlt_eq] at hd; simpa using hd
def seqR (P : Program) (call : CallE) (N : Nat) (ops : Array Oper) : List Oper → Env → Hp → Nat → Option (Env × Hp × Nat)
 | [], env, h, n => some (env, h, n)
 | o :: l, env, h, n => bif dstB N o.dst then (match stepL P (atG n h) ops env o with
  | some av => seqR P call N ops l (setd env o.dst av) h n
  | none => match stepH P call h n ops env o with
   | some (av, h', n') => seqR P call N ops l (setd env o.dst av) h' n'
   | none => none) else none
theorem SlD.setd {X : Ctx} {w w' : World} {h' : Hp} {ι ι' : Nat → Bk} {a : Act} (S : SlD da N env h ι (Own X.B h ι) a w) (K : Keep w h ι (Own X.B h ι) w' h' ι' (Own X.B h' ι')) {d : Option Nat} (hd : d.all (· < N) = true) {v : Value} {av : AV}
  (hv : VR w' h' ι' (Own X.B h' ι') av v) : SlD da N (Abs.setd env d av) h' ι' (Own X.B h' ι') (a.put d v) w' :=
 SlD.putd (S.keep K) hd hv
theorem seqR_sound {call : CallE} (hcall : CallsOK P call) : ∀ (l : List Oper) (env : Env) (h : Hp) (n : Nat) (env' : Env) (h' : Hp) (n' : Nat), seqR P call N ops l env h n = some (env', h', n') →
  ∀ (X : Ctx) (a : Act) (w : World) (ι : Nat → Bk) (Q : Exit → Act → World → Prop), Hol X (cutH n h) ι w → SlD da N env (cutH n h) ι (Own X.B (cutH n h) ι) a w →
   (∀ ι' a' w', Hol X (cutH n' h') ι' w' → SlD da N env' (cutH n' h') ι' (Own X.B (cutH n' h') ι') a' w' → Keep w (cutH n h) ι (Own X.B (cutH n h) ι) w' (cutH n' h') ι' (Own X.B (cutH n' h') ι') → Q .normal a' w') → wpList P ops Q l a w
 | [], env, h, n, env', h', n', hs => by
  simp only [seqR, X0, Prod.mk.injEq] at hs
  obtain ⟨rfl, rfl, rfl⟩ := hs
  intro X a w ι Q H S hQ
  exact hQ ι a w H S (Keep.refl _ _ _ _)
 | o :: l, env, h, n, env', h', n', hs => by
  simp only [seqR] at hs
  intro X a w ι Q H S hQ
  obtain ⟨hd0, hs⟩ := Y34 hs
  have hd := dstB_sound hd0
  have main : ∀ (av : AV) (h1 : Hp) (n1 : Nat), OStep P ops o env (cutH n h) (cutH n1 h1) av → seqR P call N ops l (Abs.setd env o.dst av) h1 n1 = some (env', h', n') → wpList P ops Q (o :: l) a w := by
   intro av h1 n1 ho hr
   exact wpList_step fun K' hK' => ho X a w ι Q K' H (fun s _ => S.at_ s) fun ι' w' v H' K1 hv => hK' _ _ <| seqR_sound hcall l _ h1 n1 env' h' n' hr X _ w' ι' Q H' (S.setd K1 hd hv) fun ι'' a'' w'' H'' S'' K'' => hQ ι'' a'' w'' H'' S'' (K1.trans K'')
  split at hs
  ·rename_i av hst
   exact main av h n (stepL_sound hst) hs
  ·split at hs
   ·rename_i av h1 n1 hst
    exact main av h1 n1 (stepH_sound hcall hst) hs
   ·cases hs
def Down (ops : Array Oper) (S : Nat → Bool) : Prop := ∀ (i : Nat) (o : Oper), S i = true → ops[i]? = some o → ∀ e ∈ o.after, Region.binds .any e = true → S e.on = true
def Anc (ops : Array Oper) (j i : Nat) : Prop := ∀ S : Nat → Bool, Down ops S → S i = true → S j = true
theorem draw_sound {id : Nat} (hm : P.follows .mixedOrders = true) (hk : drawOk N ops = true) (vs : List AV) (hlen : vs.length = ops.size) (m : Nat) (cs : Nat → Nat) (hs : Nat → Hp)
  (inc : ∀ j k, j < k → k < m → cs j ≠ cs k) (ord : ∀ j k, j < k → k < m → Anc ops (cs j) (cs k))
  (heavyOK : ∀ k, k < m → ∃ o v, ops[cs k]? = some o ∧ vs[cs k]? = some v ∧ OStep P ops o (Y3j env (ops.toList.take (cs k)) (vs.take (cs k))) (hs k) (hs (k + 1)) v)
  (liteOK : ∀ (i : Nat) (o : Oper) (v : AV), ops[i]? = some o → vs[i]? = some v → (∀ k, k < m → cs k ≠ i) → ∀ p, p ≤ m →
   (∃ k, k < p ∧ Anc ops i (cs k)) ∨ (∃ k, p ≤ k ∧ k < m ∧ Anc ops (cs k) i) ∨ OStep P ops o (Y3j env (ops.toList.take i) (vs.take i)) (hs p) (hs p) v)
  {X : Ctx} {a : Act} {w : World} {ι : Nat → Bk} (H : Hol X (hs 0) ι w) (S : SlD da N env (hs 0) ι (Own X.B (hs 0) ι) a w) :
  (Code.region id ops true).wp P (fun e a' w' => e = .normal ∧ ∃ ι', Hol X (hs m) ι' w' ∧ SlD da N (Y3j env ops.toList vs) (hs m) ι' (Own X.B (hs m) ι') a' w' ∧ Keep w (hs 0) ι (Own X.B (hs 0) ι) w' (hs m) ι' (Own X.B (hs m) ι')) a w := by
 have D := drawOk.spec hk
 refine wp_region_any hm ?_
 have hdrew : Below w.heap.size w { w with drawn := w.drawn + 1 } := ⟨rfl, rfl, rfl, Xf _, fun _ _ => rfl⟩
 have H' := H.below hdrew
 have S' := S.below hdrew
 have K' : Keep w (hs 0) ι (Own X.B (hs 0) ι) { w with drawn := w.drawn + 1 } (hs 0) ι (Own X.B (hs 0) ι) := Keep.below hdrew
 generalize hQd : (fun (e : Exit) (a' : Act) (w' : World) => e = .normal ∧ ∃ ι', Hol X (hs m) ι' w' ∧ SlD da N (Y3j env ops.toList vs) (hs m) ι' (Own X.B (hs m) ι') a' w' ∧ Keep w (hs 0) ι (Own X.B (hs 0) ι) w' (hs m) ι' (Own X.B (hs m) ι')) = Q
 generalize ({ w with drawn := w.drawn + 1 } : World) = w1 at H' S' K'
 have main : ∀ (fuel : Nat) (listed : Array Bool) (a : Act) (w2 : World) (p : Nat) (ι2 : Nat → Bk), listed.size = ops.size → ((List.range ops.size).filter fun j => !listed.getD j true).length ≤ fuel → p ≤ m →
   (∀ k, k < p → listed.getD (cs k) false = true) → (∀ k, p ≤ k → k < m → listed.getD (cs k) false = false) → Hol X (hs p) ι2 w2 → Keep w (hs 0) ι (Own X.B (hs 0) ι) w2 (hs p) ι2 (Own X.B (hs p) ι2) →
   MidD da N ops env vs (hs p) ι2 (Own X.B (hs p) ι2) (fun i => listed.getD i false) a w2 → wpAny P .any ops Q fuel listed a w2 := by
  have fin : ∀ (listed : Array Bool) (a : Act) (w2 : World) (p : Nat) (ι2 : Nat → Bk), listed.size = ops.size → Region.ready .any ops listed = [] → p ≤ m → (∀ k, p ≤ k → k < m → listed.getD (cs k) false = false) → Hol X (hs p) ι2 w2 →
    Keep w (hs 0) ι (Own X.B (hs 0) ι) w2 (hs p) ι2 (Own X.B (hs p) ι2) → MidD da N ops env vs (hs p) ι2 (Own X.B (hs p) ι2) (fun i => listed.getD i false) a w2 → Q .normal a w2 := by
   intro listed a w2 p ι2 hsz hr hpm hun H K M
   have all : ∀ i, i < ops.size → listed.getD i false = true := by
    intro i
    induction i using Nat.strongRecOn with
    | _ i ih =>
     intro hi
     cases hl : listed.getD i false with
     | true => rfl
     | false =>
      exfalso
      have hmem : i ∈ Region.ready .any ops listed := by
       unfold Region.ready
       refine X0n.2 ⟨Xo.2 hi, ?_⟩
       have ho : ops[i]? = some ops[i] := Xe hi
       have hl' : listed.getD i true = false := by
        have hi' : i < listed.size := by omega
        simp only [X5, Xe hi', Xy] at hl ⊢
        exact hl
       simp only [hl', X1b, Bool.true_and, ho, Xx, Xy]
       refine Xr.2 fun e he => ?_
       cases hb : Region.binds .any e with
       | false => simp
       | true =>
        have := D.back i _ ho e he hb
        simp [ih e.on this (by omega)]
      rw [hr] at hmem
      cases hmem
   have hpe : p = m := by
    by_cases h1 : p = m
    ·exact h1
    ·exfalso
     obtain ⟨o, v, ho, _⟩ := heavyOK p (by omega)
     have h2 := hun p (Xf _) (by omega)
     have hi : cs p < ops.size := (Xu.1 ho).1
     rw [all _ hi] at h2
     cases h2
   subst hpe
   rw [← hQd]
   refine ⟨rfl, ι2, H, ⟨M.size, M.defers, fun s => ?_⟩, K⟩
   by_cases hex : ∃ (i : Nat) (o : Oper), ops[i]? = some o ∧ o.dst = some s
   ·obtain ⟨i, o, ho, hd⟩ := hex
    have hi : i < ops.size := (Xu.1 ho).1
    have hv : vs[i]? = some (vs[i]'(by omega)) := X2 (by omega)
    rw [envAt_some ops.toList vs env i o _ (by simpa using ho) hv hd (fun j p hp e => (D.one i j o p s ho (by simpa using hp) hd e).symm)]
    exact M.put i o _ s (all i hi) ho hv hd
   ·rw [Y3p ops.toList vs env (fun i o ho e => hex ⟨i, o, by simpa using ho, e⟩)]
    exact M.left s (fun i o _ ho e => hex ⟨i, o, ho, e⟩)
  intro fuel
  induction fuel with
  | zero =>
   intro listed a w2 p ι2 hsz hc hpm hli hun H K M
   have hr : Region.ready .any ops listed = [] := by
    have h0 : ((List.range ops.size).filter fun j => !listed.getD j true) = [] := Xn (by omega)
    unfold Region.ready
    rw [List.filter_eq_nil_iff] at h0 ⊢
    intro i hi
    have := h0 i hi
    simp only [X1g, Bool.not_eq_false'] at this
    simp [this]
   exact ⟨hr, fin listed a w2 p ι2 hsz hr hpm hun H K M⟩
  | succ fuel ih =>
   intro listed a w2 p ι2 hsz hc hpm hli hun H K M
   refine ⟨fun hr => fin listed a w2 p ι2 hsz hr hpm hun H K M, fun i hi => ?_⟩
   unfold Region.ready at hi
   obtain ⟨hir, hi2⟩ := X0n.1 hi
   have hi' : i < ops.size := Xo.1 hir
   have ho : ops[i]? = some ops[i] := Xe hi'
   simp only [ho, Xx, Xy, X3, X0s] at hi2
   obtain ⟨hul, hpred⟩ := hi2
   have hpred' : ∀ e ∈ (ops[i]).after, Region.binds .any e = true → listed.getD e.on false = true := fun e he hb => by
    have := Xr.1 hpred e he
    simpa [hb] using this
   have hulf : listed.getD i false = false := by
    have hi'' : i < listed.size := by omega
    simp only [X5, Xe hi'', Xy] at hul ⊢
    exact hul
   have hv : vs[i]? = some (vs[i]'(by omega)) := X2 (by omega)
   have hdown : Down ops (fun i => listed.getD i false) := M.down
   -- what an ancestor of `i` is
   have hanc : ∀ j, Anc ops j i → j ≠ i → listed.getD j false = true := by
    intro j hj hne
    have := hj (fun k => (listed.setIfInBounds i true).getD k false) (by
     intro k o hk hok e he hb
     have hset : ∀ k, (listed.setIfInBounds i true).getD k false = if k = i then true else listed.getD k false := by
      intro k
      simp only [X5]
      by_cases hki : k = i
      ·subst hki; rw [Xg (by omega)]; simp
      ·rw [Xl (fun e => hki e.symm)]; simp [hki]
     simp only [hset] at hk ⊢
     by_cases hki : k = i
     ·subst hki
      rw [ho] at hok; cases hok
      have := hpred' e he hb
      split
      ·rfl
      ·exact this
     ·rw [if_neg hki] at hk
      have := M.down k o hk hok e he hb
      split
      ·rfl
      ·exact this) (by
     simp only [X5]
     rw [Xg (by omega)]; rfl)
    simp only [X5] at this ⊢
    rwa [Xl (fun e => hne e.symm)] at this
   simp only [wpOp, ho]
   -- the slots that it looks at hold what they hold in the order of the text
   have hlook : ∀ s, s ∈ (ops[i]).looksAt ops → VR w2 (hs p) ι2 (Own X.B (hs p) ι2) (rd (Y3j env (ops.toList.take i) (vs.take i)) s) (a.tmps.getD s undef) := by
    intro s hss
    by_cases hex : ∃ (j : Nat) (q : Oper), ops[j]? = some q ∧ q.dst = some s
    ·obtain ⟨j, q, hq, hd⟩ := hex
     have hj : j < ops.size := (Xu.1 hq).1
     have hij : i ≠ j := by
      rintro rfl
      rw [ho] at hq
      cases hq
      exact D.self i _ s ho hd hss
     rcases D.look i j _ q s ho hq hij hd hss with ⟨hlt, e, he, hb, hon⟩ | ⟨hlt, e, he, hb, hon⟩
     ·have hS : listed.getD j false = true := hon ▸ hpred' e he hb
      have hvj : vs[j]? = some (vs[j]'(by omega)) := X2 (by omega)
      rw [envAt_some (ops.toList.take i) (vs.take i) env j q (vs[j]'(by omega)) (by rw [Xk, if_pos hlt]; simpa using hq) (by rw [Xk, if_pos hlt]; exact hvj) hd
       (fun k q' hq' e => by
        rw [Xk] at hq'
        split at hq'
        ·exact (D.one j k q q' s hq (by simpa using hq') hd e).symm
        ·cases hq')]
      exact M.put j q _ s hS hq hvj hd
     ·rw [Y3p (ops.toList.take i) (vs.take i) env (fun k q' hq' e => by
       rw [Xk] at hq'
       split at hq'
       ·have := D.one j k q q' s hq (by simpa using hq') hd e
        omega
       ·cases hq')]
      refine M.left s (fun k q' hk hq' e => ?_)
      have hjk := D.one j k q q' s hq hq' hd e
      subst hjk
      rw [hq] at hq'
      cases hq'
      have := M.down j q hk hq _ he hb
      rw [hon] at this
      simp [hulf] at this
    ·rw [Y3p (ops.toList.take i) (vs.take i) env (fun k q hq e => by
      rw [Xk] at hq
      split at hq
      ·exact hex ⟨k, q, by simpa using hq, e⟩
      ·cases hq)]
     exact M.left s (fun k q _ hq e => hex ⟨k, q, hq, e⟩)
   -- how it goes on
   have cont : ∀ (p' : Nat), p' ≤ m → (∀ k, k < p' → (k < p ∨ cs k = i)) → (∀ k, p' ≤ k → k < m → (p ≤ k ∧ cs k ≠ i)) →
     OStep P ops (ops[i]) (Y3j env (ops.toList.take i) (vs.take i)) (hs p) (hs p') (vs[i]'(by omega)) →
     (if Region.wanted (ops[i]) (yielded ops a.tmps) then (ops[i]).wp P a w2 (wpAny P .any ops Q fuel (listed.setIfInBounds i true)) Q ∨ ((ops[i]).asks P a w2 ∧ LetsOut Q) else wpAny P .any ops Q fuel (listed.setIfInBounds i true) (a.put (ops[i]).dst undef) w2) := by
    intro p' hp' hbel habv hstep
    have step := hstep X a w2 ι2 Q (wpAny P .any ops Q fuel (listed.setIfInBounds i true)) H hlook ?_
    ·split
     ·rename_i hw; rw [if_pos hw] at step; exact .inl step
     ·rename_i hw; rw [if_neg hw] at step; exact step
    ·intro ι3 w3 v H3 K3 hvv
     have hset : ∀ k, (listed.setIfInBounds i true).getD k false = if k = i then true else listed.getD k false := by
      intro k
      simp only [X5]
      by_cases hki : k = i
      ·subst hki; rw [Xg (by omega)]; simp
      ·rw [Xl (fun e => hki e.symm)]; simp [hki]
     refine ih _ _ _ p' ι3 (by simpa using hsz) ?_ hp' (fun k hk => ?_) (fun k hk1 hk2 => ?_) H3 (K.trans K3) ?_
     ·have := unlisted_lt hi' hsz hul
      omega
     ·rw [hset]
      rcases hbel k hk with h1 | h1
      ·split
       ·rfl
       ·exact hli k h1
      ·rw [if_pos h1]
     ·rw [hset, if_neg (habv k hk1 hk2).2]
      exact hun k (habv k hk1 hk2).1 hk2
     ·have hother : ∀ s, (ops[i]).dst ≠ some s → (a.put (ops[i]).dst v).tmps.getD s undef = a.tmps.getD s undef := by
       intro s hs
       cases hd : (ops[i]).dst with
       | none => rfl
       | some d =>
        have : d ≠ s := fun e => hs (by rw [hd, e])
        simp only [Act.put, X5, Xl this]
      have hself : ∀ s, (ops[i]).dst = some s → (a.put (ops[i]).dst v).tmps.getD s undef = v := by
       intro s hs
       have hsN : s < N := by have := D.dst i _ ho; rw [hs] at this; simpa using this
       rw [hs]
       simp only [Act.put, X5]
       rw [Xg (by rw [M.size]; exact hsN)]
       rfl
      refine ⟨?_, ?_, ?_, ?_, ?_⟩
      ·rw [← M.size]; unfold Act.put; split <;> simp
      ·rw [put_defers]; exact DR.keep K3 _ _ M.defers
      ·intro k o u s hk hok huk hd
       simp only [hset] at hk
       by_cases hki : k = i
       ·subst hki
        rw [ho] at hok; cases hok
        rw [hv] at huk; cases huk
        rw [hself s hd]
        exact hvv
       ·rw [if_neg hki] at hk
        rw [hother s (fun e => hki (D.one k i o _ s hok ho hd e))]
        exact VR.keep K3 _ _ (M.put k o u s hk hok huk hd)
      ·intro s hs
       have hne : (ops[i]).dst ≠ some s := hs i _ (by simp [hset]) ho
       rw [hother s hne]
       refine VR.keep K3 _ _ (M.left s fun k o hk hok => hs k o ?_ hok)
       simp only [hset]
       split
       ·rfl
       ·exact hk
      ·intro k o hk hok e he hb'
       simp only [hset] at hk ⊢
       by_cases hki : k = i
       ·subst hki
        rw [ho] at hok; cases hok
        have := hpred' e he hb'
        split
        ·rfl
        ·exact this
       ·rw [if_neg hki] at hk
        have := M.down k o hk hok e he hb'
        split
        ·rfl
        ·exact this
   by_cases hcs : ∃ k, k < m ∧ cs k = i
   ·obtain ⟨k, hkm, hki⟩ := hcs
    have h1 : p ≤ k := by
     by_cases h : p ≤ k
     ·exact h
     ·have := hli k (by omega)
      rw [hki, hulf] at this
      cases this
    have h2 : k ≤ p := by
     by_cases h : k ≤ p
     ·exact h
     ·exfalso
      have := hanc (cs p) (by have := ord p k (by omega) hkm; rwa [hki] at this) (by rw [← hki]; exact inc p k (by omega) hkm)
      rw [hun p (Xf _) (by omega)] at this
      cases this
    have hpk : p = k := by omega
    subst hpk
    obtain ⟨o, v, ho2, hv2, hst⟩ := heavyOK p hkm
    rw [hki, ho] at ho2
    cases ho2
    rw [hki, hv] at hv2
    cases hv2
    rw [hki] at hst
    refine cont (p + 1) (by omega) (fun k hk => ?_) (fun k hk1 hk2 => ⟨by omega, ?_⟩) hst
    ·by_cases h : k < p
     ·exact .inl h
     ·have : k = p := by omega
      subst this
      exact .inr hki
    ·rw [← hki]
     exact (inc p k (by omega) hk2).symm
   ·have hcs' : ∀ k, k < m → cs k ≠ i := fun k hk e => hcs ⟨k, hk, e⟩
    rcases liteOK i _ _ ho hv hcs' p hpm with ⟨k, hk, ha⟩ | ⟨k, hk1, hk2, ha⟩ | hst
    ·exfalso
     have := ha _ hdown (hli k hk)
     simp only [hulf] at this
     cases this
    ·exfalso
     have := hanc (cs k) ha (hcs' k hk2)
     rw [hun k hk1 hk2] at this
     cases this
    ·exact cont p hpm (fun k hk => .inl hk) (fun k hk1 hk2 => ⟨hk1, hcs' k hk2⟩) hst
 refine main ops.size _ a w1 0 ι (by simp) ?_ (Nat.zero_le _) (fun k hk => by omega) (fun k _ _ => ?_) H' K' ⟨S'.size, S'.defers, ?_, ?_, ?_⟩
 ·exact X0g (List.length_filter_le _ _) (by simp)
 ·simp only [X5, X0x]; split <;> rfl
 ·intro i o v s hS
  exfalso
  have : (Array.replicate ops.size false).getD i false = false := by
   simp only [X5, X0x]; split <;> rfl
  simp only [this] at hS
  cases hS
 ·exact fun s _ => S'.at_ s
 ·intro i o hS
  exfalso
  have : (Array.replicate ops.size false).getD i false = false := by
   simp only [X5, X0x]; split <;> rfl
  simp only [this] at hS
  cases hS
end
section
variable {P : Program} {N : Nat} {ops : Array Oper} {env : Env} {h : Hp} {da : DA}
def veq : Value → Value → Bool
 | .int k a, .int k' b => decide (k = k') && decide (a = b)
 | .bool a, .bool b => decide (a = b)
 | .string a, .string b => decide (a = b)
 | .slice none a b, .slice none c d => decide (a = c) && decide (b = d)
 | .pointer none, .pointer none => true
 | .tuple ⟨[]⟩, .tuple ⟨[]⟩ => true
 | .func (.func f) ⟨[]⟩ ⟨[]⟩, .func (.func g) ⟨[]⟩ ⟨[]⟩ => decide (f = g)
 | .nilFunc, .nilFunc => true
 | .nilIface, .nilIface => true
 | _, _ => false
theorem veq_sound {a b : Value} (hv : veq a b = true) : a = b := by
 unfold veq at hv
 split at hv <;> simp_all
def veqL : List Value → List Value → Bool
 | [], [] => true
 | a :: l, b :: m => veq a b && veqL l m
 | _, _ => false
theorem veqL_sound : ∀ (a b : List Value), veqL a b = true → a = b
 | [], [], _ => rfl
 | a :: l, b :: m, hv => by
  simp only [veqL, X3] at hv
  rw [veq_sound hv.1, veqL_sound l m hv.2]
 | [], _ :: _, hv => by simp [veqL] at hv
 | _ :: _, [], hv => by simp [veqL] at hv
def veqA : Value → Value → Bool
 | .agg ⟨a⟩, .agg ⟨b⟩ => veqL a b
 | a, b => veq a b
theorem veqA_sound {a b : Value} (hv : veqA a b = true) : a = b := by
 unfold veqA at hv
 split at hv
 ·rw [veqL_sound _ _ hv]
 ·exact veq_sound hv
def mpeq : List (Value × Value) → List (Value × Value) → Bool
 | [], [] => true
 | (a, c) :: l, (b, d) :: m => veqA a b && (veqA c d && mpeq l m)
 | _, _ => false
theorem mpeq_sound : ∀ (a b : List (Value × Value)), mpeq a b = true → a = b
 | [], [], _ => rfl
 | (a, c) :: l, (b, d) :: m, hv => by
  simp only [mpeq, X3] at hv
  rw [veqA_sound hv.1, veqA_sound hv.2.1, mpeq_sound l m hv.2.2]
 | [], _ :: _, hv => by simp [mpeq] at hv
 | _ :: _, [], hv => by simp [mpeq] at hv
mutual
def ieq : IV → IV → Bool
 | .val a, .val b => veq a b
 | .sl cs n, .sl ds m => decide (n = m) && ieqL cs ds
 | .mp a, .mp b => mpeq a b
 | _, _ => false
def ieqL : List IV → List IV → Bool
 | [], [] => true
 | c :: cs, d :: ds => ieq c d && ieqL cs ds
 | _, _ => false
end
mutual
theorem ieq_sound : ∀ (a b : IV), ieq a b = true → a = b
 | .val a, .val b, hv => by simp only [ieq] at hv; rw [veq_sound hv]
 | .sl cs n, .sl ds m, hv => by
  simp only [ieq, X3, decide_eq_true_eq] at hv
  rw [hv.1, ieqL_sound cs ds hv.2]
 | .val _, .sl _ _, hv => by simp [ieq] at hv
 | .val _, .mp _, hv => by simp [ieq] at hv
 | .sl _ _, .val _, hv => by simp [ieq] at hv
 | .sl _ _, .mp _, hv => by simp [ieq] at hv
 | .mp _, .val _, hv => by simp [ieq] at hv
 | .mp _, .sl _ _, hv => by simp [ieq] at hv
 | .mp a, .mp b, hv => by simp only [ieq] at hv; rw [mpeq_sound _ _ hv]
theorem ieqL_sound : ∀ (a b : List IV), ieqL a b = true → a = b
 | [], [], _ => rfl
 | c :: cs, d :: ds, hv => by
  simp only [ieqL, X3] at hv
  rw [ieq_sound c d hv.1, ieqL_sound cs ds hv.2]
 | [], _ :: _, hv => by simp [ieqL] at hv
 | _ :: _, [], hv => by simp [ieqL] at hv
end
mutual
def aveq : AV → AV → Bool
 | .any, .any => true
 | .im a, .im b => ieq a b
 | .agg a, .agg b => aveqL a b
 | .tup a, .tup b => aveqL a b
 | .ipt cs off, .ipt ds off' => decide (off = off') && ieqL cs ds
 | .ref r v o, .ref r' v' o' => decide (r = r') && (decide (v = v') && decide (o = o'))
 | .rsl r v o n, .rsl r' v' o' n' => decide (r = r') && (decide (v = v') && (decide (o = o') && decide (n = n')))
 | .fnv f a, .fnv g b => decide (f = g) && aveqL a b
 | _, _ => false
def aveqL : List AV → List AV → Bool
 | [], [] => true
 | c :: cs, d :: ds => aveq c d && aveqL cs ds
 | _, _ => false
end
mutual
theorem aveq_sound (a b : AV) (hv : aveq a b = true) : a = b := by
 cases a with
 | any => cases b <;> simp [aveq] at hv ⊢
 | im x => cases b <;> simp [aveq] at hv ⊢; exact ieq_sound _ _ hv
 | agg x => cases b <;> simp [aveq] at hv ⊢; exact aveqL_sound _ _ hv
 | tup x => cases b <;> simp [aveq] at hv ⊢; exact aveqL_sound _ _ hv
 | ipt cs off => cases b <;> simp [aveq] at hv ⊢; exact ⟨ieqL_sound _ _ hv.2, hv.1⟩
 | ref r v o => cases b <;> simp [aveq] at hv ⊢; exact hv
 | rsl r v o n => cases b <;> simp [aveq] at hv ⊢; exact hv
 | cnd g x => cases b <;> simp [aveq] at hv
 | fnv f x => cases b <;> simp [aveq] at hv ⊢; exact ⟨hv.1, aveqL_sound _ _ hv.2⟩
theorem aveqL_sound (a b : List AV) (hv : aveqL a b = true) : a = b := by
 cases a with
 | nil => cases b <;> simp [aveqL] at hv ⊢
 | cons c cs =>
  cases b with
  | nil => simp [aveqL] at hv
  | cons d ds =>
   simp only [aveqL, X3] at hv
   rw [aveq_sound c d hv.1, aveqL_sound cs ds hv.2]
end
def ancM (ms : List Nat) : List Edge → Nat
 | [] => 0
 | e :: l => if Region.binds .any e = true then ancM ms l ||| (2 ^ e.on ||| ms.getD e.on 0) else ancM ms l
def ancs : List Oper → List Nat → List Nat
 | [], ms => ms
 | o :: l, ms => ancs l (ms ++ [ancM ms o.after.toList])
theorem ancM_bit {ms : List Nat} {j : Nat} : ∀ {l : List Edge}, (ancM ms l).testBit j = true → ∃ e ∈ l, Region.binds .any e = true ∧ (j = e.on ∨ (ms.getD e.on 0).testBit j = true)
 | [], hb => by simp [ancM] at hb
 | e :: l, hb => by
  simp only [ancM] at hb
  split at hb
  ·rename_i he
   simp only [Nat.testBit_or, X0b] at hb
   rcases hb with hb | hb | hb
   ·obtain ⟨e', h1, h2⟩ := ancM_bit hb
    exact ⟨e', List.mem_cons_of_mem _ h1, h2⟩
   ·rw [Nat.testBit_two_pow] at hb
    exact ⟨e, List.mem_cons_self, he, .inl (by simpa using hb.symm : e.on = j).symm⟩
   ·exact ⟨e, List.mem_cons_self, he, .inr hb⟩
  ·obtain ⟨e', h1, h2⟩ := ancM_bit hb
   exact ⟨e', List.mem_cons_of_mem _ h1, h2⟩
theorem ancs_bit : ∀ (l pre : List Oper) (ms : List Nat), ops.toList = pre ++ l → ms.length = pre.length → (∀ i j, (ms.getD i 0).testBit j = true → Anc ops j i) → ∀ i j, ((ancs l ms).getD i 0).testBit j = true → Anc ops j i
 | [], pre, ms, _, _, hm => hm
 | o :: l, pre, ms, he, hl, hm => by
  unfold ancs
  refine ancs_bit l (pre ++ [o]) _ (by simpa using he) (by simp [hl]) fun i j hb => ?_
  by_cases hi : i < ms.length
  ·rw [X8, X0f hi, ← X8] at hb
   exact hm i j hb
  ·by_cases hi2 : i = ms.length
   ·subst hi2
    rw [X8, X04 (Xf _)] at hb
    simp only [Nat.sub_self, X0z, Xy] at hb
    obtain ⟨e, h1, h2, h3⟩ := ancM_bit hb
    have ho : ops[ms.length]? = some o := by
     rw [← X14, he, hl, X04 (Xf _)]
     simp
    intro S hd hS
    have h4 := hd _ o hS ho e (by simpa using h1) h2
    rcases h3 with rfl | h3
    ·exact h4
    ·exact hm _ _ h3 S hd h4
   ·rw [X8, List.getElem?_eq_none (by simp; omega)] at hb
    simp at hb
def drawE (P : Program) (call : CallE) (ops : Array Oper) : List Oper → Nat → Nat → Env → Hp → Nat → Option (List (AV × Env × Nat) × List (Nat × Hp × Nat) × Env × Hp × Nat)
 | [], _, _, env, h, n => some ([], [], env, h, n)
 | o :: l, i, p, env, h, n => match stepL P (atG n h) ops env o with
  | some av => (match drawE P call ops l (i + 1) p (setd env o.dst av) h n with
   | some (vs, hs, r) => some ((av, env, p) :: vs, hs, r)
   | none => none)
  | none => match stepH P call h n ops env o with
   | some (av, h', n') => (match drawE P call ops l (i + 1) (p + 1) (setd env o.dst av) h' n' with
    | some (vs, hs, r) => some ((av, env, p) :: vs, (i, h', n') :: hs, r)
    | none => none)
   | none => none
theorem OStep.congr {o : Oper} {env env' : Env} {h h' : Hp} {av : AV} (he : ∀ s, rd env s = rd env' s) (hs : OStep P ops o env h h' av) : OStep P ops o env' h h' av :=
 fun X a w ι Q next H hl hn => hs X a w ι Q next H (fun s h1 => by rw [he]; exact hl s h1) hn
structure DrawE (P : Program) (ops : Array Oper) (l : List Oper) (i p : Nat) (env : Env) (h : Hp) (vs : List (AV × Env × Nat)) (hs : List (Nat × Hp)) (envF : Env) (hF : Hp) : Prop where
 len : vs.length = l.length
 envs : ∀ (j : Nat) (o : Oper) (v : AV) (e : Env) (q : Nat), l[j]? = some o → vs[j]? = some (v, e, q) → ∀ s, rd e s = rd (Y3j env (l.take j) ((vs.map (·.1)).take j)) s
 fin : ∀ s, rd envF s = rd (Y3j env l (vs.map (·.1))) s
 last : (h :: hs.map (·.2)).getD hs.length [] = hF
 heavy : ∀ (k : Nat) (c : Nat) (h' : Hp), hs[k]? = some (c, h') → i ≤ c ∧ ∃ o v e q, l[c - i]? = some o ∧ vs[c - i]? = some (v, e, q) ∧ OStep P ops o e ((h :: hs.map (·.2)).getD k []) h' v
 lite : ∀ (j : Nat) (o : Oper) (v : AV) (e : Env) (q : Nat), l[j]? = some o → vs[j]? = some (v, e, q) → (∀ (k : Nat) (c : Nat) (h' : Hp), hs[k]? = some (c, h') → c ≠ i + j) →
  p ≤ q ∧ q - p ≤ hs.length ∧ OStep P ops o e ((h :: hs.map (·.2)).getD (q - p) []) ((h :: hs.map (·.2)).getD (q - p) []) v
def cuts (hs : List (Nat × Hp × Nat)) : List (Nat × Hp) := hs.map fun x => (x.1, cutH x.2.2 x.2.1)
theorem drawE_sound {call : CallE} (hcall : CallsOK P call) : ∀ (l : List Oper) (i p : Nat) (env : Env) (h : Hp) (n : Nat) (vs : List (AV × Env × Nat)) (hs : List (Nat × Hp × Nat)) (envF : Env) (hF : Hp) (n' : Nat),
  drawE P call ops l i p env h n = some (vs, hs, envF, hF, n') → DrawE P ops l i p env (cutH n h) vs (cuts hs) envF (cutH n' hF)
 | [], i, p, env, h, n, vs, hs, envF, hF, n', hd => by
  simp only [drawE, X0, Prod.mk.injEq] at hd
  obtain ⟨rfl, rfl, rfl, rfl, rfl⟩ := hd
  exact ⟨rfl, fun j o v e q ho => by simp at ho, fun s => rfl, rfl, fun k c h' hk => by simp [cuts] at hk, fun j o v e q ho => by simp at ho⟩
 | o :: l, i, p, env, h, n, vs, hs, envF, hF, n', hd => by
  simp only [drawE] at hd
  split at hd
  ·rename_i av hst
   split at hd
   ·rename_i vs' hs' r hr
    simp only [X0, Prod.mk.injEq] at hd
    obtain ⟨rfl, rfl, rfl⟩ := hd
    have D := drawE_sound hcall l (i + 1) p _ h n vs' hs' envF hF n' hr
    have hO := stepL_sound hst
    refine ⟨by simp [D.len], fun j o' v e q ho hv s => ?_, fun s => ?_, D.last, fun k c h' hk => ?_, fun j o' v e q ho hv hne => ?_⟩
    ·cases j with
     | zero => simp at hv; obtain ⟨_, rfl, _⟩ := hv; simp [Y3j]
     | succ j =>
      simp at ho hv
      rw [D.envs j o' v e q ho hv s]
      simp only [X07, Xp, Y3j]
    ·rw [D.fin s]
     simp only [Xp, Y3j]
    ·obtain ⟨h1, o', v, e, q, h2, h3, h4⟩ := D.heavy k c h' hk
     refine ⟨by omega, o', v, e, q, ?_, ?_, h4⟩
     ·rw [show c - i = (c - (i + 1)) + 1 by omega]; simpa using h2
     ·rw [show c - i = (c - (i + 1)) + 1 by omega]; simpa using h3
    ·cases j with
     | zero =>
      simp at ho hv
      subst ho
      obtain ⟨rfl, rfl, rfl⟩ := hv
      refine ⟨Xf _, by omega, ?_⟩
      simp only [Nat.sub_self, X16]
      exact hO
     | succ j =>
      simp at ho hv
      exact D.lite j o' v e q ho hv fun k c h' hk => by have := hne k c h' hk; omega
   ·cases hd
  ·split at hd
   ·rename_i av h1 n1 hst
    split at hd
    ·rename_i vs' hs' r hr
     simp only [X0, Prod.mk.injEq] at hd
     obtain ⟨rfl, rfl, rfl⟩ := hd
     have D := drawE_sound hcall l (i + 1) (p + 1) _ h1 n1 vs' hs' envF hF n' hr
     have hO := stepH_sound hcall hst
     refine ⟨by simp [D.len], fun j o' v e q ho hv s => ?_, fun s => ?_, ?_, fun k c h' hk => ?_, fun j o' v e q ho hv hne => ?_⟩
     ·cases j with
      | zero => simp at hv; obtain ⟨_, rfl, _⟩ := hv; simp [Y3j]
      | succ j =>
       simp at ho hv
       rw [D.envs j o' v e q ho hv s]
       simp only [X07, Xp, Y3j]
     ·rw [D.fin s]
      simp only [Xp, Y3j]
     ·rw [← D.last]; simp [cuts]
     ·cases k with
      | zero =>
       simp [cuts] at hk
       obtain ⟨rfl, rfl⟩ := hk
       refine ⟨Xf _, o, av, env, p, by simp, by simp, ?_⟩
       simp only [X16]
       exact hO
      | succ k =>
       simp only [cuts, Xp, X10] at hk
       obtain ⟨h2, o', v, e, q, h3, h4, h5⟩ := D.heavy k c h' hk
       refine ⟨by omega, o', v, e, q, ?_, ?_, ?_⟩
       ·rw [show c - i = (c - (i + 1)) + 1 by omega]; simpa using h3
       ·rw [show c - i = (c - (i + 1)) + 1 by omega]; simpa using h4
       ·simpa [cuts] using h5
     ·cases j with
      | zero =>
       exfalso
       exact hne 0 i (cutH n1 h1) (by simp [cuts]) (by omega)
      | succ j =>
       simp at ho hv
       obtain ⟨h2, h3, h4⟩ := D.lite j o' v e q ho hv fun k c h' hk => by have := hne (k + 1) c h' (by simpa [cuts] using hk); omega
       have e1 : q - p = (q - (p + 1)) + 1 := by omega
       refine ⟨by omega, by simp [cuts] at h3 ⊢; omega, ?_⟩
       rw [e1]
       simpa [cuts] using h4
    ·cases hd
   ·cases hd
def ordB (ms : List Nat) : List Nat → Bool
 | [] => true
 | c :: l => (l.all fun d => (ms.getD d 0).testBit c && c != d) && ordB ms l
theorem ordB_sound {ms : List Nat} : ∀ {cl : List Nat}, ordB ms cl = true → ∀ j k, j < k → k < cl.length → (ms.getD (cl.getD k 0) 0).testBit (cl.getD j 0) = true ∧ cl.getD j 0 ≠ cl.getD k 0
 | [], _, j, k, _, hk => by simp at hk
 | c :: cl, ho, j, k, hjk, hk => by
  simp only [ordB, X3] at ho
  cases k with
  | zero => omega
  | succ k =>
   simp at hk
   cases j with
   | zero =>
    have := Xa.1 ho.1 (cl.getD k 0) (by
     rw [X8, X2 hk]
     simp)
    simp only [X3, bne_iff_ne, ne_eq] at this
    simpa using this
   | succ j => simpa using ordB_sound ho.2 j k (by omega) hk
def sameB (x : Option AV) (v : AV) : Bool := match x with
 | some u => aveq u v
 | none => false
def winB (P : Program) (ops : Array Oper) (ms : List Nat) (i q : Nat) (o : Oper) (v : AV) (e : Env) : List Nat → List Nat → List (Hp × Nat) → Bool
 | done, rest, (h, n) :: hs => ((done.length == q) || ((done.any fun c => (ms.getD c 0).testBit i) || ((rest.any fun c => (ms.getD i 0).testBit c) || sameB (stepL P (atG n h) ops e o) v))) && (match rest with
  | c :: rest' => winB P ops ms i q o v e (c :: done) rest' hs
  | [] => true)
 | _, _, [] => true
theorem winB_sound {ms : List Nat} {i q : Nat} {o : Oper} {v : AV} {e : Env} : ∀ (rest done : List Nat) (hl : List (Hp × Nat)), winB P ops ms i q o v e done rest hl = true → ∀ p, p ≤ rest.length → p < hl.length →
  (done.length + p = q) ∨ ((∃ c ∈ done, (ms.getD c 0).testBit i = true) ∨ ∃ k, k < p ∧ (ms.getD (rest.getD k 0) 0).testBit i = true) ∨ (∃ k, p ≤ k ∧ k < rest.length ∧ (ms.getD i 0).testBit (rest.getD k 0) = true) ∨ stepL P (atG (hl.getD p ([], 0)).2 (hl.getD p ([], 0)).1) ops e o = some v := by
 intro rest
 induction rest with
 | nil =>
  intro done hl hw p hp hpl
  have hp0 : p = 0 := by simpa using hp
  subst hp0
  cases hl with
  | nil => simp at hpl
  | cons h hs =>
   unfold winB at hw
   simp only [Bool.and_true, X0b, beq_iff_eq] at hw
   rcases hw with hw | hw | hw | hw
   ·exact .inl (by omega)
   ·obtain ⟨c, h1, h2⟩ := List.any_eq_true.1 hw
    exact .inr (.inl (.inl ⟨c, h1, h2⟩))
   ·simp at hw
   ·unfold sameB at hw
    split at hw
    ·rename_i u hu
     exact .inr (.inr (.inr (by simp only [X16]; rw [hu, aveq_sound _ _ hw])))
    ·cases hw
 | cons c rest ih =>
  intro done hl hw p hp hpl
  cases hl with
  | nil => simp at hpl
  | cons h hs =>
   unfold winB at hw
   simp only [X3, X0b, beq_iff_eq] at hw
   obtain ⟨hw1, hw2⟩ := hw
   cases p with
   | zero =>
    rcases hw1 with hw | hw | hw | hw
    ·exact .inl (by omega)
    ·obtain ⟨c, h1, h2⟩ := List.any_eq_true.1 hw
     exact .inr (.inl (.inl ⟨c, h1, h2⟩))
    ·obtain ⟨d, h1, h2⟩ := List.any_eq_true.1 hw
     obtain ⟨k, hk, rfl⟩ := List.mem_iff_getElem.1 h1
     have h3 : (c :: rest).getD k 0 = (c :: rest)[k] := by rw [X8, X2 hk]; rfl
     exact .inr (.inr (.inl ⟨k, Nat.zero_le _, hk, by rw [h3]; exact h2⟩))
    ·unfold sameB at hw
     split at hw
     ·rename_i u hu
      exact .inr (.inr (.inr (by simp only [X16]; rw [hu, aveq_sound _ _ hw])))
     ·cases hw
   | succ p =>
    rcases ih (c :: done) hs hw2 p (by simpa using hp) (by simpa using hpl) with h1 | (⟨d, h1, h2⟩ | ⟨k, h1, h2⟩) | ⟨k, h1, h2, h3⟩ | h1
    ·exact .inl (by simp at h1; omega)
    ·rcases X00.1 h1 with rfl | h1
     ·exact .inr (.inl (.inr ⟨0, by omega, by simpa using h2⟩))
     ·exact .inr (.inl (.inl ⟨d, h1, h2⟩))
    ·exact .inr (.inl (.inr ⟨k + 1, by omega, by simpa using h2⟩))
    ·exact .inr (.inr (.inl ⟨k + 1, by omega, by simpa using h2, by simpa using h3⟩))
    ·exact .inr (.inr (.inr (by simpa using h1)))
def liteAll (P : Program) (ops : Array Oper) (ms cl : List Nat) (hl : List (Hp × Nat)) : List Oper → List (AV × Env × Nat) → Nat → Bool
 | o :: l, (v, e, q) :: vs, i => (cl.contains i || winB P ops ms i q o v e [] cl hl) && liteAll P ops ms cl hl l vs (i + 1)
 | _, _, _ => true
theorem liteAll_sound {ms cl : List Nat} {hl : List (Hp × Nat)} : ∀ (l : List Oper) (vs : List (AV × Env × Nat)) (i : Nat), liteAll P ops ms cl hl l vs i = true → ∀ (j : Nat) (o : Oper) (v : AV) (e : Env) (q : Nat), l[j]? = some o → vs[j]? = some (v, e, q) →
  cl.contains (i + j) = true ∨ winB P ops ms (i + j) q o v e [] cl hl = true
 | [], _, _, _, j, o, v, e, q, ho, _ => by simp at ho
 | o :: l, [], _, _, j, o', v, e, q, _, hv => by simp at hv
 | o :: l, (v, e, q) :: vs, i, ha, j, o', v', e', q', ho, hv => by
  simp only [liteAll, X3, X0b] at ha
  cases j with
  | zero =>
   simp at ho hv
   subst ho
   obtain ⟨rfl, rfl, rfl⟩ := hv
   exact ha.1
  | succ j =>
   simp at ho hv
   have := liteAll_sound l vs (i + 1) ha.2 j o' v' e' q' ho hv
   rwa [show i + 1 + j = i + (j + 1) by omega] at this
def drawR (P : Program) (call : CallE) (N : Nat) (ops : Array Oper) (env : Env) (h : Hp) (n : Nat) : Option (Env × Hp × Nat) :=
 bif P.follows .mixedOrders && drawOk N ops then (match drawE P call ops ops.toList 0 0 env h n with
  | some (vs, hs, envF, hF, n') => bif ordB (ancs ops.toList []) (hs.map (·.1)) && liteAll P ops (ancs ops.toList []) (hs.map (·.1)) ((h, n) :: hs.map (·.2)) ops.toList vs 0 then some (envF, hF, n') else none
  | none => none) else none
theorem drawR_sound {call : CallE} (hcall : CallsOK P call) {id n n' : Nat} {envF : Env} {hF : Hp} (hd : drawR P call N ops env h n = some (envF, hF, n'))
  {X : Ctx} {a : Act} {w : World} {ι : Nat → Bk} (H : Hol X (cutH n h) ι w) (S : SlD da N env (cutH n h) ι (Own X.B (cutH n h) ι) a w) :
  (Code.region id ops true).wp P (fun e a' w' => e = .normal ∧ ∃ ι', Hol X (cutH n' hF) ι' w' ∧ SlD da N envF (cutH n' hF) ι' (Own X.B (cutH n' hF) ι') a' w' ∧ Keep w (cutH n h) ι (Own X.B (cutH n h) ι) w' (cutH n' hF) ι' (Own X.B (cutH n' hF) ι')) a w := by
 unfold drawR at hd
 obtain ⟨hk, hd⟩ := Y34 hd
 rw [X3] at hk
 split at hd
 ·rename_i vs hs envF' hF' n'' hE
  obtain ⟨hc, hd⟩ := Y34 hd
  rw [X3] at hc
  simp only [X0, Prod.mk.injEq] at hd
  obtain ⟨rfl, rfl, rfl⟩ := hd
  have D := drawE_sound hcall ops.toList 0 0 env h _ vs hs envF' hF' n'' hE
  have hanc : ∀ i j, ((ancs ops.toList []).getD i 0).testBit j = true → Anc ops j i := ancs_bit ops.toList [] [] rfl rfl (fun i j hb => by simp at hb)
  have hcl : (cuts hs).length = hs.length := by simp [cuts]
  have hget : ∀ k, k < hs.length → ∃ c h', (cuts hs)[k]? = some (c, h') ∧ (hs.map (·.1)).getD k 0 = c ∧ (cutH n h :: (cuts hs).map (·.2)).getD (k + 1) [] = h' := fun k hk => by
   refine ⟨(hs[k]).1, cutH (hs[k]).2.2 (hs[k]).2.1, by simp [cuts, X2 hk], ?_, ?_⟩
   ·rw [X8, X0i, X2 hk]; rfl
   ·rw [List.getD_cons_succ, X8]; simp [cuts, X2 hk]
  have hgetI : ∀ k c h', (cuts hs)[k]? = some (c, h') → k < hs.length ∧ (hs.map (·.1)).getD k 0 = c := fun k c h' hk => by
   have hlt := (Xm.1 hk).1
   rw [hcl] at hlt
   refine ⟨hlt, ?_⟩
   simp only [cuts, X0i, X2 hlt, Xx, X0, Prod.mk.injEq] at hk
   rw [X8, X0i, X2 hlt]
   exact hk.1
  have hheap : ∀ p, p ≤ hs.length → (cutH n h :: (cuts hs).map (·.2)).getD p [] = cutH (((h, n) :: hs.map (·.2)).getD p ([], 0)).2 (((h, n) :: hs.map (·.2)).getD p ([], 0)).1 := fun p hp => by
   cases p with
   | zero => rfl
   | succ p =>
    have hk : p < hs.length := by omega
    simp only [List.getD_cons_succ, X8]
    simp [cuts, X2 hk]
  have hvl : vs.length = ops.size := by simpa using D.len
  have key := draw_sound (P := P) (N := N) (env := env) (id := id) hk.1 hk.2 (vs.map (·.1)) (by simpa using hvl) hs.length (fun k => (hs.map (·.1)).getD k 0) (fun p => (cutH n h :: (cuts hs).map (·.2)).getD p [])
   (fun j k hjk hkm => (ordB_sound hc.1 j k hjk (by simpa using hkm)).2) (fun j k hjk hkm => hanc _ _ (ordB_sound hc.1 j k hjk (by simpa using hkm)).1) ?_ ?_ (X := X) (a := a) (w := w) (ι := ι) (by simpa using H) (by simpa using S)
  ·refine wp_mono key ?_
   rintro e a' w' ⟨he, ι', H', S', K'⟩
   have hlast := D.last
   rw [hcl] at hlast
   rw [hlast] at H' S' K'
   simp only [X16] at K'
   exact ⟨he, ι', H', ⟨S'.size, S'.defers, fun i => by rw [D.fin]; exact S'.at_ i⟩, K'⟩
  ·intro k hkm
   obtain ⟨c, h', h1, h2, h3⟩ := hget k hkm
   obtain ⟨_, o, v, e, q, h4, h5, h6⟩ := D.heavy k c h' h1
   simp only [Nat.sub_zero] at h4 h5
   refine ⟨o, v, ?_, ?_, ?_⟩
   ·rw [h2, ← X14]; exact h4
   ·rw [h2, X0i, h5]; rfl
   ·rw [h2, h3]
    exact h6.congr (D.envs c o v e q h4 h5)
  ·intro i o v ho hv hne p hp
   rw [X0i] at hv
   obtain ⟨⟨v', e, q⟩, h1, h2⟩ := Option.map_eq_some_iff.1 hv
   simp only at h2
   subst h2
   rw [← X14] at ho
   have hnot : ∀ (k c : Nat) (h' : Hp), (cuts hs)[k]? = some (c, h') → c ≠ 0 + i := fun k c h' hk e => by
    obtain ⟨h3, h4⟩ := hgetI k c h' hk
    exact hne k h3 (by rw [h4]; omega)
   have hL := D.lite i o v' e q ho h1 hnot
   rcases liteAll_sound _ _ _ hc.2 i o v' e q ho h1 with h3 | h3
   ·exfalso
    rw [X05, List.contains_iff_mem] at h3
    obtain ⟨k, hk, hke⟩ := List.mem_iff_getElem.1 h3
    have hk' : k < hs.length := by simpa using hk
    refine hne k hk' ?_
    rw [X8, X2 hk]
    exact hke
   ·rw [X05] at h3
    have hcongr : ∀ {h1 h2 : Hp}, OStep P ops o e h1 h2 v' → OStep P ops o (Y3j env (ops.toList.take i) ((vs.map (·.1)).take i)) h1 h2 v' := fun hst => hst.congr (D.envs i o v' e q ho h1)
    rcases winB_sound _ [] _ h3 p (by simpa using hp) (by simp; omega) with h4 | (⟨c, h4, _⟩ | ⟨k, h4, h5⟩) | ⟨k, h4, h5, h6⟩ | h4
    ·have hq : p = q := by simpa using h4
     subst hq
     refine .inr (.inr (hcongr ?_))
     simpa using hL.2.2
    ·simp at h4
    ·exact .inl ⟨k, h4, hanc _ _ h5⟩
    ·exact .inr (.inl ⟨k, h4, by simpa using h5, hanc _ _ h6⟩)
    ·refine .inr (.inr (hcongr ?_))
     rw [hheap p hp]
     exact stepL_sound h4
 ·cases hd
end
section
variable {P : Program} {N : Nat} {env : Env} {h : Hp} {da : DA}
def Goes (da : DA) (P : Program) (N : Nat) (c : Code) (env : Env) (h : Hp) (x : Exit) (env' : Env) (h' : Hp) : Prop :=
 ∀ (X : Ctx) (a : Act) (w : World) (ι : Nat → Bk), Hol X h ι w → SlD da N env h ι (Own X.B h ι) a w →
  c.wp P (fun e a' w' => e = x ∧ ∃ ι', Hol X h' ι' w' ∧ SlD da N env' h' ι' (Own X.B h' ι') a' w' ∧ Keep w h ι (Own X.B h ι) w' h' ι' (Own X.B h' ι')) a w
theorem Goes.seq {c d : Code} {x : Exit} {e1 e2 : Env} {h1 h2 : Hp} (hc : Goes da P N c env h .normal e1 h1) (hd : Goes da P N d e1 h1 x e2 h2) : Goes da P N (.seq c d) env h x e2 h2 := by
 intro X a w ι H S
 refine wp_seq (wp_mono (hc X a w ι H S) ?_)
 rintro e a' w' ⟨rfl, ι', H', S', K'⟩
 refine wp_mono (hd X a' w' ι' H' S') ?_
 rintro e a'' w'' ⟨he, ι'', H'', S'', K''⟩
 exact ⟨he, ι'', H'', S'', K'.trans K''⟩
theorem Goes.seqOut {c d : Code} {x : Exit} {e1 : Env} {h1 : Hp} (hx : x ≠ .normal) (hc : Goes da P N c env h x e1 h1) : Goes da P N (.seq c d) env h x e1 h1 := by
 intro X a w ι H S
 refine wp_seq (wp_mono (hc X a w ι H S) ?_)
 rintro e a' w' ⟨rfl, hr⟩
 cases e with
 | normal => exact absurd rfl hx
 | _ => exact ⟨rfl, hr⟩
theorem Goes.cond {c : Operand} {y z : Code} {b : Bool} {x : Exit} {e1 : Env} {h1 : Hp} (hc : rdo env c = .bool b) (hg : Goes da P N (bif b then y else z) env h x e1 h1) : Goes da P N (.cond c y z) env h x e1 h1 := by
 intro X a w ι H S
 have hv := S.eval H.globOK c
 rw [hc, Y51] at hv
 refine wp_cond_split hv (fun e => ?_) (fun e => ?_)
 ·subst e; exact hg X a w ι H S
 ·subst e; exact hg X a w ι H S
theorem Goes.block {id : Nat} {c : Code} {x : Exit} {e1 : Env} {h1 : Hp} (hc : Goes da P N c env h x e1 h1) : Goes da P N (.block id c) env h (match x with | .exit j => if j = id then .normal else .exit j | y => y) e1 h1 := by
 intro X a w ι H S
 refine wp_block (wp_mono (hc X a w ι H S) ?_)
 rintro e a' w' ⟨rfl, hr⟩
 cases e with
 | exit j =>
  simp only [Exit.inBlock]
  split
  ·rename_i hj; exact ⟨by simp [hj], hr⟩
  ·rename_i hj; exact ⟨by simp [hj], hr⟩
 | _ => exact ⟨rfl, hr⟩
theorem Goes.scope {c : Code} {x : Exit} {e1 : Env} {h1 : Hp} (hx : ∀ l, x ≠ .goto l) (hc : Goes da P N c env h x e1 h1) : Goes da P N (.scope c) env h x e1 h1 := by
 intro X a w ι H S
 refine wp_scope_straight (wp_mono (hc X a w ι H S) ?_)
 rintro e a' w' ⟨rfl, hr⟩
 cases e with
 | goto l => exact absurd rfl (hx l)
 | _ => exact ⟨rfl, hr⟩
theorem Goes.scopeJump {c rest : Code} {l : Nat} {x : Exit} {e1 e2 : Env} {h1 h2 : Hp} (hx : ∀ l, x ≠ .goto l) (hf : findLabel c l = some rest) (hc : Goes da P N c env h (.goto l) e1 h1) (hr : Goes da P N rest e1 h1 x e2 h2) : Goes da P N (.scope c) env h x e2 h2 := by
 intro X a w ι H S
 refine wp_scope_jumps l (fun a1 w1 => ∃ ι', Hol X h1 ι' w1 ∧ SlD da N e1 h1 ι' (Own X.B h1 ι') a1 w1 ∧ Keep w h ι (Own X.B h ι) w1 h1 ι' (Own X.B h1 ι')) (fun _ _ => 0) hf (wp_mono (hc X a w ι H S) ?_) ?_
 ·rintro e a' w' ⟨rfl, hr⟩
  exact ⟨rfl, hr⟩
 ·rintro a1 w1 ⟨ι', H', S', K'⟩
  refine wp_mono (hr X a1 w1 ι' H' S') ?_
  rintro e a'' w'' ⟨rfl, ι'', H'', S'', K''⟩
  cases e with
  | goto l => exact absurd rfl (hx l)
  | _ => exact ⟨rfl, ι'', H'', S'', K'.trans K''⟩
theorem Goes.trim {c : Code} {x : Exit} {e1 e2 : Env} {h1 : Hp} (hle : Env.le e1 e2) (hg : Goes da P N c env h x e1 h1) : Goes da P N c env h x e2 h1 := by
 intro X a w ι H S
 refine wp_mono (hg X a w ι H S) ?_
 rintro e a' w' ⟨he, ι', H', S', K'⟩
 exact ⟨he, ι', H', S'.le hle, K'⟩
abbrev Lv := List (Option (List Nat))
def trimE (lv : Lv) (id : Nat) (env : Env) : Env := match lv[id]? with
 | some (some l) => l.map fun i => (i, rdq env i)
 | _ => env
theorem trimE_le (lv : Lv) (id : Nat) (env : Env) : Env.le env (trimE lv id env) := by
 unfold trimE
 split
 ·rename_i l _
  have : (l.map fun i => (i, rdq env i)) = env.keep l := by simp only [Env.keep, rdq_eq]
  rw [this]
  exact Env.le_keep env l
 ·exact fun i => .inr rfl
abbrev RunT := Nat → Lv → Code → Env → Hp → Nat → Option (Exit × Env × Hp × Nat)
def RunOK (P : Program) (self : RunT) : Prop := ∀ (da : DA) N lv c env h n x env' h' n', self N lv c env h n = some (x, env', h', n') → Goes da P N c env (cutH n h) x env' (cutH n' h')
def resE (P : Program) (h : Hp) (env : Env) : List ResultVar → Option (List AV)
 | [] => some []
 | .tmp t :: rs => match resE P h env rs with
  | some xs => some (rd env t :: xs)
  | none => none
 | .cell a t :: rs => match rd env a with
  | .ref r ver off => (match ob P h (fun _ => .ref r ver off) (.load t (.tmp 0)), resE P h env rs with
   | some [], some xs => some (Y4u h (lz P t) (.ref r ver off) :: xs)
   | _, _ => none)
  | _ => none
theorem resE_sound : ∀ (rs : List ResultVar) (xs : List AV), resE P h env rs = some xs → ResV P h env rs xs
 | [], xs, hr => by simp only [resE, X0] at hr; subst hr; exact .nil
 | .tmp t :: rs, xs, hr => by
  simp only [resE] at hr
  split at hr
  ·rename_i ys h1
   simp only [X0] at hr
   subst hr
   exact .tmp (resE_sound rs ys h1)
  ·cases hr
 | .cell a t :: rs, xs, hr => by
  simp only [resE] at hr
  split at hr
  ·rename_i r ver off h0
   split at hr
   ·rename_i ys h1 h2
    simp only [X0] at hr
    subst hr
    exact .cell h0 h1 (resE_sound rs ys h2)
   ·cases hr
  ·cases hr
abbrev Orc := FuncId → List AV → Option AV
def OrcOK (P : Program) (orc : Orc) : Prop := ∀ f args av, orc f args = some av → ∀ h, CallOK P f args h h av
def endR (P : Program) (fn : Func) : Option (Exit × Env × Hp × Nat) → Option (AV × Hp × Nat)
 | some (.normal, env, h', n') => (match resE P (cutH n' h') env fn.results.toList with | some xs => some (resOf xs, h', n') | none => none)
 | some (.ret, env, h', n') => (match resE P (cutH n' h') env fn.results.toList with | some xs => some (resOf xs, h', n') | none => none)
 | _ => none
def callR (P : Program) (Y4e : List Lv) (orc : Orc) (self : RunT) : CallE := fun f args h n => match orc f args with
 | some av => some (av, h, n)
 | none => match P.funcs[f]? with
  | some fn => (match fn.body with
   | some c => bif nle args.length fn.ntmps then endR P fn (self fn.ntmps (Y4e.getD f []) c (args0 0 args) h n) else none
   | none => none)
  | none => none
theorem callR_sound {Y4e : List Lv} {orc : Orc} (ho : OrcOK P orc) {self : RunT} (hs : RunOK P self) : CallsOK P (callR P Y4e orc self) := by
 intro f args h n av h' n' hc
 unfold callR at hc
 split at hc
 ·rename_i av' h1
  simp only [X0, Prod.mk.injEq] at hc
  obtain ⟨rfl, rfl, rfl⟩ := hc
  exact ho f args _ h1 _
 ·split at hc
  ·rename_i fn hf
   split at hc
   ·rename_i c hb
    obtain ⟨hn, hc⟩ := Y34 hc
    rw [nle_eq] at hn
    have fin : ∀ (x : Exit) (env : Env) (h1 : Hp) (n1 : Nat) (xs : List AV), (x = .normal ∨ x = .ret) → self fn.ntmps (Y4e.getD f []) c (args0 0 args) h n = some (x, env, h1, n1) → resE P (cutH n1 h1) env fn.results.toList = some xs → CallOK P f args (cutH n h) (cutH n1 h1) (resOf xs) := by
     intro x env h1 n1 xs hx hself hres X w ι vs H hv
     have hlen := hv.length
     have hg := hs [] _ _ _ _ _ _ _ _ _ _ hself
     have hdone : Done P fn (fun r _ => r = resOf xs) .ret env (cutH n1 h1) := Y4t (by simp) (resE_sound _ _ hres) rfl
     refine calls_of_wp hf hb (wp_mono (hg X _ w ι H ⟨?_, rfl, fun i => ?_⟩) ?_)
     ·simp [hlen]; omega
     ·by_cases hi : i < vs.length
      ·have := rd_args0 args vs 0 hv i
       simp only [X05] at this
       simp only [X5]
       rw [X1f (by simpa using hi)]
       simpa using this
      ·rw [rd_args0_ge args 0 i (by omega)]
       simp [VR]
     ·rintro e a' w' ⟨rfl, ι', H', S', K'⟩
      obtain ⟨r, hr, hre⟩ := hdone
      subst hre
      obtain ⟨v, hrun, hvr⟩ := hr _ _ _ _ H' S'.slots
      rcases hx with rfl | rfl
      ·exact ⟨S'.defers, v, hrun, v, ι', rfl, H', K', hvr⟩
      ·exact ⟨S'.defers, v, hrun, v, ι', rfl, H', K', hvr⟩
    cases hself : self fn.ntmps (Y4e.getD f []) c (args0 0 args) h n with
    | none => rw [hself] at hc; simp [endR] at hc
    | some q =>
     obtain ⟨x, env, h1, n1⟩ := q
     rw [hself] at hc
     unfold endR at hc
     split at hc
     ·rename_i heq
      simp only [X0, Prod.mk.injEq] at heq
      obtain ⟨rfl, rfl, rfl, rfl⟩ := heq
      split at hc
      ·rename_i xs hres
       simp only [X0, Prod.mk.injEq] at hc
       obtain ⟨rfl, rfl, rfl⟩ := hc
       exact fin _ _ _ _ _ (.inl rfl) hself hres
      ·cases hc
     ·rename_i heq
      simp only [X0, Prod.mk.injEq] at heq
      obtain ⟨rfl, rfl, rfl, rfl⟩ := heq
      split at hc
      ·rename_i xs hres
       simp only [X0, Prod.mk.injEq] at hc
       obtain ⟨rfl, rfl, rfl⟩ := hc
       exact fin _ _ _ _ _ (.inr rfl) hself hres
      ·cases hc
     ·cases hc
   ·cases hc
  ·cases hc
def loopE (self : Env → Hp → Nat → Option (Exit × Env × Hp × Nat)) : Nat → Env → Hp → Nat → Option (Exit × Env × Hp × Nat)
 | 0, _, _, _ => none
 | k + 1, env, h, n => match self env h n with
  | some (.normal, e, h', n') => loopE self k e h' n'
  | r => r
theorem loopE_sound {self : Env → Hp → Nat → Option (Exit × Env × Hp × Nat)} {c : Code} (hs : ∀ env h n x env' h' n', self env h n = some (x, env', h', n') → Goes da P N c env (cutH n h) x env' (cutH n' h')) {k n n' : Nat} {x : Exit} {env' : Env} {h' : Hp}
  (hl : loopE self k env h n = some (x, env', h', n')) (hx : x ≠ .normal) : Goes da P N (.loop c) env (cutH n h) x env' (cutH n' h') := by
 intro X a w ι H S
 refine wp_loop_ghost (fun m a1 w1 => ∃ (env1 : Env) (h1 : Hp) (n1 : Nat) (ι1 : Nat → Bk), loopE self m env1 h1 n1 = some (x, env', h', n') ∧ Hol X (cutH n1 h1) ι1 w1 ∧ SlD da N env1 (cutH n1 h1) ι1 (Own X.B (cutH n1 h1) ι1) a1 w1 ∧ Keep w (cutH n h) ι (Own X.B (cutH n h) ι) w1 (cutH n1 h1) ι1 (Own X.B (cutH n1 h1) ι1)) k
  ⟨env, h, n, ι, hl, H, S, Keep.refl _ _ _ _⟩ ?_
 rintro m a1 w1 ⟨env1, h1, n1, ι1, hl1, H1, S1, K1⟩
 cases m with
 | zero => simp [loopE] at hl1
 | succ m =>
  simp only [loopE] at hl1
  split at hl1
  ·rename_i e2 h2 n2 hself
   refine wp_mono (hs _ _ _ _ _ _ _ hself X a1 w1 ι1 H1 S1) ?_
   rintro e a2 w2 ⟨rfl, ι2, H2, S2, K2⟩
   exact ⟨m, by omega, e2, h2, n2, ι2, hl1, H2, S2, K1.trans K2⟩
  ·rename_i r hne
   refine wp_mono (hs _ _ _ _ _ _ _ hl1 X a1 w1 ι1 H1 S1) ?_
   rintro e a2 w2 ⟨rfl, ι2, H2, S2, K2⟩
   cases e with
   | normal => exact absurd rfl hx
   | _ => exact ⟨rfl, ι2, H2, S2, K1.trans K2⟩
def rbReg (lv : Lv) (id : Nat) : Option (Env × Hp × Nat) → Option (Exit × Env × Hp × Nat)
 | some (e, h', n') => some (.normal, trimE lv id e, h', n')
 | none => none
def rbSeq (self : RunT) (N : Nat) (lv : Lv) (d : Code) : Option (Exit × Env × Hp × Nat) → Option (Exit × Env × Hp × Nat)
 | some (.normal, e, h', n') => self N lv d e h' n'
 | r => r
def rbCond (self : RunT) (N : Nat) (lv : Lv) (y z : Code) (env : Env) (h : Hp) (n : Nat) : AV → Option (Exit × Env × Hp × Nat)
 | .im (.val (.bool b)) => self N lv (bif b then y else z) env h n
 | _ => none
def rbBlock (id : Nat) : Option (Exit × Env × Hp × Nat) → Option (Exit × Env × Hp × Nat)
 | some (.exit j, e, h', n') => some (if j = id then .normal else .exit j, e, h', n')
 | r => r
def rbLoop : Option (Exit × Env × Hp × Nat) → Option (Exit × Env × Hp × Nat)
 | some (.normal, _, _, _) => none
 | r => r
def rbJump : Option (Exit × Env × Hp × Nat) → Option (Exit × Env × Hp × Nat)
 | some (.goto _, _, _, _) => none
 | r => r
def rbScope (self : RunT) (N : Nat) (lv : Lv) (c : Code) : Option (Exit × Env × Hp × Nat) → Option (Exit × Env × Hp × Nat)
 | some (.goto l, e, h', n') => (match findLabel c l with
  | some rest => rbJump (self N lv rest e h' n')
  | none => none)
 | r => r
def runB (P : Program) (Y4e : List Lv) (orc : Orc) (self : RunT) : RunT := fun N lv c env h n => match c with
 | .skip => some (.normal, env, h, n)
 | .label _ => some (.normal, env, h, n)
 | .exit id => some (.exit id, env, h, n)
 | .goto l => some (.goto l, env, h, n)
 | .ret => some (.ret, env, h, n)
 | .region id ops d => bif d then rbReg lv id (drawR P (callR P Y4e orc self) N ops env h n) else rbReg lv id (seqR P (callR P Y4e orc self) N ops ops.toList env h n)
 | .seq c d => rbSeq self N lv d (self N lv c env h n)
 | .cond c y z => rbCond self N lv y z env h n (rdoq env c)
 | .block id c => rbBlock id (self N lv c env h n)
 | .loop c => rbLoop (loopE (self N lv c) 1000000 env h n)
 | .scope c => rbScope self N lv c (self N lv c env h n)
 | .rangeFunc _ _ _ _ => none
 | .refuse _ => none
theorem rbReg_some {lv : Lv} {id : Nat} {q : Option (Env × Hp × Nat)} {x : Exit} {env' : Env} {h' : Hp} {n' : Nat} (hr : rbReg lv id q = some (x, env', h', n')) : ∃ e, q = some (e, h', n') ∧ x = .normal ∧ env' = trimE lv id e := by
 unfold rbReg at hr
 split at hr
 ·simp only [X0, Prod.mk.injEq] at hr
  obtain ⟨rfl, rfl, rfl, rfl⟩ := hr
  exact ⟨_, rfl, rfl, rfl⟩
 ·cases hr
theorem runB_sound {Y4e : List Lv} {orc : Orc} (ho : OrcOK P orc) {self : RunT} (hs : RunOK P self) : RunOK P (runB P Y4e orc self) := by
 intro da N lv c env h n x env' h' n' hr
 have hcall := callR_sound (Y4e := Y4e) ho hs
 unfold runB at hr
 split at hr
 ·simp only [X0, Prod.mk.injEq] at hr
  obtain ⟨rfl, rfl, rfl, rfl⟩ := hr
  exact fun X a w ι H S => wp_skip ⟨rfl, ι, H, S, Keep.refl _ _ _ _⟩
 ·simp only [X0, Prod.mk.injEq] at hr
  obtain ⟨rfl, rfl, rfl, rfl⟩ := hr
  exact fun X a w ι H S => wp_label ⟨rfl, ι, H, S, Keep.refl _ _ _ _⟩
 ·simp only [X0, Prod.mk.injEq] at hr
  obtain ⟨rfl, rfl, rfl, rfl⟩ := hr
  exact fun X a w ι H S => wp_exit ⟨rfl, ι, H, S, Keep.refl _ _ _ _⟩
 ·simp only [X0, Prod.mk.injEq] at hr
  obtain ⟨rfl, rfl, rfl, rfl⟩ := hr
  exact fun X a w ι H S => wp_goto ⟨rfl, ι, H, S, Keep.refl _ _ _ _⟩
 ·simp only [X0, Prod.mk.injEq] at hr
  obtain ⟨rfl, rfl, rfl, rfl⟩ := hr
  exact fun X a w ι H S => wp_ret ⟨rfl, ι, H, S, Keep.refl _ _ _ _⟩
 ·rename_i id ops d
  cases d with
  | true =>
   obtain ⟨e, hd, rfl, rfl⟩ := rbReg_some hr
   exact Goes.trim (trimE_le lv id e) (fun X a w ι H S => drawR_sound hcall hd H S)
  | false =>
   obtain ⟨e, hd, rfl, rfl⟩ := rbReg_some hr
   exact Goes.trim (trimE_le lv id e) (fun X a w ι H S => wp_region_list (seqR_sound hcall _ _ _ _ _ _ _ hd X a w ι _ H S fun ι' a' w' H' S' K' => ⟨rfl, ι', H', S', K'⟩))
 ·rename_i c d
  cases hc : self N lv c env h n with
  | none => rw [hc] at hr; simp [rbSeq] at hr
  | some q =>
   obtain ⟨x1, e1, h1, n1⟩ := q
   rw [hc] at hr
   have g1 := hs da _ _ _ _ _ _ _ _ _ _ hc
   cases x1 with
   | normal => exact g1.seq (hs _ _ _ _ _ _ _ _ _ _ _ hr)
   | _ =>
    simp only [rbSeq, X0, Prod.mk.injEq] at hr
    obtain ⟨rfl, rfl, rfl, rfl⟩ := hr
    exact Goes.seqOut (by simp) g1
 ·rename_i c y z
  rw [rdoq_eq] at hr
  unfold rbCond at hr
  split at hr
  ·rename_i b hc
   exact Goes.cond hc (hs _ _ _ _ _ _ _ _ _ _ _ hr)
  ·cases hr
 ·rename_i id c
  cases hc : self N lv c env h n with
  | none => rw [hc] at hr; simp [rbBlock] at hr
  | some q =>
   obtain ⟨x1, e1, h1, n1⟩ := q
   rw [hc] at hr
   have g1 := (hs da _ _ _ _ _ _ _ _ _ _ hc).block (id := id)
   cases x1 with
   | exit j =>
    simp only [rbBlock, X0, Prod.mk.injEq] at hr
    obtain ⟨rfl, rfl, rfl, rfl⟩ := hr
    exact g1
   | _ =>
    simp only [rbBlock, X0, Prod.mk.injEq] at hr
    obtain ⟨rfl, rfl, rfl, rfl⟩ := hr
    exact g1
 ·rename_i c
  unfold rbLoop at hr
  split at hr
  ·cases hr
  ·rename_i hne
   exact loopE_sound (fun env h n x env' h' n' hq => hs _ _ _ _ _ _ _ _ _ _ _ hq) hr fun hx => by subst hx; exact hne _ _ _ hr
 ·rename_i c
  cases hc : self N lv c env h n with
  | none => rw [hc] at hr; simp [rbScope] at hr
  | some q =>
   obtain ⟨x1, e1, h1, n1⟩ := q
   rw [hc] at hr
   have g1 := hs da _ _ _ _ _ _ _ _ _ _ hc
   cases x1 with
   | goto l =>
    simp only [rbScope] at hr
    split at hr
    ·rename_i rest hf
     unfold rbJump at hr
     split at hr
     ·cases hr
     ·rename_i hne
      exact Goes.scopeJump (fun l' hx => by subst hx; exact hne _ _ _ _ hr) hf g1 (hs _ _ _ _ _ _ _ _ _ _ _ hr)
    ·cases hr
   | _ =>
    simp only [rbScope, X0, Prod.mk.injEq] at hr
    obtain ⟨rfl, rfl, rfl, rfl⟩ := hr
    exact Goes.scope (by simp) g1
 ·cases hr
 ·cases hr
def runC (P : Program) (Y4e : List Lv) (orc : Orc) : Nat → RunT
 | 0 => fun _ _ _ _ _ _ => none
 | k + 1 => runB P Y4e orc (runC P Y4e orc k)
theorem runC_ok {Y4e : List Lv} {orc : Orc} (ho : OrcOK P orc) : ∀ k, RunOK P (runC P Y4e orc k)
 | 0 => fun _ _ _ _ _ _ _ _ _ _ _ hr => by simp [runC] at hr
 | k + 1 => runB_sound ho (runC_ok ho k)
def callF (P : Program) (Y4e : List Lv) (orc : Orc) (k : Nat) : CallE := callR P Y4e orc (runC P Y4e orc k)
theorem callF_ok {Y4e : List Lv} {orc : Orc} (ho : OrcOK P orc) (k : Nat) : CallsOK P (callF P Y4e orc k) := callR_sound ho (runC_ok ho k)
theorem QSpec.run {Y4e : List Lv} {orc : Orc} (ho : OrcOK P orc) (k : Nat) {f : FuncId} {args : List AV} {av : AV} (hc : (callF P Y4e orc k f args [] 0).map (·.1) = some av) : QSpec P f args av := by
 cases hr : callF P Y4e orc k f args [] 0 with
 | none => rw [hr] at hc; cases hc
 | some r =>
  obtain ⟨av', h', n'⟩ := r
  rw [hr] at hc
  simp only [Xx, X0] at hc
  subst hc
  intro w ι B vs H hv
  refine (callF_ok ho k _ _ _ _ _ _ _ hr _ w ι vs H hv).mono ?_
  rintro e w' ⟨v, ι', rfl, H', K', hvr⟩
  exact ⟨v, av', cutH n' h', ι', rfl, rfl, H', hvr⟩
end
end Go.Abs
