/-
  Own work. The abstract layer, part 6: guards; quiet operations in a row; a region whose order is drawn.
-/
import Derived.Test.YthfdgicfcjkfgaaAbs5
set_option linter.unusedSimpArgs false
set_option linter.unusedVariables false
namespace Go.Abs
open Go.RowKit

def gcond (b : Bool) : AV → Option Bool
  | .bool g => some (if b then g else !g)
  | .cnd c (.bool g) => some (c && (if b then g else !g))
  | _ => none

def gav (ops : Array Oper) (env : Env) (o : Oper) (x : AV) : AV := match o.guard with
  | none => x
  | some (j, b) => match (ops[j]?).bind (·.dst) with
    | some t => (match gcond b (rd env t) with | some c => .cnd c x | none => .any)
    | none => .any

def gpo (ops : Array Oper) (env : Env) (o : Oper) (φ : Prop) : Prop := match o.guard with
  | none => φ
  | some (j, b) => match (ops[j]?).bind (·.dst) with
    | some t => (match gcond b (rd env t) with | some c => c = true → φ | none => False)
    | none => False

section
variable {P : Program} {N : Nat} {ops : Array Oper} {env : Env} {h : Hp}

theorem gcond_sound {w : World} {ι : Nat → Bk} {A : Nat → Prop} {b c : Bool} {x : AV} {v : Value} (hc : gcond b x = some c) (hv : VR w h ι A x v) :
    c = true ↔ v = .bool b := by
  unfold gcond at hc
  split at hc
  · rw [VR.bool_iff] at hv; subst hv
    cases b <;> simp_all
  · rename_i c' g
    simp only [VR, VRI] at hv
    simp at hc
    subst hc
    cases c' with
    | false =>
      have := hv.2 rfl
      subst this
      simp [undef]
    | true =>
      have := hv.1 rfl
      subst this
      cases b <;> simp
  · cases hc

theorem yielded_iff {tmps : Array Value} {j t : Nat} {b : Bool} (ht : (ops[j]?).bind (·.dst) = some t) : yielded ops tmps j = some b ↔ tmps.getD t undef = .bool b := by
  unfold yielded
  rw [ht]
  simp only [Option.bind_some, Array.getD_eq_getD_getElem?]
  cases hy : tmps[t]? with
  | none => simp [undef]
  | some y => cases y <;> simp

theorem looks_operand {o : Oper} {t : Nat} (hx : Operand.tmp t ∈ o.op.operands) : t ∈ o.looksAt ops :=
  List.mem_append_left _ (List.mem_filterMap.2 ⟨.tmp t, by simpa using hx, rfl⟩)

theorem looks_guard {o : Oper} {j t : Nat} {b : Bool} (hg : o.guard = some (j, b)) (ht : (ops[j]?).bind (·.dst) = some t) : t ∈ o.looksAt ops :=
  List.mem_append_right _ (by simp [hg, ht])

theorem operand_vr {w : World} {ι : Nat → Bk} {A : Nat → Prop} {a : Act} {o : Oper} (hs : ∀ s, s ∈ o.looksAt ops → VR w h ι A (rd env s) (a.tmps.getD s undef)) :
    ∀ x, x ∈ o.op.operands → VR w h ι A (rdo env x) (a.eval x) := by
  intro x hx
  cases x with
  | tmp t => exact hs t (looks_operand hx)
  | _ => simp [rdo, Act.eval, VR, VRI]

/-- A guard, and what stands behind it. -/
theorem Quiet.guarded {o : Oper} {av : AV} {φ : Prop} (hg : gpo ops env o φ)
    (hq : φ → ∀ (X : Ctx) (a : Act) (w : World) (ι : Nat → Bk) (Q : Exit → Act → World → Prop), Hol X h ι w →
      (∀ x, x ∈ o.op.operands → VR w h ι (Own X.B h ι) (rdo env x) (a.eval x)) →
      ∀ next : Act → World → Prop, (∀ v w', Below w.heap.size w w' → VR w' h ι (Own X.B h ι) av v → next (a.put o.dst v) w') → o.wp P a w next Q) :
    Quiet P ops o env h (gav ops env o av) := by
  intro X a w ι Q H hs next hn
  have hop := operand_vr hs
  unfold gpo at hg
  unfold gav at hn
  cases hgd : o.guard with
  | none =>
    simp only [hgd] at hg hn
    simp only [Region.wanted, hgd, if_true]
    exact hq hg X a w ι Q H hop next hn
  | some jb =>
    obtain ⟨j, b⟩ := jb
    simp only [hgd] at hg hn
    cases ht : (ops[j]?).bind (·.dst) with
    | none => simp only [ht] at hg
    | some t =>
      simp only [ht] at hg hn
      have hvt := hs t (looks_guard hgd ht)
      cases hc : gcond b (rd env t) with
      | none => simp only [hc] at hg
      | some c =>
        simp only [hc] at hg hn
        have hiff := gcond_sound hc hvt
        have hw : Region.wanted o (yielded ops a.tmps) = c := by
          simp only [Region.wanted, hgd]
          rw [Bool.eq_iff_iff, hiff, beq_iff_eq]
          exact yielded_iff ht
        rw [hw]
        cases c with
        | true =>
          simp only [if_true]
          exact hq (hg rfl) X a w ι Q H hop next fun v w' hb hv => hn v w' hb (by simp only [VR]; exact ⟨fun _ => hv, fun e => by cases e⟩)
        | false => exact hn undef w (Below.refl _ _) (by simp [VR])

theorem Quiet.pure {o : Oper} (hg : gpo ops env o (po P h (rdo env) o.op)) : Quiet P ops o env h (gav ops env o (pv P h (rdo env) o.op)) :=
  Quiet.guarded hg fun hp X a w ι Q H hop next hn => by
    obtain ⟨v, hr, hv⟩ := pv_sound (P := P) H hp hop
    simp only [Oper.wp, hr, Oper.upon]
    exact hn v w (Below.refl _ _) hv

/-- One operation that only computes or reads. -/
theorem OpsW.pure {o : Oper} {rest : List Oper} {K : Env → Hp → Prop} (hd : o.dst.all (· < N) = true) (hg : gpo ops env o (po P h (rdo env) o.op))
    (hr : OpsW P N ops rest (setd env o.dst (gav ops env o (pv P h (rdo env) o.op))) h K) : OpsW P N ops (o :: rest) env h K :=
  OpsW.quiet hd (Quiet.pure hg) hr

/-- Quiet operations, in the order of the text. -/
def QOps (P : Program) (ops : Array Oper) (h : Hp) : List Oper → Env → (Env → Prop) → Prop
  | [], env, K => K env
  | o :: l, env, K => ∃ av, Quiet P ops o env h av ∧ QOps P ops h l (setd env o.dst av) K

theorem QOps.nil {K : Env → Prop} (hK : K env) : QOps P ops h [] env K := hK
theorem QOps.pure {o : Oper} {rest : List Oper} {K : Env → Prop} (hg : gpo ops env o (po P h (rdo env) o.op))
    (hr : QOps P ops h rest (setd env o.dst (gav ops env o (pv P h (rdo env) o.op))) K) : QOps P ops h (o :: rest) env K :=
  ⟨_, Quiet.pure hg, hr⟩

/-- The static look at a region whose order is drawn. -/
def drawOk (N : Nat) (ops : Array Oper) : Bool :=
  (List.range ops.size).all fun i => match ops[i]? with
    | none => false
    | some o => o.dst.all (· < N) && o.after.all (fun e => !Region.binds .any e || e.on < i) &&
      (List.range ops.size).all fun j => match ops[j]? with
        | none => false
        | some p => match p.dst with
          | none => true
          | some d => if i = j then !(o.looksAt ops).contains d else
              o.dst != some d && (!(o.looksAt ops).contains d || (j < i && o.after.any fun e => Region.binds .any e && e.on == j) || (i < j && p.after.any fun e => Region.binds .any e && e.on == i))

/-- The values of the operations, and the state before each. -/
def envAt (env : Env) : List Oper → List AV → Env
  | o :: l, v :: vs => envAt (setd env o.dst v) l vs
  | _, _ => env

theorem QOps.vals {K : Env → Prop} : ∀ (l : List Oper) (env : Env), QOps P ops h l env K → ∃ vs : List AV, vs.length = l.length ∧ K (envAt env l vs) ∧
    ∀ (i : Nat) (o : Oper) (v : AV), l[i]? = some o → vs[i]? = some v → Quiet P ops o (envAt env (l.take i) (vs.take i)) h v
  | [], env, hq => ⟨[], rfl, hq, fun i o v ho => by simp at ho⟩
  | o :: l, env, hq => by
    obtain ⟨av, h1, h2⟩ := hq
    obtain ⟨vs, h3, h4, h5⟩ := QOps.vals l _ h2
    refine ⟨av :: vs, by simp [h3], h4, fun i p v ho hv => ?_⟩
    cases i with
    | zero => simp at ho hv; subst ho hv; simpa [envAt] using h1
    | succ i => simp at ho hv; simpa [envAt] using h5 i p v ho hv

theorem rd_setd_ne {d : Option Nat} {v : AV} {s : Nat} (hd : d ≠ some s) : rd (setd env d v) s = rd env s := by
  cases d with
  | none => rfl
  | some d => simp only [setd, rd]; rw [if_neg (fun e => hd (by rw [e]))]

theorem envAt_none {s : Nat} : ∀ (l : List Oper) (vs : List AV) (env : Env), (∀ (i : Nat) (o : Oper), l[i]? = some o → o.dst ≠ some s) → rd (envAt env l vs) s = rd env s
  | [], vs, env, _ => by simp [envAt]
  | o :: l, [], env, _ => by simp [envAt]
  | o :: l, v :: vs, env, hn => by
    simp only [envAt]
    rw [envAt_none l vs _ (fun i p hp => hn (i + 1) p (by simpa using hp))]
    exact rd_setd_ne (hn 0 o (by simp))

theorem envAt_some {s : Nat} : ∀ (l : List Oper) (vs : List AV) (env : Env) (i : Nat) (o : Oper) (v : AV), l[i]? = some o → vs[i]? = some v → o.dst = some s →
    (∀ (j : Nat) (p : Oper), l[j]? = some p → p.dst = some s → j = i) → rd (envAt env l vs) s = v
  | [], vs, env, i, o, v, ho, _, _, _ => by simp at ho
  | o' :: l, [], env, i, o, v, _, hv, _, _ => by simp at hv
  | o' :: l, v' :: vs, env, i, o, v, ho, hv, hd, hu => by
    simp only [envAt]
    cases i with
    | zero =>
      simp at ho hv
      subst ho hv
      rw [envAt_none l vs _ (fun j p hp e => by have := hu (j + 1) p (by simpa using hp) e; omega)]
      rw [hd]
      simp [setd, rd]
    | succ i =>
      simp at ho hv
      exact envAt_some l vs _ i o v ho hv hd (fun j p hp e => by have := hu (j + 1) p (by simpa using hp) e; omega)

structure DrawOk (N : Nat) (ops : Array Oper) : Prop where
  dst : ∀ (i : Nat) (o : Oper), ops[i]? = some o → o.dst.all (· < N) = true
  back : ∀ (i : Nat) (o : Oper), ops[i]? = some o → ∀ e ∈ o.after, Region.binds .any e = true → e.on < i
  self : ∀ (i : Nat) (o : Oper) (d : Nat), ops[i]? = some o → o.dst = some d → d ∉ o.looksAt ops
  one : ∀ (i j : Nat) (o p : Oper) (d : Nat), ops[i]? = some o → ops[j]? = some p → o.dst = some d → p.dst = some d → i = j
  look : ∀ (i j : Nat) (o p : Oper) (d : Nat), ops[i]? = some o → ops[j]? = some p → i ≠ j → p.dst = some d → d ∈ o.looksAt ops →
    (j < i ∧ ∃ e ∈ o.after, Region.binds .any e = true ∧ e.on = j) ∨ (i < j ∧ ∃ e ∈ p.after, Region.binds .any e = true ∧ e.on = i)

theorem drawOk.spec (hk : drawOk N ops = true) : DrawOk N ops := by
  have key : ∀ (i : Nat) (o : Oper), ops[i]? = some o → (o.dst.all (· < N) = true) ∧ (∀ e ∈ o.after, Region.binds .any e = true → e.on < i) ∧
      ∀ (j : Nat) (p : Oper) (d : Nat), ops[j]? = some p → p.dst = some d → (i = j → d ∉ o.looksAt ops) ∧ (i ≠ j → o.dst ≠ some d ∧ (d ∈ o.looksAt ops →
        (j < i ∧ ∃ e ∈ o.after, Region.binds .any e = true ∧ e.on = j) ∨ (i < j ∧ ∃ e ∈ p.after, Region.binds .any e = true ∧ e.on = i))) := by
    intro i o ho
    have hi : i < ops.size := (Array.getElem?_eq_some_iff.1 ho).1
    have h1 := List.all_eq_true.1 hk i (List.mem_range.2 hi)
    simp only [ho, Bool.and_eq_true] at h1
    obtain ⟨⟨h1, h2⟩, h3⟩ := h1
    refine ⟨h1, fun e he hb => ?_, fun j p d hp hd => ?_⟩
    · have := Array.all_eq_true_iff_forall_mem.1 h2 e he
      simpa [hb] using this
    · have hj : j < ops.size := (Array.getElem?_eq_some_iff.1 hp).1
      have h4 := List.all_eq_true.1 h3 j (List.mem_range.2 hj)
      simp only [hp, hd] at h4
      refine ⟨fun e => ?_, fun e => ?_⟩
      · rw [if_pos e] at h4; simpa using h4
      · rw [if_neg e] at h4
        simp only [Bool.and_eq_true, bne_iff_ne, ne_eq, Bool.or_eq_true] at h4
        refine ⟨h4.1, fun hl => ?_⟩
        rcases h4.2 with (h5 | h5) | h5
        · simp [hl] at h5
        · simp only [Bool.and_eq_true, decide_eq_true_eq] at h5
          obtain ⟨h6, h7⟩ := h5
          obtain ⟨e, he, hb⟩ := Array.any_eq_true'.1 h7
          simp only [Bool.and_eq_true, beq_iff_eq] at hb
          exact .inl ⟨h6, e, he, hb.1, hb.2⟩
        · simp only [Bool.and_eq_true, decide_eq_true_eq] at h5
          obtain ⟨h6, h7⟩ := h5
          obtain ⟨e, he, hb⟩ := Array.any_eq_true'.1 h7
          simp only [Bool.and_eq_true, beq_iff_eq] at hb
          exact .inr ⟨h6, e, he, hb.1, hb.2⟩
  exact ⟨fun i o ho => (key i o ho).1, fun i o ho => (key i o ho).2.1, fun i o d ho hd => ((key i o ho).2.2 i o d ho hd).1 rfl,
    fun i j o p d ho hp hd he => by
      by_cases hij : i = j
      · exact hij
      · exact absurd hd (((key i o ho).2.2 j p d hp he).2 hij).1,
    fun i j o p d ho hp hij hd hl => (((key i o ho).2.2 j p d hp hd).2 hij).2 hl⟩


/-- The carried out operations `S`: slots, and that `S` is closed downward. -/
structure Mid (N : Nat) (ops : Array Oper) (env : Env) (vs : List AV) (h : Hp) (ι : Nat → Bk) (A : Nat → Prop) (S : Nat → Bool) (a : Act) (w : World) : Prop where
  size : a.tmps.size = N
  defers : a.defers = []
  put : ∀ (i : Nat) (o : Oper) (v : AV) (s : Nat), S i = true → ops[i]? = some o → vs[i]? = some v → o.dst = some s → VR w h ι A v (a.tmps.getD s undef)
  left : ∀ s, (∀ (i : Nat) (o : Oper), S i = true → ops[i]? = some o → o.dst ≠ some s) → VR w h ι A (rd env s) (a.tmps.getD s undef)
  down : ∀ (i : Nat) (o : Oper), S i = true → ops[i]? = some o → ∀ e ∈ o.after, Region.binds .any e = true → S e.on = true

theorem unlisted_lt {n i : Nat} {listed : Array Bool} (hi : i < n) (hn : listed.size = n) (hu : listed.getD i true = false) :
    ((List.range n).filter fun j => !(listed.setIfInBounds i true).getD j true).length < ((List.range n).filter fun j => !listed.getD j true).length := by
  have e : ((List.range n).filter fun j => !(listed.setIfInBounds i true).getD j true) = ((List.range n).filter fun j => !listed.getD j true).filter (· != i) := by
    rw [List.filter_filter]
    apply List.filter_congr
    intro j hj
    simp only [Array.getD_eq_getD_getElem?]
    by_cases hij : i = j
    · subst hij
      rw [Array.getElem?_setIfInBounds_self_of_lt (by omega)]
      simp
    · rw [Array.getElem?_setIfInBounds_ne hij]
      have : (j != i) = true := by simp; omega
      simp [this]
  rw [e]
  apply List.length_filter_lt_length_iff_exists.2
  exact ⟨i, List.mem_filter.2 ⟨List.mem_range.2 hi, by simp [hu]⟩, by simp⟩

theorem AW.draw {id : Nat} {Q : Exit → Env → Hp → Prop} (hm : P.follows .mixedOrders = true) (hk : drawOk N ops = true) (hq : QOps P ops h ops.toList env (fun e => Q .normal e h)) :
    AW P N (.region id ops true) env h Q := by
  have D := drawOk.spec hk
  obtain ⟨vs, hlen, hK, hvs⟩ := QOps.vals _ _ hq
  have hlen' : vs.length = ops.size := by simpa using hlen
  intro X a w ι H S
  refine wp_region_any hm ?_
  have hdrew : Below w.heap.size w { w with drawn := w.drawn + 1 } := ⟨rfl, rfl, rfl, Nat.le_refl _, fun _ _ => rfl⟩
  have H' := H.below hdrew
  have S' := S.below hdrew
  generalize ({ w with drawn := w.drawn + 1 } : World) = w1 at H' S'
  clear hdrew H S w
  -- the induction
  have main : ∀ (fuel : Nat) (listed : Array Bool) (a : Act) (w : World), listed.size = ops.size → ((List.range ops.size).filter fun j => !listed.getD j true).length ≤ fuel → Hol X h ι w →
      Mid N ops env vs h ι (Own X.B h ι) (fun i => listed.getD i false) a w →
      wpAny P .any ops (fun e a' w' => ∃ env' h' ι', Q e env' h' ∧ Hol X h' ι' w' ∧ Slots N env' h' ι' (Own X.B h' ι') a' w') fuel listed a w := by
    have fin : ∀ (listed : Array Bool) (a : Act) (w : World), listed.size = ops.size → Region.ready .any ops listed = [] → Hol X h ι w → Mid N ops env vs h ι (Own X.B h ι) (fun i => listed.getD i false) a w →
        ∃ env' h' ι', Q .normal env' h' ∧ Hol X h' ι' w ∧ Slots N env' h' ι' (Own X.B h' ι') a w := by
      intro listed a w hsz hr H M
      have all : ∀ i, i < ops.size → listed.getD i false = true := by
        intro i
        induction i using Nat.strongRecOn with
        | _ i ih =>
          intro hi
          cases hl : listed.getD i false with
          | true => rfl
          | false =>
            exfalso
            have hmem : i ∈ Region.ready .any ops listed := by
              unfold Region.ready
              refine List.mem_filter.2 ⟨List.mem_range.2 hi, ?_⟩
              have ho : ops[i]? = some ops[i] := Array.getElem?_eq_getElem hi
              have hl' : listed.getD i true = false := by
                have hi' : i < listed.size := by omega
                simp only [Array.getD_eq_getD_getElem?, Array.getElem?_eq_getElem hi', Option.getD_some] at hl ⊢
                exact hl
              simp only [hl', Bool.not_false, Bool.true_and, ho, Option.map_some, Option.getD_some]
              refine Array.all_eq_true_iff_forall_mem.2 fun e he => ?_
              cases hb : Region.binds .any e with
              | false => simp
              | true =>
                have := D.back i _ ho e he hb
                simp [ih e.on this (by omega)]
            rw [hr] at hmem
            cases hmem
      refine ⟨_, h, ι, hK, H, M.size, M.defers, fun s => ?_⟩
      by_cases hex : ∃ (i : Nat) (o : Oper), ops[i]? = some o ∧ o.dst = some s
      · obtain ⟨i, o, ho, hd⟩ := hex
        have hi : i < ops.size := (Array.getElem?_eq_some_iff.1 ho).1
        have hv : vs[i]? = some (vs[i]'(by omega)) := List.getElem?_eq_getElem (by omega)
        rw [envAt_some ops.toList vs env i o _ (by simpa using ho) hv hd (fun j p hp e => (D.one i j o p s ho (by simpa using hp) hd e).symm)]
        exact M.put i o _ s (all i hi) ho hv hd
      · rw [envAt_none ops.toList vs env (fun i o ho e => hex ⟨i, o, by simpa using ho, e⟩)]
        exact M.left s (fun i o _ ho e => hex ⟨i, o, ho, e⟩)
    intro fuel
    induction fuel with
    | zero =>
      intro listed a w hsz hc H M
      have hr : Region.ready .any ops listed = [] := by
        have h0 : ((List.range ops.size).filter fun j => !listed.getD j true) = [] := List.eq_nil_of_length_eq_zero (by omega)
        unfold Region.ready
        rw [List.filter_eq_nil_iff] at h0 ⊢
        intro i hi
        have := h0 i hi
        simp only [Bool.not_eq_true, Bool.not_eq_false'] at this
        simp [this]
      exact ⟨hr, fin listed a w hsz hr H M⟩
    | succ fuel ih =>
      intro listed a w hsz hc H M
      refine ⟨fun hr => fin listed a w hsz hr H M, fun i hi => ?_⟩
      unfold Region.ready at hi
      obtain ⟨hir, hi2⟩ := List.mem_filter.1 hi
      have hi' : i < ops.size := List.mem_range.1 hir
      have ho : ops[i]? = some ops[i] := Array.getElem?_eq_getElem hi'
      simp only [ho, Option.map_some, Option.getD_some, Bool.and_eq_true, Bool.not_eq_true'] at hi2
      obtain ⟨hul, hpred⟩ := hi2
      have hpred' : ∀ e ∈ (ops[i]).after, Region.binds .any e = true → listed.getD e.on false = true := fun e he hb => by
        have := Array.all_eq_true_iff_forall_mem.1 hpred e he
        simpa [hb] using this
      have hulf : listed.getD i false = false := by
        have hi'' : i < listed.size := by omega
        simp only [Array.getD_eq_getD_getElem?, Array.getElem?_eq_getElem hi'', Option.getD_some] at hul ⊢
        exact hul
      have hv : vs[i]? = some (vs[i]'(by omega)) := List.getElem?_eq_getElem (by omega)
      have hqi := hvs i ops[i] _ (by simp) hv
      simp only [wpOp, ho]
      -- the slots that it looks at hold what they hold in the order of the text
      have hlook : ∀ s, s ∈ (ops[i]).looksAt ops → VR w h ι (Own X.B h ι) (rd (envAt env (ops.toList.take i) (vs.take i)) s) (a.tmps.getD s undef) := by
        intro s hs
        by_cases hex : ∃ (j : Nat) (p : Oper), ops[j]? = some p ∧ p.dst = some s
        · obtain ⟨j, p, hp, hd⟩ := hex
          have hj : j < ops.size := (Array.getElem?_eq_some_iff.1 hp).1
          have hij : i ≠ j := by
            rintro rfl
            rw [ho] at hp
            cases hp
            exact D.self i _ s ho hd hs
          rcases D.look i j _ p s ho hp hij hd hs with ⟨hlt, e, he, hb, hon⟩ | ⟨hlt, e, he, hb, hon⟩
          · have hS : listed.getD j false = true := hon ▸ hpred' e he hb
            have hvj : vs[j]? = some (vs[j]'(by omega)) := List.getElem?_eq_getElem (by omega)
            rw [envAt_some (ops.toList.take i) (vs.take i) env j p (vs[j]'(by omega)) (by rw [List.getElem?_take, if_pos hlt]; simpa using hp) (by rw [List.getElem?_take, if_pos hlt]; exact hvj) hd
              (fun k q hq e => by
                rw [List.getElem?_take] at hq
                split at hq
                · exact (D.one j k p q s hp (by simpa using hq) hd e).symm
                · cases hq)]
            exact M.put j p _ s hS hp hvj hd
          · rw [envAt_none (ops.toList.take i) (vs.take i) env (fun k q hq e => by
              rw [List.getElem?_take] at hq
              split at hq
              · have := D.one j k p q s hp (by simpa using hq) hd e
                omega
              · cases hq)]
            refine M.left s (fun k q hk hq e => ?_)
            have hjk := D.one j k p q s hp hq hd e
            subst hjk
            rw [hp] at hq
            cases hq
            have := M.down j p hk hp _ he hb
            rw [hon] at this
            simp [hulf] at this
        · rw [envAt_none (ops.toList.take i) (vs.take i) env (fun k q hq e => by
            rw [List.getElem?_take] at hq
            split at hq
            · exact hex ⟨k, q, by simpa using hq, e⟩
            · cases hq)]
          exact M.left s (fun k q _ hq e => hex ⟨k, q, hq, e⟩)
      have step := hqi X a w ι (fun e a' w' => ∃ env' h' ι', Q e env' h' ∧ Hol X h' ι' w' ∧ Slots N env' h' ι' (Own X.B h' ι') a' w') H hlook
        (wpAny P .any ops (fun e a' w' => ∃ env' h' ι', Q e env' h' ∧ Hol X h' ι' w' ∧ Slots N env' h' ι' (Own X.B h' ι') a' w') fuel (listed.setIfInBounds i true)) ?_
      · split
        · rename_i hw; rw [if_pos hw] at step; exact .inl step
        · rename_i hw; rw [if_neg hw] at step; exact step
      · intro v w' hb hvv
        refine ih _ _ _ (by simpa using hsz) ?_ (H.below hb) ?_
        · have := unlisted_lt hi' hsz hul
          omega
        · have hset : ∀ k, (listed.setIfInBounds i true).getD k false = if k = i then true else listed.getD k false := by
            intro k
            simp only [Array.getD_eq_getD_getElem?]
            by_cases hki : k = i
            · subst hki; rw [Array.getElem?_setIfInBounds_self_of_lt (by omega)]; simp
            · rw [Array.getElem?_setIfInBounds_ne (fun e => hki e.symm)]; simp [hki]
          have hKB : Keep w h ι (Own X.B h ι) w' h ι (Own X.B h ι) := Keep.below hb
          have hother : ∀ s, (ops[i]).dst ≠ some s → (a.put (ops[i]).dst v).tmps.getD s undef = a.tmps.getD s undef := by
            intro s hs
            cases hd : (ops[i]).dst with
            | none => rfl
            | some d =>
              have : d ≠ s := fun e => hs (by rw [hd, e])
              simp only [Act.put, Array.getD_eq_getD_getElem?, Array.getElem?_setIfInBounds_ne this]
          have hself : ∀ s, (ops[i]).dst = some s → (a.put (ops[i]).dst v).tmps.getD s undef = v := by
            intro s hs
            have hsN : s < N := by have := D.dst i _ ho; rw [hs] at this; simpa using this
            rw [hs]
            simp only [Act.put, Array.getD_eq_getD_getElem?]
            rw [Array.getElem?_setIfInBounds_self_of_lt (by rw [M.size]; exact hsN)]
            rfl
          refine ⟨?_, ?_, ?_, ?_, ?_⟩
          · rw [← M.size]; unfold Act.put; split <;> simp
          · rw [← M.defers]; unfold Act.put; split <;> rfl
          · intro k o u s hk hok huk hd
            simp only [hset] at hk
            by_cases hki : k = i
            · subst hki
              rw [ho] at hok; cases hok
              rw [hv] at huk; cases huk
              rw [hself s hd]
              exact hvv
            · rw [if_neg hki] at hk
              rw [hother s (fun e => hki (D.one k i o _ s hok ho hd e))]
              exact VR.keep hKB _ _ (M.put k o u s hk hok huk hd)
          · intro s hs
            have hne : (ops[i]).dst ≠ some s := hs i _ (by simp [hset]) ho
            rw [hother s hne]
            refine VR.keep hKB _ _ (M.left s fun k o hk hok => hs k o ?_ hok)
            simp only [hset]
            split
            · rfl
            · exact hk
          · intro k o hk hok e he hb'
            simp only [hset] at hk ⊢
            by_cases hki : k = i
            · subst hki
              rw [ho] at hok; cases hok
              have := hpred' e he hb'
              split
              · rfl
              · exact this
            · rw [if_neg hki] at hk
              have := M.down k o hk hok e he hb'
              split
              · rfl
              · exact this
  refine main ops.size _ a w1 (by simp) ?_ H' ⟨S'.size, S'.defers, ?_, ?_, ?_⟩
  · exact Nat.le_trans (List.length_filter_le _ _) (by simp)
  · intro i o v s hS
    exfalso
    have : (Array.replicate ops.size false).getD i false = false := by
      simp only [Array.getD_eq_getD_getElem?, Array.getElem?_replicate]; split <;> rfl
    simp only [this] at hS
    cases hS
  · exact fun s _ => S'.at_ s
  · intro i o hS
    exfalso
    have : (Array.replicate ops.size false).getD i false = false := by
      simp only [Array.getD_eq_getD_getElem?, Array.getElem?_replicate]; split <;> rfl
    simp only [this] at hS
    cases hS

theorem AW.drawSeq {id : Nat} {y : Code} {Q : Exit → Env → Hp → Prop} (hm : P.follows .mixedOrders = true) (hk : drawOk N ops = true) (hq : QOps P ops h ops.toList env (fun e => AW P N y e h Q)) :
    AW P N (.seq (.region id ops true) y) env h Q :=
  AW.seq (AW.draw hm hk hq)

end
end Go.Abs
