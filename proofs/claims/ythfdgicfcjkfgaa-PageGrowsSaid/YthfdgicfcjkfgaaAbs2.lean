/-
  Own work. The abstract layer, part 2: the relation between an abstract state and a machine state; quiet operations; regions in the order of the text and in any order; control; contracts of functions.
-/
import Derived.Test.YthfdgicfcjkfgaaAbs1
import Derived.Orders
import Derived.Scope
import Derived.Deep.LoopGhost
import Derived.OwnWalk
set_option linter.unusedSimpArgs false
set_option linter.unusedVariables false
namespace Go.Abs
open Go.RowKit

/-- The world when the call began, the blocks that callers own and that nothing here may touch, the blocks that were handed in to be written. -/
structure Ctx where
  w0 : World
  B : Nat → Prop
  S : Nat → Prop

def Own (B : Nat → Prop) (h : Hp) (ι : Nat → Bk) (β : Nat) : Prop := B β ∨ ∃ r rt, h.at r = some rt ∧ rt.live = true ∧ (ι r).blk = some β

def RootOK (w : World) (h : Hp) (ι : Nat → Bk) (A : Nat → Prop) (b : Bk) (rt : Rt) : Prop :=
  (b.blk = none ∧ rt.cs = [] ∧ b.cap = 0) ∨
  ∃ (g : Nat) (arr : Array Value), b.blk = some g ∧ w.heap[g]? = some (.cells arr rt.e (0, 0)) ∧ arr.size = b.cap * rt.k ∧ b.cap ≤ maxLen ∧ VRL w h ι A rt.cs (arr.toList.take rt.cs.length) ∧ ∀ u ∈ arr.toList.take rt.cs.length, u.oneCell' = true

structure Hol (X : Ctx) (h : Hp) (ι : Nat → Bk) (w : World) : Prop where
  roots : ∀ r rt, h.at r = some rt → rt.live = true → RootOK w h ι (Own X.B h ι) (ι r) rt
  inj : ∀ r r' rt rt' g, h.at r = some rt → h.at r' = some rt' → rt.live = true → rt'.live = true → (ι r).blk = some g → (ι r').blk = some g → r = r'
  place : ∀ r rt g, h.at r = some rt → rt.live = true → (ι r).blk = some g → ¬ X.B g ∧ (X.w0.heap.size ≤ g ∨ X.S g)
  os : w.os = X.w0.os
  tape : w.tape = X.w0.tape
  output : w.output = X.w0.output
  size : X.w0.heap.size ≤ w.heap.size
  frame : ∀ β, β < X.w0.heap.size → ¬ X.S β → w.heap[β]? = X.w0.heap[β]?
  old : ∀ β, X.B β → β < X.w0.heap.size ∧ ¬ X.S β

structure Slots (N : Nat) (env : Env) (h : Hp) (ι : Nat → Bk) (A : Nat → Prop) (a : Act) (w : World) : Prop where
  size : a.tmps.size = N
  defers : a.defers = []
  at_ : ∀ i, VR w h ι A (rd env i) (a.tmps.getD i undef)

theorem Keep.below {w w' : World} {h : Hp} {ι : Nat → Bk} {A : Nat → Prop} (hb : Below w.heap.size w w') : Keep w h ι A w' h ι A :=
  ⟨fun β hβ hA => ⟨hb.block β hβ, hA⟩, fun _ rt hr => ⟨rt, hr, Nat.le_refl _, fun _ => ⟨rfl, rfl⟩⟩⟩

theorem lt_of_heap {w : World} {g : Nat} {o : Obj} (h : w.heap[g]? = some o) : g < w.heap.size := (Array.getElem?_eq_some_iff.1 h).1

theorem RootOK.below {w w' : World} {h : Hp} {ι : Nat → Bk} {A : Nat → Prop} {b : Bk} {rt : Rt} (hb : Below w.heap.size w w') (hr : RootOK w h ι A b rt) : RootOK w' h ι A b rt := by
  rcases hr with hr | ⟨g, arr, h1, h2, h3, h4, h5⟩
  · exact .inl hr
  · exact .inr ⟨g, arr, h1, (hb.block g (lt_of_heap h2)).trans h2, h3, h4, VRL.keep (Keep.below hb) _ _ h5.1, h5.2⟩

theorem Hol.below {X : Ctx} {h : Hp} {ι : Nat → Bk} {w w' : World} (H : Hol X h ι w) (hb : Below w.heap.size w w') : Hol X h ι w' where
  roots r rt hr hl := (H.roots r rt hr hl).below hb
  inj := H.inj
  place := H.place
  os := hb.os.trans H.os
  tape := hb.tape.trans H.tape
  output := hb.output.trans H.output
  size := Nat.le_trans H.size hb.size
  frame β hβ hS := (hb.block β (Nat.lt_of_lt_of_le hβ H.size)).trans (H.frame β hβ hS)
  old := H.old

theorem Slots.below {N : Nat} {env : Env} {h : Hp} {ι : Nat → Bk} {A : Nat → Prop} {a : Act} {w w' : World} (H : Slots N env h ι A a w) (hb : Below w.heap.size w w') : Slots N env h ι A a w' :=
  ⟨H.size, H.defers, fun i => VR.keep (Keep.below hb) _ _ (H.at_ i)⟩

/-- A new value in slot `d`. -/
theorem Slots.put {N : Nat} {env : Env} {h : Hp} {ι : Nat → Bk} {A : Nat → Prop} {a : Act} {w : World} (H : Slots N env h ι A a w) {d : Nat} (hd : d < N) {v : Value} {av : AV}
    (hv : VR w h ι A av v) : Slots N ((d, av) :: env) h ι A (a.put (some d) v) w := by
  refine ⟨by simpa [Act.put] using H.size, H.defers, fun i => ?_⟩
  by_cases hi : d = i
  · subst hi
    have : d < a.tmps.size := by rw [H.size]; exact hd
    simp only [rd, if_true, Act.put, Array.getD_eq_getD_getElem?, Array.getElem?_setIfInBounds_self_of_lt this, Option.getD_some]
    exact hv
  · simp only [rd, if_neg hi, Act.put, Array.getD_eq_getD_getElem?, Array.getElem?_setIfInBounds_ne hi]
    simpa [Array.getD_eq_getD_getElem?] using H.at_ i

theorem Slots.put_none {N : Nat} {env : Env} {h : Hp} {ι : Nat → Bk} {A : Nat → Prop} {a : Act} {w : World} (H : Slots N env h ι A a w) (v : Value) : Slots N env h ι A (a.put none v) w := H

def setd (env : Env) : Option Nat → AV → Env
  | some d, v => (d, v) :: env
  | none, _ => env

theorem Slots.putd {N : Nat} {env : Env} {h : Hp} {ι : Nat → Bk} {A : Nat → Prop} {a : Act} {w : World} (H : Slots N env h ι A a w) {d : Option Nat} (hd : d.all (· < N) = true) {v : Value} {av : AV}
    (hv : VR w h ι A av v) : Slots N (setd env d av) h ι A (a.put d v) w := by
  cases d with
  | none => exact H
  | some d => exact H.put (by simpa using hd) hv

/-- An operation that leaves all blocks as they are (it may add some) and yields `av`. -/
def Quiet (P : Program) (ops : Array Oper) (o : Oper) (env : Env) (h : Hp) (av : AV) : Prop :=
  ∀ (X : Ctx) (a : Act) (w : World) (ι : Nat → Bk) (Q : Exit → Act → World → Prop), Hol X h ι w →
    (∀ s, s ∈ o.looksAt ops → VR w h ι (Own X.B h ι) (rd env s) (a.tmps.getD s undef)) →
    ∀ next : Act → World → Prop, (∀ v w', Below w.heap.size w w' → VR w' h ι (Own X.B h ι) av v → next (a.put o.dst v) w') →
      if Region.wanted o (yielded ops a.tmps) then o.wp P a w next Q else next (a.put o.dst undef) w

/-- The operations `l` of a region, in the order of the text. -/
def OpsW (P : Program) (N : Nat) (ops : Array Oper) (l : List Oper) (env : Env) (h : Hp) (K : Env → Hp → Prop) : Prop :=
  ∀ (X : Ctx) (a : Act) (w : World) (ι : Nat → Bk) (Q : Exit → Act → World → Prop), Hol X h ι w → Slots N env h ι (Own X.B h ι) a w →
    (∀ env' h' ι' a' w', K env' h' → Hol X h' ι' w' → Slots N env' h' ι' (Own X.B h' ι') a' w' → Q .normal a' w') → wpList P ops Q l a w

section
variable {P : Program} {N : Nat} {ops : Array Oper} {env : Env} {h : Hp} {K : Env → Hp → Prop}

theorem OpsW.nil (hK : K env h) : OpsW P N ops [] env h K := fun _ _ _ ι _ H S hQ => hQ env h ι _ _ hK H S

theorem OpsW.quiet {o : Oper} {rest : List Oper} {av : AV} (hd : o.dst.all (· < N) = true) (hq : Quiet P ops o env h av) (hr : OpsW P N ops rest (setd env o.dst av) h K) :
    OpsW P N ops (o :: rest) env h K := by
  intro X a w ι Q H S hQ
  refine wpList_step fun K' hK' => ?_
  refine hq X a w ι Q H (fun s _ => S.at_ s) K' (fun v w' hb hv => hK' _ _ ?_)
  exact hr X _ w' ι Q (H.below hb) ((S.below hb).putd hd hv) hQ

theorem OpsW.mono {l : List Oper} {K' : Env → Hp → Prop} (hw : OpsW P N ops l env h K) (hk : ∀ e h, K e h → K' e h) : OpsW P N ops l env h K' :=
  fun X a w ι Q H S hQ => hw X a w ι Q H S fun env' h' ι' a' w' hK => hQ env' h' ι' a' w' (hk _ _ hK)

/-- A piece of code: from every machine state that the abstract state describes it comes to one that `Q` describes. -/
def AW (P : Program) (N : Nat) (c : Code) (env : Env) (h : Hp) (Q : Exit → Env → Hp → Prop) : Prop :=
  ∀ (X : Ctx) (a : Act) (w : World) (ι : Nat → Bk), Hol X h ι w → Slots N env h ι (Own X.B h ι) a w →
    c.wp P (fun e a' w' => ∃ env' h' ι', Q e env' h' ∧ Hol X h' ι' w' ∧ Slots N env' h' ι' (Own X.B h' ι') a' w') a w

def Ex.then (next : Env → Hp → Prop) (Q : Exit → Env → Hp → Prop) : Exit → Env → Hp → Prop
  | .normal, e, h => next e h
  | x, e, h => Q x e h

def Ex.inBlock (id : Nat) (Q : Exit → Env → Hp → Prop) : Exit → Env → Hp → Prop
  | .exit id', e, h => if id' = id then Q .normal e h else Q (.exit id') e h
  | x, e, h => Q x e h

def Ex.noGoto (Q : Exit → Env → Hp → Prop) : Exit → Env → Hp → Prop
  | .goto _, _, _ => False
  | x, e, h => Q x e h

variable {Q : Exit → Env → Hp → Prop}

theorem AW.mono {c : Code} {Q' : Exit → Env → Hp → Prop} (hw : AW P N c env h Q) (hq : ∀ x e h, Q x e h → Q' x e h) : AW P N c env h Q' :=
  fun X a w ι H S => wp_mono (hw X a w ι H S) fun _ _ _ ⟨e, h', ι', q, r⟩ => ⟨e, h', ι', hq _ _ _ q, r⟩

theorem AW.region {id : Nat} {ops : Array Oper} (hw : OpsW P N ops ops.toList env h (Q .normal)) : AW P N (.region id ops false) env h Q := by
  intro X a w ι H S
  refine wp_region_list (hw X a w ι _ H S fun env' h' ι' a' w' hK H' S' => ⟨env', h', ι', hK, H', S'⟩)

theorem AW.seq {x y : Code} (hw : AW P N x env h (Ex.then (fun e h => AW P N y e h Q) Q)) : AW P N (.seq x y) env h Q := by
  intro X a w ι H S
  refine wp_seq (wp_mono (hw X a w ι H S) ?_)
  rintro e a' w' ⟨env', h', ι', hq, H', S'⟩
  cases e with
  | normal => exact hq X a' w' ι' H' S'
  | _ => exact ⟨env', h', ι', hq, H', S'⟩

theorem AW.regionSeq {id : Nat} {ops : Array Oper} {y : Code} (hw : OpsW P N ops ops.toList env h (fun e h => AW P N y e h Q)) : AW P N (.seq (.region id ops false) y) env h Q :=
  AW.seq (AW.region hw)

theorem AW.skip (hq : Q .normal env h) : AW P N .skip env h Q := fun _ _ _ ι H S => wp_skip ⟨env, h, ι, hq, H, S⟩
theorem AW.label {l : Nat} (hq : Q .normal env h) : AW P N (.label l) env h Q := fun _ _ _ ι H S => wp_label ⟨env, h, ι, hq, H, S⟩
theorem AW.exit {id : Nat} (hq : Q (.exit id) env h) : AW P N (.exit id) env h Q := fun _ _ _ ι H S => wp_exit ⟨env, h, ι, hq, H, S⟩
theorem AW.goto {l : Nat} (hq : Q (.goto l) env h) : AW P N (.goto l) env h Q := fun _ _ _ ι H S => wp_goto ⟨env, h, ι, hq, H, S⟩
theorem AW.ret (hq : Q .ret env h) : AW P N .ret env h Q := fun _ _ _ ι H S => wp_ret ⟨env, h, ι, hq, H, S⟩

theorem AW.block {id : Nat} {c : Code} (hw : AW P N c env h (Ex.inBlock id Q)) : AW P N (.block id c) env h Q := by
  intro X a w ι H S
  refine wp_block (wp_mono (hw X a w ι H S) ?_)
  rintro e a' w' ⟨env', h', ι', hq, H', S'⟩
  cases e with
  | exit id' =>
    simp only [Exit.inBlock, Ex.inBlock] at hq ⊢
    split
    · rename_i hid; rw [if_pos hid] at hq; exact ⟨env', h', ι', hq, H', S'⟩
    · rename_i hid; rw [if_neg hid] at hq; exact ⟨env', h', ι', hq, H', S'⟩
  | _ => exact ⟨env', h', ι', hq, H', S'⟩

theorem AW.scope {c : Code} (hw : AW P N c env h (Ex.noGoto Q)) : AW P N (.scope c) env h Q := by
  intro X a w ι H S
  refine wp_scope_straight (wp_mono (hw X a w ι H S) ?_)
  rintro e a' w' ⟨env', h', ι', hq, H', S'⟩
  cases e with
  | goto l => exact hq.elim
  | _ => exact ⟨env', h', ι', hq, H', S'⟩

/-- Values without memory. -/
abbrev AV.int (k : IntKind) (n : Int) : AV := .im (.val (.int k n))
abbrev AV.bool (b : Bool) : AV := .im (.val (.bool b))
abbrev AV.string (s : ByteArray) : AV := .im (.val (.string s))

def rdo (env : Env) : Operand → AV
  | .tmp t => rd env t
  | .const v => .im (.val v)
  | .global g => .im (.val (.pointer (some ⟨g, 0, none⟩)))
  | .func f => .im (.val (.func (.func f) #[] #[]))

theorem Slots.eval {N : Nat} {env : Env} {h : Hp} {ι : Nat → Bk} {A : Nat → Prop} {a : Act} {w : World} (H : Slots N env h ι A a w) (x : Operand) : VR w h ι A (rdo env x) (a.eval x) := by
  cases x with
  | tmp t => exact H.at_ t
  | _ => simp [rdo, Act.eval, VR, VRI]

theorem VR.int_iff {w : World} {h : Hp} {ι : Nat → Bk} {A : Nat → Prop} {k : IntKind} {n : Int} {v : Value} : VR w h ι A (.int k n) v ↔ v = .int k n := by simp [VR, VRI]
theorem VR.bool_iff {w : World} {h : Hp} {ι : Nat → Bk} {A : Nat → Prop} {b : Bool} {v : Value} : VR w h ι A (.bool b) v ↔ v = .bool b := by simp [VR, VRI]
theorem VR.val_iff {w : World} {h : Hp} {ι : Nat → Bk} {A : Nat → Prop} {u v : Value} : VR w h ι A (.im (.val u)) v ↔ v = u := by simp [VR, VRI]

theorem AW.cond {c : Operand} {x y : Code} {b : Bool} (hc : rdo env c = .bool b) (ht : b = true → AW P N x env h Q) (hf : b = false → AW P N y env h Q) : AW P N (.cond c x y) env h Q := by
  intro X a w ι H S
  have hv := S.eval c
  rw [hc, VR.bool_iff] at hv
  exact wp_cond_split hv (fun e => ht e X a w ι H S) (fun e => hf e X a w ι H S)

/-- Forgetting: what the second state says, the first one says, too. -/
def Env.le (env env' : Env) : Prop := ∀ i, rd env' i = .any ∨ rd env i = rd env' i

theorem AW.weaken {c : Code} (env' : Env) (hle : Env.le env env') (hw : AW P N c env' h Q) : AW P N c env h Q := by
  intro X a w ι H S
  refine hw X a w ι H ⟨S.size, S.defers, fun i => ?_⟩
  rcases hle i with he | he
  · rw [he]; simp [VR]
  · rw [← he]; exact S.at_ i

def Env.keep (env : Env) (l : List Nat) : Env := l.map fun i => (i, rd env i)

theorem rd_keep (env : Env) (l : List Nat) (i : Nat) : rd (env.keep l) i = if i ∈ l then rd env i else .any := by
  induction l with
  | nil => simp [Env.keep, rd]
  | cons j l ih =>
    simp only [Env.keep, List.map_cons, rd] at ih ⊢
    by_cases hj : j = i
    · subst hj; simp
    · rw [if_neg hj, ih]
      have : ¬ i = j := fun e => hj e.symm
      simp [this]

theorem AW.keep {c : Code} (l : List Nat) (hw : AW P N c (env.keep l) h Q) : AW P N c env h Q :=
  AW.weaken _ (fun i => by rw [rd_keep]; split <;> simp) hw

theorem Env.le_of_all (env env' : Env) (hall : ∀ p ∈ env', rd env p.1 = p.2) (hn : (env'.map (·.1)).Nodup) : Env.le env env' := by
  intro i
  induction env' with
  | nil => left; rfl
  | cons p r ih =>
    obtain ⟨j, v⟩ := p
    simp only [rd]
    by_cases hj : j = i
    · subst hj; right; simpa using hall (j, v) (by simp)
    · rw [if_neg hj]
      exact ih (fun p hp => hall p (by simp [hp])) (by simp at hn; simpa using hn.2)

/-- Two heaps that hold the same roots. -/
def Hp.eqv (h h' : Hp) : Prop := ∀ i, h'.at i = h.at i

theorem Own.eqv {B : Nat → Prop} {h h' : Hp} {ι : Nat → Bk} (he : Hp.eqv h h') : Own B h' ι = Own B h ι := by
  funext β; simp only [Own, he _]

theorem Keep.eqv {w : World} {h h' : Hp} {ι : Nat → Bk} {A : Nat → Prop} (he : Hp.eqv h h') : Keep w h ι A w h' ι A :=
  ⟨fun _ _ hA => ⟨rfl, hA⟩, fun r rt hr => ⟨rt, (he r).trans hr, Nat.le_refl _, fun _ => ⟨rfl, rfl⟩⟩⟩

theorem Hol.eqv {X : Ctx} {h h' : Hp} {ι : Nat → Bk} {w : World} (he : Hp.eqv h h') (H : Hol X h ι w) : Hol X h' ι w where
  roots r rt hr hl := by
    rw [Own.eqv he]
    rcases H.roots r rt ((he r).symm.trans hr) hl with h1 | ⟨g, arr, h1, h2, h3, h4, h5⟩
    · exact .inl h1
    · exact .inr ⟨g, arr, h1, h2, h3, h4, VRL.keep (Keep.eqv he) _ _ h5.1, h5.2⟩
  inj r r' rt rt' g h1 h2 := H.inj r r' rt rt' g ((he r).symm.trans h1) ((he r').symm.trans h2)
  place r rt g h1 := H.place r rt g ((he r).symm.trans h1)
  os := H.os
  tape := H.tape
  output := H.output
  size := H.size
  frame := H.frame
  old := H.old

theorem Slots.eqv {env : Env} {h h' : Hp} {ι : Nat → Bk} {B : Nat → Prop} {a : Act} {w : World} (he : Hp.eqv h h') (S : Slots N env h ι (Own B h ι) a w) : Slots N env h' ι (Own B h' ι) a w :=
  ⟨S.size, S.defers, fun i => by rw [Own.eqv he]; exact VR.keep (Keep.eqv he) _ _ (S.at_ i)⟩

theorem Slots.le {env env' : Env} {h : Hp} {ι : Nat → Bk} {A : Nat → Prop} {a : Act} {w : World} (hle : Env.le env env') (S : Slots N env h ι A a w) : Slots N env' h ι A a w := by
  refine ⟨S.size, S.defers, fun i => ?_⟩
  rcases hle i with he | he
  · rw [he]; simp [VR]
  · rw [← he]; exact S.at_ i

theorem AW.heap {c : Code} (h' : Hp) (he : Hp.eqv h h') (hw : AW P N c env h' Q) : AW P N c env h Q :=
  fun X a w ι H S => hw X a w ι (H.eqv he) (S.eqv he)

/-- A loop: a family of states under `I x`, with a measure. -/
theorem AW.loop {c : Code} {α : Type} (E : α → Env) (G : α → Hp) (I : α → Prop) (μ : α → Nat) (x0 : α) (h0 : I x0) (he : Env.le env (E x0)) (hh : Hp.eqv h (G x0))
    (round : ∀ x, I x → AW P N c (E x) (G x) (Ex.then (fun e' h' => ∃ y, I y ∧ μ y < μ x ∧ Env.le e' (E y) ∧ Hp.eqv h' (G y)) Q)) : AW P N (.loop c) env h Q := by
  intro X a w ι H S
  refine wp_loop_ghost (fun n a w => ∃ x ι, μ x = n ∧ I x ∧ Hol X (G x) ι w ∧ Slots N (E x) (G x) ι (Own X.B (G x) ι) a w) (μ x0)
    ⟨x0, ι, rfl, h0, H.eqv hh, (S.eqv hh).le he⟩ ?_
  rintro n a w ⟨x, ι, rfl, hI, H, S⟩
  refine wp_mono (round x hI X a w ι H S) ?_
  rintro e a' w' ⟨env', h', ι', hq, H', S'⟩
  cases e with
  | normal =>
    obtain ⟨y, h1, h2, h3, h4⟩ := hq
    exact ⟨μ y, h2, y, ι', rfl, h1, H'.eqv h4, (S'.eqv h4).le h3⟩
  | _ => exact ⟨env', h', ι', hq, H', S'⟩

/-- A contract: called with `args` over the roots `h` that are handed in, the function returns, and its result and the roots then are as `R` says. -/
def Spec (P : Program) (f : FuncId) (args : List AV) (h : Hp) (R : AV → Hp → Prop) : Prop :=
  ∀ (w : World) (ι : Nat → Bk) (B : Nat → Prop) (vs : List Value), Hol ⟨w, B, Own (fun _ => False) h ι⟩ h ι w → VRL w h ι (Own B h ι) args vs →
    Calls P f vs.toArray w fun e w' => ∃ v r h' ι', e = .returned v ∧ R r h' ∧ Hol ⟨w, B, Own (fun _ => False) h ι⟩ h' ι' w' ∧ VR w' h' ι' (Own B h' ι') r v

def args0 : Nat → List AV → Env
  | _, [] => []
  | i, v :: r => (i, v) :: args0 (i + 1) r

theorem rd_args0 {w : World} {h : Hp} {ι : Nat → Bk} {A : Nat → Prop} : ∀ (args : List AV) (vs : List Value) (i : Nat), VRL w h ι A args vs → ∀ j, VR w h ι A (rd (args0 i args) (i + j)) (vs[j]?.getD undef)
  | [], vs, i, hv, j => by simp [args0, rd, VR]
  | c :: cs, vs, i, hv, j => by
    simp only [VRL] at hv
    obtain ⟨v, l', rfl, hv, hr⟩ := hv
    cases j with
    | zero => simpa [args0, rd] using hv
    | succ j =>
      have := rd_args0 cs l' (i + 1) hr j
      rw [show i + 1 + j = i + (j + 1) from by omega] at this
      simp only [args0, rd, List.getElem?_cons_succ]
      rw [if_neg (by omega)]
      exact this

theorem rd_args0_lt : ∀ (args : List AV) (i j : Nat), j < i → rd (args0 i args) j = .any
  | [], i, j, _ => rfl
  | c :: cs, i, j, hj => by
    simp only [args0, rd]
    rw [if_neg (by omega)]
    exact rd_args0_lt cs (i + 1) j (by omega)

theorem rd_args0_ge : ∀ (args : List AV) (i j : Nat), i + args.length ≤ j → rd (args0 i args) j = .any
  | [], i, j, _ => rfl
  | c :: cs, i, j, hj => by
    simp only [args0, rd]
    simp only [List.length_cons] at hj
    rw [if_neg (by omega)]
    exact rd_args0_ge cs (i + 1) j (by omega)

/-- How the results of a function stand in the state in which it ends. -/
def Res (P : Program) (fn : Func) (env : Env) (h : Hp) (r : AV) : Prop :=
  ∀ (X : Ctx) (a : Act) (w : World) (ι : Nat → Bk), Hol X h ι w → Slots fn.ntmps env h ι (Own X.B h ι) a w → ∃ v, (results fn a.tmps).run P w = .ok v w ∧ VR w h ι (Own X.B h ι) r v

def Done (P : Program) (fn : Func) (R : AV → Hp → Prop) : Exit → Env → Hp → Prop
  | .normal, e, h | .ret, e, h => ∃ r, Res P fn e h r ∧ R r h
  | _, _, _ => False

theorem Spec.of_AW {f : FuncId} {fn : Func} {c : Code} {args : List AV} {h : Hp} {R : AV → Hp → Prop} (hf : P.funcs[f]? = some fn) (hb : fn.body = some c) (hn : args.length ≤ fn.ntmps)
    (hw : AW P fn.ntmps c (args0 0 args) h (Done P fn R)) : Spec P f args h R := by
  intro w ι B vs H hv
  have hlen := hv.length
  refine calls_of_wp hf hb (wp_mono (hw ⟨w, B, _⟩ _ w ι H ⟨?_, rfl, fun i => ?_⟩) ?_)
  · simp [hlen]; omega
  · by_cases hi : i < vs.length
    · have := rd_args0 args vs 0 hv i
      simp only [Nat.zero_add] at this
      simp only [Array.getD_eq_getD_getElem?]
      rw [Array.getElem?_append_left (by simpa using hi)]
      simpa using this
    · rw [rd_args0_ge args 0 i (by omega)]
      simp [VR]
  · rintro e a' w' ⟨env', h', ι', hq, H', S'⟩
    cases e with
    | normal =>
      obtain ⟨r, hres, hR⟩ := hq
      obtain ⟨v, hrun, hvr⟩ := hres _ _ _ _ H' S'
      exact ⟨S'.defers, v, hrun, v, r, h', ι', rfl, hR, H', hvr⟩
    | ret =>
      obtain ⟨r, hres, hR⟩ := hq
      obtain ⟨v, hrun, hvr⟩ := hres _ _ _ _ H' S'
      exact ⟨S'.defers, v, hrun, v, r, h', ι', rfl, hR, H', hvr⟩
    | _ => exact hq.elim

theorem Res.tmp {fn : Func} {t : Nat} (hr : fn.results = #[.tmp t]) : Res P fn env h (rd env t) :=
  fun _ a w _ _ S => ⟨_, results_tmp hr a.tmps P w, S.at_ t⟩

theorem Res.tmp2 {fn : Func} {t u : Nat} (hr : fn.results = #[.tmp t, .tmp u]) : Res P fn env h (.tup [rd env t, rd env u]) :=
  fun _ a w _ _ S => ⟨_, results_tmp2 hr a.tmps P w, by simp only [VR]; exact ⟨[_, _], rfl, by simp only [VRL]; exact ⟨_, _, rfl, S.at_ t, _, _, rfl, S.at_ u, rfl⟩⟩⟩

theorem Res.tmp3 {fn : Func} {t u s : Nat} (hr : fn.results = #[.tmp t, .tmp u, .tmp s]) : Res P fn env h (.tup [rd env t, rd env u, rd env s]) :=
  fun _ a w _ _ S => ⟨_, results_tmp3 hr a.tmps P w, by simp only [VR]; exact ⟨[_, _, _], rfl, by simp only [VRL]; exact ⟨_, _, rfl, S.at_ t, _, _, rfl, S.at_ u, _, _, rfl, S.at_ s, rfl⟩⟩⟩

theorem Spec.mono {f : FuncId} {args : List AV} {h : Hp} {R R' : AV → Hp → Prop} (hs : Spec P f args h R) (hr : ∀ r h, R r h → R' r h) : Spec P f args h R' :=
  fun w ι B vs H hv => (hs w ι B vs H hv).mono fun _ _ ⟨v, r, h', ι', h1, h2, h3⟩ => ⟨v, r, h', ι', h1, hr _ _ h2, h3⟩

end
end Go.Abs
