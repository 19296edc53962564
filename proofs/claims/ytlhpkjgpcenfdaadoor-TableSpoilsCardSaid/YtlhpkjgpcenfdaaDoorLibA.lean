/-
  Own work. Several texts of the library in one.
-/
import Derived.Test.YtlhpkjgpcenfdaaDoorGlob
import Derived.Orders
import Derived.Scope
import Derived.Deep.LoopGhost
import Derived.OwnWalk
import Derived.IntWalk
import Derived.Deep.Slices
set_option linter.unusedSimpArgs false
set_option linter.unusedVariables false
/-
  Own work. The abstract layer, part 2: the relation between an abstract state and a machine state; quiet operations; regions in the order of the text and in any order; control; contracts of functions.
-/
namespace Go.Abs
open Go.RowKit
structure Ctx where
  w0 : World
  B : Nat → Prop
  S : Nat → Prop
  pin : Nat → Option (Bk × Nat)
def pinOf (h : Hp) (ι : Nat → Bk) (r : Nat) : Option (Bk × Nat) := (h.at r).bind fun rt => if (2000 ≤ r ∧ r < 3000) ∧ rt.ver = 0 then some (ι r, rt.k) else none
def Own (B : Nat → Prop) (h : Hp) (ι : Nat → Bk) (β : Nat) : Prop := B β ∨ ∃ r rt, h.at r = some rt ∧ rt.live = true ∧ (ι r).blk = some β
def RootOK (w : World) (h : Hp) (ι : Nat → Bk) (A : Nat → Prop) (b : Bk) (rt : Rt) : Prop :=
  (b.blk = none ∧ rt.cs = [] ∧ b.cap = 0) ∨
  ∃ (g : Nat) (arr : Array Value), b.blk = some g ∧ w.heap[g]? = some (.cells arr rt.e (0, 0)) ∧ arr.size = b.cap * rt.k ∧ b.cap ≤ maxLen ∧ VRL w h ι A rt.cs (arr.toList.take rt.cs.length) ∧ ∀ u ∈ arr.toList.take rt.cs.length, u.oneCell' = true
def globAt : List (Nat × List IV) → Nat → Option (List IV)
  | [], _ => none
  | (i, l) :: r, g => if i = g then some l else globAt r g
def GlobOK (w : World) (A : Nat → Prop) : Prop := ∀ g cs, globAt globs g = some cs → ¬ A g ∧ ∃ (arr : Array Value) (e : TypeId) (fr : Nat × Nat), w.heap[g]? = some (.cells arr e fr) ∧ cs = arr.toList.map .val ∧ arr.toList ≠ [] ∧ ∀ u ∈ arr.toList, u.oneCell' = true
theorem VRIL.vals (w : World) (A : Nat → Prop) : ∀ l : List Value, VRIL w A (l.map .val) l
  | [] => by simp [VRIL]
  | v :: l => by simp only [List.map_cons, VRIL]; exact ⟨v, l, rfl, by simp [VRI], VRIL.vals w A l⟩
theorem GlobOK.vr {w : World} {h : Hp} {ι : Nat → Bk} {A : Nat → Prop} (hg : GlobOK w A) {g : Nat} {cs : List IV} (hc : globAt globs g = some cs) : VR w h ι A (.ipt cs 0) (.pointer (some ⟨g, 0, none⟩)) := by
  obtain ⟨h2, arr, e, fr, h3, rfl, _, h4⟩ := hg g cs hc
  simp only [VR]
  refine ⟨⟨g, 0, none⟩, arr.toList, by simp [Addr.add], fun i u hu => ?_, VRIL.vals w A arr.toList⟩
  have : (⟨g, 0, none⟩ : Addr).add i = ⟨g, i, none⟩ := by
    unfold Addr.add
    split
    · rename_i h; subst h; rfl
    · simp
  rw [this]
  refine ⟨?_, h2, h4 u (List.mem_of_getElem? hu)⟩
  simp only [World.cell?, h3]
  simpa using hu
theorem GlobOK.keep {w w' : World} {A A' : Nat → Prop} (hk : ∀ β, β < w.heap.size → ¬ A β → w'.heap[β]? = w.heap[β]? ∧ ¬ A' β) (hg : GlobOK w A) : GlobOK w' A' := by
  intro g cs hc
  obtain ⟨h2, arr, e, fr, h3, h4⟩ := hg g cs hc
  obtain ⟨k1, k2⟩ := hk g (Array.getElem?_eq_some_iff.1 h3).1 h2
  exact ⟨k2, arr, e, fr, k1.trans h3, h4⟩
structure Hol (X : Ctx) (h : Hp) (ι : Nat → Bk) (w : World) : Prop where
  roots : ∀ r rt, h.at r = some rt → rt.live = true → RootOK w h ι (Own X.B h ι) (ι r) rt
  inj : ∀ r r' rt rt' g, h.at r = some rt → h.at r' = some rt' → rt.live = true → rt'.live = true → (ι r).blk = some g → (ι r').blk = some g → r = r'
  place : ∀ r rt g, h.at r = some rt → rt.live = true → (ι r).blk = some g → ¬ X.B g ∧ (X.w0.heap.size ≤ g ∨ X.S g)
  os : w.os = X.w0.os
  tape : w.tape = X.w0.tape
  output : w.output = X.w0.output
  size : X.w0.heap.size ≤ w.heap.size
  frame : ∀ β, β < X.w0.heap.size → ¬ X.S β → w.heap[β]? = X.w0.heap[β]?
  old : ∀ β, X.B β → β < X.w0.heap.size ∧ ¬ X.S β
  glob : GlobOK X.w0 (fun β => X.B β ∨ X.S β)
  pin : ∀ r b k, X.pin r = some (b, k) → (2000 ≤ r ∧ r < 3000) ∧ ∃ rt, h.at r = some rt ∧ (rt.ver = 0 → ι r = b ∧ rt.k = k)
theorem Hol.globOK {X : Ctx} {h : Hp} {ι : Nat → Bk} {w : World} (H : Hol X h ι w) : GlobOK w (Own X.B h ι) :=
  H.glob.keep fun β hβ hn => ⟨H.frame β hβ fun hs => hn (.inr hs), fun ho => by
    rcases ho with ho | ⟨r, rt, hr, hl, hb⟩
    · exact hn (.inl ho)
    · rcases (H.place r rt β hr hl hb).2 with h1 | h1
      · omega
      · exact hn (.inr h1)⟩
structure Slots (N : Nat) (env : Env) (h : Hp) (ι : Nat → Bk) (A : Nat → Prop) (a : Act) (w : World) : Prop where
  size : a.tmps.size = N
  defers : a.defers = []
  at_ : ∀ i, VR w h ι A (rd env i) (a.tmps.getD i undef)
theorem Keep.below {w w' : World} {h : Hp} {ι : Nat → Bk} {A : Nat → Prop} (hb : Below w.heap.size w w') : Keep w h ι A w' h ι A :=
  ⟨fun β hβ hA => ⟨hb.block β hβ, hA⟩, fun _ rt hr => ⟨rt, hr, Nat.le_refl _, fun _ => ⟨rfl, rfl⟩⟩⟩
theorem lt_of_heap {w : World} {g : Nat} {o : Obj} (h : w.heap[g]? = some o) : g < w.heap.size := (Array.getElem?_eq_some_iff.1 h).1
theorem RootOK.below {w w' : World} {h : Hp} {ι : Nat → Bk} {A : Nat → Prop} {b : Bk} {rt : Rt} (hb : Below w.heap.size w w') (hr : RootOK w h ι A b rt) : RootOK w' h ι A b rt := by
  rcases hr with hr | ⟨g, arr, h1, h2, h3, h4, h5⟩
  · exact .inl hr
  · exact .inr ⟨g, arr, h1, (hb.block g (lt_of_heap h2)).trans h2, h3, h4, VRL.keep (Keep.below hb) _ _ h5.1, h5.2⟩
theorem Hol.below {X : Ctx} {h : Hp} {ι : Nat → Bk} {w w' : World} (H : Hol X h ι w) (hb : Below w.heap.size w w') : Hol X h ι w' where
  roots r rt hr hl := (H.roots r rt hr hl).below hb
  inj := H.inj
  place := H.place
  os := hb.os.trans H.os
  tape := hb.tape.trans H.tape
  output := hb.output.trans H.output
  size := Nat.le_trans H.size hb.size
  frame β hβ hS := (hb.block β (Nat.lt_of_lt_of_le hβ H.size)).trans (H.frame β hβ hS)
  old := H.old
  glob := H.glob
  pin := H.pin
theorem Slots.below {N : Nat} {env : Env} {h : Hp} {ι : Nat → Bk} {A : Nat → Prop} {a : Act} {w w' : World} (H : Slots N env h ι A a w) (hb : Below w.heap.size w w') : Slots N env h ι A a w' :=
  ⟨H.size, H.defers, fun i => VR.keep (Keep.below hb) _ _ (H.at_ i)⟩
theorem Slots.put {N : Nat} {env : Env} {h : Hp} {ι : Nat → Bk} {A : Nat → Prop} {a : Act} {w : World} (H : Slots N env h ι A a w) {d : Nat} (hd : d < N) {v : Value} {av : AV}
    (hv : VR w h ι A av v) : Slots N ((d, av) :: env) h ι A (a.put (some d) v) w := by
  refine ⟨by simpa [Act.put] using H.size, H.defers, fun i => ?_⟩
  by_cases hi : d = i
  · subst hi
    have : d < a.tmps.size := by rw [H.size]; exact hd
    simp only [rd, if_true, Act.put, Array.getD_eq_getD_getElem?, Array.getElem?_setIfInBounds_self_of_lt this, Option.getD_some]
    exact hv
  · simp only [rd, if_neg hi, Act.put, Array.getD_eq_getD_getElem?, Array.getElem?_setIfInBounds_ne hi]
    simpa [Array.getD_eq_getD_getElem?] using H.at_ i
def setd (env : Env) : Option Nat → AV → Env
  | some d, v => (d, v) :: env
  | none, _ => env
theorem Slots.putd {N : Nat} {env : Env} {h : Hp} {ι : Nat → Bk} {A : Nat → Prop} {a : Act} {w : World} (H : Slots N env h ι A a w) {d : Option Nat} (hd : d.all (· < N) = true) {v : Value} {av : AV}
    (hv : VR w h ι A av v) : Slots N (setd env d av) h ι A (a.put d v) w := by
  cases d with
  | none => exact H
  | some d => exact H.put (by simpa using hd) hv
def Quiet (P : Program) (ops : Array Oper) (o : Oper) (env : Env) (h : Hp) (av : AV) : Prop :=
  ∀ (X : Ctx) (a : Act) (w : World) (ι : Nat → Bk) (Q : Exit → Act → World → Prop), Hol X h ι w →
    (∀ s, s ∈ o.looksAt ops → VR w h ι (Own X.B h ι) (rd env s) (a.tmps.getD s undef)) →
    ∀ next : Act → World → Prop, (∀ v w', Below w.heap.size w w' → VR w' h ι (Own X.B h ι) av v → next (a.put o.dst v) w') →
      if Region.wanted o (yielded ops a.tmps) then o.wp P a w next Q else next (a.put o.dst undef) w
def OpsW (P : Program) (N : Nat) (ops : Array Oper) (l : List Oper) (env : Env) (h : Hp) (K : Env → Hp → Prop) : Prop :=
  ∀ (X : Ctx) (a : Act) (w : World) (ι : Nat → Bk) (Q : Exit → Act → World → Prop), Hol X h ι w → Slots N env h ι (Own X.B h ι) a w →
    (∀ env' h' ι' a' w', K env' h' → Hol X h' ι' w' → Slots N env' h' ι' (Own X.B h' ι') a' w' → Q .normal a' w') → wpList P ops Q l a w
section
variable {P : Program} {N : Nat} {ops : Array Oper} {env : Env} {h : Hp} {K : Env → Hp → Prop}
theorem OpsW.nil (hK : K env h) : OpsW P N ops [] env h K := fun _ _ _ ι _ H S hQ => hQ env h ι _ _ hK H S
theorem OpsW.quiet {o : Oper} {rest : List Oper} {av : AV} (hd : o.dst.all (· < N) = true) (hq : Quiet P ops o env h av) (hr : OpsW P N ops rest (setd env o.dst av) h K) :
    OpsW P N ops (o :: rest) env h K := by
  intro X a w ι Q H S hQ
  refine wpList_step fun K' hK' => ?_
  refine hq X a w ι Q H (fun s _ => S.at_ s) K' (fun v w' hb hv => hK' _ _ ?_)
  exact hr X _ w' ι Q (H.below hb) ((S.below hb).putd hd hv) hQ
theorem OpsW.mono {l : List Oper} {K' : Env → Hp → Prop} (hw : OpsW P N ops l env h K) (hk : ∀ e h, K e h → K' e h) : OpsW P N ops l env h K' :=
  fun X a w ι Q H S hQ => hw X a w ι Q H S fun env' h' ι' a' w' hK => hQ env' h' ι' a' w' (hk _ _ hK)
def AW (P : Program) (N : Nat) (c : Code) (env : Env) (h : Hp) (Q : Exit → Env → Hp → Prop) : Prop :=
  ∀ (X : Ctx) (a : Act) (w : World) (ι : Nat → Bk), Hol X h ι w → Slots N env h ι (Own X.B h ι) a w →
    c.wp P (fun e a' w' => ∃ env' h' ι', Q e env' h' ∧ Hol X h' ι' w' ∧ Slots N env' h' ι' (Own X.B h' ι') a' w') a w
def Ex.then (next : Env → Hp → Prop) (Q : Exit → Env → Hp → Prop) : Exit → Env → Hp → Prop
  | .normal, e, h => next e h
  | x, e, h => Q x e h
def Ex.inBlock (id : Nat) (Q : Exit → Env → Hp → Prop) : Exit → Env → Hp → Prop
  | .exit id', e, h => if id' = id then Q .normal e h else Q (.exit id') e h
  | x, e, h => Q x e h
def Ex.noGoto (Q : Exit → Env → Hp → Prop) : Exit → Env → Hp → Prop
  | .goto _, _, _ => False
  | x, e, h => Q x e h
variable {Q : Exit → Env → Hp → Prop}
theorem AW.mono {c : Code} {Q' : Exit → Env → Hp → Prop} (hw : AW P N c env h Q) (hq : ∀ x e h, Q x e h → Q' x e h) : AW P N c env h Q' :=
  fun X a w ι H S => wp_mono (hw X a w ι H S) fun _ _ _ ⟨e, h', ι', q, r⟩ => ⟨e, h', ι', hq _ _ _ q, r⟩
theorem AW.region {id : Nat} {ops : Array Oper} (hw : OpsW P N ops ops.toList env h (Q .normal)) : AW P N (.region id ops false) env h Q := by
  intro X a w ι H S
  refine wp_region_list (hw X a w ι _ H S fun env' h' ι' a' w' hK H' S' => ⟨env', h', ι', hK, H', S'⟩)
theorem AW.seq {x y : Code} (hw : AW P N x env h (Ex.then (fun e h => AW P N y e h Q) Q)) : AW P N (.seq x y) env h Q := by
  intro X a w ι H S
  refine wp_seq (wp_mono (hw X a w ι H S) ?_)
  rintro e a' w' ⟨env', h', ι', hq, H', S'⟩
  cases e with
  | normal => exact hq X a' w' ι' H' S'
  | _ => exact ⟨env', h', ι', hq, H', S'⟩
theorem AW.regionSeq {id : Nat} {ops : Array Oper} {y : Code} (hw : OpsW P N ops ops.toList env h (fun e h => AW P N y e h Q)) : AW P N (.seq (.region id ops false) y) env h Q :=
  AW.seq (AW.region hw)
theorem AW.skip (hq : Q .normal env h) : AW P N .skip env h Q := fun _ _ _ ι H S => wp_skip ⟨env, h, ι, hq, H, S⟩
theorem AW.exit {id : Nat} (hq : Q (.exit id) env h) : AW P N (.exit id) env h Q := fun _ _ _ ι H S => wp_exit ⟨env, h, ι, hq, H, S⟩
theorem AW.goto {l : Nat} (hq : Q (.goto l) env h) : AW P N (.goto l) env h Q := fun _ _ _ ι H S => wp_goto ⟨env, h, ι, hq, H, S⟩
theorem AW.ret (hq : Q .ret env h) : AW P N .ret env h Q := fun _ _ _ ι H S => wp_ret ⟨env, h, ι, hq, H, S⟩
theorem AW.block {id : Nat} {c : Code} (hw : AW P N c env h (Ex.inBlock id Q)) : AW P N (.block id c) env h Q := by
  intro X a w ι H S
  refine wp_block (wp_mono (hw X a w ι H S) ?_)
  rintro e a' w' ⟨env', h', ι', hq, H', S'⟩
  cases e with
  | exit id' =>
    simp only [Exit.inBlock, Ex.inBlock] at hq ⊢
    split
    · rename_i hid; rw [if_pos hid] at hq; exact ⟨env', h', ι', hq, H', S'⟩
    · rename_i hid; rw [if_neg hid] at hq; exact ⟨env', h', ι', hq, H', S'⟩
  | _ => exact ⟨env', h', ι', hq, H', S'⟩
abbrev AV.int (k : IntKind) (n : Int) : AV := .im (.val (.int k n))
abbrev AV.bool (b : Bool) : AV := .im (.val (.bool b))
abbrev AV.string (s : ByteArray) : AV := .im (.val (.string s))
def rdo (env : Env) : Operand → AV
  | .tmp t => rd env t
  | .const v => .im (.val v)
  | .global g => match globAt globs g with | some cs => .ipt cs 0 | none => .im (.val (.pointer (some ⟨g, 0, none⟩)))
  | .func f => .im (.val (.func (.func f) #[] #[]))
theorem Slots.eval {N : Nat} {env : Env} {h : Hp} {ι : Nat → Bk} {A : Nat → Prop} {a : Act} {w : World} (H : Slots N env h ι A a w) (hg : GlobOK w A) (x : Operand) : VR w h ι A (rdo env x) (a.eval x) := by
  cases x with
  | tmp t => exact H.at_ t
  | global g =>
    cases hc : globAt globs g with
    | some cs => simp only [rdo, hc, Act.eval]; exact hg.vr hc
    | none => simp [rdo, hc, Act.eval, VR, VRI]
  | _ => simp [rdo, Act.eval, VR, VRI]
theorem VR.int_iff {w : World} {h : Hp} {ι : Nat → Bk} {A : Nat → Prop} {k : IntKind} {n : Int} {v : Value} : VR w h ι A (.int k n) v ↔ v = .int k n := by simp [VR, VRI]
theorem VR.bool_iff {w : World} {h : Hp} {ι : Nat → Bk} {A : Nat → Prop} {b : Bool} {v : Value} : VR w h ι A (.bool b) v ↔ v = .bool b := by simp [VR, VRI]
theorem VR.val_iff {w : World} {h : Hp} {ι : Nat → Bk} {A : Nat → Prop} {u v : Value} : VR w h ι A (.im (.val u)) v ↔ v = u := by simp [VR, VRI]
theorem AW.cond {c : Operand} {x y : Code} {b : Bool} (hc : rdo env c = .bool b) (ht : b = true → AW P N x env h Q) (hf : b = false → AW P N y env h Q) : AW P N (.cond c x y) env h Q := by
  intro X a w ι H S
  have hv := S.eval H.globOK c
  rw [hc, VR.bool_iff] at hv
  exact wp_cond_split hv (fun e => ht e X a w ι H S) (fun e => hf e X a w ι H S)
def Env.le (env env' : Env) : Prop := ∀ i, rd env' i = .any ∨ rd env i = rd env' i
theorem AW.weaken {c : Code} (env' : Env) (hle : Env.le env env') (hw : AW P N c env' h Q) : AW P N c env h Q := by
  intro X a w ι H S
  refine hw X a w ι H ⟨S.size, S.defers, fun i => ?_⟩
  rcases hle i with he | he
  · rw [he]; simp [VR]
  · rw [← he]; exact S.at_ i
def Env.keep (env : Env) (l : List Nat) : Env := l.map fun i => (i, rd env i)
theorem rd_keep (env : Env) (l : List Nat) (i : Nat) : rd (env.keep l) i = if i ∈ l then rd env i else .any := by
  induction l with
  | nil => simp [Env.keep, rd]
  | cons j l ih =>
    simp only [Env.keep, List.map_cons, rd] at ih ⊢
    by_cases hj : j = i
    · subst hj; simp
    · rw [if_neg hj, ih]
      have : ¬ i = j := fun e => hj e.symm
      simp [this]
theorem AW.keep {c : Code} (l : List Nat) (hw : AW P N c (env.keep l) h Q) : AW P N c env h Q :=
  AW.weaken _ (fun i => by rw [rd_keep]; split <;> simp) hw
def Hp.eqv (h h' : Hp) : Prop := ∀ i, h'.at i = h.at i
theorem Own.eqv {B : Nat → Prop} {h h' : Hp} {ι : Nat → Bk} (he : Hp.eqv h h') : Own B h' ι = Own B h ι := by
  funext β; simp only [Own, he _]
theorem Keep.eqv {w : World} {h h' : Hp} {ι : Nat → Bk} {A : Nat → Prop} (he : Hp.eqv h h') : Keep w h ι A w h' ι A :=
  ⟨fun _ _ hA => ⟨rfl, hA⟩, fun r rt hr => ⟨rt, (he r).trans hr, Nat.le_refl _, fun _ => ⟨rfl, rfl⟩⟩⟩
theorem Hol.eqv {X : Ctx} {h h' : Hp} {ι : Nat → Bk} {w : World} (he : Hp.eqv h h') (H : Hol X h ι w) : Hol X h' ι w where
  roots r rt hr hl := by
    rw [Own.eqv he]
    rcases H.roots r rt ((he r).symm.trans hr) hl with h1 | ⟨g, arr, h1, h2, h3, h4, h5⟩
    · exact .inl h1
    · exact .inr ⟨g, arr, h1, h2, h3, h4, VRL.keep (Keep.eqv he) _ _ h5.1, h5.2⟩
  inj r r' rt rt' g h1 h2 := H.inj r r' rt rt' g ((he r).symm.trans h1) ((he r').symm.trans h2)
  place r rt g h1 := H.place r rt g ((he r).symm.trans h1)
  os := H.os
  tape := H.tape
  output := H.output
  size := H.size
  frame := H.frame
  old := H.old
  glob := H.glob
  pin r b k hp := by
    obtain ⟨h1, rt, h2, h3⟩ := H.pin r b k hp
    exact ⟨h1, rt, (he r).trans h2, h3⟩
theorem Slots.eqv {env : Env} {h h' : Hp} {ι : Nat → Bk} {B : Nat → Prop} {a : Act} {w : World} (he : Hp.eqv h h') (S : Slots N env h ι (Own B h ι) a w) : Slots N env h' ι (Own B h' ι) a w :=
  ⟨S.size, S.defers, fun i => by rw [Own.eqv he]; exact VR.keep (Keep.eqv he) _ _ (S.at_ i)⟩
theorem Slots.le {env env' : Env} {h : Hp} {ι : Nat → Bk} {A : Nat → Prop} {a : Act} {w : World} (hle : Env.le env env') (S : Slots N env h ι A a w) : Slots N env' h ι A a w := by
  refine ⟨S.size, S.defers, fun i => ?_⟩
  rcases hle i with he | he
  · rw [he]; simp [VR]
  · rw [← he]; exact S.at_ i
theorem AW.heap {c : Code} (h' : Hp) (he : Hp.eqv h h') (hw : AW P N c env h' Q) : AW P N c env h Q :=
  fun X a w ι H S => hw X a w ι (H.eqv he) (S.eqv he)
theorem AW.loop {c : Code} {α : Type} (E : α → Env) (G : α → Hp) (I : α → Prop) (μ : α → Nat) (x0 : α) (h0 : I x0) (he : Env.le env (E x0)) (hh : Hp.eqv h (G x0))
    (round : ∀ x, I x → AW P N c (E x) (G x) (Ex.then (fun e' h' => ∃ y, I y ∧ μ y < μ x ∧ Env.le e' (E y) ∧ Hp.eqv h' (G y)) Q)) : AW P N (.loop c) env h Q := by
  intro X a w ι H S
  refine wp_loop_ghost (fun n a w => ∃ x ι, μ x = n ∧ I x ∧ Hol X (G x) ι w ∧ Slots N (E x) (G x) ι (Own X.B (G x) ι) a w) (μ x0)
    ⟨x0, ι, rfl, h0, H.eqv hh, (S.eqv hh).le he⟩ ?_
  rintro n a w ⟨x, ι, rfl, hI, H, S⟩
  refine wp_mono (round x hI X a w ι H S) ?_
  rintro e a' w' ⟨env', h', ι', hq, H', S'⟩
  cases e with
  | normal =>
    obtain ⟨y, h1, h2, h3, h4⟩ := hq
    exact ⟨μ y, h2, y, ι', rfl, h1, H'.eqv h4, (S'.eqv h4).le h3⟩
  | _ => exact ⟨env', h', ι', hq, H', S'⟩
def Spec (P : Program) (f : FuncId) (args : List AV) (h : Hp) (R : AV → Hp → Prop) : Prop :=
  ∀ (w : World) (ι : Nat → Bk) (B : Nat → Prop) (vs : List Value), Hol ⟨w, B, Own (fun _ => False) h ι, pinOf h ι⟩ h ι w → VRL w h ι (Own B h ι) args vs →
    Calls P f vs.toArray w fun e w' => ∃ v r h' ι', e = .returned v ∧ R r h' ∧ Hol ⟨w, B, Own (fun _ => False) h ι, pinOf h ι⟩ h' ι' w' ∧ VR w' h' ι' (Own B h' ι') r v
def args0 : Nat → List AV → Env
  | _, [] => []
  | i, v :: r => (i, v) :: args0 (i + 1) r
theorem rd_args0 {w : World} {h : Hp} {ι : Nat → Bk} {A : Nat → Prop} : ∀ (args : List AV) (vs : List Value) (i : Nat), VRL w h ι A args vs → ∀ j, VR w h ι A (rd (args0 i args) (i + j)) (vs[j]?.getD undef)
  | [], vs, i, hv, j => by simp [args0, rd, VR]
  | c :: cs, vs, i, hv, j => by
    simp only [VRL] at hv
    obtain ⟨v, l', rfl, hv, hr⟩ := hv
    cases j with
    | zero => simpa [args0, rd] using hv
    | succ j =>
      have := rd_args0 cs l' (i + 1) hr j
      rw [show i + 1 + j = i + (j + 1) from by omega] at this
      simp only [args0, rd, List.getElem?_cons_succ]
      rw [if_neg (by omega)]
      exact this
theorem rd_args0_ge : ∀ (args : List AV) (i j : Nat), i + args.length ≤ j → rd (args0 i args) j = .any
  | [], i, j, _ => rfl
  | c :: cs, i, j, hj => by
    simp only [args0, rd]
    simp only [List.length_cons] at hj
    rw [if_neg (by omega)]
    exact rd_args0_ge cs (i + 1) j (by omega)
def Res (P : Program) (fn : Func) (env : Env) (h : Hp) (r : AV) : Prop :=
  ∀ (X : Ctx) (a : Act) (w : World) (ι : Nat → Bk), Hol X h ι w → Slots fn.ntmps env h ι (Own X.B h ι) a w → ∃ v, (results fn a.tmps).run P w = .ok v w ∧ VR w h ι (Own X.B h ι) r v
def Done (P : Program) (fn : Func) (R : AV → Hp → Prop) : Exit → Env → Hp → Prop
  | .normal, e, h | .ret, e, h => ∃ r, Res P fn e h r ∧ R r h
  | _, _, _ => False
theorem Spec.of_AW {f : FuncId} {fn : Func} {c : Code} {args : List AV} {h : Hp} {R : AV → Hp → Prop} (hf : P.funcs[f]? = some fn) (hb : fn.body = some c) (hn : args.length ≤ fn.ntmps)
    (hw : AW P fn.ntmps c (args0 0 args) h (Done P fn R)) : Spec P f args h R := by
  intro w ι B vs H hv
  have hlen := hv.length
  refine calls_of_wp hf hb (wp_mono (hw ⟨w, B, _, _⟩ _ w ι H ⟨?_, rfl, fun i => ?_⟩) ?_)
  · simp [hlen]; omega
  · by_cases hi : i < vs.length
    · have := rd_args0 args vs 0 hv i
      simp only [Nat.zero_add] at this
      simp only [Array.getD_eq_getD_getElem?]
      rw [Array.getElem?_append_left (by simpa using hi)]
      simpa using this
    · rw [rd_args0_ge args 0 i (by omega)]
      simp [VR]
  · rintro e a' w' ⟨env', h', ι', hq, H', S'⟩
    cases e with
    | normal =>
      obtain ⟨r, hres, hR⟩ := hq
      obtain ⟨v, hrun, hvr⟩ := hres _ _ _ _ H' S'
      exact ⟨S'.defers, v, hrun, v, r, h', ι', rfl, hR, H', hvr⟩
    | ret =>
      obtain ⟨r, hres, hR⟩ := hq
      obtain ⟨v, hrun, hvr⟩ := hres _ _ _ _ H' S'
      exact ⟨S'.defers, v, hrun, v, r, h', ι', rfl, hR, H', hvr⟩
    | _ => exact hq.elim
theorem Res.tmp {fn : Func} {t : Nat} (hr : fn.results = #[.tmp t]) : Res P fn env h (rd env t) :=
  fun _ a w _ _ S => ⟨_, results_tmp hr a.tmps P w, S.at_ t⟩
theorem Res.tmp2 {fn : Func} {t u : Nat} (hr : fn.results = #[.tmp t, .tmp u]) : Res P fn env h (.tup [rd env t, rd env u]) :=
  fun _ a w _ _ S => ⟨_, results_tmp2 hr a.tmps P w, by simp only [VR]; exact ⟨[_, _], rfl, by simp only [VRL]; exact ⟨_, _, rfl, S.at_ t, _, _, rfl, S.at_ u, rfl⟩⟩⟩
theorem Spec.mono {f : FuncId} {args : List AV} {h : Hp} {R R' : AV → Hp → Prop} (hs : Spec P f args h R) (hr : ∀ r h, R r h → R' r h) : Spec P f args h R' :=
  fun w ι B vs H hv => (hs w ι B vs H hv).mono fun _ _ ⟨v, r, h', ι', h1, h2, h3⟩ => ⟨v, r, h', ι', h1, hr _ _ h2, h3⟩
end
end Go.Abs
/-
  Own work. The abstract layer, part 3: operations that only compute or read: their abstract value `pv` and what must hold for it `po`.
-/
namespace Go.Abs
open Go.RowKit
/- What the operations ask of the types. -/
def tk (P : Program) (t : TypeId) : Nat := match P.underlying t with
  | some (.slice _) => 1 | some .string => 2 | some (.array _ _) => 3 | some (.int _) => 4 | some .bool => 5 | some (.struct _) => 6 | some (.pointer _) => 7 | some (.map _ _) => 8 | _ => 0
def ik (P : Program) (t : TypeId) : Option IntKind := match P.underlying t with
  | some (.int k) => some k | _ => none
def ez (P : Program) (t : TypeId) : Option Nat := match P.underlying t with
  | some (.slice e) => (P.info? e).map (·.size) | some (.array _ e) => (P.info? e).map (·.size) | _ => none
def alen (P : Program) (t : TypeId) : Option Nat := match P.underlying t with
  | some (.array n _) => some n | _ => none
def fo (P : Program) (s : TypeId) (f : Nat) : Option Nat := match P.underlying s with
  | some (.struct fs) => match fs[f]? with
    | some fd => match P.info? fd.type with
      | some i => if i.size = 0 then none else some fd.offset
      | none => none
    | none => none
  | _ => none
def lz (P : Program) (t : TypeId) : Option (Option Nat) := match P.underlying t with
  | some (.struct _) => (P.info? t).map fun i => some i.size
  | some (.array _ _) => (P.info? t).map fun i => some i.size
  | some _ => some none
  | none => none
def st : AV → AV
  | .cnd _ v => v
  | v => v
def gd : AV → Prop
  | .cnd g _ => g = true
  | _ => True
theorem VR.st {w : World} {h : Hp} {ι : Nat → Bk} {A : Nat → Prop} {x : AV} {v : Value} (hv : VR w h ι A x v) (hg : gd x) : VR w h ι A (st x) v := by
  cases x with
  | cnd g y => simp only [VR] at hv; exact hv.1 hg
  | _ => exact hv
def nw (k : IntKind) (n : Int) : Int := match k with
  | .i64 => n
  | k => k.wrap n
def okA (k : IntKind) (n : Int) : Prop := match k with
  | .i64 => -9223372036854775808 ≤ n ∧ n ≤ 9223372036854775807
  | _ => True
theorem wrap_nw {k : IntKind} {n : Int} (h : okA k n) : k.wrap n = nw k n := by
  cases k <;> simp only [nw]
  simp only [okA] at h
  exact IntWalk.i64_in n (by omega)
def pvBin (op : BinOp) (x y : AV) : AV := match x, y with
  | .im (.val (.int k a)), .im (.val (.int _ b)) => match op with
    | .add => .int k (nw k (a + b))
    | .sub => .int k (nw k (a - b))
    | .mul => .int k (nw k (a * b))
    | .quo => .int k (nw k (a.tdiv b))
    | .rem => .int k (a.tmod b)
    | .and => .int k (k.wrap (BitVec.ofInt k.bits a &&& BitVec.ofInt k.bits b).toNat)
    | .or => .int k (k.wrap (BitVec.ofInt k.bits a ||| BitVec.ofInt k.bits b).toNat)
    | .xor => .int k (k.wrap (BitVec.ofInt k.bits a ^^^ BitVec.ofInt k.bits b).toNat)
    | .andNot => .int k (k.wrap (BitVec.ofInt k.bits a &&& ~~~ BitVec.ofInt k.bits b).toNat)
    | .shl => .int k (k.wrap (a * 2 ^ min b.toNat k.bits))
    | .shr => .int k (a.fdiv (2 ^ min b.toNat k.bits))
    | .eql => .bool (a == b)
    | .neq => .bool (a != b)
    | .lss => .bool (a < b)
    | .leq => .bool (a ≤ b)
    | .gtr => .bool (b < a)
    | .geq => .bool (b ≤ a)
  | .im (.val (.bool a)), .im (.val (.bool b)) => match op with
    | .eql => .bool (a == b)
    | .neq => .bool (a != b)
    | _ => .any
  | .im (.val (.string a)), .im (.val (.string b)) => match op with
    | .add => .string (a ++ b)
    | .eql => .bool (a.toList == b.toList)
    | .neq => .bool (!(a.toList == b.toList))
    | .lss => .bool (Op.bytesLess a.toList b.toList)
    | .leq => .bool (Op.bytesLess a.toList b.toList || a.toList == b.toList)
    | .gtr => .bool (!(Op.bytesLess a.toList b.toList || a.toList == b.toList))
    | .geq => .bool (!Op.bytesLess a.toList b.toList)
    | _ => .any
  | _, _ => .any
def poBin (P : Program) (t : TypeId) (op : BinOp) (x y : AV) : Prop := match x, y with
  | .im (.val (.int k a)), .im (.val (.int k' b)) => match op with
    | .add => k = k' ∧ okA k (a + b)
    | .sub => k = k' ∧ okA k (a - b)
    | .mul => k = k' ∧ okA k (a * b)
    | .quo => k = k' ∧ b ≠ 0 ∧ okA k (a.tdiv b)
    | .rem => k = k' ∧ b ≠ 0
    | .shl => 0 ≤ b
    | .shr => 0 ≤ b
    | .and => k = k' | .or => k = k' | .xor => k = k' | .andNot => k = k'
    | .eql => k = k' | .neq => k = k' | .lss => k = k' | .leq => k = k' | .gtr => k = k' | .geq => k = k'
  | .im (.val (.bool _)), .im (.val (.bool _)) => match op with
    | .eql => tk P t = 5
    | .neq => tk P t = 5
    | _ => False
  | .im (.val (.string a)), .im (.val (.string b)) => match op with
    | .add => a.size + b.size ≤ 9223372036854775807
    | .eql => True | .neq => True | .lss => True | .leq => True | .gtr => True | .geq => True
    | _ => False
  | _, _ => False
section
variable {P : Program} {w : World} {h : Hp} {ι : Nat → Bk} {A : Nat → Prop}
theorem tk_bool {t : TypeId} (h : tk P t = 5) : P.underlying t = some .bool := by
  unfold tk at h
  split at h <;> simp_all
theorem run_equal_bool {t : TypeId} (h : tk P t = 5) (a b : Bool) : (Op.equal t (.bool a) (.bool b)).run P w = .ok (a == b) w := by
  simp only [Op.equal, Op.maxDepth]
  rw [show (10000 : Nat) = 9999 + 1 from rfl, Op.equalIn]
  simp [Sem.run_bind, run_underlying (tk_bool h)]
theorem bin_sound {op : BinOp} {t : TypeId} {X Y : Operand} {x y : AV} {u v : Value} (hp : poBin P t op x y) (hx : VR w h ι A x u) (hy : VR w h ι A y v) :
    ∃ r, (do eqGuard op t X Y u v; binOp op t u v : Sem Value).run P w = .ok r w ∧ VR w h ι A (pvBin op x y) r := by
  unfold poBin at hp
  split at hp
  · rename_i k a k' b
    rw [VR.int_iff] at hx hy
    subst hx hy
    have e0 : (eqGuard op t X Y (.int k a) (.int k' b)).run P w = .ok () w := by cases op <;> rfl
    cases op <;> simp only at hp <;> try exact hp.elim
    case add => obtain ⟨rfl, h2⟩ := hp; exact ⟨_, by simp [e0, binOp, Op.intArith]; rfl, by simp [pvBin, VR, VRI, wrap_nw h2]⟩
    case sub => obtain ⟨rfl, h2⟩ := hp; exact ⟨_, by simp [e0, binOp, Op.intArith]; rfl, by simp [pvBin, VR, VRI, wrap_nw h2]⟩
    case mul => obtain ⟨rfl, h2⟩ := hp; exact ⟨_, by simp [e0, binOp, Op.intArith]; rfl, by simp [pvBin, VR, VRI, wrap_nw h2]⟩
    case quo => obtain ⟨rfl, h1, h2⟩ := hp; exact ⟨_, by simp [e0, binOp, Op.intDiv, h1]; rfl, by simp [pvBin, VR, VRI, wrap_nw h2]⟩
    case rem => obtain ⟨rfl, h1⟩ := hp; exact ⟨_, by simp [e0, binOp, Op.intDiv, h1]; rfl, by simp [pvBin, VR, VRI]⟩
    case shl =>
      have h1 : ¬ b < 0 := by omega
      exact ⟨_, by simp [e0, binOp, Op.shift, h1]; rfl, by simp [pvBin, VR, VRI]⟩
    case shr =>
      have h1 : ¬ b < 0 := by omega
      exact ⟨_, by simp [e0, binOp, Op.shift, h1]; rfl, by simp [pvBin, VR, VRI]⟩
    all_goals (subst hp; exact ⟨_, by simp [e0, binOp, Op.intBits, Op.intCmp]; rfl, by simp [pvBin, VR, VRI]⟩)
  · rename_i a b
    rw [VR.bool_iff] at hx hy
    subst hx hy
    have e0 : (eqGuard op t X Y (.bool a) (.bool b)).run P w = .ok () w := by cases op <;> rfl
    cases op <;> simp only at hp <;> try exact hp.elim
    all_goals exact ⟨_, by simp [e0, binOp, run_equal_bool hp]; rfl, by simp [pvBin, VR, VRI, bne]⟩
  · rename_i a b
    rw [VR.val_iff] at hx hy
    subst hx hy
    have e0 : (eqGuard op t X Y (.string a) (.string b)).run P w = .ok () w := by cases op <;> rfl
    cases op <;> simp only at hp <;> try exact hp.elim
    case add =>
      have h1 : ¬ (((a.size + b.size : Nat) : Int) > IntKind.i64.max) := by
        have : IntKind.i64.max = 9223372036854775807 := by decide
        omega
      exact ⟨_, by simp only [Sem.run_bind, e0, Result.andThen_ok, binOp, Op.stringOp, if_neg h1]; rfl, by simp [pvBin, VR, VRI]⟩
    all_goals exact ⟨_, by simp [e0, binOp, Op.stringOp]; rfl, by simp [pvBin, VR, VRI]⟩
  · exact hp.elim
def pvUn (op : UnOp) (x : AV) : AV := match op, x with
  | .not, .im (.val (.bool b)) => .bool (!b)
  | .neg, .im (.val (.int k n)) => .int k (nw k (0 - n))
  | _, _ => .any
def poUn (op : UnOp) (x : AV) : Prop := match op, x with
  | .not, .im (.val (.bool _)) => True
  | .neg, .im (.val (.int k n)) => okA k (0 - n)
  | _, _ => False
theorem un_sound {op : UnOp} {x : AV} {u : Value} (hp : poUn op x) (hx : VR w h ι A x u) : ∃ r, (Op.unary op u).run P w = .ok r w ∧ VR w h ι A (pvUn op x) r := by
  unfold poUn at hp
  split at hp
  · rw [VR.bool_iff] at hx; subst hx
    exact ⟨_, by simp [Op.unary]; rfl, by simp [pvUn, VR, VRI]⟩
  · rw [VR.int_iff] at hx; subst hx
    exact ⟨_, by simp [Op.unary, Op.intArith]; rfl, by
      have h2 := wrap_nw hp
      simp only [Int.zero_sub] at h2
      simp [pvUn, VR, VRI, h2]⟩
  · exact hp.elim
def pvConv (P : Program) (d : TypeId) (x : AV) : AV := match x, ik P d with
  | .im (.val (.int _ n)), some k => .int k (k.wrap n)
  | .im (.val (.string s)), none => .string s
  | _, _ => .any
def poConv (P : Program) (s d : TypeId) (x : AV) : Prop := match x, ik P d with
  | .im (.val (.int _ _)), some _ => tk P s ≠ 0
  | .im (.val (.string _)), none => tk P s = 2 ∧ tk P d = 2
  | _, _ => False
theorem ik_some {t : TypeId} {k : IntKind} (h : ik P t = some k) : P.underlying t = some (.int k) := by
  unfold ik at h
  split at h <;> simp_all
theorem tk_str {t : TypeId} (h : tk P t = 2) : P.underlying t = some .string := by
  unfold tk at h
  split at h <;> simp_all
theorem tk_some {t : TypeId} (h : tk P t ≠ 0) : ∃ d, P.underlying t = some d := by
  unfold tk at h
  cases hd : P.underlying t with
  | none => simp [hd] at h
  | some d => exact ⟨d, rfl⟩
theorem conv_sound {s d : TypeId} {x : AV} {u : Value} (hp : poConv P s d x) (hx : VR w h ι A x u) : ∃ r, (convert s d u).run P w = .ok r w ∧ VR w h ι A (pvConv P d x) r := by
  unfold poConv at hp
  split at hp
  · rename_i k n k' hk
    rw [VR.int_iff] at hx; subst hx
    obtain ⟨ds, hs⟩ := tk_some hp
    refine ⟨.int k' (k'.wrap n), ?_, by simp [pvConv, hk, VR, VRI]⟩
    cases ds <;> simp [convert, Sem.run_bind, run_underlying hs, run_underlying (ik_some hk), Conv.intToInt]
  · rename_i s' hk
    rw [VR.val_iff] at hx; subst hx
    exact ⟨_, by simp [convert, Sem.run_bind, run_underlying (tk_str hp.1), run_underlying (tk_str hp.2)]; rfl, by simp [pvConv, hk, VR, VRI]⟩
  · exact hp.elim
end
end Go.Abs
/-
  Own work. The abstract layer, part 4: addresses, loads, slices, the builtins len, min, max.
-/
namespace Go.Abs
open Go.RowKit
section
variable {P : Program} {w : World} {h : Hp} {ι : Nat → Bk} {A : Nat → Prop}
def selA (g : Bool) (x y : AV) : AV := match x, y with
  | .im (.val (.bool p)), .im (.val (.bool q)) => .bool (cond g p q)
  | .im (.val (.int k p)), .im (.val (.int k' q)) => .int (cond g k k') (cond g p q)
  | .im (.val (.string p)), .im (.val (.string q)) => .string (cond g p q)
  | x, y => cond g x y
theorem selA_true (x y : AV) : selA true x y = x := by unfold selA; split <;> rfl
theorem selA_false (x y : AV) : selA false x y = y := by unfold selA; split <;> rfl
def pvPick (c x y : AV) : AV := match c with
  | .im (.val (.bool g)) => selA g (st x) (st y)
  | _ => .any
def poPick (c x y : AV) : Prop := match c with
  | .im (.val (.bool g)) => (g = true → gd x) ∧ (g = false → gd y)
  | _ => False
theorem pick_sound {c x y : AV} {u v z : Value} (hp : poPick c x y) (hc : VR w h ι A c u) (hx : VR w h ι A x v) (hy : VR w h ι A y z) :
    ∃ r, (do pure (if ← asBool u then v else z) : Sem Value).run P w = .ok r w ∧ VR w h ι A (pvPick c x y) r := by
  unfold poPick at hp
  split at hp
  · rename_i g
    rw [VR.bool_iff] at hc
    subst hc
    obtain ⟨h1, h2⟩ := hp
    refine ⟨if g = true then v else z, by cases g <;> simp [asBool], ?_⟩
    cases g
    · simp only [Bool.false_eq_true, if_false, pvPick, selA_false]
      exact VR.st hy (h2 rfl)
    · simp only [if_true, pvPick, selA_true]
      exact VR.st hx (h1 rfl)
  · exact hp.elim
def pvField (d : Option Nat) (x : AV) : AV := match d, x with
  | some d, .ipt cs off => .ipt cs (off + d)
  | some d, .ref r ver off => .ref r ver (off + d)
  | _, _ => .any
def poField (h : Hp) (d : Option Nat) (x : AV) : Prop := match d, x with
  | some _, .ipt _ _ => True
  | some _, .ref r ver _ => (h.at r).map (·.ver) = some ver
  | _, _ => False
theorem fo_some {s : TypeId} {f d : Nat} (hf : fo P s f = some d) : ∃ fs fd i, P.underlying s = some (.struct fs) ∧ fs[f]? = some fd ∧ P.info? fd.type = some i ∧ i.size ≠ 0 ∧ fd.offset = d := by
  unfold fo at hf
  split at hf
  · rename_i fs hs
    split at hf
    · rename_i fd hfd
      split at hf
      · rename_i i hi
        split at hf
        · cases hf
        · rename_i hne
          exact ⟨fs, fd, i, hs, hfd, hi, hne, by simpa using hf⟩
      · cases hf
    · cases hf
  · cases hf
theorem VR.ref_now {r ver off : Nat} {v : Value} (hv : VR w h ι A (.ref r ver off) v) (hn : (h.at r).map (·.ver) = some ver) : ∃ rt g, h.at r = some rt ∧ rt.ver = ver ∧ (ι r).blk = some g ∧ v = .pointer (some ⟨g, off, none⟩) := by
  simp only [VR] at hv
  obtain ⟨rt, hrt, _, himp⟩ := hv
  rw [hrt] at hn
  simp at hn
  obtain ⟨g, hg, hv⟩ := himp hn.symm
  exact ⟨rt, g, hrt, hn, hg, hv⟩
theorem VR.ref_mk {r ver off g : Nat} {rt : Rt} (hrt : h.at r = some rt) (hver : rt.ver = ver) (hg : (ι r).blk = some g) : VR w h ι A (.ref r ver off) (.pointer (some ⟨g, off, none⟩)) := by
  simp only [VR]
  exact ⟨rt, hrt, by omega, fun _ => ⟨g, hg, rfl⟩⟩
theorem addr_add (g off i : Nat) : (⟨g, off, none⟩ : Addr).add i = ⟨g, off + i, none⟩ := by unfold Addr.add; split <;> simp_all
theorem field_sound {s : TypeId} {f : Nat} {x : AV} {u : Value} (hp : poField h (fo P s f) x) (hx : VR w h ι A x u) : ∃ r, (Instr.fieldAt s u f).run P w = .ok r w ∧ VR w h ι A (pvField (fo P s f) x) r := by
  unfold poField at hp
  split at hp
  · rename_i d cs off hd
    obtain ⟨fs, fd, i, h1, h2, h3, h4, h5⟩ := fo_some hd
    simp only [VR] at hx
    obtain ⟨a, l, rfl, hlie, hl⟩ := hx
    refine ⟨.pointer (some (a.add (off + d))), ?_, ?_⟩
    · simp [Instr.fieldAt, Sem.run_bind, run_underlying h1, h2, Instr.sureAddr, fieldPlace, sizeOf, typeInfo, h3, h4, h5, Go.Deep.add_add]
    · simp only [pvField, hd, VR]
      exact ⟨a, l, rfl, hlie, hl⟩
  · rename_i d r ver off hd
    obtain ⟨fs, fd, i, h1, h2, h3, h4, h5⟩ := fo_some hd
    obtain ⟨rt, g, hrt, hver, hg, rfl⟩ := VR.ref_now hx hp
    refine ⟨.pointer (some ⟨g, off + d, none⟩), ?_, ?_⟩
    · simp [Instr.fieldAt, Sem.run_bind, run_underlying h1, h2, Instr.sureAddr, fieldPlace, sizeOf, typeInfo, h3, h4, h5, addr_add]
    · simp only [pvField, hd]
      exact VR.ref_mk hrt hver hg
  · exact hp.elim
def pvIdx (e : Option Nat) (x i : AV) : AV := match e, x, i with
  | some k, .im (.sl cs _), .im (.val (.int _ j)) => .ipt cs (j.toNat * k)
  | some k, .rsl r ver off _, .im (.val (.int _ j)) => .ref r ver (off + j.toNat * k)
  | some k, .ref r ver off, .im (.val (.int _ j)) => .ref r ver (off + j.toNat * k)
  | some k, .ipt cs off, .im (.val (.int _ j)) => .ipt cs (off + j.toNat * k)
  | _, _, _ => .any
def poIdx (P : Program) (h : Hp) (t : TypeId) (x i : AV) : Prop := match ez P t, x, i with
  | some _, .im (.sl _ n), .im (.val (.int _ j)) => tk P t = 1 ∧ 0 ≤ j ∧ j < n
  | some k, .rsl r ver _ n, .im (.val (.int _ j)) => tk P t = 1 ∧ (h.at r).map (fun rt => (rt.ver, rt.k)) = some (ver, k) ∧ 0 ≤ j ∧ j < n
  | some _, .ref r ver _, .im (.val (.int _ j)) => (match alen P t with | some n => (h.at r).map (·.ver) = some ver ∧ 0 ≤ j ∧ j < n | none => False)
  | some _, .ipt _ _, .im (.val (.int _ j)) => (match alen P t with | some n => 0 ≤ j ∧ j < n | none => False)
  | _, _, _ => False
theorem ez_slice {t : TypeId} {k : Nat} (hk : tk P t = 1) (he : ez P t = some k) : ∃ e i, P.underlying t = some (.slice e) ∧ P.info? e = some i ∧ i.size = k := by
  unfold tk at hk
  unfold ez at he
  cases hd : P.underlying t with
  | none => simp [hd] at hk
  | some d => cases d <;> simp_all
theorem ez_array {t : TypeId} {k n : Nat} (hn : alen P t = some n) (he : ez P t = some k) : ∃ e i, P.underlying t = some (.array n e) ∧ P.info? e = some i ∧ i.size = k := by
  unfold alen at hn
  unfold ez at he
  cases hd : P.underlying t with
  | none => simp [hd] at hn
  | some d => cases d <;> simp_all
theorem VR.rsl_now {r ver off n k : Nat} {v : Value} (hv : VR w h ι A (.rsl r ver off n) v) (hn : (h.at r).map (fun rt => (rt.ver, rt.k)) = some (ver, k)) : ∃ rt, h.at r = some rt ∧ rt.ver = ver ∧ rt.k = k ∧ SlR k (ι r) off n v := by
  simp only [VR] at hv
  obtain ⟨rt, hrt, _, himp⟩ := hv
  rw [hrt] at hn
  simp at hn
  obtain ⟨h1, h2⟩ := hn
  refine ⟨rt, hrt, h1, h2, ?_⟩
  have := himp h1.symm
  rwa [h2] at this
theorem idx_sound {t : TypeId} {x i : AV} {u v : Value} (hp : poIdx P h t x i) (hx : VR w h ι A x u) (hi : VR w h ι A i v) : ∃ r, (Instr.indexAt t u v).run P w = .ok r w ∧ VR w h ι A (pvIdx (ez P t) x i) r := by
  unfold poIdx at hp
  split at hp
  · rename_i k cs n k' j he
    rw [VR.int_iff] at hi; subst hi
    obtain ⟨hk, h0, h1⟩ := hp
    obtain ⟨e, inf, hu, hinf, hsz⟩ := ez_slice hk he
    simp only [VR, VRI] at hx
    obtain ⟨ao, cap, l, rfl, hn, hnone, hlie, hl⟩ := hx
    cases ao with
    | none => have := (hnone rfl).1; omega
    | some a =>
      refine ⟨.pointer (some (a.add (j.toNat * k))), ?_, ?_⟩
      · simp [Instr.indexAt, Sem.run_bind, asIntOf, run_underlying hu, h0, h1, sizeOf, typeInfo, hinf, hsz]
      · simp only [pvIdx, he, VR]
        exact ⟨a, l, rfl, hlie a rfl, hl⟩
  · rename_i k r ver off n k' j he
    rw [VR.int_iff] at hi; subst hi
    obtain ⟨hk, hn, h0, h1⟩ := hp
    obtain ⟨e, inf, hu, hinf, hsz⟩ := ez_slice hk he
    obtain ⟨rt, hrt, hver, hrk, ao, c, rfl, hnc, hcase⟩ := VR.rsl_now hx hn
    have hn0 : n ≠ 0 := by omega
    rcases hcase with ⟨_, _, h3, _⟩ | ⟨g, hg, ⟨rfl, _⟩ | ⟨h3, _⟩⟩
    · exact absurd h3 hn0
    · refine ⟨.pointer (some ⟨g, off + j.toNat * k, none⟩), ?_, ?_⟩
      · simp [Instr.indexAt, Sem.run_bind, asIntOf, run_underlying hu, h0, h1, sizeOf, typeInfo, hinf, hsz, addr_add]
      · simp only [pvIdx, he]
        exact VR.ref_mk hrt hver hg
    · exact absurd h3 hn0
  · rename_i k r ver off k' j he
    rw [VR.int_iff] at hi; subst hi
    split at hp
    · rename_i n hn
      obtain ⟨hv, h0, h1⟩ := hp
      obtain ⟨e, inf, hu, hinf, hsz⟩ := ez_array hn he
      obtain ⟨rt, g, hrt, hver, hg, rfl⟩ := VR.ref_now hx hv
      refine ⟨.pointer (some ⟨g, off + j.toNat * k, none⟩), ?_, ?_⟩
      · simp [Instr.indexAt, Sem.run_bind, asIntOf, run_underlying hu, h0, h1, sizeOf, typeInfo, hinf, hsz, addr_add, Instr.sureAddr]
      · simp only [pvIdx, he]
        exact VR.ref_mk hrt hver hg
    · exact hp.elim
  · rename_i k cs off k' j he
    rw [VR.int_iff] at hi; subst hi
    split at hp
    · rename_i n hn
      obtain ⟨h0, h1⟩ := hp
      obtain ⟨e, inf, hu, hinf, hsz⟩ := ez_array hn he
      simp only [VR] at hx
      obtain ⟨a, l, rfl, hlie, hl⟩ := hx
      refine ⟨.pointer (some (a.add (off + j.toNat * k))), ?_, ?_⟩
      · simp [Instr.indexAt, Sem.run_bind, asIntOf, run_underlying hu, h0, h1, sizeOf, typeInfo, hinf, hsz, Go.Deep.add_add, Instr.sureAddr]
      · simp only [pvIdx, he, VR]
        exact ⟨a, l, rfl, hlie, hl⟩
    · exact hp.elim
  · exact hp.elim
def pvLoad (h : Hp) (s : Option (Option Nat)) (x : AV) : AV := match s, x with
  | some none, .ipt cs off => (match cs[off]? with | some c => .im c | none => .any)
  | some (some n), .ipt cs off => .agg (((cs.drop off).take n).map .im)
  | some none, .ref r _ off => (match h.at r with | some rt => (match rt.cs[off]? with | some c => c | none => .any) | none => .any)
  | some (some n), .ref r _ off => (match h.at r with | some rt => .agg ((rt.cs.drop off).take n) | none => .any)
  | _, _ => .any
def poLoad (h : Hp) (s : Option (Option Nat)) (x : AV) : Prop := match s, x with
  | some none, .ipt cs off => off < cs.length
  | some (some n), .ipt cs off => off + n ≤ cs.length
  | some none, .ref r ver off => (match h.at r with | some rt => rt.ver = ver ∧ rt.live = true ∧ off < rt.cs.length | none => False)
  | some (some n), .ref r ver off => (match h.at r with | some rt => rt.ver = ver ∧ rt.live = true ∧ off + n ≤ rt.cs.length | none => False)
  | _, _ => False
theorem lz_none {t : TypeId} (ht : lz P t = some none) : (isAgg t).run P w = .ok false w := by
  unfold lz at ht
  cases hd : P.underlying t with
  | none => simp [hd] at ht
  | some d => cases d <;> simp_all [isAgg, Sem.run_bind, run_underlying hd]
theorem lz_some {t : TypeId} {n : Nat} (ht : lz P t = some (some n)) : (isAgg t).run P w = .ok true w ∧ (sizeOf t).run P w = .ok n w := by
  unfold lz at ht
  cases hd : P.underlying t with
  | none => simp [hd] at ht
  | some d =>
    cases hi : P.info? t with
    | none => cases d <;> simp_all
    | some i => cases d <;> simp_all [isAgg, Sem.run_bind, run_underlying hd, sizeOf, typeInfo]
theorem RootOK.cell {rt : Rt} {b : Bk} {g : Nat} (hr : RootOK w h ι A b rt) (hg : b.blk = some g) : ∃ l : List Value, VRL w h ι A rt.cs l ∧ ∀ (i : Nat) (v : Value), l[i]? = some v → w.cell? ⟨g, i, none⟩ = some v := by
  rcases hr with ⟨h1, _⟩ | ⟨g', arr, h1, h2, h3, h4, h5⟩
  · rw [h1] at hg; cases hg
  · rw [h1] at hg
    have hg : g' = g := by simpa using hg
    subst hg
    refine ⟨_, h5.1, fun i v hv => ?_⟩
    rw [cell_of_row w g' i arr rt.e (0, 0) h2]
    rw [List.getElem?_take] at hv
    split at hv
    · simpa using hv
    · cases hv
theorem load_sound {X : Ctx} {t : TypeId} {x : AV} {u : Value} (H : Hol X h ι w) (hp : poLoad h (lz P t) x) (hx : VR w h ι (Own X.B h ι) x u) :
    ∃ r, (Instr.loadAt t u).run P w = .ok r w ∧ VR w h ι (Own X.B h ι) (pvLoad h (lz P t) x) r := by
  unfold poLoad at hp
  split at hp
  · rename_i cs off hs
    simp only [VR] at hx
    obtain ⟨a, l, rfl, hlie, hl⟩ := hx
    have hc : cs[off]? = some (cs[off]'hp) := List.getElem?_eq_getElem hp
    obtain ⟨v, hv, hvr⟩ := hl.get off _ hc
    refine ⟨v, ?_, by simp only [pvLoad, hs, hc, VR]; exact hvr⟩
    simp [Instr.loadAt, Instr.sureAddr, loadVar, Sem.run_bind, lz_none (w := w) hs, load, Sem.run, (hlie off v hv).1]
  · rename_i n cs off hs
    simp only [VR] at hx
    obtain ⟨a, l, rfl, hlie, hl⟩ := hx
    obtain ⟨h1, h2⟩ := lz_some (w := w) hs
    have hlen := hl.length
    have hl' : ((l.drop off).take n).length = n := by simp; omega
    have hload : (loadCells (a.add off) n).run P w = .ok ((l.drop off).take n).toArray w := by
      have := run_loadCells_list (P := P) w (a.add off) ((l.drop off).take n) (fun j v hv => by
        rw [Go.Deep.add_add]
        rw [List.getElem?_take] at hv
        split at hv
        · rw [List.getElem?_drop] at hv; exact (hlie _ v hv).1
        · cases hv)
      rwa [hl'] at this
    refine ⟨.agg ((l.drop off).take n).toArray, ?_, ?_⟩
    · simp [Instr.loadAt, Instr.sureAddr, loadVar, Sem.run_bind, h1, h2, hload]
    · simp only [pvLoad, hs, VR]
      exact ⟨_, rfl, VRL.ofI ((hl.drop off).take n)⟩
  · rename_i r ver off hs
    split at hp
    · rename_i rt hrt
      obtain ⟨hver, hlive, hoff⟩ := hp
      obtain ⟨rt', g, hrt', _, hg, rfl⟩ := VR.ref_now hx (by rw [hrt]; simp [hver])
      rw [hrt] at hrt'; cases hrt'
      obtain ⟨l, hl, hcell⟩ := (H.roots r rt hrt hlive).cell hg
      have hc : rt.cs[off]? = some (rt.cs[off]'hoff) := List.getElem?_eq_getElem hoff
      obtain ⟨v, hv, hvr⟩ := hl.get off _ hc
      refine ⟨v, ?_, by simp only [pvLoad, hs, hrt, hc]; exact hvr⟩
      simp [Instr.loadAt, Instr.sureAddr, loadVar, Sem.run_bind, lz_none (w := w) hs, load, Sem.run, hcell off v hv]
    · exact hp.elim
  · rename_i n r ver off hs
    split at hp
    · rename_i rt hrt
      obtain ⟨hver, hlive, hoff⟩ := hp
      obtain ⟨rt', g, hrt', _, hg, rfl⟩ := VR.ref_now hx (by rw [hrt]; simp [hver])
      rw [hrt] at hrt'; cases hrt'
      obtain ⟨l, hl, hcell⟩ := (H.roots r rt hrt hlive).cell hg
      obtain ⟨h1, h2⟩ := lz_some (w := w) hs
      have hlen := hl.length
      have hl' : ((l.drop off).take n).length = n := by simp; omega
      have hload : (loadCells ⟨g, off, none⟩ n).run P w = .ok ((l.drop off).take n).toArray w := by
        have := run_loadCells_list (P := P) w ⟨g, off, none⟩ ((l.drop off).take n) (fun j v hv => by
          rw [addr_add]
          rw [List.getElem?_take] at hv
          split at hv
          · rw [List.getElem?_drop] at hv; exact hcell _ v hv
          · cases hv)
        rwa [hl'] at this
      refine ⟨.agg ((l.drop off).take n).toArray, ?_, ?_⟩
      · simp [Instr.loadAt, Instr.sureAddr, loadVar, Sem.run_bind, h1, h2, hload]
      · simp only [pvLoad, hs, hrt, VR]
        exact ⟨_, rfl, (hl.drop off).take n⟩
    · exact hp.elim
  · exact hp.elim
def pvExt (x : AV) (i : Nat) : AV := match x with
  | .tup vs => (match vs[i]? with | some v => v | none => .any)
  | _ => .any
def poExt (x : AV) (i : Nat) : Prop := match x with
  | .tup vs => i < vs.length
  | _ => False
theorem ext_sound {x : AV} {i : Nat} {u : Value} (hp : poExt x i) (hx : VR w h ι A x u) : ∃ r, (Instr.extract u i).run P w = .ok r w ∧ VR w h ι A (pvExt x i) r := by
  unfold poExt at hp
  split at hp
  · rename_i vs
    simp only [VR] at hx
    obtain ⟨l, rfl, hl⟩ := hx
    have hc : vs[i]? = some (vs[i]'hp) := List.getElem?_eq_getElem hp
    obtain ⟨v, hv, hvr⟩ := hl.get i _ hc
    exact ⟨v, by simp [Instr.extract, hv], by simp only [pvExt, hc]; exact hvr⟩
  · exact hp.elim
def pvLen (x : AV) : AV := match x with
  | .im (.sl _ n) => .int .i64 n
  | .im (.val (.slice _ n _)) => .int .i64 n
  | .rsl _ _ _ n => .int .i64 n
  | .im (.val (.string s)) => .int .i64 s.size
  | _ => .any
def poLen (P : Program) (h : Hp) (t : TypeId) (x : AV) : Prop := match x with
  | .im (.sl _ _) => tk P t = 1
  | .im (.val (.slice _ _ _)) => tk P t = 1
  | .rsl r ver _ _ => tk P t = 1 ∧ (h.at r).map (·.ver) = some ver
  | .im (.val (.string _)) => tk P t = 2
  | _ => False
theorem tk_slice {t : TypeId} (h : tk P t = 1) : ∃ e, P.underlying t = some (.slice e) := by
  unfold tk at h
  cases hd : P.underlying t with
  | none => simp [hd] at h
  | some d => cases d <;> simp_all
theorem len_sound {t ty : TypeId} {x : AV} {u : Value} (hp : poLen P h t x) (hx : VR w h ι A x u) : ∃ r, (Builtin.len_ #[t] ty #[u]).run P w = .ok r w ∧ VR w h ι A (pvLen x) r := by
  unfold poLen at hp
  split at hp
  · obtain ⟨e, hu⟩ := tk_slice hp
    simp only [VR, VRI] at hx
    obtain ⟨ao, cap, l, rfl, _⟩ := hx
    exact ⟨_, by simp [Builtin.len_, Sem.run_bind, run_underlying hu, goInt]; rfl, by simp [pvLen, VR, VRI]⟩
  · obtain ⟨e, hu⟩ := tk_slice hp
    rw [VR.val_iff] at hx; subst hx
    exact ⟨_, by simp [Builtin.len_, Sem.run_bind, run_underlying hu, goInt]; rfl, by simp [pvLen, VR, VRI]⟩
  · obtain ⟨hp, hv⟩ := hp
    obtain ⟨e, hu⟩ := tk_slice hp
    simp only [VR] at hx
    obtain ⟨rt, hrt, _, himp⟩ := hx
    rw [hrt] at hv
    simp at hv
    obtain ⟨ao, c, rfl, _⟩ := himp hv.symm
    exact ⟨_, by simp [Builtin.len_, Sem.run_bind, run_underlying hu, goInt]; rfl, by simp [pvLen, VR, VRI]⟩
  · rw [VR.val_iff] at hx; subst hx
    exact ⟨_, by simp [Builtin.len_, Sem.run_bind, run_underlying (tk_str hp), goInt]; rfl, by simp [pvLen, VR, VRI]⟩
  · exact hp.elim
def pvStr (x i : AV) : AV := match x, i with
  | .im (.val (.string s)), .im (.val (.int _ j)) => .int .u8 (s.data.toList.getD j.toNat 0).toNat
  | _, _ => .any
def poStr (P : Program) (t : TypeId) (x i : AV) : Prop := match x, i with
  | .im (.val (.string s)), .im (.val (.int _ j)) => tk P t = 2 ∧ 0 ≤ j ∧ j < s.size
  | _, _ => False
theorem str_sound {t : TypeId} {x i : AV} {u v : Value} (hp : poStr P t x i) (hx : VR w h ι A x u) (hi : VR w h ι A i v) : ∃ r, (Instr.index t u v).run P w = .ok r w ∧ VR w h ι A (pvStr x i) r := by
  unfold poStr at hp
  split at hp
  · rename_i s k j
    obtain ⟨ht, h0, h1⟩ := hp
    rw [VR.val_iff] at hx hi; subst hx hi
    have hlt : j.toNat < s.size := by omega
    have hg : s[j.toNat]? = some (s[j.toNat]'hlt) := by simp [hlt]
    refine ⟨.int .u8 (s[j.toNat]'hlt).toNat, ?_, ?_⟩
    · simp [Instr.index, Sem.run_bind, asIntOf, run_underlying (tk_str ht), h0, hg]
    · have : s.data.toList.getD j.toNat 0 = s[j.toNat]'hlt := by
        have hl : j.toNat < s.data.toList.length := by simpa using hlt
        simp [List.getD, List.getElem?_eq_getElem hl]
        rfl
      simp only [pvStr, VR, VRI, this]
  · exact hp.elim
def pvMin (x y : AV) : AV := match x, y with
  | .im (.val (.int k a)), .im (.val (.int _ b)) => .int k (if b < a then b else a)
  | _, _ => .any
def pvMax (x y : AV) : AV := match x, y with
  | .im (.val (.int k a)), .im (.val (.int _ b)) => .int k (if b > a then b else a)
  | _, _ => .any
def poMin (x y : AV) : Prop := match x, y with
  | .im (.val (.int _ _)), .im (.val (.int _ _)) => True
  | _, _ => False
theorem min_sound {ts : Array TypeId} {ty : TypeId} {x y : AV} {u v : Value} (hp : poMin x y) (hx : VR w h ι A x u) (hy : VR w h ι A y v) : ∃ r, (Builtin.min_ ts ty #[u, v]).run P w = .ok r w ∧ VR w h ι A (pvMin x y) r := by
  unfold poMin at hp
  split at hp
  · rw [VR.val_iff] at hx hy; subst hx hy
    exact ⟨_, by simp [Builtin.min_, Builtin.min2]; rfl, by simp [pvMin, VR, VRI]⟩
  · exact hp.elim
theorem max_sound {ts : Array TypeId} {ty : TypeId} {x y : AV} {u v : Value} (hp : poMin x y) (hx : VR w h ι A x u) (hy : VR w h ι A y v) : ∃ r, (Builtin.max_ ts ty #[u, v]).run P w = .ok r w ∧ VR w h ι A (pvMax x y) r := by
  unfold poMin at hp
  split at hp
  · rw [VR.val_iff] at hx hy; subst hx hy
    exact ⟨_, by simp [Builtin.max_, Builtin.max2]; rfl, by simp [pvMax, VR, VRI]⟩
  · exact hp.elim
def lowOf (x : Option AV) : Nat := match x with
  | some (.im (.val (.int _ l))) => l.toNat
  | _ => 0
def highOf (n : Nat) (x : Option AV) : Nat := match x with
  | some (.im (.val (.int _ l))) => l.toNat
  | _ => n
def okLo (hi : Nat) (x : Option AV) : Prop := match x with
  | none => True
  | some (.im (.val (.int _ l))) => 0 ≤ l ∧ l ≤ hi
  | _ => False
def pvSlice (k : Option Nat) (x : AV) (lo hi : Option AV) : AV := match k, x with
  | some k, .im (.sl cs n) => .im (.sl ((cs.drop (lowOf lo * k)).take ((highOf n hi - lowOf lo) * k)) (highOf n hi - lowOf lo))
  | some k, .rsl r ver off n => .rsl r ver (off + lowOf lo * k) (highOf n hi - lowOf lo)
  | _, .im (.val (.string s)) => .string (s.extract (lowOf lo) (highOf s.size hi))
  | _, _ => .any
def poSlice (P : Program) (h : Hp) (t : TypeId) (x : AV) (lo hi : Option AV) : Prop := match ez P t, x with
  | some _, .im (.sl _ n) => tk P t = 1 ∧ okLo n hi ∧ okLo (highOf n hi) lo
  | some k, .rsl r ver _ n => tk P t = 1 ∧ (h.at r).map (fun rt => (rt.ver, rt.k)) = some (ver, k) ∧ okLo n hi ∧ okLo (highOf n hi) lo
  | _, .im (.val (.string s)) => tk P t = 2 ∧ okLo s.size hi ∧ okLo (highOf s.size hi) lo
  | _, _ => False
def VRO (w : World) (h : Hp) (ι : Nat → Bk) (A : Nat → Prop) : Option AV → Option Value → Prop
  | none, none => True
  | some x, some v => VR w h ι A x v
  | _, _ => False
theorem run_sliceBound {k : IntKind} {i : Int} {y : Nat} {c : BoundsCode} (h0 : 0 ≤ i) (h1 : i ≤ y) : (Instr.sliceBound (.int k i) y c).run P w = .ok i.toNat w := by
  simp [Instr.sliceBound, Sem.run_bind, asIntOf, h0, h1]
theorem run_sliceBounds {b : Bool} {n cap : Nat} {lo hi : Option AV} {l v : Option Value} (hn : n ≤ cap) (hl : VRO w h ι A lo l) (hh : VRO w h ι A hi v) (h1 : okLo n hi) (h2 : okLo (highOf n hi) lo) :
    (Instr.sliceBounds b n cap l v none).run P w = .ok (lowOf lo, highOf n hi, cap) w ∧ lowOf lo ≤ highOf n hi ∧ highOf n hi ≤ n := by
  have e1 : ∀ (m : Nat) (x : Option AV) (u : Option Value) (c : BoundsCode), VRO w h ι A x u → okLo m x → (match u with | some u => Instr.sliceBound u m c | none => pure 0).run P w = .ok (lowOf x) w ∧ lowOf x ≤ m := by
    intro m x u c hv ho
    cases x with
    | none => cases u with
      | none => exact ⟨by simp [lowOf], by simp [lowOf]⟩
      | some u => simp [VRO] at hv
    | some x => cases u with
      | none => simp [VRO] at hv
      | some u =>
        simp only [VRO] at hv
        unfold okLo at ho
        split at ho
        · simp_all
        · rename_i k l he
          cases he
          rw [VR.int_iff] at hv
          subst hv
          exact ⟨run_sliceBound ho.1 ho.2, by simp only [lowOf]; omega⟩
        · exact ho.elim
  have e2 : (match v with | some u => Instr.sliceBound u cap (if b then .sliceAcap else .sliceAlen) | none => pure n).run P w = .ok (highOf n hi) w ∧ highOf n hi ≤ n := by
    cases hi with
    | none => cases v with
      | none => exact ⟨by simp [highOf], by simp [highOf]⟩
      | some u => simp [VRO] at hh
    | some x => cases v with
      | none => simp [VRO] at hh
      | some u =>
        simp only [VRO] at hh
        unfold okLo at h1
        split at h1
        · simp_all
        · rename_i k l he
          cases he
          rw [VR.int_iff] at hh
          subst hh
          exact ⟨run_sliceBound h1.1 (by omega), by simp only [highOf]; omega⟩
        · exact h1.elim
  obtain ⟨r2, l2⟩ := e2
  obtain ⟨r1, l1⟩ := e1 (highOf n hi) lo l .sliceB hl h2
  refine ⟨?_, l1, l2⟩
  unfold Instr.sliceBounds
  cases v with
  | none =>
    simp only [Sem.run_pure, Result.ok.injEq, and_true] at r2
    cases l with
    | none => simp only [Sem.run_pure, Result.ok.injEq, and_true] at r1; simp [← r2, ← r1]
    | some l => simp only at r1; rw [← r2] at r1 ⊢; simp [Sem.run_bind, r1]
  | some v =>
    simp only at r2
    cases l with
    | none => simp only [Sem.run_pure, Result.ok.injEq, and_true] at r1; simp [Sem.run_bind, r2, ← r1]
    | some l => simp only at r1; simp [Sem.run_bind, r2, r1]
theorem slice_sound {t : TypeId} {x : AV} {lo hi : Option AV} {u : Value} {l v : Option Value} (hp : poSlice P h t x lo hi) (hx : VR w h ι A x u) (hl : VRO w h ι A lo l) (hh : VRO w h ι A hi v) :
    ∃ r, (Instr.sliceAt t u l v none).run P w = .ok r w ∧ VR w h ι A (pvSlice (ez P t) x lo hi) r := by
  unfold poSlice at hp
  split at hp
  · rename_i k cs n he
    obtain ⟨hk, h1, h2⟩ := hp
    obtain ⟨e, inf, hu, hinf, hsz⟩ := ez_slice hk he
    simp only [VR, VRI] at hx
    obtain ⟨ao, cap, ls, rfl, hn, hnone, hlie, hls⟩ := hx
    obtain ⟨hr, l1, l2⟩ := run_sliceBounds (P := P) (b := true) hn hl hh h1 h2
    refine ⟨_, by simp [Instr.sliceAt, Instr.slice, Sem.run_bind, run_underlying hu, hr, sizeOf, typeInfo, hinf, hsz]; rfl, ?_⟩
    simp only [pvSlice, he, VR, VRI]
    refine ⟨_, _, ((ls.drop (lowOf lo * k)).take ((highOf n hi - lowOf lo) * k)), rfl, by omega, ?_, ?_, (hls.drop _).take _⟩
    · intro hno
      have hno' : ao = none := by
        split at hno
        · exact hno
        · simpa using hno
      obtain ⟨a1, a2, a3⟩ := hnone hno'
      subst a1 a3
      refine ⟨by omega, by omega, by simp⟩
    · intro a ha i z hz
      by_cases hcl : cap = lowOf lo
      · have : highOf n hi - lowOf lo = 0 := by omega
        simp [this] at hz
      · rw [if_neg hcl] at ha
        cases ao with
        | none => simp at ha
        | some a0 =>
          simp at ha
          subst ha
          rw [List.getElem?_take] at hz
          split at hz
          · rw [List.getElem?_drop] at hz
            have := hlie a0 rfl _ z hz
            rw [Go.Deep.add_add, add_block]
            exact this
          · cases hz
  · rename_i k r ver off n he
    obtain ⟨hk, hnow, h1, h2⟩ := hp
    obtain ⟨e, inf, hu, hinf, hsz⟩ := ez_slice hk he
    obtain ⟨rt, hrt, hver, hrk, ao, c, rfl, hnc, hcase⟩ := VR.rsl_now hx hnow
    obtain ⟨hr, l1, l2⟩ := run_sliceBounds (P := P) (b := true) hnc hl hh h1 h2
    refine ⟨_, by simp [Instr.sliceAt, Instr.slice, Sem.run_bind, run_underlying hu, hr, sizeOf, typeInfo, hinf, hsz]; rfl, ?_⟩
    simp only [pvSlice, he, VR]
    refine ⟨rt, hrt, by omega, fun _ => ⟨_, _, rfl, by omega, ?_⟩⟩
    rw [hrk]
    rcases hcase with ⟨b1, rfl, b3, b4, b5⟩ | ⟨g, hg, hrest⟩
    · left
      subst b3 b4 b5
      refine ⟨b1, by simp, by omega, by omega, ?_⟩
      have : lowOf lo = 0 := by omega
      simp [this]
    · right
      refine ⟨g, hg, ?_⟩
      rcases hrest with ⟨rfl, hcap⟩ | ⟨b3, b4⟩
      · by_cases hcl : c = lowOf lo
        · right; omega
        · left
          rw [if_neg hcl]
          refine ⟨by simp [addr_add], ?_⟩
          have hle : lowOf lo ≤ c := by omega
          have : (c - lowOf lo) * k + lowOf lo * k = c * k := by rw [← Nat.add_mul]; congr 1; omega
          omega
      · right; omega
  · rename_i s
    obtain ⟨hk, h1, h2⟩ := hp
    rw [VR.val_iff] at hx; subst hx
    obtain ⟨hr, l1, l2⟩ := run_sliceBounds (P := P) (b := false) (Nat.le_refl s.size) hl hh h1 h2
    refine ⟨_, by simp [Instr.sliceAt, Instr.slice, Sem.run_bind, run_underlying (tk_str hk), hr]; rfl, ?_⟩
    cases ez P t <;> simp [pvSlice, VR, VRI]
  · exact hp.elim
end
end Go.Abs
/-
  Own work. The abstract layer, part 5: structs and arrays by value; the evaluator over operations; guards; a region whose order is drawn.
-/
namespace Go.Abs
open Go.RowKit
section
variable {P : Program} {w : World} {h : Hp} {ι : Nat → Bk} {A : Nat → Prop}
def oneA (h : Hp) : AV → Prop
  | .im (.val u) => u.oneCell' = true
  | .im (.sl _ _) => True
  | .ref r ver _ => (h.at r).map (·.ver) = some ver
  | .rsl r ver _ _ => (h.at r).map (·.ver) = some ver
  | _ => False
theorem oneA.sound {x : AV} {v : Value} (ho : oneA h x) (hx : VR w h ι A x v) : v.oneCell' = true := by
  unfold oneA at ho
  split at ho
  · rw [VR.val_iff] at hx; subst hx; exact ho
  · simp only [VR, VRI] at hx
    obtain ⟨ao, cap, l, rfl, _⟩ := hx
    rfl
  · obtain ⟨rt, g, _, _, _, rfl⟩ := VR.ref_now hx ho
    rfl
  · simp only [VR] at hx
    obtain ⟨rt, hrt, _, himp⟩ := hx
    rw [hrt] at ho
    simp at ho
    obtain ⟨ao, c, rfl, _⟩ := himp ho.symm
    rfl
  · exact ho.elim
theorem cells_one {v : Value} (h : v.oneCell' = true) : v.cells = #[v] := by cases v <;> simp_all [Value.oneCell', Value.cells]
theorem oneA.sound_list : ∀ {cs : List AV} {l : List Value}, (∀ x ∈ cs, oneA h x) → VRL w h ι A cs l → ∀ u ∈ l, u.oneCell' = true
  | [], l, _, hl => by simp only [VRL] at hl; subst hl; simp
  | c :: cs, l, ho, hl => by
    simp only [VRL] at hl
    obtain ⟨v, l', rfl, hv, hr⟩ := hl
    intro u hu
    rcases List.mem_cons.1 hu with rfl | hu
    · exact (ho c (by simp)).sound hv
    · exact oneA.sound_list (fun x hx => ho x (by simp [hx])) hr u hu
def cellsA : AV → List AV
  | .agg cs => cs
  | v => [v]
def okC (h : Hp) : AV → Prop
  | .agg cs => ∀ x ∈ cs, oneA h x
  | v => oneA h v
theorem okC.sound {x : AV} {v : Value} (ho : okC h x) (hx : VR w h ι A x v) : VRL w h ι A (cellsA x) v.cells.toList ∧ ∀ u ∈ v.cells.toList, u.oneCell' = true := by
  cases x with
  | agg cs =>
    simp only [VR] at hx
    obtain ⟨l, rfl, hl⟩ := hx
    simp only [okC] at ho
    exact ⟨by simpa [cellsA, Value.cells] using hl, by simpa [Value.cells] using oneA.sound_list ho hl⟩
  | _ =>
    simp only [okC] at ho
    have h1 := ho.sound hx
    rw [cells_one h1]
    refine ⟨by simp only [cellsA, VRL]; exact ⟨v, [], rfl, hx, rfl⟩, by simpa using h1⟩
def putA {α : Type} (cells : List α) (off : Nat) (cs : List α) : List α := cells.take off ++ cs ++ cells.drop (off + cs.length)
theorem VRL.putA {cells cs : List AV} {l m : List Value} (off : Nat) (h1 : VRL w h ι A cells l) (h2 : VRL w h ι A cs m) : VRL w h ι A (Abs.putA cells off cs) (Abs.putA l off m) := by
  unfold Abs.putA
  rw [h2.length]
  exact ((h1.take off).append h2).append (h1.drop _)
theorem foldl_set_eq : ∀ (cs : List Value) (off i : Nat) (cells : Array Value), off + i + cs.length ≤ cells.size →
    (cs.zipIdx i).foldl (fun (acc : Array Value) (p : Value × Nat) => acc.setIfInBounds (off + p.2) p.1) cells = (Abs.putA cells.toList (off + i) cs).toArray
  | [], off, i, cells, _ => by simp [Abs.putA]
  | v :: rest, off, i, cells, hl => by
    simp only [List.zipIdx_cons, List.foldl_cons]
    rw [foldl_set_eq rest off (i + 1) _ (by simp at hl ⊢; omega)]
    unfold Abs.putA
    have e := list_seg_step cells.toList (off + i) v rest (by simp at hl ⊢; omega)
    congr 1
    simpa [Array.toList_setIfInBounds, Nat.add_assoc] using e
def fillA (h : Hp) (place : Nat → Option (Nat × Nat)) : List AV → List (Nat × AV) → Option (List AV)
  | cells, [] => some cells
  | cells, (i, v) :: rest => match place i with
    | none => none
    | some (off, size) => if (cellsA v).length = size ∧ off + (cellsA v).length ≤ cells.length then fillA h place (putA cells off (cellsA v)) rest else none
def VRP (w : World) (h : Hp) (ι : Nat → Bk) (A : Nat → Prop) : List (Nat × AV) → List (Nat × Value) → Prop
  | [], [] => True
  | (i, x) :: r, (j, v) :: s => i = j ∧ VR w h ι A x v ∧ VRP w h ι A r s
  | _, _ => False
theorem fill_sound {place : Nat → Option (Nat × Nat)} : ∀ {parts : List (Nat × AV)} {vs : List (Nat × Value)} {cells cells' : List AV} {arr : Array Value},
    fillA h place cells parts = some cells' → VRP w h ι A parts vs → (∀ p ∈ parts, okC h p.2) → VRL w h ι A cells arr.toList →
    ∃ arr', Instr.fill place arr vs = some arr' ∧ VRL w h ι A cells' arr'.toList
  | [], vs, cells, cells', arr, hf, hp, _, hc => by
    cases vs with
    | nil => simp [fillA] at hf; subst hf; exact ⟨arr, rfl, hc⟩
    | cons v vs => simp [VRP] at hp
  | (i, x) :: r, vs, cells, cells', arr, hf, hp, ho, hc => by
    cases vs with
    | nil => simp [VRP] at hp
    | cons p vs =>
      obtain ⟨j, v⟩ := p
      simp only [VRP] at hp
      obtain ⟨rfl, hx, hr⟩ := hp
      simp only [fillA] at hf
      cases hpl : place i with
      | none => simp [hpl] at hf
      | some q =>
        obtain ⟨off, size⟩ := q
        simp only [hpl] at hf
        split at hf
        · rename_i hcond
          obtain ⟨hs, hfit⟩ := hcond
          obtain ⟨hv1, hv2⟩ := (ho (i, x) (by simp)).sound hx
          have hlen : v.cells.size = (cellsA x).length := by simpa using hv1.length
          have hcl : arr.size = cells.length := by simpa using hc.length
          have e := foldl_set_eq v.cells.toList off 0 arr (by simp; omega)
          obtain ⟨arr', h1, h2⟩ := fill_sound (arr := (Abs.putA arr.toList off v.cells.toList).toArray) hf hr (fun p hp => ho p (by simp [hp])) (by simpa using VRL.putA off hc hv1)
          refine ⟨arr', ?_, h2⟩
          simp only [Instr.fill, hpl]
          rw [if_neg (by simp; omega)]
          rw [← h1]
          congr 1
          rw [← Array.foldl_toList]
          simpa using e
        · cases hf
def zc (P : Program) (t : TypeId) : Option (List Value) := match P.info? t with
  | some i => i.zero.map fun z => z.cells.toList
  | none => none
def fps (P : Program) (t : TypeId) : Option (List (Nat × Nat)) := match P.underlying t with
  | some (.struct fs) => fs.toList.mapM fun f => (P.info? f.type).map fun i => (f.offset, i.size)
  | _ => none
def pvBuild (P : Program) (h : Hp) (t : TypeId) (parts : List (Nat × AV)) : AV := match zc P t, fps P t, alen P t, ez P t with
  | some z, some ps, _, _ => (match fillA h (ps[·]?) (z.map fun v => .im (.val v)) parts with | some cs => .agg cs | none => .any)
  | some z, none, some _, some k => (match fillA h (fun i => some (i * k, k)) (z.map fun v => .im (.val v)) parts with | some cs => .agg cs | none => .any)
  | _, _, _, _ => .any
def poBuild (P : Program) (h : Hp) (t : TypeId) (parts : List (Nat × AV)) : Prop := (∀ p ∈ parts, okC h p.2) ∧ match zc P t, fps P t, alen P t, ez P t with
  | some z, some ps, _, _ => (fillA h (ps[·]?) (z.map fun v => .im (.val v)) parts).isSome = true
  | some z, none, some _, some k => (fillA h (fun i => some (i * k, k)) (z.map fun v => .im (.val v)) parts).isSome = true
  | _, _, _, _ => False
theorem VRL.vals : ∀ (z : List Value), VRL w h ι A (z.map fun v => .im (.val v)) z
  | [] => by simp [VRL]
  | v :: z => by
    simp only [List.map_cons, VRL]
    exact ⟨v, z, rfl, by simp [VR, VRI], VRL.vals z⟩
theorem zc_some {t : TypeId} {z : List Value} (hz : zc P t = some z) : ∃ u, (zeroValue t).run P w = .ok u w ∧ u.cells.toList = z := by
  unfold zc at hz
  cases hi : P.info? t with
  | none => simp [hi] at hz
  | some i =>
    simp only [hi] at hz
    cases hzz : i.zero with
    | none => simp [hzz] at hz
    | some u => simp [hzz] at hz; exact ⟨u, by simp [zeroValue, Sem.run_bind, typeInfo, hi, hzz], hz⟩
theorem run_mapM_places : ∀ (fs : List Field) (ps : List (Nat × Nat)), fs.mapM (fun f => (P.info? f.type).map fun i => (f.offset, i.size)) = some ps →
    (fs.mapM fun f => (do pure (f.offset, ← sizeOf f.type) : Sem (Nat × Nat))).run P w = .ok ps w
  | [], ps, hp => by simp at hp; subst hp; simp
  | f :: fs, ps, hp => by
    simp only [List.mapM_cons, Option.bind_eq_bind] at hp
    cases hi : P.info? f.type with
    | none => simp [hi] at hp
    | some i =>
      simp only [hi, Option.map_some, Option.bind_some] at hp
      cases hr : fs.mapM (fun f => (P.info? f.type).map fun i => (f.offset, i.size)) with
      | none => rw [hr] at hp; simp at hp
      | some qs =>
        rw [hr] at hp
        simp at hp
        subst hp
        have ih := run_mapM_places fs qs hr
        have hh : (do pure (f.offset, ← sizeOf f.type) : Sem (Nat × Nat)).run P w = .ok (f.offset, i.size) w := by simp [sizeOf, typeInfo, hi]
        rw [List.mapM_cons, Sem.run_bind, hh, Result.andThen_ok, Sem.run_bind, ih, Result.andThen_ok, Sem.run_pure]
theorem run_mapM_array (fs : Array Field) (ps : List (Nat × Nat)) (hp : fs.toList.mapM (fun f => (P.info? f.type).map fun i => (f.offset, i.size)) = some ps) :
    (fs.mapM fun f => (do pure (f.offset, ← sizeOf f.type) : Sem (Nat × Nat))).run P w = .ok ps.toArray w := by
  have h1 := run_mapM_places (w := w) fs.toList ps hp
  have h2 : (fs.mapM fun f => (do pure (f.offset, ← sizeOf f.type) : Sem (Nat × Nat))) = Functor.map List.toArray (fs.toList.mapM fun f => (do pure (f.offset, ← sizeOf f.type) : Sem (Nat × Nat))) := by
    rw [Array.mapM_eq_mapM_toList]
  rw [h2]
  simp only [map_eq_pure_bind, Sem.run_bind, h1, Result.andThen_ok, Sem.run_pure]
theorem fps_some {t : TypeId} {ps : List (Nat × Nat)} (hp : fps P t = some ps) : ∃ fs, P.underlying t = some (.struct fs) ∧ fs.toList.mapM (fun f => (P.info? f.type).map fun i => (f.offset, i.size)) = some ps := by
  unfold fps at hp
  split at hp
  · rename_i fs hs; exact ⟨fs, hs, hp⟩
  · cases hp
theorem build_sound {t : TypeId} {parts : List (Nat × AV)} {vs : Array (Nat × Value)} (hp : poBuild P h t parts) (hv : VRP w h ι A parts vs.toList) :
    ∃ r, (Instr.build t vs).run P w = .ok r w ∧ VR w h ι A (pvBuild P h t parts) r := by
  obtain ⟨ho, hp⟩ := hp
  split at hp
  · rename_i z ps hz hps
    obtain ⟨u, hu, hcu⟩ := zc_some (w := w) hz
    obtain ⟨fs, hfs, hm⟩ := fps_some hps
    cases hf : fillA h (ps[·]?) (z.map fun v => .im (.val v)) parts with
    | none => simp [hf] at hp
    | some cs =>
      obtain ⟨arr', h1, h2⟩ := fill_sound (arr := u.cells) hf hv ho (by rw [hcu]; exact VRL.vals z)
      refine ⟨.agg arr', ?_, ?_⟩
      · have hm' := run_mapM_array (w := w) fs ps hm
        simp only [Instr.build, Sem.run_bind, hu, Result.andThen_ok, run_underlying hfs, Sem.run_pure] at hm' ⊢
        rw [hm']
        simp [h1]
      · simp only [pvBuild, hz, hps, hf, VR]
        exact ⟨arr'.toList, by simp, h2⟩
  · rename_i z n k hz hps hal hez
    obtain ⟨u, hu, hcu⟩ := zc_some (w := w) hz
    obtain ⟨e, inf, hue, hinf, hsz⟩ := ez_array hal hez
    cases hf : fillA h (fun i => some (i * k, k)) (z.map fun v => .im (.val v)) parts with
    | none => simp [hf] at hp
    | some cs =>
      obtain ⟨arr', h1, h2⟩ := fill_sound (arr := u.cells) hf hv ho (by rw [hcu]; exact VRL.vals z)
      refine ⟨.agg arr', ?_, ?_⟩
      · simp [Instr.build, Sem.run_bind, hu, run_underlying hue, sizeOf, typeInfo, hinf, hsz, h1]
      · simp only [pvBuild, hz, hps, hal, hez, hf, VR]
        exact ⟨arr'.toList, by simp, h2⟩
  · exact hp.elim
def pvPart (cs : List AV) (off : Nat) (s : Option (Option Nat)) : AV := match s with
  | some none => (match cs[off]? with | some c => c | none => .any)
  | some (some n) => .agg ((cs.drop off).take n)
  | none => .any
def poPart (cs : List AV) (off : Nat) (s : Option (Option Nat)) : Prop := match s with
  | some none => off < cs.length
  | some (some n) => off + n ≤ cs.length
  | none => False
theorem part_sound {t : TypeId} {cs : List AV} {off : Nat} {l : List Value} (hp : poPart cs off (lz P t)) (hl : VRL w h ι A cs l) : ∃ r, (part t l.toArray off).run P w = .ok r w ∧ VR w h ι A (pvPart cs off (lz P t)) r := by
  unfold poPart at hp
  split at hp
  · rename_i hs
    have hc : cs[off]? = some (cs[off]'hp) := List.getElem?_eq_getElem hp
    obtain ⟨v, hv, hvr⟩ := hl.get off _ hc
    exact ⟨v, by simp [part, Sem.run_bind, lz_none (w := w) hs, hv], by simp only [pvPart, hs, hc]; exact hvr⟩
  · rename_i n hs
    obtain ⟨h1, h2⟩ := lz_some (w := w) hs
    have hlen := hl.length
    refine ⟨.agg ((l.drop off).take n).toArray, ?_, ?_⟩
    · simp [part, Sem.run_bind, h1, h2, List.extract_eq_take_drop]
    · simp only [pvPart, hs, VR]
      exact ⟨_, rfl, (hl.drop off).take n⟩
  · exact hp.elim
def fl (P : Program) (t : TypeId) (f : Nat) : Option (Nat × TypeId) := match P.underlying t with
  | some (.struct fs) => (fs[f]?).map fun fd => (fd.offset, fd.type)
  | _ => none
def pvFld (P : Program) (t : TypeId) (x : AV) (f : Nat) : AV := match x, fl P t f with
  | .agg cs, some (off, ty) => pvPart cs off (lz P ty)
  | _, _ => .any
def poFld (P : Program) (t : TypeId) (x : AV) (f : Nat) : Prop := match x, fl P t f with
  | .agg cs, some (off, ty) => poPart cs off (lz P ty)
  | _, _ => False
theorem fld_sound {t : TypeId} {x : AV} {f : Nat} {u : Value} (hp : poFld P t x f) (hx : VR w h ι A x u) : ∃ r, (Instr.field t u f).run P w = .ok r w ∧ VR w h ι A (pvFld P t x f) r := by
  unfold poFld at hp
  split at hp
  · rename_i cs off ty hf
    simp only [VR] at hx
    obtain ⟨l, rfl, hl⟩ := hx
    obtain ⟨r, hr, hvr⟩ := part_sound (P := P) hp hl
    unfold fl at hf
    split at hf
    · rename_i fs hs
      cases hfd : fs[f]? with
      | none => simp [hfd] at hf
      | some fd =>
        simp [hfd] at hf
        obtain ⟨rfl, rfl⟩ := hf
        refine ⟨r, by simp [Instr.field, Sem.run_bind, run_underlying hs, hfd, asAgg, hr], ?_⟩
        simp only [pvFld, fl, hs, hfd, Option.map_some]
        exact hvr
    · cases hf
  · exact hp.elim
def aty (P : Program) (t : TypeId) : Option TypeId := match P.underlying t with
  | some (.array _ e) => some e
  | _ => none
def pvIndex (P : Program) (t : TypeId) (x i : AV) : AV := match x, i with
  | .agg cs, .im (.val (.int _ j)) => (match ez P t, aty P t with | some k, some e => pvPart cs (j.toNat * k) (lz P e) | _, _ => .any)
  | x, i => pvStr x i
def poIndex (P : Program) (t : TypeId) (x i : AV) : Prop := match x, i with
  | .agg cs, .im (.val (.int _ j)) => (match ez P t, aty P t, alen P t with | some k, some e, some n => 0 ≤ j ∧ j < n ∧ poPart cs (j.toNat * k) (lz P e) | _, _, _ => False)
  | x, i => poStr P t x i
theorem index_sound {t : TypeId} {x i : AV} {u v : Value} (hp : poIndex P t x i) (hx : VR w h ι A x u) (hi : VR w h ι A i v) : ∃ r, (Instr.index t u v).run P w = .ok r w ∧ VR w h ι A (pvIndex P t x i) r := by
  unfold poIndex at hp
  split at hp
  · rename_i cs k0 j
    split at hp
    · rename_i k e n hez hat hal
      obtain ⟨h0, h1, hp⟩ := hp
      simp only [VR] at hx
      obtain ⟨l, rfl, hl⟩ := hx
      rw [VR.int_iff] at hi; subst hi
      obtain ⟨e', inf, hu, hinf, hsz⟩ := ez_array hal hez
      have he : e' = e := by unfold aty at hat; simp [hu] at hat; exact hat
      subst he
      obtain ⟨r, hr, hvr⟩ := part_sound (P := P) hp hl
      refine ⟨r, ?_, by simp only [pvIndex, hez, hat]; exact hvr⟩
      simp [Instr.index, Sem.run_bind, asIntOf, run_underlying hu, h0, h1, sizeOf, typeInfo, hinf, hsz, hr]
    · exact hp.elim
  · rename_i x i hne
    obtain ⟨r, hr, hvr⟩ := str_sound (P := P) hp hx hi
    refine ⟨r, hr, ?_⟩
    unfold pvIndex
    split
    · simp [poStr] at hp
    · exact hvr
def pv (P : Program) (h : Hp) (ρ : Operand → AV) : Op → AV
  | .move x => st (ρ x)
  | .assign x => st (ρ x)
  | .pick c a b => pvPick (st (ρ c)) (ρ a) (ρ b)
  | .binOp op _ x y _ => pvBin op (st (ρ x)) (st (ρ y))
  | .unOp op _ x => pvUn op (st (ρ x))
  | .convert _ d x => pvConv P d (st (ρ x))
  | .fieldAddr s x f => pvField (fo P s f) (st (ρ x))
  | .field t x f => pvFld P t (st (ρ x)) f
  | .indexAddr t x i => pvIdx (ez P t) (st (ρ x)) (st (ρ i))
  | .index t x i => pvIndex P t (st (ρ x)) (st (ρ i))
  | .load t x => pvLoad h (lz P t) (st (ρ x))
  | .extract x i => pvExt (st (ρ x)) i
  | .slice t x lo hi none => pvSlice (ez P t) (st (ρ x)) (lo.map fun y => st (ρ y)) (hi.map fun y => st (ρ y))
  | .build t ps => pvBuild P h t (ps.toList.map fun p => (p.1, st (ρ p.2)))
  | .call ⟨.builtin .len, ⟨[x]⟩, ⟨[_]⟩⟩ => pvLen (st (ρ x))
  | .call ⟨.builtin .min, ⟨[x, y]⟩, _⟩ => pvMin (st (ρ x)) (st (ρ y))
  | .call ⟨.builtin .max, ⟨[x, y]⟩, _⟩ => pvMax (st (ρ x)) (st (ρ y))
  | _ => .any
def gdo (ρ : Operand → AV) (o : Option Operand) : Prop := match o with
  | some x => gd (ρ x)
  | none => True
def po (P : Program) (h : Hp) (ρ : Operand → AV) : Op → Prop
  | .move x => gd (ρ x)
  | .assign x => gd (ρ x)
  | .pick c a b => gd (ρ c) ∧ poPick (st (ρ c)) (ρ a) (ρ b)
  | .binOp op t x y _ => gd (ρ x) ∧ gd (ρ y) ∧ poBin P t op (st (ρ x)) (st (ρ y))
  | .unOp op _ x => gd (ρ x) ∧ poUn op (st (ρ x))
  | .convert s d x => gd (ρ x) ∧ poConv P s d (st (ρ x))
  | .fieldAddr s x f => gd (ρ x) ∧ poField h (fo P s f) (st (ρ x))
  | .field t x f => gd (ρ x) ∧ poFld P t (st (ρ x)) f
  | .indexAddr t x i => gd (ρ x) ∧ gd (ρ i) ∧ poIdx P h t (st (ρ x)) (st (ρ i))
  | .index t x i => gd (ρ x) ∧ gd (ρ i) ∧ poIndex P t (st (ρ x)) (st (ρ i))
  | .load t x => gd (ρ x) ∧ poLoad h (lz P t) (st (ρ x))
  | .extract x i => gd (ρ x) ∧ poExt (st (ρ x)) i
  | .slice t x lo hi none => gd (ρ x) ∧ gdo ρ lo ∧ gdo ρ hi ∧ poSlice P h t (st (ρ x)) (lo.map fun y => st (ρ y)) (hi.map fun y => st (ρ y))
  | .build t ps => (∀ p ∈ ps.toList, gd (ρ p.2)) ∧ poBuild P h t (ps.toList.map fun p => (p.1, st (ρ p.2)))
  | .call ⟨.builtin .len, ⟨[x]⟩, ⟨[t]⟩⟩ => gd (ρ x) ∧ poLen P h t (st (ρ x))
  | .call ⟨.builtin .min, ⟨[x, y]⟩, _⟩ => gd (ρ x) ∧ gd (ρ y) ∧ poMin (st (ρ x)) (st (ρ y))
  | .call ⟨.builtin .max, ⟨[x, y]⟩, _⟩ => gd (ρ x) ∧ gd (ρ y) ∧ poMin (st (ρ x)) (st (ρ y))
  | _ => False
theorem VRP.mk {ρ : Operand → AV} {η : Operand → Value} : ∀ (ps : List (Nat × Operand)), (∀ p ∈ ps, gd (ρ p.2)) → (∀ p ∈ ps, VR w h ι A (ρ p.2) (η p.2)) → VRP w h ι A (ps.map fun p => (p.1, st (ρ p.2))) (ps.map fun p => (p.1, η p.2))
  | [], _, _ => by simp [VRP]
  | p :: ps, hg, hv => by
    simp only [List.map_cons, VRP]
    exact ⟨trivial, (hv p (by simp)).st (hg p (by simp)), VRP.mk ps (fun q hq => hg q (by simp [hq])) (fun q hq => hv q (by simp [hq]))⟩
theorem VRO.mk {ρ : Operand → AV} {η : Operand → Value} (o : Option Operand) (hg : gdo ρ o) (hv : ∀ x, o = some x → VR w h ι A (ρ x) (η x)) : VRO w h ι A (o.map fun y => st (ρ y)) (o.map η) := by
  cases o with
  | none => simp [VRO]
  | some x => simp only [Option.map_some, VRO]; exact (hv x rfl).st hg
theorem pv_sound {X : Ctx} (H : Hol X h ι w) {ρ : Operand → AV} {η : Operand → Value} {o : Oper} (hp : po P h ρ o.op) (hv : ∀ x, x ∈ o.op.operands → VR w h ι (Own X.B h ι) (ρ x) (η x)) :
    ∃ v, (execOp η o).run P w = .ok (.value v) w ∧ VR w h ι (Own X.B h ι) (pv P h ρ o.op) v := by
  obtain ⟨dst, op, type, pos, after, guard⟩ := o
  simp only at hp hv
  unfold po at hp
  split at hp
  case h_1 x => exact ⟨η x, by simp [execOp], (hv x (by simp [Op.operands])).st hp⟩
  case h_2 x => exact ⟨η x, by simp [execOp], (hv x (by simp [Op.operands])).st hp⟩
  case h_3 c a b =>
    obtain ⟨r, hr, hvr⟩ := pick_sound (P := P) hp.2 ((hv c (by simp [Op.operands])).st hp.1) (hv a (by simp [Op.operands])) (hv b (by simp [Op.operands]))
    refine ⟨r, ?_, hvr⟩
    simp only [execOp, Sem.run_bind] at hr ⊢
    cases hb : (asBool (η c)).run P w with
    | ok b w' => rw [hb] at hr; simp at hr; obtain ⟨rfl, rfl⟩ := hr; simp
    | halt x w' => rw [hb] at hr; simp at hr
  case h_4 op t x y _ =>
    obtain ⟨r, hr, hvr⟩ := bin_sound (P := P) (X := x) (Y := y) hp.2.2 ((hv x (by simp [Op.operands])).st hp.1) ((hv y (by simp [Op.operands])).st hp.2.1)
    exact ⟨r, by simp only [execOp, Sem.run_bind] at hr ⊢; rw [hr]; simp, hvr⟩
  case h_5 op _ x =>
    obtain ⟨r, hr, hvr⟩ := un_sound (P := P) hp.2 ((hv x (by simp [Op.operands])).st hp.1)
    exact ⟨r, by simp [execOp, Sem.run_bind, hr], hvr⟩
  case h_6 s d x =>
    obtain ⟨r, hr, hvr⟩ := conv_sound (P := P) hp.2 ((hv x (by simp [Op.operands])).st hp.1)
    exact ⟨r, by simp [execOp, Sem.run_bind, hr], hvr⟩
  case h_7 s x f =>
    obtain ⟨r, hr, hvr⟩ := field_sound (P := P) hp.2 ((hv x (by simp [Op.operands])).st hp.1)
    exact ⟨r, by simp [execOp, Sem.run_bind, hr], hvr⟩
  case h_8 t x f =>
    obtain ⟨r, hr, hvr⟩ := fld_sound (P := P) hp.2 ((hv x (by simp [Op.operands])).st hp.1)
    exact ⟨r, by simp [execOp, Sem.run_bind, hr], hvr⟩
  case h_9 t x i =>
    obtain ⟨r, hr, hvr⟩ := idx_sound (P := P) hp.2.2 ((hv x (by simp [Op.operands])).st hp.1) ((hv i (by simp [Op.operands])).st hp.2.1)
    exact ⟨r, by simp [execOp, Sem.run_bind, hr], hvr⟩
  case h_10 t x i =>
    obtain ⟨r, hr, hvr⟩ := index_sound (P := P) hp.2.2 ((hv x (by simp [Op.operands])).st hp.1) ((hv i (by simp [Op.operands])).st hp.2.1)
    exact ⟨r, by simp [execOp, Sem.run_bind, hr], hvr⟩
  case h_11 t x =>
    obtain ⟨r, hr, hvr⟩ := load_sound (P := P) H hp.2 ((hv x (by simp [Op.operands])).st hp.1)
    exact ⟨r, by simp [execOp, Sem.run_bind, hr], hvr⟩
  case h_12 x i =>
    obtain ⟨r, hr, hvr⟩ := ext_sound (P := P) hp.2 ((hv x (by simp [Op.operands])).st hp.1)
    exact ⟨r, by simp [execOp, Sem.run_bind, hr], hvr⟩
  case h_13 t x lo hi =>
    obtain ⟨h1, h2, h3, h4⟩ := hp
    obtain ⟨r, hr, hvr⟩ := slice_sound (P := P) h4 ((hv x (by simp [Op.operands])).st h1) (VRO.mk lo h2 fun y hy => hv y (by simp [Op.operands, hy])) (VRO.mk hi h3 fun y hy => hv y (by simp [Op.operands, hy]))
    exact ⟨r, by simp [execOp, Sem.run_bind, hr], hvr⟩
  case h_14 t ps =>
    obtain ⟨h1, h2⟩ := hp
    have hm := VRP.mk (η := η) ps.toList h1 (fun p hp => hv p.2 (by simp only [Op.operands]; exact (List.mem_toArray).2 (List.mem_map.2 ⟨p, hp, rfl⟩)))
    obtain ⟨r, hr, hvr⟩ := build_sound (P := P) (vs := ps.map fun p => (p.1, η p.2)) h2 (by simpa using hm)
    exact ⟨r, by simp [execOp, Sem.run_bind, hr], hvr⟩
  case h_15 x t =>
    obtain ⟨r, hr, hvr⟩ := len_sound (P := P) (ty := type) hp.2 ((hv x (by simp [Op.operands, Call.operands])).st hp.1)
    exact ⟨r, by simp [execOp, Sem.run_bind, resolve, invoke, builtin, hr], hvr⟩
  case h_16 x y ts =>
    obtain ⟨r, hr, hvr⟩ := min_sound (P := P) (ts := ts) (ty := type) hp.2.2 ((hv x (by simp [Op.operands, Call.operands])).st hp.1) ((hv y (by simp [Op.operands, Call.operands])).st hp.2.1)
    exact ⟨r, by simp [execOp, Sem.run_bind, resolve, invoke, builtin, hr], hvr⟩
  case h_17 x y ts =>
    obtain ⟨r, hr, hvr⟩ := max_sound (P := P) (ts := ts) (ty := type) hp.2.2 ((hv x (by simp [Op.operands, Call.operands])).st hp.1) ((hv y (by simp [Op.operands, Call.operands])).st hp.2.1)
    exact ⟨r, by simp [execOp, Sem.run_bind, resolve, invoke, builtin, hr], hvr⟩
  case h_18 => exact hp.elim
end
end Go.Abs
/-
  Own work. The abstract layer, part 6: guards; quiet operations in a row; a region whose order is drawn.
-/
namespace Go.Abs
open Go.RowKit
def gcond (b : Bool) : AV → Option Bool
  | .im (.val (.bool g)) => some (if b then g else !g)
  | .cnd c (.im (.val (.bool g))) => some (c && (if b then g else !g))
  | _ => none
def gav (ops : Array Oper) (env : Env) (o : Oper) (x : AV) : AV := match o.guard with
  | none => x
  | some (j, b) => match (ops[j]?).bind (·.dst) with
    | some t => (match gcond b (rd env t) with | some c => .cnd c x | none => .any)
    | none => .any
def gpo (ops : Array Oper) (env : Env) (o : Oper) (φ : Prop) : Prop := match o.guard with
  | none => φ
  | some (j, b) => match (ops[j]?).bind (·.dst) with
    | some t => (match gcond b (rd env t) with | some c => c = true → φ | none => False)
    | none => False
section
variable {P : Program} {N : Nat} {ops : Array Oper} {env : Env} {h : Hp}
theorem gcond_sound {w : World} {ι : Nat → Bk} {A : Nat → Prop} {b c : Bool} {x : AV} {v : Value} (hc : gcond b x = some c) (hv : VR w h ι A x v) :
    c = true ↔ v = .bool b := by
  unfold gcond at hc
  split at hc
  · rw [VR.bool_iff] at hv; subst hv
    cases b <;> simp_all
  · rename_i c' g
    simp only [VR, VRI] at hv
    simp at hc
    subst hc
    cases c' with
    | false =>
      have := hv.2 rfl
      subst this
      simp [undef]
    | true =>
      have := hv.1 rfl
      subst this
      cases b <;> simp
  · cases hc
theorem yielded_iff {tmps : Array Value} {j t : Nat} {b : Bool} (ht : (ops[j]?).bind (·.dst) = some t) : yielded ops tmps j = some b ↔ tmps.getD t undef = .bool b := by
  unfold yielded
  rw [ht]
  simp only [Option.bind_some, Array.getD_eq_getD_getElem?]
  cases hy : tmps[t]? with
  | none => simp [undef]
  | some y => cases y <;> simp
theorem looks_operand {o : Oper} {t : Nat} (hx : Operand.tmp t ∈ o.op.operands) : t ∈ o.looksAt ops :=
  List.mem_append_left _ (List.mem_filterMap.2 ⟨.tmp t, by simpa using hx, rfl⟩)
theorem looks_guard {o : Oper} {j t : Nat} {b : Bool} (hg : o.guard = some (j, b)) (ht : (ops[j]?).bind (·.dst) = some t) : t ∈ o.looksAt ops :=
  List.mem_append_right _ (by simp [hg, ht])
theorem operand_vr {w : World} {ι : Nat → Bk} {A : Nat → Prop} {a : Act} {o : Oper} (hg : GlobOK w A) (hs : ∀ s, s ∈ o.looksAt ops → VR w h ι A (rd env s) (a.tmps.getD s undef)) :
    ∀ x, x ∈ o.op.operands → VR w h ι A (rdo env x) (a.eval x) := by
  intro x hx
  cases x with
  | tmp t => exact hs t (looks_operand hx)
  | global g =>
    cases hc : globAt globs g with
    | some cs => simp only [rdo, hc, Act.eval]; exact hg.vr hc
    | none => simp [rdo, hc, Act.eval, VR, VRI]
  | _ => simp [rdo, Act.eval, VR, VRI]
theorem Quiet.guarded {o : Oper} {av : AV} {φ : Prop} (hg : gpo ops env o φ)
    (hq : φ → ∀ (X : Ctx) (a : Act) (w : World) (ι : Nat → Bk) (Q : Exit → Act → World → Prop), Hol X h ι w →
      (∀ x, x ∈ o.op.operands → VR w h ι (Own X.B h ι) (rdo env x) (a.eval x)) →
      ∀ next : Act → World → Prop, (∀ v w', Below w.heap.size w w' → VR w' h ι (Own X.B h ι) av v → next (a.put o.dst v) w') → o.wp P a w next Q) :
    Quiet P ops o env h (gav ops env o av) := by
  intro X a w ι Q H hs next hn
  have hop := operand_vr H.globOK hs
  unfold gpo at hg
  unfold gav at hn
  cases hgd : o.guard with
  | none =>
    simp only [hgd] at hg hn
    simp only [Region.wanted, hgd, if_true]
    exact hq hg X a w ι Q H hop next hn
  | some jb =>
    obtain ⟨j, b⟩ := jb
    simp only [hgd] at hg hn
    cases ht : (ops[j]?).bind (·.dst) with
    | none => simp only [ht] at hg
    | some t =>
      simp only [ht] at hg hn
      have hvt := hs t (looks_guard hgd ht)
      cases hc : gcond b (rd env t) with
      | none => simp only [hc] at hg
      | some c =>
        simp only [hc] at hg hn
        have hiff := gcond_sound hc hvt
        have hw : Region.wanted o (yielded ops a.tmps) = c := by
          simp only [Region.wanted, hgd]
          rw [Bool.eq_iff_iff, hiff, beq_iff_eq]
          exact yielded_iff ht
        rw [hw]
        cases c with
        | true =>
          simp only [if_true]
          exact hq (hg rfl) X a w ι Q H hop next fun v w' hb hv => hn v w' hb (by simp only [VR]; exact ⟨fun _ => hv, fun e => by cases e⟩)
        | false => exact hn undef w (Below.refl _ _) (by simp [VR])
theorem Quiet.pure {o : Oper} (hg : gpo ops env o (po P h (rdo env) o.op)) : Quiet P ops o env h (gav ops env o (pv P h (rdo env) o.op)) :=
  Quiet.guarded hg fun hp X a w ι Q H hop next hn => by
    obtain ⟨v, hr, hv⟩ := pv_sound (P := P) H hp hop
    simp only [Oper.wp, hr, Oper.upon]
    exact hn v w (Below.refl _ _) hv
theorem OpsW.pure {o : Oper} {rest : List Oper} {K : Env → Hp → Prop} (hd : o.dst.all (· < N) = true) (hg : gpo ops env o (po P h (rdo env) o.op))
    (hr : OpsW P N ops rest (setd env o.dst (gav ops env o (pv P h (rdo env) o.op))) h K) : OpsW P N ops (o :: rest) env h K :=
  OpsW.quiet hd (Quiet.pure hg) hr
def QOps (P : Program) (ops : Array Oper) (h : Hp) : List Oper → Env → (Env → Prop) → Prop
  | [], env, K => K env
  | o :: l, env, K => ∃ av, Quiet P ops o env h av ∧ QOps P ops h l (setd env o.dst av) K
theorem QOps.nil {K : Env → Prop} (hK : K env) : QOps P ops h [] env K := hK
theorem QOps.pure {o : Oper} {rest : List Oper} {K : Env → Prop} (hg : gpo ops env o (po P h (rdo env) o.op))
    (hr : QOps P ops h rest (setd env o.dst (gav ops env o (pv P h (rdo env) o.op))) K) : QOps P ops h (o :: rest) env K :=
  ⟨_, Quiet.pure hg, hr⟩
def drawOk (N : Nat) (ops : Array Oper) : Bool :=
  (List.range ops.size).all fun i => match ops[i]? with
    | none => false
    | some o => o.dst.all (· < N) && o.after.all (fun e => !Region.binds .any e || e.on < i) &&
      (List.range ops.size).all fun j => match ops[j]? with
        | none => false
        | some p => match p.dst with
          | none => true
          | some d => if i = j then !(o.looksAt ops).contains d else
              o.dst != some d && (!(o.looksAt ops).contains d || (j < i && o.after.any fun e => Region.binds .any e && e.on == j) || (i < j && p.after.any fun e => Region.binds .any e && e.on == i))
def envAt (env : Env) : List Oper → List AV → Env
  | o :: l, v :: vs => envAt (setd env o.dst v) l vs
  | _, _ => env
theorem QOps.vals {K : Env → Prop} : ∀ (l : List Oper) (env : Env), QOps P ops h l env K → ∃ vs : List AV, vs.length = l.length ∧ K (envAt env l vs) ∧
    ∀ (i : Nat) (o : Oper) (v : AV), l[i]? = some o → vs[i]? = some v → Quiet P ops o (envAt env (l.take i) (vs.take i)) h v
  | [], env, hq => ⟨[], rfl, hq, fun i o v ho => by simp at ho⟩
  | o :: l, env, hq => by
    obtain ⟨av, h1, h2⟩ := hq
    obtain ⟨vs, h3, h4, h5⟩ := QOps.vals l _ h2
    refine ⟨av :: vs, by simp [h3], h4, fun i p v ho hv => ?_⟩
    cases i with
    | zero => simp at ho hv; subst ho hv; simpa [envAt] using h1
    | succ i => simp at ho hv; simpa [envAt] using h5 i p v ho hv
theorem rd_setd_ne {d : Option Nat} {v : AV} {s : Nat} (hd : d ≠ some s) : rd (setd env d v) s = rd env s := by
  cases d with
  | none => rfl
  | some d => simp only [setd, rd]; rw [if_neg (fun e => hd (by rw [e]))]
theorem envAt_none {s : Nat} : ∀ (l : List Oper) (vs : List AV) (env : Env), (∀ (i : Nat) (o : Oper), l[i]? = some o → o.dst ≠ some s) → rd (envAt env l vs) s = rd env s
  | [], vs, env, _ => by simp [envAt]
  | o :: l, [], env, _ => by simp [envAt]
  | o :: l, v :: vs, env, hn => by
    simp only [envAt]
    rw [envAt_none l vs _ (fun i p hp => hn (i + 1) p (by simpa using hp))]
    exact rd_setd_ne (hn 0 o (by simp))
theorem envAt_some {s : Nat} : ∀ (l : List Oper) (vs : List AV) (env : Env) (i : Nat) (o : Oper) (v : AV), l[i]? = some o → vs[i]? = some v → o.dst = some s →
    (∀ (j : Nat) (p : Oper), l[j]? = some p → p.dst = some s → j = i) → rd (envAt env l vs) s = v
  | [], vs, env, i, o, v, ho, _, _, _ => by simp at ho
  | o' :: l, [], env, i, o, v, _, hv, _, _ => by simp at hv
  | o' :: l, v' :: vs, env, i, o, v, ho, hv, hd, hu => by
    simp only [envAt]
    cases i with
    | zero =>
      simp at ho hv
      subst ho hv
      rw [envAt_none l vs _ (fun j p hp e => by have := hu (j + 1) p (by simpa using hp) e; omega)]
      rw [hd]
      simp [setd, rd]
    | succ i =>
      simp at ho hv
      exact envAt_some l vs _ i o v ho hv hd (fun j p hp e => by have := hu (j + 1) p (by simpa using hp) e; omega)
structure DrawOk (N : Nat) (ops : Array Oper) : Prop where
  dst : ∀ (i : Nat) (o : Oper), ops[i]? = some o → o.dst.all (· < N) = true
  back : ∀ (i : Nat) (o : Oper), ops[i]? = some o → ∀ e ∈ o.after, Region.binds .any e = true → e.on < i
  self : ∀ (i : Nat) (o : Oper) (d : Nat), ops[i]? = some o → o.dst = some d → d ∉ o.looksAt ops
  one : ∀ (i j : Nat) (o p : Oper) (d : Nat), ops[i]? = some o → ops[j]? = some p → o.dst = some d → p.dst = some d → i = j
  look : ∀ (i j : Nat) (o p : Oper) (d : Nat), ops[i]? = some o → ops[j]? = some p → i ≠ j → p.dst = some d → d ∈ o.looksAt ops →
    (j < i ∧ ∃ e ∈ o.after, Region.binds .any e = true ∧ e.on = j) ∨ (i < j ∧ ∃ e ∈ p.after, Region.binds .any e = true ∧ e.on = i)
theorem drawOk.spec (hk : drawOk N ops = true) : DrawOk N ops := by
  have key : ∀ (i : Nat) (o : Oper), ops[i]? = some o → (o.dst.all (· < N) = true) ∧ (∀ e ∈ o.after, Region.binds .any e = true → e.on < i) ∧
      ∀ (j : Nat) (p : Oper) (d : Nat), ops[j]? = some p → p.dst = some d → (i = j → d ∉ o.looksAt ops) ∧ (i ≠ j → o.dst ≠ some d ∧ (d ∈ o.looksAt ops →
        (j < i ∧ ∃ e ∈ o.after, Region.binds .any e = true ∧ e.on = j) ∨ (i < j ∧ ∃ e ∈ p.after, Region.binds .any e = true ∧ e.on = i))) := by
    intro i o ho
    have hi : i < ops.size := (Array.getElem?_eq_some_iff.1 ho).1
    have h1 := List.all_eq_true.1 hk i (List.mem_range.2 hi)
    simp only [ho, Bool.and_eq_true] at h1
    obtain ⟨⟨h1, h2⟩, h3⟩ := h1
    refine ⟨h1, fun e he hb => ?_, fun j p d hp hd => ?_⟩
    · have := Array.all_eq_true_iff_forall_mem.1 h2 e he
      simpa [hb] using this
    · have hj : j < ops.size := (Array.getElem?_eq_some_iff.1 hp).1
      have h4 := List.all_eq_true.1 h3 j (List.mem_range.2 hj)
      simp only [hp, hd] at h4
      refine ⟨fun e => ?_, fun e => ?_⟩
      · rw [if_pos e] at h4; simpa using h4
      · rw [if_neg e] at h4
        simp only [Bool.and_eq_true, bne_iff_ne, ne_eq, Bool.or_eq_true] at h4
        refine ⟨h4.1, fun hl => ?_⟩
        rcases h4.2 with (h5 | h5) | h5
        · simp [hl] at h5
        · simp only [Bool.and_eq_true, decide_eq_true_eq] at h5
          obtain ⟨h6, h7⟩ := h5
          obtain ⟨e, he, hb⟩ := Array.any_eq_true'.1 h7
          simp only [Bool.and_eq_true, beq_iff_eq] at hb
          exact .inl ⟨h6, e, he, hb.1, hb.2⟩
        · simp only [Bool.and_eq_true, decide_eq_true_eq] at h5
          obtain ⟨h6, h7⟩ := h5
          obtain ⟨e, he, hb⟩ := Array.any_eq_true'.1 h7
          simp only [Bool.and_eq_true, beq_iff_eq] at hb
          exact .inr ⟨h6, e, he, hb.1, hb.2⟩
  exact ⟨fun i o ho => (key i o ho).1, fun i o ho => (key i o ho).2.1, fun i o d ho hd => ((key i o ho).2.2 i o d ho hd).1 rfl,
    fun i j o p d ho hp hd he => by
      by_cases hij : i = j
      · exact hij
      · exact absurd hd (((key i o ho).2.2 j p d hp he).2 hij).1,
    fun i j o p d ho hp hij hd hl => (((key i o ho).2.2 j p d hp hd).2 hij).2 hl⟩
structure Mid (N : Nat) (ops : Array Oper) (env : Env) (vs : List AV) (h : Hp) (ι : Nat → Bk) (A : Nat → Prop) (S : Nat → Bool) (a : Act) (w : World) : Prop where
  size : a.tmps.size = N
  defers : a.defers = []
  put : ∀ (i : Nat) (o : Oper) (v : AV) (s : Nat), S i = true → ops[i]? = some o → vs[i]? = some v → o.dst = some s → VR w h ι A v (a.tmps.getD s undef)
  left : ∀ s, (∀ (i : Nat) (o : Oper), S i = true → ops[i]? = some o → o.dst ≠ some s) → VR w h ι A (rd env s) (a.tmps.getD s undef)
  down : ∀ (i : Nat) (o : Oper), S i = true → ops[i]? = some o → ∀ e ∈ o.after, Region.binds .any e = true → S e.on = true
theorem unlisted_lt {n i : Nat} {listed : Array Bool} (hi : i < n) (hn : listed.size = n) (hu : listed.getD i true = false) :
    ((List.range n).filter fun j => !(listed.setIfInBounds i true).getD j true).length < ((List.range n).filter fun j => !listed.getD j true).length := by
  have e : ((List.range n).filter fun j => !(listed.setIfInBounds i true).getD j true) = ((List.range n).filter fun j => !listed.getD j true).filter (· != i) := by
    rw [List.filter_filter]
    apply List.filter_congr
    intro j hj
    simp only [Array.getD_eq_getD_getElem?]
    by_cases hij : i = j
    · subst hij
      rw [Array.getElem?_setIfInBounds_self_of_lt (by omega)]
      simp
    · rw [Array.getElem?_setIfInBounds_ne hij]
      have : (j != i) = true := by simp; omega
      simp [this]
  rw [e]
  apply List.length_filter_lt_length_iff_exists.2
  exact ⟨i, List.mem_filter.2 ⟨List.mem_range.2 hi, by simp [hu]⟩, by simp⟩
theorem AW.draw {id : Nat} {Q : Exit → Env → Hp → Prop} (hm : P.follows .mixedOrders = true) (hk : drawOk N ops = true) (hq : QOps P ops h ops.toList env (fun e => Q .normal e h)) :
    AW P N (.region id ops true) env h Q := by
  have D := drawOk.spec hk
  obtain ⟨vs, hlen, hK, hvs⟩ := QOps.vals _ _ hq
  have hlen' : vs.length = ops.size := by simpa using hlen
  intro X a w ι H S
  refine wp_region_any hm ?_
  have hdrew : Below w.heap.size w { w with drawn := w.drawn + 1 } := ⟨rfl, rfl, rfl, Nat.le_refl _, fun _ _ => rfl⟩
  have H' := H.below hdrew
  have S' := S.below hdrew
  generalize ({ w with drawn := w.drawn + 1 } : World) = w1 at H' S'
  clear hdrew H S w
  -- the induction
  have main : ∀ (fuel : Nat) (listed : Array Bool) (a : Act) (w : World), listed.size = ops.size → ((List.range ops.size).filter fun j => !listed.getD j true).length ≤ fuel → Hol X h ι w →
      Mid N ops env vs h ι (Own X.B h ι) (fun i => listed.getD i false) a w →
      wpAny P .any ops (fun e a' w' => ∃ env' h' ι', Q e env' h' ∧ Hol X h' ι' w' ∧ Slots N env' h' ι' (Own X.B h' ι') a' w') fuel listed a w := by
    have fin : ∀ (listed : Array Bool) (a : Act) (w : World), listed.size = ops.size → Region.ready .any ops listed = [] → Hol X h ι w → Mid N ops env vs h ι (Own X.B h ι) (fun i => listed.getD i false) a w →
        ∃ env' h' ι', Q .normal env' h' ∧ Hol X h' ι' w ∧ Slots N env' h' ι' (Own X.B h' ι') a w := by
      intro listed a w hsz hr H M
      have all : ∀ i, i < ops.size → listed.getD i false = true := by
        intro i
        induction i using Nat.strongRecOn with
        | _ i ih =>
          intro hi
          cases hl : listed.getD i false with
          | true => rfl
          | false =>
            exfalso
            have hmem : i ∈ Region.ready .any ops listed := by
              unfold Region.ready
              refine List.mem_filter.2 ⟨List.mem_range.2 hi, ?_⟩
              have ho : ops[i]? = some ops[i] := Array.getElem?_eq_getElem hi
              have hl' : listed.getD i true = false := by
                have hi' : i < listed.size := by omega
                simp only [Array.getD_eq_getD_getElem?, Array.getElem?_eq_getElem hi', Option.getD_some] at hl ⊢
                exact hl
              simp only [hl', Bool.not_false, Bool.true_and, ho, Option.map_some, Option.getD_some]
              refine Array.all_eq_true_iff_forall_mem.2 fun e he => ?_
              cases hb : Region.binds .any e with
              | false => simp
              | true =>
                have := D.back i _ ho e he hb
                simp [ih e.on this (by omega)]
            rw [hr] at hmem
            cases hmem
      refine ⟨_, h, ι, hK, H, M.size, M.defers, fun s => ?_⟩
      by_cases hex : ∃ (i : Nat) (o : Oper), ops[i]? = some o ∧ o.dst = some s
      · obtain ⟨i, o, ho, hd⟩ := hex
        have hi : i < ops.size := (Array.getElem?_eq_some_iff.1 ho).1
        have hv : vs[i]? = some (vs[i]'(by omega)) := List.getElem?_eq_getElem (by omega)
        rw [envAt_some ops.toList vs env i o _ (by simpa using ho) hv hd (fun j p hp e => (D.one i j o p s ho (by simpa using hp) hd e).symm)]
        exact M.put i o _ s (all i hi) ho hv hd
      · rw [envAt_none ops.toList vs env (fun i o ho e => hex ⟨i, o, by simpa using ho, e⟩)]
        exact M.left s (fun i o _ ho e => hex ⟨i, o, ho, e⟩)
    intro fuel
    induction fuel with
    | zero =>
      intro listed a w hsz hc H M
      have hr : Region.ready .any ops listed = [] := by
        have h0 : ((List.range ops.size).filter fun j => !listed.getD j true) = [] := List.eq_nil_of_length_eq_zero (by omega)
        unfold Region.ready
        rw [List.filter_eq_nil_iff] at h0 ⊢
        intro i hi
        have := h0 i hi
        simp only [Bool.not_eq_true, Bool.not_eq_false'] at this
        simp [this]
      exact ⟨hr, fin listed a w hsz hr H M⟩
    | succ fuel ih =>
      intro listed a w hsz hc H M
      refine ⟨fun hr => fin listed a w hsz hr H M, fun i hi => ?_⟩
      unfold Region.ready at hi
      obtain ⟨hir, hi2⟩ := List.mem_filter.1 hi
      have hi' : i < ops.size := List.mem_range.1 hir
      have ho : ops[i]? = some ops[i] := Array.getElem?_eq_getElem hi'
      simp only [ho, Option.map_some, Option.getD_some, Bool.and_eq_true, Bool.not_eq_true'] at hi2
      obtain ⟨hul, hpred⟩ := hi2
      have hpred' : ∀ e ∈ (ops[i]).after, Region.binds .any e = true → listed.getD e.on false = true := fun e he hb => by
        have := Array.all_eq_true_iff_forall_mem.1 hpred e he
        simpa [hb] using this
      have hulf : listed.getD i false = false := by
        have hi'' : i < listed.size := by omega
        simp only [Array.getD_eq_getD_getElem?, Array.getElem?_eq_getElem hi'', Option.getD_some] at hul ⊢
        exact hul
      have hv : vs[i]? = some (vs[i]'(by omega)) := List.getElem?_eq_getElem (by omega)
      have hqi := hvs i ops[i] _ (by simp) hv
      simp only [wpOp, ho]
      -- the slots that it looks at hold what they hold in the order of the text
      have hlook : ∀ s, s ∈ (ops[i]).looksAt ops → VR w h ι (Own X.B h ι) (rd (envAt env (ops.toList.take i) (vs.take i)) s) (a.tmps.getD s undef) := by
        intro s hs
        by_cases hex : ∃ (j : Nat) (p : Oper), ops[j]? = some p ∧ p.dst = some s
        · obtain ⟨j, p, hp, hd⟩ := hex
          have hj : j < ops.size := (Array.getElem?_eq_some_iff.1 hp).1
          have hij : i ≠ j := by
            rintro rfl
            rw [ho] at hp
            cases hp
            exact D.self i _ s ho hd hs
          rcases D.look i j _ p s ho hp hij hd hs with ⟨hlt, e, he, hb, hon⟩ | ⟨hlt, e, he, hb, hon⟩
          · have hS : listed.getD j false = true := hon ▸ hpred' e he hb
            have hvj : vs[j]? = some (vs[j]'(by omega)) := List.getElem?_eq_getElem (by omega)
            rw [envAt_some (ops.toList.take i) (vs.take i) env j p (vs[j]'(by omega)) (by rw [List.getElem?_take, if_pos hlt]; simpa using hp) (by rw [List.getElem?_take, if_pos hlt]; exact hvj) hd
              (fun k q hq e => by
                rw [List.getElem?_take] at hq
                split at hq
                · exact (D.one j k p q s hp (by simpa using hq) hd e).symm
                · cases hq)]
            exact M.put j p _ s hS hp hvj hd
          · rw [envAt_none (ops.toList.take i) (vs.take i) env (fun k q hq e => by
              rw [List.getElem?_take] at hq
              split at hq
              · have := D.one j k p q s hp (by simpa using hq) hd e
                omega
              · cases hq)]
            refine M.left s (fun k q hk hq e => ?_)
            have hjk := D.one j k p q s hp hq hd e
            subst hjk
            rw [hp] at hq
            cases hq
            have := M.down j p hk hp _ he hb
            rw [hon] at this
            simp [hulf] at this
        · rw [envAt_none (ops.toList.take i) (vs.take i) env (fun k q hq e => by
            rw [List.getElem?_take] at hq
            split at hq
            · exact hex ⟨k, q, by simpa using hq, e⟩
            · cases hq)]
          exact M.left s (fun k q _ hq e => hex ⟨k, q, hq, e⟩)
      have step := hqi X a w ι (fun e a' w' => ∃ env' h' ι', Q e env' h' ∧ Hol X h' ι' w' ∧ Slots N env' h' ι' (Own X.B h' ι') a' w') H hlook
        (wpAny P .any ops (fun e a' w' => ∃ env' h' ι', Q e env' h' ∧ Hol X h' ι' w' ∧ Slots N env' h' ι' (Own X.B h' ι') a' w') fuel (listed.setIfInBounds i true)) ?_
      · split
        · rename_i hw; rw [if_pos hw] at step; exact .inl step
        · rename_i hw; rw [if_neg hw] at step; exact step
      · intro v w' hb hvv
        refine ih _ _ _ (by simpa using hsz) ?_ (H.below hb) ?_
        · have := unlisted_lt hi' hsz hul
          omega
        · have hset : ∀ k, (listed.setIfInBounds i true).getD k false = if k = i then true else listed.getD k false := by
            intro k
            simp only [Array.getD_eq_getD_getElem?]
            by_cases hki : k = i
            · subst hki; rw [Array.getElem?_setIfInBounds_self_of_lt (by omega)]; simp
            · rw [Array.getElem?_setIfInBounds_ne (fun e => hki e.symm)]; simp [hki]
          have hKB : Keep w h ι (Own X.B h ι) w' h ι (Own X.B h ι) := Keep.below hb
          have hother : ∀ s, (ops[i]).dst ≠ some s → (a.put (ops[i]).dst v).tmps.getD s undef = a.tmps.getD s undef := by
            intro s hs
            cases hd : (ops[i]).dst with
            | none => rfl
            | some d =>
              have : d ≠ s := fun e => hs (by rw [hd, e])
              simp only [Act.put, Array.getD_eq_getD_getElem?, Array.getElem?_setIfInBounds_ne this]
          have hself : ∀ s, (ops[i]).dst = some s → (a.put (ops[i]).dst v).tmps.getD s undef = v := by
            intro s hs
            have hsN : s < N := by have := D.dst i _ ho; rw [hs] at this; simpa using this
            rw [hs]
            simp only [Act.put, Array.getD_eq_getD_getElem?]
            rw [Array.getElem?_setIfInBounds_self_of_lt (by rw [M.size]; exact hsN)]
            rfl
          refine ⟨?_, ?_, ?_, ?_, ?_⟩
          · rw [← M.size]; unfold Act.put; split <;> simp
          · rw [← M.defers]; unfold Act.put; split <;> rfl
          · intro k o u s hk hok huk hd
            simp only [hset] at hk
            by_cases hki : k = i
            · subst hki
              rw [ho] at hok; cases hok
              rw [hv] at huk; cases huk
              rw [hself s hd]
              exact hvv
            · rw [if_neg hki] at hk
              rw [hother s (fun e => hki (D.one k i o _ s hok ho hd e))]
              exact VR.keep hKB _ _ (M.put k o u s hk hok huk hd)
          · intro s hs
            have hne : (ops[i]).dst ≠ some s := hs i _ (by simp [hset]) ho
            rw [hother s hne]
            refine VR.keep hKB _ _ (M.left s fun k o hk hok => hs k o ?_ hok)
            simp only [hset]
            split
            · rfl
            · exact hk
          · intro k o hk hok e he hb'
            simp only [hset] at hk ⊢
            by_cases hki : k = i
            · subst hki
              rw [ho] at hok; cases hok
              have := hpred' e he hb'
              split
              · rfl
              · exact this
            · rw [if_neg hki] at hk
              have := M.down k o hk hok e he hb'
              split
              · rfl
              · exact this
  refine main ops.size _ a w1 (by simp) ?_ H' ⟨S'.size, S'.defers, ?_, ?_, ?_⟩
  · exact Nat.le_trans (List.length_filter_le _ _) (by simp)
  · intro i o v s hS
    exfalso
    have : (Array.replicate ops.size false).getD i false = false := by
      simp only [Array.getD_eq_getD_getElem?, Array.getElem?_replicate]; split <;> rfl
    simp only [this] at hS
    cases hS
  · exact fun s _ => S'.at_ s
  · intro i o hS
    exfalso
    have : (Array.replicate ops.size false).getD i false = false := by
      simp only [Array.getD_eq_getD_getElem?, Array.getElem?_replicate]; split <;> rfl
    simp only [this] at hS
    cases hS
theorem AW.drawSeq {id : Nat} {y : Code} {Q : Exit → Env → Hp → Prop} (hm : P.follows .mixedOrders = true) (hk : drawOk N ops = true) (hq : QOps P ops h ops.toList env (fun e => AW P N y e h Q)) :
    AW P N (.seq (.region id ops true) y) env h Q :=
  AW.seq (AW.draw hm hk hq)
end
end Go.Abs
