/-
  Own work. The abstract layer, part 1: abstract values (immutable data by value, owned roots by number), what they mean in a world, and how that is kept.
-/
import Derived.WalkKit
import Derived.WalkSpells
import Derived.WalkLawsBesides
set_option linter.unusedSimpArgs false
set_option linter.unusedVariables false
namespace Go.Abs
open Go.RowKit

/-- Immutable data: a value without memory, or a slice of `n` elements whose cells are `cs`. -/
inductive IV where
  | val (v : Value)
  | sl (cs : List IV) (n : Nat)

/-- What a slot or a cell of an owned root may hold. -/
inductive AV where
  | any
  | im (x : IV)
  | agg (cs : List AV)
  | tup (vs : List AV)
  | ipt (cs : List IV) (off : Nat)
  | ref (r ver off : Nat)
  | rsl (r ver off n : Nat)
  | cnd (g : Bool) (v : AV)

/-- An owned root: a block that the call itself may write. -/
structure Rt where
  ver : Nat
  live : Bool
  e : TypeId
  k : Nat
  cs : List AV

abbrev Env := List (Nat × AV)
abbrev Hp := List (Nat × Rt)

def rd : Env → Nat → AV
  | [], _ => .any
  | (i, v) :: r, t => if i = t then v else rd r t

def Hp.at : Hp → Nat → Option Rt
  | [], _ => none
  | (i, v) :: r, t => if i = t then some v else Hp.at r t

/-- Where a root lies: no block yet (a nil slice), or a block with room for `cap` elements. -/
structure Bk where
  blk : Option Nat
  cap : Nat

def SlR (k : Nat) (b : Bk) (off n : Nat) (v : Value) : Prop :=
  ∃ ao c, v = .slice ao n c ∧ n ≤ c ∧ ((b.blk = none ∧ ao = none ∧ n = 0 ∧ c = 0 ∧ off = 0) ∨
    ∃ g, b.blk = some g ∧ ((ao = some ⟨g, off, none⟩ ∧ off + c * k = b.cap * k) ∨ (n = 0 ∧ c = 0)))

/-- The cells `l` lie from `a` on, in a block that nobody owns. -/
def Lie (w : World) (A : Nat → Prop) (a : Addr) (l : List Value) : Prop :=
  ∀ (i : Nat) (u : Value), l[i]? = some u → w.cell? (a.add i) = some u ∧ ¬ A a.block ∧ u.oneCell' = true

mutual
def VRI (w : World) (A : Nat → Prop) : IV → Value → Prop
  | .val u, v => v = u
  | .sl cs n, v => ∃ (ao : Option Addr) (cap : Nat) (l : List Value), v = .slice ao n cap ∧ n ≤ cap ∧ (ao = none → n = 0 ∧ cap = 0 ∧ l = []) ∧
      (∀ a, ao = some a → Lie w A a l) ∧ VRIL w A cs l
def VRIL (w : World) (A : Nat → Prop) : List IV → List Value → Prop
  | [], l => l = []
  | c :: cs, l => ∃ v l', l = v :: l' ∧ VRI w A c v ∧ VRIL w A cs l'
end

mutual
def VR (w : World) (h : Hp) (ι : Nat → Bk) (A : Nat → Prop) : AV → Value → Prop
  | .any, _ => True
  | .im x, v => VRI w A x v
  | .agg cs, v => ∃ l : List Value, v = .agg l.toArray ∧ VRL w h ι A cs l
  | .tup cs, v => ∃ l : List Value, v = .tuple l.toArray ∧ VRL w h ι A cs l
  | .ipt cs off, v => ∃ (a : Addr) (l : List Value), v = .pointer (some (a.add off)) ∧ Lie w A a l ∧ VRIL w A cs l
  | .ref r ver off, v => ∃ rt, h.at r = some rt ∧ ver ≤ rt.ver ∧ (ver = rt.ver → ∃ g, (ι r).blk = some g ∧ v = .pointer (some ⟨g, off, none⟩))
  | .rsl r ver off n, v => ∃ rt, h.at r = some rt ∧ ver ≤ rt.ver ∧ (ver = rt.ver → SlR rt.k (ι r) off n v)
  | .cnd g x, v => (g = true → VR w h ι A x v) ∧ (g = false → v = undef)
def VRL (w : World) (h : Hp) (ι : Nat → Bk) (A : Nat → Prop) : List AV → List Value → Prop
  | [], l => l = []
  | c :: cs, l => ∃ v l', l = v :: l' ∧ VR w h ι A c v ∧ VRL w h ι A cs l'
end

/-- What must stay for values to mean what they meant. -/
structure Keep (w : World) (h : Hp) (ι : Nat → Bk) (A : Nat → Prop) (w' : World) (h' : Hp) (ι' : Nat → Bk) (A' : Nat → Prop) : Prop where
  blk : ∀ β, β < w.heap.size → ¬ A β → w'.heap[β]? = w.heap[β]? ∧ ¬ A' β
  hp : ∀ r rt, h.at r = some rt → ∃ rt', h'.at r = some rt' ∧ rt.ver ≤ rt'.ver ∧ (rt'.ver = rt.ver → ι' r = ι r ∧ rt'.k = rt.k)

theorem add_block (a : Addr) (i : Nat) : (a.add i).block = a.block := by unfold Addr.add; split <;> rfl

theorem Lie.keep {w w' : World} {A A' : Nat → Prop} {a : Addr} {l : List Value} (hk : ∀ β, β < w.heap.size → ¬ A β → w'.heap[β]? = w.heap[β]? ∧ ¬ A' β)
    (h : Lie w A a l) : Lie w' A' a l := by
  intro i u hu
  obtain ⟨hc, hA, h1c⟩ := h i u hu
  have hlt := World.block_lt_of_cell? w _ hc
  rw [add_block] at hlt
  obtain ⟨h1, h2⟩ := hk _ hlt hA
  exact ⟨(World.cell?_of_block (w := w) (w' := w') (a := a.add i) (by rw [add_block]; exact h1)).trans hc, h2, h1c⟩

mutual
theorem VRI.keep {w w' : World} {A A' : Nat → Prop} (hk : ∀ β, β < w.heap.size → ¬ A β → w'.heap[β]? = w.heap[β]? ∧ ¬ A' β) : ∀ (x : IV) (v : Value), VRI w A x v → VRI w' A' x v
  | .val _, _, h => by simpa only [VRI] using h
  | .sl cs n, v, h => by
    simp only [VRI] at h ⊢
    obtain ⟨ao, cap, l, hv, hn, hnone, hlie, hl⟩ := h
    exact ⟨ao, cap, l, hv, hn, hnone, fun a ha => (hlie a ha).keep hk, VRIL.keep hk cs l hl⟩
theorem VRIL.keep {w w' : World} {A A' : Nat → Prop} (hk : ∀ β, β < w.heap.size → ¬ A β → w'.heap[β]? = w.heap[β]? ∧ ¬ A' β) : ∀ (cs : List IV) (l : List Value), VRIL w A cs l → VRIL w' A' cs l
  | [], _, h => by simpa only [VRIL] using h
  | c :: cs, l, h => by
    simp only [VRIL] at h ⊢
    obtain ⟨v, l', hl, hv, hr⟩ := h
    exact ⟨v, l', hl, VRI.keep hk c v hv, VRIL.keep hk cs l' hr⟩
end

mutual
theorem VR.keep {w w' : World} {h h' : Hp} {ι ι' : Nat → Bk} {A A' : Nat → Prop} (K : Keep w h ι A w' h' ι' A') : ∀ (x : AV) (v : Value), VR w h ι A x v → VR w' h' ι' A' x v
  | .any, _, _ => by simp only [VR]
  | .im x, v, hv => by simp only [VR] at hv ⊢; exact VRI.keep K.blk x v hv
  | .agg cs, v, hv => by
    simp only [VR] at hv ⊢
    obtain ⟨l, hl, hr⟩ := hv
    exact ⟨l, hl, VRL.keep K cs l hr⟩
  | .tup cs, v, hv => by
    simp only [VR] at hv ⊢
    obtain ⟨l, hl, hr⟩ := hv
    exact ⟨l, hl, VRL.keep K cs l hr⟩
  | .ipt cs off, v, hv => by
    simp only [VR] at hv ⊢
    obtain ⟨a, l, hl, hlie, hr⟩ := hv
    exact ⟨a, l, hl, hlie.keep K.blk, VRIL.keep K.blk cs l hr⟩
  | .ref r ver off, v, hv => by
    simp only [VR] at hv ⊢
    obtain ⟨rt, hrt, hle, himp⟩ := hv
    obtain ⟨rt', hrt', hle', himp'⟩ := K.hp r rt hrt
    refine ⟨rt', hrt', Nat.le_trans hle hle', fun he => ?_⟩
    have h1 : rt'.ver = rt.ver := by omega
    rw [(himp' h1).1]
    exact himp (by omega)
  | .rsl r ver off n, v, hv => by
    simp only [VR] at hv ⊢
    obtain ⟨rt, hrt, hle, himp⟩ := hv
    obtain ⟨rt', hrt', hle', himp'⟩ := K.hp r rt hrt
    refine ⟨rt', hrt', Nat.le_trans hle hle', fun he => ?_⟩
    have h1 : rt'.ver = rt.ver := by omega
    rw [(himp' h1).1, (himp' h1).2]
    exact himp (by omega)
  | .cnd g x, v, hv => by simp only [VR] at hv ⊢; exact ⟨fun hg => VR.keep K x v (hv.1 hg), hv.2⟩
theorem VRL.keep {w w' : World} {h h' : Hp} {ι ι' : Nat → Bk} {A A' : Nat → Prop} (K : Keep w h ι A w' h' ι' A') : ∀ (cs : List AV) (l : List Value), VRL w h ι A cs l → VRL w' h' ι' A' cs l
  | [], _, hv => by simpa only [VRL] using hv
  | c :: cs, l, hv => by
    simp only [VRL] at hv ⊢
    obtain ⟨v, l', hl, hv, hr⟩ := hv
    exact ⟨v, l', hl, VR.keep K c v hv, VRL.keep K cs l' hr⟩
end

theorem VRL.length {w : World} {h : Hp} {ι : Nat → Bk} {A : Nat → Prop} : ∀ {cs : List AV} {l : List Value}, VRL w h ι A cs l → l.length = cs.length
  | [], l, hv => by simp only [VRL] at hv; simp [hv]
  | c :: cs, l, hv => by
    simp only [VRL] at hv
    obtain ⟨v, l', rfl, _, hr⟩ := hv
    simp [VRL.length hr]

theorem VRL.get {w : World} {h : Hp} {ι : Nat → Bk} {A : Nat → Prop} : ∀ {cs : List AV} {l : List Value}, VRL w h ι A cs l → ∀ (i : Nat) (c : AV), cs[i]? = some c → ∃ v, l[i]? = some v ∧ VR w h ι A c v
  | [], l, _, i, c, hc => by simp at hc
  | c :: cs, l, hv, i, d, hd => by
    simp only [VRL] at hv
    obtain ⟨v, l', rfl, hv, hr⟩ := hv
    cases i with
    | zero => simp at hd; subst hd; exact ⟨v, by simp, hv⟩
    | succ i => simp at hd ⊢; exact VRL.get hr i d hd

theorem VRIL.length {w : World} {A : Nat → Prop} : ∀ {cs : List IV} {l : List Value}, VRIL w A cs l → l.length = cs.length
  | [], l, hv => by simp only [VRIL] at hv; simp [hv]
  | c :: cs, l, hv => by
    simp only [VRIL] at hv
    obtain ⟨v, l', rfl, _, hr⟩ := hv
    simp [VRIL.length hr]

theorem VRIL.get {w : World} {A : Nat → Prop} : ∀ {cs : List IV} {l : List Value}, VRIL w A cs l → ∀ (i : Nat) (c : IV), cs[i]? = some c → ∃ v, l[i]? = some v ∧ VRI w A c v
  | [], l, _, i, c, hc => by simp at hc
  | c :: cs, l, hv, i, d, hd => by
    simp only [VRIL] at hv
    obtain ⟨v, l', rfl, hv, hr⟩ := hv
    cases i with
    | zero => simp at hd; subst hd; exact ⟨v, by simp, hv⟩
    | succ i => simp at hd ⊢; exact VRIL.get hr i d hd

theorem VRL.append {w : World} {h : Hp} {ι : Nat → Bk} {A : Nat → Prop} : ∀ {cs ds : List AV} {l m : List Value}, VRL w h ι A cs l → VRL w h ι A ds m → VRL w h ι A (cs ++ ds) (l ++ m)
  | [], ds, l, m, hv, hm => by simp only [VRL] at hv; subst hv; simpa using hm
  | c :: cs, ds, l, m, hv, hm => by
    simp only [VRL] at hv
    obtain ⟨v, l', rfl, hv, hr⟩ := hv
    simp only [List.cons_append, VRL]
    exact ⟨v, l' ++ m, rfl, hv, VRL.append hr hm⟩

theorem VRL.set {w : World} {h : Hp} {ι : Nat → Bk} {A : Nat → Prop} : ∀ {cs : List AV} {l : List Value} (i : Nat) {c : AV} {v : Value}, VRL w h ι A cs l → VR w h ι A c v → VRL w h ι A (cs.set i c) (l.set i v)
  | [], l, i, c, v, hv, _ => by simp only [VRL] at hv; subst hv; simp [VRL]
  | d :: cs, l, i, c, v, hv, hc => by
    simp only [VRL] at hv
    obtain ⟨u, l', rfl, hu, hr⟩ := hv
    cases i with
    | zero => simp only [List.set_cons_zero, VRL]; exact ⟨v, l', rfl, hc, hr⟩
    | succ i => simp only [List.set_cons_succ, VRL]; exact ⟨u, l'.set i v, rfl, hu, VRL.set i hr hc⟩

theorem VRL.take {w : World} {h : Hp} {ι : Nat → Bk} {A : Nat → Prop} : ∀ {cs : List AV} {l : List Value} (n : Nat), VRL w h ι A cs l → VRL w h ι A (cs.take n) (l.take n)
  | [], l, n, hv => by simp only [VRL] at hv; subst hv; simp [VRL]
  | c :: cs, l, n, hv => by
    simp only [VRL] at hv
    obtain ⟨v, l', rfl, hv, hr⟩ := hv
    cases n with
    | zero => simp [VRL]
    | succ n => simp only [List.take_succ_cons, VRL]; exact ⟨v, _, rfl, hv, VRL.take n hr⟩

theorem VRL.drop {w : World} {h : Hp} {ι : Nat → Bk} {A : Nat → Prop} : ∀ {cs : List AV} {l : List Value} (n : Nat), VRL w h ι A cs l → VRL w h ι A (cs.drop n) (l.drop n)
  | [], l, n, hv => by simp only [VRL] at hv; subst hv; simp [VRL]
  | c :: cs, l, n, hv => by
    cases n with
    | zero => simpa using hv
    | succ n =>
      simp only [VRL] at hv
      obtain ⟨v, l', rfl, hv, hr⟩ := hv
      simpa using VRL.drop n hr

theorem VRIL.take {w : World} {A : Nat → Prop} : ∀ {cs : List IV} {l : List Value} (n : Nat), VRIL w A cs l → VRIL w A (cs.take n) (l.take n)
  | [], l, n, hv => by simp only [VRIL] at hv; subst hv; simp [VRIL]
  | c :: cs, l, n, hv => by
    simp only [VRIL] at hv
    obtain ⟨v, l', rfl, hv, hr⟩ := hv
    cases n with
    | zero => simp [VRIL]
    | succ n => simp only [List.take_succ_cons, VRIL]; exact ⟨v, _, rfl, hv, VRIL.take n hr⟩

theorem VRIL.drop {w : World} {A : Nat → Prop} : ∀ {cs : List IV} {l : List Value} (n : Nat), VRIL w A cs l → VRIL w A (cs.drop n) (l.drop n)
  | [], l, n, hv => by simp only [VRIL] at hv; subst hv; simp [VRIL]
  | c :: cs, l, n, hv => by
    cases n with
    | zero => simpa using hv
    | succ n =>
      simp only [VRIL] at hv
      obtain ⟨v, l', rfl, hv, hr⟩ := hv
      simpa using VRIL.drop n hr

/-- Cells that are immutable data, as cells of a root. -/
theorem VRL.ofI {w : World} {h : Hp} {ι : Nat → Bk} {A : Nat → Prop} : ∀ {cs : List IV} {l : List Value}, VRIL w A cs l → VRL w h ι A (cs.map .im) l
  | [], l, hv => by simpa only [VRIL, List.map_nil, VRL] using hv
  | c :: cs, l, hv => by
    simp only [VRIL] at hv
    obtain ⟨v, l', rfl, hv, hr⟩ := hv
    simp only [List.map_cons, VRL]
    exact ⟨v, l', rfl, by simpa only [VR] using hv, VRL.ofI hr⟩

theorem VRL.toI {w : World} {h : Hp} {ι : Nat → Bk} {A : Nat → Prop} : ∀ {cs : List IV} {l : List Value}, VRL w h ι A (cs.map .im) l → VRIL w A cs l
  | [], l, hv => by simpa only [VRIL, List.map_nil, VRL] using hv
  | c :: cs, l, hv => by
    simp only [List.map_cons, VRL] at hv
    obtain ⟨v, l', rfl, hv, hr⟩ := hv
    simp only [VRIL]
    exact ⟨v, l', rfl, by simpa only [VR] using hv, VRL.toI hr⟩

end Go.Abs
