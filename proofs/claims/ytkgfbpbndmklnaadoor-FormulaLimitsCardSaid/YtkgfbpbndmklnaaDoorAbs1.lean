/- Own work. -/
import Derived.WalkKit
import Derived.WalkSpells
import Derived.WalkLawsBesides
set_option linter.unusedSimpArgs false
set_option linter.unusedVariables false
namespace Go.Abs
abbrev X0 := @Option.some.injEq
abbrev X1 := @Bool.eq_false_or_eq_true
abbrev X2 := @List.getElem?_eq_getElem
abbrev X3 := @Bool.and_eq_true
abbrev X4 := @List.length_append
abbrev X5 := @Array.getD_eq_getD_getElem?
abbrev X6 := @Sem.run_bind
abbrev X7 := @Option.some.inj
abbrev X8 := @List.getD_eq_getElem?_getD
abbrev X9 := @Option.bind_some
abbrev Xa := @List.all_eq_true
abbrev Xb := @List.length_cons
abbrev Xc := @Nat.le_of_ble_eq_true
abbrev Xd := @List.mem_singleton
abbrev Xe := @Array.getElem?_eq_getElem
abbrev Xf := @Nat.le_refl
abbrev Xg := @Array.getElem?_setIfInBounds_self_of_lt
abbrev Xh := @List.length_singleton
abbrev Xi := @Result.andThen_ok
abbrev Xj := @List.length_nil
abbrev Xk := @List.getElem?_take
abbrev Xl := @Array.getElem?_setIfInBounds_ne
abbrev Xm := @List.getElem?_eq_some_iff
abbrev Xn := @List.eq_nil_of_length_eq_zero
abbrev Xo := @List.mem_range
abbrev Xp := @List.map_cons
abbrev Xq := @List.flatMap_cons
abbrev Xr := @Array.all_eq_true_iff_forall_mem
abbrev Xs := @List.append_assoc
abbrev Xt := @List.take_of_length_le
abbrev Xu := @Array.getElem?_eq_some_iff
abbrev Xv := @Nat.eq_of_beq_eq_true
abbrev Xw := @List.mem_append
abbrev Xx := @Option.map_some
abbrev Xy := @Option.getD_some
abbrev Xz := @Sem.run_pure
abbrev X00 := @List.mem_cons
abbrev X01 := @List.mem_map
abbrev X02 := @List.length_map
abbrev X03 := @List.cons_append
abbrev X04 := @List.getElem?_append_right
abbrev X05 := @Nat.zero_add
abbrev X06 := @Int.toNat_natCast
abbrev X07 := @List.take_succ_cons
abbrev X08 := @List.map_congr_left
abbrev X09 := @List.not_mem_nil
abbrev X0a := @List.nil_append
abbrev X0b := @Bool.or_eq_true
abbrev X0c := @List.length_take
abbrev X0d := @Nat.add_zero
abbrev X0e := @List.append_nil
abbrev X0f := @List.getElem?_append_left
abbrev X0g := @Nat.le_trans
abbrev X0h := @Array.length_toList
abbrev X0i := @List.getElem?_map
abbrev X0j := @List.flatten_cons
abbrev X0k := @List.drop_eq_getElem_cons
abbrev X0l := @Nat.lt_of_lt_of_le
abbrev X0m := @Nat.add_mul
abbrev X0n := @List.mem_filter
abbrev X0o := @Nat.mul_le_mul_right
abbrev X0p := @List.mem_of_getElem?
abbrev X0q := @List.map_nil
abbrev X0r := @Int.tmod_eq_emod_of_nonneg
abbrev X0s := @Bool.not_eq_true'
abbrev X0t := @List.take_take
abbrev X0u := @List.take_append_drop
abbrev X0v := @List.map_append
abbrev X0w := @List.getElem?_drop
abbrev X0x := @Array.getElem?_replicate
abbrev X0y := @List.mem_of_mem_take
abbrev X0z := @List.getElem?_cons_zero
abbrev X10 := @List.getElem?_cons_succ
abbrev X11 := @List.foldl_cons
abbrev X12 := @List.take_append
abbrev X13 := @List.map_toArray
abbrev X14 := @Array.getElem?_toList
abbrev X15 := @List.length_eq_zero_iff
abbrev X16 := @List.getD_cons_zero
abbrev X17 := @List.flatten_append
abbrev X18 := @List.flatMap_append
abbrev X19 := @List.drop_succ_cons
abbrev X1a := @List.take_append_of_le_length
abbrev X1b := @Bool.not_false
abbrev X1c := @Array.any_eq_true'
abbrev X1d := @List.size_toArray
abbrev X1e := @List.reverse_cons
abbrev X1f := @Array.getElem?_append_left
abbrev X1g := @Bool.not_eq_true
abbrev X1h := @Nat.add_assoc
abbrev X1i := @List.set_eq_take_append_cons_drop
theorem Vn.{u} {c : Prop} [h : Decidable c] {α : Sort u} {t e : α} (k : ¬c := by omega) : ite c t e = e := if_neg k
theorem Vp.{u} {c : Prop} [h : Decidable c] {α : Sort u} {t e : α} (k : c := by omega) : ite c t e = t := if_pos k
open Go.RowKit
inductive IV where
 | val (v : Value)
 | sl (cs : List IV) (n : Nat)
 | mp (es : List (Value × Value))
inductive AV where
 | any
 | im (x : IV)
 | agg (cs : List AV)
 | tup (vs : List AV)
 | ipt (cs : List IV) (off : Nat)
 | ref (r ver off : Nat)
 | rsl (r ver off n : Nat)
 | cnd (g : Bool) (v : AV)
 | fnv (f : FuncId) (cs : List AV)
structure Rt where
 ver : Nat
 live : Bool
 e : TypeId
 k : Nat
 cs : List AV
abbrev Env := List (Nat × AV)
abbrev Hp := List (Nat × Rt)
def rd : Env → Nat → AV
 | [], _ => .any
 | (i, v) :: r, t => if i = t then v else rd r t
def Hp.at : Hp → Nat → Option Rt
 | [], _ => none
 | (i, v) :: r, t => if i = t then some v else Hp.at r t
structure Bk where
 blk : Option Nat
 cap : Nat
def SlR (k : Nat) (b : Bk) (off n : Nat) (v : Value) : Prop :=
 ∃ ao c, v = .slice ao n c ∧ n ≤ c ∧ ((b.blk = none ∧ ao = none ∧ n = 0 ∧ c = 0 ∧ off = 0) ∨
  ∃ g, b.blk = some g ∧ ((ao = some ⟨g, off, none⟩ ∧ off + c * k = b.cap * k) ∨ (n = 0 ∧ c = 0)))
def Lie (w : World) (A : Nat → Prop) (a : Addr) (l : List Value) : Prop :=
 ∀ (i : Nat) (u : Value), l[i]? = some u → w.cell? (a.add i) = some u ∧ ¬ A a.block ∧ u.oneCell' = true
mutual
def VRI (w : World) (A : Nat → Prop) : IV → Value → Prop
 | .val u, v => v = u
 | .sl cs n, v => ∃ (ao : Option Addr) (cap : Nat) (l : List Value), v = .slice ao n cap ∧ n ≤ cap ∧ (ao = none → n = 0 ∧ cap = 0 ∧ l = []) ∧
   (∀ a, ao = some a → Lie w A a l) ∧ VRIL w A cs l
 | .mp es, v => ∃ (g : Nat) (ents : Array MapEntry) (clock : Nat), v = .map (some g) ∧ w.heap[g]? = some (.map ents clock) ∧ ¬ A g ∧ ents.toList.map (fun e => (e.key, e.val)) = es
def VRIL (w : World) (A : Nat → Prop) : List IV → List Value → Prop
 | [], l => l = []
 | c :: cs, l => ∃ v l', l = v :: l' ∧ VRI w A c v ∧ VRIL w A cs l'
end
mutual
def VR (w : World) (h : Hp) (ι : Nat → Bk) (A : Nat → Prop) : AV → Value → Prop
 | .any, _ => True
 | .im x, v => VRI w A x v
 | .agg cs, v => ∃ l : List Value, v = .agg l.toArray ∧ VRL w h ι A cs l
 | .tup cs, v => ∃ l : List Value, v = .tuple l.toArray ∧ VRL w h ι A cs l
 | .ipt cs off, v => ∃ (a : Addr) (l : List Value), v = .pointer (some (a.add off)) ∧ Lie w A a l ∧ VRIL w A cs l
 | .ref r ver off, v => ∃ rt, h.at r = some rt ∧ ver ≤ rt.ver ∧ (ver = rt.ver → ∃ g, (ι r).blk = some g ∧ v = .pointer (some ⟨g, off, none⟩))
 | .rsl r ver off n, v => ∃ rt, h.at r = some rt ∧ ver ≤ rt.ver ∧ (ver = rt.ver → SlR rt.k (ι r) off n v)
 | .cnd g x, v => (g = true → VR w h ι A x v) ∧ (g = false → v = undef)
 | .fnv f cs, v => ∃ l : List Value, v = .func (.func f) l.toArray #[] ∧ VRL w h ι A cs l
def VRL (w : World) (h : Hp) (ι : Nat → Bk) (A : Nat → Prop) : List AV → List Value → Prop
 | [], l => l = []
 | c :: cs, l => ∃ v l', l = v :: l' ∧ VR w h ι A c v ∧ VRL w h ι A cs l'
end
structure Keep (w : World) (h : Hp) (ι : Nat → Bk) (A : Nat → Prop) (w' : World) (h' : Hp) (ι' : Nat → Bk) (A' : Nat → Prop) : Prop where
 blk : ∀ β, β < w.heap.size → ¬ A β → w'.heap[β]? = w.heap[β]? ∧ ¬ A' β
 hp : ∀ r rt, h.at r = some rt → ∃ rt', h'.at r = some rt' ∧ rt.ver ≤ rt'.ver ∧ (rt'.ver = rt.ver → ι' r = ι r ∧ rt'.k = rt.k)
theorem add_block (a : Addr) (i : Nat) : (a.add i).block = a.block := by unfold Addr.add; split <;> rfl
theorem Lie.keep {w w' : World} {A A' : Nat → Prop} {a : Addr} {l : List Value} (hk : ∀ β, β < w.heap.size → ¬ A β → w'.heap[β]? = w.heap[β]? ∧ ¬ A' β)
  (h : Lie w A a l) : Lie w' A' a l := by
 intro i u hu
 obtain ⟨hc, hA, h1c⟩ := h i u hu
 have hlt := World.block_lt_of_cell? w _ hc
 rw [add_block] at hlt
 obtain ⟨h1, h2⟩ := hk _ hlt hA
 exact ⟨(World.cell?_of_block (w := w) (w' := w') (a := a.add i) (by rw [add_block]; exact h1)).trans hc, h2, h1c⟩
mutual
theorem VRI.keep {w w' : World} {A A' : Nat → Prop} (hk : ∀ β, β < w.heap.size → ¬ A β → w'.heap[β]? = w.heap[β]? ∧ ¬ A' β) : ∀ (x : IV) (v : Value), VRI w A x v → VRI w' A' x v
 | .val _, _, h => by simpa only [VRI] using h
 | .sl cs n, v, h => by
  simp only [VRI] at h ⊢
  obtain ⟨ao, cap, l, hv, hn, hnone, hlie, hl⟩ := h
  exact ⟨ao, cap, l, hv, hn, hnone, fun a ha => (hlie a ha).keep hk, VRIL.keep hk cs l hl⟩
 | .mp es, v, h => by
  simp only [VRI] at h ⊢
  obtain ⟨g, ents, clock, hv, hg, hA, he⟩ := h
  obtain ⟨h1, h2⟩ := hk g (Xu.1 hg).1 hA
  exact ⟨g, ents, clock, hv, h1.trans hg, h2, he⟩
theorem VRIL.keep {w w' : World} {A A' : Nat → Prop} (hk : ∀ β, β < w.heap.size → ¬ A β → w'.heap[β]? = w.heap[β]? ∧ ¬ A' β) : ∀ (cs : List IV) (l : List Value), VRIL w A cs l → VRIL w' A' cs l
 | [], _, h => by simpa only [VRIL] using h
 | c :: cs, l, h => by
  simp only [VRIL] at h ⊢
  obtain ⟨v, l', hl, hv, hr⟩ := h
  exact ⟨v, l', hl, VRI.keep hk c v hv, VRIL.keep hk cs l' hr⟩
end
mutual
theorem VR.keep {w w' : World} {h h' : Hp} {ι ι' : Nat → Bk} {A A' : Nat → Prop} (K : Keep w h ι A w' h' ι' A') : ∀ (x : AV) (v : Value), VR w h ι A x v → VR w' h' ι' A' x v
 | .any, _, _ => by simp only [VR]
 | .im x, v, hv => by simp only [VR] at hv ⊢; exact VRI.keep K.blk x v hv
 | .agg cs, v, hv => by
  simp only [VR] at hv ⊢
  obtain ⟨l, hl, hr⟩ := hv
  exact ⟨l, hl, VRL.keep K cs l hr⟩
 | .tup cs, v, hv => by
  simp only [VR] at hv ⊢
  obtain ⟨l, hl, hr⟩ := hv
  exact ⟨l, hl, VRL.keep K cs l hr⟩
 | .ipt cs off, v, hv => by
  simp only [VR] at hv ⊢
  obtain ⟨a, l, hl, hlie, hr⟩ := hv
  exact ⟨a, l, hl, hlie.keep K.blk, VRIL.keep K.blk cs l hr⟩
 | .ref r ver off, v, hv => by
  simp only [VR] at hv ⊢
  obtain ⟨rt, hrt, hle, himp⟩ := hv
  obtain ⟨rt', hrt', hle', himp'⟩ := K.hp r rt hrt
  refine ⟨rt', hrt', X0g hle hle', fun he => ?_⟩
  have h1 : rt'.ver = rt.ver := by omega
  rw [(himp' h1).1]
  exact himp (by omega)
 | .rsl r ver off n, v, hv => by
  simp only [VR] at hv ⊢
  obtain ⟨rt, hrt, hle, himp⟩ := hv
  obtain ⟨rt', hrt', hle', himp'⟩ := K.hp r rt hrt
  refine ⟨rt', hrt', X0g hle hle', fun he => ?_⟩
  have h1 : rt'.ver = rt.ver := by omega
  rw [(himp' h1).1, (himp' h1).2]
  exact himp (by omega)
 | .cnd g x, v, hv => by simp only [VR] at hv ⊢; exact ⟨fun hg => VR.keep K x v (hv.1 hg), hv.2⟩
 | .fnv f cs, v, hv => by
  simp only [VR] at hv ⊢
  obtain ⟨l, hl, hr⟩ := hv
  exact ⟨l, hl, VRL.keep K cs l hr⟩
theorem VRL.keep {w w' : World} {h h' : Hp} {ι ι' : Nat → Bk} {A A' : Nat → Prop} (K : Keep w h ι A w' h' ι' A') : ∀ (cs : List AV) (l : List Value), VRL w h ι A cs l → VRL w' h' ι' A' cs l
 | [], _, hv => by simpa only [VRL] using hv
 | c :: cs, l, hv => by
  simp only [VRL] at hv ⊢
  obtain ⟨v, l', hl, hv, hr⟩ := hv
  exact ⟨v, l', hl, VR.keep K c v hv, VRL.keep K cs l' hr⟩
end
section
variable {h : Hp} {ι : Nat → Bk} {A : Nat → Prop} {w : World}
theorem VRL.length : ∀ {cs : List AV} {l : List Value}, VRL w h ι A cs l → l.length = cs.length
 | [], l, hv => by simp only [VRL] at hv; simp [hv]
 | c :: cs, l, hv => by
  simp only [VRL] at hv
  obtain ⟨v, l', rfl, _, hr⟩ := hv
  simp [VRL.length hr]
theorem VRL.get : ∀ {cs : List AV} {l : List Value}, VRL w h ι A cs l → ∀ (i : Nat) (c : AV), cs[i]? = some c → ∃ v, l[i]? = some v ∧ VR w h ι A c v
 | [], l, _, i, c, hc => by simp at hc
 | c :: cs, l, hv, i, d, hd => by
  simp only [VRL] at hv
  obtain ⟨v, l', rfl, hv, hr⟩ := hv
  cases i with
  | zero => simp at hd; subst hd; exact ⟨v, by simp, hv⟩
  | succ i => simp at hd ⊢; exact VRL.get hr i d hd
theorem VRIL.length : ∀ {cs : List IV} {l : List Value}, VRIL w A cs l → l.length = cs.length
 | [], l, hv => by simp only [VRIL] at hv; simp [hv]
 | c :: cs, l, hv => by
  simp only [VRIL] at hv
  obtain ⟨v, l', rfl, _, hr⟩ := hv
  simp [VRIL.length hr]
theorem VRIL.get : ∀ {cs : List IV} {l : List Value}, VRIL w A cs l → ∀ (i : Nat) (c : IV), cs[i]? = some c → ∃ v, l[i]? = some v ∧ VRI w A c v
 | [], l, _, i, c, hc => by simp at hc
 | c :: cs, l, hv, i, d, hd => by
  simp only [VRIL] at hv
  obtain ⟨v, l', rfl, hv, hr⟩ := hv
  cases i with
  | zero => simp at hd; subst hd; exact ⟨v, by simp, hv⟩
  | succ i => simp at hd ⊢; exact VRIL.get hr i d hd
theorem VRL.append : ∀ {cs ds : List AV} {l m : List Value}, VRL w h ι A cs l → VRL w h ι A ds m → VRL w h ι A (cs ++ ds) (l ++ m)
 | [], ds, l, m, hv, hm => by simp only [VRL] at hv; subst hv; simpa using hm
 | c :: cs, ds, l, m, hv, hm => by
  simp only [VRL] at hv
  obtain ⟨v, l', rfl, hv, hr⟩ := hv
  simp only [X03, VRL]
  exact ⟨v, l' ++ m, rfl, hv, VRL.append hr hm⟩
theorem VRL.take : ∀ {cs : List AV} {l : List Value} (n : Nat), VRL w h ι A cs l → VRL w h ι A (cs.take n) (l.take n)
 | [], l, n, hv => by simp only [VRL] at hv; subst hv; simp [VRL]
 | c :: cs, l, n, hv => by
  simp only [VRL] at hv
  obtain ⟨v, l', rfl, hv, hr⟩ := hv
  cases n with
  | zero => simp [VRL]
  | succ n => simp only [X07, VRL]; exact ⟨v, _, rfl, hv, VRL.take n hr⟩
theorem VRL.drop : ∀ {cs : List AV} {l : List Value} (n : Nat), VRL w h ι A cs l → VRL w h ι A (cs.drop n) (l.drop n)
 | [], l, n, hv => by simp only [VRL] at hv; subst hv; simp [VRL]
 | c :: cs, l, n, hv => by
  cases n with
  | zero => simpa using hv
  | succ n =>
   simp only [VRL] at hv
   obtain ⟨v, l', rfl, hv, hr⟩ := hv
   simpa using VRL.drop n hr
theorem VRIL.take : ∀ {cs : List IV} {l : List Value} (n : Nat), VRIL w A cs l → VRIL w A (cs.take n) (l.take n)
 | [], l, n, hv => by simp only [VRIL] at hv; subst hv; simp [VRIL]
 | c :: cs, l, n, hv => by
  simp only [VRIL] at hv
  obtain ⟨v, l', rfl, hv, hr⟩ := hv
  cases n with
  | zero => simp [VRIL]
  | succ n => simp only [X07, VRIL]; exact ⟨v, _, rfl, hv, VRIL.take n hr⟩
theorem VRIL.drop : ∀ {cs : List IV} {l : List Value} (n : Nat), VRIL w A cs l → VRIL w A (cs.drop n) (l.drop n)
 | [], l, n, hv => by simp only [VRIL] at hv; subst hv; simp [VRIL]
 | c :: cs, l, n, hv => by
  cases n with
  | zero => simpa using hv
  | succ n =>
   simp only [VRIL] at hv
   obtain ⟨v, l', rfl, hv, hr⟩ := hv
   simpa using VRIL.drop n hr
theorem VRL.ofI : ∀ {cs : List IV} {l : List Value}, VRIL w A cs l → VRL w h ι A (cs.map .im) l
 | [], l, hv => by simpa only [VRIL, X0q, VRL] using hv
 | c :: cs, l, hv => by
  simp only [VRIL] at hv
  obtain ⟨v, l', rfl, hv, hr⟩ := hv
  simp only [Xp, VRL]
  exact ⟨v, l', rfl, by simpa only [VR] using hv, VRL.ofI hr⟩
theorem VRL.toI : ∀ {cs : List IV} {l : List Value}, VRL w h ι A (cs.map .im) l → VRIL w A cs l
 | [], l, hv => by simpa only [VRIL, X0q, VRL] using hv
 | c :: cs, l, hv => by
  simp only [Xp, VRL] at hv
  obtain ⟨v, l', rfl, hv, hr⟩ := hv
  simp only [VRIL]
  exact ⟨v, l', rfl, by simpa only [VR] using hv, VRL.toI hr⟩
def eI (k : IntKind) (n : Int) : List IV := [.val (.int k n)]
end
end Go.Abs
