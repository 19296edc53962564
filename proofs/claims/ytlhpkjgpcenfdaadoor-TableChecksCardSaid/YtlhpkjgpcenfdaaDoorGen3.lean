/-
  Own work. The generated walks, part 3: typed lists as slices: elements read, parts, appends, stores; one operation with its value told.
-/
import Derived.Test.YtlhpkjgpcenfdaaDoorGen2
set_option linter.unusedSimpArgs false
set_option linter.unusedVariables false
set_option linter.unusedSimpArgs false
set_option linter.unusedVariables false
namespace Go.Abs
open Go.RowKit

def eB (b : Bool) : List IV := [.val (.bool b)]
def eS (s : ByteArray) : List IV := [.val (.string s)]
def eL {α : Type} (enc : α → List IV) (l : List α) : List IV := [.sl (l.flatMap enc) l.length]
/-- A typed list as an immutable slice. -/
abbrev slA {α : Type} (enc : α → List IV) (l : List α) : AV := .im (.sl (l.flatMap enc) l.length)
/-- A typed struct by value. -/
abbrev agA {α : Type} (enc : α → List IV) (x : α) : AV := .agg ((enc x).map .im)
/-- A typed list as an owned root. -/
abbrev rtA {α : Type} (ver e k : Nat) (enc : α → List IV) (l : List α) : Rt := ⟨ver, true, e, k, (l.flatMap enc).map .im⟩

theorem fm_cell {α : Type} (enc : α → List IV) (k : Nat) (hk : ∀ a, (enc a).length = k) (l : List α) (d : α) (i : Nat) (hi : i < l.length) (o : Nat) (c : α → IV) (hc : ∀ a, (enc a)[o]? = some (c a)) :
    (l.flatMap enc)[i * k + o]? = some (c (l.getD i d)) := by
  have ho : o < k := by
    have h1 := hc d
    have h2 := hk d
    have h3 := (List.getElem?_eq_some_iff.1 h1).1
    omega
  rw [fm_get enc k l (fun a _ => hk a) i o ho, List.getElem?_eq_getElem hi]
  simp [hc, List.getD_eq_getElem?_getD, List.getElem?_eq_getElem hi]
theorem fm_cell0 {α : Type} (enc : α → List IV) (k : Nat) (hk : ∀ a, (enc a).length = k) (l : List α) (d : α) (i : Nat) (hi : i < l.length) (c : α → IV) (hc : ∀ a, (enc a)[0]? = some (c a)) :
    (l.flatMap enc)[i * k]? = some (c (l.getD i d)) := fm_cell enc k hk l d i hi 0 c hc
theorem fm_length {α : Type} (enc : α → List IV) (k : Nat) (hk : ∀ a, (enc a).length = k) (l : List α) : (l.flatMap enc).length = l.length * k := fm_len enc k l fun a _ => hk a
theorem fm_drop {α : Type} (enc : α → List IV) (k : Nat) (hk : ∀ a, (enc a).length = k) : ∀ (l : List α) (i : Nat), (l.flatMap enc).drop (i * k) = (l.drop i).flatMap enc
  | l, 0 => by simp
  | [], i + 1 => by simp
  | a :: l, i + 1 => by
    rw [List.flatMap_cons, List.drop_succ_cons, ← fm_drop enc k hk l i, Nat.add_mul, Nat.one_mul, Nat.add_comm, ← List.drop_drop, ← hk a, List.drop_left]
theorem fm_take {α : Type} (enc : α → List IV) (k : Nat) (hk : ∀ a, (enc a).length = k) : ∀ (l : List α) (i : Nat), (l.flatMap enc).take (i * k) = (l.take i).flatMap enc
  | l, 0 => by simp
  | [], i + 1 => by simp
  | a :: l, i + 1 => by
    rw [List.flatMap_cons, List.take_succ_cons, List.flatMap_cons, ← fm_take enc k hk l i, Nat.add_mul, Nat.one_mul, Nat.add_comm, ← hk a, List.take_length_add_append]
theorem fm_elem {α : Type} (enc : α → List IV) (k : Nat) (hk : ∀ a, (enc a).length = k) (l : List α) (d : α) (i : Nat) (hi : i < l.length) : ((l.flatMap enc).drop (i * k)).take k = enc (l.getD i d) := by
  rw [fm_drop enc k hk, List.drop_eq_getElem_cons hi, List.flatMap_cons]
  rw [show k = (enc l[i]).length from (hk _).symm, List.take_left]
  simp [List.getD_eq_getElem?_getD, List.getElem?_eq_getElem hi]
theorem fm_part {α : Type} (enc : α → List IV) (k : Nat) (hk : ∀ a, (enc a).length = k) (l : List α) (lo m : Nat) : ((l.flatMap enc).drop (lo * k)).take (m * k) = ((l.drop lo).take m).flatMap enc := by
  rw [fm_drop enc k hk, fm_take enc k hk]

section
variable {P : Program} {N : Nat} {ops : Array Oper} {env : Env} {h : Hp}

/-- An element of an immutable slice. -/
theorem T.load {ρ : Operand → AV} {x : Operand} {t : TypeId} {cs : List IV} {off : Nat} {c : IV} (hx : st (ρ x) = .ipt cs off) (hg : gd (ρ x)) (hl : lz P t = some none) (hc : cs[off]? = some c) :
    po P h ρ (.load t x) ∧ pv P h ρ (.load t x) = .im c := by
  simp only [po, pv, hx, hl, poLoad, pvLoad, hc]
  exact ⟨⟨hg, (List.getElem?_eq_some_iff.1 hc).1⟩, trivial⟩
theorem T.loadAgg {ρ : Operand → AV} {x : Operand} {t : TypeId} {cs ds : List IV} {off n : Nat} (hx : st (ρ x) = .ipt cs off) (hg : gd (ρ x)) (hl : lz P t = some (some n)) (hn : off + n ≤ cs.length) (hc : (cs.drop off).take n = ds) :
    po P h ρ (.load t x) ∧ pv P h ρ (.load t x) = .agg (ds.map .im) := by
  simp only [po, pv, hx, hl, poLoad, pvLoad, hc]
  exact ⟨⟨hg, hn⟩, trivial⟩
/-- A part of an immutable slice. -/
theorem T.slice {ρ : Operand → AV} {x : Operand} {lo hi : Option Operand} {t : TypeId} {cs ds : List IV} {n k m : Nat} (hx : st (ρ x) = .im (.sl cs n)) (hg : gd (ρ x)) (hgl : gdo ρ lo) (hgh : gdo ρ hi) (ht : tk P t = 1) (hk : ez P t = some k)
    (h1 : okLo n (hi.map fun y => st (ρ y))) (h2 : okLo (highOf n (hi.map fun y => st (ρ y))) (lo.map fun y => st (ρ y))) (hm : highOf n (hi.map fun y => st (ρ y)) - lowOf (lo.map fun y => st (ρ y)) = m)
    (hd : (cs.drop (lowOf (lo.map fun y => st (ρ y)) * k)).take (m * k) = ds) :
    po P h ρ (.slice t x lo hi none) ∧ pv P h ρ (.slice t x lo hi none) = .im (.sl ds m) := by
  subst hm
  simp only [po, pv, hx, hk, poSlice, pvSlice, hd]
  exact ⟨⟨hg, hgl, hgh, ht, h1, h2⟩, trivial⟩
/-- An element of an owned root. -/
theorem T.loadR {ρ : Operand → AV} {x : Operand} {t : TypeId} {r ver off : Nat} {rt : Rt} {c : AV} (hx : st (ρ x) = .ref r ver off) (hg : gd (ρ x)) (hl : lz P t = some none) (hrt : h.at r = some rt) (hv : rt.ver = ver) (hli : rt.live = true) (hc : rt.cs[off]? = some c) :
    po P h ρ (.load t x) ∧ pv P h ρ (.load t x) = c := by
  simp only [po, pv, hx, hl, poLoad, pvLoad, hrt, hc]
  exact ⟨⟨hg, hv, hli, (List.getElem?_eq_some_iff.1 hc).1⟩, trivial⟩
theorem T.loadRAgg {ρ : Operand → AV} {x : Operand} {t : TypeId} {r ver off n : Nat} {rt : Rt} {ds : List AV} (hx : st (ρ x) = .ref r ver off) (hg : gd (ρ x)) (hl : lz P t = some (some n)) (hrt : h.at r = some rt) (hv : rt.ver = ver) (hli : rt.live = true) (hn : off + n ≤ rt.cs.length) (hc : (rt.cs.drop off).take n = ds) :
    po P h ρ (.load t x) ∧ pv P h ρ (.load t x) = .agg ds := by
  simp only [po, pv, hx, hl, poLoad, pvLoad, hrt, hc]
  exact ⟨⟨hg, hv, hli, hn⟩, trivial⟩
/-- An element of an array by value. -/
theorem T.indexA {ρ : Operand → AV} {x i : Operand} {t e : TypeId} {k n : Nat} {kk : IntKind} {j : Int} {cs : List AV} {c : AV} (hx : st (ρ x) = .agg cs) (hi : st (ρ i) = .int kk j) (hgx : gd (ρ x)) (hgi : gd (ρ i)) (hk : ez P t = some k) (he : aty P t = some e) (hn : alen P t = some n) (hl : lz P e = some none)
    (hj : 0 ≤ j ∧ j < (n : Int)) (hc : cs[j.toNat * k]? = some c) : po P h ρ (.index t x i) ∧ pv P h ρ (.index t x i) = c := by
  simp only [po, pv, hx, hi, poIndex, pvIndex, hk, he, hn, hl, poPart, pvPart, hc]
  exact ⟨⟨hgx, hgi, hj.1, hj.2, (List.getElem?_eq_some_iff.1 hc).1⟩, trivial⟩

theorem map_get {l : List IV} {i : Nat} {c : IV} (h : l[i]? = some c) : (l.map AV.im)[i]? = some (.im c) := by rw [List.getElem?_map, h]; rfl

theorem OpsW.asU {o : Oper} {rest : List Oper} {K : Env → Hp → Prop} (x : AV) (hgu : o.guard = none) (hd : o.dst.all (· < N) = true) (hop : po P h (rdo env) o.op ∧ pv P h (rdo env) o.op = x)
    (hr : OpsW P N ops rest (setd env o.dst x) h K) : OpsW P N ops (o :: rest) env h K := by
  have e : gav ops env o x = x := by unfold gav; rw [hgu]
  exact OpsW.as x hd (by unfold gpo; rw [hgu]; exact hop) (by rw [e]; exact hr)
theorem OpsW.asG {o : Oper} {rest : List Oper} {K : Env → Hp → Prop} (x : AV) {j t : Nat} {b c : Bool} (hgu : o.guard = some (j, b)) (hj : (ops[j]?).bind (·.dst) = some t) (hc : gcond b (rd env t) = some c) (hd : o.dst.all (· < N) = true)
    (hop : c = true → po P h (rdo env) o.op ∧ pv P h (rdo env) o.op = x) (hr : OpsW P N ops rest (setd env o.dst (.cnd c x)) h K) : OpsW P N ops (o :: rest) env h K := by
  have e : gav ops env o x = .cnd c x := by unfold gav; simp only [hgu, hj, hc]
  exact OpsW.as x hd (by unfold gpo; simp only [hgu, hj, hc]; exact hop) (by rw [e]; exact hr)
theorem QOps.asU {o : Oper} {rest : List Oper} {K : Env → Prop} (x : AV) (hgu : o.guard = none) (hop : po P h (rdo env) o.op ∧ pv P h (rdo env) o.op = x)
    (hr : QOps P ops h rest (setd env o.dst x) K) : QOps P ops h (o :: rest) env K := by
  have e : gav ops env o x = x := by unfold gav; rw [hgu]
  exact QOps.as x (by unfold gpo; rw [hgu]; exact hop) (by rw [e]; exact hr)
theorem QOps.asG {o : Oper} {rest : List Oper} {K : Env → Prop} (x : AV) {j t : Nat} {b c : Bool} (hgu : o.guard = some (j, b)) (hj : (ops[j]?).bind (·.dst) = some t) (hc : gcond b (rd env t) = some c)
    (hop : c = true → po P h (rdo env) o.op ∧ pv P h (rdo env) o.op = x) (hr : QOps P ops h rest (setd env o.dst (.cnd c x)) K) : QOps P ops h (o :: rest) env K := by
  have e : gav ops env o x = .cnd c x := by unfold gav; simp only [hgu, hj, hc]
  exact QOps.as x (by unfold gpo; simp only [hgu, hj, hc]; exact hop) (by rw [e]; exact hr)

/-- What an append owes: the bytes of what it makes. -/
def room (bytes n : Nat) : Prop := n * bytes ≤ 140737488355328 ∧ n ≤ 140737488355328
instance (bytes n : Nat) : Decidable (room bytes n) := inferInstanceAs (Decidable (_ ∧ _))

theorem put_app {α : Type} (enc : α → List IV) (k n : Nat) (hk : ∀ a, (enc a).length = k) (l ys : List α) : (((l.flatMap enc).map AV.im).take (n * k)) ++ ((ys.flatMap enc).map AV.im) = ((l.take n ++ ys).flatMap enc).map AV.im := by
  rw [List.flatMap_append, List.map_append, ← List.map_take, fm_take enc k hk]

/-- append(s, ys..) to an owned root, typed. -/
theorem OpsW.appendT {o : Oper} {rest : List Oper} {K : Env → Hp → Prop} {s x : Operand} {t u e : TypeId} {k bytes : Nat} {z : List Value} {α : Type} {enc : α → List IV} {l ys : List α} (ho : o.op = .call ⟨.builtin .append, #[s, x], #[t, u]⟩) (hgu : o.guard = none) (hd : o.dst.all (· < N) = true)
    {r ver n m : Nat} (E : Elem P t e k bytes z) (hk : ∀ a, (enc a).length = k) (hs : rdo env s = .rsl r ver 0 n) (hrt : h.at r = some (rtA ver e k enc l)) (hn : n ≤ l.length)
    (hx : gd (rdo env x)) (src : SrcA P h u k (st (rdo env x)) m ((ys.flatMap enc).map .im)) (hm : m = ys.length) (hsz : room bytes (n + m))
    (hw : OpsW P N ops rest (setd env o.dst (.rsl r (ver + 1) 0 (l.take n ++ ys).length)) ((r, rtA (ver + 1) e k enc (l.take n ++ ys)) :: h) K) : OpsW P N ops (o :: rest) env h K := by
  subst hm
  refine OpsW.append ho hgu hd E hs hrt rfl rfl rfl rfl ?_ hx src hsz.1 hsz.2 ?_
  · simp only [List.length_map]; rw [fm_length enc k hk]; exact Nat.mul_le_mul_right _ hn
  · have e1 : (l.take n ++ ys).length = n + ys.length := by simp; omega
    rw [e1] at hw
    rw [put_app enc k n hk]
    exact hw

theorem SrcA.typed {u : TypeId} {k : Nat} {α : Type} {enc : α → List IV} (hk : ∀ a, (enc a).length = k) (hu : tk P u = 1) (ys : List α) : SrcA P h u k (slA enc ys) ys.length ((ys.flatMap enc).map .im) :=
  SrcA.im hu (fm_length enc k hk ys)
theorem SrcA.root {u : TypeId} {r ver k e m off : Nat} {α : Type} {enc : α → List IV} {l : List α} (hk : ∀ a, (enc a).length = k) (hu : tk P u = 1) (hrt : h.at r = some (rtA ver e k enc l)) (hm : off + m ≤ l.length) :
    SrcA P h u k (.rsl r ver (off * k) m) m ((((l.drop off).take m).flatMap enc).map .im) := by
  have := SrcA.rsl (P := P) (u := u) (off := off * k) (m := m) hu hrt rfl rfl rfl (by simp only [List.length_map]; rw [fm_length enc k hk, ← Nat.add_mul]; exact Nat.mul_le_mul_right _ hm)
  rw [← List.map_drop, ← List.map_take, fm_part enc k hk] at this
  exact this
theorem bytes_enc (s : ByteArray) : s.data.toList.map (fun b => AV.int .u8 b.toNat) = ((s.data.toList.map fun b => ((b.toNat : Nat) : Int)).flatMap (eI .u8)).map .im := by
  generalize s.data.toList = l
  induction l with
  | nil => rfl
  | cons b l ih => simp only [List.map_cons, List.flatMap_cons, List.map_append, ih]; rfl
theorem SrcA.strT {u : TypeId} (hu : tk P u = 2) (s : ByteArray) : SrcA P h u 1 (.string s) s.size (((s.data.toList.map fun b => ((b.toNat : Nat) : Int)).flatMap (eI .u8)).map .im) := by
  rw [← bytes_enc]; exact SrcA.str hu

/-- append(s, a, b, ..): the literal slice and the append behind it, typed. -/
theorem OpsW.appendLT {o1 o2 : Oper} {rest : List Oper} {K : Env → Hp → Prop} {s : Operand} {d1 t e : TypeId} {k bytes m : Nat} {z : List Value} {ps : List (Nat × Operand)} {α : Type} {enc : α → List IV} {l : List α} (ys : List α) (h1 : o1.op = .buildSlice t m ps.toArray) (hd1 : o1.dst = some d1) (hg1 : o1.guard = none) (hN : d1 < N)
    (h2 : o2.op = .call ⟨.builtin .append, #[s, .tmp d1], #[t, t]⟩) (hg2 : o2.guard = none) (hd2 : o2.dst.all (· < N) = true) (hsd : s ≠ .tmp d1) (E : Elem P t e k bytes z) (hk : ∀ a, (enc a).length = k) (hm : m * k ≤ 16777216)
    (hgd : ∀ p ∈ ps, gd (rdo env p.2)) (hok : ∀ p ∈ ps, okC h (st (rdo env p.2))) (hf : fillA h (fun i => some (i * k, k)) (zerosA z m) (ps.map fun p => (p.1, st (rdo env p.2))) = some ((ys.flatMap enc).map .im))
    (hone : ∀ x ∈ (ys.flatMap enc).map AV.im, oneA h x) (hml : m = ys.length)
    {r ver n : Nat} (hs : rdo env s = .rsl r ver 0 n) (hrt : h.at r = some (rtA ver e k enc l)) (hn : n ≤ l.length) (hsz : room bytes (n + m))
    (hw : OpsW P N ops rest (setd ((d1, .any) :: env) o2.dst (.rsl r (ver + 1) 0 (l.take n ++ ys).length)) ((r, rtA (ver + 1) e k enc (l.take n ++ ys)) :: h) K) : OpsW P N ops (o1 :: o2 :: rest) env h K := by
  subst hml
  refine OpsW.appendL h1 hd1 hg1 hN h2 hg2 hd2 hsd E hm hgd hok _ hf hone (by simp only [List.length_map]; rw [fm_length enc k hk]) hs hrt rfl rfl rfl rfl ?_ hsz.1 hsz.2 ?_
  · simp only [List.length_map]; rw [fm_length enc k hk]; exact Nat.mul_le_mul_right _ hn
  · have e1 : (l.take n ++ ys).length = n + ys.length := by simp; omega
    rw [e1] at hw
    rw [put_app enc k n hk]
    exact hw

theorem take_all_len {α : Type} (l : List α) : l.take l.length = l := List.take_length

/-- The whole of a typed root is given up. -/
theorem frz_all {α : Type} (enc : α → List IV) (k : Nat) (hk : ∀ a, (enc a).length = k) (l : List α) : (((l.flatMap enc).map AV.im).drop 0).take (l.length * k) = (l.flatMap enc).map AV.im := by
  rw [List.drop_zero, List.take_of_length_le (by simp only [List.length_map]; rw [fm_length enc k hk]; exact Nat.le_refl _)]
theorem frz_part {α : Type} (enc : α → List IV) (k : Nat) (hk : ∀ a, (enc a).length = k) (l : List α) (off n : Nat) (hn : off + n ≤ l.length) : (((l.flatMap enc).map AV.im).drop (off * k)).take (n * k) = (((l.drop off).take n).flatMap enc).map AV.im := by
  rw [← List.map_drop, ← List.map_take, fm_part enc k hk]
theorem part_length {α : Type} (l : List α) (off n : Nat) (hn : off + n ≤ l.length) : ((l.drop off).take n).length = n := by simp; omega

theorem zeros_typed {α : Type} (enc : α → List IV) (z : List Value) (d : α) (hz : enc d = z.map .val) (n : Nat) : zerosA z n = ((List.replicate n d).flatMap enc).map .im := by
  unfold zerosA
  induction n with
  | zero => rfl
  | succ n ih =>
    simp only [List.replicate_succ, List.flatten_cons, List.map_append, List.flatMap_cons, ih, hz, List.map_map]
    rfl

/-- make([]T, n, c), typed. -/
theorem OpsW.makeT {o : Oper} {rest : List Oper} {K : Env → Hp → Prop} {t e : TypeId} {k bytes : Nat} {z : List Value} {x y : Operand} {α : Type} {enc : α → List IV} (d : α) (ho : o.op = .makeSlice t x y) (hgu : o.guard = none) (hd : o.dst.all (· < N) = true)
    (r : Nat) (hr : h.at r = none) (E : Elem P t e k bytes z) (hz : enc d = z.map .val) {kx ky : IntKind} {l c : Int} (hx : rdo env x = .int kx l) (hy : rdo env y = .int ky c) (hok : 0 ≤ l ∧ l ≤ c ∧ (bytes : Int) * c ≤ 281474976710656 ∧ c ≤ 9223372036854775807)
    (hw : OpsW P N ops rest (setd env o.dst (.rsl r 0 0 (List.replicate l.toNat d).length)) ((r, rtA 0 e k enc (List.replicate l.toNat d)) :: h) K) : OpsW P N ops (o :: rest) env h K := by
  refine OpsW.make ho hgu hd r hr E hx hy hok.1 hok.2.1 hok.2.2.1 hok.2.2.2 ?_
  rw [zeros_typed enc z d hz]
  rw [List.length_replicate] at hw
  exact hw

theorem put_set {α : Type} (enc : α → List IV) (k : Nat) (hk : ∀ a, (enc a).length = k) : ∀ (l : List α) (d x : α) (i o : Nat) (cs : List IV), i < l.length → o + cs.length ≤ k → putA (enc (l.getD i d)) o cs = enc x →
    putA ((l.flatMap enc).map AV.im) (i * k + o) (cs.map AV.im) = ((l.set i x).flatMap enc).map AV.im
  | [], d, x, i, o, cs, hi, _, _ => by simp at hi
  | a :: l, d, x, 0, o, cs, _, ho, hx => by
    simp only [Nat.zero_mul, Nat.zero_add, List.set_cons_zero, List.flatMap_cons, List.map_append]
    rw [← hx]
    simp only [List.getD_cons_zero]
    have ha := hk a
    unfold putA
    rw [List.take_append_of_le_length (by simp; omega), List.drop_append_of_le_length (by simp; omega)]
    simp [List.map_take, List.map_drop, List.append_assoc]
  | a :: l, d, x, i + 1, o, cs, hi, ho, hx => by
    have ih := put_set enc k hk l d x i o cs (by simpa using hi) ho (by simpa using hx)
    simp only [List.set_cons_succ, List.flatMap_cons, List.map_append]
    rw [← ih]
    have ha : ((enc a).map AV.im).length = k := by simp [hk a]
    have e1 : (i + 1) * k + o = ((enc a).map AV.im).length + (i * k + o) := by rw [ha, Nat.add_mul]; omega
    unfold putA
    rw [e1, List.take_length_add_append, Nat.add_assoc, List.drop_length_add_append]
    simp [List.append_assoc]

/-- A store into an element of a typed root. -/
theorem OpsW.storeT {o : Oper} {rest : List Oper} {K : Env → Hp → Prop} {t : TypeId} {x y : Operand} {α : Type} {enc : α → List IV} {l : List α} {e k : Nat} (d v : α) (cs : List IV) (i off : Nat) (ho : o.op = .store t x y) (hgu : o.guard = none) (hdn : o.dst = none) {r ver : Nat}
    (hx : st (rdo env x) = .ref r ver (i * k + off)) (hgx : gd (rdo env x)) (hgy : gd (rdo env y)) (hrt : h.at r = some (rtA ver e k enc l)) (hk : ∀ a, (enc a).length = k) (hy : cellsA (st (rdo env y)) = cs.map .im) (hsz : szt P t = some cs.length) (hok : okC h (st (rdo env y)))
    (hi : i < l.length) (ho2 : off + cs.length ≤ k) (hp : putA (enc (l.getD i d)) off cs = enc v)
    (hw : OpsW P N ops rest env ((r, rtA ver e k enc (l.set i v)) :: h) K) : OpsW P N ops (o :: rest) env h K := by
  refine OpsW.store ho hgu hdn hx hgx hgy hrt rfl rfl (by rw [hy, hsz]; simp) hok ?_ ?_
  · rw [hy]
    simp only [List.length_map]
    rw [fm_length enc k hk]
    have : (i + 1) * k ≤ l.length * k := Nat.mul_le_mul_right _ hi
    rw [Nat.add_mul] at this
    omega
  · rw [hy]
    simp only []
    rw [put_set enc k hk l d v i off cs hi ho2 hp]
    exact hw
end
end Go.Abs
