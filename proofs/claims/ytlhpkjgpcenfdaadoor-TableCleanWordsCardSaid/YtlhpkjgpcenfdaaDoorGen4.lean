/-
  Own work. The generated walks, part 4: forms of the rules that the generator uses.
-/
import Derived.Test.YtlhpkjgpcenfdaaDoorGen3
set_option linter.unusedSimpArgs false
set_option linter.unusedVariables false
set_option linter.unusedSimpArgs false
set_option linter.unusedVariables false
namespace Go.Abs
open Go.RowKit

def phi : List (Nat × Option Nat) → Nat → Option Nat
  | [], _ => none
  | (i, v) :: l, j => if i = j then v else phi l j
theorem phi_ne {h' : Hp} {l : List (Nat × Option Nat)} {r : Nat} (ha : (l.all fun p => !(p.2 == some r)) = true) : ∀ (r' : Nat) (rt' : Rt), h'.at r' = some rt' → phi l r' ≠ some r := by
  intro r' rt' hx
  clear hx rt'
  induction l with
  | nil => simp [phi]
  | cons p l ih =>
    obtain ⟨i, v⟩ := p
    simp only [List.all_cons, Bool.and_eq_true] at ha
    simp only [phi]
    split
    · intro e; rw [e] at ha; simp at ha
    · exact ih ha.2
theorem condT {b : Bool} {α : Type} {x y : Option α} {r : α} (hb : b = true) (h : cond b x y = some r) : x = some r := by subst hb; exact h
theorem condF {b : Bool} {α : Type} {x y : Option α} {r : α} (hb : b = false) (h : cond b x y = some r) : y = some r := by subst hb; exact h
theorem bindS {α β : Type} {o : Option α} {f : α → Option β} {r : β} (h : o.bind f = some r) : ∃ x, o = some x ∧ f x = some r := Option.bind_eq_some_iff.1 h
theorem ltN {j : Int} {n : Nat} (h : 0 ≤ j ∧ j < (n : Int)) : j.toNat < n := by omega

def bAnd (k : IntKind) (a b : Int) : Int := k.wrap (BitVec.ofInt k.bits a &&& BitVec.ofInt k.bits b).toNat
def bOr (k : IntKind) (a b : Int) : Int := k.wrap (BitVec.ofInt k.bits a ||| BitVec.ofInt k.bits b).toNat
def bXor (k : IntKind) (a b : Int) : Int := k.wrap (BitVec.ofInt k.bits a ^^^ BitVec.ofInt k.bits b).toNat
def bAndNot (k : IntKind) (a b : Int) : Int := k.wrap (BitVec.ofInt k.bits a &&& ~~~ BitVec.ofInt k.bits b).toNat
def bShl (k : IntKind) (a b : Int) : Int := k.wrap (a * 2 ^ min b.toNat k.bits)
def bShr (k : IntKind) (a b : Int) : Int := a.fdiv (2 ^ min b.toNat k.bits)
def bAt (s : ByteArray) (j : Int) : Int := ((s.data.toList.getD j.toNat 0).toNat : Int)

section
variable {P : Program} {N : Nat} {ops : Array Oper} {env : Env} {h : Hp}

theorem OpsW.appendF {o : Oper} {rest : List Oper} {K : Env → Hp → Prop} {s x : Operand} {t u e : TypeId} {k bytes : Nat} {z : List Value} {α : Type} {enc : α → List IV} {l ys : List α} (ho : o.op = .call ⟨.builtin .append, #[s, x], #[t, u]⟩) (hgu : o.guard = none) (hd : o.dst.all (· < N) = true)
    {r ver m : Nat} (E : Elem P t e k bytes z) (hk : ∀ a, (enc a).length = k) (hs : rdo env s = .rsl r ver 0 l.length) (hrt : h.at r = some (rtA ver e k enc l))
    (hx : gd (rdo env x)) (src : SrcA P h u k (st (rdo env x)) m ((ys.flatMap enc).map .im)) (hm : m = ys.length) (hsz : room bytes (l.length + m))
    (hw : OpsW P N ops rest (setd env o.dst (.rsl r (ver + 1) 0 (l ++ ys).length)) ((r, rtA (ver + 1) e k enc (l ++ ys)) :: h) K) : OpsW P N ops (o :: rest) env h K :=
  OpsW.appendT ho hgu hd E hk hs hrt (Nat.le_refl _) hx src hm hsz (by rw [take_all_len]; exact hw)

theorem OpsW.appendLF {o1 o2 : Oper} {rest : List Oper} {K : Env → Hp → Prop} {s : Operand} {d1 t e : TypeId} {k bytes m : Nat} {z : List Value} {ps : List (Nat × Operand)} {α : Type} {enc : α → List IV} {l : List α} (ys : List α) (h1 : o1.op = .buildSlice t m ps.toArray) (hd1 : o1.dst = some d1) (hg1 : o1.guard = none) (hN : d1 < N)
    (h2 : o2.op = .call ⟨.builtin .append, #[s, .tmp d1], #[t, t]⟩) (hg2 : o2.guard = none) (hd2 : o2.dst.all (· < N) = true) (hsd : s ≠ .tmp d1) (E : Elem P t e k bytes z) (hk : ∀ a, (enc a).length = k) (hm : m * k ≤ 16777216)
    (hgd : AllP (glAll (rdo env) (ps.map (·.2)))) (hok : (ps.all fun p => okCb h (st (rdo env p.2))) = true) (hf : fillA h (fun i => some (i * k, k)) (zerosA z m) (ps.map fun p => (p.1, st (rdo env p.2))) = some ((ys.flatMap enc).map .im))
    (hone : (((ys.flatMap enc).map AV.im).all (oneAb h)) = true) (hml : m = ys.length)
    {r ver : Nat} (hs : rdo env s = .rsl r ver 0 l.length) (hrt : h.at r = some (rtA ver e k enc l)) (hsz : room bytes (l.length + m))
    (hw : OpsW P N ops rest (setd ((d1, .any) :: env) o2.dst (.rsl r (ver + 1) 0 (l ++ ys).length)) ((r, rtA (ver + 1) e k enc (l ++ ys)) :: h) K) : OpsW P N ops (o1 :: o2 :: rest) env h K :=
  OpsW.appendLT ys h1 hd1 hg1 hN h2 hg2 hd2 hsd E hk hm (fun p hp => glAll_sound hgd p.2 (List.mem_map.2 ⟨p, hp, rfl⟩)) (fun p hp => okCb_sound (List.all_eq_true.1 hok p hp)) hf
    (fun x hx => oneAb_sound (List.all_eq_true.1 hone x hx)) hml hs hrt (Nat.le_refl _) hsz (by rw [take_all_len]; exact hw)

/-- A literal slice that the call owns. -/
theorem OpsW.buildT {o : Oper} {rest : List Oper} {K : Env → Hp → Prop} {t e : TypeId} {len k bytes : Nat} {z : List Value} {ps : List (Nat × Operand)} {α : Type} {enc : α → List IV} (ys : List α) (ho : o.op = .buildSlice t len ps.toArray) (hgu : o.guard = none) (hd : o.dst.all (· < N) = true)
    (r : Nat) (hr : h.at r = none) (E : Elem P t e k bytes z) (hk : ∀ a, (enc a).length = k) (hlen : len * k ≤ 16777216) (hgd : AllP (glAll (rdo env) (ps.map (·.2)))) (hok : (ps.all fun p => okCb h (st (rdo env p.2))) = true)
    (hf : fillA h (fun i => some (i * k, k)) (zerosA z len) (ps.map fun p => (p.1, st (rdo env p.2))) = some ((ys.flatMap enc).map .im)) (hone : (((ys.flatMap enc).map AV.im).all (oneAb h)) = true) (hml : len = ys.length)
    (hw : OpsW P N ops rest (setd env o.dst (.rsl r 0 0 ys.length)) ((r, rtA 0 e k enc ys) :: h) K) : OpsW P N ops (o :: rest) env h K := by
  subst hml
  exact OpsW.buildSlice ho hgu hd r hr E hlen (fun p hp => glAll_sound hgd p.2 (List.mem_map.2 ⟨p, hp, rfl⟩)) (fun p hp => okCb_sound (List.all_eq_true.1 hok p hp)) _ hf
    (fun x hx => oneAb_sound (List.all_eq_true.1 hone x hx)) (by simp only [List.length_map]; rw [fm_length enc k hk]) hw

/-- A literal slice that nobody writes. -/
theorem Quiet.buildTI {o : Oper} {t e : TypeId} {len k bytes : Nat} {z : List Value} {ps : List (Nat × Operand)} {α : Type} {enc : α → List IV} (ys : List α) (ho : o.op = .buildSlice t len ps.toArray)
    (E : Elem P t e k bytes z) (hk : ∀ a, (enc a).length = k) (hlen : len * k ≤ 16777216)
    (hg : gpo ops env o (AllP (glAll (rdo env) (ps.map (·.2))) ∧ (ps.all fun p => okCb h (st (rdo env p.2))) = true ∧ fillA h (fun i => some (i * k, k)) (zerosA z len) (ps.map fun p => (p.1, st (rdo env p.2))) = some ((ys.flatMap enc).map .im) ∧ (((ys.flatMap enc).map AV.im).all (oneAb h)) = true ∧ len = ys.length)) :
    Quiet P ops o env h (gav ops env o (.im (.sl (ys.flatMap enc) len))) := by
  refine Quiet.buildI (ys := ys.flatMap enc) ho E hlen ?_
  unfold gpo at hg ⊢
  have key : (AllP (glAll (rdo env) (ps.map (·.2))) ∧ (ps.all fun p => okCb h (st (rdo env p.2))) = true ∧ fillA h (fun i => some (i * k, k)) (zerosA z len) (ps.map fun p => (p.1, st (rdo env p.2))) = some ((ys.flatMap enc).map .im) ∧ (((ys.flatMap enc).map AV.im).all (oneAb h)) = true ∧ len = ys.length) →
      ((∀ p ∈ ps, gd (rdo env p.2)) ∧ (∀ p ∈ ps, okC h (st (rdo env p.2))) ∧ fillA h (fun i => some (i * k, k)) (zerosA z len) (ps.map fun p => (p.1, st (rdo env p.2))) = some ((ys.flatMap enc).map .im) ∧ (∀ x ∈ (ys.flatMap enc).map AV.im, oneA h x) ∧ (ys.flatMap enc).length = len * k) :=
    fun ⟨a, b, c, d, e⟩ => ⟨fun p hp => glAll_sound a p.2 (List.mem_map.2 ⟨p, hp, rfl⟩), fun p hp => okCb_sound (List.all_eq_true.1 b p hp), c, fun x hx => oneAb_sound (List.all_eq_true.1 d x hx), by rw [fm_length enc k hk, e]⟩
  split at hg
  · exact key hg
  · split at hg
    · split at hg
      · exact fun hc => key (hg hc)
      · exact hg
    · exact hg

theorem OpsW.buildTI {o : Oper} {rest : List Oper} {K : Env → Hp → Prop} {t e : TypeId} {len k bytes : Nat} {z : List Value} {ps : List (Nat × Operand)} {α : Type} {enc : α → List IV} (ys : List α) (ho : o.op = .buildSlice t len ps.toArray) (hgu : o.guard = none) (hd : o.dst.all (· < N) = true)
    (E : Elem P t e k bytes z) (hk : ∀ a, (enc a).length = k) (hlen : len * k ≤ 16777216)
    (hg : AllP (glAll (rdo env) (ps.map (·.2))) ∧ (ps.all fun p => okCb h (st (rdo env p.2))) = true ∧ fillA h (fun i => some (i * k, k)) (zerosA z len) (ps.map fun p => (p.1, st (rdo env p.2))) = some ((ys.flatMap enc).map .im) ∧ (((ys.flatMap enc).map AV.im).all (oneAb h)) = true ∧ len = ys.length)
    (hr : OpsW P N ops rest (setd env o.dst (slA enc ys)) h K) : OpsW P N ops (o :: rest) env h K := by
  have hq := Quiet.buildTI (ops := ops) (env := env) (h := h) ys ho E hk hlen (by unfold gpo; rw [hgu]; exact hg)
  have e1 : gav ops env o (.im (.sl (ys.flatMap enc) len)) = slA enc ys := by unfold gav; rw [hgu, hg.2.2.2.2]
  rw [e1] at hq
  exact OpsW.quiet hd hq hr
theorem OpsW.gbuildTI {o : Oper} {rest : List Oper} {K : Env → Hp → Prop} {t e : TypeId} {len k bytes : Nat} {z : List Value} {ps : List (Nat × Operand)} {j tt : Nat} {b c : Bool} {α : Type} {enc : α → List IV} (ys : List α) (ho : o.op = .buildSlice t len ps.toArray) (hgu : o.guard = some (j, b)) (hj : (ops[j]?).bind (·.dst) = some tt) (hgc : gcond b (rd env tt) = some c) (hd : o.dst.all (· < N) = true)
    (E : Elem P t e k bytes z) (hk : ∀ a, (enc a).length = k) (hlen : len * k ≤ 16777216) (hml : len = ys.length)
    (hg : c = true → AllP (glAll (rdo env) (ps.map (·.2))) ∧ (ps.all fun p => okCb h (st (rdo env p.2))) = true ∧ fillA h (fun i => some (i * k, k)) (zerosA z len) (ps.map fun p => (p.1, st (rdo env p.2))) = some ((ys.flatMap enc).map .im) ∧ (((ys.flatMap enc).map AV.im).all (oneAb h)) = true ∧ len = ys.length)
    (hr : OpsW P N ops rest (setd env o.dst (.cnd c (slA enc ys))) h K) : OpsW P N ops (o :: rest) env h K := by
  have hq := Quiet.buildTI (ops := ops) (env := env) (h := h) ys ho E hk hlen (by unfold gpo; simp only [hgu, hj, hgc]; exact hg)
  have e1 : gav ops env o (.im (.sl (ys.flatMap enc) len)) = .cnd c (slA enc ys) := by unfold gav; simp only [hgu, hj, hgc, hml]
  rw [e1] at hq
  exact OpsW.quiet hd hq hr
theorem QOps.buildTI {o : Oper} {rest : List Oper} {K : Env → Prop} {t e : TypeId} {len k bytes : Nat} {z : List Value} {ps : List (Nat × Operand)} {α : Type} {enc : α → List IV} (ys : List α) (ho : o.op = .buildSlice t len ps.toArray) (hgu : o.guard = none)
    (E : Elem P t e k bytes z) (hk : ∀ a, (enc a).length = k) (hlen : len * k ≤ 16777216)
    (hg : AllP (glAll (rdo env) (ps.map (·.2))) ∧ (ps.all fun p => okCb h (st (rdo env p.2))) = true ∧ fillA h (fun i => some (i * k, k)) (zerosA z len) (ps.map fun p => (p.1, st (rdo env p.2))) = some ((ys.flatMap enc).map .im) ∧ (((ys.flatMap enc).map AV.im).all (oneAb h)) = true ∧ len = ys.length)
    (hr : QOps P ops h rest (setd env o.dst (slA enc ys)) K) : QOps P ops h (o :: rest) env K := by
  have hq := Quiet.buildTI (ops := ops) (env := env) (h := h) ys ho E hk hlen (by unfold gpo; rw [hgu]; exact hg)
  have e1 : gav ops env o (.im (.sl (ys.flatMap enc) len)) = slA enc ys := by unfold gav; rw [hgu, hg.2.2.2.2]
  rw [e1] at hq
  exact ⟨_, hq, hr⟩
theorem QOps.gbuildTI {o : Oper} {rest : List Oper} {K : Env → Prop} {t e : TypeId} {len k bytes : Nat} {z : List Value} {ps : List (Nat × Operand)} {j tt : Nat} {b c : Bool} {α : Type} {enc : α → List IV} (ys : List α) (ho : o.op = .buildSlice t len ps.toArray) (hgu : o.guard = some (j, b)) (hj : (ops[j]?).bind (·.dst) = some tt) (hgc : gcond b (rd env tt) = some c)
    (E : Elem P t e k bytes z) (hk : ∀ a, (enc a).length = k) (hlen : len * k ≤ 16777216) (hml : len = ys.length)
    (hg : c = true → AllP (glAll (rdo env) (ps.map (·.2))) ∧ (ps.all fun p => okCb h (st (rdo env p.2))) = true ∧ fillA h (fun i => some (i * k, k)) (zerosA z len) (ps.map fun p => (p.1, st (rdo env p.2))) = some ((ys.flatMap enc).map .im) ∧ (((ys.flatMap enc).map AV.im).all (oneAb h)) = true ∧ len = ys.length)
    (hr : QOps P ops h rest (setd env o.dst (.cnd c (slA enc ys))) K) : QOps P ops h (o :: rest) env K := by
  have hq := Quiet.buildTI (ops := ops) (env := env) (h := h) ys ho E hk hlen (by unfold gpo; simp only [hgu, hj, hgc]; exact hg)
  have e1 : gav ops env o (.im (.sl (ys.flatMap enc) len)) = .cnd c (slA enc ys) := by unfold gav; simp only [hgu, hj, hgc, hml]
  rw [e1] at hq
  exact ⟨_, hq, hr⟩

/-- An argument that is a typed root of the caller's. -/
theorem ArgS.root {bs : List Nat} {r ver e k : Nat} {α : Type} {enc : α → List IV} {l : List α} (hk : ∀ a, (enc a).length = k) (hb : r ∈ bs) (hrt : h.at r = some (rtA ver e k enc l)) : ArgS h bs (.rsl r ver 0 l.length) (slA enc l) :=
  ArgS.slice hb hrt rfl rfl (frz_all enc k hk l) (fm_length enc k hk l)

end
end Go.Abs
