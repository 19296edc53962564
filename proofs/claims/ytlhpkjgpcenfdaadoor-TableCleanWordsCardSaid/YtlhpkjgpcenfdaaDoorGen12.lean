/-
  Own work. Comparisons of structs and arrays of plain values.
-/
import Derived.Test.YtlhpkjgpcenfdaaDoorGen11
set_option linter.unusedSimpArgs false
set_option linter.unusedVariables false
set_option linter.unusedSimpArgs false
set_option linter.unusedVariables false
namespace Go.Abs
open Go.RowKit
section
variable {P : Program} {N : Nat} {ops : Array Oper} {env : Env} {h : Hp}
def partP (P : Program) (t : TypeId) (cs : Array Value) (off : Nat) : Option Value := match lz P t with
  | some none => cs[off]?
  | some (some n) => some (.agg (cs.extract off (off + n)))
  | none => none
theorem partP_run {t : TypeId} {cs : Array Value} {off : Nat} {v : Value} {w : World} (hp : partP P t cs off = some v) : (part t cs off).run P w = .ok v w := by
  unfold partP at hp
  unfold part
  cases hl : lz P t with
  | none => simp [hl] at hp
  | some o =>
    cases o with
    | none =>
      simp only [hl] at hp
      simp [Sem.run_bind, lz_none hl, hp]
    | some n =>
      simp only [hl, Option.some.injEq] at hp
      subst hp
      simp [Sem.run_bind, (lz_some (w := w) hl).1, (lz_some (w := w) hl).2]
def catO : List (Option (List Bool)) → Option (List Bool)
  | [] => some []
  | none :: _ => none
  | some l :: r => (catO r).map (l ++ ·)
theorem catO_map {α : Type} (f : α → Option (List Bool)) : ∀ (l : List α) (L : List Bool), catO (l.map f) = some L → (∀ a ∈ l, f a = some ((f a).getD [])) ∧ L = l.flatMap fun a => (f a).getD []
  | [], L, h => by simp [catO] at h; simp [← h]
  | a :: l, L, h => by
    cases hf : f a with
    | none => simp [catO, hf] at h
    | some x =>
      simp only [List.map_cons, hf, catO, Option.map_eq_some_iff] at h
      obtain ⟨M, hM, rfl⟩ := h
      obtain ⟨h1, h2⟩ := catO_map f l M hM
      refine ⟨fun b hb => ?_, by simp [hf, h2]⟩
      rcases List.mem_cons.1 hb with rfl | hb
      · simp [hf]
      · exact h1 b hb
/-- What a comparison of plain values comes to: a list of tests. -/
def eqV (P : Program) : Nat → TypeId → Value → Value → Option (List Bool)
  | 0, _, _, _ => none
  | d + 1, t, x, y => match P.underlying t with
    | some .bool => (match x, y with | .bool a, .bool b => some [a == b] | _, _ => none)
    | some (.int _) => (match x, y with | .int k a, .int k' b => if k = k' then some [a == b] else none | _, _ => none)
    | some .string => (match x, y with | .string a, .string b => some [a == b] | _, _ => none)
    | some (.struct fs) => (match x, y with
      | .agg xs, .agg ys => if P.stoodInHeld t then none else catO (fs.toList.map fun f => if f.name = "_" then some [] else match partP P f.type xs f.offset, partP P f.type ys f.offset with | some u, some v => eqV P d f.type u v | _, _ => none)
      | _, _ => none)
    | some (.array n e) => (match x, y with
      | .agg xs, .agg ys => (match P.info? e with
        | some i => catO ((List.range' 0 n).map fun j => match partP P e xs (j * i.size), partP P e ys (j * i.size) with | some u, some v => eqV P d e u v | _, _ => none)
        | none => none)
      | _, _ => none)
    | _ => none
theorem loop_all {α : Type} {w : World} (B : α → Option Bool × Unit → Sem (ForInStep (Option Bool × Unit))) (r : α → List Bool) : ∀ (l : List α), (∀ a ∈ l, ∀ s, (B a s).run P w = .ok (if (r a).all id = true then .yield (none, ()) else .done (some false, ())) w) →
    (forIn l (none, ()) B).run P w = .ok (if (l.flatMap r).all id = true then (none, ()) else (some false, ())) w
  | [], h => by simp
  | a :: l, h => by
    rw [List.forIn_cons, Sem.run_bind, h a (by simp)]
    simp only [Result.andThen_ok, List.flatMap_cons, List.all_append]
    by_cases ha : (r a).all id = true
    · rw [if_pos ha, ha]
      simp only [Bool.true_and]
      exact loop_all B r l fun b hb => h b (by simp [hb])
    · have ha' : (r a).all id = false := by simpa using ha
      rw [if_neg ha, ha']
      simp
theorem eqV_sound {w : World} : ∀ (d : Nat) (t : TypeId) (x y : Value) (l : List Bool), eqV P d t x y = some l → (Op.equalIn d t x y).run P w = .ok (l.all id) w
  | 0, t, x, y, l, h => by simp [eqV] at h
  | d + 1, t, x, y, l, h => by
    unfold eqV at h
    unfold Op.equalIn
    split at h
    · rename_i hu
      split at h
      · simp only [Option.some.injEq] at h; subst h
        simp [Sem.run_bind, run_underlying hu]
      · cases h
    · rename_i k hu
      split at h
      · rename_i k1 a k2 b
        split at h
        · rename_i hk
          simp only [Option.some.injEq] at h; subst h
          simp [Sem.run_bind, run_underlying hu, hk]
        · cases h
      · cases h
    · rename_i hu
      split at h
      · simp only [Option.some.injEq] at h; subst h
        simp [Sem.run_bind, run_underlying hu]
      · cases h
    · rename_i fs hu
      split at h
      · rename_i xs ys
        split at h
        · cases h
        · rename_i hs
          have hs' : P.stoodInHeld t = false := by simpa using hs
          obtain ⟨h1, hL⟩ := catO_map _ _ _ h
          generalize hb : l.all id = b
          simp only [Sem.run_bind, run_underlying hu, Result.andThen_ok]
          simp [hs']
          rw [← Array.forIn_toList]
          rw [loop_all _ (fun f => (if f.name = "_" then some [] else match partP P f.type xs f.offset, partP P f.type ys f.offset with | some u, some v => eqV P d f.type u v | _, _ => none).getD []) fs.toList (fun f hf s => ?_)]
          · simp only [Result.andThen_ok]
            rw [← hL, hb]
            cases b <;> rfl
          · have h2 := h1 f hf
            by_cases hn : f.name = "_"
            · simp [hn]
            · rw [if_neg hn] at h2 ⊢
              rw [if_neg hn]
              split at h2
              · rename_i u v hu' hv'
                simp only [Sem.run_bind, partP_run hu', partP_run hv', Result.andThen_ok, eqV_sound d _ u v _ h2]
                generalize ((eqV P d f.type u v).getD []).all id = c
                cases c <;> rfl
              · cases h2
      · cases h
    · rename_i n e hu
      split at h
      · rename_i xs ys
        split at h
        · rename_i i hi
          obtain ⟨h1, hL⟩ := catO_map _ _ _ h
          generalize hb : l.all id = b
          simp only [Sem.run_bind, run_underlying hu, Result.andThen_ok]
          simp [sizeOf, typeInfo, hi]
          rw [loop_all _ (fun j => (match partP P e xs (j * i.size), partP P e ys (j * i.size) with | some u, some v => eqV P d e u v | _, _ => none).getD []) (List.range' 0 n) (fun f hf s => ?_)]
          · simp only [Result.andThen_ok]
            rw [← hL, hb]
            cases b <;> rfl
          · have h2 := h1 f hf
            split at h2
            · rename_i u v hu' hv'
              simp only [Sem.run_bind, partP_run hu', partP_run hv', Result.andThen_ok, eqV_sound d _ u v _ h2]
              generalize ((eqV P d e u v).getD []).all id = c
              cases c <;> rfl
            · cases h2
        · cases h
      · cases h
    · cases h
theorem VRL.of_vals {w : World} {ι : Nat → Bk} {A : Nat → Prop} : ∀ (us l : List Value), VRL w h ι A (us.map fun u => .im (.val u)) l → l = us
  | [], l, hv => by simpa [VRL] using hv
  | u :: us, l, hv => by
    simp only [List.map_cons, VRL, VR, VRI] at hv
    obtain ⟨v, l', rfl, rfl, hr⟩ := hv
    rw [VRL.of_vals us l' hr]
theorem Quiet.eqAgg {o : Oper} {t ty : TypeId} {x y : Operand} {op : BinOp} (us vs : List Value) (l : List Bool) (neg : Bool) (ho : o.op = .binOp op t x y ty) (hop : op = if neg then .neq else .eql) (hgt : P.eqGuardType P.depth t = false)
    (hl : eqV P Op.maxDepth t (.agg us.toArray) (.agg vs.toArray) = some l)
    (hg : gpo ops env o (gd (rdo env x) ∧ st (rdo env x) = .agg (us.map fun u => .im (.val u)) ∧ gd (rdo env y) ∧ st (rdo env y) = .agg (vs.map fun u => .im (.val u)))) :
    Quiet P ops o env h (gav ops env o (.bool (xor neg (l.all id)))) :=
  Quiet.guarded hg fun ⟨hgx, hx, hgy, hy⟩ X a w ι Q H hops next hn => by
    have hv := (hops x (by simp [ho, Op.operands])).st hgx
    have hw := (hops y (by simp [ho, Op.operands])).st hgy
    rw [hx] at hv
    rw [hy] at hw
    simp only [VR] at hv hw
    obtain ⟨l1, hv, h1⟩ := hv
    obtain ⟨l2, hw, h2⟩ := hw
    obtain rfl := VRL.of_vals us l1 h1
    obtain rfl := VRL.of_vals vs l2 h2
    have he := eqV_sound (w := w) _ _ _ _ _ hl
    have hex : (execOp a.eval o).run P w = .ok (.value (.bool (xor neg (l.all id)))) w := by
      cases neg <;> simp at hop <;> subst hop <;> simp [execOp, ho, eqGuard, binOp, Op.equal, Sem.run_bind, hv, hw, hgt, he]
    simp only [Oper.wp, hex, Oper.upon]
    exact hn _ _ (Below.refl _ _) (by simp [VR, VRI])
end
end Go.Abs
