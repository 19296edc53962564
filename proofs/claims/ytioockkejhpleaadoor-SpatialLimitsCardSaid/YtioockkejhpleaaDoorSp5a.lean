/-
  Own work. Lists of trees are read off their nodes; rows that are equal; what the reference makes.
-/
import Derived.Test.YtioockkejhpleaaDoorSp4
import Derived.Test.YtioockkejhpleaaDoorSh
set_option linter.unusedSimpArgs false
set_option linter.unusedVariables false
set_option linter.unusedSimpArgs false
set_option linter.unusedVariables false
namespace Go.Proofs.YtioockkejhpleaaDoor
open Go.Abs
/- Trees are a code without common beginnings. -/
theorem head_eq {a b ra rb : List S_Node} {d e : Nat} (ha : IsT d a) (hb : IsT e b) (h : a ++ ra = b ++ rb) (hl : (a ++ ra).length ≤ 100000) : a = b ∧ ra = rb := by
  have e1 := End_ok (f := a ++ ra) (pre := []) ha rfl hl
  have e2 := End_ok (f := a ++ ra) (pre := []) hb (by rw [h]; rfl) hl
  rw [e1] at e2
  have h3 : a.length = b.length := by
    have := Option.some.inj e2
    simp only [List.length_nil] at this
    omega
  exact List.append_inj h h3
theorem flatten_inj {d e : Nat} : ∀ (xs ys : List (List S_Node)), (∀ a ∈ xs, IsT d a) → (∀ b ∈ ys, IsT e b) → xs.flatten = ys.flatten → xs.flatten.length ≤ 100000 → xs = ys
  | [], [], _, _, _, _ => rfl
  | [], b :: ys, _, hb, h, _ => by
    have := (hb b (by simp)).pos
    have := congrArg List.length h
    simp only [List.flatten_nil, List.flatten_cons, List.length_append, List.length_nil] at this
    omega
  | a :: xs, [], ha, _, h, _ => by
    have := (ha a (by simp)).pos
    have := congrArg List.length h
    simp only [List.flatten_nil, List.flatten_cons, List.length_append, List.length_nil] at this
    omega
  | a :: xs, b :: ys, ha, hb, h, hl => by
    rw [List.flatten_cons] at h hl
    rw [List.flatten_cons] at h
    obtain ⟨h1, h2⟩ := head_eq (ha a (by simp)) (hb b (by simp)) h hl
    rw [List.length_append] at hl
    rw [h1, flatten_inj xs ys (fun x hx => ha x (by simp [hx])) (fun x hx => hb x (by simp [hx])) h2 (by omega)]
theorem good_inj : ∀ (d e : Nat) (A B : Tr), A.good d → B.good e → A.flat = B.flat → A.flat.length ≤ 100000 → A = B
  | 0, _, A, _, h, _, _, _ => by cases A; exact h.elim
  | d + 1, 0, _, B, _, h, _, _ => by cases B; exact h.elim
  | d + 1, e + 1, .node n ks, .node m ls, ha, hb, h, hl => by
    rw [Tr.flat, Tr.flat, List.cons.injEq] at h
    rw [Tr.flat, List.length_cons, flatL_map] at hl
    obtain ⟨rfl, h2⟩ := h
    have h3 : (ks.map Tr.flat).flatten = (ls.map Tr.flat).flatten := by rw [← flatL_map, ← flatL_map]; exact h2
    have ka : ∀ a ∈ ks.map Tr.flat, IsT d a := by
      intro a h; obtain ⟨T, hT, rfl⟩ := List.mem_map.1 h; exact good_IsT d T (goodL_iff.1 ha.2.1 T hT)
    have kb : ∀ a ∈ ls.map Tr.flat, IsT e a := by
      intro a h; obtain ⟨T, hT, rfl⟩ := List.mem_map.1 h; exact good_IsT e T (goodL_iff.1 hb.2.1 T hT)
    have h4 := flatten_inj _ _ ka kb h3 (by omega)
    have key : ∀ (ks ls : List Tr), goodL d ks → goodL e ls → ks.map Tr.flat = ls.map Tr.flat → (ks.map Tr.flat).flatten.length ≤ 100000 → ks = ls := by
      intro ks
      induction ks with
      | nil => intro ls _ _ h _; cases ls with
        | nil => rfl
        | cons l ls => cases h
      | cons k ks ih =>
        intro ls ga gb h hl
        cases ls with
        | nil => cases h
        | cons l ls =>
          rw [List.map_cons, List.map_cons, List.cons.injEq] at h
          rw [List.map_cons, List.flatten_cons, List.length_append] at hl
          rw [good_inj d e k l ga.1 gb.1 h.1 (by omega), ih ls ga.2 gb.2 h.2 (by omega)]
    rw [key ks ls ha.2.1 hb.2.1 h4 (by omega)]
/- Equal rows. -/
/- What the reference makes. -/
theorem okN_of {o n : Int} (h1 : 0 ≤ o ∧ o ≤ 100) (h2 : 0 ≤ n ∧ n ≤ 100000) : okN ⟨o, n⟩ := ⟨⟨by show -9223372036854775808 ≤ o; omega, by show o ≤ _; omega⟩, by show -9223372036854775808 ≤ n; omega, by show n ≤ _; omega⟩
theorem all_cons {α : Type} {p : α → Prop} {x : α} {l : List α} (h : p x) (t : ∀ y ∈ l, p y) : ∀ y ∈ x :: l, p y := fun y hy => by
  rcases List.mem_cons.1 hy with rfl | hy
  · exact h
  · exact t y hy
end Go.Proofs.YtioockkejhpleaaDoor
