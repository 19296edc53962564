/-
  Own work. Contracts out of contracts of the kit's shelf.
-/
import Derived.Test.YtlhpkjgpcenfdaaDoorGen9
set_option linter.unusedSimpArgs false
set_option linter.unusedVariables false
namespace Go.Abs
open Go.RowKit
variable {P : Program}
/-- A contract on calls, the result a plain value, makes a typed one. -/
theorem QSpec.of_calls {f : FuncId} {args : List AV} {u : Value} (h : ∀ (w : World) (ι : Nat → Bk) (B : Nat → Prop) (vs : List Value), GlobOK w (Own B [] ι) → VRL w [] ι (Own B [] ι) args vs →
    Calls P f vs.toArray w fun e w' => e = .returned u ∧ Below w.heap.size w w') : QSpec P f args (.im (.val u)) := by
  intro w ι B vs H hv
  refine (h w ι B vs H.globOK hv).mono ?_
  rintro e w' ⟨rfl, hb⟩
  exact ⟨u, .im (.val u), [], ι, rfl, rfl, H.below hb, by simp [VR, VRI]⟩
theorem VRL.one_val {w : World} {h : Hp} {ι : Nat → Bk} {A : Nat → Prop} {u : Value} {vs : List Value} (hv : VRL w h ι A [.im (.val u)] vs) : vs = [u] := by
  simp only [VRL, VR, VRI] at hv
  obtain ⟨v, l, rfl, rfl, rfl⟩ := hv
  rfl
/-- What a table of the package holds. -/
theorem GlobOK.block {w : World} {A : Nat → Prop} (hg : GlobOK w A) {g : Nat} {l : List Value} (hc : globAt globs g = some (l.map .val)) : ∃ (e : TypeId) (fr : Nat × Nat), w.heap[g]? = some (.cells l.toArray e fr) := by
  obtain ⟨_, arr, e, fr, h1, h2, _⟩ := hg g _ hc
  have h3 : l = arr.toList := (List.map_inj_right (fun a b hab => IV.val.inj hab)).1 h2
  exact ⟨e, fr, by rw [h1, h3]⟩
end Go.Abs
