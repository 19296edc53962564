/-
  Own work. The two writers agree on every list of nodes.
-/
import Derived.Test.YtioockkejhpleaaDoorFm15
import Derived.Test.YtioockkejhpleaaDoorFm7
set_option linter.unusedSimpArgs false
set_option linter.unusedVariables false
set_option linter.unusedSimpArgs false
set_option linter.unusedVariables false
namespace Go.Proofs.YtioockkejhpleaaDoor
open Go.Abs
theorem Writes_agree {f : List S_Node} (hN : ∀ n ∈ f, okN n) : (f_linear_Write f = some ([], 90) ∧ f_R10_Write f = some ([], 90) ∧ f_R09_Valid f = some false) ∨
    ∃ (T : Tr) (d : Nat), T.flat = f ∧ T.good d ∧ d ≤ 8 ∧ f.length ≤ 60 ∧ f_linear_Write f = some (T.cells [], 0) ∧ f_R10_Write f = some (T.cells [], 0) := by
  obtain ⟨b, e1, e2, h⟩ := Valid_agree hN
  cases b with
  | false =>
    refine .inl ⟨?_, ?_, e2⟩
    · unfold f_linear_Write; rw [e1, Option.bind_some]; rfl
    · unfold f_R10_Write; rw [e2, Option.bind_some]; rfl
  | true =>
    obtain ⟨h60, d, hd8, hd⟩ := h rfl
    obtain ⟨T, rfl, hT⟩ := IsT_good d f hd
    exact .inr ⟨T, d, rfl, hT, hd8, h60, (Write_cells hT hd8 h60).1, R10_Write_cells hT hd8 h60⟩
end Go.Proofs.YtioockkejhpleaaDoor
