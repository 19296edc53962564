/- Own work. -/
import Derived.Test.YtkgfbpbndmklnaaDoorQuC
set_option linter.unusedSimpArgs false
set_option linter.unusedVariables false
namespace Go.Proofs.YtkgfbpbndmklnaaDoor
open Go.Abs
theorem Made_good {t0 : List Int} (h0 : okList (okInt .u8) t0) : ∃ T : Tr, f_R09_Made t0 = some T.flat ∧ Y2o 5 T ∧ T.flat.length ≤ 60 ∧ T.tx.length + 1 ≤ 600 := by
  obtain ⟨f, hf, hT, hl⟩ := Made_tree h0
  obtain ⟨T, rfl, hg⟩ := IsT_good 5 f hT
  have := tx_len T
  exact ⟨T, hf, hg, hl, by omega⟩
end Go.Proofs.YtkgfbpbndmklnaaDoor
