/-
  Own work. Chapter 01, plain part: two laws for all arguments that can be read.
-/
import Derived.Test.YtbdmehgppgfiaaaP01d
set_option linter.unusedSimpArgs false
set_option linter.unusedVariables false
namespace Go.Proofs.Ytbdmehgppgfiaaa
open Go.Abs
theorem plain_CellMetric {t0 t1 t2 : Int} (h0 : okInt .u8 t0) (h1 : okInt .u8 t1) (h2 : okInt .u8 t2) : f_L01_CellMetric t0 t1 t2 = some true := law_metric t0 t1 t2 h0 h1 h2
theorem okArr_getD {n : Nat} {t : List Int} (h : okArr n (okInt .u8) t) (i : Nat) : 0 ≤ t.getD i 0 ∧ t.getD i 0 ≤ 255 := by
  rw [List.getD_eq_getElem?_getD]
  rcases hi : t[i]? with _ | x
  · simp
  · exact h.1 x (List.mem_of_getElem? hi)
theorem plain_CellDoubt {t0 : List Int} (h0 : okArr 2 (okInt .u8) t0) : f_L01_CellDoubt t0 = some true := law_doubt t0 (okArr_getD h0 0) (okArr_getD h0 1)
end Go.Proofs.Ytbdmehgppgfiaaa
