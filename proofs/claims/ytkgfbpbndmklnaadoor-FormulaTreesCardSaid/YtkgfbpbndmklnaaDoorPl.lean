/- Own work. -/
import Derived.Test.YtkgfbpbndmklnaaDoorLibC
set_option linter.unusedSimpArgs false
set_option linter.unusedVariables false
namespace Go.Abs
theorem Y32 {n : Int} {α : Type} {x : Option α} (h : -9223372036854775808 ≤ n ∧ n ≤ 9223372036854775807) : G (inR n) x = x := if_pos h
theorem G_room {b n : Nat} {α : Type} {x : Option α} (h : n * b ≤ 140737488355328 ∧ n ≤ 140737488355328) : G (room b n) x = x := if_pos h
theorem inR_of {n : Int} (h : -9223372036854775808 ≤ n ∧ n ≤ 9223372036854775807) : inR n := h
theorem wrap_i64 {n : Int} (h : -9223372036854775808 ≤ n ∧ n ≤ 9223372036854775807) : IntKind.wrap .i64 n = n := IntWalk.i64_in n h
end Go.Abs
