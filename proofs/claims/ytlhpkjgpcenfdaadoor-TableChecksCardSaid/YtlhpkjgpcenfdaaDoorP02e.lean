/-
  Own work. Chapter 02, plain part: TableChecks.
-/
import Derived.Test.YtlhpkjgpcenfdaaDoorP02d
import Derived.Test.YtlhpkjgpcenfdaaDoorWL1
import Derived.Test.YtlhpkjgpcenfdaaDoorGen7
import Derived.Test.YtlhpkjgpcenfdaaDoorSh
set_option linter.unusedSimpArgs false
set_option linter.unusedVariables false
set_option linter.unusedSimpArgs false
set_option linter.unusedVariables false
namespace Go.Proofs.YtlhpkjgpcenfdaaDoor
open Go.Abs
theorem plain_TableChecks {t0 : S_Table} (h0 : okS_Table t0) : f_L02_TableChecks t0 = some true := by
  unfold f_L02_TableChecks
  rw [sanity_true, Option.bind_some]
  by_cases h6 : (6 : Int) < (t0.Rules.length : Int)
  · rw [cd_pos h6]
  rw [cd_neg h6]
  have ha : 0 ≤ t0.Accept ∧ t0.Accept ≤ 255 := h0.2.1
  have := iter_ind (b := fun loop (s : Int) => f_L02_TableChecks_b1 t0 true loop s) (fun s => 0 ≤ s ∧ s ≤ (t0.Rules.length : Int) ∧ small (t0.Rules.take s.toNat)) (fun s => ((t0.Rules.length : Int) - s).toNat) (fun s => some true) (by
    intro loop v hv ih
    obtain ⟨hv0, hv1, hv2⟩ := hv
    obtain ⟨k, rfl⟩ := nat_of hv0
    rw [Int.toNat_natCast] at hv2
    rw [f_L02_TableChecks_b1, Int.toNat_natCast]
    by_cases hk : k < t0.Rules.length
    · rw [cd_pos (by omega), G_pos (by omega), or_tt]
      by_cases hb : (6 : Int) < ((t0.Rules.getD k zS_Rule).Print.size : Int) ∨ (6 : Int) < ((t0.Rules.getD k zS_Rule).Cells.length : Int)
      · rw [cond_pos (by simpa using hb)]
      · rw [cond_neg (by simp only [Bool.or_eq_false_iff, decide_eq_false_iff_not]; exact ⟨fun h => hb (.inl h), fun h => hb (.inr h)⟩), G_inR (by omega), ih _ ⟨by omega, by omega, ?_⟩ (by omega)]
        rw [natAdd1, Int.toNat_natCast]
        intro r hr
        rw [List.take_succ_eq_append_getElem hk, List.mem_append] at hr
        rcases hr with hr | hr
        · exact hv2 r hr
        · have e : t0.Rules.getD k zS_Rule = t0.Rules[k] := by rw [List.getD_eq_getElem?_getD, List.getElem?_eq_getElem hk]; rfl
          rw [List.mem_singleton.1 hr, ← e]
          omega
    · have hs : small t0.Rules := by
        rw [List.take_of_length_le (by omega)] at hv2
        exact hv2
      rw [cd_neg (by omega), check_t t0 hs ha, check_r t0 hs ha, Option.bind_some, Option.bind_some, beq_self_eq_true, beq_self_eq_true, cond_true, cond_true, valid_t t0 hs ha, Option.bind_some, beq_self_eq_true, cond_true, cond_true]) 1000000 0 ⟨by omega, by omega, by intro r hr; simp at hr⟩ (by omega)
  exact this
end Go.Proofs.YtlhpkjgpcenfdaaDoor
