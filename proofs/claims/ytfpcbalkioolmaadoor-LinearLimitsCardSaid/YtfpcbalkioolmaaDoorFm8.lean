/-
  Own work. LinearLimits.
-/
import Derived.Test.YtfpcbalkioolmaaDoorFm5
import Derived.Test.YtfpcbalkioolmaaDoorFm7
import Derived.Test.YtfpcbalkioolmaaDoorSh
set_option linter.unusedSimpArgs false
set_option linter.unusedVariables false
namespace Go.Proofs.YtfpcbalkioolmaaDoor
open Go.Abs
def nb1 (k : Int) : (List Int × Int → Option (List Int)) → List Int × Int → Option (List Int) := fun loop s => f_R10_Nested_b1 k loop s.1 s.2
def nb2 (k : Int) : (List Int × Int → Option (List Int)) → List Int × Int → Option (List Int) := fun loop s => f_R10_Nested_b2 k loop s.1 s.2
theorem rep_snoc (i : Nat) (x : Int) : List.replicate i x ++ [x] = List.replicate (i + 1) x := (List.replicate_succ' (n := i) (a := x)).symm
theorem Nested_ok {k : Nat} (hk : k ≤ 30) : f_R10_Nested (k : Int) = some (nestC k) := by
  have run1 : ∀ (j i m : Nat), i + j = k → iter (nb1 (k : Int)) (m + 1 + j) (List.replicate k 55 ++ [48, 1] ++ List.replicate i 62, (i : Int)) = some (nestC k) := by
    intro j
    induction j with
    | zero =>
      intro i m hi
      rw [Nat.add_zero, iter_succ]
      show f_R10_Nested_b1 (k : Int) _ (List.replicate k 55 ++ [48, 1] ++ List.replicate i 62) (i : Int) = _
      unfold f_R10_Nested_b1
      rw [cd_neg (by omega), show i = k by omega]
      rfl
    | succ j ih =>
      intro i m hi
      rw [show m + 1 + (j + 1) = (m + 1 + j) + 1 by omega, iter_succ]
      show f_R10_Nested_b1 (k : Int) _ (List.replicate k 55 ++ [48, 1] ++ List.replicate i 62) (i : Int) = _
      unfold f_R10_Nested_b1
      rw [cd_pos (by omega), G_room (by simp; omega), G_inR (by omega), List.append_assoc _ _ [62], rep_snoc]
      exact ih (i + 1) m (by omega)
  have run2 : ∀ (j i m : Nat), i + j = k → iter (nb2 (k : Int)) (m + 1 + j) (List.replicate i 55, (i : Int)) = some (nestC k) := by
    intro j
    induction j with
    | zero =>
      intro i m hi
      rw [Nat.add_zero, iter_succ]
      show f_R10_Nested_b2 (k : Int) _ (List.replicate i 55) (i : Int) = _
      unfold f_R10_Nested_b2
      rw [cd_neg (by omega), G_room (by simp; omega), show i = k by omega]
      have e := run1 k 0 (999999 - k) (by omega)
      rw [show 999999 - k + 1 + k = 1000000 by omega] at e
      rw [List.replicate_zero, List.append_nil] at e
      exact e
    | succ j ih =>
      intro i m hi
      rw [show m + 1 + (j + 1) = (m + 1 + j) + 1 by omega, iter_succ]
      show f_R10_Nested_b2 (k : Int) _ (List.replicate i 55) (i : Int) = _
      unfold f_R10_Nested_b2
      rw [cd_pos (by omega), G_room (by simp; omega), G_inR (by omega), rep_snoc]
      exact ih (i + 1) m (by omega)
  have e := run2 k 0 (999999 - k) (by omega)
  rw [show 999999 - k + 1 + k = 1000000 by omega] at e
  exact e
theorem Limits_k1 {f : List S_Node} (hN : ∀ n ∈ f, okN n) : f_L10_LinearLimits_k1 f true = some true := by
  unfold f_L10_LinearLimits_k1
  by_cases h10 : (10 : Int) < (f.length : Int)
  · rw [cd_pos h10]
  rw [cd_neg h10]
  obtain ⟨b, e1, e2, h⟩ := Valid_agree hN
  cases b with
  | true =>
    obtain ⟨h60, d, hd8, hd⟩ := h rfl
    obtain ⟨o, q1, q2, q3⟩ := Write_ok hd hd8 h60
    rw [q1, Option.bind_some, e2, Option.bind_some]
    rfl
  | false =>
    have hw : f_linear_Write f = some ([], 90) := by
      unfold f_linear_Write
      rw [e1, Option.bind_some]
      rfl
    rw [hw, Option.bind_some, e2, Option.bind_some]
    rfl
theorem plain_LinearLimits {t0 : Int} {t1 : List S_Node} (h0 : okInt .u8 t0) (h1 : okList okS_Node t1) : f_L10_LinearLimits t0 t1 = some true := by
  have h0' : 0 ≤ t0 ∧ t0 ≤ 255 := h0
  obtain ⟨k, hk⟩ : ∃ k : Nat, t0 % 31 = (k : Int) := ⟨(t0 % 31).toNat, by omega⟩
  have hk30 : k ≤ 30 := by omega
  have hw : IntKind.wrap .i64 (Int.tmod t0 31) = (k : Int) := by
    rw [tmod_n h0'.1, hk]
    exact wrap_i64 (by omega)
  have hN : ∀ n ∈ t1, okN n := fun n hn => h1.1 n hn
  unfold f_L10_LinearLimits
  have hs : f_L10_sanity = some true := rfl
  rw [hs, Option.bind_some, hw, Nested_ok hk30, Option.bind_some, Read_nest hk30, Option.bind_some]
  by_cases h8 : k < 8
  · have e : readC k = (List.replicate k (⟨10, 0⟩ : S_Node) ++ [(⟨1, 0⟩ : S_Node)], ((2 * k + 2 : Nat) : Int), 0) := if_pos h8
    rw [cd_neg (by omega), e]
    simp only
    have hl : ((List.replicate k (⟨10, 0⟩ : S_Node) ++ [(⟨1, 0⟩ : S_Node)]).length : Int) = (k : Int) + 1 := by simp
    have ha : ((2 * k + 2 : Nat) : Int) = 2 * (k : Int) + 2 := by omega
    rw [G_pos (fun _ => inR_of (by omega)), G_pos (fun _ => inR_of (by omega)), G_pos (fun _ => inR_of (by omega))]
    rw [hl, ha, bne_self_eq_false, bne_self_eq_false, bne_self_eq_false]
    exact Limits_k1 hN
  · have e : readC k = ([], 0, 2) := if_neg h8
    rw [cd_pos (by omega), e]
    exact Limits_k1 hN
end Go.Proofs.YtfpcbalkioolmaaDoor
