/-
  Own work. strconv.Itoa, by the kit's shelf: numbers from 0 to 99999.
-/
import Derived.Shelf.Strconv.Itoa3
import Derived.Lib.AppendIntMem
import Derived.Test.YtlhpkjgpcenfdaaDoorGen10
import Derived.Test.YtlhpkjgpcenfdaaDoorChecked
import Derived.Test.YtlhpkjgpcenfdaaDoorLayP
set_option linter.unusedSimpArgs false
set_option linter.unusedVariables false
namespace Go.Proofs.YtlhpkjgpcenfdaaDoor
open Go.Shelf Go.Abs Go.RowKit

/-- The digits of a number that has at most `k` of them. -/
def decs : Nat → Nat → List Int
  | 0, _ => []
  | k + 1, n => if n < 10 then [48 + (n : Int)] else decs k (n / 10) ++ [48 + ((n % 10 : Nat) : Int)]
theorem decs_eq : ∀ (k n : Nat), n < 10 ^ k → 0 < k → (decs k n).map (fun x => UInt8.ofNat x.toNat) = Lib.decDigits n
  | 0, n, h, h0 => by omega
  | k + 1, n, h, _ => by
    rw [Lib.decDigits, decs]
    by_cases hn : n < 10
    · rw [if_pos hn, dif_pos hn]
      simp only [List.map_cons, List.map_nil]
      congr 2
    · rw [if_neg hn, dif_neg hn]
      have hk : 0 < k := by
        rcases Nat.eq_zero_or_pos k with e | e
        · subst e; simp at h; omega
        · exact e
      have h1 : n / 10 < 10 ^ k := by rw [Nat.div_lt_iff_lt_mul (by omega)]; rw [Nat.pow_succ] at h; exact h
      rw [List.map_append, decs_eq k (n / 10) h1 hk]
      simp only [List.map_cons, List.map_nil]
      congr 2
def f_strconv_Itoa (t0 : Int) : Option ByteArray := G (0 ≤ t0 ∧ t0 ≤ 99999) <| some (strOf (decs 5 t0.toNat))
theorem f_strconv_Itoa_ok {t0 : Int} {r : ByteArray} (H : f_strconv_Itoa t0 = some r) : QSpec Tryd.prog 38 [.int .i64 t0] (.string r) := by
  unfold f_strconv_Itoa at H
  obtain ⟨h, H⟩ := G_some H
  obtain rfl := Option.some.inj H
  refine QSpec.of_calls fun w ι B vs hg hv => ?_
  rw [VRL.one_val hv]
  obtain ⟨e, fr, hb⟩ := hg.block (g := 1) (l := Lib.pow10Tab.map fun z => Value.int .u64 z) (by kernel_rfl)
  refine (Any.strconv_Itoa Tryd.lays171 t0 (by omega) (by omega) w (by
    unfold Lib.TabIs World.var?
    rw [show Tryd.prog.globalNamed _ = some 1 from by kernel_rfl]
    simp only [Option.bind_some, hb])).mono ?_
  rintro e w' ⟨rfl, k, os, rfl⟩
  refine ⟨?_, Lib.below_grow _ w (Nat.le_refl _) k os⟩
  congr 2
  refine WideShapes.bytes_inj ?_
  rw [strOf_data, decs_eq 5 _ (by omega) (by omega)]
  unfold Lib.itoa
  rw [if_neg (by omega)]
end Go.Proofs.YtlhpkjgpcenfdaaDoor
