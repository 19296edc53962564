/-
  Written by gen.py (own work): typed functions, and that the program computes them.
-/
import Derived.Test.YtlhpkjgpcenfdaaDoorW2
set_option linter.unusedSimpArgs false
set_option linter.unusedVariables false
set_option maxRecDepth 100000
namespace Go.Proofs.YtlhpkjgpcenfdaaDoor
open Go.Abs
def f_table_text_next_91_0 (t0 : S_fields) : Option (ByteArray × Bool × S_fields) :=
  cond t0.text_.none_ (
    some ((⟨#[]⟩ : ByteArray), false, t0)) (
    (f_strings_Cut t0.text_.rest_ (⟨#[32]⟩ : ByteArray)).bind fun x2 =>
    some (x2.1, true, (⟨(⟨x2.2.1, !x2.2.2⟩ : S_text), t0.wrong_⟩ : S_fields)))
theorem f_table_text_next_91_0_io  {t0 : S_fields} {r : ByteArray × Bool × S_fields} (H : f_table_text_next_91_0 t0 = some r) : Abs.Spec Tryd.prog 66 [.ref 2020 0 0] [(2020, ⟨0, true, 91, 3, [.string t0.text_.rest_, .bool t0.text_.none_, .bool t0.wrong_]⟩)] (fun x h => x = .tup [.string r.1, .bool r.2.1] ∧ h = [(2020, ⟨0, true, 91, 3, [.string r.2.2.text_.rest_, .bool r.2.2.text_.none_, .bool r.2.2.wrong_]⟩)]) := by
  refine Spec.of_AW Tryd.func66 rfl (by simp [Tryd.ntmps66]) ?_
  rw [Tryd.ntmps66]
  unfold f_table_text_next_91_0 at H
  change AW _ _ _ [(0, .ref 2020 0 0)] [(2020, ⟨0, true, 91, 3, [.string t0.text_.rest_, .bool t0.text_.none_, .bool t0.wrong_]⟩)] _
  refine AW.endcast ?_
  refine AW.regionSeq ?_
  refine OpsW.seg 2 [0] [] [(0, .ref 2020 0 0)] (by kernel_rfl) trivial ?_
  refine OpsW.nil ?_
  refine AW.seq ?_
  refine AW.regionSeq ?_
  refine OpsW.seg 1 [7, 0] [] [(7, .ref 2020 0 0), (0, .ref 2020 0 0)] (by kernel_rfl) trivial ?_
  refine OpsW.quietU (.ref 2020 0 0) rfl rfl (Quiet.nilCheck rfl (gpoU rfl ⟨trivial, rfl, rfl⟩)) ?_
  refine OpsW.seg 2 [10, 0] [] [(10, .bool t0.text_.none_), (0, .ref 2020 0 0)] (by kernel_rfl) trivial ?_
  refine OpsW.nil ?_
  refine AW.cond (b := t0.text_.none_) rfl (fun c1 => ?_) (fun c1 => ?_)
  · replace H := condT c1 H
    refine AW.regionSeq ?_
    refine OpsW.seg 2 [3, 2] [] [(3, .bool false), (2, .string (⟨#[]⟩ : ByteArray))] (by kernel_rfl) trivial ?_
    refine OpsW.nil ?_
    obtain rfl := Option.some.inj H
    refine AW.ret ?_
    show ∃ en' hp', StC _ _ en' hp' ∧ Done _ _ _ .ret en' hp'
    refine ⟨[(2, .string (⟨#[]⟩ : ByteArray)), (3, .bool false)], [(2020, ⟨0, true, 91, 3, [.string t0.text_.rest_, .bool t0.text_.none_, .bool t0.wrong_]⟩)], (StC.mk (phi [(2020, some 2020)]) (.old rfl rfl rfl rfl rfl (.cons .im (.cons .im (.cons .im .nil))) .nil) rfl (.cons .im (.cons .im .nil))), ?_⟩
    refine Done.gen rfl (.tmp (.tmp .nil)) ?_
    exact ⟨by kernel_rfl, by kernel_rfl⟩
  · replace H := condF c1 H
    refine AW.skip ?_
    refine AW.regionSeq ?_
    refine OpsW.seg 1 [12, 0] [] [(12, .ref 2020 0 0), (0, .ref 2020 0 0)] (by kernel_rfl) trivial ?_
    refine OpsW.quietU (.ref 2020 0 0) rfl rfl (Quiet.nilCheck rfl (gpoU rfl ⟨trivial, rfl, rfl⟩)) ?_
    refine OpsW.seg 2 [15, 0] [] [(15, .string t0.text_.rest_), (0, .ref 2020 0 0)] (by kernel_rfl) trivial ?_
    obtain ⟨x2, hx2, H⟩ := bindS H
    refine OpsW.qcall rfl (by kernel_rfl) rfl rfl (glAll_sound trivial) (.cons (.pur rfl) (.cons (.pur rfl) .nil)) (f_strings_Cut_ok hx2) rfl ?_
    refine OpsW.seg 7 [6, 5, 4, 0] [] [(6, .bool x2.2.2), (5, .string x2.2.1), (4, .string x2.1), (0, .ref 2020 0 0)] (by kernel_rfl) trivial ?_
    refine OpsW.nil ?_
    refine AW.regionSeq ?_
    refine OpsW.seg 5 [24, 22, 21, 20, 4] [] [(24, .bool (!x2.2.2)), (22, .string x2.2.1), (21, .ref 2020 0 0), (20, .ref 2020 0 0), (4, .string x2.1)] (by kernel_rfl) trivial ?_
    refine OpsW.quietU (.ref 2020 0 0) rfl rfl (Quiet.nilCheck rfl (gpoU rfl ⟨trivial, rfl, rfl⟩)) ?_
    refine OpsW.seg 1 [26, 24, 22, 21, 4] [] [(26, .ref 2020 0 0), (24, .bool (!x2.2.2)), (22, .string x2.2.1), (21, .ref 2020 0 0), (4, .string x2.1)] (by kernel_rfl) trivial ?_
    refine OpsW.store rfl rfl rfl rfl trivial trivial rfl rfl rfl (by kernel_rfl) (okCb_sound (by kernel_rfl)) (Nat.le_of_ble_eq_true (by kernel_rfl)) ?_
    change OpsW _ _ _ _ _ [(2020, ⟨0, true, 91, 3, [.string x2.2.1, .bool t0.text_.none_, .bool t0.wrong_]⟩), (2020, ⟨0, true, 91, 3, [.string t0.text_.rest_, .bool t0.text_.none_, .bool t0.wrong_]⟩)] _
    refine OpsW.quietU (.ref 2020 0 0) rfl rfl (Quiet.nilCheck rfl (gpoU rfl ⟨trivial, rfl, rfl⟩)) ?_
    refine OpsW.seg 1 [28, 24, 4] [] [(28, .ref 2020 0 1), (24, .bool (!x2.2.2)), (4, .string x2.1)] (by kernel_rfl) trivial ?_
    refine OpsW.store rfl rfl rfl rfl trivial trivial rfl rfl rfl (by kernel_rfl) (okCb_sound (by kernel_rfl)) (Nat.le_of_ble_eq_true (by kernel_rfl)) ?_
    change OpsW _ _ _ _ _ [(2020, ⟨0, true, 91, 3, [.string x2.2.1, .bool (!x2.2.2), .bool t0.wrong_]⟩), (2020, ⟨0, true, 91, 3, [.string x2.2.1, .bool t0.text_.none_, .bool t0.wrong_]⟩), (2020, ⟨0, true, 91, 3, [.string t0.text_.rest_, .bool t0.text_.none_, .bool t0.wrong_]⟩)] _
    refine OpsW.seg 0 [4] [] [(4, .string x2.1)] (by kernel_rfl) trivial ?_
    refine OpsW.recast (env' := [(4, .string x2.1)]) (h' := [(2020, ⟨0, true, 91, 3, [.string x2.2.1, .bool (!x2.2.2), .bool t0.wrong_]⟩)]) (StC.mk (phi [(2020, some 2020)]) (.old rfl rfl rfl rfl rfl (.cons .im (.cons .im (.cons .im .nil))) .nil) rfl (.cons .im .nil)) ?_
    refine OpsW.nil ?_
    refine AW.regionSeq ?_
    refine OpsW.seg 3 [3, 2] [] [(3, .bool true), (2, .string x2.1)] (by kernel_rfl) trivial ?_
    refine OpsW.nil ?_
    obtain rfl := Option.some.inj H
    refine AW.ret ?_
    show ∃ en' hp', StC _ _ en' hp' ∧ Done _ _ _ .ret en' hp'
    refine ⟨[(2, .string x2.1), (3, .bool true)], [(2020, ⟨0, true, 91, 3, [.string x2.2.1, .bool (!x2.2.2), .bool t0.wrong_]⟩)], (StC.mk (phi [(2020, some 2020)]) (.old rfl rfl rfl rfl rfl (.cons .im (.cons .im (.cons .im .nil))) .nil) rfl (.cons .im (.cons .im .nil))), ?_⟩
    refine Done.gen rfl (.tmp (.tmp .nil)) ?_
    exact ⟨by kernel_rfl, by kernel_rfl⟩
def f_table_fields_word (t0 : S_fields) (t1 : ByteArray) : Option S_fields :=
  (f_table_text_next_91_0 t0).bind fun x1 =>
  cond (cond (!x1.2.1) true (!(x1.1.toList == t1.toList))) (
    some (⟨x1.2.2.text_, true⟩ : S_fields)) (
    some x1.2.2)
theorem f_table_fields_word_io  {t0 : S_fields} {t1 : ByteArray} {r : S_fields} (H : f_table_fields_word t0 t1 = some r) : Abs.Spec Tryd.prog 61 [.ref 2020 0 0, .string t1] [(2020, ⟨0, true, 91, 3, [.string t0.text_.rest_, .bool t0.text_.none_, .bool t0.wrong_]⟩)] (fun x h => x = .tup [] ∧ h = [(2020, ⟨0, true, 91, 3, [.string r.text_.rest_, .bool r.text_.none_, .bool r.wrong_]⟩)]) := by
  refine Spec.of_AW Tryd.func61 rfl (by simp [Tryd.ntmps61]) ?_
  rw [Tryd.ntmps61]
  unfold f_table_fields_word at H
  change AW _ _ _ [(0, .ref 2020 0 0), (1, .string t1)] [(2020, ⟨0, true, 91, 3, [.string t0.text_.rest_, .bool t0.text_.none_, .bool t0.wrong_]⟩)] _
  refine AW.endcast ?_
  refine AW.regionSeq ?_
  refine OpsW.seg 1 [7, 0, 1] [] [(7, .ref 2020 0 0), (0, .ref 2020 0 0), (1, .string t1)] (by kernel_rfl) trivial ?_
  refine OpsW.quietU (.ref 2020 0 0) rfl rfl (Quiet.nilCheck rfl (gpoU rfl ⟨trivial, rfl, rfl⟩)) ?_
  refine OpsW.seg 1 [9, 0, 1] [] [(9, .ref 2020 0 0), (0, .ref 2020 0 0), (1, .string t1)] (by kernel_rfl) trivial ?_
  refine OpsW.recast (env' := [(9, .ref 2020 0 0), (0, .ref 2020 0 0), (1, .string t1)]) (h' := [(2020, ⟨0, true, 91, 3, [.string t0.text_.rest_, .bool t0.text_.none_, .bool t0.wrong_]⟩)]) (StC.mk (phi [(2020, some 2020)]) (.old rfl rfl rfl rfl rfl (.cons .im (.cons .im (.cons .im .nil))) .nil) rfl (.cons (.ref rfl rfl rfl rfl rfl) (.cons (.ref rfl rfl rfl rfl rfl) (.cons .im .nil)))) ?_
  obtain ⟨x1, hx1, H⟩ := bindS H
  change OpsW _ _ _ _ [(9, .ref 2020 0 0), (0, .ref 2020 0 0), (1, .string t1)] ([(2020, ⟨0, true, 91, 3, [.string t0.text_.rest_, .bool t0.text_.none_, .bool t0.wrong_]⟩)] ++ []) _
  refine OpsW.callR [(2020, ⟨0, true, 91, 3, [.string t0.text_.rest_, .bool t0.text_.none_, .bool t0.wrong_]⟩)] [] [(2020, ⟨0, true, 91, 3, [.string t0.text_.rest_, .bool t0.text_.none_, .bool t0.wrong_]⟩)] (phi [(2020, some 2020)]) rfl rfl (by kernel_rfl) [.ref 2020 0 0] _ rfl (glAll_sound trivial) (.cons (.ref rfl rfl rfl rfl rfl) .nil) (f_table_text_next_91_0_io hx1) (fresh_of (by kernel_rfl)) (by kernel_rfl) (.cons rfl rfl rfl rfl rfl (.cons .im (.cons .im (.cons .im .nil))) .nil) ?_
  rintro _ _ ⟨rfl, rfl⟩
  refine ⟨.tup [.string x1.1, .bool x1.2.1], [(2020, ⟨0, true, 91, 3, [.string x1.2.2.text_.rest_, .bool x1.2.2.text_.none_, .bool x1.2.2.wrong_]⟩)], phi [(2020, some 2020)], fresh_of (by kernel_rfl), by kernel_rfl, by kernel_rfl, (.cons rfl rfl rfl rfl rfl (.cons .im (.cons .im (.cons .im .nil))) .nil), (.tup (.cons .im (.cons .im .nil)) .nil), ?_⟩
  change OpsW _ _ _ _ [(10, .tup [.string x1.1, .bool x1.2.1]), (9, .ref 2020 0 0), (0, .ref 2020 0 0), (1, .string t1)] [(2020, ⟨0, true, 91, 3, [.string x1.2.2.text_.rest_, .bool x1.2.2.text_.none_, .bool x1.2.2.wrong_]⟩)] _
  refine OpsW.seg 5 [5, 4, 0, 1] [] [(5, .bool x1.2.1), (4, .string x1.1), (0, .ref 2020 0 0), (1, .string t1)] (by kernel_rfl) trivial ?_
  refine OpsW.recast (env' := [(5, .bool x1.2.1), (4, .string x1.1), (0, .ref 2020 0 0), (1, .string t1)]) (h' := [(2020, ⟨0, true, 91, 3, [.string x1.2.2.text_.rest_, .bool x1.2.2.text_.none_, .bool x1.2.2.wrong_]⟩)]) (StC.mk (phi [(2020, some 2020)]) (.old rfl rfl rfl rfl rfl (.cons .im (.cons .im (.cons .im .nil))) .nil) rfl (.cons .im (.cons .im (.cons (.ref rfl rfl rfl rfl rfl) (.cons .im .nil))))) ?_
  refine OpsW.nil ?_
  refine AW.regionSeq ?_
  refine OpsW.seg 7 [19, 0] [(!(!x1.2.1)) = true → (!(!x1.2.1)) = true, (!(!x1.2.1)) = true → (!(!x1.2.1)) = true, (!x1.2.1) = false → (!(!x1.2.1)) = true] [(19, .bool (cond (!x1.2.1) true (!(x1.1.toList == t1.toList)))), (0, .ref 2020 0 0)] (by kernel_rfl) ⟨(fun h => h), (fun h => h), (fun h => by first | exact h | simpa using h), trivial⟩ ?_
  refine OpsW.nil ?_
  refine AW.cond (b := cond (!x1.2.1) true (!(x1.1.toList == t1.toList))) rfl (fun c2 => ?_) (fun c2 => ?_)
  · replace H := condT c2 H
    refine AW.region ?_
    refine OpsW.seg 1 [20] [] [(20, .ref 2020 0 0)] (by kernel_rfl) trivial ?_
    refine OpsW.quietU (.ref 2020 0 0) rfl rfl (Quiet.nilCheck rfl (gpoU rfl ⟨trivial, rfl, rfl⟩)) ?_
    refine OpsW.seg 1 [22] [] [(22, .ref 2020 0 2)] (by kernel_rfl) trivial ?_
    refine OpsW.store rfl rfl rfl rfl trivial trivial rfl rfl rfl (by kernel_rfl) (okCb_sound (by kernel_rfl)) (Nat.le_of_ble_eq_true (by kernel_rfl)) ?_
    change OpsW _ _ _ _ _ [(2020, ⟨0, true, 91, 3, [.string x1.2.2.text_.rest_, .bool x1.2.2.text_.none_, .bool true]⟩), (2020, ⟨0, true, 91, 3, [.string x1.2.2.text_.rest_, .bool x1.2.2.text_.none_, .bool x1.2.2.wrong_]⟩)] _
    refine OpsW.seg 0 [] [] [] (by kernel_rfl) trivial ?_
    refine OpsW.recast (env' := []) (h' := [(2020, ⟨0, true, 91, 3, [.string x1.2.2.text_.rest_, .bool x1.2.2.text_.none_, .bool true]⟩)]) (StC.mk (phi [(2020, some 2020)]) (.old rfl rfl rfl rfl rfl (.cons .im (.cons .im (.cons .im .nil))) .nil) rfl .nil) ?_
    refine OpsW.nil ?_
    obtain rfl := Option.some.inj H
    show ∃ en' hp', StC _ _ en' hp' ∧ Done _ _ _ .normal en' hp'
    refine ⟨[], [(2020, ⟨0, true, 91, 3, [.string x1.2.2.text_.rest_, .bool x1.2.2.text_.none_, .bool true]⟩)], (StC.mk (phi [(2020, some 2020)]) (.old rfl rfl rfl rfl rfl (.cons .im (.cons .im (.cons .im .nil))) .nil) rfl .nil), ?_⟩
    refine Done.genN rfl .nil ?_
    exact ⟨by kernel_rfl, by kernel_rfl⟩
  · replace H := condF c2 H
    refine AW.skip ?_
    obtain rfl := Option.some.inj H
    show ∃ en' hp', StC _ _ en' hp' ∧ Done _ _ _ .normal en' hp'
    refine ⟨[], [(2020, ⟨0, true, 91, 3, [.string x1.2.2.text_.rest_, .bool x1.2.2.text_.none_, .bool x1.2.2.wrong_]⟩)], (StC.mk (phi [(2020, some 2020)]) (.old rfl rfl rfl rfl rfl (.cons .im (.cons .im (.cons .im .nil))) .nil) rfl .nil), ?_⟩
    refine Done.genN rfl .nil ?_
    exact ⟨by kernel_rfl, by kernel_rfl⟩
def f_table_fields_number_b1 (t1 : Int) (x1 : ByteArray × Bool × S_fields) (loop7 : (S_fields × Int × Int) → Option (Int × S_fields)) (v4 : S_fields) (v5 : Int) (v6 : Int) : Option (Int × S_fields) :=
  cond (decide (v6 < (x1.1.size : Int))) (
    G (0 ≤ v6 ∧ v6 < (x1.1.size : Int)) <|
    cond (cond (decide ((bAt x1.1 v6) < (48 : Int))) true (decide ((57 : Int) < (bAt x1.1 v6)))) (
      some ((0 : Int), (⟨v4.text_, true⟩ : S_fields))) (
      G (inR ((10 : Int) * v5)) <|
      G (inR (((10 : Int) * v5) + (IntKind.wrap .i64 (IntKind.wrap .u8 ((bAt x1.1 v6) - (48 : Int)))))) <|
      G (inR (v6 + (1 : Int))) <|
      loop7 (v4, ((10 : Int) * v5) + (IntKind.wrap .i64 (IntKind.wrap .u8 ((bAt x1.1 v6) - (48 : Int)))), v6 + (1 : Int)))) (
    cond (decide (t1 < v5)) (
      some ((0 : Int), (⟨v4.text_, true⟩ : S_fields))) (
      some (v5, v4)))
def f_table_fields_number (t0 : S_fields) (t1 : Int) : Option (Int × S_fields) :=
  (f_table_text_next_91_0 t0).bind fun x1 =>
  G (((!(cond (cond (!x1.2.1) true (decide ((x1.1.size : Int) < (1 : Int)))) true (decide ((3 : Int) < (x1.1.size : Int))))) && (decide ((1 : Int) < (x1.1.size : Int)))) = true → (0 ≤ (0 : Int) ∧ (0 : Int) < (x1.1.size : Int))) <|
  cond (cond (cond (cond (!x1.2.1) true (decide ((x1.1.size : Int) < (1 : Int)))) true (decide ((3 : Int) < (x1.1.size : Int)))) true (cond (decide ((1 : Int) < (x1.1.size : Int))) ((bAt x1.1 (0 : Int)) == (48 : Int)) false)) (
    some ((0 : Int), (⟨x1.2.2.text_, true⟩ : S_fields))) (
    iter (fun loop (s : S_fields × Int × Int) => f_table_fields_number_b1 t1 x1 loop s.1 s.2.1 s.2.2) 1000000 (x1.2.2, (0 : Int), (0 : Int)))
theorem f_table_fields_number_io  {t0 : S_fields} {t1 : Int} {r : Int × S_fields} (H : f_table_fields_number t0 t1 = some r) : Abs.Spec Tryd.prog 57 [.ref 2020 0 0, .int .i64 t1] [(2020, ⟨0, true, 91, 3, [.string t0.text_.rest_, .bool t0.text_.none_, .bool t0.wrong_]⟩)] (fun x h => x = .int .i64 r.1 ∧ h = [(2020, ⟨0, true, 91, 3, [.string r.2.text_.rest_, .bool r.2.text_.none_, .bool r.2.wrong_]⟩)]) := by
  refine Spec.of_AW Tryd.func57 rfl (by simp [Tryd.ntmps57]) ?_
  rw [Tryd.ntmps57]
  unfold f_table_fields_number at H
  change AW _ _ _ [(0, .ref 2020 0 0), (1, .int .i64 t1)] [(2020, ⟨0, true, 91, 3, [.string t0.text_.rest_, .bool t0.text_.none_, .bool t0.wrong_]⟩)] _
  refine AW.endcast ?_
  refine AW.regionSeq ?_
  refine OpsW.seg 1 [0, 1] [] [(0, .ref 2020 0 0), (1, .int .i64 t1)] (by kernel_rfl) trivial ?_
  refine OpsW.nil ?_
  refine AW.regionSeq ?_
  refine OpsW.seg 1 [10, 0, 1] [] [(10, .ref 2020 0 0), (0, .ref 2020 0 0), (1, .int .i64 t1)] (by kernel_rfl) trivial ?_
  refine OpsW.quietU (.ref 2020 0 0) rfl rfl (Quiet.nilCheck rfl (gpoU rfl ⟨trivial, rfl, rfl⟩)) ?_
  refine OpsW.seg 1 [12, 0, 1] [] [(12, .ref 2020 0 0), (0, .ref 2020 0 0), (1, .int .i64 t1)] (by kernel_rfl) trivial ?_
  refine OpsW.recast (env' := [(12, .ref 2020 0 0), (0, .ref 2020 0 0), (1, .int .i64 t1)]) (h' := [(2020, ⟨0, true, 91, 3, [.string t0.text_.rest_, .bool t0.text_.none_, .bool t0.wrong_]⟩)]) (StC.mk (phi [(2020, some 2020)]) (.old rfl rfl rfl rfl rfl (.cons .im (.cons .im (.cons .im .nil))) .nil) rfl (.cons (.ref rfl rfl rfl rfl rfl) (.cons (.ref rfl rfl rfl rfl rfl) (.cons .im .nil)))) ?_
  obtain ⟨x1, hx1, H⟩ := bindS H
  change OpsW _ _ _ _ [(12, .ref 2020 0 0), (0, .ref 2020 0 0), (1, .int .i64 t1)] ([(2020, ⟨0, true, 91, 3, [.string t0.text_.rest_, .bool t0.text_.none_, .bool t0.wrong_]⟩)] ++ []) _
  refine OpsW.callR [(2020, ⟨0, true, 91, 3, [.string t0.text_.rest_, .bool t0.text_.none_, .bool t0.wrong_]⟩)] [] [(2020, ⟨0, true, 91, 3, [.string t0.text_.rest_, .bool t0.text_.none_, .bool t0.wrong_]⟩)] (phi [(2020, some 2020)]) rfl rfl (by kernel_rfl) [.ref 2020 0 0] _ rfl (glAll_sound trivial) (.cons (.ref rfl rfl rfl rfl rfl) .nil) (f_table_text_next_91_0_io hx1) (fresh_of (by kernel_rfl)) (by kernel_rfl) (.cons rfl rfl rfl rfl rfl (.cons .im (.cons .im (.cons .im .nil))) .nil) ?_
  rintro _ _ ⟨rfl, rfl⟩
  refine ⟨.tup [.string x1.1, .bool x1.2.1], [(2020, ⟨0, true, 91, 3, [.string x1.2.2.text_.rest_, .bool x1.2.2.text_.none_, .bool x1.2.2.wrong_]⟩)], phi [(2020, some 2020)], fresh_of (by kernel_rfl), by kernel_rfl, by kernel_rfl, (.cons rfl rfl rfl rfl rfl (.cons .im (.cons .im (.cons .im .nil))) .nil), (.tup (.cons .im (.cons .im .nil)) .nil), ?_⟩
  change OpsW _ _ _ _ [(13, .tup [.string x1.1, .bool x1.2.1]), (12, .ref 2020 0 0), (0, .ref 2020 0 0), (1, .int .i64 t1)] [(2020, ⟨0, true, 91, 3, [.string x1.2.2.text_.rest_, .bool x1.2.2.text_.none_, .bool x1.2.2.wrong_]⟩)] _
  refine OpsW.seg 5 [6, 5, 0, 1] [] [(6, .bool x1.2.1), (5, .string x1.1), (0, .ref 2020 0 0), (1, .int .i64 t1)] (by kernel_rfl) trivial ?_
  refine OpsW.recast (env' := [(6, .bool x1.2.1), (5, .string x1.1), (0, .ref 2020 0 0), (1, .int .i64 t1)]) (h' := [(2020, ⟨0, true, 91, 3, [.string x1.2.2.text_.rest_, .bool x1.2.2.text_.none_, .bool x1.2.2.wrong_]⟩)]) (StC.mk (phi [(2020, some 2020)]) (.old rfl rfl rfl rfl rfl (.cons .im (.cons .im (.cons .im .nil))) .nil) rfl (.cons .im (.cons .im (.cons (.ref rfl rfl rfl rfl rfl) (.cons .im .nil))))) ?_
  refine OpsW.nil ?_
  refine AW.seq ?_
  refine AW.regionSeq ?_
  obtain ⟨g2, H⟩ := G_some H
  refine OpsW.seg 22 [37, 5, 0, 1] [(!(!x1.2.1)) = true → (!(!x1.2.1)) = true, (!(!x1.2.1)) = true → (!(!x1.2.1)) = true, (!x1.2.1) = false → (!(!x1.2.1)) = true, (!(cond (!x1.2.1) true (decide ((x1.1.size : Int) < (1 : Int))))) = true → (!(cond (!x1.2.1) true (decide ((x1.1.size : Int) < (1 : Int))))) = true, (!(cond (!x1.2.1) true (decide ((x1.1.size : Int) < (1 : Int))))) = true → (!(cond (!x1.2.1) true (decide ((x1.1.size : Int) < (1 : Int))))) = true, (cond (!x1.2.1) true (decide ((x1.1.size : Int) < (1 : Int)))) = false → (!(cond (!x1.2.1) true (decide ((x1.1.size : Int) < (1 : Int))))) = true, (!(cond (cond (!x1.2.1) true (decide ((x1.1.size : Int) < (1 : Int)))) true (decide ((3 : Int) < (x1.1.size : Int))))) = true → (!(cond (cond (!x1.2.1) true (decide ((x1.1.size : Int) < (1 : Int)))) true (decide ((3 : Int) < (x1.1.size : Int))))) = true, (!(cond (cond (!x1.2.1) true (decide ((x1.1.size : Int) < (1 : Int)))) true (decide ((3 : Int) < (x1.1.size : Int))))) = true → (!(cond (cond (!x1.2.1) true (decide ((x1.1.size : Int) < (1 : Int)))) true (decide ((3 : Int) < (x1.1.size : Int))))) = true, (!(cond (cond (!x1.2.1) true (decide ((x1.1.size : Int) < (1 : Int)))) true (decide ((3 : Int) < (x1.1.size : Int))))) = true → (!(cond (cond (!x1.2.1) true (decide ((x1.1.size : Int) < (1 : Int)))) true (decide ((3 : Int) < (x1.1.size : Int))))) = true, ((!(cond (cond (!x1.2.1) true (decide ((x1.1.size : Int) < (1 : Int)))) true (decide ((3 : Int) < (x1.1.size : Int))))) && (decide ((1 : Int) < (x1.1.size : Int)))) = true → ((!(cond (cond (!x1.2.1) true (decide ((x1.1.size : Int) < (1 : Int)))) true (decide ((3 : Int) < (x1.1.size : Int))))) && (decide ((1 : Int) < (x1.1.size : Int)))) = true, ((!(cond (cond (!x1.2.1) true (decide ((x1.1.size : Int) < (1 : Int)))) true (decide ((3 : Int) < (x1.1.size : Int))))) && (decide ((1 : Int) < (x1.1.size : Int)))) = true → (0 ≤ (0 : Int) ∧ (0 : Int) < (x1.1.size : Int)), ((!(cond (cond (!x1.2.1) true (decide ((x1.1.size : Int) < (1 : Int)))) true (decide ((3 : Int) < (x1.1.size : Int))))) && (decide ((1 : Int) < (x1.1.size : Int)))) = true → ((!(cond (cond (!x1.2.1) true (decide ((x1.1.size : Int) < (1 : Int)))) true (decide ((3 : Int) < (x1.1.size : Int))))) && (decide ((1 : Int) < (x1.1.size : Int)))) = true, (!(cond (cond (!x1.2.1) true (decide ((x1.1.size : Int) < (1 : Int)))) true (decide ((3 : Int) < (x1.1.size : Int))))) = true → (!(cond (cond (!x1.2.1) true (decide ((x1.1.size : Int) < (1 : Int)))) true (decide ((3 : Int) < (x1.1.size : Int))))) = true, (!(cond (cond (!x1.2.1) true (decide ((x1.1.size : Int) < (1 : Int)))) true (decide ((3 : Int) < (x1.1.size : Int))))) = true → ((decide ((1 : Int) < (x1.1.size : Int))) = true → ((!(cond (cond (!x1.2.1) true (decide ((x1.1.size : Int) < (1 : Int)))) true (decide ((3 : Int) < (x1.1.size : Int))))) && (decide ((1 : Int) < (x1.1.size : Int)))) = true), (cond (cond (!x1.2.1) true (decide ((x1.1.size : Int) < (1 : Int)))) true (decide ((3 : Int) < (x1.1.size : Int)))) = false → (!(cond (cond (!x1.2.1) true (decide ((x1.1.size : Int) < (1 : Int)))) true (decide ((3 : Int) < (x1.1.size : Int))))) = true] [(37, .bool (cond (cond (cond (!x1.2.1) true (decide ((x1.1.size : Int) < (1 : Int)))) true (decide ((3 : Int) < (x1.1.size : Int)))) true (cond (decide ((1 : Int) < (x1.1.size : Int))) ((bAt x1.1 (0 : Int)) == (48 : Int)) false))), (5, .string x1.1), (0, .ref 2020 0 0), (1, .int .i64 t1)] (by kernel_rfl) ⟨(fun h => h), (fun h => h), (fun h => by first | exact h | simpa using h), (fun h => h), (fun h => h), (fun h => by first | exact h | simpa using h), (fun h => h), (fun h => h), (fun h => h), (fun h => h), g2, (fun h => h), (fun h => h), (fun h0 h => by first | exact h | (simp [h0, h]; done) | (simp at h0 h ⊢; simp [h0, h]; done) | (simp_all; done)), (fun h => by first | exact h | simpa using h), trivial⟩ ?_
  refine OpsW.nil ?_
  refine AW.cond (b := cond (cond (cond (!x1.2.1) true (decide ((x1.1.size : Int) < (1 : Int)))) true (decide ((3 : Int) < (x1.1.size : Int)))) true (cond (decide ((1 : Int) < (x1.1.size : Int))) ((bAt x1.1 (0 : Int)) == (48 : Int)) false)) rfl (fun c3 => ?_) (fun c3 => ?_)
  · replace H := condT c3 H
    refine AW.regionSeq ?_
    refine OpsW.seg 1 [38] [] [(38, .ref 2020 0 0)] (by kernel_rfl) trivial ?_
    refine OpsW.quietU (.ref 2020 0 0) rfl rfl (Quiet.nilCheck rfl (gpoU rfl ⟨trivial, rfl, rfl⟩)) ?_
    refine OpsW.seg 1 [40] [] [(40, .ref 2020 0 2)] (by kernel_rfl) trivial ?_
    refine OpsW.store rfl rfl rfl rfl trivial trivial rfl rfl rfl (by kernel_rfl) (okCb_sound (by kernel_rfl)) (Nat.le_of_ble_eq_true (by kernel_rfl)) ?_
    change OpsW _ _ _ _ _ [(2020, ⟨0, true, 91, 3, [.string x1.2.2.text_.rest_, .bool x1.2.2.text_.none_, .bool true]⟩), (2020, ⟨0, true, 91, 3, [.string x1.2.2.text_.rest_, .bool x1.2.2.text_.none_, .bool x1.2.2.wrong_]⟩)] _
    refine OpsW.seg 0 [] [] [] (by kernel_rfl) trivial ?_
    refine OpsW.recast (env' := []) (h' := [(2020, ⟨0, true, 91, 3, [.string x1.2.2.text_.rest_, .bool x1.2.2.text_.none_, .bool true]⟩)]) (StC.mk (phi [(2020, some 2020)]) (.old rfl rfl rfl rfl rfl (.cons .im (.cons .im (.cons .im .nil))) .nil) rfl .nil) ?_
    refine OpsW.nil ?_
    refine AW.regionSeq ?_
    refine OpsW.seg 1 [4] [] [(4, .int .i64 0)] (by kernel_rfl) trivial ?_
    refine OpsW.nil ?_
    obtain rfl := Option.some.inj H
    refine AW.ret ?_
    show ∃ en' hp', StC _ _ en' hp' ∧ Done _ _ _ .ret en' hp'
    refine ⟨[(4, .int .i64 0)], [(2020, ⟨0, true, 91, 3, [.string x1.2.2.text_.rest_, .bool x1.2.2.text_.none_, .bool true]⟩)], (StC.mk (phi [(2020, some 2020)]) (.old rfl rfl rfl rfl rfl (.cons .im (.cons .im (.cons .im .nil))) .nil) rfl (.cons .im .nil)), ?_⟩
    refine Done.gen rfl (.tmp .nil) ?_
    exact ⟨by kernel_rfl, by kernel_rfl⟩
  · replace H := condF c3 H
    refine AW.skip ?_
    refine AW.regionSeq ?_
    refine OpsW.seg 1 [7, 5, 0, 1] [] [(7, .int .i64 0), (5, .string x1.1), (0, .ref 2020 0 0), (1, .int .i64 t1)] (by kernel_rfl) trivial ?_
    refine OpsW.nil ?_
    refine AW.seq ?_
    refine AW.regionSeq ?_
    refine OpsW.seg 3 [43, 42, 7, 5, 0, 1] [] [(43, .int .i64 0), (42, .int .i64 (x1.1.size : Int)), (7, .int .i64 0), (5, .string x1.1), (0, .ref 2020 0 0), (1, .int .i64 t1)] (by kernel_rfl) trivial ?_
    refine OpsW.nil ?_
    refine AW.block ?_
    refine AW.iterK (fun loop (s : S_fields × Int × Int) => f_table_fields_number_b1 t1 x1 loop s.1 s.2.1 s.2.2) r (fun (s : S_fields × Int × Int) => [(0, .ref 2020 0 0), (1, .int .i64 t1), (5, .string x1.1), (7, .int .i64 s.2.1), (42, .int .i64 (x1.1.size : Int)), (43, .int .i64 s.2.2)]) (fun (s : S_fields × Int × Int) => [(2020, ⟨0, true, 91, 3, [.string s.1.text_.rest_, .bool s.1.text_.none_, .bool s.1.wrong_]⟩)]) ?_ 1000000 (x1.2.2, (0 : Int), (0 : Int)) H (StC.mk (phi [(2020, some 2020)]) (.old rfl rfl rfl rfl rfl (.cons .im (.cons .im (.cons .im .nil))) .nil) rfl (.cons (.ref rfl rfl rfl rfl rfl) (.cons .im (.cons .im (.cons .im (.cons .im (.cons .im .nil)))))))
    intro loop7 s H
    obtain ⟨v4, v5, v6⟩ := s
    change f_table_fields_number_b1 t1 x1 loop7 v4 v5 v6 = some r at H
    unfold f_table_fields_number_b1 at H
    change AW _ _ _ [(0, .ref 2020 0 0), (1, .int .i64 t1), (5, .string x1.1), (7, .int .i64 v5), (42, .int .i64 (x1.1.size : Int)), (43, .int .i64 v6)] [(2020, ⟨0, true, 91, 3, [.string v4.text_.rest_, .bool v4.text_.none_, .bool v4.wrong_]⟩)] _
    refine AW.regionSeq ?_
    refine OpsW.seg 1 [44, 0, 1, 5, 7, 42, 43] [] [(44, .bool (decide (v6 < (x1.1.size : Int)))), (0, .ref 2020 0 0), (1, .int .i64 t1), (5, .string x1.1), (7, .int .i64 v5), (42, .int .i64 (x1.1.size : Int)), (43, .int .i64 v6)] (by kernel_rfl) trivial ?_
    refine OpsW.nil ?_
    refine AW.seq ?_
    refine AW.cond (b := decide (v6 < (x1.1.size : Int))) rfl (fun c8 => ?_) (fun c8 => ?_)
    · replace H := condT c8 H
      refine AW.skip ?_
      refine AW.seq ?_
      refine AW.block ?_
      refine AW.regionSeq ?_
      refine OpsW.seg 2 [8, 0, 1, 5, 7, 42, 43] [] [(8, .int .i64 v6), (0, .ref 2020 0 0), (1, .int .i64 t1), (5, .string x1.1), (7, .int .i64 v5), (42, .int .i64 (x1.1.size : Int)), (43, .int .i64 v6)] (by kernel_rfl) trivial ?_
      refine OpsW.nil ?_
      refine AW.seq ?_
      refine AW.regionSeq ?_
      obtain ⟨g9, H⟩ := G_some H
      refine OpsW.seg 10 [55, 8, 0, 1, 5, 7, 42, 43] [0 ≤ v6 ∧ v6 < (x1.1.size : Int), (!(decide ((bAt x1.1 v6) < (48 : Int)))) = true → (!(decide ((bAt x1.1 v6) < (48 : Int)))) = true, (!(decide ((bAt x1.1 v6) < (48 : Int)))) = true → (!(decide ((bAt x1.1 v6) < (48 : Int)))) = true, (!(decide ((bAt x1.1 v6) < (48 : Int)))) = true → (0 ≤ v6 ∧ v6 < (x1.1.size : Int)), (!(decide ((bAt x1.1 v6) < (48 : Int)))) = true → (!(decide ((bAt x1.1 v6) < (48 : Int)))) = true, (decide ((bAt x1.1 v6) < (48 : Int))) = false → (!(decide ((bAt x1.1 v6) < (48 : Int)))) = true] [(55, .bool (cond (decide ((bAt x1.1 v6) < (48 : Int))) true (decide ((57 : Int) < (bAt x1.1 v6))))), (8, .int .i64 v6), (0, .ref 2020 0 0), (1, .int .i64 t1), (5, .string x1.1), (7, .int .i64 v5), (42, .int .i64 (x1.1.size : Int)), (43, .int .i64 v6)] (by kernel_rfl) ⟨g9, (fun h => h), (fun h => h), (fun _ => g9), (fun h => h), (fun h => by first | exact h | simpa using h), trivial⟩ ?_
      refine OpsW.nil ?_
      refine AW.cond (b := cond (decide ((bAt x1.1 v6) < (48 : Int))) true (decide ((57 : Int) < (bAt x1.1 v6)))) rfl (fun c10 => ?_) (fun c10 => ?_)
      · replace H := condT c10 H
        refine AW.regionSeq ?_
        refine OpsW.seg 1 [56] [] [(56, .ref 2020 0 0)] (by kernel_rfl) trivial ?_
        refine OpsW.quietU (.ref 2020 0 0) rfl rfl (Quiet.nilCheck rfl (gpoU rfl ⟨trivial, rfl, rfl⟩)) ?_
        refine OpsW.seg 1 [58] [] [(58, .ref 2020 0 2)] (by kernel_rfl) trivial ?_
        refine OpsW.store rfl rfl rfl rfl trivial trivial rfl rfl rfl (by kernel_rfl) (okCb_sound (by kernel_rfl)) (Nat.le_of_ble_eq_true (by kernel_rfl)) ?_
        change OpsW _ _ _ _ _ [(2020, ⟨0, true, 91, 3, [.string v4.text_.rest_, .bool v4.text_.none_, .bool true]⟩), (2020, ⟨0, true, 91, 3, [.string v4.text_.rest_, .bool v4.text_.none_, .bool v4.wrong_]⟩)] _
        refine OpsW.seg 0 [] [] [] (by kernel_rfl) trivial ?_
        refine OpsW.recast (env' := []) (h' := [(2020, ⟨0, true, 91, 3, [.string v4.text_.rest_, .bool v4.text_.none_, .bool true]⟩)]) (StC.mk (phi [(2020, some 2020)]) (.old rfl rfl rfl rfl rfl (.cons .im (.cons .im (.cons .im .nil))) .nil) rfl .nil) ?_
        refine OpsW.nil ?_
        refine AW.regionSeq ?_
        refine OpsW.seg 1 [4] [] [(4, .int .i64 0)] (by kernel_rfl) trivial ?_
        refine OpsW.nil ?_
        obtain rfl := Option.some.inj H
        refine AW.ret ?_
        show ∃ en' hp', StC _ _ en' hp' ∧ Done _ _ _ .ret en' hp'
        refine ⟨[(4, .int .i64 0)], [(2020, ⟨0, true, 91, 3, [.string v4.text_.rest_, .bool v4.text_.none_, .bool true]⟩)], (StC.mk (phi [(2020, some 2020)]) (.old rfl rfl rfl rfl rfl (.cons .im (.cons .im (.cons .im .nil))) .nil) rfl (.cons .im .nil)), ?_⟩
        refine Done.gen rfl (.tmp .nil) ?_
        exact ⟨by kernel_rfl, by kernel_rfl⟩
      · replace H := condF c10 H
        refine AW.skip ?_
        refine AW.region ?_
        obtain ⟨g11, H⟩ := G_some H
        obtain ⟨g12, H⟩ := G_some H
        refine OpsW.seg 9 [7, 0, 1, 5, 42, 43] [inR ((10 : Int) * v5), 0 ≤ v6 ∧ v6 < (x1.1.size : Int), inR (((10 : Int) * v5) + (IntKind.wrap .i64 (IntKind.wrap .u8 ((bAt x1.1 v6) - (48 : Int)))))] [(7, .int .i64 (((10 : Int) * v5) + (IntKind.wrap .i64 (IntKind.wrap .u8 ((bAt x1.1 v6) - (48 : Int)))))), (0, .ref 2020 0 0), (1, .int .i64 t1), (5, .string x1.1), (42, .int .i64 (x1.1.size : Int)), (43, .int .i64 v6)] (by kernel_rfl) ⟨g11, g9, g12, trivial⟩ ?_
        refine OpsW.nil ?_
        refine AW.region ?_
        obtain ⟨g13, H⟩ := G_some H
        refine OpsW.seg 2 [43, 7, 0, 1, 5, 42] [inR (v6 + (1 : Int))] [(43, .int .i64 (v6 + (1 : Int))), (7, .int .i64 (((10 : Int) * v5) + (IntKind.wrap .i64 (IntKind.wrap .u8 ((bAt x1.1 v6) - (48 : Int)))))), (0, .ref 2020 0 0), (1, .int .i64 t1), (5, .string x1.1), (42, .int .i64 (x1.1.size : Int))] (by kernel_rfl) ⟨g13, trivial⟩ ?_
        refine OpsW.nil ?_
        show ∃ y, _ ∧ StC _ _ _ _
        exact ⟨(v4, ((10 : Int) * v5) + (IntKind.wrap .i64 (IntKind.wrap .u8 ((bAt x1.1 v6) - (48 : Int)))), v6 + (1 : Int)), H, (StC.mk (phi [(2020, some 2020)]) (.old rfl rfl rfl rfl rfl (.cons .im (.cons .im (.cons .im .nil))) .nil) rfl (.cons (.ref rfl rfl rfl rfl rfl) (.cons .im (.cons .im (.cons .im (.cons .im (.cons .im .nil)))))))⟩
    · replace H := condF c8 H
      refine AW.exit ?_
      refine AW.seq ?_
      refine AW.regionSeq ?_
      refine OpsW.seg 3 [70, 0, 7] [] [(70, .bool (decide (t1 < v5))), (0, .ref 2020 0 0), (7, .int .i64 v5)] (by kernel_rfl) trivial ?_
      refine OpsW.nil ?_
      refine AW.cond (b := decide (t1 < v5)) rfl (fun c14 => ?_) (fun c14 => ?_)
      · replace H := condT c14 H
        refine AW.regionSeq ?_
        refine OpsW.seg 1 [71] [] [(71, .ref 2020 0 0)] (by kernel_rfl) trivial ?_
        refine OpsW.quietU (.ref 2020 0 0) rfl rfl (Quiet.nilCheck rfl (gpoU rfl ⟨trivial, rfl, rfl⟩)) ?_
        refine OpsW.seg 1 [73] [] [(73, .ref 2020 0 2)] (by kernel_rfl) trivial ?_
        refine OpsW.store rfl rfl rfl rfl trivial trivial rfl rfl rfl (by kernel_rfl) (okCb_sound (by kernel_rfl)) (Nat.le_of_ble_eq_true (by kernel_rfl)) ?_
        change OpsW _ _ _ _ _ [(2020, ⟨0, true, 91, 3, [.string v4.text_.rest_, .bool v4.text_.none_, .bool true]⟩), (2020, ⟨0, true, 91, 3, [.string v4.text_.rest_, .bool v4.text_.none_, .bool v4.wrong_]⟩)] _
        refine OpsW.seg 0 [] [] [] (by kernel_rfl) trivial ?_
        refine OpsW.recast (env' := []) (h' := [(2020, ⟨0, true, 91, 3, [.string v4.text_.rest_, .bool v4.text_.none_, .bool true]⟩)]) (StC.mk (phi [(2020, some 2020)]) (.old rfl rfl rfl rfl rfl (.cons .im (.cons .im (.cons .im .nil))) .nil) rfl .nil) ?_
        refine OpsW.nil ?_
        refine AW.regionSeq ?_
        refine OpsW.seg 1 [4] [] [(4, .int .i64 0)] (by kernel_rfl) trivial ?_
        refine OpsW.nil ?_
        obtain rfl := Option.some.inj H
        refine AW.ret ?_
        show ∃ en' hp', StC _ _ en' hp' ∧ Done _ _ _ .ret en' hp'
        refine ⟨[(4, .int .i64 0)], [(2020, ⟨0, true, 91, 3, [.string v4.text_.rest_, .bool v4.text_.none_, .bool true]⟩)], (StC.mk (phi [(2020, some 2020)]) (.old rfl rfl rfl rfl rfl (.cons .im (.cons .im (.cons .im .nil))) .nil) rfl (.cons .im .nil)), ?_⟩
        refine Done.gen rfl (.tmp .nil) ?_
        exact ⟨by kernel_rfl, by kernel_rfl⟩
      · replace H := condF c14 H
        refine AW.skip ?_
        refine AW.regionSeq ?_
        refine OpsW.seg 2 [4] [] [(4, .int .i64 v5)] (by kernel_rfl) trivial ?_
        refine OpsW.nil ?_
        obtain rfl := Option.some.inj H
        refine AW.ret ?_
        show ∃ en' hp', StC _ _ en' hp' ∧ Done _ _ _ .ret en' hp'
        refine ⟨[(4, .int .i64 v5)], [(2020, ⟨0, true, 91, 3, [.string v4.text_.rest_, .bool v4.text_.none_, .bool v4.wrong_]⟩)], (StC.mk (phi [(2020, some 2020)]) (.old rfl rfl rfl rfl rfl (.cons .im (.cons .im (.cons .im .nil))) .nil) rfl (.cons .im .nil)), ?_⟩
        refine Done.gen rfl (.tmp .nil) ?_
        exact ⟨by kernel_rfl, by kernel_rfl⟩
def f_table_fields_right (t0 : S_fields) : Option (Bool × S_fields) :=
  some (cond (!t0.wrong_) t0.text_.none_ false, t0)
theorem f_table_fields_right_io  {t0 : S_fields} {r : Bool × S_fields} (H : f_table_fields_right t0 = some r) : Abs.Spec Tryd.prog 60 [.ref 2020 0 0] [(2020, ⟨0, true, 91, 3, [.string t0.text_.rest_, .bool t0.text_.none_, .bool t0.wrong_]⟩)] (fun x h => x = .bool r.1 ∧ h = [(2020, ⟨0, true, 91, 3, [.string r.2.text_.rest_, .bool r.2.text_.none_, .bool r.2.wrong_]⟩)]) := by
  refine Spec.of_AW Tryd.func60 rfl (by simp [Tryd.ntmps60]) ?_
  rw [Tryd.ntmps60]
  unfold f_table_fields_right at H
  change AW _ _ _ [(0, .ref 2020 0 0)] [(2020, ⟨0, true, 91, 3, [.string t0.text_.rest_, .bool t0.text_.none_, .bool t0.wrong_]⟩)] _
  refine AW.endcast ?_
  refine AW.regionSeq ?_
  refine OpsW.seg 1 [0] [] [(0, .ref 2020 0 0)] (by kernel_rfl) trivial ?_
  refine OpsW.nil ?_
  refine AW.regionSeq ?_
  refine OpsW.seg 1 [3, 0] [] [(3, .ref 2020 0 0), (0, .ref 2020 0 0)] (by kernel_rfl) trivial ?_
  refine OpsW.quietU (.ref 2020 0 0) rfl rfl (Quiet.nilCheck rfl (gpoU rfl ⟨trivial, rfl, rfl⟩)) ?_
  refine OpsW.seg 5 [9, 8] [] [(9, .cnd (!t0.wrong_) (.ref 2020 0 0)), (8, .bool (!t0.wrong_))] (by kernel_rfl) trivial ?_
  refine OpsW.quietG (c := !t0.wrong_) (.ref 2020 0 0) rfl rfl rfl rfl (Quiet.nilCheck rfl (gpoG (c := !t0.wrong_) rfl rfl rfl (fun hc => ⟨hc, rfl, rfl⟩))) ?_
  refine OpsW.seg 5 [2] [(!t0.wrong_) = true → (!t0.wrong_) = true, (!t0.wrong_) = true → (!t0.wrong_) = true, (!t0.wrong_) = true → (!t0.wrong_) = true, (!t0.wrong_) = true → (!t0.wrong_) = true] [(2, .bool (cond (!t0.wrong_) t0.text_.none_ false))] (by kernel_rfl) ⟨(fun h => h), (fun h => h), (fun h => h), (fun h => by first | exact h | simpa using h), trivial⟩ ?_
  refine OpsW.nil ?_
  obtain rfl := Option.some.inj H
  refine AW.ret ?_
  show ∃ en' hp', StC _ _ en' hp' ∧ Done _ _ _ .ret en' hp'
  refine ⟨[(2, .bool (cond (!t0.wrong_) t0.text_.none_ false))], [(2020, ⟨0, true, 91, 3, [.string t0.text_.rest_, .bool t0.text_.none_, .bool t0.wrong_]⟩)], (StC.mk (phi [(2020, some 2020)]) (.old rfl rfl rfl rfl rfl (.cons .im (.cons .im (.cons .im .nil))) .nil) rfl (.cons .im .nil)), ?_⟩
  refine Done.gen rfl (.tmp .nil) ?_
  exact ⟨by kernel_rfl, by kernel_rfl⟩
def f_table_start (t0 : S_Table) (t1 : ByteArray) : Option (Bool × S_Table) :=
  (f_table_fields_word (⟨(⟨t1, false⟩ : S_text), false⟩ : S_fields) (⟨#[109, 111, 100, 101, 115]⟩ : ByteArray)).bind fun x1 =>
  (f_table_fields_number x1 (999 : Int)).bind fun x2 =>
  (f_table_fields_word x2.2 (⟨#[97, 99, 99, 101, 112, 116]⟩ : ByteArray)).bind fun x3 =>
  (f_table_fields_number x3 (255 : Int)).bind fun x4 =>
  (f_table_fields_right x4.2).bind fun x5 =>
  some (x5.1, (⟨x2.1, IntKind.wrap .u8 x4.1, t0.Rules⟩ : S_Table))
theorem f_table_start_io  {t0 : S_Table} {t1 : ByteArray} {r : Bool × S_Table} (H : f_table_start t0 t1 = some r) : Abs.Spec Tryd.prog 45 [.ref 2010 0 0, .string t1] [(2010, ⟨0, true, 33, 3, [.int .i64 t0.Modes, .int .u8 t0.Accept, .rsl 3010 0 0 t0.Rules.length]⟩), (3010, rtA 0 36 6 eS_Rule t0.Rules)] (fun x h => x = .bool r.1 ∧ h = [(2010, ⟨0, true, 33, 3, [.int .i64 r.2.Modes, .int .u8 r.2.Accept, .rsl 3010 1 0 r.2.Rules.length]⟩), (3010, rtA 1 36 6 eS_Rule r.2.Rules)]) := by
  refine Spec.of_AW Tryd.func45 rfl (by simp [Tryd.ntmps45]) ?_
  rw [Tryd.ntmps45]
  unfold f_table_start at H
  change AW _ _ _ [(0, .ref 2010 0 0), (1, .string t1)] [(2010, ⟨0, true, 33, 3, [.int .i64 t0.Modes, .int .u8 t0.Accept, .rsl 3010 0 0 t0.Rules.length]⟩), (3010, rtA 0 36 6 eS_Rule t0.Rules)] _
  refine AW.endcast ?_
  refine AW.regionSeq ?_
  refine OpsW.seg 1 [0, 1] [] [(0, .ref 2010 0 0), (1, .string t1)] (by kernel_rfl) trivial ?_
  refine OpsW.nil ?_
  refine AW.regionSeq ?_
  refine OpsW.seg 3 [8, 0] [] [(8, .agg [.string t1, .bool false, .bool false]), (0, .ref 2010 0 0)] (by kernel_rfl) trivial ?_
  refine OpsW.alloc' rfl rfl rfl 5 rfl (by kernel_rfl : zc Tryd.prog 91 = some [.string ⟨#[]⟩, .bool false, .bool false]) (by kernel_rfl) ?_
  refine OpsW.store rfl rfl rfl rfl trivial trivial rfl rfl rfl (by kernel_rfl) (okCb_sound (by kernel_rfl)) (Nat.le_of_ble_eq_true (by kernel_rfl)) ?_
  change OpsW _ _ _ _ _ [(5, ⟨0, true, 91, 3, [.string t1, .bool false, .bool false]⟩), (5, ⟨0, true, 91, 3, [.string (⟨#[]⟩ : ByteArray), .bool false, .bool false]⟩), (2010, ⟨0, true, 33, 3, [.int .i64 t0.Modes, .int .u8 t0.Accept, .rsl 3010 0 0 t0.Rules.length]⟩), (3010, rtA 0 36 6 eS_Rule t0.Rules)] _
  refine OpsW.seg 0 [5, 0] [] [(5, .ref 5 0 0), (0, .ref 2010 0 0)] (by kernel_rfl) trivial ?_
  refine OpsW.recast (env' := [(5, .ref 5 0 0), (0, .ref 2010 0 0)]) (h' := [(5, ⟨0, true, 91, 3, [.string t1, .bool false, .bool false]⟩), (2010, ⟨0, true, 33, 3, [.int .i64 t0.Modes, .int .u8 t0.Accept, .rsl 3010 0 0 t0.Rules.length]⟩), (3010, rtA 0 36 6 eS_Rule t0.Rules)]) (StC.mk (phi [(5, some 5), (2010, some 2010), (3010, some 3010)]) (.old rfl rfl rfl rfl rfl (.cons .im (.cons .im (.cons .im .nil))) (.old rfl rfl rfl rfl rfl (.cons .im (.cons .im (.cons (.rsl rfl rfl rfl rfl rfl rfl) .nil))) (.old rfl rfl rfl rfl rfl (CstL.ims _) .nil))) rfl (.cons (.ref rfl rfl rfl rfl rfl) (.cons (.ref rfl rfl rfl rfl rfl) .nil))) ?_
  refine OpsW.nil ?_
  refine AW.regionSeq ?_
  refine OpsW.recast (env' := [(5, .ref 5 0 0), (0, .ref 2010 0 0)]) (h' := [(5, ⟨0, true, 91, 3, [.string t1, .bool false, .bool false]⟩), (2010, ⟨0, true, 33, 3, [.int .i64 t0.Modes, .int .u8 t0.Accept, .rsl 3010 0 0 t0.Rules.length]⟩), (3010, rtA 0 36 6 eS_Rule t0.Rules)]) (StC.mk (phi [(5, some 5), (2010, some 2010), (3010, some 3010)]) (.old rfl rfl rfl rfl rfl (.cons .im (.cons .im (.cons .im .nil))) (.old rfl rfl rfl rfl rfl (.cons .im (.cons .im (.cons (.rsl rfl rfl rfl rfl rfl rfl) .nil))) (.old rfl rfl rfl rfl rfl (CstL.ims _) .nil))) rfl (.cons (.ref rfl rfl rfl rfl rfl) (.cons (.ref rfl rfl rfl rfl rfl) .nil))) ?_
  obtain ⟨x1, hx1, H⟩ := bindS H
  change OpsW _ _ _ _ [(5, .ref 5 0 0), (0, .ref 2010 0 0)] ([(5, ⟨0, true, 91, 3, [.string t1, .bool false, .bool false]⟩)] ++ [(2010, ⟨0, true, 33, 3, [.int .i64 t0.Modes, .int .u8 t0.Accept, .rsl 3010 0 0 t0.Rules.length]⟩), (3010, rtA 0 36 6 eS_Rule t0.Rules)]) _
  refine OpsW.callR [(5, ⟨0, true, 91, 3, [.string t1, .bool false, .bool false]⟩)] [(2010, ⟨0, true, 33, 3, [.int .i64 t0.Modes, .int .u8 t0.Accept, .rsl 3010 0 0 t0.Rules.length]⟩), (3010, rtA 0 36 6 eS_Rule t0.Rules)] [(2020, ⟨0, true, 91, 3, [.string t1, .bool false, .bool false]⟩)] (phi [(2020, some 5)]) rfl rfl (by kernel_rfl) [.ref 2020 0 0, .string (⟨#[109, 111, 100, 101, 115]⟩ : ByteArray)] _ rfl (glAll_sound trivial) (.cons (.ref rfl rfl rfl rfl rfl) (.cons .im .nil)) (f_table_fields_word_io hx1) (fresh_of (by kernel_rfl)) (by kernel_rfl) (.cons rfl rfl rfl rfl rfl (.cons .im (.cons .im (.cons .im .nil))) .nil) ?_
  rintro _ _ ⟨rfl, rfl⟩
  refine ⟨.tup [], [(5, ⟨0, true, 91, 3, [.string x1.text_.rest_, .bool x1.text_.none_, .bool x1.wrong_]⟩)], phi [(5, some 2020)], fresh_of (by kernel_rfl), by kernel_rfl, by kernel_rfl, (.cons rfl rfl rfl rfl rfl (.cons .im (.cons .im (.cons .im .nil))) .nil), (.tup .nil .nil), ?_⟩
  change OpsW _ _ _ _ [(9, .tup []), (5, .ref 5 0 0), (0, .ref 2010 0 0)] [(5, ⟨0, true, 91, 3, [.string x1.text_.rest_, .bool x1.text_.none_, .bool x1.wrong_]⟩), (2010, ⟨0, true, 33, 3, [.int .i64 t0.Modes, .int .u8 t0.Accept, .rsl 3010 0 0 t0.Rules.length]⟩), (3010, rtA 0 36 6 eS_Rule t0.Rules)] _
  refine OpsW.seg 0 [5, 0] [] [(5, .ref 5 0 0), (0, .ref 2010 0 0)] (by kernel_rfl) trivial ?_
  refine OpsW.recast (env' := [(5, .ref 5 0 0), (0, .ref 2010 0 0)]) (h' := [(5, ⟨0, true, 91, 3, [.string x1.text_.rest_, .bool x1.text_.none_, .bool x1.wrong_]⟩), (2010, ⟨0, true, 33, 3, [.int .i64 t0.Modes, .int .u8 t0.Accept, .rsl 3010 0 0 t0.Rules.length]⟩), (3010, rtA 0 36 6 eS_Rule t0.Rules)]) (StC.mk (phi [(5, some 5), (2010, some 2010), (3010, some 3010)]) (.old rfl rfl rfl rfl rfl (.cons .im (.cons .im (.cons .im .nil))) (.old rfl rfl rfl rfl rfl (.cons .im (.cons .im (.cons (.rsl rfl rfl rfl rfl rfl rfl) .nil))) (.old rfl rfl rfl rfl rfl (CstL.ims _) .nil))) rfl (.cons (.ref rfl rfl rfl rfl rfl) (.cons (.ref rfl rfl rfl rfl rfl) .nil))) ?_
  refine OpsW.nil ?_
  refine AW.regionSeq ?_
  refine OpsW.seg 1 [10, 5, 0] [] [(10, .ref 2010 0 0), (5, .ref 5 0 0), (0, .ref 2010 0 0)] (by kernel_rfl) trivial ?_
  refine OpsW.recast (env' := [(10, .ref 2010 0 0), (5, .ref 5 0 0), (0, .ref 2010 0 0)]) (h' := [(5, ⟨0, true, 91, 3, [.string x1.text_.rest_, .bool x1.text_.none_, .bool x1.wrong_]⟩), (2010, ⟨0, true, 33, 3, [.int .i64 t0.Modes, .int .u8 t0.Accept, .rsl 3010 0 0 t0.Rules.length]⟩), (3010, rtA 0 36 6 eS_Rule t0.Rules)]) (StC.mk (phi [(5, some 5), (2010, some 2010), (3010, some 3010)]) (.old rfl rfl rfl rfl rfl (.cons .im (.cons .im (.cons .im .nil))) (.old rfl rfl rfl rfl rfl (.cons .im (.cons .im (.cons (.rsl rfl rfl rfl rfl rfl rfl) .nil))) (.old rfl rfl rfl rfl rfl (CstL.ims _) .nil))) rfl (.cons (.ref rfl rfl rfl rfl rfl) (.cons (.ref rfl rfl rfl rfl rfl) (.cons (.ref rfl rfl rfl rfl rfl) .nil)))) ?_
  obtain ⟨x2, hx2, H⟩ := bindS H
  change OpsW _ _ _ _ [(10, .ref 2010 0 0), (5, .ref 5 0 0), (0, .ref 2010 0 0)] ([(5, ⟨0, true, 91, 3, [.string x1.text_.rest_, .bool x1.text_.none_, .bool x1.wrong_]⟩)] ++ [(2010, ⟨0, true, 33, 3, [.int .i64 t0.Modes, .int .u8 t0.Accept, .rsl 3010 0 0 t0.Rules.length]⟩), (3010, rtA 0 36 6 eS_Rule t0.Rules)]) _
  refine OpsW.callR [(5, ⟨0, true, 91, 3, [.string x1.text_.rest_, .bool x1.text_.none_, .bool x1.wrong_]⟩)] [(2010, ⟨0, true, 33, 3, [.int .i64 t0.Modes, .int .u8 t0.Accept, .rsl 3010 0 0 t0.Rules.length]⟩), (3010, rtA 0 36 6 eS_Rule t0.Rules)] [(2020, ⟨0, true, 91, 3, [.string x1.text_.rest_, .bool x1.text_.none_, .bool x1.wrong_]⟩)] (phi [(2020, some 5)]) rfl rfl (by kernel_rfl) [.ref 2020 0 0, .int .i64 999] _ rfl (glAll_sound trivial) (.cons (.ref rfl rfl rfl rfl rfl) (.cons .im .nil)) (f_table_fields_number_io hx2) (fresh_of (by kernel_rfl)) (by kernel_rfl) (.cons rfl rfl rfl rfl rfl (.cons .im (.cons .im (.cons .im .nil))) .nil) ?_
  rintro _ _ ⟨rfl, rfl⟩
  refine ⟨.int .i64 x2.1, [(5, ⟨0, true, 91, 3, [.string x2.2.text_.rest_, .bool x2.2.text_.none_, .bool x2.2.wrong_]⟩)], phi [(5, some 2020)], fresh_of (by kernel_rfl), by kernel_rfl, by kernel_rfl, (.cons rfl rfl rfl rfl rfl (.cons .im (.cons .im (.cons .im .nil))) .nil), (.cons .im .nil), ?_⟩
  change OpsW _ _ _ _ [(11, .int .i64 x2.1), (10, .ref 2010 0 0), (5, .ref 5 0 0), (0, .ref 2010 0 0)] [(5, ⟨0, true, 91, 3, [.string x2.2.text_.rest_, .bool x2.2.text_.none_, .bool x2.2.wrong_]⟩), (2010, ⟨0, true, 33, 3, [.int .i64 t0.Modes, .int .u8 t0.Accept, .rsl 3010 0 0 t0.Rules.length]⟩), (3010, rtA 0 36 6 eS_Rule t0.Rules)] _
  refine OpsW.quietU (.ref 2010 0 0) rfl rfl (Quiet.nilCheck rfl (gpoU rfl ⟨trivial, rfl, rfl⟩)) ?_
  refine OpsW.seg 1 [13, 11, 5, 0] [] [(13, .ref 2010 0 0), (11, .int .i64 x2.1), (5, .ref 5 0 0), (0, .ref 2010 0 0)] (by kernel_rfl) trivial ?_
  refine OpsW.store rfl rfl rfl rfl trivial trivial rfl rfl rfl (by kernel_rfl) (okCb_sound (by kernel_rfl)) (Nat.le_of_ble_eq_true (by kernel_rfl)) ?_
  change OpsW _ _ _ _ _ [(2010, ⟨0, true, 33, 3, [.int .i64 x2.1, .int .u8 t0.Accept, .rsl 3010 0 0 t0.Rules.length]⟩), (5, ⟨0, true, 91, 3, [.string x2.2.text_.rest_, .bool x2.2.text_.none_, .bool x2.2.wrong_]⟩), (2010, ⟨0, true, 33, 3, [.int .i64 t0.Modes, .int .u8 t0.Accept, .rsl 3010 0 0 t0.Rules.length]⟩), (3010, rtA 0 36 6 eS_Rule t0.Rules)] _
  refine OpsW.seg 0 [5, 0] [] [(5, .ref 5 0 0), (0, .ref 2010 0 0)] (by kernel_rfl) trivial ?_
  refine OpsW.recast (env' := [(5, .ref 5 0 0), (0, .ref 2010 0 0)]) (h' := [(5, ⟨0, true, 91, 3, [.string x2.2.text_.rest_, .bool x2.2.text_.none_, .bool x2.2.wrong_]⟩), (2010, ⟨0, true, 33, 3, [.int .i64 x2.1, .int .u8 t0.Accept, .rsl 3010 0 0 t0.Rules.length]⟩), (3010, rtA 0 36 6 eS_Rule t0.Rules)]) (StC.mk (phi [(5, some 5), (2010, some 2010), (3010, some 3010)]) (.old rfl rfl rfl rfl rfl (.cons .im (.cons .im (.cons .im .nil))) (.old rfl rfl rfl rfl rfl (.cons .im (.cons .im (.cons (.rsl rfl rfl rfl rfl rfl rfl) .nil))) (.old rfl rfl rfl rfl rfl (CstL.ims _) .nil))) rfl (.cons (.ref rfl rfl rfl rfl rfl) (.cons (.ref rfl rfl rfl rfl rfl) .nil))) ?_
  refine OpsW.nil ?_
  refine AW.regionSeq ?_
  refine OpsW.recast (env' := [(5, .ref 5 0 0), (0, .ref 2010 0 0)]) (h' := [(5, ⟨0, true, 91, 3, [.string x2.2.text_.rest_, .bool x2.2.text_.none_, .bool x2.2.wrong_]⟩), (2010, ⟨0, true, 33, 3, [.int .i64 x2.1, .int .u8 t0.Accept, .rsl 3010 0 0 t0.Rules.length]⟩), (3010, rtA 0 36 6 eS_Rule t0.Rules)]) (StC.mk (phi [(5, some 5), (2010, some 2010), (3010, some 3010)]) (.old rfl rfl rfl rfl rfl (.cons .im (.cons .im (.cons .im .nil))) (.old rfl rfl rfl rfl rfl (.cons .im (.cons .im (.cons (.rsl rfl rfl rfl rfl rfl rfl) .nil))) (.old rfl rfl rfl rfl rfl (CstL.ims _) .nil))) rfl (.cons (.ref rfl rfl rfl rfl rfl) (.cons (.ref rfl rfl rfl rfl rfl) .nil))) ?_
  obtain ⟨x3, hx3, H⟩ := bindS H
  change OpsW _ _ _ _ [(5, .ref 5 0 0), (0, .ref 2010 0 0)] ([(5, ⟨0, true, 91, 3, [.string x2.2.text_.rest_, .bool x2.2.text_.none_, .bool x2.2.wrong_]⟩)] ++ [(2010, ⟨0, true, 33, 3, [.int .i64 x2.1, .int .u8 t0.Accept, .rsl 3010 0 0 t0.Rules.length]⟩), (3010, rtA 0 36 6 eS_Rule t0.Rules)]) _
  refine OpsW.callR [(5, ⟨0, true, 91, 3, [.string x2.2.text_.rest_, .bool x2.2.text_.none_, .bool x2.2.wrong_]⟩)] [(2010, ⟨0, true, 33, 3, [.int .i64 x2.1, .int .u8 t0.Accept, .rsl 3010 0 0 t0.Rules.length]⟩), (3010, rtA 0 36 6 eS_Rule t0.Rules)] [(2020, ⟨0, true, 91, 3, [.string x2.2.text_.rest_, .bool x2.2.text_.none_, .bool x2.2.wrong_]⟩)] (phi [(2020, some 5)]) rfl rfl (by kernel_rfl) [.ref 2020 0 0, .string (⟨#[97, 99, 99, 101, 112, 116]⟩ : ByteArray)] _ rfl (glAll_sound trivial) (.cons (.ref rfl rfl rfl rfl rfl) (.cons .im .nil)) (f_table_fields_word_io hx3) (fresh_of (by kernel_rfl)) (by kernel_rfl) (.cons rfl rfl rfl rfl rfl (.cons .im (.cons .im (.cons .im .nil))) .nil) ?_
  rintro _ _ ⟨rfl, rfl⟩
  refine ⟨.tup [], [(5, ⟨0, true, 91, 3, [.string x3.text_.rest_, .bool x3.text_.none_, .bool x3.wrong_]⟩)], phi [(5, some 2020)], fresh_of (by kernel_rfl), by kernel_rfl, by kernel_rfl, (.cons rfl rfl rfl rfl rfl (.cons .im (.cons .im (.cons .im .nil))) .nil), (.tup .nil .nil), ?_⟩
  change OpsW _ _ _ _ [(14, .tup []), (5, .ref 5 0 0), (0, .ref 2010 0 0)] [(5, ⟨0, true, 91, 3, [.string x3.text_.rest_, .bool x3.text_.none_, .bool x3.wrong_]⟩), (2010, ⟨0, true, 33, 3, [.int .i64 x2.1, .int .u8 t0.Accept, .rsl 3010 0 0 t0.Rules.length]⟩), (3010, rtA 0 36 6 eS_Rule t0.Rules)] _
  refine OpsW.seg 0 [5, 0] [] [(5, .ref 5 0 0), (0, .ref 2010 0 0)] (by kernel_rfl) trivial ?_
  refine OpsW.recast (env' := [(5, .ref 5 0 0), (0, .ref 2010 0 0)]) (h' := [(5, ⟨0, true, 91, 3, [.string x3.text_.rest_, .bool x3.text_.none_, .bool x3.wrong_]⟩), (2010, ⟨0, true, 33, 3, [.int .i64 x2.1, .int .u8 t0.Accept, .rsl 3010 0 0 t0.Rules.length]⟩), (3010, rtA 0 36 6 eS_Rule t0.Rules)]) (StC.mk (phi [(5, some 5), (2010, some 2010), (3010, some 3010)]) (.old rfl rfl rfl rfl rfl (.cons .im (.cons .im (.cons .im .nil))) (.old rfl rfl rfl rfl rfl (.cons .im (.cons .im (.cons (.rsl rfl rfl rfl rfl rfl rfl) .nil))) (.old rfl rfl rfl rfl rfl (CstL.ims _) .nil))) rfl (.cons (.ref rfl rfl rfl rfl rfl) (.cons (.ref rfl rfl rfl rfl rfl) .nil))) ?_
  refine OpsW.nil ?_
  refine AW.regionSeq ?_
  refine OpsW.seg 1 [15, 5] [] [(15, .ref 2010 0 0), (5, .ref 5 0 0)] (by kernel_rfl) trivial ?_
  refine OpsW.recast (env' := [(15, .ref 2010 0 0), (5, .ref 5 0 0)]) (h' := [(5, ⟨0, true, 91, 3, [.string x3.text_.rest_, .bool x3.text_.none_, .bool x3.wrong_]⟩), (2010, ⟨0, true, 33, 3, [.int .i64 x2.1, .int .u8 t0.Accept, .rsl 3010 0 0 t0.Rules.length]⟩), (3010, rtA 0 36 6 eS_Rule t0.Rules)]) (StC.mk (phi [(5, some 5), (2010, some 2010), (3010, some 3010)]) (.old rfl rfl rfl rfl rfl (.cons .im (.cons .im (.cons .im .nil))) (.old rfl rfl rfl rfl rfl (.cons .im (.cons .im (.cons (.rsl rfl rfl rfl rfl rfl rfl) .nil))) (.old rfl rfl rfl rfl rfl (CstL.ims _) .nil))) rfl (.cons (.ref rfl rfl rfl rfl rfl) (.cons (.ref rfl rfl rfl rfl rfl) .nil))) ?_
  obtain ⟨x4, hx4, H⟩ := bindS H
  change OpsW _ _ _ _ [(15, .ref 2010 0 0), (5, .ref 5 0 0)] ([(5, ⟨0, true, 91, 3, [.string x3.text_.rest_, .bool x3.text_.none_, .bool x3.wrong_]⟩)] ++ [(2010, ⟨0, true, 33, 3, [.int .i64 x2.1, .int .u8 t0.Accept, .rsl 3010 0 0 t0.Rules.length]⟩), (3010, rtA 0 36 6 eS_Rule t0.Rules)]) _
  refine OpsW.callR [(5, ⟨0, true, 91, 3, [.string x3.text_.rest_, .bool x3.text_.none_, .bool x3.wrong_]⟩)] [(2010, ⟨0, true, 33, 3, [.int .i64 x2.1, .int .u8 t0.Accept, .rsl 3010 0 0 t0.Rules.length]⟩), (3010, rtA 0 36 6 eS_Rule t0.Rules)] [(2020, ⟨0, true, 91, 3, [.string x3.text_.rest_, .bool x3.text_.none_, .bool x3.wrong_]⟩)] (phi [(2020, some 5)]) rfl rfl (by kernel_rfl) [.ref 2020 0 0, .int .i64 255] _ rfl (glAll_sound trivial) (.cons (.ref rfl rfl rfl rfl rfl) (.cons .im .nil)) (f_table_fields_number_io hx4) (fresh_of (by kernel_rfl)) (by kernel_rfl) (.cons rfl rfl rfl rfl rfl (.cons .im (.cons .im (.cons .im .nil))) .nil) ?_
  rintro _ _ ⟨rfl, rfl⟩
  refine ⟨.int .i64 x4.1, [(5, ⟨0, true, 91, 3, [.string x4.2.text_.rest_, .bool x4.2.text_.none_, .bool x4.2.wrong_]⟩)], phi [(5, some 2020)], fresh_of (by kernel_rfl), by kernel_rfl, by kernel_rfl, (.cons rfl rfl rfl rfl rfl (.cons .im (.cons .im (.cons .im .nil))) .nil), (.cons .im .nil), ?_⟩
  change OpsW _ _ _ _ [(16, .int .i64 x4.1), (15, .ref 2010 0 0), (5, .ref 5 0 0)] [(5, ⟨0, true, 91, 3, [.string x4.2.text_.rest_, .bool x4.2.text_.none_, .bool x4.2.wrong_]⟩), (2010, ⟨0, true, 33, 3, [.int .i64 x2.1, .int .u8 t0.Accept, .rsl 3010 0 0 t0.Rules.length]⟩), (3010, rtA 0 36 6 eS_Rule t0.Rules)] _
  refine OpsW.seg 1 [17, 15, 5] [] [(17, .int .u8 (IntKind.wrap .u8 x4.1)), (15, .ref 2010 0 0), (5, .ref 5 0 0)] (by kernel_rfl) trivial ?_
  refine OpsW.quietU (.ref 2010 0 0) rfl rfl (Quiet.nilCheck rfl (gpoU rfl ⟨trivial, rfl, rfl⟩)) ?_
  refine OpsW.seg 1 [19, 17, 5] [] [(19, .ref 2010 0 1), (17, .int .u8 (IntKind.wrap .u8 x4.1)), (5, .ref 5 0 0)] (by kernel_rfl) trivial ?_
  refine OpsW.store rfl rfl rfl rfl trivial trivial rfl rfl rfl (by kernel_rfl) (okCb_sound (by kernel_rfl)) (Nat.le_of_ble_eq_true (by kernel_rfl)) ?_
  change OpsW _ _ _ _ _ [(2010, ⟨0, true, 33, 3, [.int .i64 x2.1, .int .u8 (IntKind.wrap .u8 x4.1), .rsl 3010 0 0 t0.Rules.length]⟩), (5, ⟨0, true, 91, 3, [.string x4.2.text_.rest_, .bool x4.2.text_.none_, .bool x4.2.wrong_]⟩), (2010, ⟨0, true, 33, 3, [.int .i64 x2.1, .int .u8 t0.Accept, .rsl 3010 0 0 t0.Rules.length]⟩), (3010, rtA 0 36 6 eS_Rule t0.Rules)] _
  refine OpsW.seg 0 [5] [] [(5, .ref 5 0 0)] (by kernel_rfl) trivial ?_
  refine OpsW.recast (env' := [(5, .ref 5 0 0)]) (h' := [(5, ⟨0, true, 91, 3, [.string x4.2.text_.rest_, .bool x4.2.text_.none_, .bool x4.2.wrong_]⟩), (2010, ⟨0, true, 33, 3, [.int .i64 x2.1, .int .u8 (IntKind.wrap .u8 x4.1), .rsl 3010 0 0 t0.Rules.length]⟩), (3010, rtA 0 36 6 eS_Rule t0.Rules)]) (StC.mk (phi [(5, some 5), (2010, some 2010), (3010, some 3010)]) (.old rfl rfl rfl rfl rfl (.cons .im (.cons .im (.cons .im .nil))) (.old rfl rfl rfl rfl rfl (.cons .im (.cons .im (.cons (.rsl rfl rfl rfl rfl rfl rfl) .nil))) (.old rfl rfl rfl rfl rfl (CstL.ims _) .nil))) rfl (.cons (.ref rfl rfl rfl rfl rfl) .nil)) ?_
  refine OpsW.nil ?_
  refine AW.regionSeq ?_
  refine OpsW.recast (env' := [(5, .ref 5 0 0)]) (h' := [(5, ⟨0, true, 91, 3, [.string x4.2.text_.rest_, .bool x4.2.text_.none_, .bool x4.2.wrong_]⟩), (2010, ⟨0, true, 33, 3, [.int .i64 x2.1, .int .u8 (IntKind.wrap .u8 x4.1), .rsl 3010 0 0 t0.Rules.length]⟩), (3010, rtA 0 36 6 eS_Rule t0.Rules)]) (StC.mk (phi [(5, some 5), (2010, some 2010), (3010, some 3010)]) (.old rfl rfl rfl rfl rfl (.cons .im (.cons .im (.cons .im .nil))) (.old rfl rfl rfl rfl rfl (.cons .im (.cons .im (.cons (.rsl rfl rfl rfl rfl rfl rfl) .nil))) (.old rfl rfl rfl rfl rfl (CstL.ims _) .nil))) rfl (.cons (.ref rfl rfl rfl rfl rfl) .nil)) ?_
  obtain ⟨x5, hx5, H⟩ := bindS H
  change OpsW _ _ _ _ [(5, .ref 5 0 0)] ([(5, ⟨0, true, 91, 3, [.string x4.2.text_.rest_, .bool x4.2.text_.none_, .bool x4.2.wrong_]⟩)] ++ [(2010, ⟨0, true, 33, 3, [.int .i64 x2.1, .int .u8 (IntKind.wrap .u8 x4.1), .rsl 3010 0 0 t0.Rules.length]⟩), (3010, rtA 0 36 6 eS_Rule t0.Rules)]) _
  refine OpsW.callR [(5, ⟨0, true, 91, 3, [.string x4.2.text_.rest_, .bool x4.2.text_.none_, .bool x4.2.wrong_]⟩)] [(2010, ⟨0, true, 33, 3, [.int .i64 x2.1, .int .u8 (IntKind.wrap .u8 x4.1), .rsl 3010 0 0 t0.Rules.length]⟩), (3010, rtA 0 36 6 eS_Rule t0.Rules)] [(2020, ⟨0, true, 91, 3, [.string x4.2.text_.rest_, .bool x4.2.text_.none_, .bool x4.2.wrong_]⟩)] (phi [(2020, some 5)]) rfl rfl (by kernel_rfl) [.ref 2020 0 0] _ rfl (glAll_sound trivial) (.cons (.ref rfl rfl rfl rfl rfl) .nil) (f_table_fields_right_io hx5) (fresh_of (by kernel_rfl)) (by kernel_rfl) (.cons rfl rfl rfl rfl rfl (.cons .im (.cons .im (.cons .im .nil))) .nil) ?_
  rintro _ _ ⟨rfl, rfl⟩
  refine ⟨.bool x5.1, [(5, ⟨0, true, 91, 3, [.string x5.2.text_.rest_, .bool x5.2.text_.none_, .bool x5.2.wrong_]⟩)], phi [(5, some 2020)], fresh_of (by kernel_rfl), by kernel_rfl, by kernel_rfl, (.cons rfl rfl rfl rfl rfl (.cons .im (.cons .im (.cons .im .nil))) .nil), (.cons .im .nil), ?_⟩
  change OpsW _ _ _ _ [(20, .bool x5.1), (5, .ref 5 0 0)] [(5, ⟨0, true, 91, 3, [.string x5.2.text_.rest_, .bool x5.2.text_.none_, .bool x5.2.wrong_]⟩), (2010, ⟨0, true, 33, 3, [.int .i64 x2.1, .int .u8 (IntKind.wrap .u8 x4.1), .rsl 3010 0 0 t0.Rules.length]⟩), (3010, rtA 0 36 6 eS_Rule t0.Rules)] _
  refine OpsW.seg 1 [4] [] [(4, .bool x5.1)] (by kernel_rfl) trivial ?_
  refine OpsW.recast (env' := [(4, .bool x5.1)]) (h' := [(2010, ⟨0, true, 33, 3, [.int .i64 x2.1, .int .u8 (IntKind.wrap .u8 x4.1), .rsl 3010 0 0 t0.Rules.length]⟩), (3010, rtA 0 36 6 eS_Rule t0.Rules)]) (StC.mk (phi [(2010, some 2010), (3010, some 3010)]) (.old rfl rfl rfl rfl rfl (.cons .im (.cons .im (.cons (.rsl rfl rfl rfl rfl rfl rfl) .nil))) (.old rfl rfl rfl rfl rfl (CstL.ims _) .nil)) rfl (.cons .im .nil)) ?_
  refine OpsW.nil ?_
  obtain rfl := Option.some.inj H
  refine AW.ret ?_
  show ∃ en' hp', StC _ _ en' hp' ∧ Done _ _ _ .ret en' hp'
  refine ⟨[(4, .bool x5.1)], [(2010, ⟨0, true, 33, 3, [.int .i64 x2.1, .int .u8 (IntKind.wrap .u8 x4.1), .rsl 3010 1 0 t0.Rules.length]⟩), (3010, rtA 1 36 6 eS_Rule t0.Rules)], (StC.mk (phi [(2010, some 2010), (3010, some 3010)]) (.old rfl rfl rfl rfl rfl (.cons .im (.cons .im (.cons (.rsl rfl rfl rfl rfl rfl rfl) .nil))) (.old rfl rfl rfl rfl rfl (CstL.ims _) .nil)) rfl (.cons .im .nil)), ?_⟩
  refine Done.gen rfl (.tmp .nil) ?_
  exact ⟨by kernel_rfl, by kernel_rfl⟩
def f_table_fields_cells_b1 (loop7 : (S_fields × ByteArray × (List Int) × Bool) → Option ((List Int) × S_fields)) (v3 : S_fields) (v4 : ByteArray) (v5 : List Int) (v6 : Bool) : Option ((List Int) × S_fields) :=
  cond v6 (
    (f_strings_Cut v4 (⟨#[45]⟩ : ByteArray)).bind fun x9 =>
    (f_cell_Parse x9.1).bind fun x10 =>
    cond (x10.2 != (0 : Int)) (
      some ([], (⟨v3.text_, true⟩ : S_fields))) (
      G (room 1 (v5.length + 1)) <|
      loop7 (v3, x9.2.1, v5 ++ [x10.1], x9.2.2))) (
    some (v5, v3))
def f_table_fields_cells (t0 : S_fields) : Option ((List Int) × S_fields) :=
  (f_table_text_next_91_0 t0).bind fun x1 =>
  cond (!x1.2.1) (
    some ([], (⟨x1.2.2.text_, true⟩ : S_fields))) (
    iter (fun loop (s : S_fields × ByteArray × (List Int) × Bool) => f_table_fields_cells_b1 loop s.1 s.2.1 s.2.2.1 s.2.2.2) 1000000 (x1.2.2, x1.1, [], true))
theorem f_table_fields_cells_io  {t0 : S_fields} {r : (List Int) × S_fields} (H : f_table_fields_cells t0 = some r) : Abs.Spec Tryd.prog 58 [.ref 2020 0 0] [(2020, ⟨0, true, 91, 3, [.string t0.text_.rest_, .bool t0.text_.none_, .bool t0.wrong_]⟩)] (fun x h => x = slA (eI .u8) r.1 ∧ h = [(2020, ⟨0, true, 91, 3, [.string r.2.text_.rest_, .bool r.2.text_.none_, .bool r.2.wrong_]⟩)]) := by
  refine Spec.of_AW Tryd.func58 rfl (by simp [Tryd.ntmps58]) ?_
  rw [Tryd.ntmps58]
  unfold f_table_fields_cells at H
  change AW _ _ _ [(0, .ref 2020 0 0)] [(2020, ⟨0, true, 91, 3, [.string t0.text_.rest_, .bool t0.text_.none_, .bool t0.wrong_]⟩)] _
  refine AW.endcast ?_
  refine AW.regionSeq ?_
  refine OpsW.seg 1 [0] [] [(0, .ref 2020 0 0)] (by kernel_rfl) trivial ?_
  refine OpsW.nil ?_
  refine AW.regionSeq ?_
  refine OpsW.seg 1 [11, 0] [] [(11, .ref 2020 0 0), (0, .ref 2020 0 0)] (by kernel_rfl) trivial ?_
  refine OpsW.quietU (.ref 2020 0 0) rfl rfl (Quiet.nilCheck rfl (gpoU rfl ⟨trivial, rfl, rfl⟩)) ?_
  refine OpsW.seg 1 [13, 0] [] [(13, .ref 2020 0 0), (0, .ref 2020 0 0)] (by kernel_rfl) trivial ?_
  refine OpsW.recast (env' := [(13, .ref 2020 0 0), (0, .ref 2020 0 0)]) (h' := [(2020, ⟨0, true, 91, 3, [.string t0.text_.rest_, .bool t0.text_.none_, .bool t0.wrong_]⟩)]) (StC.mk (phi [(2020, some 2020)]) (.old rfl rfl rfl rfl rfl (.cons .im (.cons .im (.cons .im .nil))) .nil) rfl (.cons (.ref rfl rfl rfl rfl rfl) (.cons (.ref rfl rfl rfl rfl rfl) .nil))) ?_
  obtain ⟨x1, hx1, H⟩ := bindS H
  change OpsW _ _ _ _ [(13, .ref 2020 0 0), (0, .ref 2020 0 0)] ([(2020, ⟨0, true, 91, 3, [.string t0.text_.rest_, .bool t0.text_.none_, .bool t0.wrong_]⟩)] ++ []) _
  refine OpsW.callR [(2020, ⟨0, true, 91, 3, [.string t0.text_.rest_, .bool t0.text_.none_, .bool t0.wrong_]⟩)] [] [(2020, ⟨0, true, 91, 3, [.string t0.text_.rest_, .bool t0.text_.none_, .bool t0.wrong_]⟩)] (phi [(2020, some 2020)]) rfl rfl (by kernel_rfl) [.ref 2020 0 0] _ rfl (glAll_sound trivial) (.cons (.ref rfl rfl rfl rfl rfl) .nil) (f_table_text_next_91_0_io hx1) (fresh_of (by kernel_rfl)) (by kernel_rfl) (.cons rfl rfl rfl rfl rfl (.cons .im (.cons .im (.cons .im .nil))) .nil) ?_
  rintro _ _ ⟨rfl, rfl⟩
  refine ⟨.tup [.string x1.1, .bool x1.2.1], [(2020, ⟨0, true, 91, 3, [.string x1.2.2.text_.rest_, .bool x1.2.2.text_.none_, .bool x1.2.2.wrong_]⟩)], phi [(2020, some 2020)], fresh_of (by kernel_rfl), by kernel_rfl, by kernel_rfl, (.cons rfl rfl rfl rfl rfl (.cons .im (.cons .im (.cons .im .nil))) .nil), (.tup (.cons .im (.cons .im .nil)) .nil), ?_⟩
  change OpsW _ _ _ _ [(14, .tup [.string x1.1, .bool x1.2.1]), (13, .ref 2020 0 0), (0, .ref 2020 0 0)] [(2020, ⟨0, true, 91, 3, [.string x1.2.2.text_.rest_, .bool x1.2.2.text_.none_, .bool x1.2.2.wrong_]⟩)] _
  refine OpsW.seg 5 [4, 3, 0] [] [(4, .bool x1.2.1), (3, .string x1.1), (0, .ref 2020 0 0)] (by kernel_rfl) trivial ?_
  refine OpsW.recast (env' := [(4, .bool x1.2.1), (3, .string x1.1), (0, .ref 2020 0 0)]) (h' := [(2020, ⟨0, true, 91, 3, [.string x1.2.2.text_.rest_, .bool x1.2.2.text_.none_, .bool x1.2.2.wrong_]⟩)]) (StC.mk (phi [(2020, some 2020)]) (.old rfl rfl rfl rfl rfl (.cons .im (.cons .im (.cons .im .nil))) .nil) rfl (.cons .im (.cons .im (.cons (.ref rfl rfl rfl rfl rfl) .nil)))) ?_
  refine OpsW.nil ?_
  refine AW.seq ?_
  refine AW.regionSeq ?_
  refine OpsW.seg 2 [18, 3, 0] [] [(18, .bool (!x1.2.1)), (3, .string x1.1), (0, .ref 2020 0 0)] (by kernel_rfl) trivial ?_
  refine OpsW.nil ?_
  refine AW.cond (b := !x1.2.1) rfl (fun c2 => ?_) (fun c2 => ?_)
  · replace H := condT c2 H
    refine AW.regionSeq ?_
    refine OpsW.seg 1 [19] [] [(19, .ref 2020 0 0)] (by kernel_rfl) trivial ?_
    refine OpsW.quietU (.ref 2020 0 0) rfl rfl (Quiet.nilCheck rfl (gpoU rfl ⟨trivial, rfl, rfl⟩)) ?_
    refine OpsW.seg 1 [21] [] [(21, .ref 2020 0 2)] (by kernel_rfl) trivial ?_
    refine OpsW.store rfl rfl rfl rfl trivial trivial rfl rfl rfl (by kernel_rfl) (okCb_sound (by kernel_rfl)) (Nat.le_of_ble_eq_true (by kernel_rfl)) ?_
    change OpsW _ _ _ _ _ [(2020, ⟨0, true, 91, 3, [.string x1.2.2.text_.rest_, .bool x1.2.2.text_.none_, .bool true]⟩), (2020, ⟨0, true, 91, 3, [.string x1.2.2.text_.rest_, .bool x1.2.2.text_.none_, .bool x1.2.2.wrong_]⟩)] _
    refine OpsW.seg 0 [] [] [] (by kernel_rfl) trivial ?_
    refine OpsW.recast (env' := []) (h' := [(2020, ⟨0, true, 91, 3, [.string x1.2.2.text_.rest_, .bool x1.2.2.text_.none_, .bool true]⟩)]) (StC.mk (phi [(2020, some 2020)]) (.old rfl rfl rfl rfl rfl (.cons .im (.cons .im (.cons .im .nil))) .nil) rfl .nil) ?_
    refine OpsW.nil ?_
    refine AW.regionSeq ?_
    refine OpsW.seg 1 [2] [] [(2, .im (.val (.slice none 0 0)))] (by kernel_rfl) trivial ?_
    refine OpsW.nil ?_
    obtain rfl := Option.some.inj H
    refine AW.ret ?_
    show ∃ en' hp', StC _ _ en' hp' ∧ Done _ _ _ .ret en' hp'
    refine ⟨[(2, slA (eI .u8) [])], [(2020, ⟨0, true, 91, 3, [.string x1.2.2.text_.rest_, .bool x1.2.2.text_.none_, .bool true]⟩)], (StC.mk (phi [(2020, some 2020)]) (.old rfl rfl rfl rfl rfl (.cons .im (.cons .im (.cons .im .nil))) .nil) rfl (.cons .nil .nil)), ?_⟩
    refine Done.gen rfl (.tmp .nil) ?_
    exact ⟨by kernel_rfl, by kernel_rfl⟩
  · replace H := condF c2 H
    refine AW.skip ?_
    refine AW.regionSeq ?_
    refine OpsW.seg 1 [5, 3, 0] [] [(5, .im (.val (.slice none 0 0))), (3, .string x1.1), (0, .ref 2020 0 0)] (by kernel_rfl) trivial ?_
    refine OpsW.nil ?_
    refine AW.seq ?_
    refine AW.regionSeq ?_
    refine OpsW.seg 1 [6, 5, 3, 0] [] [(6, .bool true), (5, .im (.val (.slice none 0 0))), (3, .string x1.1), (0, .ref 2020 0 0)] (by kernel_rfl) trivial ?_
    refine OpsW.nil ?_
    refine AW.block ?_
    refine AW.iterK (fun loop (s : S_fields × ByteArray × (List Int) × Bool) => f_table_fields_cells_b1 loop s.1 s.2.1 s.2.2.1 s.2.2.2) r (fun (s : S_fields × ByteArray × (List Int) × Bool) => [(0, .ref 2020 0 0), (3, .string s.2.1), (5, .rsl 5 0 0 s.2.2.1.length), (6, .bool s.2.2.2)]) (fun (s : S_fields × ByteArray × (List Int) × Bool) => [(2020, ⟨0, true, 91, 3, [.string s.1.text_.rest_, .bool s.1.text_.none_, .bool s.1.wrong_]⟩), (5, rtA 0 50 1 (eI .u8) s.2.2.1)]) ?_ 1000000 (x1.2.2, x1.1, [], true) H (StC.mk (phi [(2020, some 2020), (5, none)]) (.old rfl rfl rfl rfl rfl (.cons .im (.cons .im (.cons .im .nil))) (.new rfl .nil)) rfl (.cons (.ref rfl rfl rfl rfl rfl) (.cons .im (.cons (.nilr rfl rfl rfl) (.cons .im .nil)))))
    intro loop7 s H
    obtain ⟨v3, v4, v5, v6⟩ := s
    change f_table_fields_cells_b1 loop7 v3 v4 v5 v6 = some r at H
    unfold f_table_fields_cells_b1 at H
    change AW _ _ _ [(0, .ref 2020 0 0), (3, .string v4), (5, .rsl 5 0 0 v5.length), (6, .bool v6)] [(2020, ⟨0, true, 91, 3, [.string v3.text_.rest_, .bool v3.text_.none_, .bool v3.wrong_]⟩), (5, rtA 0 50 1 (eI .u8) v5)] _
    refine AW.seq ?_
    refine AW.regionSeq ?_
    refine OpsW.seg 1 [22, 0, 3, 5] [] [(22, .bool v6), (0, .ref 2020 0 0), (3, .string v4), (5, .rsl 5 0 0 v5.length)] (by kernel_rfl) trivial ?_
    refine OpsW.nil ?_
    refine AW.cond (b := v6) rfl (fun c8 => ?_) (fun c8 => ?_)
    · replace H := condT c8 H
      refine AW.skip ?_
      refine AW.block ?_
      refine AW.regionSeq ?_
      refine OpsW.seg 1 [0, 3, 5] [] [(0, .ref 2020 0 0), (3, .string v4), (5, .rsl 5 0 0 v5.length)] (by kernel_rfl) trivial ?_
      refine OpsW.nil ?_
      refine AW.regionSeq ?_
      refine OpsW.seg 1 [24, 0, 3, 5] [] [(24, .string v4), (0, .ref 2020 0 0), (3, .string v4), (5, .rsl 5 0 0 v5.length)] (by kernel_rfl) trivial ?_
      obtain ⟨x9, hx9, H⟩ := bindS H
      refine OpsW.qcall rfl (by kernel_rfl) rfl rfl (glAll_sound trivial) (.cons (.pur rfl) (.cons (.pur rfl) .nil)) (f_strings_Cut_ok hx9) rfl ?_
      refine OpsW.seg 7 [6, 3, 7, 0, 5] [] [(6, .bool x9.2.2), (3, .string x9.2.1), (7, .string x9.1), (0, .ref 2020 0 0), (5, .rsl 5 0 0 v5.length)] (by kernel_rfl) trivial ?_
      refine OpsW.nil ?_
      refine AW.regionSeq ?_
      refine OpsW.seg 1 [30, 6, 3, 0, 5] [] [(30, .string x9.1), (6, .bool x9.2.2), (3, .string x9.2.1), (0, .ref 2020 0 0), (5, .rsl 5 0 0 v5.length)] (by kernel_rfl) trivial ?_
      obtain ⟨x10, hx10, H⟩ := bindS H
      refine OpsW.qcall rfl (by kernel_rfl) rfl rfl (glAll_sound trivial) (.cons (.pur rfl) .nil) (f_cell_Parse_ok hx10) rfl ?_
      refine OpsW.seg 5 [9, 8, 6, 3, 0, 5] [] [(9, .int .i64 x10.2), (8, .int .u8 x10.1), (6, .bool x9.2.2), (3, .string x9.2.1), (0, .ref 2020 0 0), (5, .rsl 5 0 0 v5.length)] (by kernel_rfl) trivial ?_
      refine OpsW.nil ?_
      refine AW.seq ?_
      refine AW.regionSeq ?_
      refine OpsW.seg 2 [35, 8, 6, 3, 0, 5] [] [(35, .bool (x10.2 != (0 : Int))), (8, .int .u8 x10.1), (6, .bool x9.2.2), (3, .string x9.2.1), (0, .ref 2020 0 0), (5, .rsl 5 0 0 v5.length)] (by kernel_rfl) trivial ?_
      refine OpsW.nil ?_
      refine AW.cond (b := x10.2 != (0 : Int)) rfl (fun c11 => ?_) (fun c11 => ?_)
      · replace H := condT c11 H
        refine AW.regionSeq ?_
        refine OpsW.seg 1 [36] [] [(36, .ref 2020 0 0)] (by kernel_rfl) trivial ?_
        refine OpsW.quietU (.ref 2020 0 0) rfl rfl (Quiet.nilCheck rfl (gpoU rfl ⟨trivial, rfl, rfl⟩)) ?_
        refine OpsW.seg 1 [38] [] [(38, .ref 2020 0 2)] (by kernel_rfl) trivial ?_
        refine OpsW.store rfl rfl rfl rfl trivial trivial rfl rfl rfl (by kernel_rfl) (okCb_sound (by kernel_rfl)) (Nat.le_of_ble_eq_true (by kernel_rfl)) ?_
        change OpsW _ _ _ _ _ [(2020, ⟨0, true, 91, 3, [.string v3.text_.rest_, .bool v3.text_.none_, .bool true]⟩), (2020, ⟨0, true, 91, 3, [.string v3.text_.rest_, .bool v3.text_.none_, .bool v3.wrong_]⟩), (5, rtA 0 50 1 (eI .u8) v5)] _
        refine OpsW.seg 0 [] [] [] (by kernel_rfl) trivial ?_
        refine OpsW.recast (env' := []) (h' := [(2020, ⟨0, true, 91, 3, [.string v3.text_.rest_, .bool v3.text_.none_, .bool true]⟩)]) (StC.mk (phi [(2020, some 2020)]) (.old rfl rfl rfl rfl rfl (.cons .im (.cons .im (.cons .im .nil))) .nil) rfl .nil) ?_
        refine OpsW.nil ?_
        refine AW.regionSeq ?_
        refine OpsW.seg 1 [2] [] [(2, .im (.val (.slice none 0 0)))] (by kernel_rfl) trivial ?_
        refine OpsW.nil ?_
        obtain rfl := Option.some.inj H
        refine AW.ret ?_
        show ∃ en' hp', StC _ _ en' hp' ∧ Done _ _ _ .ret en' hp'
        refine ⟨[(2, slA (eI .u8) [])], [(2020, ⟨0, true, 91, 3, [.string v3.text_.rest_, .bool v3.text_.none_, .bool true]⟩)], (StC.mk (phi [(2020, some 2020)]) (.old rfl rfl rfl rfl rfl (.cons .im (.cons .im (.cons .im .nil))) .nil) rfl (.cons .nil .nil)), ?_⟩
        refine Done.gen rfl (.tmp .nil) ?_
        exact ⟨by kernel_rfl, by kernel_rfl⟩
      · replace H := condF c11 H
        refine AW.skip ?_
        refine AW.region ?_
        refine OpsW.seg 2 [40, 39, 6, 3, 0, 5] [] [(40, .int .u8 x10.1), (39, .rsl 5 0 0 v5.length), (6, .bool x9.2.2), (3, .string x9.2.1), (0, .ref 2020 0 0), (5, .rsl 5 0 0 v5.length)] (by kernel_rfl) trivial ?_
        obtain ⟨g12, H⟩ := G_some H
        refine OpsW.appendLF (enc := eI .u8) [x10.1] rfl rfl rfl (by decide) rfl rfl rfl (by simp) E34 (fun _ => rfl) (by decide) trivial (by kernel_rfl) (by kernel_rfl) (by kernel_rfl) rfl rfl rfl g12 ?_
        refine OpsW.seg 1 [5, 6, 3, 0] [] [(5, .rsl 5 1 0 ((v5 ++ [x10.1]).length)), (6, .bool x9.2.2), (3, .string x9.2.1), (0, .ref 2020 0 0)] (by kernel_rfl) trivial ?_
        refine OpsW.recast (env' := [(5, .rsl 5 0 0 ((v5 ++ [x10.1]).length)), (6, .bool x9.2.2), (3, .string x9.2.1), (0, .ref 2020 0 0)]) (h' := [(5, rtA 0 50 1 (eI .u8) (v5 ++ [x10.1])), (2020, ⟨0, true, 91, 3, [.string v3.text_.rest_, .bool v3.text_.none_, .bool v3.wrong_]⟩)]) (StC.mk (phi [(5, some 5), (2020, some 2020)]) (.old rfl rfl rfl rfl rfl (CstL.ims _) (.old rfl rfl rfl rfl rfl (.cons .im (.cons .im (.cons .im .nil))) .nil)) rfl (.cons (.rsl rfl rfl rfl rfl rfl rfl) (.cons .im (.cons .im (.cons (.ref rfl rfl rfl rfl rfl) .nil))))) ?_
        refine OpsW.nil ?_
        show ∃ y, _ ∧ StC _ _ _ _
        exact ⟨(v3, x9.2.1, v5 ++ [x10.1], x9.2.2), H, (StC.mk (phi [(2020, some 2020), (5, some 5)]) (.old rfl rfl rfl rfl rfl (.cons .im (.cons .im (.cons .im .nil))) (.old rfl rfl rfl rfl rfl (CstL.ims _) .nil)) rfl (.cons (.ref rfl rfl rfl rfl rfl) (.cons .im (.cons (.rsl rfl rfl rfl rfl rfl rfl) (.cons .im .nil)))))⟩
    · replace H := condF c8 H
      refine AW.exit ?_
      refine AW.regionSeq ?_
      refine OpsW.seg 2 [2] [] [(2, .rsl 5 0 0 v5.length)] (by kernel_rfl) trivial ?_
      refine OpsW.recast (env' := [(2, slA (eI .u8) v5)]) (h' := [(2020, ⟨0, true, 91, 3, [.string v3.text_.rest_, .bool v3.text_.none_, .bool v3.wrong_]⟩)]) (StC.mk (phi [(2020, some 2020)]) (.old rfl rfl rfl rfl rfl (.cons .im (.cons .im (.cons .im .nil))) .nil) rfl (.cons (.frz rfl rfl rfl (frz_all (eI .u8) 1 (fun _ => rfl) v5) (fm_length (eI .u8) 1 (fun _ => rfl) v5) (phi_ne rfl)) .nil)) ?_
      refine OpsW.nil ?_
      obtain rfl := Option.some.inj H
      refine AW.ret ?_
      show ∃ en' hp', StC _ _ en' hp' ∧ Done _ _ _ .ret en' hp'
      refine ⟨[(2, slA (eI .u8) v5)], [(2020, ⟨0, true, 91, 3, [.string v3.text_.rest_, .bool v3.text_.none_, .bool v3.wrong_]⟩)], (StC.mk (phi [(2020, some 2020)]) (.old rfl rfl rfl rfl rfl (.cons .im (.cons .im (.cons .im .nil))) .nil) rfl (.cons .im .nil)), ?_⟩
      refine Done.gen rfl (.tmp .nil) ?_
      exact ⟨by kernel_rfl, by kernel_rfl⟩
def f_table_fields_bytes_b1 (x1 : ByteArray × Bool × S_fields) (loop7 : (S_fields × (List Int) × Int) → Option (ByteArray × S_fields)) (v4 : S_fields) (v5 : List Int) (v6 : Int) : Option (ByteArray × S_fields) :=
  cond (decide (v6 < (x1.1.size : Int))) (
    G (0 ≤ v6 ∧ v6 < (x1.1.size : Int)) <|
    (f_table_nibble (bAt x1.1 v6)).bind fun x10 =>
    G (inR (v6 + (1 : Int))) <|
    G (0 ≤ (v6 + (1 : Int)) ∧ (v6 + (1 : Int)) < (x1.1.size : Int)) <|
    (f_table_nibble (bAt x1.1 (v6 + (1 : Int)))).bind fun x13 =>
    cond (cond (decide (x10 < (0 : Int))) true (decide (x13 < (0 : Int)))) (
      some ((⟨#[]⟩ : ByteArray), (⟨v4.text_, true⟩ : S_fields))) (
      G (room 1 (v5.length + 1)) <|
      G (inR (v6 + (2 : Int))) <|
      loop7 (v4, v5 ++ [IntKind.wrap .u8 (bOr .i64 (bShl .i64 x10 (4 : Int)) x13)], v6 + (2 : Int)))) (
    some (strOf v5, v4))
def f_table_fields_bytes (t0 : S_fields) : Option (ByteArray × S_fields) :=
  (f_table_text_next_91_0 t0).bind fun x1 =>
  cond (cond x1.2.1 (x1.1.toList == (⟨#[46]⟩ : ByteArray).toList) false) (
    some ((⟨#[]⟩ : ByteArray), x1.2.2)) (
    cond (cond (cond (!x1.2.1) true (x1.1.toList == (⟨#[]⟩ : ByteArray).toList)) true ((Int.tmod (x1.1.size : Int) (2 : Int)) != (0 : Int))) (
      some ((⟨#[]⟩ : ByteArray), (⟨x1.2.2.text_, true⟩ : S_fields))) (
      iter (fun loop (s : S_fields × (List Int) × Int) => f_table_fields_bytes_b1 x1 loop s.1 s.2.1 s.2.2) 1000000 (x1.2.2, [], (0 : Int))))
theorem f_table_fields_bytes_io  {t0 : S_fields} {r : ByteArray × S_fields} (H : f_table_fields_bytes t0 = some r) : Abs.Spec Tryd.prog 59 [.ref 2020 0 0] [(2020, ⟨0, true, 91, 3, [.string t0.text_.rest_, .bool t0.text_.none_, .bool t0.wrong_]⟩)] (fun x h => x = .string r.1 ∧ h = [(2020, ⟨0, true, 91, 3, [.string r.2.text_.rest_, .bool r.2.text_.none_, .bool r.2.wrong_]⟩)]) := by
  refine Spec.of_AW Tryd.func59 rfl (by simp [Tryd.ntmps59]) ?_
  rw [Tryd.ntmps59]
  unfold f_table_fields_bytes at H
  change AW _ _ _ [(0, .ref 2020 0 0)] [(2020, ⟨0, true, 91, 3, [.string t0.text_.rest_, .bool t0.text_.none_, .bool t0.wrong_]⟩)] _
  refine AW.endcast ?_
  refine AW.regionSeq ?_
  refine OpsW.seg 1 [0] [] [(0, .ref 2020 0 0)] (by kernel_rfl) trivial ?_
  refine OpsW.nil ?_
  refine AW.regionSeq ?_
  refine OpsW.seg 1 [10, 0] [] [(10, .ref 2020 0 0), (0, .ref 2020 0 0)] (by kernel_rfl) trivial ?_
  refine OpsW.quietU (.ref 2020 0 0) rfl rfl (Quiet.nilCheck rfl (gpoU rfl ⟨trivial, rfl, rfl⟩)) ?_
  refine OpsW.seg 1 [12, 0] [] [(12, .ref 2020 0 0), (0, .ref 2020 0 0)] (by kernel_rfl) trivial ?_
  refine OpsW.recast (env' := [(12, .ref 2020 0 0), (0, .ref 2020 0 0)]) (h' := [(2020, ⟨0, true, 91, 3, [.string t0.text_.rest_, .bool t0.text_.none_, .bool t0.wrong_]⟩)]) (StC.mk (phi [(2020, some 2020)]) (.old rfl rfl rfl rfl rfl (.cons .im (.cons .im (.cons .im .nil))) .nil) rfl (.cons (.ref rfl rfl rfl rfl rfl) (.cons (.ref rfl rfl rfl rfl rfl) .nil))) ?_
  obtain ⟨x1, hx1, H⟩ := bindS H
  change OpsW _ _ _ _ [(12, .ref 2020 0 0), (0, .ref 2020 0 0)] ([(2020, ⟨0, true, 91, 3, [.string t0.text_.rest_, .bool t0.text_.none_, .bool t0.wrong_]⟩)] ++ []) _
  refine OpsW.callR [(2020, ⟨0, true, 91, 3, [.string t0.text_.rest_, .bool t0.text_.none_, .bool t0.wrong_]⟩)] [] [(2020, ⟨0, true, 91, 3, [.string t0.text_.rest_, .bool t0.text_.none_, .bool t0.wrong_]⟩)] (phi [(2020, some 2020)]) rfl rfl (by kernel_rfl) [.ref 2020 0 0] _ rfl (glAll_sound trivial) (.cons (.ref rfl rfl rfl rfl rfl) .nil) (f_table_text_next_91_0_io hx1) (fresh_of (by kernel_rfl)) (by kernel_rfl) (.cons rfl rfl rfl rfl rfl (.cons .im (.cons .im (.cons .im .nil))) .nil) ?_
  rintro _ _ ⟨rfl, rfl⟩
  refine ⟨.tup [.string x1.1, .bool x1.2.1], [(2020, ⟨0, true, 91, 3, [.string x1.2.2.text_.rest_, .bool x1.2.2.text_.none_, .bool x1.2.2.wrong_]⟩)], phi [(2020, some 2020)], fresh_of (by kernel_rfl), by kernel_rfl, by kernel_rfl, (.cons rfl rfl rfl rfl rfl (.cons .im (.cons .im (.cons .im .nil))) .nil), (.tup (.cons .im (.cons .im .nil)) .nil), ?_⟩
  change OpsW _ _ _ _ [(13, .tup [.string x1.1, .bool x1.2.1]), (12, .ref 2020 0 0), (0, .ref 2020 0 0)] [(2020, ⟨0, true, 91, 3, [.string x1.2.2.text_.rest_, .bool x1.2.2.text_.none_, .bool x1.2.2.wrong_]⟩)] _
  refine OpsW.seg 5 [4, 3, 0] [] [(4, .bool x1.2.1), (3, .string x1.1), (0, .ref 2020 0 0)] (by kernel_rfl) trivial ?_
  refine OpsW.recast (env' := [(4, .bool x1.2.1), (3, .string x1.1), (0, .ref 2020 0 0)]) (h' := [(2020, ⟨0, true, 91, 3, [.string x1.2.2.text_.rest_, .bool x1.2.2.text_.none_, .bool x1.2.2.wrong_]⟩)]) (StC.mk (phi [(2020, some 2020)]) (.old rfl rfl rfl rfl rfl (.cons .im (.cons .im (.cons .im .nil))) .nil) rfl (.cons .im (.cons .im (.cons (.ref rfl rfl rfl rfl rfl) .nil)))) ?_
  refine OpsW.nil ?_
  refine AW.seq ?_
  refine AW.regionSeq ?_
  refine OpsW.seg 5 [20, 4, 3, 0] [x1.2.1 = true → x1.2.1 = true, x1.2.1 = true → x1.2.1 = true] [(20, .bool (cond x1.2.1 (x1.1.toList == (⟨#[46]⟩ : ByteArray).toList) false)), (4, .bool x1.2.1), (3, .string x1.1), (0, .ref 2020 0 0)] (by kernel_rfl) ⟨(fun h => h), (fun h => by first | exact h | simpa using h), trivial⟩ ?_
  refine OpsW.nil ?_
  refine AW.cond (b := cond x1.2.1 (x1.1.toList == (⟨#[46]⟩ : ByteArray).toList) false) rfl (fun c2 => ?_) (fun c2 => ?_)
  · replace H := condT c2 H
    refine AW.regionSeq ?_
    refine OpsW.seg 1 [2] [] [(2, .string (⟨#[]⟩ : ByteArray))] (by kernel_rfl) trivial ?_
    refine OpsW.nil ?_
    obtain rfl := Option.some.inj H
    refine AW.ret ?_
    show ∃ en' hp', StC _ _ en' hp' ∧ Done _ _ _ .ret en' hp'
    refine ⟨[(2, .string (⟨#[]⟩ : ByteArray))], [(2020, ⟨0, true, 91, 3, [.string x1.2.2.text_.rest_, .bool x1.2.2.text_.none_, .bool x1.2.2.wrong_]⟩)], (StC.mk (phi [(2020, some 2020)]) (.old rfl rfl rfl rfl rfl (.cons .im (.cons .im (.cons .im .nil))) .nil) rfl (.cons .im .nil)), ?_⟩
    refine Done.gen rfl (.tmp .nil) ?_
    exact ⟨by kernel_rfl, by kernel_rfl⟩
  · replace H := condF c2 H
    refine AW.skip ?_
    refine AW.seq ?_
    refine AW.regionSeq ?_
    refine OpsW.seg 12 [32, 3, 0] [(!(!x1.2.1)) = true → (!(!x1.2.1)) = true, (!x1.2.1) = false → (!(!x1.2.1)) = true, (!(cond (!x1.2.1) true (x1.1.toList == (⟨#[]⟩ : ByteArray).toList))) = true → (!(cond (!x1.2.1) true (x1.1.toList == (⟨#[]⟩ : ByteArray).toList))) = true, (!(cond (!x1.2.1) true (x1.1.toList == (⟨#[]⟩ : ByteArray).toList))) = true → (!(cond (!x1.2.1) true (x1.1.toList == (⟨#[]⟩ : ByteArray).toList))) = true, (!(cond (!x1.2.1) true (x1.1.toList == (⟨#[]⟩ : ByteArray).toList))) = true → (2 : Int) ≠ 0, (!(cond (!x1.2.1) true (x1.1.toList == (⟨#[]⟩ : ByteArray).toList))) = true → (!(cond (!x1.2.1) true (x1.1.toList == (⟨#[]⟩ : ByteArray).toList))) = true, (cond (!x1.2.1) true (x1.1.toList == (⟨#[]⟩ : ByteArray).toList)) = false → (!(cond (!x1.2.1) true (x1.1.toList == (⟨#[]⟩ : ByteArray).toList))) = true] [(32, .bool (cond (cond (!x1.2.1) true (x1.1.toList == (⟨#[]⟩ : ByteArray).toList)) true ((Int.tmod (x1.1.size : Int) (2 : Int)) != (0 : Int)))), (3, .string x1.1), (0, .ref 2020 0 0)] (by kernel_rfl) ⟨(fun h => h), (fun h => by first | exact h | simpa using h), (fun h => h), (fun h => h), (fun _ => by decide), (fun h => h), (fun h => by first | exact h | simpa using h), trivial⟩ ?_
    refine OpsW.nil ?_
    refine AW.cond (b := cond (cond (!x1.2.1) true (x1.1.toList == (⟨#[]⟩ : ByteArray).toList)) true ((Int.tmod (x1.1.size : Int) (2 : Int)) != (0 : Int))) rfl (fun c3 => ?_) (fun c3 => ?_)
    · replace H := condT c3 H
      refine AW.regionSeq ?_
      refine OpsW.seg 1 [33] [] [(33, .ref 2020 0 0)] (by kernel_rfl) trivial ?_
      refine OpsW.quietU (.ref 2020 0 0) rfl rfl (Quiet.nilCheck rfl (gpoU rfl ⟨trivial, rfl, rfl⟩)) ?_
      refine OpsW.seg 1 [35] [] [(35, .ref 2020 0 2)] (by kernel_rfl) trivial ?_
      refine OpsW.store rfl rfl rfl rfl trivial trivial rfl rfl rfl (by kernel_rfl) (okCb_sound (by kernel_rfl)) (Nat.le_of_ble_eq_true (by kernel_rfl)) ?_
      change OpsW _ _ _ _ _ [(2020, ⟨0, true, 91, 3, [.string x1.2.2.text_.rest_, .bool x1.2.2.text_.none_, .bool true]⟩), (2020, ⟨0, true, 91, 3, [.string x1.2.2.text_.rest_, .bool x1.2.2.text_.none_, .bool x1.2.2.wrong_]⟩)] _
      refine OpsW.seg 0 [] [] [] (by kernel_rfl) trivial ?_
      refine OpsW.recast (env' := []) (h' := [(2020, ⟨0, true, 91, 3, [.string x1.2.2.text_.rest_, .bool x1.2.2.text_.none_, .bool true]⟩)]) (StC.mk (phi [(2020, some 2020)]) (.old rfl rfl rfl rfl rfl (.cons .im (.cons .im (.cons .im .nil))) .nil) rfl .nil) ?_
      refine OpsW.nil ?_
      refine AW.regionSeq ?_
      refine OpsW.seg 1 [2] [] [(2, .string (⟨#[]⟩ : ByteArray))] (by kernel_rfl) trivial ?_
      refine OpsW.nil ?_
      obtain rfl := Option.some.inj H
      refine AW.ret ?_
      show ∃ en' hp', StC _ _ en' hp' ∧ Done _ _ _ .ret en' hp'
      refine ⟨[(2, .string (⟨#[]⟩ : ByteArray))], [(2020, ⟨0, true, 91, 3, [.string x1.2.2.text_.rest_, .bool x1.2.2.text_.none_, .bool true]⟩)], (StC.mk (phi [(2020, some 2020)]) (.old rfl rfl rfl rfl rfl (.cons .im (.cons .im (.cons .im .nil))) .nil) rfl (.cons .im .nil)), ?_⟩
      refine Done.gen rfl (.tmp .nil) ?_
      exact ⟨by kernel_rfl, by kernel_rfl⟩
    · replace H := condF c3 H
      refine AW.skip ?_
      refine AW.regionSeq ?_
      refine OpsW.seg 1 [5, 3, 0] [] [(5, .im (.val (.slice none 0 0))), (3, .string x1.1), (0, .ref 2020 0 0)] (by kernel_rfl) trivial ?_
      refine OpsW.nil ?_
      refine AW.seq ?_
      refine AW.regionSeq ?_
      refine OpsW.seg 1 [6, 5, 3, 0] [] [(6, .int .i64 0), (5, .im (.val (.slice none 0 0))), (3, .string x1.1), (0, .ref 2020 0 0)] (by kernel_rfl) trivial ?_
      refine OpsW.nil ?_
      refine AW.block ?_
      refine AW.iterK (fun loop (s : S_fields × (List Int) × Int) => f_table_fields_bytes_b1 x1 loop s.1 s.2.1 s.2.2) r (fun (s : S_fields × (List Int) × Int) => [(0, .ref 2020 0 0), (3, .string x1.1), (5, .rsl 5 0 0 s.2.1.length), (6, .int .i64 s.2.2)]) (fun (s : S_fields × (List Int) × Int) => [(2020, ⟨0, true, 91, 3, [.string s.1.text_.rest_, .bool s.1.text_.none_, .bool s.1.wrong_]⟩), (5, rtA 0 5 1 (eI .u8) s.2.1)]) ?_ 1000000 (x1.2.2, [], (0 : Int)) H (StC.mk (phi [(2020, some 2020), (5, none)]) (.old rfl rfl rfl rfl rfl (.cons .im (.cons .im (.cons .im .nil))) (.new rfl .nil)) rfl (.cons (.ref rfl rfl rfl rfl rfl) (.cons .im (.cons (.nilr rfl rfl rfl) (.cons .im .nil)))))
      intro loop7 s H
      obtain ⟨v4, v5, v6⟩ := s
      change f_table_fields_bytes_b1 x1 loop7 v4 v5 v6 = some r at H
      unfold f_table_fields_bytes_b1 at H
      change AW _ _ _ [(0, .ref 2020 0 0), (3, .string x1.1), (5, .rsl 5 0 0 v5.length), (6, .int .i64 v6)] [(2020, ⟨0, true, 91, 3, [.string v4.text_.rest_, .bool v4.text_.none_, .bool v4.wrong_]⟩), (5, rtA 0 5 1 (eI .u8) v5)] _
      refine AW.seq ?_
      refine AW.regionSeq ?_
      refine OpsW.seg 4 [39, 0, 3, 5, 6] [] [(39, .bool (decide (v6 < (x1.1.size : Int)))), (0, .ref 2020 0 0), (3, .string x1.1), (5, .rsl 5 0 0 v5.length), (6, .int .i64 v6)] (by kernel_rfl) trivial ?_
      refine OpsW.nil ?_
      refine AW.cond (b := decide (v6 < (x1.1.size : Int))) rfl (fun c8 => ?_) (fun c8 => ?_)
      · replace H := condT c8 H
        refine AW.skip ?_
        refine AW.seq ?_
        refine AW.block ?_
        refine AW.drawSeq Tryd.checked.mixed (by kernel_rfl) ?_
        obtain ⟨g9, H⟩ := G_some H
        refine QOps.seg (N := 70) 3 [0 ≤ v6 ∧ v6 < (x1.1.size : Int)] [(44, .int .u8 (bAt x1.1 v6)), (43, .int .i64 v6), (42, .string x1.1), (39, .bool (decide (v6 < (x1.1.size : Int)))), (0, .ref 2020 0 0), (3, .string x1.1), (5, .rsl 5 0 0 v5.length), (6, .int .i64 v6)] (by kernel_rfl) ⟨g9, trivial⟩ ?_
        obtain ⟨x10, hx10, H⟩ := bindS H
        refine QOps.qcall rfl (by kernel_rfl) rfl (glAll_sound trivial) (.cons (.pur rfl) .nil) (f_table_nibble_ok hx10) rfl ?_
        obtain ⟨g11, H⟩ := G_some H
        obtain ⟨g12, H⟩ := G_some H
        refine QOps.seg (N := 70) 4 [inR (v6 + (1 : Int)), 0 ≤ (v6 + (1 : Int)) ∧ (v6 + (1 : Int)) < (x1.1.size : Int)] [(49, .int .u8 (bAt x1.1 (v6 + (1 : Int)))), (48, .int .i64 (v6 + (1 : Int))), (47, .int .i64 v6), (46, .string x1.1), (45, .int .i64 x10), (44, .int .u8 (bAt x1.1 v6)), (43, .int .i64 v6), (42, .string x1.1), (39, .bool (decide (v6 < (x1.1.size : Int)))), (0, .ref 2020 0 0), (3, .string x1.1), (5, .rsl 5 0 0 v5.length), (6, .int .i64 v6)] (by kernel_rfl) ⟨g11, g12, trivial⟩ ?_
        obtain ⟨x13, hx13, H⟩ := bindS H
        refine QOps.qcall rfl (by kernel_rfl) rfl (glAll_sound trivial) (.cons (.pur rfl) .nil) (f_table_nibble_ok hx13) rfl ?_
        refine QOps.seg (N := 70) 2 [] [(8, .int .i64 x13), (7, .int .i64 x10), (50, .int .i64 x13), (49, .int .u8 (bAt x1.1 (v6 + (1 : Int)))), (48, .int .i64 (v6 + (1 : Int))), (47, .int .i64 v6), (46, .string x1.1), (45, .int .i64 x10), (44, .int .u8 (bAt x1.1 v6)), (43, .int .i64 v6), (42, .string x1.1), (39, .bool (decide (v6 < (x1.1.size : Int)))), (0, .ref 2020 0 0), (3, .string x1.1), (5, .rsl 5 0 0 v5.length), (6, .int .i64 v6)] (by kernel_rfl) trivial ?_
        refine QOps.nil ?_
        refine AW.trim [8, 7, 0, 3, 5, 6] [(8, .int .i64 x13), (7, .int .i64 x10), (0, .ref 2020 0 0), (3, .string x1.1), (5, .rsl 5 0 0 v5.length), (6, .int .i64 v6)] (by kernel_rfl) ?_
        refine AW.seq ?_
        refine AW.regionSeq ?_
        refine OpsW.seg 6 [56, 8, 7, 0, 3, 5, 6] [(!(decide (x10 < (0 : Int)))) = true → (!(decide (x10 < (0 : Int)))) = true, (decide (x10 < (0 : Int))) = false → (!(decide (x10 < (0 : Int)))) = true] [(56, .bool (cond (decide (x10 < (0 : Int))) true (decide (x13 < (0 : Int))))), (8, .int .i64 x13), (7, .int .i64 x10), (0, .ref 2020 0 0), (3, .string x1.1), (5, .rsl 5 0 0 v5.length), (6, .int .i64 v6)] (by kernel_rfl) ⟨(fun h => h), (fun h => by first | exact h | simpa using h), trivial⟩ ?_
        refine OpsW.nil ?_
        refine AW.cond (b := cond (decide (x10 < (0 : Int))) true (decide (x13 < (0 : Int)))) rfl (fun c14 => ?_) (fun c14 => ?_)
        · replace H := condT c14 H
          refine AW.regionSeq ?_
          refine OpsW.seg 1 [57] [] [(57, .ref 2020 0 0)] (by kernel_rfl) trivial ?_
          refine OpsW.quietU (.ref 2020 0 0) rfl rfl (Quiet.nilCheck rfl (gpoU rfl ⟨trivial, rfl, rfl⟩)) ?_
          refine OpsW.seg 1 [59] [] [(59, .ref 2020 0 2)] (by kernel_rfl) trivial ?_
          refine OpsW.store rfl rfl rfl rfl trivial trivial rfl rfl rfl (by kernel_rfl) (okCb_sound (by kernel_rfl)) (Nat.le_of_ble_eq_true (by kernel_rfl)) ?_
          change OpsW _ _ _ _ _ [(2020, ⟨0, true, 91, 3, [.string v4.text_.rest_, .bool v4.text_.none_, .bool true]⟩), (2020, ⟨0, true, 91, 3, [.string v4.text_.rest_, .bool v4.text_.none_, .bool v4.wrong_]⟩), (5, rtA 0 5 1 (eI .u8) v5)] _
          refine OpsW.seg 0 [] [] [] (by kernel_rfl) trivial ?_
          refine OpsW.recast (env' := []) (h' := [(2020, ⟨0, true, 91, 3, [.string v4.text_.rest_, .bool v4.text_.none_, .bool true]⟩)]) (StC.mk (phi [(2020, some 2020)]) (.old rfl rfl rfl rfl rfl (.cons .im (.cons .im (.cons .im .nil))) .nil) rfl .nil) ?_
          refine OpsW.nil ?_
          refine AW.regionSeq ?_
          refine OpsW.seg 1 [2] [] [(2, .string (⟨#[]⟩ : ByteArray))] (by kernel_rfl) trivial ?_
          refine OpsW.nil ?_
          obtain rfl := Option.some.inj H
          refine AW.ret ?_
          show ∃ en' hp', StC _ _ en' hp' ∧ Done _ _ _ .ret en' hp'
          refine ⟨[(2, .string (⟨#[]⟩ : ByteArray))], [(2020, ⟨0, true, 91, 3, [.string v4.text_.rest_, .bool v4.text_.none_, .bool true]⟩)], (StC.mk (phi [(2020, some 2020)]) (.old rfl rfl rfl rfl rfl (.cons .im (.cons .im (.cons .im .nil))) .nil) rfl (.cons .im .nil)), ?_⟩
          refine Done.gen rfl (.tmp .nil) ?_
          exact ⟨by kernel_rfl, by kernel_rfl⟩
        · replace H := condF c14 H
          refine AW.skip ?_
          refine AW.region ?_
          refine OpsW.seg 6 [65, 60, 0, 3, 5, 6] [0 ≤ (4 : Int)] [(65, .int .u8 (IntKind.wrap .u8 (bOr .i64 (bShl .i64 x10 (4 : Int)) x13))), (60, .rsl 5 0 0 v5.length), (0, .ref 2020 0 0), (3, .string x1.1), (5, .rsl 5 0 0 v5.length), (6, .int .i64 v6)] (by kernel_rfl) ⟨(by decide), trivial⟩ ?_
          obtain ⟨g15, H⟩ := G_some H
          refine OpsW.appendLF (enc := eI .u8) [IntKind.wrap .u8 (bOr .i64 (bShl .i64 x10 (4 : Int)) x13)] rfl rfl rfl (by decide) rfl rfl rfl (by simp) E51 (fun _ => rfl) (by decide) trivial (by kernel_rfl) (by kernel_rfl) (by kernel_rfl) rfl rfl rfl g15 ?_
          refine OpsW.seg 1 [5, 0, 3, 6] [] [(5, .rsl 5 1 0 ((v5 ++ [IntKind.wrap .u8 (bOr .i64 (bShl .i64 x10 (4 : Int)) x13)]).length)), (0, .ref 2020 0 0), (3, .string x1.1), (6, .int .i64 v6)] (by kernel_rfl) trivial ?_
          refine OpsW.recast (env' := [(5, .rsl 5 0 0 ((v5 ++ [IntKind.wrap .u8 (bOr .i64 (bShl .i64 x10 (4 : Int)) x13)]).length)), (0, .ref 2020 0 0), (3, .string x1.1), (6, .int .i64 v6)]) (h' := [(5, rtA 0 5 1 (eI .u8) (v5 ++ [IntKind.wrap .u8 (bOr .i64 (bShl .i64 x10 (4 : Int)) x13)])), (2020, ⟨0, true, 91, 3, [.string v4.text_.rest_, .bool v4.text_.none_, .bool v4.wrong_]⟩)]) (StC.mk (phi [(5, some 5), (2020, some 2020)]) (.old rfl rfl rfl rfl rfl (CstL.ims _) (.old rfl rfl rfl rfl rfl (.cons .im (.cons .im (.cons .im .nil))) .nil)) rfl (.cons (.rsl rfl rfl rfl rfl rfl rfl) (.cons (.ref rfl rfl rfl rfl rfl) (.cons .im (.cons .im .nil))))) ?_
          refine OpsW.nil ?_
          refine AW.region ?_
          obtain ⟨g16, H⟩ := G_some H
          refine OpsW.seg 3 [6, 5, 0, 3] [inR (v6 + (2 : Int))] [(6, .int .i64 (v6 + (2 : Int))), (5, .rsl 5 0 0 ((v5 ++ [IntKind.wrap .u8 (bOr .i64 (bShl .i64 x10 (4 : Int)) x13)]).length)), (0, .ref 2020 0 0), (3, .string x1.1)] (by kernel_rfl) ⟨g16, trivial⟩ ?_
          refine OpsW.nil ?_
          show ∃ y, _ ∧ StC _ _ _ _
          exact ⟨(v4, v5 ++ [IntKind.wrap .u8 (bOr .i64 (bShl .i64 x10 (4 : Int)) x13)], v6 + (2 : Int)), H, (StC.mk (phi [(2020, some 2020), (5, some 5)]) (.old rfl rfl rfl rfl rfl (.cons .im (.cons .im (.cons .im .nil))) (.old rfl rfl rfl rfl rfl (CstL.ims _) .nil)) rfl (.cons (.ref rfl rfl rfl rfl rfl) (.cons .im (.cons (.rsl rfl rfl rfl rfl rfl rfl) (.cons .im .nil)))))⟩
      · replace H := condF c8 H
        refine AW.exit ?_
        refine AW.regionSeq ?_
        refine OpsW.seg 1 [68] [] [(68, .rsl 5 0 0 v5.length)] (by kernel_rfl) trivial ?_
        refine OpsW.quietU (.string (strOf v5)) rfl rfl (Quiet.toStr (e := 5) v5 rfl (by kernel_rfl) (by kernel_rfl) (by kernel_rfl) (gpoU rfl ⟨trivial, SlV.rsl rfl rfl, SrcA.rootF (enc := eI .u8) (fun _ => rfl) (by kernel_rfl) rfl⟩)) ?_
        refine OpsW.seg 1 [2] [] [(2, .string (strOf v5))] (by kernel_rfl) trivial ?_
        refine OpsW.nil ?_
        obtain rfl := Option.some.inj H
        refine AW.ret ?_
        show ∃ en' hp', StC _ _ en' hp' ∧ Done _ _ _ .ret en' hp'
        refine ⟨[(2, .string (strOf v5))], [(2020, ⟨0, true, 91, 3, [.string v4.text_.rest_, .bool v4.text_.none_, .bool v4.wrong_]⟩)], (StC.mk (phi [(2020, some 2020)]) (.old rfl rfl rfl rfl rfl (.cons .im (.cons .im (.cons .im .nil))) .nil) rfl (.cons .im .nil)), ?_⟩
        refine Done.gen rfl (.tmp .nil) ?_
        exact ⟨by kernel_rfl, by kernel_rfl⟩
def f_table_rule (t0 : S_Table) (t1 : ByteArray) : Option (Bool × S_Table) :=
  (f_table_fields_number (⟨(⟨t1, false⟩ : S_text), false⟩ : S_fields) (999 : Int)).bind fun x1 =>
  (f_table_fields_number x1.2 (999 : Int)).bind fun x2 =>
  (f_table_fields_number x2.2 (255 : Int)).bind fun x3 =>
  (f_table_fields_number x3.2 (255 : Int)).bind fun x4 =>
  (f_table_fields_cells x4.2).bind fun x5 =>
  (f_table_fields_bytes x5.2).bind fun x6 =>
  G (room 64 (t0.Rules.length + [(⟨x6.1, x5.1, IntKind.wrap .u8 x3.1, IntKind.wrap .u8 x4.1, x1.1, x2.1⟩ : S_Rule)].length)) <|
  (f_table_fields_right x6.2).bind fun x8 =>
  some (x8.1, (⟨t0.Modes, t0.Accept, t0.Rules ++ [(⟨x6.1, x5.1, IntKind.wrap .u8 x3.1, IntKind.wrap .u8 x4.1, x1.1, x2.1⟩ : S_Rule)]⟩ : S_Table))
theorem f_table_rule_io  {t0 : S_Table} {t1 : ByteArray} {r : Bool × S_Table} (H : f_table_rule t0 t1 = some r) : Abs.Spec Tryd.prog 44 [.ref 2010 0 0, .string t1] [(2010, ⟨0, true, 33, 3, [.int .i64 t0.Modes, .int .u8 t0.Accept, .rsl 3010 0 0 t0.Rules.length]⟩), (3010, rtA 0 36 6 eS_Rule t0.Rules)] (fun x h => x = .bool r.1 ∧ h = [(2010, ⟨0, true, 33, 3, [.int .i64 r.2.Modes, .int .u8 r.2.Accept, .rsl 3010 1 0 r.2.Rules.length]⟩), (3010, rtA 1 36 6 eS_Rule r.2.Rules)]) := by
  refine Spec.of_AW Tryd.func44 rfl (by simp [Tryd.ntmps44]) ?_
  rw [Tryd.ntmps44]
  unfold f_table_rule at H
  change AW _ _ _ [(0, .ref 2010 0 0), (1, .string t1)] [(2010, ⟨0, true, 33, 3, [.int .i64 t0.Modes, .int .u8 t0.Accept, .rsl 3010 0 0 t0.Rules.length]⟩), (3010, rtA 0 36 6 eS_Rule t0.Rules)] _
  refine AW.endcast ?_
  refine AW.regionSeq ?_
  refine OpsW.seg 1 [0, 1] [] [(0, .ref 2010 0 0), (1, .string t1)] (by kernel_rfl) trivial ?_
  refine OpsW.nil ?_
  refine AW.regionSeq ?_
  refine OpsW.seg 3 [9, 0] [] [(9, .agg [.string t1, .bool false, .bool false]), (0, .ref 2010 0 0)] (by kernel_rfl) trivial ?_
  refine OpsW.alloc' rfl rfl rfl 5 rfl (by kernel_rfl : zc Tryd.prog 91 = some [.string ⟨#[]⟩, .bool false, .bool false]) (by kernel_rfl) ?_
  refine OpsW.store rfl rfl rfl rfl trivial trivial rfl rfl rfl (by kernel_rfl) (okCb_sound (by kernel_rfl)) (Nat.le_of_ble_eq_true (by kernel_rfl)) ?_
  change OpsW _ _ _ _ _ [(5, ⟨0, true, 91, 3, [.string t1, .bool false, .bool false]⟩), (5, ⟨0, true, 91, 3, [.string (⟨#[]⟩ : ByteArray), .bool false, .bool false]⟩), (2010, ⟨0, true, 33, 3, [.int .i64 t0.Modes, .int .u8 t0.Accept, .rsl 3010 0 0 t0.Rules.length]⟩), (3010, rtA 0 36 6 eS_Rule t0.Rules)] _
  refine OpsW.seg 0 [5, 0] [] [(5, .ref 5 0 0), (0, .ref 2010 0 0)] (by kernel_rfl) trivial ?_
  refine OpsW.recast (env' := [(5, .ref 5 0 0), (0, .ref 2010 0 0)]) (h' := [(5, ⟨0, true, 91, 3, [.string t1, .bool false, .bool false]⟩), (2010, ⟨0, true, 33, 3, [.int .i64 t0.Modes, .int .u8 t0.Accept, .rsl 3010 0 0 t0.Rules.length]⟩), (3010, rtA 0 36 6 eS_Rule t0.Rules)]) (StC.mk (phi [(5, some 5), (2010, some 2010), (3010, some 3010)]) (.old rfl rfl rfl rfl rfl (.cons .im (.cons .im (.cons .im .nil))) (.old rfl rfl rfl rfl rfl (.cons .im (.cons .im (.cons (.rsl rfl rfl rfl rfl rfl rfl) .nil))) (.old rfl rfl rfl rfl rfl (CstL.ims _) .nil))) rfl (.cons (.ref rfl rfl rfl rfl rfl) (.cons (.ref rfl rfl rfl rfl rfl) .nil))) ?_
  refine OpsW.nil ?_
  refine AW.regionSeq ?_
  refine OpsW.alloc' rfl rfl rfl 6 rfl (by kernel_rfl : zc Tryd.prog 36 = some [.string ⟨#[]⟩, .slice none 0 0, .int .u8 0, .int .u8 0, .int .i64 0, .int .i64 0]) (by kernel_rfl) ?_
  refine OpsW.recast (env' := [(6, .ref 6 0 0), (5, .ref 5 0 0), (0, .ref 2010 0 0)]) (h' := [(5, ⟨0, true, 91, 3, [.string t1, .bool false, .bool false]⟩), (6, ⟨0, true, 36, 6, [.string (⟨#[]⟩ : ByteArray), .im (.val (.slice none 0 0)), .int .u8 0, .int .u8 0, .int .i64 0, .int .i64 0]⟩), (2010, ⟨0, true, 33, 3, [.int .i64 t0.Modes, .int .u8 t0.Accept, .rsl 3010 0 0 t0.Rules.length]⟩), (3010, rtA 0 36 6 eS_Rule t0.Rules)]) (StC.mk (phi [(5, some 5), (6, some 6), (2010, some 2010), (3010, some 3010)]) (.old rfl rfl rfl rfl rfl (.cons .im (.cons .im (.cons .im .nil))) (.old rfl rfl rfl rfl rfl (.cons .im (.cons .im (.cons .im (.cons .im (.cons .im (.cons .im .nil)))))) (.old rfl rfl rfl rfl rfl (.cons .im (.cons .im (.cons (.rsl rfl rfl rfl rfl rfl rfl) .nil))) (.old rfl rfl rfl rfl rfl (CstL.ims _) .nil)))) rfl (.cons (.ref rfl rfl rfl rfl rfl) (.cons (.ref rfl rfl rfl rfl rfl) (.cons (.ref rfl rfl rfl rfl rfl) .nil)))) ?_
  refine OpsW.nil ?_
  refine AW.regionSeq ?_
  refine OpsW.recast (env' := [(6, .ref 6 0 0), (5, .ref 5 0 0), (0, .ref 2010 0 0)]) (h' := [(5, ⟨0, true, 91, 3, [.string t1, .bool false, .bool false]⟩), (6, ⟨0, true, 36, 6, [.string (⟨#[]⟩ : ByteArray), .im (.val (.slice none 0 0)), .int .u8 0, .int .u8 0, .int .i64 0, .int .i64 0]⟩), (2010, ⟨0, true, 33, 3, [.int .i64 t0.Modes, .int .u8 t0.Accept, .rsl 3010 0 0 t0.Rules.length]⟩), (3010, rtA 0 36 6 eS_Rule t0.Rules)]) (StC.mk (phi [(5, some 5), (6, some 6), (2010, some 2010), (3010, some 3010)]) (.old rfl rfl rfl rfl rfl (.cons .im (.cons .im (.cons .im .nil))) (.old rfl rfl rfl rfl rfl (.cons .im (.cons .im (.cons .im (.cons .im (.cons .im (.cons .im .nil)))))) (.old rfl rfl rfl rfl rfl (.cons .im (.cons .im (.cons (.rsl rfl rfl rfl rfl rfl rfl) .nil))) (.old rfl rfl rfl rfl rfl (CstL.ims _) .nil)))) rfl (.cons (.ref rfl rfl rfl rfl rfl) (.cons (.ref rfl rfl rfl rfl rfl) (.cons (.ref rfl rfl rfl rfl rfl) .nil)))) ?_
  obtain ⟨x1, hx1, H⟩ := bindS H
  change OpsW _ _ _ _ [(6, .ref 6 0 0), (5, .ref 5 0 0), (0, .ref 2010 0 0)] ([(5, ⟨0, true, 91, 3, [.string t1, .bool false, .bool false]⟩)] ++ [(6, ⟨0, true, 36, 6, [.string (⟨#[]⟩ : ByteArray), .im (.val (.slice none 0 0)), .int .u8 0, .int .u8 0, .int .i64 0, .int .i64 0]⟩), (2010, ⟨0, true, 33, 3, [.int .i64 t0.Modes, .int .u8 t0.Accept, .rsl 3010 0 0 t0.Rules.length]⟩), (3010, rtA 0 36 6 eS_Rule t0.Rules)]) _
  refine OpsW.callR [(5, ⟨0, true, 91, 3, [.string t1, .bool false, .bool false]⟩)] [(6, ⟨0, true, 36, 6, [.string (⟨#[]⟩ : ByteArray), .im (.val (.slice none 0 0)), .int .u8 0, .int .u8 0, .int .i64 0, .int .i64 0]⟩), (2010, ⟨0, true, 33, 3, [.int .i64 t0.Modes, .int .u8 t0.Accept, .rsl 3010 0 0 t0.Rules.length]⟩), (3010, rtA 0 36 6 eS_Rule t0.Rules)] [(2020, ⟨0, true, 91, 3, [.string t1, .bool false, .bool false]⟩)] (phi [(2020, some 5)]) rfl rfl (by kernel_rfl) [.ref 2020 0 0, .int .i64 999] _ rfl (glAll_sound trivial) (.cons (.ref rfl rfl rfl rfl rfl) (.cons .im .nil)) (f_table_fields_number_io hx1) (fresh_of (by kernel_rfl)) (by kernel_rfl) (.cons rfl rfl rfl rfl rfl (.cons .im (.cons .im (.cons .im .nil))) .nil) ?_
  rintro _ _ ⟨rfl, rfl⟩
  refine ⟨.int .i64 x1.1, [(5, ⟨0, true, 91, 3, [.string x1.2.text_.rest_, .bool x1.2.text_.none_, .bool x1.2.wrong_]⟩)], phi [(5, some 2020)], fresh_of (by kernel_rfl), by kernel_rfl, by kernel_rfl, (.cons rfl rfl rfl rfl rfl (.cons .im (.cons .im (.cons .im .nil))) .nil), (.cons .im .nil), ?_⟩
  change OpsW _ _ _ _ [(10, .int .i64 x1.1), (6, .ref 6 0 0), (5, .ref 5 0 0), (0, .ref 2010 0 0)] [(5, ⟨0, true, 91, 3, [.string x1.2.text_.rest_, .bool x1.2.text_.none_, .bool x1.2.wrong_]⟩), (6, ⟨0, true, 36, 6, [.string (⟨#[]⟩ : ByteArray), .im (.val (.slice none 0 0)), .int .u8 0, .int .u8 0, .int .i64 0, .int .i64 0]⟩), (2010, ⟨0, true, 33, 3, [.int .i64 t0.Modes, .int .u8 t0.Accept, .rsl 3010 0 0 t0.Rules.length]⟩), (3010, rtA 0 36 6 eS_Rule t0.Rules)] _
  refine OpsW.seg 1 [11, 10, 6, 5, 0] [] [(11, .ref 6 0 4), (10, .int .i64 x1.1), (6, .ref 6 0 0), (5, .ref 5 0 0), (0, .ref 2010 0 0)] (by kernel_rfl) trivial ?_
  refine OpsW.store rfl rfl rfl rfl trivial trivial rfl rfl rfl (by kernel_rfl) (okCb_sound (by kernel_rfl)) (Nat.le_of_ble_eq_true (by kernel_rfl)) ?_
  change OpsW _ _ _ _ _ [(6, ⟨0, true, 36, 6, [.string (⟨#[]⟩ : ByteArray), .im (.val (.slice none 0 0)), .int .u8 0, .int .u8 0, .int .i64 x1.1, .int .i64 0]⟩), (5, ⟨0, true, 91, 3, [.string x1.2.text_.rest_, .bool x1.2.text_.none_, .bool x1.2.wrong_]⟩), (6, ⟨0, true, 36, 6, [.string (⟨#[]⟩ : ByteArray), .im (.val (.slice none 0 0)), .int .u8 0, .int .u8 0, .int .i64 0, .int .i64 0]⟩), (2010, ⟨0, true, 33, 3, [.int .i64 t0.Modes, .int .u8 t0.Accept, .rsl 3010 0 0 t0.Rules.length]⟩), (3010, rtA 0 36 6 eS_Rule t0.Rules)] _
  refine OpsW.seg 0 [6, 5, 0] [] [(6, .ref 6 0 0), (5, .ref 5 0 0), (0, .ref 2010 0 0)] (by kernel_rfl) trivial ?_
  refine OpsW.recast (env' := [(6, .ref 6 0 0), (5, .ref 5 0 0), (0, .ref 2010 0 0)]) (h' := [(5, ⟨0, true, 91, 3, [.string x1.2.text_.rest_, .bool x1.2.text_.none_, .bool x1.2.wrong_]⟩), (6, ⟨0, true, 36, 6, [.string (⟨#[]⟩ : ByteArray), .im (.val (.slice none 0 0)), .int .u8 0, .int .u8 0, .int .i64 x1.1, .int .i64 0]⟩), (2010, ⟨0, true, 33, 3, [.int .i64 t0.Modes, .int .u8 t0.Accept, .rsl 3010 0 0 t0.Rules.length]⟩), (3010, rtA 0 36 6 eS_Rule t0.Rules)]) (StC.mk (phi [(5, some 5), (6, some 6), (2010, some 2010), (3010, some 3010)]) (.old rfl rfl rfl rfl rfl (.cons .im (.cons .im (.cons .im .nil))) (.old rfl rfl rfl rfl rfl (.cons .im (.cons .im (.cons .im (.cons .im (.cons .im (.cons .im .nil)))))) (.old rfl rfl rfl rfl rfl (.cons .im (.cons .im (.cons (.rsl rfl rfl rfl rfl rfl rfl) .nil))) (.old rfl rfl rfl rfl rfl (CstL.ims _) .nil)))) rfl (.cons (.ref rfl rfl rfl rfl rfl) (.cons (.ref rfl rfl rfl rfl rfl) (.cons (.ref rfl rfl rfl rfl rfl) .nil)))) ?_
  refine OpsW.nil ?_
  refine AW.regionSeq ?_
  refine OpsW.recast (env' := [(6, .ref 6 0 0), (5, .ref 5 0 0), (0, .ref 2010 0 0)]) (h' := [(5, ⟨0, true, 91, 3, [.string x1.2.text_.rest_, .bool x1.2.text_.none_, .bool x1.2.wrong_]⟩), (6, ⟨0, true, 36, 6, [.string (⟨#[]⟩ : ByteArray), .im (.val (.slice none 0 0)), .int .u8 0, .int .u8 0, .int .i64 x1.1, .int .i64 0]⟩), (2010, ⟨0, true, 33, 3, [.int .i64 t0.Modes, .int .u8 t0.Accept, .rsl 3010 0 0 t0.Rules.length]⟩), (3010, rtA 0 36 6 eS_Rule t0.Rules)]) (StC.mk (phi [(5, some 5), (6, some 6), (2010, some 2010), (3010, some 3010)]) (.old rfl rfl rfl rfl rfl (.cons .im (.cons .im (.cons .im .nil))) (.old rfl rfl rfl rfl rfl (.cons .im (.cons .im (.cons .im (.cons .im (.cons .im (.cons .im .nil)))))) (.old rfl rfl rfl rfl rfl (.cons .im (.cons .im (.cons (.rsl rfl rfl rfl rfl rfl rfl) .nil))) (.old rfl rfl rfl rfl rfl (CstL.ims _) .nil)))) rfl (.cons (.ref rfl rfl rfl rfl rfl) (.cons (.ref rfl rfl rfl rfl rfl) (.cons (.ref rfl rfl rfl rfl rfl) .nil)))) ?_
  obtain ⟨x2, hx2, H⟩ := bindS H
  change OpsW _ _ _ _ [(6, .ref 6 0 0), (5, .ref 5 0 0), (0, .ref 2010 0 0)] ([(5, ⟨0, true, 91, 3, [.string x1.2.text_.rest_, .bool x1.2.text_.none_, .bool x1.2.wrong_]⟩)] ++ [(6, ⟨0, true, 36, 6, [.string (⟨#[]⟩ : ByteArray), .im (.val (.slice none 0 0)), .int .u8 0, .int .u8 0, .int .i64 x1.1, .int .i64 0]⟩), (2010, ⟨0, true, 33, 3, [.int .i64 t0.Modes, .int .u8 t0.Accept, .rsl 3010 0 0 t0.Rules.length]⟩), (3010, rtA 0 36 6 eS_Rule t0.Rules)]) _
  refine OpsW.callR [(5, ⟨0, true, 91, 3, [.string x1.2.text_.rest_, .bool x1.2.text_.none_, .bool x1.2.wrong_]⟩)] [(6, ⟨0, true, 36, 6, [.string (⟨#[]⟩ : ByteArray), .im (.val (.slice none 0 0)), .int .u8 0, .int .u8 0, .int .i64 x1.1, .int .i64 0]⟩), (2010, ⟨0, true, 33, 3, [.int .i64 t0.Modes, .int .u8 t0.Accept, .rsl 3010 0 0 t0.Rules.length]⟩), (3010, rtA 0 36 6 eS_Rule t0.Rules)] [(2020, ⟨0, true, 91, 3, [.string x1.2.text_.rest_, .bool x1.2.text_.none_, .bool x1.2.wrong_]⟩)] (phi [(2020, some 5)]) rfl rfl (by kernel_rfl) [.ref 2020 0 0, .int .i64 999] _ rfl (glAll_sound trivial) (.cons (.ref rfl rfl rfl rfl rfl) (.cons .im .nil)) (f_table_fields_number_io hx2) (fresh_of (by kernel_rfl)) (by kernel_rfl) (.cons rfl rfl rfl rfl rfl (.cons .im (.cons .im (.cons .im .nil))) .nil) ?_
  rintro _ _ ⟨rfl, rfl⟩
  refine ⟨.int .i64 x2.1, [(5, ⟨0, true, 91, 3, [.string x2.2.text_.rest_, .bool x2.2.text_.none_, .bool x2.2.wrong_]⟩)], phi [(5, some 2020)], fresh_of (by kernel_rfl), by kernel_rfl, by kernel_rfl, (.cons rfl rfl rfl rfl rfl (.cons .im (.cons .im (.cons .im .nil))) .nil), (.cons .im .nil), ?_⟩
  change OpsW _ _ _ _ [(12, .int .i64 x2.1), (6, .ref 6 0 0), (5, .ref 5 0 0), (0, .ref 2010 0 0)] [(5, ⟨0, true, 91, 3, [.string x2.2.text_.rest_, .bool x2.2.text_.none_, .bool x2.2.wrong_]⟩), (6, ⟨0, true, 36, 6, [.string (⟨#[]⟩ : ByteArray), .im (.val (.slice none 0 0)), .int .u8 0, .int .u8 0, .int .i64 x1.1, .int .i64 0]⟩), (2010, ⟨0, true, 33, 3, [.int .i64 t0.Modes, .int .u8 t0.Accept, .rsl 3010 0 0 t0.Rules.length]⟩), (3010, rtA 0 36 6 eS_Rule t0.Rules)] _
  refine OpsW.seg 1 [13, 12, 6, 5, 0] [] [(13, .ref 6 0 5), (12, .int .i64 x2.1), (6, .ref 6 0 0), (5, .ref 5 0 0), (0, .ref 2010 0 0)] (by kernel_rfl) trivial ?_
  refine OpsW.store rfl rfl rfl rfl trivial trivial rfl rfl rfl (by kernel_rfl) (okCb_sound (by kernel_rfl)) (Nat.le_of_ble_eq_true (by kernel_rfl)) ?_
  change OpsW _ _ _ _ _ [(6, ⟨0, true, 36, 6, [.string (⟨#[]⟩ : ByteArray), .im (.val (.slice none 0 0)), .int .u8 0, .int .u8 0, .int .i64 x1.1, .int .i64 x2.1]⟩), (5, ⟨0, true, 91, 3, [.string x2.2.text_.rest_, .bool x2.2.text_.none_, .bool x2.2.wrong_]⟩), (6, ⟨0, true, 36, 6, [.string (⟨#[]⟩ : ByteArray), .im (.val (.slice none 0 0)), .int .u8 0, .int .u8 0, .int .i64 x1.1, .int .i64 0]⟩), (2010, ⟨0, true, 33, 3, [.int .i64 t0.Modes, .int .u8 t0.Accept, .rsl 3010 0 0 t0.Rules.length]⟩), (3010, rtA 0 36 6 eS_Rule t0.Rules)] _
  refine OpsW.seg 0 [6, 5, 0] [] [(6, .ref 6 0 0), (5, .ref 5 0 0), (0, .ref 2010 0 0)] (by kernel_rfl) trivial ?_
  refine OpsW.recast (env' := [(6, .ref 6 0 0), (5, .ref 5 0 0), (0, .ref 2010 0 0)]) (h' := [(5, ⟨0, true, 91, 3, [.string x2.2.text_.rest_, .bool x2.2.text_.none_, .bool x2.2.wrong_]⟩), (6, ⟨0, true, 36, 6, [.string (⟨#[]⟩ : ByteArray), .im (.val (.slice none 0 0)), .int .u8 0, .int .u8 0, .int .i64 x1.1, .int .i64 x2.1]⟩), (2010, ⟨0, true, 33, 3, [.int .i64 t0.Modes, .int .u8 t0.Accept, .rsl 3010 0 0 t0.Rules.length]⟩), (3010, rtA 0 36 6 eS_Rule t0.Rules)]) (StC.mk (phi [(5, some 5), (6, some 6), (2010, some 2010), (3010, some 3010)]) (.old rfl rfl rfl rfl rfl (.cons .im (.cons .im (.cons .im .nil))) (.old rfl rfl rfl rfl rfl (.cons .im (.cons .im (.cons .im (.cons .im (.cons .im (.cons .im .nil)))))) (.old rfl rfl rfl rfl rfl (.cons .im (.cons .im (.cons (.rsl rfl rfl rfl rfl rfl rfl) .nil))) (.old rfl rfl rfl rfl rfl (CstL.ims _) .nil)))) rfl (.cons (.ref rfl rfl rfl rfl rfl) (.cons (.ref rfl rfl rfl rfl rfl) (.cons (.ref rfl rfl rfl rfl rfl) .nil)))) ?_
  refine OpsW.nil ?_
  refine AW.regionSeq ?_
  refine OpsW.recast (env' := [(6, .ref 6 0 0), (5, .ref 5 0 0), (0, .ref 2010 0 0)]) (h' := [(5, ⟨0, true, 91, 3, [.string x2.2.text_.rest_, .bool x2.2.text_.none_, .bool x2.2.wrong_]⟩), (6, ⟨0, true, 36, 6, [.string (⟨#[]⟩ : ByteArray), .im (.val (.slice none 0 0)), .int .u8 0, .int .u8 0, .int .i64 x1.1, .int .i64 x2.1]⟩), (2010, ⟨0, true, 33, 3, [.int .i64 t0.Modes, .int .u8 t0.Accept, .rsl 3010 0 0 t0.Rules.length]⟩), (3010, rtA 0 36 6 eS_Rule t0.Rules)]) (StC.mk (phi [(5, some 5), (6, some 6), (2010, some 2010), (3010, some 3010)]) (.old rfl rfl rfl rfl rfl (.cons .im (.cons .im (.cons .im .nil))) (.old rfl rfl rfl rfl rfl (.cons .im (.cons .im (.cons .im (.cons .im (.cons .im (.cons .im .nil)))))) (.old rfl rfl rfl rfl rfl (.cons .im (.cons .im (.cons (.rsl rfl rfl rfl rfl rfl rfl) .nil))) (.old rfl rfl rfl rfl rfl (CstL.ims _) .nil)))) rfl (.cons (.ref rfl rfl rfl rfl rfl) (.cons (.ref rfl rfl rfl rfl rfl) (.cons (.ref rfl rfl rfl rfl rfl) .nil)))) ?_
  obtain ⟨x3, hx3, H⟩ := bindS H
  change OpsW _ _ _ _ [(6, .ref 6 0 0), (5, .ref 5 0 0), (0, .ref 2010 0 0)] ([(5, ⟨0, true, 91, 3, [.string x2.2.text_.rest_, .bool x2.2.text_.none_, .bool x2.2.wrong_]⟩)] ++ [(6, ⟨0, true, 36, 6, [.string (⟨#[]⟩ : ByteArray), .im (.val (.slice none 0 0)), .int .u8 0, .int .u8 0, .int .i64 x1.1, .int .i64 x2.1]⟩), (2010, ⟨0, true, 33, 3, [.int .i64 t0.Modes, .int .u8 t0.Accept, .rsl 3010 0 0 t0.Rules.length]⟩), (3010, rtA 0 36 6 eS_Rule t0.Rules)]) _
  refine OpsW.callR [(5, ⟨0, true, 91, 3, [.string x2.2.text_.rest_, .bool x2.2.text_.none_, .bool x2.2.wrong_]⟩)] [(6, ⟨0, true, 36, 6, [.string (⟨#[]⟩ : ByteArray), .im (.val (.slice none 0 0)), .int .u8 0, .int .u8 0, .int .i64 x1.1, .int .i64 x2.1]⟩), (2010, ⟨0, true, 33, 3, [.int .i64 t0.Modes, .int .u8 t0.Accept, .rsl 3010 0 0 t0.Rules.length]⟩), (3010, rtA 0 36 6 eS_Rule t0.Rules)] [(2020, ⟨0, true, 91, 3, [.string x2.2.text_.rest_, .bool x2.2.text_.none_, .bool x2.2.wrong_]⟩)] (phi [(2020, some 5)]) rfl rfl (by kernel_rfl) [.ref 2020 0 0, .int .i64 255] _ rfl (glAll_sound trivial) (.cons (.ref rfl rfl rfl rfl rfl) (.cons .im .nil)) (f_table_fields_number_io hx3) (fresh_of (by kernel_rfl)) (by kernel_rfl) (.cons rfl rfl rfl rfl rfl (.cons .im (.cons .im (.cons .im .nil))) .nil) ?_
  rintro _ _ ⟨rfl, rfl⟩
  refine ⟨.int .i64 x3.1, [(5, ⟨0, true, 91, 3, [.string x3.2.text_.rest_, .bool x3.2.text_.none_, .bool x3.2.wrong_]⟩)], phi [(5, some 2020)], fresh_of (by kernel_rfl), by kernel_rfl, by kernel_rfl, (.cons rfl rfl rfl rfl rfl (.cons .im (.cons .im (.cons .im .nil))) .nil), (.cons .im .nil), ?_⟩
  change OpsW _ _ _ _ [(14, .int .i64 x3.1), (6, .ref 6 0 0), (5, .ref 5 0 0), (0, .ref 2010 0 0)] [(5, ⟨0, true, 91, 3, [.string x3.2.text_.rest_, .bool x3.2.text_.none_, .bool x3.2.wrong_]⟩), (6, ⟨0, true, 36, 6, [.string (⟨#[]⟩ : ByteArray), .im (.val (.slice none 0 0)), .int .u8 0, .int .u8 0, .int .i64 x1.1, .int .i64 x2.1]⟩), (2010, ⟨0, true, 33, 3, [.int .i64 t0.Modes, .int .u8 t0.Accept, .rsl 3010 0 0 t0.Rules.length]⟩), (3010, rtA 0 36 6 eS_Rule t0.Rules)] _
  refine OpsW.seg 2 [16, 15, 6, 5, 0] [] [(16, .ref 6 0 2), (15, .int .u8 (IntKind.wrap .u8 x3.1)), (6, .ref 6 0 0), (5, .ref 5 0 0), (0, .ref 2010 0 0)] (by kernel_rfl) trivial ?_
  refine OpsW.store rfl rfl rfl rfl trivial trivial rfl rfl rfl (by kernel_rfl) (okCb_sound (by kernel_rfl)) (Nat.le_of_ble_eq_true (by kernel_rfl)) ?_
  change OpsW _ _ _ _ _ [(6, ⟨0, true, 36, 6, [.string (⟨#[]⟩ : ByteArray), .im (.val (.slice none 0 0)), .int .u8 (IntKind.wrap .u8 x3.1), .int .u8 0, .int .i64 x1.1, .int .i64 x2.1]⟩), (5, ⟨0, true, 91, 3, [.string x3.2.text_.rest_, .bool x3.2.text_.none_, .bool x3.2.wrong_]⟩), (6, ⟨0, true, 36, 6, [.string (⟨#[]⟩ : ByteArray), .im (.val (.slice none 0 0)), .int .u8 0, .int .u8 0, .int .i64 x1.1, .int .i64 x2.1]⟩), (2010, ⟨0, true, 33, 3, [.int .i64 t0.Modes, .int .u8 t0.Accept, .rsl 3010 0 0 t0.Rules.length]⟩), (3010, rtA 0 36 6 eS_Rule t0.Rules)] _
  refine OpsW.seg 0 [6, 5, 0] [] [(6, .ref 6 0 0), (5, .ref 5 0 0), (0, .ref 2010 0 0)] (by kernel_rfl) trivial ?_
  refine OpsW.recast (env' := [(6, .ref 6 0 0), (5, .ref 5 0 0), (0, .ref 2010 0 0)]) (h' := [(5, ⟨0, true, 91, 3, [.string x3.2.text_.rest_, .bool x3.2.text_.none_, .bool x3.2.wrong_]⟩), (6, ⟨0, true, 36, 6, [.string (⟨#[]⟩ : ByteArray), .im (.val (.slice none 0 0)), .int .u8 (IntKind.wrap .u8 x3.1), .int .u8 0, .int .i64 x1.1, .int .i64 x2.1]⟩), (2010, ⟨0, true, 33, 3, [.int .i64 t0.Modes, .int .u8 t0.Accept, .rsl 3010 0 0 t0.Rules.length]⟩), (3010, rtA 0 36 6 eS_Rule t0.Rules)]) (StC.mk (phi [(5, some 5), (6, some 6), (2010, some 2010), (3010, some 3010)]) (.old rfl rfl rfl rfl rfl (.cons .im (.cons .im (.cons .im .nil))) (.old rfl rfl rfl rfl rfl (.cons .im (.cons .im (.cons .im (.cons .im (.cons .im (.cons .im .nil)))))) (.old rfl rfl rfl rfl rfl (.cons .im (.cons .im (.cons (.rsl rfl rfl rfl rfl rfl rfl) .nil))) (.old rfl rfl rfl rfl rfl (CstL.ims _) .nil)))) rfl (.cons (.ref rfl rfl rfl rfl rfl) (.cons (.ref rfl rfl rfl rfl rfl) (.cons (.ref rfl rfl rfl rfl rfl) .nil)))) ?_
  refine OpsW.nil ?_
  refine AW.regionSeq ?_
  refine OpsW.recast (env' := [(6, .ref 6 0 0), (5, .ref 5 0 0), (0, .ref 2010 0 0)]) (h' := [(5, ⟨0, true, 91, 3, [.string x3.2.text_.rest_, .bool x3.2.text_.none_, .bool x3.2.wrong_]⟩), (6, ⟨0, true, 36, 6, [.string (⟨#[]⟩ : ByteArray), .im (.val (.slice none 0 0)), .int .u8 (IntKind.wrap .u8 x3.1), .int .u8 0, .int .i64 x1.1, .int .i64 x2.1]⟩), (2010, ⟨0, true, 33, 3, [.int .i64 t0.Modes, .int .u8 t0.Accept, .rsl 3010 0 0 t0.Rules.length]⟩), (3010, rtA 0 36 6 eS_Rule t0.Rules)]) (StC.mk (phi [(5, some 5), (6, some 6), (2010, some 2010), (3010, some 3010)]) (.old rfl rfl rfl rfl rfl (.cons .im (.cons .im (.cons .im .nil))) (.old rfl rfl rfl rfl rfl (.cons .im (.cons .im (.cons .im (.cons .im (.cons .im (.cons .im .nil)))))) (.old rfl rfl rfl rfl rfl (.cons .im (.cons .im (.cons (.rsl rfl rfl rfl rfl rfl rfl) .nil))) (.old rfl rfl rfl rfl rfl (CstL.ims _) .nil)))) rfl (.cons (.ref rfl rfl rfl rfl rfl) (.cons (.ref rfl rfl rfl rfl rfl) (.cons (.ref rfl rfl rfl rfl rfl) .nil)))) ?_
  obtain ⟨x4, hx4, H⟩ := bindS H
  change OpsW _ _ _ _ [(6, .ref 6 0 0), (5, .ref 5 0 0), (0, .ref 2010 0 0)] ([(5, ⟨0, true, 91, 3, [.string x3.2.text_.rest_, .bool x3.2.text_.none_, .bool x3.2.wrong_]⟩)] ++ [(6, ⟨0, true, 36, 6, [.string (⟨#[]⟩ : ByteArray), .im (.val (.slice none 0 0)), .int .u8 (IntKind.wrap .u8 x3.1), .int .u8 0, .int .i64 x1.1, .int .i64 x2.1]⟩), (2010, ⟨0, true, 33, 3, [.int .i64 t0.Modes, .int .u8 t0.Accept, .rsl 3010 0 0 t0.Rules.length]⟩), (3010, rtA 0 36 6 eS_Rule t0.Rules)]) _
  refine OpsW.callR [(5, ⟨0, true, 91, 3, [.string x3.2.text_.rest_, .bool x3.2.text_.none_, .bool x3.2.wrong_]⟩)] [(6, ⟨0, true, 36, 6, [.string (⟨#[]⟩ : ByteArray), .im (.val (.slice none 0 0)), .int .u8 (IntKind.wrap .u8 x3.1), .int .u8 0, .int .i64 x1.1, .int .i64 x2.1]⟩), (2010, ⟨0, true, 33, 3, [.int .i64 t0.Modes, .int .u8 t0.Accept, .rsl 3010 0 0 t0.Rules.length]⟩), (3010, rtA 0 36 6 eS_Rule t0.Rules)] [(2020, ⟨0, true, 91, 3, [.string x3.2.text_.rest_, .bool x3.2.text_.none_, .bool x3.2.wrong_]⟩)] (phi [(2020, some 5)]) rfl rfl (by kernel_rfl) [.ref 2020 0 0, .int .i64 255] _ rfl (glAll_sound trivial) (.cons (.ref rfl rfl rfl rfl rfl) (.cons .im .nil)) (f_table_fields_number_io hx4) (fresh_of (by kernel_rfl)) (by kernel_rfl) (.cons rfl rfl rfl rfl rfl (.cons .im (.cons .im (.cons .im .nil))) .nil) ?_
  rintro _ _ ⟨rfl, rfl⟩
  refine ⟨.int .i64 x4.1, [(5, ⟨0, true, 91, 3, [.string x4.2.text_.rest_, .bool x4.2.text_.none_, .bool x4.2.wrong_]⟩)], phi [(5, some 2020)], fresh_of (by kernel_rfl), by kernel_rfl, by kernel_rfl, (.cons rfl rfl rfl rfl rfl (.cons .im (.cons .im (.cons .im .nil))) .nil), (.cons .im .nil), ?_⟩
  change OpsW _ _ _ _ [(17, .int .i64 x4.1), (6, .ref 6 0 0), (5, .ref 5 0 0), (0, .ref 2010 0 0)] [(5, ⟨0, true, 91, 3, [.string x4.2.text_.rest_, .bool x4.2.text_.none_, .bool x4.2.wrong_]⟩), (6, ⟨0, true, 36, 6, [.string (⟨#[]⟩ : ByteArray), .im (.val (.slice none 0 0)), .int .u8 (IntKind.wrap .u8 x3.1), .int .u8 0, .int .i64 x1.1, .int .i64 x2.1]⟩), (2010, ⟨0, true, 33, 3, [.int .i64 t0.Modes, .int .u8 t0.Accept, .rsl 3010 0 0 t0.Rules.length]⟩), (3010, rtA 0 36 6 eS_Rule t0.Rules)] _
  refine OpsW.seg 2 [19, 18, 6, 5, 0] [] [(19, .ref 6 0 3), (18, .int .u8 (IntKind.wrap .u8 x4.1)), (6, .ref 6 0 0), (5, .ref 5 0 0), (0, .ref 2010 0 0)] (by kernel_rfl) trivial ?_
  refine OpsW.store rfl rfl rfl rfl trivial trivial rfl rfl rfl (by kernel_rfl) (okCb_sound (by kernel_rfl)) (Nat.le_of_ble_eq_true (by kernel_rfl)) ?_
  change OpsW _ _ _ _ _ [(6, ⟨0, true, 36, 6, [.string (⟨#[]⟩ : ByteArray), .im (.val (.slice none 0 0)), .int .u8 (IntKind.wrap .u8 x3.1), .int .u8 (IntKind.wrap .u8 x4.1), .int .i64 x1.1, .int .i64 x2.1]⟩), (5, ⟨0, true, 91, 3, [.string x4.2.text_.rest_, .bool x4.2.text_.none_, .bool x4.2.wrong_]⟩), (6, ⟨0, true, 36, 6, [.string (⟨#[]⟩ : ByteArray), .im (.val (.slice none 0 0)), .int .u8 (IntKind.wrap .u8 x3.1), .int .u8 0, .int .i64 x1.1, .int .i64 x2.1]⟩), (2010, ⟨0, true, 33, 3, [.int .i64 t0.Modes, .int .u8 t0.Accept, .rsl 3010 0 0 t0.Rules.length]⟩), (3010, rtA 0 36 6 eS_Rule t0.Rules)] _
  refine OpsW.seg 0 [6, 5, 0] [] [(6, .ref 6 0 0), (5, .ref 5 0 0), (0, .ref 2010 0 0)] (by kernel_rfl) trivial ?_
  refine OpsW.recast (env' := [(6, .ref 6 0 0), (5, .ref 5 0 0), (0, .ref 2010 0 0)]) (h' := [(5, ⟨0, true, 91, 3, [.string x4.2.text_.rest_, .bool x4.2.text_.none_, .bool x4.2.wrong_]⟩), (6, ⟨0, true, 36, 6, [.string (⟨#[]⟩ : ByteArray), .im (.val (.slice none 0 0)), .int .u8 (IntKind.wrap .u8 x3.1), .int .u8 (IntKind.wrap .u8 x4.1), .int .i64 x1.1, .int .i64 x2.1]⟩), (2010, ⟨0, true, 33, 3, [.int .i64 t0.Modes, .int .u8 t0.Accept, .rsl 3010 0 0 t0.Rules.length]⟩), (3010, rtA 0 36 6 eS_Rule t0.Rules)]) (StC.mk (phi [(5, some 5), (6, some 6), (2010, some 2010), (3010, some 3010)]) (.old rfl rfl rfl rfl rfl (.cons .im (.cons .im (.cons .im .nil))) (.old rfl rfl rfl rfl rfl (.cons .im (.cons .im (.cons .im (.cons .im (.cons .im (.cons .im .nil)))))) (.old rfl rfl rfl rfl rfl (.cons .im (.cons .im (.cons (.rsl rfl rfl rfl rfl rfl rfl) .nil))) (.old rfl rfl rfl rfl rfl (CstL.ims _) .nil)))) rfl (.cons (.ref rfl rfl rfl rfl rfl) (.cons (.ref rfl rfl rfl rfl rfl) (.cons (.ref rfl rfl rfl rfl rfl) .nil)))) ?_
  refine OpsW.nil ?_
  refine AW.regionSeq ?_
  refine OpsW.recast (env' := [(6, .ref 6 0 0), (5, .ref 5 0 0), (0, .ref 2010 0 0)]) (h' := [(5, ⟨0, true, 91, 3, [.string x4.2.text_.rest_, .bool x4.2.text_.none_, .bool x4.2.wrong_]⟩), (6, ⟨0, true, 36, 6, [.string (⟨#[]⟩ : ByteArray), .im (.val (.slice none 0 0)), .int .u8 (IntKind.wrap .u8 x3.1), .int .u8 (IntKind.wrap .u8 x4.1), .int .i64 x1.1, .int .i64 x2.1]⟩), (2010, ⟨0, true, 33, 3, [.int .i64 t0.Modes, .int .u8 t0.Accept, .rsl 3010 0 0 t0.Rules.length]⟩), (3010, rtA 0 36 6 eS_Rule t0.Rules)]) (StC.mk (phi [(5, some 5), (6, some 6), (2010, some 2010), (3010, some 3010)]) (.old rfl rfl rfl rfl rfl (.cons .im (.cons .im (.cons .im .nil))) (.old rfl rfl rfl rfl rfl (.cons .im (.cons .im (.cons .im (.cons .im (.cons .im (.cons .im .nil)))))) (.old rfl rfl rfl rfl rfl (.cons .im (.cons .im (.cons (.rsl rfl rfl rfl rfl rfl rfl) .nil))) (.old rfl rfl rfl rfl rfl (CstL.ims _) .nil)))) rfl (.cons (.ref rfl rfl rfl rfl rfl) (.cons (.ref rfl rfl rfl rfl rfl) (.cons (.ref rfl rfl rfl rfl rfl) .nil)))) ?_
  obtain ⟨x5, hx5, H⟩ := bindS H
  change OpsW _ _ _ _ [(6, .ref 6 0 0), (5, .ref 5 0 0), (0, .ref 2010 0 0)] ([(5, ⟨0, true, 91, 3, [.string x4.2.text_.rest_, .bool x4.2.text_.none_, .bool x4.2.wrong_]⟩)] ++ [(6, ⟨0, true, 36, 6, [.string (⟨#[]⟩ : ByteArray), .im (.val (.slice none 0 0)), .int .u8 (IntKind.wrap .u8 x3.1), .int .u8 (IntKind.wrap .u8 x4.1), .int .i64 x1.1, .int .i64 x2.1]⟩), (2010, ⟨0, true, 33, 3, [.int .i64 t0.Modes, .int .u8 t0.Accept, .rsl 3010 0 0 t0.Rules.length]⟩), (3010, rtA 0 36 6 eS_Rule t0.Rules)]) _
  refine OpsW.callR [(5, ⟨0, true, 91, 3, [.string x4.2.text_.rest_, .bool x4.2.text_.none_, .bool x4.2.wrong_]⟩)] [(6, ⟨0, true, 36, 6, [.string (⟨#[]⟩ : ByteArray), .im (.val (.slice none 0 0)), .int .u8 (IntKind.wrap .u8 x3.1), .int .u8 (IntKind.wrap .u8 x4.1), .int .i64 x1.1, .int .i64 x2.1]⟩), (2010, ⟨0, true, 33, 3, [.int .i64 t0.Modes, .int .u8 t0.Accept, .rsl 3010 0 0 t0.Rules.length]⟩), (3010, rtA 0 36 6 eS_Rule t0.Rules)] [(2020, ⟨0, true, 91, 3, [.string x4.2.text_.rest_, .bool x4.2.text_.none_, .bool x4.2.wrong_]⟩)] (phi [(2020, some 5)]) rfl rfl (by kernel_rfl) [.ref 2020 0 0] _ rfl (glAll_sound trivial) (.cons (.ref rfl rfl rfl rfl rfl) .nil) (f_table_fields_cells_io hx5) (fresh_of (by kernel_rfl)) (by kernel_rfl) (.cons rfl rfl rfl rfl rfl (.cons .im (.cons .im (.cons .im .nil))) .nil) ?_
  rintro _ _ ⟨rfl, rfl⟩
  refine ⟨slA (eI .u8) x5.1, [(5, ⟨0, true, 91, 3, [.string x5.2.text_.rest_, .bool x5.2.text_.none_, .bool x5.2.wrong_]⟩)], phi [(5, some 2020)], fresh_of (by kernel_rfl), by kernel_rfl, by kernel_rfl, (.cons rfl rfl rfl rfl rfl (.cons .im (.cons .im (.cons .im .nil))) .nil), (.cons .im .nil), ?_⟩
  change OpsW _ _ _ _ [(20, slA (eI .u8) x5.1), (6, .ref 6 0 0), (5, .ref 5 0 0), (0, .ref 2010 0 0)] [(5, ⟨0, true, 91, 3, [.string x5.2.text_.rest_, .bool x5.2.text_.none_, .bool x5.2.wrong_]⟩), (6, ⟨0, true, 36, 6, [.string (⟨#[]⟩ : ByteArray), .im (.val (.slice none 0 0)), .int .u8 (IntKind.wrap .u8 x3.1), .int .u8 (IntKind.wrap .u8 x4.1), .int .i64 x1.1, .int .i64 x2.1]⟩), (2010, ⟨0, true, 33, 3, [.int .i64 t0.Modes, .int .u8 t0.Accept, .rsl 3010 0 0 t0.Rules.length]⟩), (3010, rtA 0 36 6 eS_Rule t0.Rules)] _
  refine OpsW.seg 1 [21, 20, 6, 5, 0] [] [(21, .ref 6 0 1), (20, slA (eI .u8) x5.1), (6, .ref 6 0 0), (5, .ref 5 0 0), (0, .ref 2010 0 0)] (by kernel_rfl) trivial ?_
  refine OpsW.store rfl rfl rfl rfl trivial trivial rfl rfl rfl (by kernel_rfl) (okCb_sound (by kernel_rfl)) (Nat.le_of_ble_eq_true (by kernel_rfl)) ?_
  change OpsW _ _ _ _ _ [(6, ⟨0, true, 36, 6, [.string (⟨#[]⟩ : ByteArray), slA (eI .u8) x5.1, .int .u8 (IntKind.wrap .u8 x3.1), .int .u8 (IntKind.wrap .u8 x4.1), .int .i64 x1.1, .int .i64 x2.1]⟩), (5, ⟨0, true, 91, 3, [.string x5.2.text_.rest_, .bool x5.2.text_.none_, .bool x5.2.wrong_]⟩), (6, ⟨0, true, 36, 6, [.string (⟨#[]⟩ : ByteArray), .im (.val (.slice none 0 0)), .int .u8 (IntKind.wrap .u8 x3.1), .int .u8 (IntKind.wrap .u8 x4.1), .int .i64 x1.1, .int .i64 x2.1]⟩), (2010, ⟨0, true, 33, 3, [.int .i64 t0.Modes, .int .u8 t0.Accept, .rsl 3010 0 0 t0.Rules.length]⟩), (3010, rtA 0 36 6 eS_Rule t0.Rules)] _
  refine OpsW.seg 0 [6, 5, 0] [] [(6, .ref 6 0 0), (5, .ref 5 0 0), (0, .ref 2010 0 0)] (by kernel_rfl) trivial ?_
  refine OpsW.recast (env' := [(6, .ref 6 0 0), (5, .ref 5 0 0), (0, .ref 2010 0 0)]) (h' := [(5, ⟨0, true, 91, 3, [.string x5.2.text_.rest_, .bool x5.2.text_.none_, .bool x5.2.wrong_]⟩), (6, ⟨0, true, 36, 6, [.string (⟨#[]⟩ : ByteArray), slA (eI .u8) x5.1, .int .u8 (IntKind.wrap .u8 x3.1), .int .u8 (IntKind.wrap .u8 x4.1), .int .i64 x1.1, .int .i64 x2.1]⟩), (2010, ⟨0, true, 33, 3, [.int .i64 t0.Modes, .int .u8 t0.Accept, .rsl 3010 0 0 t0.Rules.length]⟩), (3010, rtA 0 36 6 eS_Rule t0.Rules)]) (StC.mk (phi [(5, some 5), (6, some 6), (2010, some 2010), (3010, some 3010)]) (.old rfl rfl rfl rfl rfl (.cons .im (.cons .im (.cons .im .nil))) (.old rfl rfl rfl rfl rfl (.cons .im (.cons .im (.cons .im (.cons .im (.cons .im (.cons .im .nil)))))) (.old rfl rfl rfl rfl rfl (.cons .im (.cons .im (.cons (.rsl rfl rfl rfl rfl rfl rfl) .nil))) (.old rfl rfl rfl rfl rfl (CstL.ims _) .nil)))) rfl (.cons (.ref rfl rfl rfl rfl rfl) (.cons (.ref rfl rfl rfl rfl rfl) (.cons (.ref rfl rfl rfl rfl rfl) .nil)))) ?_
  refine OpsW.nil ?_
  refine AW.regionSeq ?_
  refine OpsW.recast (env' := [(6, .ref 6 0 0), (5, .ref 5 0 0), (0, .ref 2010 0 0)]) (h' := [(5, ⟨0, true, 91, 3, [.string x5.2.text_.rest_, .bool x5.2.text_.none_, .bool x5.2.wrong_]⟩), (6, ⟨0, true, 36, 6, [.string (⟨#[]⟩ : ByteArray), slA (eI .u8) x5.1, .int .u8 (IntKind.wrap .u8 x3.1), .int .u8 (IntKind.wrap .u8 x4.1), .int .i64 x1.1, .int .i64 x2.1]⟩), (2010, ⟨0, true, 33, 3, [.int .i64 t0.Modes, .int .u8 t0.Accept, .rsl 3010 0 0 t0.Rules.length]⟩), (3010, rtA 0 36 6 eS_Rule t0.Rules)]) (StC.mk (phi [(5, some 5), (6, some 6), (2010, some 2010), (3010, some 3010)]) (.old rfl rfl rfl rfl rfl (.cons .im (.cons .im (.cons .im .nil))) (.old rfl rfl rfl rfl rfl (.cons .im (.cons .im (.cons .im (.cons .im (.cons .im (.cons .im .nil)))))) (.old rfl rfl rfl rfl rfl (.cons .im (.cons .im (.cons (.rsl rfl rfl rfl rfl rfl rfl) .nil))) (.old rfl rfl rfl rfl rfl (CstL.ims _) .nil)))) rfl (.cons (.ref rfl rfl rfl rfl rfl) (.cons (.ref rfl rfl rfl rfl rfl) (.cons (.ref rfl rfl rfl rfl rfl) .nil)))) ?_
  obtain ⟨x6, hx6, H⟩ := bindS H
  change OpsW _ _ _ _ [(6, .ref 6 0 0), (5, .ref 5 0 0), (0, .ref 2010 0 0)] ([(5, ⟨0, true, 91, 3, [.string x5.2.text_.rest_, .bool x5.2.text_.none_, .bool x5.2.wrong_]⟩)] ++ [(6, ⟨0, true, 36, 6, [.string (⟨#[]⟩ : ByteArray), slA (eI .u8) x5.1, .int .u8 (IntKind.wrap .u8 x3.1), .int .u8 (IntKind.wrap .u8 x4.1), .int .i64 x1.1, .int .i64 x2.1]⟩), (2010, ⟨0, true, 33, 3, [.int .i64 t0.Modes, .int .u8 t0.Accept, .rsl 3010 0 0 t0.Rules.length]⟩), (3010, rtA 0 36 6 eS_Rule t0.Rules)]) _
  refine OpsW.callR [(5, ⟨0, true, 91, 3, [.string x5.2.text_.rest_, .bool x5.2.text_.none_, .bool x5.2.wrong_]⟩)] [(6, ⟨0, true, 36, 6, [.string (⟨#[]⟩ : ByteArray), slA (eI .u8) x5.1, .int .u8 (IntKind.wrap .u8 x3.1), .int .u8 (IntKind.wrap .u8 x4.1), .int .i64 x1.1, .int .i64 x2.1]⟩), (2010, ⟨0, true, 33, 3, [.int .i64 t0.Modes, .int .u8 t0.Accept, .rsl 3010 0 0 t0.Rules.length]⟩), (3010, rtA 0 36 6 eS_Rule t0.Rules)] [(2020, ⟨0, true, 91, 3, [.string x5.2.text_.rest_, .bool x5.2.text_.none_, .bool x5.2.wrong_]⟩)] (phi [(2020, some 5)]) rfl rfl (by kernel_rfl) [.ref 2020 0 0] _ rfl (glAll_sound trivial) (.cons (.ref rfl rfl rfl rfl rfl) .nil) (f_table_fields_bytes_io hx6) (fresh_of (by kernel_rfl)) (by kernel_rfl) (.cons rfl rfl rfl rfl rfl (.cons .im (.cons .im (.cons .im .nil))) .nil) ?_
  rintro _ _ ⟨rfl, rfl⟩
  refine ⟨.string x6.1, [(5, ⟨0, true, 91, 3, [.string x6.2.text_.rest_, .bool x6.2.text_.none_, .bool x6.2.wrong_]⟩)], phi [(5, some 2020)], fresh_of (by kernel_rfl), by kernel_rfl, by kernel_rfl, (.cons rfl rfl rfl rfl rfl (.cons .im (.cons .im (.cons .im .nil))) .nil), (.cons .im .nil), ?_⟩
  change OpsW _ _ _ _ [(22, .string x6.1), (6, .ref 6 0 0), (5, .ref 5 0 0), (0, .ref 2010 0 0)] [(5, ⟨0, true, 91, 3, [.string x6.2.text_.rest_, .bool x6.2.text_.none_, .bool x6.2.wrong_]⟩), (6, ⟨0, true, 36, 6, [.string (⟨#[]⟩ : ByteArray), slA (eI .u8) x5.1, .int .u8 (IntKind.wrap .u8 x3.1), .int .u8 (IntKind.wrap .u8 x4.1), .int .i64 x1.1, .int .i64 x2.1]⟩), (2010, ⟨0, true, 33, 3, [.int .i64 t0.Modes, .int .u8 t0.Accept, .rsl 3010 0 0 t0.Rules.length]⟩), (3010, rtA 0 36 6 eS_Rule t0.Rules)] _
  refine OpsW.seg 1 [23, 22, 6, 5, 0] [] [(23, .ref 6 0 0), (22, .string x6.1), (6, .ref 6 0 0), (5, .ref 5 0 0), (0, .ref 2010 0 0)] (by kernel_rfl) trivial ?_
  refine OpsW.store rfl rfl rfl rfl trivial trivial rfl rfl rfl (by kernel_rfl) (okCb_sound (by kernel_rfl)) (Nat.le_of_ble_eq_true (by kernel_rfl)) ?_
  change OpsW _ _ _ _ _ [(6, ⟨0, true, 36, 6, [.string x6.1, slA (eI .u8) x5.1, .int .u8 (IntKind.wrap .u8 x3.1), .int .u8 (IntKind.wrap .u8 x4.1), .int .i64 x1.1, .int .i64 x2.1]⟩), (5, ⟨0, true, 91, 3, [.string x6.2.text_.rest_, .bool x6.2.text_.none_, .bool x6.2.wrong_]⟩), (6, ⟨0, true, 36, 6, [.string (⟨#[]⟩ : ByteArray), slA (eI .u8) x5.1, .int .u8 (IntKind.wrap .u8 x3.1), .int .u8 (IntKind.wrap .u8 x4.1), .int .i64 x1.1, .int .i64 x2.1]⟩), (2010, ⟨0, true, 33, 3, [.int .i64 t0.Modes, .int .u8 t0.Accept, .rsl 3010 0 0 t0.Rules.length]⟩), (3010, rtA 0 36 6 eS_Rule t0.Rules)] _
  refine OpsW.seg 0 [6, 5, 0] [] [(6, .ref 6 0 0), (5, .ref 5 0 0), (0, .ref 2010 0 0)] (by kernel_rfl) trivial ?_
  refine OpsW.recast (env' := [(6, .ref 6 0 0), (5, .ref 5 0 0), (0, .ref 2010 0 0)]) (h' := [(5, ⟨0, true, 91, 3, [.string x6.2.text_.rest_, .bool x6.2.text_.none_, .bool x6.2.wrong_]⟩), (6, ⟨0, true, 36, 6, [.string x6.1, slA (eI .u8) x5.1, .int .u8 (IntKind.wrap .u8 x3.1), .int .u8 (IntKind.wrap .u8 x4.1), .int .i64 x1.1, .int .i64 x2.1]⟩), (2010, ⟨0, true, 33, 3, [.int .i64 t0.Modes, .int .u8 t0.Accept, .rsl 3010 0 0 t0.Rules.length]⟩), (3010, rtA 0 36 6 eS_Rule t0.Rules)]) (StC.mk (phi [(5, some 5), (6, some 6), (2010, some 2010), (3010, some 3010)]) (.old rfl rfl rfl rfl rfl (.cons .im (.cons .im (.cons .im .nil))) (.old rfl rfl rfl rfl rfl (.cons .im (.cons .im (.cons .im (.cons .im (.cons .im (.cons .im .nil)))))) (.old rfl rfl rfl rfl rfl (.cons .im (.cons .im (.cons (.rsl rfl rfl rfl rfl rfl rfl) .nil))) (.old rfl rfl rfl rfl rfl (CstL.ims _) .nil)))) rfl (.cons (.ref rfl rfl rfl rfl rfl) (.cons (.ref rfl rfl rfl rfl rfl) (.cons (.ref rfl rfl rfl rfl rfl) .nil)))) ?_
  refine OpsW.nil ?_
  refine AW.drawPSeq 7 [0, 1] Tryd.checked.mixed (by kernel_rfl) (by kernel_rfl) ?_
  refine QOps.seg (N := 35) 2 [] [(25, .ref 2010 0 0), (24, .ref 2010 0 0), (6, .ref 6 0 0), (5, .ref 5 0 0), (0, .ref 2010 0 0)] (by kernel_rfl) trivial ?_
  refine QOps.quietU (.ref 2010 0 0) rfl (Quiet.nilCheck rfl (gpoU rfl ⟨trivial, rfl, rfl⟩)) ?_
  refine QOps.seg (N := 35) 3 [] [(29, .agg [.string x6.1, slA (eI .u8) x5.1, .int .u8 (IntKind.wrap .u8 x3.1), .int .u8 (IntKind.wrap .u8 x4.1), .int .i64 x1.1, .int .i64 x2.1]), (28, .rsl 3010 0 0 t0.Rules.length), (27, .ref 2010 0 2), (26, .ref 2010 0 0), (25, .ref 2010 0 0), (24, .ref 2010 0 0), (6, .ref 6 0 0), (5, .ref 5 0 0), (0, .ref 2010 0 0)] (by kernel_rfl) trivial ?_
  refine QOps.buildTI (enc := eS_Rule) [(⟨x6.1, x5.1, IntKind.wrap .u8 x3.1, IntKind.wrap .u8 x4.1, x1.1, x2.1⟩ : S_Rule)] rfl rfl E31 (fun _ => rfl) (by decide) ⟨trivial, by kernel_rfl, by kernel_rfl, by kernel_rfl, rfl⟩ ?_
  refine QOps.nil ?_
  refine OpsW.seg 0 [30, 28, 24, 5] [] [(30, slA eS_Rule [(⟨x6.1, x5.1, IntKind.wrap .u8 x3.1, IntKind.wrap .u8 x4.1, x1.1, x2.1⟩ : S_Rule)]), (28, .rsl 3010 0 0 t0.Rules.length), (24, .ref 2010 0 0), (5, .ref 5 0 0)] (by kernel_rfl) trivial ?_
  obtain ⟨g7, H⟩ := G_some H
  refine OpsW.appendF (enc := eS_Rule) (ys := [(⟨x6.1, x5.1, IntKind.wrap .u8 x3.1, IntKind.wrap .u8 x4.1, x1.1, x2.1⟩ : S_Rule)]) rfl rfl rfl E31 (fun _ => rfl) rfl rfl trivial (SrcA.typed (enc := eS_Rule) (fun _ => rfl) (by kernel_rfl) [(⟨x6.1, x5.1, IntKind.wrap .u8 x3.1, IntKind.wrap .u8 x4.1, x1.1, x2.1⟩ : S_Rule)]) rfl g7 ?_
  refine OpsW.quietU (.ref 2010 0 0) rfl rfl (Quiet.nilCheck rfl (gpoU rfl ⟨trivial, rfl, rfl⟩)) ?_
  refine OpsW.seg 1 [33, 31, 5] [] [(33, .ref 2010 0 2), (31, .rsl 3010 1 0 ((t0.Rules ++ [(⟨x6.1, x5.1, IntKind.wrap .u8 x3.1, IntKind.wrap .u8 x4.1, x1.1, x2.1⟩ : S_Rule)]).length)), (5, .ref 5 0 0)] (by kernel_rfl) trivial ?_
  refine OpsW.store rfl rfl rfl rfl trivial trivial rfl rfl rfl (by kernel_rfl) (okCb_sound (by kernel_rfl)) (Nat.le_of_ble_eq_true (by kernel_rfl)) ?_
  change OpsW _ _ _ _ _ [(2010, ⟨0, true, 33, 3, [.int .i64 t0.Modes, .int .u8 t0.Accept, .rsl 3010 1 0 ((t0.Rules ++ [(⟨x6.1, x5.1, IntKind.wrap .u8 x3.1, IntKind.wrap .u8 x4.1, x1.1, x2.1⟩ : S_Rule)]).length)]⟩), (3010, rtA 1 36 6 eS_Rule (t0.Rules ++ [(⟨x6.1, x5.1, IntKind.wrap .u8 x3.1, IntKind.wrap .u8 x4.1, x1.1, x2.1⟩ : S_Rule)])), (5, ⟨0, true, 91, 3, [.string x6.2.text_.rest_, .bool x6.2.text_.none_, .bool x6.2.wrong_]⟩), (6, ⟨0, true, 36, 6, [.string x6.1, slA (eI .u8) x5.1, .int .u8 (IntKind.wrap .u8 x3.1), .int .u8 (IntKind.wrap .u8 x4.1), .int .i64 x1.1, .int .i64 x2.1]⟩), (2010, ⟨0, true, 33, 3, [.int .i64 t0.Modes, .int .u8 t0.Accept, .rsl 3010 0 0 t0.Rules.length]⟩), (3010, rtA 0 36 6 eS_Rule t0.Rules)] _
  refine OpsW.seg 0 [5] [] [(5, .ref 5 0 0)] (by kernel_rfl) trivial ?_
  refine OpsW.recast (env' := [(5, .ref 5 0 0)]) (h' := [(5, ⟨0, true, 91, 3, [.string x6.2.text_.rest_, .bool x6.2.text_.none_, .bool x6.2.wrong_]⟩), (2010, ⟨0, true, 33, 3, [.int .i64 t0.Modes, .int .u8 t0.Accept, .rsl 3010 0 0 ((t0.Rules ++ [(⟨x6.1, x5.1, IntKind.wrap .u8 x3.1, IntKind.wrap .u8 x4.1, x1.1, x2.1⟩ : S_Rule)]).length)]⟩), (3010, rtA 0 36 6 eS_Rule (t0.Rules ++ [(⟨x6.1, x5.1, IntKind.wrap .u8 x3.1, IntKind.wrap .u8 x4.1, x1.1, x2.1⟩ : S_Rule)]))]) (StC.mk (phi [(5, some 5), (2010, some 2010), (3010, some 3010)]) (.old rfl rfl rfl rfl rfl (.cons .im (.cons .im (.cons .im .nil))) (.old rfl rfl rfl rfl rfl (.cons .im (.cons .im (.cons (.rsl rfl rfl rfl rfl rfl rfl) .nil))) (.old rfl rfl rfl rfl rfl (CstL.ims _) .nil))) rfl (.cons (.ref rfl rfl rfl rfl rfl) .nil)) ?_
  refine OpsW.nil ?_
  refine AW.regionSeq ?_
  refine OpsW.recast (env' := [(5, .ref 5 0 0)]) (h' := [(5, ⟨0, true, 91, 3, [.string x6.2.text_.rest_, .bool x6.2.text_.none_, .bool x6.2.wrong_]⟩), (2010, ⟨0, true, 33, 3, [.int .i64 t0.Modes, .int .u8 t0.Accept, .rsl 3010 0 0 ((t0.Rules ++ [(⟨x6.1, x5.1, IntKind.wrap .u8 x3.1, IntKind.wrap .u8 x4.1, x1.1, x2.1⟩ : S_Rule)]).length)]⟩), (3010, rtA 0 36 6 eS_Rule (t0.Rules ++ [(⟨x6.1, x5.1, IntKind.wrap .u8 x3.1, IntKind.wrap .u8 x4.1, x1.1, x2.1⟩ : S_Rule)]))]) (StC.mk (phi [(5, some 5), (2010, some 2010), (3010, some 3010)]) (.old rfl rfl rfl rfl rfl (.cons .im (.cons .im (.cons .im .nil))) (.old rfl rfl rfl rfl rfl (.cons .im (.cons .im (.cons (.rsl rfl rfl rfl rfl rfl rfl) .nil))) (.old rfl rfl rfl rfl rfl (CstL.ims _) .nil))) rfl (.cons (.ref rfl rfl rfl rfl rfl) .nil)) ?_
  obtain ⟨x8, hx8, H⟩ := bindS H
  change OpsW _ _ _ _ [(5, .ref 5 0 0)] ([(5, ⟨0, true, 91, 3, [.string x6.2.text_.rest_, .bool x6.2.text_.none_, .bool x6.2.wrong_]⟩)] ++ [(2010, ⟨0, true, 33, 3, [.int .i64 t0.Modes, .int .u8 t0.Accept, .rsl 3010 0 0 ((t0.Rules ++ [(⟨x6.1, x5.1, IntKind.wrap .u8 x3.1, IntKind.wrap .u8 x4.1, x1.1, x2.1⟩ : S_Rule)]).length)]⟩), (3010, rtA 0 36 6 eS_Rule (t0.Rules ++ [(⟨x6.1, x5.1, IntKind.wrap .u8 x3.1, IntKind.wrap .u8 x4.1, x1.1, x2.1⟩ : S_Rule)]))]) _
  refine OpsW.callR [(5, ⟨0, true, 91, 3, [.string x6.2.text_.rest_, .bool x6.2.text_.none_, .bool x6.2.wrong_]⟩)] [(2010, ⟨0, true, 33, 3, [.int .i64 t0.Modes, .int .u8 t0.Accept, .rsl 3010 0 0 ((t0.Rules ++ [(⟨x6.1, x5.1, IntKind.wrap .u8 x3.1, IntKind.wrap .u8 x4.1, x1.1, x2.1⟩ : S_Rule)]).length)]⟩), (3010, rtA 0 36 6 eS_Rule (t0.Rules ++ [(⟨x6.1, x5.1, IntKind.wrap .u8 x3.1, IntKind.wrap .u8 x4.1, x1.1, x2.1⟩ : S_Rule)]))] [(2020, ⟨0, true, 91, 3, [.string x6.2.text_.rest_, .bool x6.2.text_.none_, .bool x6.2.wrong_]⟩)] (phi [(2020, some 5)]) rfl rfl (by kernel_rfl) [.ref 2020 0 0] _ rfl (glAll_sound trivial) (.cons (.ref rfl rfl rfl rfl rfl) .nil) (f_table_fields_right_io hx8) (fresh_of (by kernel_rfl)) (by kernel_rfl) (.cons rfl rfl rfl rfl rfl (.cons .im (.cons .im (.cons .im .nil))) .nil) ?_
  rintro _ _ ⟨rfl, rfl⟩
  refine ⟨.bool x8.1, [(5, ⟨0, true, 91, 3, [.string x8.2.text_.rest_, .bool x8.2.text_.none_, .bool x8.2.wrong_]⟩)], phi [(5, some 2020)], fresh_of (by kernel_rfl), by kernel_rfl, by kernel_rfl, (.cons rfl rfl rfl rfl rfl (.cons .im (.cons .im (.cons .im .nil))) .nil), (.cons .im .nil), ?_⟩
  change OpsW _ _ _ _ [(34, .bool x8.1), (5, .ref 5 0 0)] [(5, ⟨0, true, 91, 3, [.string x8.2.text_.rest_, .bool x8.2.text_.none_, .bool x8.2.wrong_]⟩), (2010, ⟨0, true, 33, 3, [.int .i64 t0.Modes, .int .u8 t0.Accept, .rsl 3010 0 0 ((t0.Rules ++ [(⟨x6.1, x5.1, IntKind.wrap .u8 x3.1, IntKind.wrap .u8 x4.1, x1.1, x2.1⟩ : S_Rule)]).length)]⟩), (3010, rtA 0 36 6 eS_Rule (t0.Rules ++ [(⟨x6.1, x5.1, IntKind.wrap .u8 x3.1, IntKind.wrap .u8 x4.1, x1.1, x2.1⟩ : S_Rule)]))] _
  refine OpsW.seg 1 [4] [] [(4, .bool x8.1)] (by kernel_rfl) trivial ?_
  refine OpsW.recast (env' := [(4, .bool x8.1)]) (h' := [(2010, ⟨0, true, 33, 3, [.int .i64 t0.Modes, .int .u8 t0.Accept, .rsl 3010 0 0 ((t0.Rules ++ [(⟨x6.1, x5.1, IntKind.wrap .u8 x3.1, IntKind.wrap .u8 x4.1, x1.1, x2.1⟩ : S_Rule)]).length)]⟩), (3010, rtA 0 36 6 eS_Rule (t0.Rules ++ [(⟨x6.1, x5.1, IntKind.wrap .u8 x3.1, IntKind.wrap .u8 x4.1, x1.1, x2.1⟩ : S_Rule)]))]) (StC.mk (phi [(2010, some 2010), (3010, some 3010)]) (.old rfl rfl rfl rfl rfl (.cons .im (.cons .im (.cons (.rsl rfl rfl rfl rfl rfl rfl) .nil))) (.old rfl rfl rfl rfl rfl (CstL.ims _) .nil)) rfl (.cons .im .nil)) ?_
  refine OpsW.nil ?_
  obtain rfl := Option.some.inj H
  refine AW.ret ?_
  show ∃ en' hp', StC _ _ en' hp' ∧ Done _ _ _ .ret en' hp'
  refine ⟨[(4, .bool x8.1)], [(2010, ⟨0, true, 33, 3, [.int .i64 t0.Modes, .int .u8 t0.Accept, .rsl 3010 1 0 ((t0.Rules ++ [(⟨x6.1, x5.1, IntKind.wrap .u8 x3.1, IntKind.wrap .u8 x4.1, x1.1, x2.1⟩ : S_Rule)]).length)]⟩), (3010, rtA 1 36 6 eS_Rule (t0.Rules ++ [(⟨x6.1, x5.1, IntKind.wrap .u8 x3.1, IntKind.wrap .u8 x4.1, x1.1, x2.1⟩ : S_Rule)]))], (StC.mk (phi [(2010, some 2010), (3010, some 3010)]) (.old rfl rfl rfl rfl rfl (.cons .im (.cons .im (.cons (.rsl rfl rfl rfl rfl rfl rfl) .nil))) (.old rfl rfl rfl rfl rfl (CstL.ims _) .nil)) rfl (.cons .im .nil)), ?_⟩
  refine Done.gen rfl (.tmp .nil) ?_
  exact ⟨by kernel_rfl, by kernel_rfl⟩
def f_table_Parse_k1 (loop5 : (ByteArray × S_Table × S_Table × Int) → Option (S_Table × Int × Int)) (v4 : Int) (v7 : ByteArray) (v8 : S_Table) (v9 : S_Table) : Option (S_Table × Int × Int) :=
  G (inR (v4 + (1 : Int))) <|
  loop5 (v7, v8, v9, v4 + (1 : Int))
def f_table_Parse_b1 (loop5 : (ByteArray × S_Table × S_Table × Int) → Option (S_Table × Int × Int)) (v1 : ByteArray) (v2 : S_Table) (v3 : S_Table) (v4 : Int) : Option (S_Table × Int × Int) :=
  cond (cond (v4 == (0 : Int)) true (!(v1.toList == (⟨#[]⟩ : ByteArray).toList))) (
    (f_strings_Cut v1 (⟨#[10]⟩ : ByteArray)).bind fun x11 =>
    cond (!x11.2.2) (
      some ((⟨(0 : Int), (0 : Int), []⟩ : S_Table), v4, (3 : Int))) (
      cond (v4 == (0 : Int)) (
        (f_table_start v3 x11.1).bind fun x14 =>
        cond (!x14.1) (
          some ((⟨(0 : Int), (0 : Int), []⟩ : S_Table), v4, (3 : Int))) (
          f_table_Parse_k1 loop5 v4 x11.2.1 v2 x14.2)) (
        (f_table_rule v3 x11.1).bind fun x16 =>
        cond (!x16.1) (
          some ((⟨(0 : Int), (0 : Int), []⟩ : S_Table), v4, (3 : Int))) (
          f_table_Parse_k1 loop5 v4 x11.2.1 v2 x16.2)))) (
    (f_table_Check v3).bind fun x18 =>
    cond (x18.2 != (0 : Int)) (
      some ((⟨(0 : Int), (0 : Int), []⟩ : S_Table), x18.1, x18.2)) (
      some (v3, (0 : Int), (0 : Int))))
def f_table_Parse (t0 : ByteArray) : Option (S_Table × Int × Int) :=
  iter (fun loop (s : ByteArray × S_Table × S_Table × Int) => f_table_Parse_b1 loop s.1 s.2.1 s.2.2.1 s.2.2.2) 1000000 (t0, (⟨(0 : Int), (0 : Int), []⟩ : S_Table), (⟨(0 : Int), (0 : Int), []⟩ : S_Table), (0 : Int))
theorem f_table_Parse_ok  {t0 : ByteArray} {r : S_Table × Int × Int} (H : f_table_Parse t0 = some r) : QSpec Tryd.prog 26 [.string t0] (.tup [.agg [.int .i64 r.1.Modes, .int .u8 r.1.Accept, slA eS_Rule r.1.Rules], .int .i64 r.2.1, .int .i64 r.2.2]) := by
  refine Spec.of_AW Tryd.func26 rfl (by simp [Tryd.ntmps26]) ?_
  rw [Tryd.ntmps26]
  unfold f_table_Parse at H
  change AW _ _ _ [(0, .string t0)] [] _
  refine AW.regionSeq ?_
  refine OpsW.alloc' rfl rfl rfl 2 rfl (by kernel_rfl : zc Tryd.prog 33 = some [.int .i64 0, .int .u8 0, .slice none 0 0]) (by kernel_rfl) ?_
  refine OpsW.seg 2 [2, 0] [] [(2, .ref 2 0 0), (0, .string t0)] (by kernel_rfl) trivial ?_
  refine OpsW.recast (env' := [(2, .ref 2 0 0), (0, .string t0)]) (h' := [(2, ⟨0, true, 33, 3, [.int .i64 0, .int .u8 0, .im (.val (.slice none 0 0))]⟩)]) (StC.mk (phi [(2, some 2)]) (.old rfl rfl rfl rfl rfl (.cons .im (.cons .im (.cons .im .nil))) .nil) rfl (.cons (.ref rfl rfl rfl rfl rfl) (.cons .im .nil))) ?_
  refine OpsW.nil ?_
  refine AW.regionSeq ?_
  refine OpsW.alloc' rfl rfl rfl 5 rfl (by kernel_rfl : zc Tryd.prog 33 = some [.int .i64 0, .int .u8 0, .slice none 0 0]) (by kernel_rfl) ?_
  refine OpsW.recast (env' := [(5, .ref 5 0 0), (2, .ref 2 0 0), (0, .string t0)]) (h' := [(2, ⟨0, true, 33, 3, [.int .i64 0, .int .u8 0, .im (.val (.slice none 0 0))]⟩), (5, ⟨0, true, 33, 3, [.int .i64 0, .int .u8 0, .im (.val (.slice none 0 0))]⟩)]) (StC.mk (phi [(2, some 2), (5, some 5)]) (.old rfl rfl rfl rfl rfl (.cons .im (.cons .im (.cons .im .nil))) (.old rfl rfl rfl rfl rfl (.cons .im (.cons .im (.cons .im .nil))) .nil)) rfl (.cons (.ref rfl rfl rfl rfl rfl) (.cons (.ref rfl rfl rfl rfl rfl) (.cons .im .nil)))) ?_
  refine OpsW.nil ?_
  refine AW.seq ?_
  refine AW.regionSeq ?_
  refine OpsW.seg 1 [6, 5, 2, 0] [] [(6, .int .i64 0), (5, .ref 5 0 0), (2, .ref 2 0 0), (0, .string t0)] (by kernel_rfl) trivial ?_
  refine OpsW.nil ?_
  refine AW.block ?_
  refine AW.iterK (fun loop (s : ByteArray × S_Table × S_Table × Int) => f_table_Parse_b1 loop s.1 s.2.1 s.2.2.1 s.2.2.2) r (fun (s : ByteArray × S_Table × S_Table × Int) => [(0, .string s.1), (2, .ref 2 0 0), (5, .ref 5 0 0), (6, .int .i64 s.2.2.2)]) (fun (s : ByteArray × S_Table × S_Table × Int) => [(2, ⟨0, true, 33, 3, [.int .i64 s.2.1.Modes, .int .u8 s.2.1.Accept, slA eS_Rule s.2.1.Rules]⟩), (5, ⟨0, true, 33, 3, [.int .i64 s.2.2.1.Modes, .int .u8 s.2.2.1.Accept, .rsl 5050 0 0 s.2.2.1.Rules.length]⟩), (5050, rtA 0 36 6 eS_Rule s.2.2.1.Rules)]) ?_ 1000000 (t0, (⟨(0 : Int), (0 : Int), []⟩ : S_Table), (⟨(0 : Int), (0 : Int), []⟩ : S_Table), (0 : Int)) H (StC.mk (phi [(2, some 2), (5, some 5), (5050, none)]) (.old rfl rfl rfl rfl rfl (.cons .im (.cons .im (.cons .nil .nil))) (.old rfl rfl rfl rfl rfl (.cons .im (.cons .im (.cons (.nilr rfl rfl rfl) .nil))) (.new rfl .nil))) rfl (.cons .im (.cons (.ref rfl rfl rfl rfl rfl) (.cons (.ref rfl rfl rfl rfl rfl) (.cons .im .nil)))))
  intro loop5 s H
  obtain ⟨v1, v2, v3, v4⟩ := s
  change f_table_Parse_b1 loop5 v1 v2 v3 v4 = some r at H
  unfold f_table_Parse_b1 at H
  change AW _ _ _ [(0, .string v1), (2, .ref 2 0 0), (5, .ref 5 0 0), (6, .int .i64 v4)] [(2, ⟨0, true, 33, 3, [.int .i64 v2.Modes, .int .u8 v2.Accept, slA eS_Rule v2.Rules]⟩), (5, ⟨0, true, 33, 3, [.int .i64 v3.Modes, .int .u8 v3.Accept, .rsl 5050 0 0 v3.Rules.length]⟩), (5050, rtA 0 36 6 eS_Rule v3.Rules)] _
  refine AW.seq ?_
  refine AW.regionSeq ?_
  refine OpsW.seg 6 [18, 0, 2, 5, 6] [(!(v4 == (0 : Int))) = true → (!(v4 == (0 : Int))) = true, (v4 == (0 : Int)) = false → (!(v4 == (0 : Int))) = true] [(18, .bool (cond (v4 == (0 : Int)) true (!(v1.toList == (⟨#[]⟩ : ByteArray).toList)))), (0, .string v1), (2, .ref 2 0 0), (5, .ref 5 0 0), (6, .int .i64 v4)] (by kernel_rfl) ⟨(fun h => h), (fun h => by first | exact h | simpa using h), trivial⟩ ?_
  refine OpsW.nil ?_
  refine AW.cond (b := cond (v4 == (0 : Int)) true (!(v1.toList == (⟨#[]⟩ : ByteArray).toList))) rfl (fun c6 => ?_) (fun c6 => ?_)
  · replace H := condT c6 H
    refine AW.skip ?_
    refine AW.joinK (fun (y : ByteArray × S_Table × S_Table) => f_table_Parse_k1 loop5 v4 y.1 y.2.1 y.2.2) r (fun (y : ByteArray × S_Table × S_Table) => [(0, .string y.1), (2, .ref 2 0 0), (5, .ref 5 0 0), (6, .int .i64 v4)]) (fun (y : ByteArray × S_Table × S_Table) => [(2, ⟨0, true, 33, 3, [.int .i64 y.2.1.Modes, .int .u8 y.2.1.Accept, slA eS_Rule y.2.1.Rules]⟩), (5, ⟨0, true, 33, 3, [.int .i64 y.2.2.Modes, .int .u8 y.2.2.Accept, .rsl 5050 0 0 y.2.2.Rules.length]⟩), (5050, rtA 0 36 6 eS_Rule y.2.2.Rules)]) ?_ ?_
    · refine AW.block ?_
      refine AW.regionSeq ?_
      refine OpsW.seg 1 [22, 2, 5, 6] [] [(22, .string v1), (2, .ref 2 0 0), (5, .ref 5 0 0), (6, .int .i64 v4)] (by kernel_rfl) trivial ?_
      obtain ⟨x11, hx11, H⟩ := bindS H
      refine OpsW.qcall rfl (by kernel_rfl) rfl rfl (glAll_sound trivial) (.cons (.pur rfl) (.cons (.pur rfl) .nil)) (f_strings_Cut_ok hx11) rfl ?_
      refine OpsW.seg 7 [9, 8, 7, 2, 5, 6] [] [(9, .bool x11.2.2), (8, .string x11.2.1), (7, .string x11.1), (2, .ref 2 0 0), (5, .ref 5 0 0), (6, .int .i64 v4)] (by kernel_rfl) trivial ?_
      refine OpsW.nil ?_
      refine AW.seq ?_
      refine AW.regionSeq ?_
      refine OpsW.seg 2 [28, 8, 7, 2, 5, 6] [] [(28, .bool (!x11.2.2)), (8, .string x11.2.1), (7, .string x11.1), (2, .ref 2 0 0), (5, .ref 5 0 0), (6, .int .i64 v4)] (by kernel_rfl) trivial ?_
      refine OpsW.nil ?_
      refine AW.cond (b := !x11.2.2) rfl (fun c12 => ?_) (fun c12 => ?_)
      · replace H := condT c12 H
        refine AW.regionSeq ?_
        refine OpsW.seg 2 [30, 29, 2] [] [(30, .int .i64 v4), (29, .agg [.int .i64 0, .int .u8 0, .im (.val (.slice none 0 0))]), (2, .ref 2 0 0)] (by kernel_rfl) trivial ?_
        refine OpsW.store rfl rfl rfl rfl trivial trivial rfl rfl rfl (by kernel_rfl) (okCb_sound (by kernel_rfl)) (Nat.le_of_ble_eq_true (by kernel_rfl)) ?_
        change OpsW _ _ _ _ _ [(2, ⟨0, true, 33, 3, [.int .i64 0, .int .u8 0, .im (.val (.slice none 0 0))]⟩), (2, ⟨0, true, 33, 3, [.int .i64 v2.Modes, .int .u8 v2.Accept, slA eS_Rule v2.Rules]⟩), (5, ⟨0, true, 33, 3, [.int .i64 v3.Modes, .int .u8 v3.Accept, .rsl 5050 0 0 v3.Rules.length]⟩), (5050, rtA 0 36 6 eS_Rule v3.Rules)] _
        refine OpsW.seg 2 [4, 3, 2] [] [(4, .int .i64 3), (3, .int .i64 v4), (2, .ref 2 0 0)] (by kernel_rfl) trivial ?_
        refine OpsW.recast (env' := [(4, .int .i64 3), (3, .int .i64 v4), (2, .ref 2 0 0)]) (h' := [(2, ⟨0, true, 33, 3, [.int .i64 0, .int .u8 0, .im (.val (.slice none 0 0))]⟩)]) (StC.mk (phi [(2, some 2)]) (.old rfl rfl rfl rfl rfl (.cons .im (.cons .im (.cons .im .nil))) .nil) rfl (.cons .im (.cons .im (.cons (.ref rfl rfl rfl rfl rfl) .nil)))) ?_
        refine OpsW.nil ?_
        obtain rfl := Option.some.inj H
        refine AW.recast (env' := [(2, .ref 2 0 0), (3, .int .i64 v4), (4, .int .i64 3)]) (h' := [(2, ⟨0, true, 33, 3, [.int .i64 0, .int .u8 0, slA eS_Rule []]⟩)]) (StC.mk (phi [(2, some 2)]) (.old rfl rfl rfl rfl rfl (.cons .im (.cons .im (.cons .nil .nil))) .nil) rfl (.cons (.ref rfl rfl rfl rfl rfl) (.cons .im (.cons .im .nil)))) ?_
        refine AW.ret ?_
        try simp only [Ex.then, Ex.inBlock, Ex.noGoto, Ex.jump, reduceIte, Nat.reduceEqDiff, reduceCtorEq]
        refine Done.gen rfl (.cell rfl (by kernel_rfl) (.tmp (.tmp .nil))) ?_
        show _ = _
        kernel_rfl
      · replace H := condF c12 H
        refine AW.skip ?_
        refine AW.regionSeq ?_
        refine OpsW.seg 1 [10, 8, 7, 2, 5, 6] [] [(10, .im (.val (.func (.func 44) #[] #[]))), (8, .string x11.2.1), (7, .string x11.1), (2, .ref 2 0 0), (5, .ref 5 0 0), (6, .int .i64 v4)] (by kernel_rfl) trivial ?_
        refine OpsW.nil ?_
        refine AW.seq ?_
        refine AW.regionSeq ?_
        refine OpsW.seg 2 [32, 10, 8, 7, 2, 5, 6] [] [(32, .bool (v4 == (0 : Int))), (10, .im (.val (.func (.func 44) #[] #[]))), (8, .string x11.2.1), (7, .string x11.1), (2, .ref 2 0 0), (5, .ref 5 0 0), (6, .int .i64 v4)] (by kernel_rfl) trivial ?_
        refine OpsW.nil ?_
        refine AW.cond (b := v4 == (0 : Int)) rfl (fun c13 => ?_) (fun c13 => ?_)
        · replace H := condT c13 H
          refine AW.region ?_
          refine OpsW.seg 1 [10, 8, 7, 2, 5, 6] [] [(10, .im (.val (.func (.func 45) #[] #[]))), (8, .string x11.2.1), (7, .string x11.1), (2, .ref 2 0 0), (5, .ref 5 0 0), (6, .int .i64 v4)] (by kernel_rfl) trivial ?_
          refine OpsW.nil ?_
          refine AW.seq ?_
          refine AW.regionSeq ?_
          refine OpsW.seg 2 [34, 33, 8, 2, 5, 6] [] [(34, .string x11.1), (33, .im (.val (.func (.func 45) #[] #[]))), (8, .string x11.2.1), (2, .ref 2 0 0), (5, .ref 5 0 0), (6, .int .i64 v4)] (by kernel_rfl) trivial ?_
          refine OpsW.recast (env' := [(34, .string x11.1), (33, .im (.val (.func (.func 45) #[] #[]))), (8, .string x11.2.1), (2, .ref 2 0 0), (5, .ref 5 0 0), (6, .int .i64 v4)]) (h' := [(5, ⟨0, true, 33, 3, [.int .i64 v3.Modes, .int .u8 v3.Accept, .rsl 5050 0 0 v3.Rules.length]⟩), (5050, rtA 0 36 6 eS_Rule v3.Rules), (2, ⟨0, true, 33, 3, [.int .i64 v2.Modes, .int .u8 v2.Accept, slA eS_Rule v2.Rules]⟩)]) (StC.mk (phi [(5, some 5), (5050, some 5050), (2, some 2)]) (.old rfl rfl rfl rfl rfl (.cons .im (.cons .im (.cons (.rsl rfl rfl rfl rfl rfl rfl) .nil))) (.old rfl rfl rfl rfl rfl (CstL.ims _) (.old rfl rfl rfl rfl rfl (.cons .im (.cons .im (.cons .im .nil))) .nil))) rfl (.cons .im (.cons .im (.cons .im (.cons (.ref rfl rfl rfl rfl rfl) (.cons (.ref rfl rfl rfl rfl rfl) (.cons .im .nil))))))) ?_
          obtain ⟨x14, hx14, H⟩ := bindS H
          change OpsW _ _ _ _ [(34, .string x11.1), (33, .im (.val (.func (.func 45) #[] #[]))), (8, .string x11.2.1), (2, .ref 2 0 0), (5, .ref 5 0 0), (6, .int .i64 v4)] ([(5, ⟨0, true, 33, 3, [.int .i64 v3.Modes, .int .u8 v3.Accept, .rsl 5050 0 0 v3.Rules.length]⟩), (5050, rtA 0 36 6 eS_Rule v3.Rules)] ++ [(2, ⟨0, true, 33, 3, [.int .i64 v2.Modes, .int .u8 v2.Accept, slA eS_Rule v2.Rules]⟩)]) _
          refine OpsW.callRV [(5, ⟨0, true, 33, 3, [.int .i64 v3.Modes, .int .u8 v3.Accept, .rsl 5050 0 0 v3.Rules.length]⟩), (5050, rtA 0 36 6 eS_Rule v3.Rules)] [(2, ⟨0, true, 33, 3, [.int .i64 v2.Modes, .int .u8 v2.Accept, slA eS_Rule v2.Rules]⟩)] [(2010, ⟨0, true, 33, 3, [.int .i64 v3.Modes, .int .u8 v3.Accept, .rsl 3010 0 0 v3.Rules.length]⟩), (3010, rtA 0 36 6 eS_Rule v3.Rules)] (phi [(2010, some 5), (3010, some 5050)]) rfl rfl rfl (by kernel_rfl) [.ref 2010 0 0, .string x11.1] _ rfl (glAll_sound trivial) (.cons (.ref rfl rfl rfl rfl rfl) (.cons .im .nil)) (f_table_start_io hx14) (fresh_of (by kernel_rfl)) (by kernel_rfl) (.cons rfl rfl rfl rfl rfl (.cons .im (.cons .im (.cons (.rsl rfl rfl rfl rfl rfl rfl) .nil))) (.cons rfl rfl rfl rfl rfl (RnL.ims _) .nil)) ?_
          rintro _ _ ⟨rfl, rfl⟩
          refine ⟨.bool x14.1, [(5, ⟨0, true, 33, 3, [.int .i64 x14.2.Modes, .int .u8 x14.2.Accept, .rsl 5050 1 0 x14.2.Rules.length]⟩), (5050, rtA 1 36 6 eS_Rule x14.2.Rules)], phi [(5, some 2010), (5050, some 3010)], fresh_of (by kernel_rfl), by kernel_rfl, by kernel_rfl, (.cons rfl rfl rfl rfl rfl (.cons .im (.cons .im (.cons (.rsl rfl rfl rfl rfl rfl rfl) .nil))) (.cons rfl rfl rfl rfl rfl (RnL.ims _) .nil)), (.cons .im .nil), ?_⟩
          change OpsW _ _ _ _ [(35, .bool x14.1), (34, .string x11.1), (33, .im (.val (.func (.func 45) #[] #[]))), (8, .string x11.2.1), (2, .ref 2 0 0), (5, .ref 5 0 0), (6, .int .i64 v4)] [(5, ⟨0, true, 33, 3, [.int .i64 x14.2.Modes, .int .u8 x14.2.Accept, .rsl 5050 1 0 x14.2.Rules.length]⟩), (5050, rtA 1 36 6 eS_Rule x14.2.Rules), (2, ⟨0, true, 33, 3, [.int .i64 v2.Modes, .int .u8 v2.Accept, slA eS_Rule v2.Rules]⟩)] _
          refine OpsW.seg 1 [36, 8, 2, 5, 6] [] [(36, .bool (!x14.1)), (8, .string x11.2.1), (2, .ref 2 0 0), (5, .ref 5 0 0), (6, .int .i64 v4)] (by kernel_rfl) trivial ?_
          refine OpsW.recast (env' := [(36, .bool (!x14.1)), (8, .string x11.2.1), (2, .ref 2 0 0), (5, .ref 5 0 0), (6, .int .i64 v4)]) (h' := [(2, ⟨0, true, 33, 3, [.int .i64 v2.Modes, .int .u8 v2.Accept, slA eS_Rule v2.Rules]⟩), (5, ⟨0, true, 33, 3, [.int .i64 x14.2.Modes, .int .u8 x14.2.Accept, .rsl 5050 0 0 x14.2.Rules.length]⟩), (5050, rtA 0 36 6 eS_Rule x14.2.Rules)]) (StC.mk (phi [(2, some 2), (5, some 5), (5050, some 5050)]) (.old rfl rfl rfl rfl rfl (.cons .im (.cons .im (.cons .im .nil))) (.old rfl rfl rfl rfl rfl (.cons .im (.cons .im (.cons (.rsl rfl rfl rfl rfl rfl rfl) .nil))) (.old rfl rfl rfl rfl rfl (CstL.ims _) .nil))) rfl (.cons .im (.cons .im (.cons (.ref rfl rfl rfl rfl rfl) (.cons (.ref rfl rfl rfl rfl rfl) (.cons .im .nil)))))) ?_
          refine OpsW.nil ?_
          refine AW.cond (b := !x14.1) rfl (fun c15 => ?_) (fun c15 => ?_)
          · replace H := condT c15 H
            refine AW.regionSeq ?_
            refine OpsW.seg 2 [38, 37, 2] [] [(38, .int .i64 v4), (37, .agg [.int .i64 0, .int .u8 0, .im (.val (.slice none 0 0))]), (2, .ref 2 0 0)] (by kernel_rfl) trivial ?_
            refine OpsW.store rfl rfl rfl rfl trivial trivial rfl rfl rfl (by kernel_rfl) (okCb_sound (by kernel_rfl)) (Nat.le_of_ble_eq_true (by kernel_rfl)) ?_
            change OpsW _ _ _ _ _ [(2, ⟨0, true, 33, 3, [.int .i64 0, .int .u8 0, .im (.val (.slice none 0 0))]⟩), (2, ⟨0, true, 33, 3, [.int .i64 v2.Modes, .int .u8 v2.Accept, slA eS_Rule v2.Rules]⟩), (5, ⟨0, true, 33, 3, [.int .i64 x14.2.Modes, .int .u8 x14.2.Accept, .rsl 5050 0 0 x14.2.Rules.length]⟩), (5050, rtA 0 36 6 eS_Rule x14.2.Rules)] _
            refine OpsW.seg 2 [4, 3, 2] [] [(4, .int .i64 3), (3, .int .i64 v4), (2, .ref 2 0 0)] (by kernel_rfl) trivial ?_
            refine OpsW.recast (env' := [(4, .int .i64 3), (3, .int .i64 v4), (2, .ref 2 0 0)]) (h' := [(2, ⟨0, true, 33, 3, [.int .i64 0, .int .u8 0, .im (.val (.slice none 0 0))]⟩)]) (StC.mk (phi [(2, some 2)]) (.old rfl rfl rfl rfl rfl (.cons .im (.cons .im (.cons .im .nil))) .nil) rfl (.cons .im (.cons .im (.cons (.ref rfl rfl rfl rfl rfl) .nil)))) ?_
            refine OpsW.nil ?_
            obtain rfl := Option.some.inj H
            refine AW.recast (env' := [(2, .ref 2 0 0), (3, .int .i64 v4), (4, .int .i64 3)]) (h' := [(2, ⟨0, true, 33, 3, [.int .i64 0, .int .u8 0, slA eS_Rule []]⟩)]) (StC.mk (phi [(2, some 2)]) (.old rfl rfl rfl rfl rfl (.cons .im (.cons .im (.cons .nil .nil))) .nil) rfl (.cons (.ref rfl rfl rfl rfl rfl) (.cons .im (.cons .im .nil)))) ?_
            refine AW.ret ?_
            try simp only [Ex.then, Ex.inBlock, Ex.noGoto, Ex.jump, reduceIte, Nat.reduceEqDiff, reduceCtorEq]
            refine Done.gen rfl (.cell rfl (by kernel_rfl) (.tmp (.tmp .nil))) ?_
            show _ = _
            kernel_rfl
          · replace H := condF c15 H
            refine AW.skip ?_
            refine AW.region ?_
            refine OpsW.seg 2 [0, 2, 5, 6] [] [(0, .string x11.2.1), (2, .ref 2 0 0), (5, .ref 5 0 0), (6, .int .i64 v4)] (by kernel_rfl) trivial ?_
            refine OpsW.nil ?_
            show ∃ y, _ ∧ StC _ _ _ _
            exact ⟨(x11.2.1, v2, x14.2), H, (StC.mk (phi [(2, some 2), (5, some 5), (5050, some 5050)]) (.old rfl rfl rfl rfl rfl (.cons .im (.cons .im (.cons .im .nil))) (.old rfl rfl rfl rfl rfl (.cons .im (.cons .im (.cons (.rsl rfl rfl rfl rfl rfl rfl) .nil))) (.old rfl rfl rfl rfl rfl (CstL.ims _) .nil))) rfl (.cons .im (.cons (.ref rfl rfl rfl rfl rfl) (.cons (.ref rfl rfl rfl rfl rfl) (.cons .im .nil)))))⟩
        · replace H := condF c13 H
          refine AW.skip ?_
          refine AW.seq ?_
          refine AW.regionSeq ?_
          refine OpsW.seg 2 [34, 33, 8, 2, 5, 6] [] [(34, .string x11.1), (33, .im (.val (.func (.func 44) #[] #[]))), (8, .string x11.2.1), (2, .ref 2 0 0), (5, .ref 5 0 0), (6, .int .i64 v4)] (by kernel_rfl) trivial ?_
          refine OpsW.recast (env' := [(34, .string x11.1), (33, .im (.val (.func (.func 44) #[] #[]))), (8, .string x11.2.1), (2, .ref 2 0 0), (5, .ref 5 0 0), (6, .int .i64 v4)]) (h' := [(5, ⟨0, true, 33, 3, [.int .i64 v3.Modes, .int .u8 v3.Accept, .rsl 5050 0 0 v3.Rules.length]⟩), (5050, rtA 0 36 6 eS_Rule v3.Rules), (2, ⟨0, true, 33, 3, [.int .i64 v2.Modes, .int .u8 v2.Accept, slA eS_Rule v2.Rules]⟩)]) (StC.mk (phi [(5, some 5), (5050, some 5050), (2, some 2)]) (.old rfl rfl rfl rfl rfl (.cons .im (.cons .im (.cons (.rsl rfl rfl rfl rfl rfl rfl) .nil))) (.old rfl rfl rfl rfl rfl (CstL.ims _) (.old rfl rfl rfl rfl rfl (.cons .im (.cons .im (.cons .im .nil))) .nil))) rfl (.cons .im (.cons .im (.cons .im (.cons (.ref rfl rfl rfl rfl rfl) (.cons (.ref rfl rfl rfl rfl rfl) (.cons .im .nil))))))) ?_
          obtain ⟨x16, hx16, H⟩ := bindS H
          change OpsW _ _ _ _ [(34, .string x11.1), (33, .im (.val (.func (.func 44) #[] #[]))), (8, .string x11.2.1), (2, .ref 2 0 0), (5, .ref 5 0 0), (6, .int .i64 v4)] ([(5, ⟨0, true, 33, 3, [.int .i64 v3.Modes, .int .u8 v3.Accept, .rsl 5050 0 0 v3.Rules.length]⟩), (5050, rtA 0 36 6 eS_Rule v3.Rules)] ++ [(2, ⟨0, true, 33, 3, [.int .i64 v2.Modes, .int .u8 v2.Accept, slA eS_Rule v2.Rules]⟩)]) _
          refine OpsW.callRV [(5, ⟨0, true, 33, 3, [.int .i64 v3.Modes, .int .u8 v3.Accept, .rsl 5050 0 0 v3.Rules.length]⟩), (5050, rtA 0 36 6 eS_Rule v3.Rules)] [(2, ⟨0, true, 33, 3, [.int .i64 v2.Modes, .int .u8 v2.Accept, slA eS_Rule v2.Rules]⟩)] [(2010, ⟨0, true, 33, 3, [.int .i64 v3.Modes, .int .u8 v3.Accept, .rsl 3010 0 0 v3.Rules.length]⟩), (3010, rtA 0 36 6 eS_Rule v3.Rules)] (phi [(2010, some 5), (3010, some 5050)]) rfl rfl rfl (by kernel_rfl) [.ref 2010 0 0, .string x11.1] _ rfl (glAll_sound trivial) (.cons (.ref rfl rfl rfl rfl rfl) (.cons .im .nil)) (f_table_rule_io hx16) (fresh_of (by kernel_rfl)) (by kernel_rfl) (.cons rfl rfl rfl rfl rfl (.cons .im (.cons .im (.cons (.rsl rfl rfl rfl rfl rfl rfl) .nil))) (.cons rfl rfl rfl rfl rfl (RnL.ims _) .nil)) ?_
          rintro _ _ ⟨rfl, rfl⟩
          refine ⟨.bool x16.1, [(5, ⟨0, true, 33, 3, [.int .i64 x16.2.Modes, .int .u8 x16.2.Accept, .rsl 5050 1 0 x16.2.Rules.length]⟩), (5050, rtA 1 36 6 eS_Rule x16.2.Rules)], phi [(5, some 2010), (5050, some 3010)], fresh_of (by kernel_rfl), by kernel_rfl, by kernel_rfl, (.cons rfl rfl rfl rfl rfl (.cons .im (.cons .im (.cons (.rsl rfl rfl rfl rfl rfl rfl) .nil))) (.cons rfl rfl rfl rfl rfl (RnL.ims _) .nil)), (.cons .im .nil), ?_⟩
          change OpsW _ _ _ _ [(35, .bool x16.1), (34, .string x11.1), (33, .im (.val (.func (.func 44) #[] #[]))), (8, .string x11.2.1), (2, .ref 2 0 0), (5, .ref 5 0 0), (6, .int .i64 v4)] [(5, ⟨0, true, 33, 3, [.int .i64 x16.2.Modes, .int .u8 x16.2.Accept, .rsl 5050 1 0 x16.2.Rules.length]⟩), (5050, rtA 1 36 6 eS_Rule x16.2.Rules), (2, ⟨0, true, 33, 3, [.int .i64 v2.Modes, .int .u8 v2.Accept, slA eS_Rule v2.Rules]⟩)] _
          refine OpsW.seg 1 [36, 8, 2, 5, 6] [] [(36, .bool (!x16.1)), (8, .string x11.2.1), (2, .ref 2 0 0), (5, .ref 5 0 0), (6, .int .i64 v4)] (by kernel_rfl) trivial ?_
          refine OpsW.recast (env' := [(36, .bool (!x16.1)), (8, .string x11.2.1), (2, .ref 2 0 0), (5, .ref 5 0 0), (6, .int .i64 v4)]) (h' := [(2, ⟨0, true, 33, 3, [.int .i64 v2.Modes, .int .u8 v2.Accept, slA eS_Rule v2.Rules]⟩), (5, ⟨0, true, 33, 3, [.int .i64 x16.2.Modes, .int .u8 x16.2.Accept, .rsl 5050 0 0 x16.2.Rules.length]⟩), (5050, rtA 0 36 6 eS_Rule x16.2.Rules)]) (StC.mk (phi [(2, some 2), (5, some 5), (5050, some 5050)]) (.old rfl rfl rfl rfl rfl (.cons .im (.cons .im (.cons .im .nil))) (.old rfl rfl rfl rfl rfl (.cons .im (.cons .im (.cons (.rsl rfl rfl rfl rfl rfl rfl) .nil))) (.old rfl rfl rfl rfl rfl (CstL.ims _) .nil))) rfl (.cons .im (.cons .im (.cons (.ref rfl rfl rfl rfl rfl) (.cons (.ref rfl rfl rfl rfl rfl) (.cons .im .nil)))))) ?_
          refine OpsW.nil ?_
          refine AW.cond (b := !x16.1) rfl (fun c17 => ?_) (fun c17 => ?_)
          · replace H := condT c17 H
            refine AW.regionSeq ?_
            refine OpsW.seg 2 [38, 37, 2] [] [(38, .int .i64 v4), (37, .agg [.int .i64 0, .int .u8 0, .im (.val (.slice none 0 0))]), (2, .ref 2 0 0)] (by kernel_rfl) trivial ?_
            refine OpsW.store rfl rfl rfl rfl trivial trivial rfl rfl rfl (by kernel_rfl) (okCb_sound (by kernel_rfl)) (Nat.le_of_ble_eq_true (by kernel_rfl)) ?_
            change OpsW _ _ _ _ _ [(2, ⟨0, true, 33, 3, [.int .i64 0, .int .u8 0, .im (.val (.slice none 0 0))]⟩), (2, ⟨0, true, 33, 3, [.int .i64 v2.Modes, .int .u8 v2.Accept, slA eS_Rule v2.Rules]⟩), (5, ⟨0, true, 33, 3, [.int .i64 x16.2.Modes, .int .u8 x16.2.Accept, .rsl 5050 0 0 x16.2.Rules.length]⟩), (5050, rtA 0 36 6 eS_Rule x16.2.Rules)] _
            refine OpsW.seg 2 [4, 3, 2] [] [(4, .int .i64 3), (3, .int .i64 v4), (2, .ref 2 0 0)] (by kernel_rfl) trivial ?_
            refine OpsW.recast (env' := [(4, .int .i64 3), (3, .int .i64 v4), (2, .ref 2 0 0)]) (h' := [(2, ⟨0, true, 33, 3, [.int .i64 0, .int .u8 0, .im (.val (.slice none 0 0))]⟩)]) (StC.mk (phi [(2, some 2)]) (.old rfl rfl rfl rfl rfl (.cons .im (.cons .im (.cons .im .nil))) .nil) rfl (.cons .im (.cons .im (.cons (.ref rfl rfl rfl rfl rfl) .nil)))) ?_
            refine OpsW.nil ?_
            obtain rfl := Option.some.inj H
            refine AW.recast (env' := [(2, .ref 2 0 0), (3, .int .i64 v4), (4, .int .i64 3)]) (h' := [(2, ⟨0, true, 33, 3, [.int .i64 0, .int .u8 0, slA eS_Rule []]⟩)]) (StC.mk (phi [(2, some 2)]) (.old rfl rfl rfl rfl rfl (.cons .im (.cons .im (.cons .nil .nil))) .nil) rfl (.cons (.ref rfl rfl rfl rfl rfl) (.cons .im (.cons .im .nil)))) ?_
            refine AW.ret ?_
            try simp only [Ex.then, Ex.inBlock, Ex.noGoto, Ex.jump, reduceIte, Nat.reduceEqDiff, reduceCtorEq]
            refine Done.gen rfl (.cell rfl (by kernel_rfl) (.tmp (.tmp .nil))) ?_
            show _ = _
            kernel_rfl
          · replace H := condF c17 H
            refine AW.skip ?_
            refine AW.region ?_
            refine OpsW.seg 2 [0, 2, 5, 6] [] [(0, .string x11.2.1), (2, .ref 2 0 0), (5, .ref 5 0 0), (6, .int .i64 v4)] (by kernel_rfl) trivial ?_
            refine OpsW.nil ?_
            show ∃ y, _ ∧ StC _ _ _ _
            exact ⟨(x11.2.1, v2, x16.2), H, (StC.mk (phi [(2, some 2), (5, some 5), (5050, some 5050)]) (.old rfl rfl rfl rfl rfl (.cons .im (.cons .im (.cons .im .nil))) (.old rfl rfl rfl rfl rfl (.cons .im (.cons .im (.cons (.rsl rfl rfl rfl rfl rfl rfl) .nil))) (.old rfl rfl rfl rfl rfl (CstL.ims _) .nil))) rfl (.cons .im (.cons (.ref rfl rfl rfl rfl rfl) (.cons (.ref rfl rfl rfl rfl rfl) (.cons .im .nil)))))⟩
    · rintro ⟨v7, v8, v9⟩ H
      change f_table_Parse_k1 loop5 v4 v7 v8 v9 = some r at H
      unfold f_table_Parse_k1 at H
      change AW _ _ _ [(0, .string v7), (2, .ref 2 0 0), (5, .ref 5 0 0), (6, .int .i64 v4)] [(2, ⟨0, true, 33, 3, [.int .i64 v8.Modes, .int .u8 v8.Accept, slA eS_Rule v8.Rules]⟩), (5, ⟨0, true, 33, 3, [.int .i64 v9.Modes, .int .u8 v9.Accept, .rsl 5050 0 0 v9.Rules.length]⟩), (5050, rtA 0 36 6 eS_Rule v9.Rules)] _
      refine AW.region ?_
      obtain ⟨g10, H⟩ := G_some H
      refine OpsW.seg 3 [6, 0, 2, 5] [inR (v4 + (1 : Int))] [(6, .int .i64 (v4 + (1 : Int))), (0, .string v7), (2, .ref 2 0 0), (5, .ref 5 0 0)] (by kernel_rfl) ⟨g10, trivial⟩ ?_
      refine OpsW.nil ?_
      show ∃ y, _ ∧ StC _ _ _ _
      exact ⟨(v7, v8, v9, v4 + (1 : Int)), H, (StC.mk (phi [(2, some 2), (5, some 5), (5050, some 5050)]) (.old rfl rfl rfl rfl rfl (.cons .im (.cons .im (.cons .im .nil))) (.old rfl rfl rfl rfl rfl (.cons .im (.cons .im (.cons (.rsl rfl rfl rfl rfl rfl rfl) .nil))) (.old rfl rfl rfl rfl rfl (CstL.ims _) .nil))) rfl (.cons .im (.cons (.ref rfl rfl rfl rfl rfl) (.cons (.ref rfl rfl rfl rfl rfl) (.cons .im .nil)))))⟩
  · replace H := condF c6 H
    refine AW.exit ?_
    refine AW.seq ?_
    refine AW.regionSeq ?_
    refine OpsW.seg 1 [41, 2, 5] [] [(41, .agg [.int .i64 v3.Modes, .int .u8 v3.Accept, .rsl 5050 0 0 v3.Rules.length]), (2, .ref 2 0 0), (5, .ref 5 0 0)] (by kernel_rfl) trivial ?_
    obtain ⟨x18, hx18, H⟩ := bindS H
    refine OpsW.bcall (r := .tup [.int .i64 x18.1, .int .i64 x18.2]) [5050] rfl (by kernel_rfl) rfl rfl (glAll_sound trivial) (.cons (ArgS.agg (.cons (.pur rfl) (.cons (.pur rfl) (.cons (ArgS.root (enc := eS_Rule) (l := v3.Rules) (fun _ => rfl) (by simp) rfl) .nil)))) .nil) (f_table_Check_ok hx18) rfl ?_
    refine OpsW.seg 5 [12, 11, 2, 5] [] [(12, .int .i64 x18.2), (11, .int .i64 x18.1), (2, .ref 2 0 0), (5, .ref 5 0 0)] (by kernel_rfl) trivial ?_
    refine OpsW.nil ?_
    refine AW.regionSeq ?_
    refine OpsW.seg 2 [46, 12, 11, 2, 5] [] [(46, .bool (x18.2 != (0 : Int))), (12, .int .i64 x18.2), (11, .int .i64 x18.1), (2, .ref 2 0 0), (5, .ref 5 0 0)] (by kernel_rfl) trivial ?_
    refine OpsW.nil ?_
    refine AW.cond (b := x18.2 != (0 : Int)) rfl (fun c19 => ?_) (fun c19 => ?_)
    · replace H := condT c19 H
      refine AW.regionSeq ?_
      refine OpsW.seg 3 [49, 48, 47, 2] [] [(49, .int .i64 x18.2), (48, .int .i64 x18.1), (47, .agg [.int .i64 0, .int .u8 0, .im (.val (.slice none 0 0))]), (2, .ref 2 0 0)] (by kernel_rfl) trivial ?_
      refine OpsW.store rfl rfl rfl rfl trivial trivial rfl rfl rfl (by kernel_rfl) (okCb_sound (by kernel_rfl)) (Nat.le_of_ble_eq_true (by kernel_rfl)) ?_
      change OpsW _ _ _ _ _ [(2, ⟨0, true, 33, 3, [.int .i64 0, .int .u8 0, .im (.val (.slice none 0 0))]⟩), (2, ⟨0, true, 33, 3, [.int .i64 v2.Modes, .int .u8 v2.Accept, slA eS_Rule v2.Rules]⟩), (5, ⟨0, true, 33, 3, [.int .i64 v3.Modes, .int .u8 v3.Accept, .rsl 5050 0 0 v3.Rules.length]⟩), (5050, rtA 0 36 6 eS_Rule v3.Rules)] _
      refine OpsW.seg 2 [4, 3, 2] [] [(4, .int .i64 x18.2), (3, .int .i64 x18.1), (2, .ref 2 0 0)] (by kernel_rfl) trivial ?_
      refine OpsW.recast (env' := [(4, .int .i64 x18.2), (3, .int .i64 x18.1), (2, .ref 2 0 0)]) (h' := [(2, ⟨0, true, 33, 3, [.int .i64 0, .int .u8 0, .im (.val (.slice none 0 0))]⟩)]) (StC.mk (phi [(2, some 2)]) (.old rfl rfl rfl rfl rfl (.cons .im (.cons .im (.cons .im .nil))) .nil) rfl (.cons .im (.cons .im (.cons (.ref rfl rfl rfl rfl rfl) .nil)))) ?_
      refine OpsW.nil ?_
      obtain rfl := Option.some.inj H
      refine AW.recast (env' := [(2, .ref 2 0 0), (3, .int .i64 x18.1), (4, .int .i64 x18.2)]) (h' := [(2, ⟨0, true, 33, 3, [.int .i64 0, .int .u8 0, slA eS_Rule []]⟩)]) (StC.mk (phi [(2, some 2)]) (.old rfl rfl rfl rfl rfl (.cons .im (.cons .im (.cons .nil .nil))) .nil) rfl (.cons (.ref rfl rfl rfl rfl rfl) (.cons .im (.cons .im .nil)))) ?_
      refine AW.ret ?_
      try simp only [Ex.then, Ex.inBlock, Ex.noGoto, Ex.jump, reduceIte, Nat.reduceEqDiff, reduceCtorEq]
      refine Done.gen rfl (.cell rfl (by kernel_rfl) (.tmp (.tmp .nil))) ?_
      show _ = _
      kernel_rfl
    · replace H := condF c19 H
      refine AW.skip ?_
      refine AW.regionSeq ?_
      refine OpsW.recast (env' := [(46, .bool (x18.2 != (0 : Int))), (12, .int .i64 x18.2), (11, .int .i64 x18.1), (2, .ref 2 0 0), (5, .ref 5 0 0)]) (h' := [(2, ⟨0, true, 33, 3, [.int .i64 v2.Modes, .int .u8 v2.Accept, slA eS_Rule v2.Rules]⟩), (5, ⟨0, true, 33, 3, [.int .i64 v3.Modes, .int .u8 v3.Accept, slA eS_Rule v3.Rules]⟩)]) (StC.mk (phi [(2, some 2), (5, some 5)]) (.old rfl rfl rfl rfl rfl (.cons .im (.cons .im (.cons .im .nil))) (.old rfl rfl rfl rfl rfl (.cons .im (.cons .im (.cons (.frz rfl rfl rfl (frz_all eS_Rule 6 (fun _ => rfl) v3.Rules) (fm_length eS_Rule 6 (fun _ => rfl) v3.Rules) (phi_ne rfl)) .nil))) .nil)) rfl (.cons .im (.cons .im (.cons .im (.cons (.ref rfl rfl rfl rfl rfl) (.cons (.ref rfl rfl rfl rfl rfl) .nil)))))) ?_
      refine OpsW.seg 1 [50, 2] [] [(50, .agg [.int .i64 v3.Modes, .int .u8 v3.Accept, slA eS_Rule v3.Rules]), (2, .ref 2 0 0)] (by kernel_rfl) trivial ?_
      refine OpsW.store rfl rfl rfl rfl trivial trivial rfl rfl rfl (by kernel_rfl) (okCb_sound (by kernel_rfl)) (Nat.le_of_ble_eq_true (by kernel_rfl)) ?_
      change OpsW _ _ _ _ _ [(2, ⟨0, true, 33, 3, [.int .i64 v3.Modes, .int .u8 v3.Accept, slA eS_Rule v3.Rules]⟩), (2, ⟨0, true, 33, 3, [.int .i64 v2.Modes, .int .u8 v2.Accept, slA eS_Rule v2.Rules]⟩), (5, ⟨0, true, 33, 3, [.int .i64 v3.Modes, .int .u8 v3.Accept, slA eS_Rule v3.Rules]⟩)] _
      refine OpsW.seg 2 [4, 3, 2] [] [(4, .int .i64 0), (3, .int .i64 0), (2, .ref 2 0 0)] (by kernel_rfl) trivial ?_
      refine OpsW.recast (env' := [(4, .int .i64 0), (3, .int .i64 0), (2, .ref 2 0 0)]) (h' := [(2, ⟨0, true, 33, 3, [.int .i64 v3.Modes, .int .u8 v3.Accept, slA eS_Rule v3.Rules]⟩)]) (StC.mk (phi [(2, some 2)]) (.old rfl rfl rfl rfl rfl (.cons .im (.cons .im (.cons .im .nil))) .nil) rfl (.cons .im (.cons .im (.cons (.ref rfl rfl rfl rfl rfl) .nil)))) ?_
      refine OpsW.nil ?_
      obtain rfl := Option.some.inj H
      refine AW.recast (env' := [(2, .ref 2 0 0), (3, .int .i64 0), (4, .int .i64 0)]) (h' := [(2, ⟨0, true, 33, 3, [.int .i64 v3.Modes, .int .u8 v3.Accept, slA eS_Rule v3.Rules]⟩)]) (StC.mk (phi [(2, some 2)]) (.old rfl rfl rfl rfl rfl (.cons .im (.cons .im (.cons .im .nil))) .nil) rfl (.cons (.ref rfl rfl rfl rfl rfl) (.cons .im (.cons .im .nil)))) ?_
      refine AW.ret ?_
      try simp only [Ex.then, Ex.inBlock, Ex.noGoto, Ex.jump, reduceIte, Nat.reduceEqDiff, reduceCtorEq]
      refine Done.gen rfl (.cell rfl (by kernel_rfl) (.tmp (.tmp .nil))) ?_
      show _ = _
      kernel_rfl
end Go.Proofs.YtlhpkjgpcenfdaaDoor
