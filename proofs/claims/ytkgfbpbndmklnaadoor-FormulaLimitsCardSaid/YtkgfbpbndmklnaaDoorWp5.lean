/- Own work. -/
import Derived.Test.YtkgfbpbndmklnaaDoorChecked
import Derived.Test.YtkgfbpbndmklnaaDoorSymA
set_option linter.unusedSimpArgs false
set_option linter.unusedVariables false
set_option maxRecDepth 100000
namespace Go.Proofs.YtkgfbpbndmklnaaDoor
open Go.Abs
theorem El23 : Elem Tryd.prog 23 26 2 16 [.int .i64 0, .int .i64 0] := Y41 (by kernel_rfl)
theorem El42 : Elem Tryd.prog 42 3 1 8 [.int .i64 0] := Y41 (by kernel_rfl)
theorem El58 : Elem Tryd.prog 58 57 7 104 [.int .i64 0, .slice none 0 0, .slice none 0 0, .slice none 0 0, .int .i64 0, .int .i64 0, .int .i64 0] := Y41 (by kernel_rfl)
theorem El59 : Elem Tryd.prog 59 64 4 48 [.int .i64 0, .int .i64 0, .slice none 0 0, .int .i64 0] := Y41 (by kernel_rfl)
def pre_precedence (h : Hp) (a0 : Int) (Q : Hp → AV → Prop) (Qp : Hp → List PanicEntry → Prop) : Prop :=
 ((((a0 : Int) == 5) = true → (Q h (.int .i64 1))) ∧ (((a0 : Int) == 5) = false → ((((a0 : Int) == 2) = true → (Q h (.int .i64 2))) ∧ (((a0 : Int) == 2) = false → ((((a0 : Int) == 3) = true → (Q h (.int .i64 2))) ∧ (((a0 : Int) == 3) = false → ((((a0 : Int) == 4) = true → (Q h (.int .i64 3))) ∧ (((a0 : Int) == 4) = false → (Q h (.int .i64 4))))))))))
theorem w_precedence {h : Hp} {a0 : Int} {Q : Hp → AV → Prop} {Qp : Hp → List PanicEntry → Prop}  (H : pre_precedence h a0 Q Qp) : FnO Tryd.prog 68 [.int .i64 a0] h Q Qp := by
 unfold pre_precedence at H
 refine Y59 Tryd.func68 rfl (Xc (by kernel_rfl)) <| GQ.E [(0, .int .i64 a0)] <| Y6 <| Y1 <| Ye (.int .i64 0) <| Y7 <| Y6 <| Y6 <| Y1 <| Y5 (.int .i64 a0) <| Y7 <| Y12 <| Y6 <| Y1 <| Yl (.bool ((a0 : Int) == 5)) ⟨trivial, trivial, rfl⟩ <| Ye (.bool ((a0 : Int) == 5)) <| Y7 ?_
 rcases X1 ((a0 : Int) == 5) with hb1 | hb1
 ·have H := H.1 hb1
  exact Y0l hb1 <| Y6 <| Y1 <| Ye (.int .i64 1) <| Y7 <| Y10 (Yw (Qp := Qp) rfl H)
 ·have H := H.2 hb1
  refine Y0s hb1 <| Y6 <| Y6 <| Y1 <| Yl (.bool ((a0 : Int) == 2)) ⟨trivial, trivial, rfl⟩ <| Ye (.bool ((a0 : Int) == 2)) <| Y7 ?_
  rcases X1 ((a0 : Int) == 2) with hb2 | hb2
  ·have H := H.1 hb2
   exact Y0l hb2 <| Y0p <| Y0l hb2 <| Y6 <| Y1 <| Ye (.int .i64 2) <| Y7 <| Y10 (Yw (Qp := Qp) rfl H)
  ·have H := H.2 hb2
   refine Y0s hb2 <| Y1 <| Yl (.bool ((a0 : Int) == 3)) ⟨trivial, trivial, rfl⟩ <| Ye (.bool ((a0 : Int) == 3)) <| Y7 ?_
   rcases X1 ((a0 : Int) == 3) with hb3 | hb3
   ·have H := H.1 hb3
    exact Y0l hb3 <| Y6 <| Y1 <| Ye (.int .i64 2) <| Y7 <| Y10 (Yw (Qp := Qp) rfl H)
   ·have H := H.2 hb3
    refine Y0s hb3 <| Y6 <| Y1 <| Yl (.bool ((a0 : Int) == 4)) ⟨trivial, trivial, rfl⟩ <| Ye (.bool ((a0 : Int) == 4)) <| Y7 ?_
    rcases X1 ((a0 : Int) == 4) with hb4 | hb4
    ·have H := H.1 hb4
     exact Y0l hb4 <| Y6 <| Y1 <| Ye (.int .i64 3) <| Y7 <| Y10 (Yw (Qp := Qp) rfl H)
    ·have H := H.2 hb4
     exact Y0s hb4 <| Y0p <| Y6 <| Y1 <| Ye (.int .i64 4) <| Y7 <| Y10 (Yw (Qp := Qp) rfl H)
def pre_sign (h : Hp) (a0 : Int) (Q : Hp → AV → Prop) (Qp : Hp → List PanicEntry → Prop) : Prop :=
 ((((a0 : Int) == 2) = true → (Q h (.int .u8 43))) ∧ (((a0 : Int) == 2) = false → ((((a0 : Int) == 3) = true → (Q h (.int .u8 45))) ∧ (((a0 : Int) == 3) = false → ((((a0 : Int) == 4) = true → (Q h (.int .u8 42))) ∧ (((a0 : Int) == 4) = false → (Q h (.int .u8 61))))))))
theorem w_sign {h : Hp} {a0 : Int} {Q : Hp → AV → Prop} {Qp : Hp → List PanicEntry → Prop}  (H : pre_sign h a0 Q Qp) : FnO Tryd.prog 45 [.int .i64 a0] h Q Qp := by
 unfold pre_sign at H
 refine Y59 Tryd.func45 rfl (Xc (by kernel_rfl)) <| GQ.E [(0, .int .i64 a0)] <| Y6 <| Y1 <| Ye (.int .u8 0) <| Y7 <| Y6 <| Y6 <| Y1 <| Y5 (.int .i64 a0) <| Y7 <| Y12 <| Y6 <| Y1 <| Yl (.bool ((a0 : Int) == 2)) ⟨trivial, trivial, rfl⟩ <| Ye (.bool ((a0 : Int) == 2)) <| Y7 ?_
 rcases X1 ((a0 : Int) == 2) with hb1 | hb1
 ·have H := H.1 hb1
  exact Y0l hb1 <| Y6 <| Y1 <| Ye (.int .u8 43) <| Y7 <| Y10 (Yw (Qp := Qp) rfl H)
 ·have H := H.2 hb1
  refine Y0s hb1 <| Y6 <| Y1 <| Yl (.bool ((a0 : Int) == 3)) ⟨trivial, trivial, rfl⟩ <| Ye (.bool ((a0 : Int) == 3)) <| Y7 ?_
  rcases X1 ((a0 : Int) == 3) with hb2 | hb2
  ·have H := H.1 hb2
   exact Y0l hb2 <| Y6 <| Y1 <| Ye (.int .u8 45) <| Y7 <| Y10 (Yw (Qp := Qp) rfl H)
  ·have H := H.2 hb2
   refine Y0s hb2 <| Y6 <| Y1 <| Yl (.bool ((a0 : Int) == 4)) ⟨trivial, trivial, rfl⟩ <| Ye (.bool ((a0 : Int) == 4)) <| Y7 ?_
   rcases X1 ((a0 : Int) == 4) with hb3 | hb3
   ·have H := H.1 hb3
    exact Y0l hb3 <| Y6 <| Y1 <| Ye (.int .u8 42) <| Y7 <| Y10 (Yw (Qp := Qp) rfl H)
   ·have H := H.2 hb3
    exact Y0s hb3 <| Y0p <| Y6 <| Y1 <| Ye (.int .u8 61) <| Y7 <| Y10 (Yw (Qp := Qp) rfl H)
def pre_name (h : Hp) (a0 : Int) (Q : Hp → AV → Prop) (Qp : Hp → List PanicEntry → Prop) : Prop :=
 ((((a0 : Int) == 6) = true → (Q h (.string ⟨#[102, 114, 97, 99]⟩))) ∧ (((a0 : Int) == 6) = false → ((((a0 : Int) == 7) = true → (Q h (.string ⟨#[112, 111, 119]⟩))) ∧ (((a0 : Int) == 7) = false → ((((a0 : Int) == 8) = true → (Q h (.string ⟨#[105, 100, 120]⟩))) ∧ (((a0 : Int) == 8) = false → ((((a0 : Int) == 9) = true → (Q h (.string ⟨#[114, 111, 111, 116]⟩))) ∧ (((a0 : Int) == 9) = false → ((((a0 : Int) == 11) = true → (Q h (.string ⟨#[99, 97, 110, 99, 101, 108]⟩))) ∧ (((a0 : Int) == 11) = false → ((((a0 : Int) == 12) = true → (Q h (.string ⟨#[115, 117, 109]⟩))) ∧ (((a0 : Int) == 12) = false → ((((a0 : Int) == 13) = true → (Q h (.string ⟨#[109, 97, 116, 114, 105, 120]⟩))) ∧ (((a0 : Int) == 13) = false → (Q h (.string ⟨#[]⟩))))))))))))))))
theorem w_name {h : Hp} {a0 : Int} {Q : Hp → AV → Prop} {Qp : Hp → List PanicEntry → Prop}  (H : pre_name h a0 Q Qp) : FnO Tryd.prog 46 [.int .i64 a0] h Q Qp := by
 unfold pre_name at H
 refine Y59 Tryd.func46 rfl (Xc (by kernel_rfl)) <| GQ.E [(0, .int .i64 a0)] <| Y6 <| Y1 <| Ye (.string ⟨#[]⟩) <| Y7 <| Y6 <| Y6 <| Y1 <| Y5 (.int .i64 a0) <| Y7 <| Y12 <| Y6 <| Y1 <| Yl (.bool ((a0 : Int) == 6)) ⟨trivial, trivial, rfl⟩ <| Ye (.bool ((a0 : Int) == 6)) <| Y7 ?_
 rcases X1 ((a0 : Int) == 6) with hb1 | hb1
 ·have H := H.1 hb1
  exact Y0l hb1 <| Y6 <| Y1 <| Ye (.string ⟨#[102, 114, 97, 99]⟩) <| Y7 <| Y10 (Yw (Qp := Qp) rfl H)
 ·have H := H.2 hb1
  refine Y0s hb1 <| Y6 <| Y1 <| Yl (.bool ((a0 : Int) == 7)) ⟨trivial, trivial, rfl⟩ <| Ye (.bool ((a0 : Int) == 7)) <| Y7 ?_
  rcases X1 ((a0 : Int) == 7) with hb2 | hb2
  ·have H := H.1 hb2
   exact Y0l hb2 <| Y6 <| Y1 <| Ye (.string ⟨#[112, 111, 119]⟩) <| Y7 <| Y10 (Yw (Qp := Qp) rfl H)
  ·have H := H.2 hb2
   refine Y0s hb2 <| Y6 <| Y1 <| Yl (.bool ((a0 : Int) == 8)) ⟨trivial, trivial, rfl⟩ <| Ye (.bool ((a0 : Int) == 8)) <| Y7 ?_
   rcases X1 ((a0 : Int) == 8) with hb3 | hb3
   ·have H := H.1 hb3
    exact Y0l hb3 <| Y6 <| Y1 <| Ye (.string ⟨#[105, 100, 120]⟩) <| Y7 <| Y10 (Yw (Qp := Qp) rfl H)
   ·have H := H.2 hb3
    refine Y0s hb3 <| Y6 <| Y1 <| Yl (.bool ((a0 : Int) == 9)) ⟨trivial, trivial, rfl⟩ <| Ye (.bool ((a0 : Int) == 9)) <| Y7 ?_
    rcases X1 ((a0 : Int) == 9) with hb4 | hb4
    ·have H := H.1 hb4
     exact Y0l hb4 <| Y6 <| Y1 <| Ye (.string ⟨#[114, 111, 111, 116]⟩) <| Y7 <| Y10 (Yw (Qp := Qp) rfl H)
    ·have H := H.2 hb4
     refine Y0s hb4 <| Y6 <| Y1 <| Yl (.bool ((a0 : Int) == 11)) ⟨trivial, trivial, rfl⟩ <| Ye (.bool ((a0 : Int) == 11)) <| Y7 ?_
     rcases X1 ((a0 : Int) == 11) with hb5 | hb5
     ·have H := H.1 hb5
      exact Y0l hb5 <| Y6 <| Y1 <| Ye (.string ⟨#[99, 97, 110, 99, 101, 108]⟩) <| Y7 <| Y10 (Yw (Qp := Qp) rfl H)
     ·have H := H.2 hb5
      refine Y0s hb5 <| Y6 <| Y1 <| Yl (.bool ((a0 : Int) == 12)) ⟨trivial, trivial, rfl⟩ <| Ye (.bool ((a0 : Int) == 12)) <| Y7 ?_
      rcases X1 ((a0 : Int) == 12) with hb6 | hb6
      ·have H := H.1 hb6
       exact Y0l hb6 <| Y6 <| Y1 <| Ye (.string ⟨#[115, 117, 109]⟩) <| Y7 <| Y10 (Yw (Qp := Qp) rfl H)
      ·have H := H.2 hb6
       refine Y0s hb6 <| Y6 <| Y1 <| Yl (.bool ((a0 : Int) == 13)) ⟨trivial, trivial, rfl⟩ <| Ye (.bool ((a0 : Int) == 13)) <| Y7 ?_
       rcases X1 ((a0 : Int) == 13) with hb7 | hb7
       ·have H := H.1 hb7
        exact Y0l hb7 <| Y6 <| Y1 <| Ye (.string ⟨#[109, 97, 116, 114, 105, 120]⟩) <| Y7 <| Y10 (Yw (Qp := Qp) rfl H)
       ·have H := H.2 hb7
        exact Y0s hb7 <| Y0p <| Y6 <| Y1 <| Ye (.string ⟨#[]⟩) <| Y7 <| Y10 (Yw (Qp := Qp) rfl H)
end Go.Proofs.YtkgfbpbndmklnaaDoor
