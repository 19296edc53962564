/- Own work. -/
import Derived.Test.YtkgfbpbndmklnaaDoorChecked
import Derived.Test.YtkgfbpbndmklnaaDoorSymA
set_option linter.unusedSimpArgs false
set_option linter.unusedVariables false
set_option maxRecDepth 100000
namespace Go.Proofs.YtkgfbpbndmklnaaDoor
open Go.Abs
def pre_precedence (h : Hp) (a0 : Int) (Q : Hp → AV → Prop) (Qp : Hp → List PanicEntry → Prop) : Prop :=
 ((((a0 : Int) == 5) = true → (Q h (.int .i64 1))) ∧ (((a0 : Int) == 5) = false → ((((a0 : Int) == 2) = true → (Q h (.int .i64 2))) ∧ (((a0 : Int) == 2) = false → ((((a0 : Int) == 3) = true → (Q h (.int .i64 2))) ∧ (((a0 : Int) == 3) = false → ((((a0 : Int) == 4) = true → (Q h (.int .i64 3))) ∧ (((a0 : Int) == 4) = false → (Q h (.int .i64 4))))))))))
theorem w_precedence {h : Hp} {a0 : Int} {Q : Hp → AV → Prop} {Qp : Hp → List PanicEntry → Prop}  (H : pre_precedence h a0 Q Qp) : FnO Tryd.prog 68 [.int .i64 a0] h Q Qp := by
 unfold pre_precedence at H
 refine FnO.mk Tryd.func68 rfl (Xc (by kernel_rfl)) ?_
 refine GQ.E [(0, .int .i64 a0)] ?_
 refine GQ.seq ?_
 refine GQ.region ?_
 refine SQ.a (.int .i64 0) ?_
 refine SQ.nil ?_
 refine GQ.seq ?_
 refine GQ.seq ?_
 refine GQ.region ?_
 refine SQ.m (.int .i64 a0) ?_
 refine SQ.nil ?_
 refine GQ.block ?_
 refine GQ.seq ?_
 refine GQ.region ?_
 refine SQ.p (.bool ((a0 : Int) == 5)) ⟨trivial, trivial, rfl⟩ ?_
 refine SQ.a (.bool ((a0 : Int) == 5)) ?_
 refine SQ.nil ?_
 rcases X1 ((a0 : Int) == 5) with hb1 | hb1
 ·have H := H.1 hb1
  refine GQ.t hb1 ?_
  refine GQ.seq ?_
  refine GQ.region ?_
  refine SQ.a (.int .i64 1) ?_
  refine SQ.nil ?_
  refine GQ.ret ?_
  exact EndK.ret (Qp := Qp) rfl H
 ·have H := H.2 hb1
  refine GQ.g hb1 ?_
  refine GQ.seq ?_
  refine GQ.seq ?_
  refine GQ.region ?_
  refine SQ.p (.bool ((a0 : Int) == 2)) ⟨trivial, trivial, rfl⟩ ?_
  refine SQ.a (.bool ((a0 : Int) == 2)) ?_
  refine SQ.nil ?_
  rcases X1 ((a0 : Int) == 2) with hb2 | hb2
  ·have H := H.1 hb2
   refine GQ.t hb2 ?_
   refine GQ.skip ?_
   refine GQ.t hb2 ?_
   refine GQ.seq ?_
   refine GQ.region ?_
   refine SQ.a (.int .i64 2) ?_
   refine SQ.nil ?_
   refine GQ.ret ?_
   exact EndK.ret (Qp := Qp) rfl H
  ·have H := H.2 hb2
   refine GQ.g hb2 ?_
   refine GQ.region ?_
   refine SQ.p (.bool ((a0 : Int) == 3)) ⟨trivial, trivial, rfl⟩ ?_
   refine SQ.a (.bool ((a0 : Int) == 3)) ?_
   refine SQ.nil ?_
   rcases X1 ((a0 : Int) == 3) with hb3 | hb3
   ·have H := H.1 hb3
    refine GQ.t hb3 ?_
    refine GQ.seq ?_
    refine GQ.region ?_
    refine SQ.a (.int .i64 2) ?_
    refine SQ.nil ?_
    refine GQ.ret ?_
    exact EndK.ret (Qp := Qp) rfl H
   ·have H := H.2 hb3
    refine GQ.g hb3 ?_
    refine GQ.seq ?_
    refine GQ.region ?_
    refine SQ.p (.bool ((a0 : Int) == 4)) ⟨trivial, trivial, rfl⟩ ?_
    refine SQ.a (.bool ((a0 : Int) == 4)) ?_
    refine SQ.nil ?_
    rcases X1 ((a0 : Int) == 4) with hb4 | hb4
    ·have H := H.1 hb4
     refine GQ.t hb4 ?_
     refine GQ.seq ?_
     refine GQ.region ?_
     refine SQ.a (.int .i64 3) ?_
     refine SQ.nil ?_
     refine GQ.ret ?_
     exact EndK.ret (Qp := Qp) rfl H
    ·have H := H.2 hb4
     refine GQ.g hb4 ?_
     refine GQ.skip ?_
     refine GQ.seq ?_
     refine GQ.region ?_
     refine SQ.a (.int .i64 4) ?_
     refine SQ.nil ?_
     refine GQ.ret ?_
     exact EndK.ret (Qp := Qp) rfl H
def pre_sign (h : Hp) (a0 : Int) (Q : Hp → AV → Prop) (Qp : Hp → List PanicEntry → Prop) : Prop :=
 ((((a0 : Int) == 2) = true → (Q h (.int .u8 43))) ∧ (((a0 : Int) == 2) = false → ((((a0 : Int) == 3) = true → (Q h (.int .u8 45))) ∧ (((a0 : Int) == 3) = false → ((((a0 : Int) == 4) = true → (Q h (.int .u8 42))) ∧ (((a0 : Int) == 4) = false → (Q h (.int .u8 61))))))))
theorem w_sign {h : Hp} {a0 : Int} {Q : Hp → AV → Prop} {Qp : Hp → List PanicEntry → Prop}  (H : pre_sign h a0 Q Qp) : FnO Tryd.prog 45 [.int .i64 a0] h Q Qp := by
 unfold pre_sign at H
 refine FnO.mk Tryd.func45 rfl (Xc (by kernel_rfl)) ?_
 refine GQ.E [(0, .int .i64 a0)] ?_
 refine GQ.seq ?_
 refine GQ.region ?_
 refine SQ.a (.int .u8 0) ?_
 refine SQ.nil ?_
 refine GQ.seq ?_
 refine GQ.seq ?_
 refine GQ.region ?_
 refine SQ.m (.int .i64 a0) ?_
 refine SQ.nil ?_
 refine GQ.block ?_
 refine GQ.seq ?_
 refine GQ.region ?_
 refine SQ.p (.bool ((a0 : Int) == 2)) ⟨trivial, trivial, rfl⟩ ?_
 refine SQ.a (.bool ((a0 : Int) == 2)) ?_
 refine SQ.nil ?_
 rcases X1 ((a0 : Int) == 2) with hb1 | hb1
 ·have H := H.1 hb1
  refine GQ.t hb1 ?_
  refine GQ.seq ?_
  refine GQ.region ?_
  refine SQ.a (.int .u8 43) ?_
  refine SQ.nil ?_
  refine GQ.ret ?_
  exact EndK.ret (Qp := Qp) rfl H
 ·have H := H.2 hb1
  refine GQ.g hb1 ?_
  refine GQ.seq ?_
  refine GQ.region ?_
  refine SQ.p (.bool ((a0 : Int) == 3)) ⟨trivial, trivial, rfl⟩ ?_
  refine SQ.a (.bool ((a0 : Int) == 3)) ?_
  refine SQ.nil ?_
  rcases X1 ((a0 : Int) == 3) with hb2 | hb2
  ·have H := H.1 hb2
   refine GQ.t hb2 ?_
   refine GQ.seq ?_
   refine GQ.region ?_
   refine SQ.a (.int .u8 45) ?_
   refine SQ.nil ?_
   refine GQ.ret ?_
   exact EndK.ret (Qp := Qp) rfl H
  ·have H := H.2 hb2
   refine GQ.g hb2 ?_
   refine GQ.seq ?_
   refine GQ.region ?_
   refine SQ.p (.bool ((a0 : Int) == 4)) ⟨trivial, trivial, rfl⟩ ?_
   refine SQ.a (.bool ((a0 : Int) == 4)) ?_
   refine SQ.nil ?_
   rcases X1 ((a0 : Int) == 4) with hb3 | hb3
   ·have H := H.1 hb3
    refine GQ.t hb3 ?_
    refine GQ.seq ?_
    refine GQ.region ?_
    refine SQ.a (.int .u8 42) ?_
    refine SQ.nil ?_
    refine GQ.ret ?_
    exact EndK.ret (Qp := Qp) rfl H
   ·have H := H.2 hb3
    refine GQ.g hb3 ?_
    refine GQ.skip ?_
    refine GQ.seq ?_
    refine GQ.region ?_
    refine SQ.a (.int .u8 61) ?_
    refine SQ.nil ?_
    refine GQ.ret ?_
    exact EndK.ret (Qp := Qp) rfl H
def pre_name (h : Hp) (a0 : Int) (Q : Hp → AV → Prop) (Qp : Hp → List PanicEntry → Prop) : Prop :=
 ((((a0 : Int) == 6) = true → (Q h (.string ⟨#[102, 114, 97, 99]⟩))) ∧ (((a0 : Int) == 6) = false → ((((a0 : Int) == 7) = true → (Q h (.string ⟨#[112, 111, 119]⟩))) ∧ (((a0 : Int) == 7) = false → ((((a0 : Int) == 8) = true → (Q h (.string ⟨#[105, 100, 120]⟩))) ∧ (((a0 : Int) == 8) = false → ((((a0 : Int) == 9) = true → (Q h (.string ⟨#[114, 111, 111, 116]⟩))) ∧ (((a0 : Int) == 9) = false → ((((a0 : Int) == 11) = true → (Q h (.string ⟨#[99, 97, 110, 99, 101, 108]⟩))) ∧ (((a0 : Int) == 11) = false → ((((a0 : Int) == 12) = true → (Q h (.string ⟨#[115, 117, 109]⟩))) ∧ (((a0 : Int) == 12) = false → ((((a0 : Int) == 13) = true → (Q h (.string ⟨#[109, 97, 116, 114, 105, 120]⟩))) ∧ (((a0 : Int) == 13) = false → (Q h (.string ⟨#[]⟩))))))))))))))))
theorem w_name {h : Hp} {a0 : Int} {Q : Hp → AV → Prop} {Qp : Hp → List PanicEntry → Prop}  (H : pre_name h a0 Q Qp) : FnO Tryd.prog 46 [.int .i64 a0] h Q Qp := by
 unfold pre_name at H
 refine FnO.mk Tryd.func46 rfl (Xc (by kernel_rfl)) ?_
 refine GQ.E [(0, .int .i64 a0)] ?_
 refine GQ.seq ?_
 refine GQ.region ?_
 refine SQ.a (.string ⟨#[]⟩) ?_
 refine SQ.nil ?_
 refine GQ.seq ?_
 refine GQ.seq ?_
 refine GQ.region ?_
 refine SQ.m (.int .i64 a0) ?_
 refine SQ.nil ?_
 refine GQ.block ?_
 refine GQ.seq ?_
 refine GQ.region ?_
 refine SQ.p (.bool ((a0 : Int) == 6)) ⟨trivial, trivial, rfl⟩ ?_
 refine SQ.a (.bool ((a0 : Int) == 6)) ?_
 refine SQ.nil ?_
 rcases X1 ((a0 : Int) == 6) with hb1 | hb1
 ·have H := H.1 hb1
  refine GQ.t hb1 ?_
  refine GQ.seq ?_
  refine GQ.region ?_
  refine SQ.a (.string ⟨#[102, 114, 97, 99]⟩) ?_
  refine SQ.nil ?_
  refine GQ.ret ?_
  exact EndK.ret (Qp := Qp) rfl H
 ·have H := H.2 hb1
  refine GQ.g hb1 ?_
  refine GQ.seq ?_
  refine GQ.region ?_
  refine SQ.p (.bool ((a0 : Int) == 7)) ⟨trivial, trivial, rfl⟩ ?_
  refine SQ.a (.bool ((a0 : Int) == 7)) ?_
  refine SQ.nil ?_
  rcases X1 ((a0 : Int) == 7) with hb2 | hb2
  ·have H := H.1 hb2
   refine GQ.t hb2 ?_
   refine GQ.seq ?_
   refine GQ.region ?_
   refine SQ.a (.string ⟨#[112, 111, 119]⟩) ?_
   refine SQ.nil ?_
   refine GQ.ret ?_
   exact EndK.ret (Qp := Qp) rfl H
  ·have H := H.2 hb2
   refine GQ.g hb2 ?_
   refine GQ.seq ?_
   refine GQ.region ?_
   refine SQ.p (.bool ((a0 : Int) == 8)) ⟨trivial, trivial, rfl⟩ ?_
   refine SQ.a (.bool ((a0 : Int) == 8)) ?_
   refine SQ.nil ?_
   rcases X1 ((a0 : Int) == 8) with hb3 | hb3
   ·have H := H.1 hb3
    refine GQ.t hb3 ?_
    refine GQ.seq ?_
    refine GQ.region ?_
    refine SQ.a (.string ⟨#[105, 100, 120]⟩) ?_
    refine SQ.nil ?_
    refine GQ.ret ?_
    exact EndK.ret (Qp := Qp) rfl H
   ·have H := H.2 hb3
    refine GQ.g hb3 ?_
    refine GQ.seq ?_
    refine GQ.region ?_
    refine SQ.p (.bool ((a0 : Int) == 9)) ⟨trivial, trivial, rfl⟩ ?_
    refine SQ.a (.bool ((a0 : Int) == 9)) ?_
    refine SQ.nil ?_
    rcases X1 ((a0 : Int) == 9) with hb4 | hb4
    ·have H := H.1 hb4
     refine GQ.t hb4 ?_
     refine GQ.seq ?_
     refine GQ.region ?_
     refine SQ.a (.string ⟨#[114, 111, 111, 116]⟩) ?_
     refine SQ.nil ?_
     refine GQ.ret ?_
     exact EndK.ret (Qp := Qp) rfl H
    ·have H := H.2 hb4
     refine GQ.g hb4 ?_
     refine GQ.seq ?_
     refine GQ.region ?_
     refine SQ.p (.bool ((a0 : Int) == 11)) ⟨trivial, trivial, rfl⟩ ?_
     refine SQ.a (.bool ((a0 : Int) == 11)) ?_
     refine SQ.nil ?_
     rcases X1 ((a0 : Int) == 11) with hb5 | hb5
     ·have H := H.1 hb5
      refine GQ.t hb5 ?_
      refine GQ.seq ?_
      refine GQ.region ?_
      refine SQ.a (.string ⟨#[99, 97, 110, 99, 101, 108]⟩) ?_
      refine SQ.nil ?_
      refine GQ.ret ?_
      exact EndK.ret (Qp := Qp) rfl H
     ·have H := H.2 hb5
      refine GQ.g hb5 ?_
      refine GQ.seq ?_
      refine GQ.region ?_
      refine SQ.p (.bool ((a0 : Int) == 12)) ⟨trivial, trivial, rfl⟩ ?_
      refine SQ.a (.bool ((a0 : Int) == 12)) ?_
      refine SQ.nil ?_
      rcases X1 ((a0 : Int) == 12) with hb6 | hb6
      ·have H := H.1 hb6
       refine GQ.t hb6 ?_
       refine GQ.seq ?_
       refine GQ.region ?_
       refine SQ.a (.string ⟨#[115, 117, 109]⟩) ?_
       refine SQ.nil ?_
       refine GQ.ret ?_
       exact EndK.ret (Qp := Qp) rfl H
      ·have H := H.2 hb6
       refine GQ.g hb6 ?_
       refine GQ.seq ?_
       refine GQ.region ?_
       refine SQ.p (.bool ((a0 : Int) == 13)) ⟨trivial, trivial, rfl⟩ ?_
       refine SQ.a (.bool ((a0 : Int) == 13)) ?_
       refine SQ.nil ?_
       rcases X1 ((a0 : Int) == 13) with hb7 | hb7
       ·have H := H.1 hb7
        refine GQ.t hb7 ?_
        refine GQ.seq ?_
        refine GQ.region ?_
        refine SQ.a (.string ⟨#[109, 97, 116, 114, 105, 120]⟩) ?_
        refine SQ.nil ?_
        refine GQ.ret ?_
        exact EndK.ret (Qp := Qp) rfl H
       ·have H := H.2 hb7
        refine GQ.g hb7 ?_
        refine GQ.skip ?_
        refine GQ.seq ?_
        refine GQ.region ?_
        refine SQ.a (.string ⟨#[]⟩) ?_
        refine SQ.nil ?_
        refine GQ.ret ?_
        exact EndK.ret (Qp := Qp) rfl H
end Go.Proofs.YtkgfbpbndmklnaaDoor
