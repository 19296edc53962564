/- Own work. -/
import Derived.Test.YtkgfbpbndmklnaaDoorChecked
import Derived.Test.YtkgfbpbndmklnaaDoorSymA
set_option linter.unusedSimpArgs false
set_option linter.unusedVariables false
set_option maxRecDepth 100000
namespace Go.Proofs.YtkgfbpbndmklnaaDoor
open Go.Abs
def pre_sum (h : Hp) (p : Nat) (Q : Hp → AV → Prop) (Qp : Hp → List PanicEntry → Prop) : Prop :=
 ((∃ (h4 : Hp), ∃ (x5 : Int), (CallOK Tryd.prog 61 [.ref p 0 0] h h4 (.int .i64 x5)) ∧ ∃ (r7 : Nat), ∃ (h8 : Hp), (Nw h4 r7 ⟨0, true, 3, 1, [.int .i64 x5]⟩ h8) ∧ ∃ (J11 : AV → Bool → Hp → Prop), (∀ (y14 : AV) (y16 : Bool) (h10 : Hp), J11 y14 y16 h10 → NC y14 → (∃ (n58 : Nat), (Len h10 y14 n58) ∧ (((decide ((((n58 : Nat) : Int) : Int) < 2)) = true → ((∃ (h64 : Hp), (CallOK Tryd.prog 65 [.ref p 0 0] h10 h64 (.tup [])) ∧ (Len h64 y14 n58) ∧ ((∃ (h70 : Hp), (CallOK Tryd.prog 70 [.ref p 0 0, .int .u8 59] h64 h70 (.tup [])) ∧ ((∃ (h75 : Hp), ∃ (x76 : Int), (CallOK Tryd.prog 61 [.ref p 0 0] h70 h75 (.int .i64 x76)) ∧ ∃ (r78 : Nat), ∃ (h79 : Hp), (Nw h75 r78 ⟨0, true, 3, 1, [.int .i64 x76]⟩ h79) ∧ ∃ (h81 : Hp), ∃ (s83 : AV), (NC s83) ∧ (App h79 y14 3 1 8 1 [.int .i64 x76] h81 s83) ∧ ((∃ (h88 : Hp), (CallOK Tryd.prog 70 [.ref p 0 0, .int .u8 41] h81 h88 (.tup [])) ∧ ∃ (h90 : Hp), ∃ (x91 : Int), (CallOK Tryd.prog 63 [.ref p 0 0, .int .i64 12, .int .i64 ((n58 : Nat) : Int), s83] h88 h90 (.int .i64 x91)) ∧ (Q h90 (.int .i64 x91))) ∨ (∃ (h85 : Hp), ∃ (ch86 : List PanicEntry), (Yp Tryd.prog 70 [.ref p 0 0, .int .u8 41] h81 h85 ch86) ∧ (Qp h85 ch86)))) ∨ (∃ (h72 : Hp), ∃ (ch73 : List PanicEntry), (Yp Tryd.prog 61 [.ref p 0 0] h70 h72 ch73) ∧ (Qp h72 ch73)))) ∨ (∃ (h67 : Hp), ∃ (ch68 : List PanicEntry), (Yp Tryd.prog 70 [.ref p 0 0, .int .u8 59] h64 h67 ch68) ∧ (Qp h67 ch68)))) ∨ (∃ (h61 : Hp), ∃ (ch62 : List PanicEntry), (Yp Tryd.prog 65 [.ref p 0 0] h10 h61 ch62) ∧ (Qp h61 ch62)))) ∧ ((decide ((((n58 : Nat) : Int) : Int) < 2)) = false → ((∃ (h96 : Hp), (CallOK Tryd.prog 70 [.ref p 0 0, .int .u8 59] h10 h96 (.tup [])) ∧ ((∃ (h101 : Hp), ∃ (x102 : Int), (CallOK Tryd.prog 61 [.ref p 0 0] h96 h101 (.int .i64 x102)) ∧ ∃ (r104 : Nat), ∃ (h105 : Hp), (Nw h101 r104 ⟨0, true, 3, 1, [.int .i64 x102]⟩ h105) ∧ ∃ (h107 : Hp), ∃ (s109 : AV), (NC s109) ∧ (App h105 y14 3 1 8 1 [.int .i64 x102] h107 s109) ∧ ((∃ (h114 : Hp), (CallOK Tryd.prog 70 [.ref p 0 0, .int .u8 41] h107 h114 (.tup [])) ∧ ∃ (h116 : Hp), ∃ (x117 : Int), (CallOK Tryd.prog 63 [.ref p 0 0, .int .i64 12, .int .i64 ((n58 : Nat) : Int), s109] h114 h116 (.int .i64 x117)) ∧ (Q h116 (.int .i64 x117))) ∨ (∃ (h111 : Hp), ∃ (ch112 : List PanicEntry), (Yp Tryd.prog 70 [.ref p 0 0, .int .u8 41] h107 h111 ch112) ∧ (Qp h111 ch112)))) ∨ (∃ (h98 : Hp), ∃ (ch99 : List PanicEntry), (Yp Tryd.prog 61 [.ref p 0 0] h96 h98 ch99) ∧ (Qp h98 ch99)))) ∨ (∃ (h93 : Hp), ∃ (ch94 : List PanicEntry), (Yp Tryd.prog 70 [.ref p 0 0, .int .u8 59] h10 h93 ch94) ∧ (Qp h93 ch94))))))) ∧ (∃ (I19 : Nat → AV → Hp → Prop), (∃ m22 : Nat, I19 m22 (.rsl r7 0 0 1) h8) ∧ ∀ (m18 : Nat) (y23 : AV) (h17 : Hp), I19 m18 y23 h17 → NC y23 → (∃ (J26 : Bool → Hp → Prop), (∀ (y29 : Bool) (h25 : Hp), J26 y29 h25 → ((((y29) = true → (Has h25 p 0) ∧ ∃ (x38 : Int), (Ld h25 p 0 1 (.int .i64 x38)) ∧ (okA .i64 (x38 + 1 : Int)) ∧ ∃ (h41 : Hp), (St h25 p 0 1 (.int .i64 (x38 + 1)) h41) ∧ ((∃ (h46 : Hp), ∃ (x47 : Int), (CallOK Tryd.prog 61 [.ref p 0 0] h41 h46 (.int .i64 x47)) ∧ ∃ (r49 : Nat), ∃ (h50 : Hp), (Nw h46 r49 ⟨0, true, 3, 1, [.int .i64 x47]⟩ h50) ∧ ∃ (h52 : Hp), ∃ (s54 : AV), (NC s54) ∧ (App h50 y23 3 1 8 1 [.int .i64 x47] h52 s54) ∧ (∃ m56 : Nat, m56 < m18 ∧ I19 m56 s54 h52)) ∨ (∃ (h43 : Hp), ∃ (ch44 : List PanicEntry), (Yp Tryd.prog 61 [.ref p 0 0] h41 h43 ch44) ∧ (Qp h43 ch44)))) ∧ ((y29) = false → (J11 y23 y29 h25))))) ∧ (∃ (n30 : Nat), (Len h17 y23 n30) ∧ (((decide ((((n30 : Nat) : Int) : Int) < 5)) = true → ∃ (h33 : Hp), ∃ (x34 : Int), (CallOK Tryd.prog 59 [.ref p 0 0] h17 h33 (.int .u8 x34)) ∧ (J26 ((x34 : Int) == 44) h33)) ∧ ((decide ((((n30 : Nat) : Int) : Int) < 5)) = false → (J26 false h17))))))) ∨ (∃ (h1 : Hp), ∃ (ch2 : List PanicEntry), (Yp Tryd.prog 61 [.ref p 0 0] h h1 ch2) ∧ (Qp h1 ch2)))
theorem w_sum {h : Hp} {p : Nat} {Q : Hp → AV → Prop} {Qp : Hp → List PanicEntry → Prop}  (H : pre_sum h p Q Qp) : FnO Tryd.prog 64 [.ref p 0 0] h Q Qp := by
 unfold pre_sum at H
 refine FnO.mk Tryd.func64 rfl (Xc (by kernel_rfl)) ?_
 refine GQ.E [(0, .ref p 0 0)] ?_
 refine GQ.seq ?_
 refine GQ.region ?_
 refine SQ.a (.int .i64 0) ?_
 refine SQ.nil ?_
 refine GQ.seq ?_
 rcases H with H | H
 ·skip
  obtain ⟨h4, x5, k6, r7, h8, w9, H⟩ := H
  refine GQ.region ?_
  refine SQ.m (.ref p 0 0) ?_
  refine SQ.c [.ref p 0 0] nc1 k6 ?_
  refine SQ.cons (av := .rsl r7 0 0 1) rfl (OStep.yes rfl (HStep.build (qs := [(0, .int .i64 x5)]) (cs := [.int .i64 x5]) (r := r7) rfl (Y8 (P := Tryd.prog) (t := 42) (e := 3) (k := 1) (bytes := 8) (z := [.int .i64 0]) (by kernel_rfl)) (by decide) (by kernel_rfl) (by simp only [X5, X4, or_false, forall_eq]; exact ⟨⟨trivial, rfl⟩, Y2l rfl⟩) (by kernel_rfl) (by simp only [X5, X4, or_false, forall_eq]; exact rfl) rfl w9)) ?_
  refine SQ.a (.rsl r7 0 0 1) ?_
  refine SQ.nil ?_
  obtain ⟨J11, HR12, H⟩ := H
  refine GQ.seqJ (fun e h' => ∃ (y14 : AV) (y16 : Bool), NC y14 ∧ Env.le e [(0, .ref p 0 0), (2, .int .i64 0), (3, y14), (15, .bool y16)] ∧ J11 y14 y16 h') ?_ ?_
  ·skip
   refine GQ.block ?_
   obtain ⟨I19, ⟨m22, H21⟩, H⟩ := H
   refine GQ.loop (fun n e h' => ∃ (y23 : AV), NC y23 ∧ Env.le e [(0, .ref p 0 0), (2, .int .i64 0), (3, y23)] ∧ I19 n y23 h') ?_ m22 ⟨(.rsl r7 0 0 1), ⟨trivial, rfl⟩, Y5 (by kernel_rfl), H21⟩
   rintro m18 _ h17 ⟨y23, n24, hle, HI20⟩
   have H := H m18 y23 h17 HI20 n24
   refine GQ.weaken _ hle ?_
   refine GQ.seq ?_
   obtain ⟨J26, HR27, H⟩ := H
   refine GQ.seqJ (fun e h' => ∃ (y29 : Bool), Env.le e [(0, .ref p 0 0), (2, .int .i64 0), (3, y23), (15, .bool y29)] ∧ J26 y29 h') ?_ ?_
   ·skip
    obtain ⟨n30, g31, H⟩ := H
    rcases X1 (decide ((((n30 : Nat) : Int) : Int) < 5)) with hb32 | hb32
    ·have H := H.1 hb32
     obtain ⟨h33, x34, k35, H⟩ := H
     refine GQ.region ?_
     refine SQ.m (y23) ?_ n24
     refine SQ.cons (av := .int .i64 ((n30 : Nat) : Int)) rfl (OStep.yes rfl (HStep.len (s := y23) (n := n30) rfl (by kernel_rfl) (by kernel_rfl) g31)) ?_
     refine SQ.cons (av := .bool true) rfl (OStep.yes rfl (Y0p (Y6 (av := .bool (decide ((((n30 : Nat) : Int) : Int) < 5))) ⟨trivial, trivial, rfl⟩ (by kernel_rfl)) hb32)) ?_
     refine SQ.m (.bool true) ?_
     refine SQ.m (.ref p 0 0) ?_
     refine SQ.c [.ref p 0 0] nc1 k35 ?_
     refine SQ.p (.bool ((x34 : Int) == 44)) ⟨trivial, trivial, rfl⟩ ?_
     refine SQ.cons (av := .bool ((x34 : Int) == 44)) rfl (OStep.yes rfl (Yl (s := .bool ((x34 : Int) == 44)) rfl (by kernel_rfl) (by kernel_rfl) ⟨trivial, rfl⟩)) ?_
     refine SQ.nil ?_
     exact ⟨((x34 : Int) == 44), Y5 (by kernel_rfl), H⟩
    ·have H := H.2 hb32
     refine GQ.region ?_
     refine SQ.m (y23) ?_ n24
     refine SQ.cons (av := .int .i64 ((n30 : Nat) : Int)) rfl (OStep.yes rfl (HStep.len (s := y23) (n := n30) rfl (by kernel_rfl) (by kernel_rfl) g31)) ?_
     refine SQ.cons (av := .bool false) rfl (OStep.yes rfl (Y0c (Y6 (av := .bool (decide ((((n30 : Nat) : Int) : Int) < 5))) ⟨trivial, trivial, rfl⟩ (by kernel_rfl)) hb32)) ?_
     refine SQ.m (.bool false) ?_
     refine SQ.cons (av := undA) rfl (OStep.no rfl) ?_
     refine SQ.cons (av := undA) rfl (OStep.no rfl) ?_
     refine SQ.cons (av := undA) rfl (OStep.no rfl) ?_
     refine SQ.cons (av := .bool false) rfl (OStep.yes rfl (Yh (s := .bool false) rfl (by kernel_rfl) (by kernel_rfl) ⟨trivial, rfl⟩)) ?_
     refine SQ.nil ?_
     exact ⟨false, Y5 (by kernel_rfl), H⟩
   clear H
   rintro _ h25 ⟨y29, hle, HJ28⟩
   have H := HR27 y29 h25 HJ28
   refine GQ.weaken _ hle ?_
   rcases X1 (y29) with hb36 | hb36
   ·have H := H.1 hb36
    refine GQ.t hb36 ?_
    refine GQ.skip ?_
    refine GQ.block ?_
    refine GQ.seq ?_
    obtain ⟨f37, x38, l39, c40, h41, w42, H⟩ := H
    refine GQ.region ?_
    refine SQ.m (.ref p 0 0) ?_
    refine SQ.n (0) f37 ?_
    refine SQ.f 1 (0) f37 ?_
    refine SQ.y l39 ?_
    refine SQ.p (.int .i64 (x38 + 1)) ⟨trivial, trivial, rfl, c40⟩ ?_
    refine SQ.n (0) f37 ?_
    refine SQ.f 1 (0) f37 ?_
    refine SQ.cons (av := .any) rfl (OStep.yes rfl (Y9 (r := p) (ver := 0) (off := 1) (n := 1) (v := .int .i64 (x38 + 1)) rfl (by kernel_rfl) (by kernel_rfl) (by kernel_rfl) ⟨trivial, rfl⟩ (by kernel_rfl) w42)) ?_
    refine SQ.nil ?_
    rcases H with H | H
    ·skip
     obtain ⟨h46, x47, k48, r49, h50, w51, h52, s54, n55, w53, H⟩ := H
     refine GQ.region ?_
     refine SQ.m (y23) ?_ n24
     refine SQ.m (.ref p 0 0) ?_
     refine SQ.c [.ref p 0 0] nc1 k48 ?_
     refine SQ.cons (av := .rsl r49 0 0 1) rfl (OStep.yes rfl (HStep.build (qs := [(0, .int .i64 x47)]) (cs := [.int .i64 x47]) (r := r49) rfl (Y8 (P := Tryd.prog) (t := 42) (e := 3) (k := 1) (bytes := 8) (z := [.int .i64 0]) (by kernel_rfl)) (by decide) (by kernel_rfl) (by simp only [X5, X4, or_false, forall_eq]; exact ⟨⟨trivial, rfl⟩, Y2l rfl⟩) (by kernel_rfl) (by simp only [X5, X4, or_false, forall_eq]; exact rfl) rfl w51)) ?_
     refine SQ.cons (av := s54) rfl (OStep.yes rfl (HStep.app (sv := y23) (xv := .rsl r49 0 0 1) (news := [.int .i64 x47]) rfl (Y8 (P := Tryd.prog) (t := 42) (e := 3) (k := 1) (bytes := 8) (z := [.int .i64 0]) (by kernel_rfl)) (by kernel_rfl) (by kernel_rfl) trivial (SrcA.rsl (m := 1) (by kernel_rfl) (Nw.at w51) rfl rfl rfl (Xc rfl)) w53)) ?_
     refine SQ.a (s54) ?_ n55
     refine SQ.nil ?_
     obtain ⟨m56, hl57, H⟩ := H
     exact ⟨m56, hl57, s54, n55, Y5 (by kernel_rfl), H⟩
    ·skip
     obtain ⟨h43, ch44, k45, H⟩ := H
     refine GQ.region ?_
     refine SQ.m (y23) ?_ n24
     refine SQ.m (.ref p 0 0) ?_
     refine Y1n (OPan.yes rfl (HPan.call (vs := [.ref p 0 0]) rfl (by kernel_rfl) (by kernel_rfl) nc1 k45)) ?_
     exact H
   ·have H := H.2 hb36
    refine GQ.g hb36 ?_
    refine GQ.exit ?_
    exact ⟨y23, y29, n24, Y5 (by kernel_rfl), H⟩
  clear H
  rintro _ h10 ⟨y14, y16, n15, hle, HJ13⟩
  have H := HR12 y14 y16 h10 HJ13 n15
  refine GQ.weaken _ hle ?_
  refine GQ.seq ?_
  refine GQ.seq ?_
  obtain ⟨n58, g59, H⟩ := H
  refine GQ.region ?_
  refine SQ.m (y14) ?_ n15
  refine SQ.cons (av := .int .i64 ((n58 : Nat) : Int)) rfl (OStep.yes rfl (HStep.len (s := y14) (n := n58) rfl (by kernel_rfl) (by kernel_rfl) g59)) ?_
  refine SQ.p (.bool (decide ((((n58 : Nat) : Int) : Int) < 2))) ⟨trivial, trivial, rfl⟩ ?_
  refine SQ.nil ?_
  rcases X1 (decide ((((n58 : Nat) : Int) : Int) < 2)) with hb60 | hb60
  ·have H := H.1 hb60
   refine GQ.t hb60 ?_
   rcases H with H | H
   ·skip
    obtain ⟨h64, k65, H⟩ := H
    refine GQ.region ?_
    refine SQ.m (.ref p 0 0) ?_
    refine SQ.c [.ref p 0 0] nc1 k65 ?_
    refine SQ.nil ?_
    refine GQ.seq ?_
    obtain ⟨g66, H⟩ := H
    refine GQ.region ?_
    refine SQ.m (y14) ?_ n15
    refine SQ.cons (av := .int .i64 ((n58 : Nat) : Int)) rfl (OStep.yes rfl (HStep.len (s := y14) (n := n58) rfl (by kernel_rfl) (by kernel_rfl) g66)) ?_
    refine SQ.a (.int .i64 ((n58 : Nat) : Int)) ?_
    refine SQ.nil ?_
    refine GQ.seq ?_
    rcases H with H | H
    ·skip
     obtain ⟨h70, k71, H⟩ := H
     refine GQ.region ?_
     refine SQ.m (.ref p 0 0) ?_
     refine SQ.c [.ref p 0 0, .int .u8 59] nc2 k71 ?_
     refine SQ.nil ?_
     refine GQ.seq ?_
     rcases H with H | H
     ·skip
      obtain ⟨h75, x76, k77, r78, h79, w80, h81, s83, n84, w82, H⟩ := H
      refine GQ.region ?_
      refine SQ.m (y14) ?_ n15
      refine SQ.m (.ref p 0 0) ?_
      refine SQ.c [.ref p 0 0] nc1 k77 ?_
      refine SQ.cons (av := .rsl r78 0 0 1) rfl (OStep.yes rfl (HStep.build (qs := [(0, .int .i64 x76)]) (cs := [.int .i64 x76]) (r := r78) rfl (Y8 (P := Tryd.prog) (t := 42) (e := 3) (k := 1) (bytes := 8) (z := [.int .i64 0]) (by kernel_rfl)) (by decide) (by kernel_rfl) (by simp only [X5, X4, or_false, forall_eq]; exact ⟨⟨trivial, rfl⟩, Y2l rfl⟩) (by kernel_rfl) (by simp only [X5, X4, or_false, forall_eq]; exact rfl) rfl w80)) ?_
      refine SQ.cons (av := s83) rfl (OStep.yes rfl (HStep.app (sv := y14) (xv := .rsl r78 0 0 1) (news := [.int .i64 x76]) rfl (Y8 (P := Tryd.prog) (t := 42) (e := 3) (k := 1) (bytes := 8) (z := [.int .i64 0]) (by kernel_rfl)) (by kernel_rfl) (by kernel_rfl) trivial (SrcA.rsl (m := 1) (by kernel_rfl) (Nw.at w80) rfl rfl rfl (Xc rfl)) w82)) ?_
      refine SQ.a (s83) ?_ n84
      refine SQ.nil ?_
      refine GQ.seq ?_
      rcases H with H | H
      ·skip
       obtain ⟨h88, k89, H⟩ := H
       refine GQ.region ?_
       refine SQ.m (.ref p 0 0) ?_
       refine SQ.c [.ref p 0 0, .int .u8 41] nc2 k89 ?_
       refine SQ.nil ?_
       refine GQ.seq ?_
       obtain ⟨h90, x91, k92, H⟩ := H
       refine GQ.region ?_
       refine SQ.m (.ref p 0 0) ?_
       refine SQ.m (.int .i64 ((n58 : Nat) : Int)) ?_
       refine SQ.m (s83) ?_ n84
       refine SQ.c [.ref p 0 0, .int .i64 12, .int .i64 ((n58 : Nat) : Int), s83] (by simp only [X5, X4, or_false, forall_eq_or_imp, forall_eq]; exact ⟨⟨trivial, rfl⟩, ⟨trivial, rfl⟩, ⟨trivial, rfl⟩, n84⟩) k92 ?_
       refine SQ.a (.int .i64 x91) ?_
       refine SQ.nil ?_
       refine GQ.ret ?_
       exact EndK.ret (Qp := Qp) rfl H
      ·skip
       obtain ⟨h85, ch86, k87, H⟩ := H
       refine GQ.region ?_
       refine SQ.m (.ref p 0 0) ?_
       refine Y1n (OPan.yes rfl (HPan.call (vs := [.ref p 0 0, .int .u8 41]) rfl (by kernel_rfl) (by kernel_rfl) nc2 k87)) ?_
       exact H
     ·skip
      obtain ⟨h72, ch73, k74, H⟩ := H
      refine GQ.region ?_
      refine SQ.m (y14) ?_ n15
      refine SQ.m (.ref p 0 0) ?_
      refine Y1n (OPan.yes rfl (HPan.call (vs := [.ref p 0 0]) rfl (by kernel_rfl) (by kernel_rfl) nc1 k74)) ?_
      exact H
    ·skip
     obtain ⟨h67, ch68, k69, H⟩ := H
     refine GQ.region ?_
     refine SQ.m (.ref p 0 0) ?_
     refine Y1n (OPan.yes rfl (HPan.call (vs := [.ref p 0 0, .int .u8 59]) rfl (by kernel_rfl) (by kernel_rfl) nc2 k69)) ?_
     exact H
   ·skip
    obtain ⟨h61, ch62, k63, H⟩ := H
    refine GQ.region ?_
    refine SQ.m (.ref p 0 0) ?_
    refine Y1n (OPan.yes rfl (HPan.call (vs := [.ref p 0 0]) rfl (by kernel_rfl) (by kernel_rfl) nc1 k63)) ?_
    exact H
  ·have H := H.2 hb60
   refine GQ.g hb60 ?_
   refine GQ.skip ?_
   refine GQ.seq ?_
   refine GQ.region ?_
   refine SQ.m (y14) ?_ n15
   refine SQ.cons (av := .int .i64 ((n58 : Nat) : Int)) rfl (OStep.yes rfl (HStep.len (s := y14) (n := n58) rfl (by kernel_rfl) (by kernel_rfl) g59)) ?_
   refine SQ.a (.int .i64 ((n58 : Nat) : Int)) ?_
   refine SQ.nil ?_
   refine GQ.seq ?_
   rcases H with H | H
   ·skip
    obtain ⟨h96, k97, H⟩ := H
    refine GQ.region ?_
    refine SQ.m (.ref p 0 0) ?_
    refine SQ.c [.ref p 0 0, .int .u8 59] nc2 k97 ?_
    refine SQ.nil ?_
    refine GQ.seq ?_
    rcases H with H | H
    ·skip
     obtain ⟨h101, x102, k103, r104, h105, w106, h107, s109, n110, w108, H⟩ := H
     refine GQ.region ?_
     refine SQ.m (y14) ?_ n15
     refine SQ.m (.ref p 0 0) ?_
     refine SQ.c [.ref p 0 0] nc1 k103 ?_
     refine SQ.cons (av := .rsl r104 0 0 1) rfl (OStep.yes rfl (HStep.build (qs := [(0, .int .i64 x102)]) (cs := [.int .i64 x102]) (r := r104) rfl (Y8 (P := Tryd.prog) (t := 42) (e := 3) (k := 1) (bytes := 8) (z := [.int .i64 0]) (by kernel_rfl)) (by decide) (by kernel_rfl) (by simp only [X5, X4, or_false, forall_eq]; exact ⟨⟨trivial, rfl⟩, Y2l rfl⟩) (by kernel_rfl) (by simp only [X5, X4, or_false, forall_eq]; exact rfl) rfl w106)) ?_
     refine SQ.cons (av := s109) rfl (OStep.yes rfl (HStep.app (sv := y14) (xv := .rsl r104 0 0 1) (news := [.int .i64 x102]) rfl (Y8 (P := Tryd.prog) (t := 42) (e := 3) (k := 1) (bytes := 8) (z := [.int .i64 0]) (by kernel_rfl)) (by kernel_rfl) (by kernel_rfl) trivial (SrcA.rsl (m := 1) (by kernel_rfl) (Nw.at w106) rfl rfl rfl (Xc rfl)) w108)) ?_
     refine SQ.a (s109) ?_ n110
     refine SQ.nil ?_
     refine GQ.seq ?_
     rcases H with H | H
     ·skip
      obtain ⟨h114, k115, H⟩ := H
      refine GQ.region ?_
      refine SQ.m (.ref p 0 0) ?_
      refine SQ.c [.ref p 0 0, .int .u8 41] nc2 k115 ?_
      refine SQ.nil ?_
      refine GQ.seq ?_
      obtain ⟨h116, x117, k118, H⟩ := H
      refine GQ.region ?_
      refine SQ.m (.ref p 0 0) ?_
      refine SQ.m (.int .i64 ((n58 : Nat) : Int)) ?_
      refine SQ.m (s109) ?_ n110
      refine SQ.c [.ref p 0 0, .int .i64 12, .int .i64 ((n58 : Nat) : Int), s109] (by simp only [X5, X4, or_false, forall_eq_or_imp, forall_eq]; exact ⟨⟨trivial, rfl⟩, ⟨trivial, rfl⟩, ⟨trivial, rfl⟩, n110⟩) k118 ?_
      refine SQ.a (.int .i64 x117) ?_
      refine SQ.nil ?_
      refine GQ.ret ?_
      exact EndK.ret (Qp := Qp) rfl H
     ·skip
      obtain ⟨h111, ch112, k113, H⟩ := H
      refine GQ.region ?_
      refine SQ.m (.ref p 0 0) ?_
      refine Y1n (OPan.yes rfl (HPan.call (vs := [.ref p 0 0, .int .u8 41]) rfl (by kernel_rfl) (by kernel_rfl) nc2 k113)) ?_
      exact H
    ·skip
     obtain ⟨h98, ch99, k100, H⟩ := H
     refine GQ.region ?_
     refine SQ.m (y14) ?_ n15
     refine SQ.m (.ref p 0 0) ?_
     refine Y1n (OPan.yes rfl (HPan.call (vs := [.ref p 0 0]) rfl (by kernel_rfl) (by kernel_rfl) nc1 k100)) ?_
     exact H
   ·skip
    obtain ⟨h93, ch94, k95, H⟩ := H
    refine GQ.region ?_
    refine SQ.m (.ref p 0 0) ?_
    refine Y1n (OPan.yes rfl (HPan.call (vs := [.ref p 0 0, .int .u8 59]) rfl (by kernel_rfl) (by kernel_rfl) nc2 k95)) ?_
    exact H
 ·skip
  obtain ⟨h1, ch2, k3, H⟩ := H
  refine GQ.region ?_
  refine SQ.m (.ref p 0 0) ?_
  refine Y1n (OPan.yes rfl (HPan.call (vs := [.ref p 0 0]) rfl (by kernel_rfl) (by kernel_rfl) nc1 k3)) ?_
  exact H
def pre_matrix (h : Hp) (p : Nat) (Q : Hp → AV → Prop) (Qp : Hp → List PanicEntry → Prop) : Prop :=
 ∃ (r1 : Nat), ∃ (v2 : Nat), ∃ (o3 : Nat), (CallOK Tryd.prog 66 [.ref p 0 0] h h (.ref r1 v2 o3)) ∧ ∃ (h5 : Hp), ∃ (x6 : Int), (CallOK Tryd.prog 59 [.ref p 0 0] h h5 (.int .u8 x6)) ∧ (Has h5 r1 v2) ∧ ∃ (x9 : Int), (Ld h5 r1 v2 (o3 + 4) (.int .i64 x9)) ∧ ((((x9 : Int) == 0) = true → ∃ (J13 : Bool → Hp → Prop), (∀ (y16 : Bool) (h12 : Hp), J13 y16 h12 → ((Has h12 p 0) ∧ ∃ (x75 : Int), (Ld h12 p 0 1 (.int .i64 x75)) ∧ (okA .i64 (x75 + 1 : Int)) ∧ ∃ (h78 : Hp), (St h12 p 0 1 (.int .i64 (x75 + 1)) h78) ∧ (Has h78 r1 v2) ∧ ∃ (s81 : AV), (NC s81) ∧ (Ld h78 r1 v2 (o3 + 1) s81) ∧ ∃ (h84 : Hp), ∃ (x85 : Int), (CallOK Tryd.prog 51 [.ref p 0 0] h78 h84 (.int .i64 x85)) ∧ ∃ (r87 : Nat), ∃ (h88 : Hp), (Nw h84 r87 ⟨0, true, 3, 1, [.int .i64 x85]⟩ h88) ∧ ∃ (h90 : Hp), ∃ (s92 : AV), (NC s92) ∧ (App h88 s81 3 1 8 1 [.int .i64 x85] h90 s92) ∧ (Has h90 r1 v2) ∧ (oneA h90 s92) ∧ ∃ (h95 : Hp), (St h90 r1 v2 (o3 + 1) s92 h95) ∧ (Has h84 r1 v2) ∧ (Has h88 r1 v2) ∧ (Ld h84 r1 v2 (o3 + 1) s81) ∧ (Ld h88 r1 v2 (o3 + 1) s81) ∧ ((((x6 : Int) != 41) = true → (Q h95 (.int .i64 0))) ∧ (((x6 : Int) != 41) = false → (Has h95 p 0) ∧ ∃ (s104 : AV), (NC s104) ∧ (Ld h95 p 0 3 s104) ∧ ∃ (n107 : Nat), (Len h95 s104 n107) ∧ (okA .i64 (((n107 : Nat) : Int) - 1 : Int)) ∧ ∃ (s110 : AV), (NC s110) ∧ (Cut h95 s104 7 (((n107 : Nat) : Int) - 1 : Int) s110) ∧ (oneA h95 s110) ∧ ∃ (h113 : Hp), (St h95 p 0 3 s110 h113) ∧ (Has h113 r1 v2) ∧ ∃ (x117 : Int), (Ld h113 r1 v2 (o3 + 5) (.int .i64 x117)) ∧ (okA .i64 (8 * x117 : Int)) ∧ ∃ (x120 : Int), (Ld h113 r1 v2 (o3 + 4) (.int .i64 x120)) ∧ (okA .i64 ((8 * x117) + x120 : Int)) ∧ ∃ (s123 : AV), (NC s123) ∧ (Ld h113 r1 v2 (o3 + 1) s123) ∧ ∃ (h126 : Hp), ∃ (x127 : Int), (CallOK Tryd.prog 63 [.ref p 0 0, .int .i64 13, .int .i64 ((8 * x117) + x120), s123] h113 h126 (.int .i64 x127)) ∧ ∃ (h129 : Hp), (CallOK Tryd.prog 60 [.ref p 0 0, .int .i64 x127] h126 h129 (.tup [])) ∧ (Q h129 (.int .i64 1)))))) ∧ (∃ (J17 : Bool → Prop), (∀ (y20 : Bool), J17 y20 → ((((y20) = true → ∃ (x26 : Int), (Ld h5 r1 v2 (o3 + 6) (.int .i64 x26)) ∧ (okA .i64 (x26 + 1 : Int)) ∧ ∃ (h29 : Hp), (St h5 r1 v2 (o3 + 6) (.int .i64 (x26 + 1)) h29) ∧ (J13 y20 h29)) ∧ ((y20) = false → ∃ (J31 : Bool → Prop), (∀ (y34 : Bool), J31 y34 → ((((y34) = true → ∃ (x40 : Int), (Ld h5 r1 v2 (o3 + 6) (.int .i64 x40)) ∧ (okA .i64 (x40 + 1 : Int)) ∧ ∃ (h43 : Hp), (St h5 r1 v2 (o3 + 4) (.int .i64 (x40 + 1)) h43) ∧ (Has h43 r1 v2) ∧ ∃ (h46 : Hp), (St h43 r1 v2 (o3 + 6) (.int .i64 0) h46) ∧ (Has h46 r1 v2) ∧ ∃ (x49 : Int), (Ld h46 r1 v2 (o3 + 5) (.int .i64 x49)) ∧ (okA .i64 (x49 + 1 : Int)) ∧ ∃ (h52 : Hp), (St h46 r1 v2 (o3 + 5) (.int .i64 (x49 + 1)) h52) ∧ (J13 y20 h52)) ∧ ((y34) = false → ((((x6 : Int) == 41) = true → ∃ (x55 : Int), (Ld h5 r1 v2 (o3 + 6) (.int .i64 x55)) ∧ (okA .i64 (x55 + 1 : Int)) ∧ ∃ (h58 : Hp), (St h5 r1 v2 (o3 + 4) (.int .i64 (x55 + 1)) h58) ∧ (Has h58 r1 v2) ∧ ∃ (h61 : Hp), (St h58 r1 v2 (o3 + 6) (.int .i64 0) h61) ∧ (Has h61 r1 v2) ∧ ∃ (x64 : Int), (Ld h61 r1 v2 (o3 + 5) (.int .i64 x64)) ∧ (okA .i64 (x64 + 1 : Int)) ∧ ∃ (h67 : Hp), (St h61 r1 v2 (o3 + 5) (.int .i64 (x64 + 1)) h67) ∧ (J13 y20 h67)) ∧ (((x6 : Int) == 41) = false → ((∃ (h72 : Hp), (CallOK Tryd.prog 65 [.ref p 0 0] h5 h72 (.tup [])) ∧ (J13 y20 h72)) ∨ (∃ (h69 : Hp), ∃ (ch70 : List PanicEntry), (Yp Tryd.prog 65 [.ref p 0 0] h5 h69 ch70) ∧ (Qp h69 ch70))))))))) ∧ (((((x6 : Int) == 59) = true → ∃ (x36 : Int), (Ld h5 r1 v2 (o3 + 5) (.int .i64 x36)) ∧ (okA .i64 (x36 + 1 : Int)) ∧ (J31 (decide ((x36 + 1 : Int) < 4)))) ∧ (((x6 : Int) == 59) = false → (J31 false)))))))) ∧ (((((x6 : Int) == 44) = true → ∃ (x22 : Int), (Ld h5 r1 v2 (o3 + 6) (.int .i64 x22)) ∧ (okA .i64 (x22 + 1 : Int)) ∧ (J17 (decide ((x22 + 1 : Int) < 4)))) ∧ (((x6 : Int) == 44) = false → (J17 false)))))) ∧ (((x9 : Int) == 0) = false → ∃ (x131 : Int), (Ld h5 r1 v2 (o3 + 6) (.int .i64 x131)) ∧ (okA .i64 (x131 + 1 : Int)) ∧ ∃ (J135 : Bool → Hp → Prop), (∀ (y138 : Bool) (h134 : Hp), J135 y138 h134 → ((Has h134 p 0) ∧ ∃ (x192 : Int), (Ld h134 p 0 1 (.int .i64 x192)) ∧ (okA .i64 (x192 + 1 : Int)) ∧ ∃ (h195 : Hp), (St h134 p 0 1 (.int .i64 (x192 + 1)) h195) ∧ (Has h195 r1 v2) ∧ ∃ (s198 : AV), (NC s198) ∧ (Ld h195 r1 v2 (o3 + 1) s198) ∧ ∃ (h201 : Hp), ∃ (x202 : Int), (CallOK Tryd.prog 51 [.ref p 0 0] h195 h201 (.int .i64 x202)) ∧ ∃ (r204 : Nat), ∃ (h205 : Hp), (Nw h201 r204 ⟨0, true, 3, 1, [.int .i64 x202]⟩ h205) ∧ ∃ (h207 : Hp), ∃ (s209 : AV), (NC s209) ∧ (App h205 s198 3 1 8 1 [.int .i64 x202] h207 s209) ∧ (Has h207 r1 v2) ∧ (oneA h207 s209) ∧ ∃ (h212 : Hp), (St h207 r1 v2 (o3 + 1) s209 h212) ∧ (Has h201 r1 v2) ∧ (Has h205 r1 v2) ∧ (Ld h201 r1 v2 (o3 + 1) s198) ∧ (Ld h205 r1 v2 (o3 + 1) s198) ∧ ((((x6 : Int) != 41) = true → (Q h212 (.int .i64 0))) ∧ (((x6 : Int) != 41) = false → (Has h212 p 0) ∧ ∃ (s221 : AV), (NC s221) ∧ (Ld h212 p 0 3 s221) ∧ ∃ (n224 : Nat), (Len h212 s221 n224) ∧ (okA .i64 (((n224 : Nat) : Int) - 1 : Int)) ∧ ∃ (s227 : AV), (NC s227) ∧ (Cut h212 s221 7 (((n224 : Nat) : Int) - 1 : Int) s227) ∧ (oneA h212 s227) ∧ ∃ (h230 : Hp), (St h212 p 0 3 s227 h230) ∧ (Has h230 r1 v2) ∧ ∃ (x234 : Int), (Ld h230 r1 v2 (o3 + 5) (.int .i64 x234)) ∧ (okA .i64 (8 * x234 : Int)) ∧ ∃ (x237 : Int), (Ld h230 r1 v2 (o3 + 4) (.int .i64 x237)) ∧ (okA .i64 ((8 * x234) + x237 : Int)) ∧ ∃ (s240 : AV), (NC s240) ∧ (Ld h230 r1 v2 (o3 + 1) s240) ∧ ∃ (h243 : Hp), ∃ (x244 : Int), (CallOK Tryd.prog 63 [.ref p 0 0, .int .i64 13, .int .i64 ((8 * x234) + x237), s240] h230 h243 (.int .i64 x244)) ∧ ∃ (h246 : Hp), (CallOK Tryd.prog 60 [.ref p 0 0, .int .i64 x244] h243 h246 (.tup [])) ∧ (Q h246 (.int .i64 1)))))) ∧ (∃ (J139 : Bool → Prop), (∀ (y142 : Bool), J139 y142 → ((((y142) = true → ∃ (h145 : Hp), (St h5 r1 v2 (o3 + 6) (.int .i64 (x131 + 1)) h145) ∧ (J135 y142 h145)) ∧ ((y142) = false → ∃ (J147 : Bool → Prop), (∀ (y150 : Bool), J147 y150 → ((((y150) = true → ∃ (h157 : Hp), (St h5 r1 v2 (o3 + 4) (.int .i64 (x131 + 1)) h157) ∧ (Has h157 r1 v2) ∧ ∃ (h160 : Hp), (St h157 r1 v2 (o3 + 6) (.int .i64 0) h160) ∧ (Has h160 r1 v2) ∧ ∃ (x163 : Int), (Ld h160 r1 v2 (o3 + 5) (.int .i64 x163)) ∧ (okA .i64 (x163 + 1 : Int)) ∧ ∃ (h166 : Hp), (St h160 r1 v2 (o3 + 5) (.int .i64 (x163 + 1)) h166) ∧ (J135 y142 h166)) ∧ ((y150) = false → ((((x6 : Int) == 41) = true → ((((x131 + 1 : Int) == x9) = true → ∃ (h170 : Hp), (St h5 r1 v2 (o3 + 4) (.int .i64 (x131 + 1)) h170) ∧ (Has h170 r1 v2) ∧ ∃ (h173 : Hp), (St h170 r1 v2 (o3 + 6) (.int .i64 0) h173) ∧ (Has h173 r1 v2) ∧ ∃ (x176 : Int), (Ld h173 r1 v2 (o3 + 5) (.int .i64 x176)) ∧ (okA .i64 (x176 + 1 : Int)) ∧ ∃ (h179 : Hp), (St h173 r1 v2 (o3 + 5) (.int .i64 (x176 + 1)) h179) ∧ (J135 y142 h179)) ∧ (((x131 + 1 : Int) == x9) = false → ((∃ (h184 : Hp), (CallOK Tryd.prog 65 [.ref p 0 0] h5 h184 (.tup [])) ∧ (J135 y142 h184)) ∨ (∃ (h181 : Hp), ∃ (ch182 : List PanicEntry), (Yp Tryd.prog 65 [.ref p 0 0] h5 h181 ch182) ∧ (Qp h181 ch182)))))) ∧ (((x6 : Int) == 41) = false → ((∃ (h189 : Hp), (CallOK Tryd.prog 65 [.ref p 0 0] h5 h189 (.tup [])) ∧ (J135 y142 h189)) ∨ (∃ (h186 : Hp), ∃ (ch187 : List PanicEntry), (Yp Tryd.prog 65 [.ref p 0 0] h5 h186 ch187) ∧ (Qp h186 ch187))))))))) ∧ (((((x6 : Int) == 59) = true → ((((x131 + 1 : Int) == x9) = true → ∃ (x153 : Int), (Ld h5 r1 v2 (o3 + 5) (.int .i64 x153)) ∧ (okA .i64 (x153 + 1 : Int)) ∧ (J147 (decide ((x153 + 1 : Int) < 4)))) ∧ (((x131 + 1 : Int) == x9) = false → (J147 false)))) ∧ (((x6 : Int) == 59) = false → (J147 false)))))))) ∧ (((((x6 : Int) == 44) = true → (J139 (decide ((x131 + 1 : Int) < x9)))) ∧ (((x6 : Int) == 44) = false → (J139 false)))))))
theorem w_matrix {h : Hp} {p : Nat} {Q : Hp → AV → Prop} {Qp : Hp → List PanicEntry → Prop}  (H : pre_matrix h p Q Qp) : FnO Tryd.prog 69 [.ref p 0 0] h Q Qp := by
 unfold pre_matrix at H
 refine FnO.mk Tryd.func69 rfl (Xc (by kernel_rfl)) ?_
 refine GQ.E [(0, .ref p 0 0)] ?_
 refine GQ.seq ?_
 refine GQ.region ?_
 refine SQ.a (.int .i64 0) ?_
 refine SQ.nil ?_
 refine GQ.seq ?_
 obtain ⟨r1, v2, o3, k4, H⟩ := H
 refine GQ.region ?_
 refine SQ.m (.ref p 0 0) ?_
 refine SQ.c [.ref p 0 0] nc1 k4 ?_
 refine SQ.a (.ref r1 v2 o3) ?_
 refine SQ.nil ?_
 refine GQ.seq ?_
 obtain ⟨h5, x6, k7, H⟩ := H
 refine GQ.region ?_
 refine SQ.m (.ref p 0 0) ?_
 refine SQ.c [.ref p 0 0] nc1 k7 ?_
 refine SQ.a (.int .u8 x6) ?_
 refine SQ.nil ?_
 refine GQ.seq ?_
 obtain ⟨f8, x9, l10, H⟩ := H
 refine GQ.region ?_
 refine SQ.m (.ref r1 v2 o3) ?_
 refine SQ.n (o3) f8 ?_
 refine SQ.f 4 (o3) f8 ?_
 refine SQ.y l10 ?_
 refine SQ.a (.int .i64 x9) ?_
 refine SQ.nil ?_
 refine GQ.seq ?_
 refine GQ.seq ?_
 refine GQ.region ?_
 refine SQ.m (.int .i64 x9) ?_
 refine SQ.p (.bool ((x9 : Int) == 0)) ⟨trivial, trivial, rfl⟩ ?_
 refine SQ.nil ?_
 rcases X1 ((x9 : Int) == 0) with hb11 | hb11
 ·have H := H.1 hb11
  refine GQ.t hb11 ?_
  refine GQ.region ?_
  refine SQ.a (.int .i64 4) ?_
  refine SQ.nil ?_
  refine GQ.seq ?_
  refine GQ.draw Tryd.checked.mixed (by kernel_rfl) [.ref r1 v2 o3, .ref r1 v2 o3, .ref r1 v2 (o3 + 4), .int .i64 x9, .bool true, .bool true, undA, undA, undA, undA, undA, undA, undA, undA, undA, undA, .bool true, .bool true] [] [h5] h5 (by kernel_rfl) (by kernel_rfl) rfl rfl ?_ ?_
  ·refine DObl.m (.ref r1 v2 o3) ?_
   refine DObl.y 0 (HStep.n (o3) f8) ?_
   refine DObl.y 0 (HStep.f 4 (o3) f8) ?_
   refine DObl.y 0 (HStep.y l10) ?_
   refine DObl.z (fun _ => (Y0p (Y6 (av := .bool ((x9 : Int) == 0)) ⟨trivial, trivial, rfl⟩ (by kernel_rfl)) hb11)) ?_
   refine DObl.m (.bool true) ?_
   refine DObl.lite (by kernel_rfl) (fun _ => OStep.no rfl) ?_
   refine DObl.lite (by kernel_rfl) (fun _ => OStep.no rfl) ?_
   refine DObl.lite (by kernel_rfl) (fun _ => OStep.no rfl) ?_
   refine DObl.lite (by kernel_rfl) (fun _ => OStep.no rfl) ?_
   refine DObl.lite (by kernel_rfl) (fun _ => OStep.no rfl) ?_
   refine DObl.lite (by kernel_rfl) (fun _ => OStep.no rfl) ?_
   refine DObl.lite (by kernel_rfl) (fun _ => OStep.no rfl) ?_
   refine DObl.lite (by kernel_rfl) (fun _ => OStep.no rfl) ?_
   refine DObl.lite (by kernel_rfl) (fun _ => OStep.no rfl) ?_
   refine DObl.lite (by kernel_rfl) (fun _ => OStep.no rfl) ?_
   refine DObl.z (fun _ => (Yl (s := .bool true) rfl (by kernel_rfl) (by kernel_rfl) ⟨trivial, rfl⟩)) ?_
   refine DObl.z (fun _ => (HStep.asg (s := .bool true) rfl (by kernel_rfl) ⟨trivial, rfl⟩)) ?_
   exact DObl.nil
  obtain ⟨J13, HR14, H⟩ := H
  refine GQ.seqJ (fun e h' => ∃ (y16 : Bool), Env.le e [(0, .ref p 0 0), (2, .int .i64 0), (3, .ref r1 v2 o3), (4, .int .u8 x6), (5, .int .i64 4), (6, .bool true), (16, .bool ((x9 : Int) == 0)), (36, .bool y16)] ∧ J13 y16 h') ?_ ?_
  ·skip
   refine GQ.block ?_
   obtain ⟨J17, HR18, H⟩ := H
   refine GQ.seqJ (fun e h' => ∃ (y20 : Bool), Env.le e [(0, .ref p 0 0), (2, .int .i64 0), (3, .ref r1 v2 o3), (4, .int .u8 x6), (5, .int .i64 4), (6, .bool true), (16, .bool ((x9 : Int) == 0)), (36, .bool y20)] ∧ h5 = h' ∧ J17 y20) ?_ ?_
   ·skip
    rcases X1 ((x6 : Int) == 44) with hb21 | hb21
    ·have H := H.1 hb21
     obtain ⟨x22, l23, c24, H⟩ := H
     refine GQ.region ?_
     refine SQ.m (.int .u8 x6) ?_
     refine SQ.cons (av := .bool true) rfl (OStep.yes rfl (Y0p (Y6 (av := .bool ((x6 : Int) == 44)) ⟨trivial, trivial, rfl⟩ (by kernel_rfl)) hb21)) ?_
     refine SQ.m (.bool true) ?_
     refine SQ.m (.ref r1 v2 o3) ?_
     refine SQ.n (o3) f8 ?_
     refine SQ.f 6 (o3) f8 ?_
     refine SQ.y l23 ?_
     refine SQ.p (.int .i64 (x22 + 1)) ⟨trivial, trivial, rfl, c24⟩ ?_
     refine SQ.m (.int .i64 4) ?_
     refine SQ.p (.bool (decide ((x22 + 1 : Int) < 4))) ⟨trivial, trivial, rfl⟩ ?_
     refine SQ.cons (av := .bool (decide ((x22 + 1 : Int) < 4))) rfl (OStep.yes rfl (Yl (s := .bool (decide ((x22 + 1 : Int) < 4))) rfl (by kernel_rfl) (by kernel_rfl) ⟨trivial, rfl⟩)) ?_
     refine SQ.a (.bool (decide ((x22 + 1 : Int) < 4))) ?_
     refine SQ.nil ?_
     exact ⟨(decide ((x22 + 1 : Int) < 4)), Y5 (by kernel_rfl), rfl, H⟩
    ·have H := H.2 hb21
     refine GQ.region ?_
     refine SQ.m (.int .u8 x6) ?_
     refine SQ.cons (av := .bool false) rfl (OStep.yes rfl (Y0c (Y6 (av := .bool ((x6 : Int) == 44)) ⟨trivial, trivial, rfl⟩ (by kernel_rfl)) hb21)) ?_
     refine SQ.m (.bool false) ?_
     refine SQ.cons (av := undA) rfl (OStep.no rfl) ?_
     refine SQ.cons (av := undA) rfl (OStep.no rfl) ?_
     refine SQ.cons (av := undA) rfl (OStep.no rfl) ?_
     refine SQ.cons (av := undA) rfl (OStep.no rfl) ?_
     refine SQ.cons (av := undA) rfl (OStep.no rfl) ?_
     refine SQ.cons (av := undA) rfl (OStep.no rfl) ?_
     refine SQ.cons (av := undA) rfl (OStep.no rfl) ?_
     refine SQ.cons (av := .bool false) rfl (OStep.yes rfl (Yh (s := .bool false) rfl (by kernel_rfl) (by kernel_rfl) ⟨trivial, rfl⟩)) ?_
     refine SQ.a (.bool false) ?_
     refine SQ.nil ?_
     exact ⟨false, Y5 (by kernel_rfl), rfl, H⟩
   clear H
   rintro _ _ ⟨y20, hle, rfl, HJ19⟩
   have H := HR18 y20 HJ19
   refine GQ.weaken _ hle ?_
   rcases X1 (y20) with hb25 | hb25
   ·have H := H.1 hb25
    refine GQ.t hb25 ?_
    obtain ⟨x26, l27, c28, h29, w30, H⟩ := H
    refine GQ.region ?_
    refine SQ.m (.ref r1 v2 o3) ?_
    refine SQ.n (o3) f8 ?_
    refine SQ.f 6 (o3) f8 ?_
    refine SQ.y l27 ?_
    refine SQ.p (.int .i64 (x26 + 1)) ⟨trivial, trivial, rfl, c28⟩ ?_
    refine SQ.n (o3) f8 ?_
    refine SQ.f 6 (o3) f8 ?_
    refine SQ.cons (av := .any) rfl (OStep.yes rfl (Y9 (r := r1) (ver := v2) (off := o3 + 6) (n := 1) (v := .int .i64 (x26 + 1)) rfl (by kernel_rfl) (by kernel_rfl) (by kernel_rfl) ⟨trivial, rfl⟩ (by kernel_rfl) w30)) ?_
    refine SQ.nil ?_
    exact ⟨y20, Y5 (by kernel_rfl), H⟩
   ·have H := H.2 hb25
    refine GQ.g hb25 ?_
    refine GQ.seq ?_
    obtain ⟨J31, HR32, H⟩ := H
    refine GQ.seqJ (fun e h' => ∃ (y34 : Bool), Env.le e [(0, .ref p 0 0), (2, .int .i64 0), (3, .ref r1 v2 o3), (4, .int .u8 x6), (5, .int .i64 4), (6, .bool true), (16, .bool ((x9 : Int) == 0)), (36, .bool y20), (55, .bool y34)] ∧ h5 = h' ∧ J31 y34) ?_ ?_
    ·skip
     rcases X1 ((x6 : Int) == 59) with hb35 | hb35
     ·have H := H.1 hb35
      obtain ⟨x36, l37, c38, H⟩ := H
      refine GQ.region ?_
      refine SQ.m (.int .u8 x6) ?_
      refine SQ.cons (av := .bool true) rfl (OStep.yes rfl (Y0p (Y6 (av := .bool ((x6 : Int) == 59)) ⟨trivial, trivial, rfl⟩ (by kernel_rfl)) hb35)) ?_
      refine SQ.m (.bool true) ?_
      refine SQ.m (.bool true) ?_
      refine SQ.cons (av := .bool true) rfl (OStep.yes rfl (Yl (s := .bool true) rfl (by kernel_rfl) (by kernel_rfl) ⟨trivial, rfl⟩)) ?_
      refine SQ.m (.bool true) ?_
      refine SQ.m (.ref r1 v2 o3) ?_
      refine SQ.n (o3) f8 ?_
      refine SQ.f 5 (o3) f8 ?_
      refine SQ.y l37 ?_
      refine SQ.p (.int .i64 (x36 + 1)) ⟨trivial, trivial, rfl, c38⟩ ?_
      refine SQ.p (.bool (decide ((x36 + 1 : Int) < 4))) ⟨trivial, trivial, rfl⟩ ?_
      refine SQ.cons (av := .bool (decide ((x36 + 1 : Int) < 4))) rfl (OStep.yes rfl (Yl (s := .bool (decide ((x36 + 1 : Int) < 4))) rfl (by kernel_rfl) (by kernel_rfl) ⟨trivial, rfl⟩)) ?_
      refine SQ.a (.bool (decide ((x36 + 1 : Int) < 4))) ?_
      refine SQ.nil ?_
      exact ⟨(decide ((x36 + 1 : Int) < 4)), Y5 (by kernel_rfl), rfl, H⟩
     ·have H := H.2 hb35
      refine GQ.region ?_
      refine SQ.m (.int .u8 x6) ?_
      refine SQ.cons (av := .bool false) rfl (OStep.yes rfl (Y0c (Y6 (av := .bool ((x6 : Int) == 59)) ⟨trivial, trivial, rfl⟩ (by kernel_rfl)) hb35)) ?_
      refine SQ.m (.bool false) ?_
      refine SQ.cons (av := undA) rfl (OStep.no rfl) ?_
      refine SQ.cons (av := .bool false) rfl (OStep.yes rfl (Yh (s := .bool false) rfl (by kernel_rfl) (by kernel_rfl) ⟨trivial, rfl⟩)) ?_
      refine SQ.m (.bool false) ?_
      refine SQ.cons (av := undA) rfl (OStep.no rfl) ?_
      refine SQ.cons (av := undA) rfl (OStep.no rfl) ?_
      refine SQ.cons (av := undA) rfl (OStep.no rfl) ?_
      refine SQ.cons (av := undA) rfl (OStep.no rfl) ?_
      refine SQ.cons (av := undA) rfl (OStep.no rfl) ?_
      refine SQ.cons (av := undA) rfl (OStep.no rfl) ?_
      refine SQ.cons (av := .bool false) rfl (OStep.yes rfl (Yh (s := .bool false) rfl (by kernel_rfl) (by kernel_rfl) ⟨trivial, rfl⟩)) ?_
      refine SQ.a (.bool false) ?_
      refine SQ.nil ?_
      exact ⟨false, Y5 (by kernel_rfl), rfl, H⟩
    clear H
    rintro _ _ ⟨y34, hle, rfl, HJ33⟩
    have H := HR32 y34 HJ33
    refine GQ.weaken _ hle ?_
    rcases X1 (y34) with hb39 | hb39
    ·have H := H.1 hb39
     refine GQ.t hb39 ?_
     refine GQ.skip ?_
     refine GQ.t hb39 ?_
     refine GQ.seq ?_
     obtain ⟨x40, l41, c42, h43, w44, f45, h46, w47, H⟩ := H
     refine GQ.region ?_
     refine SQ.m (.ref r1 v2 o3) ?_
     refine SQ.m (.ref r1 v2 o3) ?_
     refine SQ.m (.ref r1 v2 o3) ?_
     refine SQ.n (o3) f8 ?_
     refine SQ.f 6 (o3) f8 ?_
     refine SQ.y l41 ?_
     refine SQ.p (.int .i64 (x40 + 1)) ⟨trivial, trivial, rfl, c42⟩ ?_
     refine SQ.n (o3) f8 ?_
     refine SQ.f 4 (o3) f8 ?_
     refine SQ.cons (av := .any) rfl (OStep.yes rfl (Y9 (r := r1) (ver := v2) (off := o3 + 4) (n := 1) (v := .int .i64 (x40 + 1)) rfl (by kernel_rfl) (by kernel_rfl) (by kernel_rfl) ⟨trivial, rfl⟩ (by kernel_rfl) w44)) ?_
     refine SQ.n (o3) f45 ?_
     refine SQ.f 6 (o3) f45 ?_
     refine SQ.cons (av := .any) rfl (OStep.yes rfl (Y9 (r := r1) (ver := v2) (off := o3 + 6) (n := 1) (v := .int .i64 0) rfl (by kernel_rfl) (by kernel_rfl) (by kernel_rfl) ⟨trivial, rfl⟩ (by kernel_rfl) w47)) ?_
     refine SQ.nil ?_
     obtain ⟨f48, x49, l50, c51, h52, w53, H⟩ := H
     refine GQ.region ?_
     refine SQ.m (.ref r1 v2 o3) ?_
     refine SQ.n (o3) f48 ?_
     refine SQ.f 5 (o3) f48 ?_
     refine SQ.y l50 ?_
     refine SQ.p (.int .i64 (x49 + 1)) ⟨trivial, trivial, rfl, c51⟩ ?_
     refine SQ.n (o3) f48 ?_
     refine SQ.f 5 (o3) f48 ?_
     refine SQ.cons (av := .any) rfl (OStep.yes rfl (Y9 (r := r1) (ver := v2) (off := o3 + 5) (n := 1) (v := .int .i64 (x49 + 1)) rfl (by kernel_rfl) (by kernel_rfl) (by kernel_rfl) ⟨trivial, rfl⟩ (by kernel_rfl) w53)) ?_
     refine SQ.nil ?_
     exact ⟨y20, Y5 (by kernel_rfl), H⟩
    ·have H := H.2 hb39
     refine GQ.g hb39 ?_
     rcases X1 ((x6 : Int) == 41) with hb54 | hb54
     ·have H := H.1 hb54
      refine GQ.region ?_
      refine SQ.m (.int .u8 x6) ?_
      refine SQ.cons (av := .bool true) rfl (OStep.yes rfl (Y0p (Y6 (av := .bool ((x6 : Int) == 41)) ⟨trivial, trivial, rfl⟩ (by kernel_rfl)) hb54)) ?_
      refine SQ.m (.bool true) ?_
      refine SQ.m (.bool true) ?_
      refine SQ.cons (av := .bool true) rfl (OStep.yes rfl (Yl (s := .bool true) rfl (by kernel_rfl) (by kernel_rfl) ⟨trivial, rfl⟩)) ?_
      refine SQ.a (.bool true) ?_
      refine SQ.nil ?_
      refine GQ.cond (b := true) (by kernel_rfl) (fun _ => ?_) (fun e => by cases e)
      refine GQ.seq ?_
      obtain ⟨x55, l56, c57, h58, w59, f60, h61, w62, H⟩ := H
      refine GQ.region ?_
      refine SQ.m (.ref r1 v2 o3) ?_
      refine SQ.m (.ref r1 v2 o3) ?_
      refine SQ.m (.ref r1 v2 o3) ?_
      refine SQ.n (o3) f8 ?_
      refine SQ.f 6 (o3) f8 ?_
      refine SQ.y l56 ?_
      refine SQ.p (.int .i64 (x55 + 1)) ⟨trivial, trivial, rfl, c57⟩ ?_
      refine SQ.n (o3) f8 ?_
      refine SQ.f 4 (o3) f8 ?_
      refine SQ.cons (av := .any) rfl (OStep.yes rfl (Y9 (r := r1) (ver := v2) (off := o3 + 4) (n := 1) (v := .int .i64 (x55 + 1)) rfl (by kernel_rfl) (by kernel_rfl) (by kernel_rfl) ⟨trivial, rfl⟩ (by kernel_rfl) w59)) ?_
      refine SQ.n (o3) f60 ?_
      refine SQ.f 6 (o3) f60 ?_
      refine SQ.cons (av := .any) rfl (OStep.yes rfl (Y9 (r := r1) (ver := v2) (off := o3 + 6) (n := 1) (v := .int .i64 0) rfl (by kernel_rfl) (by kernel_rfl) (by kernel_rfl) ⟨trivial, rfl⟩ (by kernel_rfl) w62)) ?_
      refine SQ.nil ?_
      obtain ⟨f63, x64, l65, c66, h67, w68, H⟩ := H
      refine GQ.region ?_
      refine SQ.m (.ref r1 v2 o3) ?_
      refine SQ.n (o3) f63 ?_
      refine SQ.f 5 (o3) f63 ?_
      refine SQ.y l65 ?_
      refine SQ.p (.int .i64 (x64 + 1)) ⟨trivial, trivial, rfl, c66⟩ ?_
      refine SQ.n (o3) f63 ?_
      refine SQ.f 5 (o3) f63 ?_
      refine SQ.cons (av := .any) rfl (OStep.yes rfl (Y9 (r := r1) (ver := v2) (off := o3 + 5) (n := 1) (v := .int .i64 (x64 + 1)) rfl (by kernel_rfl) (by kernel_rfl) (by kernel_rfl) ⟨trivial, rfl⟩ (by kernel_rfl) w68)) ?_
      refine SQ.nil ?_
      exact ⟨y20, Y5 (by kernel_rfl), H⟩
     ·have H := H.2 hb54
      refine GQ.region ?_
      refine SQ.m (.int .u8 x6) ?_
      refine SQ.cons (av := .bool false) rfl (OStep.yes rfl (Y0c (Y6 (av := .bool ((x6 : Int) == 41)) ⟨trivial, trivial, rfl⟩ (by kernel_rfl)) hb54)) ?_
      refine SQ.m (.bool false) ?_
      refine SQ.cons (av := undA) rfl (OStep.no rfl) ?_
      refine SQ.cons (av := .bool false) rfl (OStep.yes rfl (Yh (s := .bool false) rfl (by kernel_rfl) (by kernel_rfl) ⟨trivial, rfl⟩)) ?_
      refine SQ.a (.bool false) ?_
      refine SQ.nil ?_
      refine GQ.cond (b := false) (by kernel_rfl) (fun e => by cases e) (fun _ => ?_)
      rcases H with H | H
      ·skip
       obtain ⟨h72, k73, H⟩ := H
       refine GQ.region ?_
       refine SQ.m (.ref p 0 0) ?_
       refine SQ.c [.ref p 0 0] nc1 k73 ?_
       refine SQ.nil ?_
       exact ⟨y20, Y5 (by kernel_rfl), H⟩
      ·skip
       obtain ⟨h69, ch70, k71, H⟩ := H
       refine GQ.region ?_
       refine SQ.m (.ref p 0 0) ?_
       refine Y1n (OPan.yes rfl (HPan.call (vs := [.ref p 0 0]) rfl (by kernel_rfl) (by kernel_rfl) nc1 k71)) ?_
       exact H
  clear H
  rintro _ h12 ⟨y16, hle, HJ15⟩
  have H := HR14 y16 h12 HJ15
  refine GQ.weaken _ hle ?_
  refine GQ.seq ?_
  obtain ⟨f74, x75, l76, c77, h78, w79, H⟩ := H
  refine GQ.region ?_
  refine SQ.m (.ref p 0 0) ?_
  refine SQ.n (0) f74 ?_
  refine SQ.f 1 (0) f74 ?_
  refine SQ.y l76 ?_
  refine SQ.p (.int .i64 (x75 + 1)) ⟨trivial, trivial, rfl, c77⟩ ?_
  refine SQ.n (0) f74 ?_
  refine SQ.f 1 (0) f74 ?_
  refine SQ.cons (av := .any) rfl (OStep.yes rfl (Y9 (r := p) (ver := 0) (off := 1) (n := 1) (v := .int .i64 (x75 + 1)) rfl (by kernel_rfl) (by kernel_rfl) (by kernel_rfl) ⟨trivial, rfl⟩ (by kernel_rfl) w79)) ?_
  refine SQ.nil ?_
  refine GQ.seq ?_
  obtain ⟨f80, s81, n82, l83, h84, x85, k86, r87, h88, w89, h90, s92, n93, w91, f94, f97, h95, w96, f98, f99, l100, l101, H⟩ := H
  refine GQ.draw Tryd.checked.mixed (by kernel_rfl) [.ref r1 v2 o3, .ref r1 v2 o3, .ref r1 v2 o3, .ref r1 v2 (o3 + 1), s81, .ref p 0 0, .int .i64 x85, .rsl r87 0 0 1, s92, .ref r1 v2 o3, .ref r1 v2 (o3 + 1), .any] [6, 7, 8, 11] [h78, h84, h88, h90, h95] h95 (by kernel_rfl) (by kernel_rfl) rfl rfl ?_ ?_
  ·refine DObl.m (.ref r1 v2 o3) ?_
   refine DObl.m (.ref r1 v2 o3) ?_
   refine Y0d 0 1 2 (by kernel_rfl) (by kernel_rfl) (OStep.yes rfl (HStep.n (o3) f80)) (OStep.yes rfl (HStep.n (o3) f98)) (OStep.yes rfl (HStep.n (o3) f99)) ?_
   refine Y0d 0 1 2 (by kernel_rfl) (by kernel_rfl) (OStep.yes rfl (HStep.f 1 (o3) f80)) (OStep.yes rfl (HStep.f 1 (o3) f98)) (OStep.yes rfl (HStep.f 1 (o3) f99)) ?_
   refine Y0d 0 1 2 (by kernel_rfl) (by kernel_rfl) (OStep.yes rfl (HStep.y l83)) (OStep.yes rfl (HStep.y l100)) (OStep.yes rfl (HStep.y l101)) ?_
   refine DObl.m (.ref p 0 0) ?_
   refine DObl.hv 0 (by kernel_rfl) (OStep.yes rfl (HStep.call (vs := [.ref p 0 0]) rfl (by kernel_rfl) (by kernel_rfl) nc1 k86)) ?_
   refine DObl.hv 1 (by kernel_rfl) (OStep.yes rfl (HStep.build (qs := [(0, .int .i64 x85)]) (cs := [.int .i64 x85]) (r := r87) rfl (Y8 (P := Tryd.prog) (t := 42) (e := 3) (k := 1) (bytes := 8) (z := [.int .i64 0]) (by kernel_rfl)) (by decide) (by kernel_rfl) (by simp only [X5, X4, or_false, forall_eq]; exact ⟨⟨trivial, rfl⟩, Y2l rfl⟩) (by kernel_rfl) (by simp only [X5, X4, or_false, forall_eq]; exact rfl) rfl w89)) ?_
   refine DObl.hv 2 (by kernel_rfl) (OStep.yes rfl (HStep.app (sv := s81) (xv := .rsl r87 0 0 1) (news := [.int .i64 x85]) rfl (Y8 (P := Tryd.prog) (t := 42) (e := 3) (k := 1) (bytes := 8) (z := [.int .i64 0]) (by kernel_rfl)) (by kernel_rfl) (by kernel_rfl) trivial (SrcA.rsl (m := 1) (by kernel_rfl) (Nw.at w89) rfl rfl rfl (Xc rfl)) w91)) ?_
   refine DObl.y 3 (HStep.n (o3) f94) ?_
   refine DObl.y 3 (HStep.f 1 (o3) f94) ?_
   refine DObl.hv 3 (by kernel_rfl) (OStep.yes rfl (Y9 (r := r1) (ver := v2) (off := o3 + 1) (n := 1) (v := s92) rfl (by kernel_rfl) (by kernel_rfl) (by kernel_rfl) n93 (Y09 f97) w96)) ?_
   exact DObl.nil
  refine GQ.seq ?_
  refine GQ.seq ?_
  refine GQ.region ?_
  refine SQ.m (.int .u8 x6) ?_
  refine SQ.p (.bool ((x6 : Int) != 41)) ⟨trivial, trivial, rfl⟩ ?_
  refine SQ.nil ?_
  rcases X1 ((x6 : Int) != 41) with hb102 | hb102
  ·have H := H.1 hb102
   refine GQ.t hb102 ?_
   refine GQ.seq ?_
   refine GQ.region ?_
   refine SQ.a (.int .i64 0) ?_
   refine SQ.nil ?_
   refine GQ.ret ?_
   exact EndK.ret (Qp := Qp) rfl H
  ·have H := H.2 hb102
   refine GQ.g hb102 ?_
   refine GQ.skip ?_
   refine GQ.seq ?_
   obtain ⟨f103, s104, n105, l106, n107, g108, c109, s110, n111, i112, f115, h113, w114, H⟩ := H
   refine GQ.draw Tryd.checked.mixed (by kernel_rfl) [.ref p 0 0, .ref p 0 0, .ref p 0 0, .ref p 0 3, s104, .ref p 0 0, .ref p 0 0, .ref p 0 3, s104, .int .i64 ((n107 : Nat) : Int), .int .i64 (((n107 : Nat) : Int) - 1), s110, .ref p 0 0, .ref p 0 3, .any] [14] [h95, h113] h113 (by kernel_rfl) (by kernel_rfl) rfl rfl ?_ ?_
   ·refine DObl.m (.ref p 0 0) ?_
    refine DObl.m (.ref p 0 0) ?_
    refine DObl.y 0 (HStep.n (0) f103) ?_
    refine DObl.y 0 (HStep.f 3 (0) f103) ?_
    refine DObl.y 0 (HStep.y l106) ?_
    refine DObl.m (.ref p 0 0) ?_
    refine DObl.y 0 (HStep.n (0) f103) ?_
    refine DObl.y 0 (HStep.f 3 (0) f103) ?_
    refine DObl.y 0 (HStep.y l106) ?_
    refine DObl.y 0 (HStep.len (s := s104) (n := n107) rfl (by kernel_rfl) (by kernel_rfl) g108) ?_
    refine DObl.z (fun _ => (Y6 (av := .int .i64 (((n107 : Nat) : Int) - 1)) ⟨trivial, trivial, rfl, c109⟩ (by kernel_rfl))) ?_
    refine DObl.y 0 (HStep.cut (kk := .i64) (s := s104) (j := ((n107 : Nat) : Int) - 1) (k := 7) rfl (by kernel_rfl) (by kernel_rfl) (by kernel_rfl) (by kernel_rfl) i112) ?_
    refine DObl.y 0 (HStep.n (0) f103) ?_
    refine DObl.y 0 (HStep.f 3 (0) f103) ?_
    refine DObl.hv 0 (by kernel_rfl) (OStep.yes rfl (Y9 (r := p) (ver := 0) (off := 3) (n := 1) (v := s110) rfl (by kernel_rfl) (by kernel_rfl) (by kernel_rfl) n111 (Y09 f115) w114)) ?_
    exact DObl.nil
   refine GQ.seq ?_
   obtain ⟨f116, x117, l118, c119, x120, l121, c122, s123, n124, l125, h126, x127, k128, h129, k130, H⟩ := H
   refine GQ.draw Tryd.checked.mixed (by kernel_rfl) [.ref p 0 0, .ref p 0 0, .ref r1 v2 o3, .ref r1 v2 o3, .ref r1 v2 (o3 + 5), .int .i64 x117, .int .i64 (8 * x117), .ref r1 v2 o3, .ref r1 v2 o3, .ref r1 v2 (o3 + 4), .int .i64 x120, .int .i64 ((8 * x117) + x120), .ref r1 v2 o3, .ref r1 v2 o3, .ref r1 v2 (o3 + 1), s123, .int .i64 x127, .tup []] [16, 17] [h113, h126, h129] h129 (by kernel_rfl) (by kernel_rfl) rfl rfl ?_ ?_
   ·refine DObl.m (.ref p 0 0) ?_
    refine DObl.m (.ref p 0 0) ?_
    refine DObl.m (.ref r1 v2 o3) ?_
    refine DObl.y 0 (HStep.n (o3) f116) ?_
    refine DObl.y 0 (HStep.f 5 (o3) f116) ?_
    refine DObl.y 0 (HStep.y l118) ?_
    refine DObl.z (fun _ => (Y6 (av := .int .i64 (8 * x117)) ⟨trivial, trivial, rfl, c119⟩ (by kernel_rfl))) ?_
    refine DObl.m (.ref r1 v2 o3) ?_
    refine DObl.y 0 (HStep.n (o3) f116) ?_
    refine DObl.y 0 (HStep.f 4 (o3) f116) ?_
    refine DObl.y 0 (HStep.y l121) ?_
    refine DObl.z (fun _ => (Y6 (av := .int .i64 ((8 * x117) + x120)) ⟨trivial, trivial, rfl, c122⟩ (by kernel_rfl))) ?_
    refine DObl.m (.ref r1 v2 o3) ?_
    refine DObl.y 0 (HStep.n (o3) f116) ?_
    refine DObl.y 0 (HStep.f 1 (o3) f116) ?_
    refine DObl.y 0 (HStep.y l125) ?_
    refine DObl.hv 0 (by kernel_rfl) (OStep.yes rfl (HStep.call (vs := [.ref p 0 0, .int .i64 13, .int .i64 ((8 * x117) + x120), s123]) rfl (by kernel_rfl) (by kernel_rfl) (by simp only [X5, X4, or_false, forall_eq_or_imp, forall_eq]; exact ⟨⟨trivial, rfl⟩, ⟨trivial, rfl⟩, ⟨trivial, rfl⟩, n124⟩) k128)) ?_
    refine DObl.hv 1 (by kernel_rfl) (OStep.yes rfl (HStep.call (vs := [.ref p 0 0, .int .i64 x127]) rfl (by kernel_rfl) (by kernel_rfl) nc2 k130)) ?_
    exact DObl.nil
   refine GQ.seq ?_
   refine GQ.region ?_
   refine SQ.a (.int .i64 1) ?_
   refine SQ.nil ?_
   refine GQ.ret ?_
   exact EndK.ret (Qp := Qp) rfl H
 ·have H := H.2 hb11
  refine GQ.g hb11 ?_
  refine GQ.skip ?_
  refine GQ.seq ?_
  obtain ⟨x131, l132, c133, H⟩ := H
  refine GQ.draw Tryd.checked.mixed (by kernel_rfl) [.ref r1 v2 o3, .ref r1 v2 o3, .ref r1 v2 (o3 + 4), .int .i64 x9, .bool false, .bool false, .ref r1 v2 o3, .ref r1 v2 o3, .ref r1 v2 (o3 + 6), .int .i64 x131, .int .i64 (x131 + 1), .ref r1 v2 o3, .ref r1 v2 o3, .ref r1 v2 (o3 + 4), .int .i64 x9, .bool ((x131 + 1 : Int) == x9), .bool ((x131 + 1 : Int) == x9), .bool ((x131 + 1 : Int) == x9)] [] [h5] h5 (by kernel_rfl) (by kernel_rfl) rfl rfl ?_ ?_
  ·refine DObl.m (.ref r1 v2 o3) ?_
   refine DObl.y 0 (HStep.n (o3) f8) ?_
   refine DObl.y 0 (HStep.f 4 (o3) f8) ?_
   refine DObl.y 0 (HStep.y l10) ?_
   refine DObl.z (fun _ => (Y0c (Y6 (av := .bool ((x9 : Int) == 0)) ⟨trivial, trivial, rfl⟩ (by kernel_rfl)) hb11)) ?_
   refine DObl.m (.bool false) ?_
   refine DObl.m (.ref r1 v2 o3) ?_
   refine DObl.y 0 (HStep.n (o3) f8) ?_
   refine DObl.y 0 (HStep.f 6 (o3) f8) ?_
   refine DObl.y 0 (HStep.y l132) ?_
   refine DObl.z (fun _ => (Y6 (av := .int .i64 (x131 + 1)) ⟨trivial, trivial, rfl, c133⟩ (by kernel_rfl))) ?_
   refine DObl.m (.ref r1 v2 o3) ?_
   refine DObl.y 0 (HStep.n (o3) f8) ?_
   refine DObl.y 0 (HStep.f 4 (o3) f8) ?_
   refine DObl.y 0 (HStep.y l10) ?_
   refine DObl.z (fun _ => (Y6 (av := .bool ((x131 + 1 : Int) == x9)) ⟨trivial, trivial, rfl⟩ (by kernel_rfl))) ?_
   refine DObl.z (fun _ => (Yh (s := .bool ((x131 + 1 : Int) == x9)) rfl (by kernel_rfl) (by kernel_rfl) ⟨trivial, rfl⟩)) ?_
   refine DObl.z (fun _ => (HStep.asg (s := .bool ((x131 + 1 : Int) == x9)) rfl (by kernel_rfl) ⟨trivial, rfl⟩)) ?_
   exact DObl.nil
  obtain ⟨J135, HR136, H⟩ := H
  refine GQ.seqJ (fun e h' => ∃ (y138 : Bool), Env.le e [(0, .ref p 0 0), (2, .int .i64 0), (3, .ref r1 v2 o3), (4, .int .u8 x6), (5, .int .i64 x9), (6, .bool ((x131 + 1 : Int) == x9)), (16, .bool ((x9 : Int) == 0)), (36, .bool y138)] ∧ J135 y138 h') ?_ ?_
  ·skip
   refine GQ.block ?_
   obtain ⟨J139, HR140, H⟩ := H
   refine GQ.seqJ (fun e h' => ∃ (y142 : Bool), Env.le e [(0, .ref p 0 0), (2, .int .i64 0), (3, .ref r1 v2 o3), (4, .int .u8 x6), (5, .int .i64 x9), (6, .bool ((x131 + 1 : Int) == x9)), (16, .bool ((x9 : Int) == 0)), (36, .bool y142)] ∧ h5 = h' ∧ J139 y142) ?_ ?_
   ·skip
    rcases X1 ((x6 : Int) == 44) with hb143 | hb143
    ·have H := H.1 hb143
     refine GQ.region ?_
     refine SQ.m (.int .u8 x6) ?_
     refine SQ.cons (av := .bool true) rfl (OStep.yes rfl (Y0p (Y6 (av := .bool ((x6 : Int) == 44)) ⟨trivial, trivial, rfl⟩ (by kernel_rfl)) hb143)) ?_
     refine SQ.m (.bool true) ?_
     refine SQ.m (.ref r1 v2 o3) ?_
     refine SQ.n (o3) f8 ?_
     refine SQ.f 6 (o3) f8 ?_
     refine SQ.y l132 ?_
     refine SQ.p (.int .i64 (x131 + 1)) ⟨trivial, trivial, rfl, c133⟩ ?_
     refine SQ.m (.int .i64 x9) ?_
     refine SQ.p (.bool (decide ((x131 + 1 : Int) < x9))) ⟨trivial, trivial, rfl⟩ ?_
     refine SQ.cons (av := .bool (decide ((x131 + 1 : Int) < x9))) rfl (OStep.yes rfl (Yl (s := .bool (decide ((x131 + 1 : Int) < x9))) rfl (by kernel_rfl) (by kernel_rfl) ⟨trivial, rfl⟩)) ?_
     refine SQ.a (.bool (decide ((x131 + 1 : Int) < x9))) ?_
     refine SQ.nil ?_
     exact ⟨(decide ((x131 + 1 : Int) < x9)), Y5 (by kernel_rfl), rfl, H⟩
    ·have H := H.2 hb143
     refine GQ.region ?_
     refine SQ.m (.int .u8 x6) ?_
     refine SQ.cons (av := .bool false) rfl (OStep.yes rfl (Y0c (Y6 (av := .bool ((x6 : Int) == 44)) ⟨trivial, trivial, rfl⟩ (by kernel_rfl)) hb143)) ?_
     refine SQ.m (.bool false) ?_
     refine SQ.cons (av := undA) rfl (OStep.no rfl) ?_
     refine SQ.cons (av := undA) rfl (OStep.no rfl) ?_
     refine SQ.cons (av := undA) rfl (OStep.no rfl) ?_
     refine SQ.cons (av := undA) rfl (OStep.no rfl) ?_
     refine SQ.cons (av := undA) rfl (OStep.no rfl) ?_
     refine SQ.cons (av := undA) rfl (OStep.no rfl) ?_
     refine SQ.cons (av := undA) rfl (OStep.no rfl) ?_
     refine SQ.cons (av := .bool false) rfl (OStep.yes rfl (Yh (s := .bool false) rfl (by kernel_rfl) (by kernel_rfl) ⟨trivial, rfl⟩)) ?_
     refine SQ.a (.bool false) ?_
     refine SQ.nil ?_
     exact ⟨false, Y5 (by kernel_rfl), rfl, H⟩
   clear H
   rintro _ _ ⟨y142, hle, rfl, HJ141⟩
   have H := HR140 y142 HJ141
   refine GQ.weaken _ hle ?_
   rcases X1 (y142) with hb144 | hb144
   ·have H := H.1 hb144
    refine GQ.t hb144 ?_
    obtain ⟨h145, w146, H⟩ := H
    refine GQ.region ?_
    refine SQ.m (.ref r1 v2 o3) ?_
    refine SQ.n (o3) f8 ?_
    refine SQ.f 6 (o3) f8 ?_
    refine SQ.y l132 ?_
    refine SQ.p (.int .i64 (x131 + 1)) ⟨trivial, trivial, rfl, c133⟩ ?_
    refine SQ.n (o3) f8 ?_
    refine SQ.f 6 (o3) f8 ?_
    refine SQ.cons (av := .any) rfl (OStep.yes rfl (Y9 (r := r1) (ver := v2) (off := o3 + 6) (n := 1) (v := .int .i64 (x131 + 1)) rfl (by kernel_rfl) (by kernel_rfl) (by kernel_rfl) ⟨trivial, rfl⟩ (by kernel_rfl) w146)) ?_
    refine SQ.nil ?_
    exact ⟨y142, Y5 (by kernel_rfl), H⟩
   ·have H := H.2 hb144
    refine GQ.g hb144 ?_
    refine GQ.seq ?_
    obtain ⟨J147, HR148, H⟩ := H
    refine GQ.seqJ (fun e h' => ∃ (y150 : Bool), Env.le e [(0, .ref p 0 0), (2, .int .i64 0), (3, .ref r1 v2 o3), (4, .int .u8 x6), (5, .int .i64 x9), (6, .bool ((x131 + 1 : Int) == x9)), (16, .bool ((x9 : Int) == 0)), (36, .bool y142), (55, .bool y150)] ∧ h5 = h' ∧ J147 y150) ?_ ?_
    ·skip
     rcases X1 ((x6 : Int) == 59) with hb151 | hb151
     ·have H := H.1 hb151
      rcases X1 ((x131 + 1 : Int) == x9) with hb152 | hb152
      ·have H := H.1 hb152
       obtain ⟨x153, l154, c155, H⟩ := H
       refine GQ.region ?_
       refine SQ.m (.int .u8 x6) ?_
       refine SQ.cons (av := .bool true) rfl (OStep.yes rfl (Y0p (Y6 (av := .bool ((x6 : Int) == 59)) ⟨trivial, trivial, rfl⟩ (by kernel_rfl)) hb151)) ?_
       refine SQ.m (.bool true) ?_
       refine SQ.cons (av := .bool true) rfl (OStep.yes rfl (Y0p (HStep.mv (s := .bool ((x131 + 1 : Int) == x9)) rfl (by kernel_rfl) ⟨trivial, rfl⟩) hb152)) ?_
       refine SQ.cons (av := .bool true) rfl (OStep.yes rfl (Yl (s := .bool true) rfl (by kernel_rfl) (by kernel_rfl) ⟨trivial, rfl⟩)) ?_
       refine SQ.m (.bool true) ?_
       refine SQ.m (.ref r1 v2 o3) ?_
       refine SQ.n (o3) f8 ?_
       refine SQ.f 5 (o3) f8 ?_
       refine SQ.y l154 ?_
       refine SQ.p (.int .i64 (x153 + 1)) ⟨trivial, trivial, rfl, c155⟩ ?_
       refine SQ.p (.bool (decide ((x153 + 1 : Int) < 4))) ⟨trivial, trivial, rfl⟩ ?_
       refine SQ.cons (av := .bool (decide ((x153 + 1 : Int) < 4))) rfl (OStep.yes rfl (Yl (s := .bool (decide ((x153 + 1 : Int) < 4))) rfl (by kernel_rfl) (by kernel_rfl) ⟨trivial, rfl⟩)) ?_
       refine SQ.a (.bool (decide ((x153 + 1 : Int) < 4))) ?_
       refine SQ.nil ?_
       exact ⟨(decide ((x153 + 1 : Int) < 4)), Y5 (by kernel_rfl), rfl, H⟩
      ·have H := H.2 hb152
       refine GQ.region ?_
       refine SQ.m (.int .u8 x6) ?_
       refine SQ.cons (av := .bool true) rfl (OStep.yes rfl (Y0p (Y6 (av := .bool ((x6 : Int) == 59)) ⟨trivial, trivial, rfl⟩ (by kernel_rfl)) hb151)) ?_
       refine SQ.m (.bool true) ?_
       refine SQ.cons (av := .bool false) rfl (OStep.yes rfl (Y0c (HStep.mv (s := .bool ((x131 + 1 : Int) == x9)) rfl (by kernel_rfl) ⟨trivial, rfl⟩) hb152)) ?_
       refine SQ.cons (av := .bool false) rfl (OStep.yes rfl (Yl (s := .bool false) rfl (by kernel_rfl) (by kernel_rfl) ⟨trivial, rfl⟩)) ?_
       refine SQ.m (.bool false) ?_
       refine SQ.cons (av := undA) rfl (OStep.no rfl) ?_
       refine SQ.cons (av := undA) rfl (OStep.no rfl) ?_
       refine SQ.cons (av := undA) rfl (OStep.no rfl) ?_
       refine SQ.cons (av := undA) rfl (OStep.no rfl) ?_
       refine SQ.cons (av := undA) rfl (OStep.no rfl) ?_
       refine SQ.cons (av := undA) rfl (OStep.no rfl) ?_
       refine SQ.cons (av := .bool false) rfl (OStep.yes rfl (Yh (s := .bool false) rfl (by kernel_rfl) (by kernel_rfl) ⟨trivial, rfl⟩)) ?_
       refine SQ.a (.bool false) ?_
       refine SQ.nil ?_
       exact ⟨false, Y5 (by kernel_rfl), rfl, H⟩
     ·have H := H.2 hb151
      refine GQ.region ?_
      refine SQ.m (.int .u8 x6) ?_
      refine SQ.cons (av := .bool false) rfl (OStep.yes rfl (Y0c (Y6 (av := .bool ((x6 : Int) == 59)) ⟨trivial, trivial, rfl⟩ (by kernel_rfl)) hb151)) ?_
      refine SQ.m (.bool false) ?_
      refine SQ.cons (av := undA) rfl (OStep.no rfl) ?_
      refine SQ.cons (av := .bool false) rfl (OStep.yes rfl (Yh (s := .bool false) rfl (by kernel_rfl) (by kernel_rfl) ⟨trivial, rfl⟩)) ?_
      refine SQ.m (.bool false) ?_
      refine SQ.cons (av := undA) rfl (OStep.no rfl) ?_
      refine SQ.cons (av := undA) rfl (OStep.no rfl) ?_
      refine SQ.cons (av := undA) rfl (OStep.no rfl) ?_
      refine SQ.cons (av := undA) rfl (OStep.no rfl) ?_
      refine SQ.cons (av := undA) rfl (OStep.no rfl) ?_
      refine SQ.cons (av := undA) rfl (OStep.no rfl) ?_
      refine SQ.cons (av := .bool false) rfl (OStep.yes rfl (Yh (s := .bool false) rfl (by kernel_rfl) (by kernel_rfl) ⟨trivial, rfl⟩)) ?_
      refine SQ.a (.bool false) ?_
      refine SQ.nil ?_
      exact ⟨false, Y5 (by kernel_rfl), rfl, H⟩
    clear H
    rintro _ _ ⟨y150, hle, rfl, HJ149⟩
    have H := HR148 y150 HJ149
    refine GQ.weaken _ hle ?_
    rcases X1 (y150) with hb156 | hb156
    ·have H := H.1 hb156
     refine GQ.t hb156 ?_
     refine GQ.skip ?_
     refine GQ.t hb156 ?_
     refine GQ.seq ?_
     obtain ⟨h157, w158, f159, h160, w161, H⟩ := H
     refine GQ.region ?_
     refine SQ.m (.ref r1 v2 o3) ?_
     refine SQ.m (.ref r1 v2 o3) ?_
     refine SQ.m (.ref r1 v2 o3) ?_
     refine SQ.n (o3) f8 ?_
     refine SQ.f 6 (o3) f8 ?_
     refine SQ.y l132 ?_
     refine SQ.p (.int .i64 (x131 + 1)) ⟨trivial, trivial, rfl, c133⟩ ?_
     refine SQ.n (o3) f8 ?_
     refine SQ.f 4 (o3) f8 ?_
     refine SQ.cons (av := .any) rfl (OStep.yes rfl (Y9 (r := r1) (ver := v2) (off := o3 + 4) (n := 1) (v := .int .i64 (x131 + 1)) rfl (by kernel_rfl) (by kernel_rfl) (by kernel_rfl) ⟨trivial, rfl⟩ (by kernel_rfl) w158)) ?_
     refine SQ.n (o3) f159 ?_
     refine SQ.f 6 (o3) f159 ?_
     refine SQ.cons (av := .any) rfl (OStep.yes rfl (Y9 (r := r1) (ver := v2) (off := o3 + 6) (n := 1) (v := .int .i64 0) rfl (by kernel_rfl) (by kernel_rfl) (by kernel_rfl) ⟨trivial, rfl⟩ (by kernel_rfl) w161)) ?_
     refine SQ.nil ?_
     obtain ⟨f162, x163, l164, c165, h166, w167, H⟩ := H
     refine GQ.region ?_
     refine SQ.m (.ref r1 v2 o3) ?_
     refine SQ.n (o3) f162 ?_
     refine SQ.f 5 (o3) f162 ?_
     refine SQ.y l164 ?_
     refine SQ.p (.int .i64 (x163 + 1)) ⟨trivial, trivial, rfl, c165⟩ ?_
     refine SQ.n (o3) f162 ?_
     refine SQ.f 5 (o3) f162 ?_
     refine SQ.cons (av := .any) rfl (OStep.yes rfl (Y9 (r := r1) (ver := v2) (off := o3 + 5) (n := 1) (v := .int .i64 (x163 + 1)) rfl (by kernel_rfl) (by kernel_rfl) (by kernel_rfl) ⟨trivial, rfl⟩ (by kernel_rfl) w167)) ?_
     refine SQ.nil ?_
     exact ⟨y142, Y5 (by kernel_rfl), H⟩
    ·have H := H.2 hb156
     refine GQ.g hb156 ?_
     rcases X1 ((x6 : Int) == 41) with hb168 | hb168
     ·have H := H.1 hb168
      refine GQ.region ?_
      refine SQ.m (.int .u8 x6) ?_
      refine SQ.cons (av := .bool true) rfl (OStep.yes rfl (Y0p (Y6 (av := .bool ((x6 : Int) == 41)) ⟨trivial, trivial, rfl⟩ (by kernel_rfl)) hb168)) ?_
      refine SQ.m (.bool true) ?_
      refine SQ.m (.bool ((x131 + 1 : Int) == x9)) ?_
      refine SQ.cons (av := .bool ((x131 + 1 : Int) == x9)) rfl (OStep.yes rfl (Yl (s := .bool ((x131 + 1 : Int) == x9)) rfl (by kernel_rfl) (by kernel_rfl) ⟨trivial, rfl⟩)) ?_
      refine SQ.a (.bool ((x131 + 1 : Int) == x9)) ?_
      refine SQ.nil ?_
      rcases X1 ((x131 + 1 : Int) == x9) with hb169 | hb169
      ·have H := H.1 hb169
       refine GQ.t hb169 ?_
       refine GQ.seq ?_
       obtain ⟨h170, w171, f172, h173, w174, H⟩ := H
       refine GQ.region ?_
       refine SQ.m (.ref r1 v2 o3) ?_
       refine SQ.m (.ref r1 v2 o3) ?_
       refine SQ.m (.ref r1 v2 o3) ?_
       refine SQ.n (o3) f8 ?_
       refine SQ.f 6 (o3) f8 ?_
       refine SQ.y l132 ?_
       refine SQ.p (.int .i64 (x131 + 1)) ⟨trivial, trivial, rfl, c133⟩ ?_
       refine SQ.n (o3) f8 ?_
       refine SQ.f 4 (o3) f8 ?_
       refine SQ.cons (av := .any) rfl (OStep.yes rfl (Y9 (r := r1) (ver := v2) (off := o3 + 4) (n := 1) (v := .int .i64 (x131 + 1)) rfl (by kernel_rfl) (by kernel_rfl) (by kernel_rfl) ⟨trivial, rfl⟩ (by kernel_rfl) w171)) ?_
       refine SQ.n (o3) f172 ?_
       refine SQ.f 6 (o3) f172 ?_
       refine SQ.cons (av := .any) rfl (OStep.yes rfl (Y9 (r := r1) (ver := v2) (off := o3 + 6) (n := 1) (v := .int .i64 0) rfl (by kernel_rfl) (by kernel_rfl) (by kernel_rfl) ⟨trivial, rfl⟩ (by kernel_rfl) w174)) ?_
       refine SQ.nil ?_
       obtain ⟨f175, x176, l177, c178, h179, w180, H⟩ := H
       refine GQ.region ?_
       refine SQ.m (.ref r1 v2 o3) ?_
       refine SQ.n (o3) f175 ?_
       refine SQ.f 5 (o3) f175 ?_
       refine SQ.y l177 ?_
       refine SQ.p (.int .i64 (x176 + 1)) ⟨trivial, trivial, rfl, c178⟩ ?_
       refine SQ.n (o3) f175 ?_
       refine SQ.f 5 (o3) f175 ?_
       refine SQ.cons (av := .any) rfl (OStep.yes rfl (Y9 (r := r1) (ver := v2) (off := o3 + 5) (n := 1) (v := .int .i64 (x176 + 1)) rfl (by kernel_rfl) (by kernel_rfl) (by kernel_rfl) ⟨trivial, rfl⟩ (by kernel_rfl) w180)) ?_
       refine SQ.nil ?_
       exact ⟨y142, Y5 (by kernel_rfl), H⟩
      ·have H := H.2 hb169
       refine GQ.g hb169 ?_
       rcases H with H | H
       ·skip
        obtain ⟨h184, k185, H⟩ := H
        refine GQ.region ?_
        refine SQ.m (.ref p 0 0) ?_
        refine SQ.c [.ref p 0 0] nc1 k185 ?_
        refine SQ.nil ?_
        exact ⟨y142, Y5 (by kernel_rfl), H⟩
       ·skip
        obtain ⟨h181, ch182, k183, H⟩ := H
        refine GQ.region ?_
        refine SQ.m (.ref p 0 0) ?_
        refine Y1n (OPan.yes rfl (HPan.call (vs := [.ref p 0 0]) rfl (by kernel_rfl) (by kernel_rfl) nc1 k183)) ?_
        exact H
     ·have H := H.2 hb168
      refine GQ.region ?_
      refine SQ.m (.int .u8 x6) ?_
      refine SQ.cons (av := .bool false) rfl (OStep.yes rfl (Y0c (Y6 (av := .bool ((x6 : Int) == 41)) ⟨trivial, trivial, rfl⟩ (by kernel_rfl)) hb168)) ?_
      refine SQ.m (.bool false) ?_
      refine SQ.cons (av := undA) rfl (OStep.no rfl) ?_
      refine SQ.cons (av := .bool false) rfl (OStep.yes rfl (Yh (s := .bool false) rfl (by kernel_rfl) (by kernel_rfl) ⟨trivial, rfl⟩)) ?_
      refine SQ.a (.bool false) ?_
      refine SQ.nil ?_
      refine GQ.cond (b := false) (by kernel_rfl) (fun e => by cases e) (fun _ => ?_)
      rcases H with H | H
      ·skip
       obtain ⟨h189, k190, H⟩ := H
       refine GQ.region ?_
       refine SQ.m (.ref p 0 0) ?_
       refine SQ.c [.ref p 0 0] nc1 k190 ?_
       refine SQ.nil ?_
       exact ⟨y142, Y5 (by kernel_rfl), H⟩
      ·skip
       obtain ⟨h186, ch187, k188, H⟩ := H
       refine GQ.region ?_
       refine SQ.m (.ref p 0 0) ?_
       refine Y1n (OPan.yes rfl (HPan.call (vs := [.ref p 0 0]) rfl (by kernel_rfl) (by kernel_rfl) nc1 k188)) ?_
       exact H
  clear H
  rintro _ h134 ⟨y138, hle, HJ137⟩
  have H := HR136 y138 h134 HJ137
  refine GQ.weaken _ hle ?_
  refine GQ.seq ?_
  obtain ⟨f191, x192, l193, c194, h195, w196, H⟩ := H
  refine GQ.region ?_
  refine SQ.m (.ref p 0 0) ?_
  refine SQ.n (0) f191 ?_
  refine SQ.f 1 (0) f191 ?_
  refine SQ.y l193 ?_
  refine SQ.p (.int .i64 (x192 + 1)) ⟨trivial, trivial, rfl, c194⟩ ?_
  refine SQ.n (0) f191 ?_
  refine SQ.f 1 (0) f191 ?_
  refine SQ.cons (av := .any) rfl (OStep.yes rfl (Y9 (r := p) (ver := 0) (off := 1) (n := 1) (v := .int .i64 (x192 + 1)) rfl (by kernel_rfl) (by kernel_rfl) (by kernel_rfl) ⟨trivial, rfl⟩ (by kernel_rfl) w196)) ?_
  refine SQ.nil ?_
  refine GQ.seq ?_
  obtain ⟨f197, s198, n199, l200, h201, x202, k203, r204, h205, w206, h207, s209, n210, w208, f211, f214, h212, w213, f215, f216, l217, l218, H⟩ := H
  refine GQ.draw Tryd.checked.mixed (by kernel_rfl) [.ref r1 v2 o3, .ref r1 v2 o3, .ref r1 v2 o3, .ref r1 v2 (o3 + 1), s198, .ref p 0 0, .int .i64 x202, .rsl r204 0 0 1, s209, .ref r1 v2 o3, .ref r1 v2 (o3 + 1), .any] [6, 7, 8, 11] [h195, h201, h205, h207, h212] h212 (by kernel_rfl) (by kernel_rfl) rfl rfl ?_ ?_
  ·refine DObl.m (.ref r1 v2 o3) ?_
   refine DObl.m (.ref r1 v2 o3) ?_
   refine Y0d 0 1 2 (by kernel_rfl) (by kernel_rfl) (OStep.yes rfl (HStep.n (o3) f197)) (OStep.yes rfl (HStep.n (o3) f215)) (OStep.yes rfl (HStep.n (o3) f216)) ?_
   refine Y0d 0 1 2 (by kernel_rfl) (by kernel_rfl) (OStep.yes rfl (HStep.f 1 (o3) f197)) (OStep.yes rfl (HStep.f 1 (o3) f215)) (OStep.yes rfl (HStep.f 1 (o3) f216)) ?_
   refine Y0d 0 1 2 (by kernel_rfl) (by kernel_rfl) (OStep.yes rfl (HStep.y l200)) (OStep.yes rfl (HStep.y l217)) (OStep.yes rfl (HStep.y l218)) ?_
   refine DObl.m (.ref p 0 0) ?_
   refine DObl.hv 0 (by kernel_rfl) (OStep.yes rfl (HStep.call (vs := [.ref p 0 0]) rfl (by kernel_rfl) (by kernel_rfl) nc1 k203)) ?_
   refine DObl.hv 1 (by kernel_rfl) (OStep.yes rfl (HStep.build (qs := [(0, .int .i64 x202)]) (cs := [.int .i64 x202]) (r := r204) rfl (Y8 (P := Tryd.prog) (t := 42) (e := 3) (k := 1) (bytes := 8) (z := [.int .i64 0]) (by kernel_rfl)) (by decide) (by kernel_rfl) (by simp only [X5, X4, or_false, forall_eq]; exact ⟨⟨trivial, rfl⟩, Y2l rfl⟩) (by kernel_rfl) (by simp only [X5, X4, or_false, forall_eq]; exact rfl) rfl w206)) ?_
   refine DObl.hv 2 (by kernel_rfl) (OStep.yes rfl (HStep.app (sv := s198) (xv := .rsl r204 0 0 1) (news := [.int .i64 x202]) rfl (Y8 (P := Tryd.prog) (t := 42) (e := 3) (k := 1) (bytes := 8) (z := [.int .i64 0]) (by kernel_rfl)) (by kernel_rfl) (by kernel_rfl) trivial (SrcA.rsl (m := 1) (by kernel_rfl) (Nw.at w206) rfl rfl rfl (Xc rfl)) w208)) ?_
   refine DObl.y 3 (HStep.n (o3) f211) ?_
   refine DObl.y 3 (HStep.f 1 (o3) f211) ?_
   refine DObl.hv 3 (by kernel_rfl) (OStep.yes rfl (Y9 (r := r1) (ver := v2) (off := o3 + 1) (n := 1) (v := s209) rfl (by kernel_rfl) (by kernel_rfl) (by kernel_rfl) n210 (Y09 f214) w213)) ?_
   exact DObl.nil
  refine GQ.seq ?_
  refine GQ.seq ?_
  refine GQ.region ?_
  refine SQ.m (.int .u8 x6) ?_
  refine SQ.p (.bool ((x6 : Int) != 41)) ⟨trivial, trivial, rfl⟩ ?_
  refine SQ.nil ?_
  rcases X1 ((x6 : Int) != 41) with hb219 | hb219
  ·have H := H.1 hb219
   refine GQ.t hb219 ?_
   refine GQ.seq ?_
   refine GQ.region ?_
   refine SQ.a (.int .i64 0) ?_
   refine SQ.nil ?_
   refine GQ.ret ?_
   exact EndK.ret (Qp := Qp) rfl H
  ·have H := H.2 hb219
   refine GQ.g hb219 ?_
   refine GQ.skip ?_
   refine GQ.seq ?_
   obtain ⟨f220, s221, n222, l223, n224, g225, c226, s227, n228, i229, f232, h230, w231, H⟩ := H
   refine GQ.draw Tryd.checked.mixed (by kernel_rfl) [.ref p 0 0, .ref p 0 0, .ref p 0 0, .ref p 0 3, s221, .ref p 0 0, .ref p 0 0, .ref p 0 3, s221, .int .i64 ((n224 : Nat) : Int), .int .i64 (((n224 : Nat) : Int) - 1), s227, .ref p 0 0, .ref p 0 3, .any] [14] [h212, h230] h230 (by kernel_rfl) (by kernel_rfl) rfl rfl ?_ ?_
   ·refine DObl.m (.ref p 0 0) ?_
    refine DObl.m (.ref p 0 0) ?_
    refine DObl.y 0 (HStep.n (0) f220) ?_
    refine DObl.y 0 (HStep.f 3 (0) f220) ?_
    refine DObl.y 0 (HStep.y l223) ?_
    refine DObl.m (.ref p 0 0) ?_
    refine DObl.y 0 (HStep.n (0) f220) ?_
    refine DObl.y 0 (HStep.f 3 (0) f220) ?_
    refine DObl.y 0 (HStep.y l223) ?_
    refine DObl.y 0 (HStep.len (s := s221) (n := n224) rfl (by kernel_rfl) (by kernel_rfl) g225) ?_
    refine DObl.z (fun _ => (Y6 (av := .int .i64 (((n224 : Nat) : Int) - 1)) ⟨trivial, trivial, rfl, c226⟩ (by kernel_rfl))) ?_
    refine DObl.y 0 (HStep.cut (kk := .i64) (s := s221) (j := ((n224 : Nat) : Int) - 1) (k := 7) rfl (by kernel_rfl) (by kernel_rfl) (by kernel_rfl) (by kernel_rfl) i229) ?_
    refine DObl.y 0 (HStep.n (0) f220) ?_
    refine DObl.y 0 (HStep.f 3 (0) f220) ?_
    refine DObl.hv 0 (by kernel_rfl) (OStep.yes rfl (Y9 (r := p) (ver := 0) (off := 3) (n := 1) (v := s227) rfl (by kernel_rfl) (by kernel_rfl) (by kernel_rfl) n228 (Y09 f232) w231)) ?_
    exact DObl.nil
   refine GQ.seq ?_
   obtain ⟨f233, x234, l235, c236, x237, l238, c239, s240, n241, l242, h243, x244, k245, h246, k247, H⟩ := H
   refine GQ.draw Tryd.checked.mixed (by kernel_rfl) [.ref p 0 0, .ref p 0 0, .ref r1 v2 o3, .ref r1 v2 o3, .ref r1 v2 (o3 + 5), .int .i64 x234, .int .i64 (8 * x234), .ref r1 v2 o3, .ref r1 v2 o3, .ref r1 v2 (o3 + 4), .int .i64 x237, .int .i64 ((8 * x234) + x237), .ref r1 v2 o3, .ref r1 v2 o3, .ref r1 v2 (o3 + 1), s240, .int .i64 x244, .tup []] [16, 17] [h230, h243, h246] h246 (by kernel_rfl) (by kernel_rfl) rfl rfl ?_ ?_
   ·refine DObl.m (.ref p 0 0) ?_
    refine DObl.m (.ref p 0 0) ?_
    refine DObl.m (.ref r1 v2 o3) ?_
    refine DObl.y 0 (HStep.n (o3) f233) ?_
    refine DObl.y 0 (HStep.f 5 (o3) f233) ?_
    refine DObl.y 0 (HStep.y l235) ?_
    refine DObl.z (fun _ => (Y6 (av := .int .i64 (8 * x234)) ⟨trivial, trivial, rfl, c236⟩ (by kernel_rfl))) ?_
    refine DObl.m (.ref r1 v2 o3) ?_
    refine DObl.y 0 (HStep.n (o3) f233) ?_
    refine DObl.y 0 (HStep.f 4 (o3) f233) ?_
    refine DObl.y 0 (HStep.y l238) ?_
    refine DObl.z (fun _ => (Y6 (av := .int .i64 ((8 * x234) + x237)) ⟨trivial, trivial, rfl, c239⟩ (by kernel_rfl))) ?_
    refine DObl.m (.ref r1 v2 o3) ?_
    refine DObl.y 0 (HStep.n (o3) f233) ?_
    refine DObl.y 0 (HStep.f 1 (o3) f233) ?_
    refine DObl.y 0 (HStep.y l242) ?_
    refine DObl.hv 0 (by kernel_rfl) (OStep.yes rfl (HStep.call (vs := [.ref p 0 0, .int .i64 13, .int .i64 ((8 * x234) + x237), s240]) rfl (by kernel_rfl) (by kernel_rfl) (by simp only [X5, X4, or_false, forall_eq_or_imp, forall_eq]; exact ⟨⟨trivial, rfl⟩, ⟨trivial, rfl⟩, ⟨trivial, rfl⟩, n241⟩) k245)) ?_
    refine DObl.hv 1 (by kernel_rfl) (OStep.yes rfl (HStep.call (vs := [.ref p 0 0, .int .i64 x244]) rfl (by kernel_rfl) (by kernel_rfl) nc2 k247)) ?_
    exact DObl.nil
   refine GQ.seq ?_
   refine GQ.region ?_
   refine SQ.a (.int .i64 1) ?_
   refine SQ.nil ?_
   refine GQ.ret ?_
   exact EndK.ret (Qp := Qp) rfl H
end Go.Proofs.YtkgfbpbndmklnaaDoor
