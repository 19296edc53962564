/- Own work. -/
import Derived.Test.YtkgfbpbndmklnaaDoorChecked
import Derived.Test.YtkgfbpbndmklnaaDoorWp5
set_option linter.unusedSimpArgs false
set_option linter.unusedVariables false
set_option maxRecDepth 100000
namespace Go.Proofs.YtkgfbpbndmklnaaDoor
open Go.Abs
def pre_sum (h : Hp) (p : Nat) (Q : Hp → AV → Prop) (Qp : Hp → List PanicEntry → Prop) : Prop :=
 ((∃ h4 x5, (CallOK Tryd.prog 61 [.ref p 0 0] h h4 (.int .i64 x5)) ∧ ∃ r7 h8, (Nw h4 r7 ⟨0, true, 3, 1, [.int .i64 x5]⟩ h8) ∧ ∃ (J11 : AV → Bool → Hp → Prop), (∀ y14 y16 h10, J11 y14 y16 h10 → NC y14 → (∃ n58, (Len h10 y14 n58) ∧ (((decide ((((n58 : Nat) : Int) : Int) < 2)) = true → ((∃ h64, (CallOK Tryd.prog 65 [.ref p 0 0] h10 h64 (.tup [])) ∧ (Len h64 y14 n58) ∧ ((∃ h70, (CallOK Tryd.prog 70 [.ref p 0 0, .int .u8 59] h64 h70 (.tup [])) ∧ ((∃ h75 x76, (CallOK Tryd.prog 61 [.ref p 0 0] h70 h75 (.int .i64 x76)) ∧ ∃ r78 h79, (Nw h75 r78 ⟨0, true, 3, 1, [.int .i64 x76]⟩ h79) ∧ ∃ h81 s83, (NC s83) ∧ (App h79 y14 3 1 8 1 [.int .i64 x76] h81 s83) ∧ ((∃ h88, (CallOK Tryd.prog 70 [.ref p 0 0, .int .u8 41] h81 h88 (.tup [])) ∧ ∃ h90 x91, (CallOK Tryd.prog 63 [.ref p 0 0, .int .i64 12, .int .i64 ((n58 : Nat) : Int), s83] h88 h90 (.int .i64 x91)) ∧ (Q h90 (.int .i64 x91))) ∨ (∃ h85, ∃ (ch86 : List PanicEntry), (Y03 Tryd.prog 70 [.ref p 0 0, .int .u8 41] h81 h85 ch86) ∧ (Qp h85 ch86)))) ∨ (∃ h72, ∃ (ch73 : List PanicEntry), (Y03 Tryd.prog 61 [.ref p 0 0] h70 h72 ch73) ∧ (Qp h72 ch73)))) ∨ (∃ h67, ∃ (ch68 : List PanicEntry), (Y03 Tryd.prog 70 [.ref p 0 0, .int .u8 59] h64 h67 ch68) ∧ (Qp h67 ch68)))) ∨ (∃ h61, ∃ (ch62 : List PanicEntry), (Y03 Tryd.prog 65 [.ref p 0 0] h10 h61 ch62) ∧ (Qp h61 ch62)))) ∧ ((decide ((((n58 : Nat) : Int) : Int) < 2)) = false → ((∃ h96, (CallOK Tryd.prog 70 [.ref p 0 0, .int .u8 59] h10 h96 (.tup [])) ∧ ((∃ h101 x102, (CallOK Tryd.prog 61 [.ref p 0 0] h96 h101 (.int .i64 x102)) ∧ ∃ r104 h105, (Nw h101 r104 ⟨0, true, 3, 1, [.int .i64 x102]⟩ h105) ∧ ∃ h107 s109, (NC s109) ∧ (App h105 y14 3 1 8 1 [.int .i64 x102] h107 s109) ∧ ((∃ h114, (CallOK Tryd.prog 70 [.ref p 0 0, .int .u8 41] h107 h114 (.tup [])) ∧ ∃ h116 x117, (CallOK Tryd.prog 63 [.ref p 0 0, .int .i64 12, .int .i64 ((n58 : Nat) : Int), s109] h114 h116 (.int .i64 x117)) ∧ (Q h116 (.int .i64 x117))) ∨ (∃ h111, ∃ (ch112 : List PanicEntry), (Y03 Tryd.prog 70 [.ref p 0 0, .int .u8 41] h107 h111 ch112) ∧ (Qp h111 ch112)))) ∨ (∃ h98, ∃ (ch99 : List PanicEntry), (Y03 Tryd.prog 61 [.ref p 0 0] h96 h98 ch99) ∧ (Qp h98 ch99)))) ∨ (∃ h93, ∃ (ch94 : List PanicEntry), (Y03 Tryd.prog 70 [.ref p 0 0, .int .u8 59] h10 h93 ch94) ∧ (Qp h93 ch94))))))) ∧ (∃ (I19 : Nat → AV → Hp → Prop), (∃ m22, I19 m22 (.rsl r7 0 0 1) h8) ∧ ∀ m18 y23 h17, I19 m18 y23 h17 → NC y23 → (∃ (J26 : Bool → Hp → Prop), (∀ y29 h25, J26 y29 h25 → ((((y29) = true → (Has h25 p 0) ∧ ∃ x38, (Ld h25 p 0 1 (.int .i64 x38)) ∧ (okA .i64 (x38 + 1 : Int)) ∧ ∃ h41, (St h25 p 0 1 (.int .i64 (x38 + 1)) h41) ∧ ((∃ h46 x47, (CallOK Tryd.prog 61 [.ref p 0 0] h41 h46 (.int .i64 x47)) ∧ ∃ r49 h50, (Nw h46 r49 ⟨0, true, 3, 1, [.int .i64 x47]⟩ h50) ∧ ∃ h52 s54, (NC s54) ∧ (App h50 y23 3 1 8 1 [.int .i64 x47] h52 s54) ∧ (∃ m56, m56 < m18 ∧ I19 m56 s54 h52)) ∨ (∃ h43, ∃ (ch44 : List PanicEntry), (Y03 Tryd.prog 61 [.ref p 0 0] h41 h43 ch44) ∧ (Qp h43 ch44)))) ∧ ((y29) = false → (J11 y23 y29 h25))))) ∧ (∃ n30, (Len h17 y23 n30) ∧ (((decide ((((n30 : Nat) : Int) : Int) < 5)) = true → ∃ h33 x34, (CallOK Tryd.prog 59 [.ref p 0 0] h17 h33 (.int .u8 x34)) ∧ (J26 ((x34 : Int) == 44) h33)) ∧ ((decide ((((n30 : Nat) : Int) : Int) < 5)) = false → (J26 false h17))))))) ∨ (∃ h1, ∃ (ch2 : List PanicEntry), (Y03 Tryd.prog 61 [.ref p 0 0] h h1 ch2) ∧ (Qp h1 ch2)))
theorem w_sum {h : Hp} {p : Nat} {Q : Hp → AV → Prop} {Qp : Hp → List PanicEntry → Prop}  (H : pre_sum h p Q Qp) : FnO Tryd.prog 64 [.ref p 0 0] h Q Qp := by
 unfold pre_sum at H
 refine Y59 Tryd.func64 rfl (Xc (by kernel_rfl)) <| GQ.E [(0, .ref p 0 0)] <| Y6 <| Y1 <| Ye (.int .i64 0) <| Y7 <| Y6 ?_
 rcases H with H | H
 ·skip
  obtain ⟨h4, x5, k6, r7, h8, w9, H⟩ := H
  refine Y1 <| Y5 (.ref p 0 0) <| Y01 k6 nc1 <| Y9 (Y2g ([(0, .int .i64 x5)]) El42 w9 (al_ ⟨⟨⟨trivial, rfl⟩, Y44 rfl⟩, trivial⟩) (al_ ⟨rfl, trivial⟩)) <| Ye (.rsl r7 0 0 1) <| Y7 ?_
  obtain ⟨J11, HR12, H⟩ := H
  refine Y5b (fun e h' => ∃ (y14 : AV) (y16 : Bool), NC y14 ∧ Env.le e [(0, .ref p 0 0), (2, .int .i64 0), (3, y14), (15, .bool y16)] ∧ J11 y14 y16 h') ?_ ?_
  ·skip
   refine Y12 ?_
   obtain ⟨I19, ⟨m22, H21⟩, H⟩ := H
   refine Y5g (fun n e h' => ∃ y23, NC y23 ∧ Env.le e [(0, .ref p 0 0), (2, .int .i64 0), (3, y23)] ∧ I19 n y23 h') ?_ m22 ⟨(.rsl r7 0 0 1), ⟨trivial, rfl⟩, Ya (by kernel_rfl), H21⟩
   rintro m18 _ h17 ⟨y23, n24, hle, HI20⟩
   have H := H m18 y23 h17 HI20 n24
   refine Y19 _ hle <| Y6 ?_
   obtain ⟨J26, HR27, H⟩ := H
   refine Y5b (fun e h' => ∃ y29, Env.le e [(0, .ref p 0 0), (2, .int .i64 0), (3, y23), (15, .bool y29)] ∧ J26 y29 h') ?_ ?_
   ·skip
    obtain ⟨n30, g31, H⟩ := H
    rcases X1 (decide ((((n30 : Nat) : Int) : Int) < 5)) with hb32 | hb32
    ·have H := H.1 hb32
     obtain ⟨h33, x34, k35, H⟩ := H
     refine Y1 (Y5 (y23) ?_ n24)
     exact Y9 (Y3f g31) <| Y9 (Y5i (Yn (av := .bool (decide ((((n30 : Nat) : Int) : Int) < 5))) ⟨trivial, trivial, rfl⟩ (by kernel_rfl)) hb32) <| Y5 (.bool true) <| Y5 (.ref p 0 0) <| Y01 k35 nc1 <| Yl (.bool ((x34 : Int) == 44)) ⟨trivial, trivial, rfl⟩ <| Y9 (Y4f (.bool ((x34 : Int) == 44))) <| Y7 (⟨((x34 : Int) == 44), Ya (by kernel_rfl), H⟩)
    ·have H := H.2 hb32
     refine Y1 (Y5 (y23) ?_ n24)
     exact Y9 (Y3f g31) <| Y9 (Y5j (Yn (av := .bool (decide ((((n30 : Nat) : Int) : Int) < 5))) ⟨trivial, trivial, rfl⟩ (by kernel_rfl)) hb32) <| Y5 (.bool false) <| Yv <| Yv <| Yv <| Y9 (Y27 (.bool false)) <| Y7 (⟨false, Ya (by kernel_rfl), H⟩)
   clear H
   rintro _ h25 ⟨y29, hle, HJ28⟩
   have H := HR27 y29 h25 HJ28
   refine Y19 _ hle ?_
   rcases X1 (y29) with hb36 | hb36
   ·have H := H.1 hb36
    refine Y0l hb36 <| Y0p <| Y12 <| Y6 ?_
    obtain ⟨f37, x38, l39, c40, h41, w42, H⟩ := H
    refine Y1 <| Y5 (.ref p 0 0) <| Yr (0) f37 <| Yp 1 (0) f37 <| Y00 l39 <| Yl (.int .i64 (x38 + 1)) ⟨trivial, trivial, rfl, c40⟩ <| Yr (0) f37 <| Yp 1 (0) f37 <| Y9 (Y17 w42) <| Y7 ?_
    rcases H with H | H
    ·skip
     obtain ⟨h46, x47, k48, r49, h50, w51, h52, s54, n55, w53, H⟩ := H
     refine Y1 (Y5 (y23) ?_ n24)
     refine Y5 (.ref p 0 0) <| Y01 k48 nc1 <| Y9 (Y2g ([(0, .int .i64 x47)]) El42 w51 (al_ ⟨⟨⟨trivial, rfl⟩, Y44 rfl⟩, trivial⟩) (al_ ⟨rfl, trivial⟩)) <| Y9 (Y3g (.rsl r49 0 0 1) El42 (SrcA.rsl (m := 1) (by kernel_rfl) (Nw.at w51) rfl rfl rfl (Xc rfl)) w53) (Ye (s54) ?_ n55)
     refine Y7 ?_
     obtain ⟨m56, hl57, H⟩ := H
     exact ⟨m56, hl57, s54, n55, Ya (by kernel_rfl), H⟩
    ·skip
     obtain ⟨h43, ch44, k45, H⟩ := H
     refine Y1 (Y5 (y23) ?_ n24)
     exact Y5 (.ref p 0 0) <| Y2m k45 nc1 (H)
   ·have H := H.2 hb36
    exact Y0s hb36 <| Y5d (⟨y23, y29, n24, Ya (by kernel_rfl), H⟩)
  clear H
  rintro _ h10 ⟨y14, y16, n15, hle, HJ13⟩
  have H := HR12 y14 y16 h10 HJ13 n15
  refine Y19 _ hle <| Y6 <| Y6 ?_
  obtain ⟨n58, g59, H⟩ := H
  refine Y1 (Y5 (y14) ?_ n15)
  refine Y9 (Y3f g59) <| Yl (.bool (decide ((((n58 : Nat) : Int) : Int) < 2))) ⟨trivial, trivial, rfl⟩ <| Y7 ?_
  rcases X1 (decide ((((n58 : Nat) : Int) : Int) < 2)) with hb60 | hb60
  ·have H := H.1 hb60
   refine Y0l hb60 ?_
   rcases H with H | H
   ·skip
    obtain ⟨h64, k65, H⟩ := H
    refine Y1 <| Y5 (.ref p 0 0) <| Y01 k65 nc1 <| Y7 <| Y6 ?_
    obtain ⟨g66, H⟩ := H
    refine Y1 (Y5 (y14) ?_ n15)
    refine Y9 (Y3f g66) <| Ye (.int .i64 ((n58 : Nat) : Int)) <| Y7 <| Y6 ?_
    rcases H with H | H
    ·skip
     obtain ⟨h70, k71, H⟩ := H
     refine Y1 <| Y5 (.ref p 0 0) <| Y01 k71 nc2 <| Y7 <| Y6 ?_
     rcases H with H | H
     ·skip
      obtain ⟨h75, x76, k77, r78, h79, w80, h81, s83, n84, w82, H⟩ := H
      refine Y1 (Y5 (y14) ?_ n15)
      refine Y5 (.ref p 0 0) <| Y01 k77 nc1 <| Y9 (Y2g ([(0, .int .i64 x76)]) El42 w80 (al_ ⟨⟨⟨trivial, rfl⟩, Y44 rfl⟩, trivial⟩) (al_ ⟨rfl, trivial⟩)) <| Y9 (Y3g (.rsl r78 0 0 1) El42 (SrcA.rsl (m := 1) (by kernel_rfl) (Nw.at w80) rfl rfl rfl (Xc rfl)) w82) (Ye (s83) ?_ n84)
      refine Y7 <| Y6 ?_
      rcases H with H | H
      ·skip
       obtain ⟨h88, k89, H⟩ := H
       refine Y1 <| Y5 (.ref p 0 0) <| Y01 k89 nc2 <| Y7 <| Y6 ?_
       obtain ⟨h90, x91, k92, H⟩ := H
       refine Y1 <| Y5 (.ref p 0 0) <| Y5 (.int .i64 ((n58 : Nat) : Int)) (Y5 (s83) ?_ n84)
       exact Y01 k92 (al_ ⟨⟨trivial, rfl⟩, ⟨trivial, rfl⟩, ⟨trivial, rfl⟩, n84, trivial⟩) <| Ye (.int .i64 x91) <| Y7 <| Y10 (Yw (Qp := Qp) rfl H)
      ·skip
       obtain ⟨h85, ch86, k87, H⟩ := H
       exact Y1 <| Y5 (.ref p 0 0) <| Y2m k87 nc2 (H)
     ·skip
      obtain ⟨h72, ch73, k74, H⟩ := H
      refine Y1 (Y5 (y14) ?_ n15)
      exact Y5 (.ref p 0 0) <| Y2m k74 nc1 (H)
    ·skip
     obtain ⟨h67, ch68, k69, H⟩ := H
     exact Y1 <| Y5 (.ref p 0 0) <| Y2m k69 nc2 (H)
   ·skip
    obtain ⟨h61, ch62, k63, H⟩ := H
    exact Y1 <| Y5 (.ref p 0 0) <| Y2m k63 nc1 (H)
  ·have H := H.2 hb60
   refine Y0s hb60 <| Y0p <| Y6 <| Y1 (Y5 (y14) ?_ n15)
   refine Y9 (Y3f g59) <| Ye (.int .i64 ((n58 : Nat) : Int)) <| Y7 <| Y6 ?_
   rcases H with H | H
   ·skip
    obtain ⟨h96, k97, H⟩ := H
    refine Y1 <| Y5 (.ref p 0 0) <| Y01 k97 nc2 <| Y7 <| Y6 ?_
    rcases H with H | H
    ·skip
     obtain ⟨h101, x102, k103, r104, h105, w106, h107, s109, n110, w108, H⟩ := H
     refine Y1 (Y5 (y14) ?_ n15)
     refine Y5 (.ref p 0 0) <| Y01 k103 nc1 <| Y9 (Y2g ([(0, .int .i64 x102)]) El42 w106 (al_ ⟨⟨⟨trivial, rfl⟩, Y44 rfl⟩, trivial⟩) (al_ ⟨rfl, trivial⟩)) <| Y9 (Y3g (.rsl r104 0 0 1) El42 (SrcA.rsl (m := 1) (by kernel_rfl) (Nw.at w106) rfl rfl rfl (Xc rfl)) w108) (Ye (s109) ?_ n110)
     refine Y7 <| Y6 ?_
     rcases H with H | H
     ·skip
      obtain ⟨h114, k115, H⟩ := H
      refine Y1 <| Y5 (.ref p 0 0) <| Y01 k115 nc2 <| Y7 <| Y6 ?_
      obtain ⟨h116, x117, k118, H⟩ := H
      refine Y1 <| Y5 (.ref p 0 0) <| Y5 (.int .i64 ((n58 : Nat) : Int)) (Y5 (s109) ?_ n110)
      exact Y01 k118 (al_ ⟨⟨trivial, rfl⟩, ⟨trivial, rfl⟩, ⟨trivial, rfl⟩, n110, trivial⟩) <| Ye (.int .i64 x117) <| Y7 <| Y10 (Yw (Qp := Qp) rfl H)
     ·skip
      obtain ⟨h111, ch112, k113, H⟩ := H
      exact Y1 <| Y5 (.ref p 0 0) <| Y2m k113 nc2 (H)
    ·skip
     obtain ⟨h98, ch99, k100, H⟩ := H
     refine Y1 (Y5 (y14) ?_ n15)
     exact Y5 (.ref p 0 0) <| Y2m k100 nc1 (H)
   ·skip
    obtain ⟨h93, ch94, k95, H⟩ := H
    exact Y1 <| Y5 (.ref p 0 0) <| Y2m k95 nc2 (H)
 ·skip
  obtain ⟨h1, ch2, k3, H⟩ := H
  exact Y1 <| Y5 (.ref p 0 0) <| Y2m k3 nc1 (H)
def pre_matrix (h : Hp) (p : Nat) (Q : Hp → AV → Prop) (Qp : Hp → List PanicEntry → Prop) : Prop :=
 ∃ r1 v2 o3, (CallOK Tryd.prog 66 [.ref p 0 0] h h (.ref r1 v2 o3)) ∧ ∃ h5 x6, (CallOK Tryd.prog 59 [.ref p 0 0] h h5 (.int .u8 x6)) ∧ (Has h5 r1 v2) ∧ ∃ x9, (Ld h5 r1 v2 (o3 + 4) (.int .i64 x9)) ∧ ((((x9 : Int) == 0) = true → ∃ (J13 : Bool → Hp → Prop), (∀ y16 h12, J13 y16 h12 → ((Has h12 p 0) ∧ ∃ x75, (Ld h12 p 0 1 (.int .i64 x75)) ∧ (okA .i64 (x75 + 1 : Int)) ∧ ∃ h78, (St h12 p 0 1 (.int .i64 (x75 + 1)) h78) ∧ (Has h78 r1 v2) ∧ ∃ s81, (NC s81) ∧ (Ld h78 r1 v2 (o3 + 1) s81) ∧ ∃ h84 x85, (CallOK Tryd.prog 51 [.ref p 0 0] h78 h84 (.int .i64 x85)) ∧ ∃ r87 h88, (Nw h84 r87 ⟨0, true, 3, 1, [.int .i64 x85]⟩ h88) ∧ ∃ h90 s92, (NC s92) ∧ (App h88 s81 3 1 8 1 [.int .i64 x85] h90 s92) ∧ (Has h90 r1 v2) ∧ (oneA h90 s92) ∧ ∃ h95, (St h90 r1 v2 (o3 + 1) s92 h95) ∧ (Has h84 r1 v2) ∧ (Has h88 r1 v2) ∧ (Ld h84 r1 v2 (o3 + 1) s81) ∧ (Ld h88 r1 v2 (o3 + 1) s81) ∧ ((((x6 : Int) != 41) = true → (Q h95 (.int .i64 0))) ∧ (((x6 : Int) != 41) = false → (Has h95 p 0) ∧ ∃ s104, (NC s104) ∧ (Ld h95 p 0 3 s104) ∧ ∃ n107, (Len h95 s104 n107) ∧ (okA .i64 (((n107 : Nat) : Int) - 1 : Int)) ∧ ∃ s110, (NC s110) ∧ (Cut h95 s104 7 (((n107 : Nat) : Int) - 1 : Int) s110) ∧ (oneA h95 s110) ∧ ∃ h113, (St h95 p 0 3 s110 h113) ∧ (Has h113 r1 v2) ∧ ∃ x117, (Ld h113 r1 v2 (o3 + 5) (.int .i64 x117)) ∧ (okA .i64 (8 * x117 : Int)) ∧ ∃ x120, (Ld h113 r1 v2 (o3 + 4) (.int .i64 x120)) ∧ (okA .i64 ((8 * x117) + x120 : Int)) ∧ ∃ s123, (NC s123) ∧ (Ld h113 r1 v2 (o3 + 1) s123) ∧ ∃ h126 x127, (CallOK Tryd.prog 63 [.ref p 0 0, .int .i64 13, .int .i64 ((8 * x117) + x120), s123] h113 h126 (.int .i64 x127)) ∧ ∃ h129, (CallOK Tryd.prog 60 [.ref p 0 0, .int .i64 x127] h126 h129 (.tup [])) ∧ (Q h129 (.int .i64 1)))))) ∧ (∃ (J17 : Bool → Prop), (∀ y20, J17 y20 → ((((y20) = true → ∃ x26, (Ld h5 r1 v2 (o3 + 6) (.int .i64 x26)) ∧ (okA .i64 (x26 + 1 : Int)) ∧ ∃ h29, (St h5 r1 v2 (o3 + 6) (.int .i64 (x26 + 1)) h29) ∧ (J13 y20 h29)) ∧ ((y20) = false → ∃ (J31 : Bool → Prop), (∀ y34, J31 y34 → ((((y34) = true → ∃ x40, (Ld h5 r1 v2 (o3 + 6) (.int .i64 x40)) ∧ (okA .i64 (x40 + 1 : Int)) ∧ ∃ h43, (St h5 r1 v2 (o3 + 4) (.int .i64 (x40 + 1)) h43) ∧ (Has h43 r1 v2) ∧ ∃ h46, (St h43 r1 v2 (o3 + 6) (.int .i64 0) h46) ∧ (Has h46 r1 v2) ∧ ∃ x49, (Ld h46 r1 v2 (o3 + 5) (.int .i64 x49)) ∧ (okA .i64 (x49 + 1 : Int)) ∧ ∃ h52, (St h46 r1 v2 (o3 + 5) (.int .i64 (x49 + 1)) h52) ∧ (J13 y20 h52)) ∧ ((y34) = false → ((((x6 : Int) == 41) = true → ∃ x55, (Ld h5 r1 v2 (o3 + 6) (.int .i64 x55)) ∧ (okA .i64 (x55 + 1 : Int)) ∧ ∃ h58, (St h5 r1 v2 (o3 + 4) (.int .i64 (x55 + 1)) h58) ∧ (Has h58 r1 v2) ∧ ∃ h61, (St h58 r1 v2 (o3 + 6) (.int .i64 0) h61) ∧ (Has h61 r1 v2) ∧ ∃ x64, (Ld h61 r1 v2 (o3 + 5) (.int .i64 x64)) ∧ (okA .i64 (x64 + 1 : Int)) ∧ ∃ h67, (St h61 r1 v2 (o3 + 5) (.int .i64 (x64 + 1)) h67) ∧ (J13 y20 h67)) ∧ (((x6 : Int) == 41) = false → ((∃ h72, (CallOK Tryd.prog 65 [.ref p 0 0] h5 h72 (.tup [])) ∧ (J13 y20 h72)) ∨ (∃ h69, ∃ (ch70 : List PanicEntry), (Y03 Tryd.prog 65 [.ref p 0 0] h5 h69 ch70) ∧ (Qp h69 ch70))))))))) ∧ (((((x6 : Int) == 59) = true → ∃ x36, (Ld h5 r1 v2 (o3 + 5) (.int .i64 x36)) ∧ (okA .i64 (x36 + 1 : Int)) ∧ (J31 (decide ((x36 + 1 : Int) < 4)))) ∧ (((x6 : Int) == 59) = false → (J31 false)))))))) ∧ (((((x6 : Int) == 44) = true → ∃ x22, (Ld h5 r1 v2 (o3 + 6) (.int .i64 x22)) ∧ (okA .i64 (x22 + 1 : Int)) ∧ (J17 (decide ((x22 + 1 : Int) < 4)))) ∧ (((x6 : Int) == 44) = false → (J17 false)))))) ∧ (((x9 : Int) == 0) = false → ∃ x131, (Ld h5 r1 v2 (o3 + 6) (.int .i64 x131)) ∧ (okA .i64 (x131 + 1 : Int)) ∧ ∃ (J135 : Bool → Hp → Prop), (∀ y138 h134, J135 y138 h134 → ((Has h134 p 0) ∧ ∃ x192, (Ld h134 p 0 1 (.int .i64 x192)) ∧ (okA .i64 (x192 + 1 : Int)) ∧ ∃ h195, (St h134 p 0 1 (.int .i64 (x192 + 1)) h195) ∧ (Has h195 r1 v2) ∧ ∃ s198, (NC s198) ∧ (Ld h195 r1 v2 (o3 + 1) s198) ∧ ∃ h201 x202, (CallOK Tryd.prog 51 [.ref p 0 0] h195 h201 (.int .i64 x202)) ∧ ∃ r204 h205, (Nw h201 r204 ⟨0, true, 3, 1, [.int .i64 x202]⟩ h205) ∧ ∃ h207 s209, (NC s209) ∧ (App h205 s198 3 1 8 1 [.int .i64 x202] h207 s209) ∧ (Has h207 r1 v2) ∧ (oneA h207 s209) ∧ ∃ h212, (St h207 r1 v2 (o3 + 1) s209 h212) ∧ (Has h201 r1 v2) ∧ (Has h205 r1 v2) ∧ (Ld h201 r1 v2 (o3 + 1) s198) ∧ (Ld h205 r1 v2 (o3 + 1) s198) ∧ ((((x6 : Int) != 41) = true → (Q h212 (.int .i64 0))) ∧ (((x6 : Int) != 41) = false → (Has h212 p 0) ∧ ∃ s221, (NC s221) ∧ (Ld h212 p 0 3 s221) ∧ ∃ n224, (Len h212 s221 n224) ∧ (okA .i64 (((n224 : Nat) : Int) - 1 : Int)) ∧ ∃ s227, (NC s227) ∧ (Cut h212 s221 7 (((n224 : Nat) : Int) - 1 : Int) s227) ∧ (oneA h212 s227) ∧ ∃ h230, (St h212 p 0 3 s227 h230) ∧ (Has h230 r1 v2) ∧ ∃ x234, (Ld h230 r1 v2 (o3 + 5) (.int .i64 x234)) ∧ (okA .i64 (8 * x234 : Int)) ∧ ∃ x237, (Ld h230 r1 v2 (o3 + 4) (.int .i64 x237)) ∧ (okA .i64 ((8 * x234) + x237 : Int)) ∧ ∃ s240, (NC s240) ∧ (Ld h230 r1 v2 (o3 + 1) s240) ∧ ∃ h243 x244, (CallOK Tryd.prog 63 [.ref p 0 0, .int .i64 13, .int .i64 ((8 * x234) + x237), s240] h230 h243 (.int .i64 x244)) ∧ ∃ h246, (CallOK Tryd.prog 60 [.ref p 0 0, .int .i64 x244] h243 h246 (.tup [])) ∧ (Q h246 (.int .i64 1)))))) ∧ (∃ (J139 : Bool → Prop), (∀ y142, J139 y142 → ((((y142) = true → ∃ h145, (St h5 r1 v2 (o3 + 6) (.int .i64 (x131 + 1)) h145) ∧ (J135 y142 h145)) ∧ ((y142) = false → ∃ (J147 : Bool → Prop), (∀ y150, J147 y150 → ((((y150) = true → ∃ h157, (St h5 r1 v2 (o3 + 4) (.int .i64 (x131 + 1)) h157) ∧ (Has h157 r1 v2) ∧ ∃ h160, (St h157 r1 v2 (o3 + 6) (.int .i64 0) h160) ∧ (Has h160 r1 v2) ∧ ∃ x163, (Ld h160 r1 v2 (o3 + 5) (.int .i64 x163)) ∧ (okA .i64 (x163 + 1 : Int)) ∧ ∃ h166, (St h160 r1 v2 (o3 + 5) (.int .i64 (x163 + 1)) h166) ∧ (J135 y142 h166)) ∧ ((y150) = false → ((((x6 : Int) == 41) = true → ((((x131 + 1 : Int) == x9) = true → ∃ h170, (St h5 r1 v2 (o3 + 4) (.int .i64 (x131 + 1)) h170) ∧ (Has h170 r1 v2) ∧ ∃ h173, (St h170 r1 v2 (o3 + 6) (.int .i64 0) h173) ∧ (Has h173 r1 v2) ∧ ∃ x176, (Ld h173 r1 v2 (o3 + 5) (.int .i64 x176)) ∧ (okA .i64 (x176 + 1 : Int)) ∧ ∃ h179, (St h173 r1 v2 (o3 + 5) (.int .i64 (x176 + 1)) h179) ∧ (J135 y142 h179)) ∧ (((x131 + 1 : Int) == x9) = false → ((∃ h184, (CallOK Tryd.prog 65 [.ref p 0 0] h5 h184 (.tup [])) ∧ (J135 y142 h184)) ∨ (∃ h181, ∃ (ch182 : List PanicEntry), (Y03 Tryd.prog 65 [.ref p 0 0] h5 h181 ch182) ∧ (Qp h181 ch182)))))) ∧ (((x6 : Int) == 41) = false → ((∃ h189, (CallOK Tryd.prog 65 [.ref p 0 0] h5 h189 (.tup [])) ∧ (J135 y142 h189)) ∨ (∃ h186, ∃ (ch187 : List PanicEntry), (Y03 Tryd.prog 65 [.ref p 0 0] h5 h186 ch187) ∧ (Qp h186 ch187))))))))) ∧ (((((x6 : Int) == 59) = true → ((((x131 + 1 : Int) == x9) = true → ∃ x153, (Ld h5 r1 v2 (o3 + 5) (.int .i64 x153)) ∧ (okA .i64 (x153 + 1 : Int)) ∧ (J147 (decide ((x153 + 1 : Int) < 4)))) ∧ (((x131 + 1 : Int) == x9) = false → (J147 false)))) ∧ (((x6 : Int) == 59) = false → (J147 false)))))))) ∧ (((((x6 : Int) == 44) = true → (J139 (decide ((x131 + 1 : Int) < x9)))) ∧ (((x6 : Int) == 44) = false → (J139 false)))))))
theorem w_matrix {h : Hp} {p : Nat} {Q : Hp → AV → Prop} {Qp : Hp → List PanicEntry → Prop}  (H : pre_matrix h p Q Qp) : FnO Tryd.prog 69 [.ref p 0 0] h Q Qp := by
 unfold pre_matrix at H
 refine Y59 Tryd.func69 rfl (Xc (by kernel_rfl)) <| GQ.E [(0, .ref p 0 0)] <| Y6 <| Y1 <| Ye (.int .i64 0) <| Y7 <| Y6 ?_
 obtain ⟨r1, v2, o3, k4, H⟩ := H
 refine Y1 <| Y5 (.ref p 0 0) <| Y01 k4 nc1 <| Ye (.ref r1 v2 o3) <| Y7 <| Y6 ?_
 obtain ⟨h5, x6, k7, H⟩ := H
 refine Y1 <| Y5 (.ref p 0 0) <| Y01 k7 nc1 <| Ye (.int .u8 x6) <| Y7 <| Y6 ?_
 obtain ⟨f8, x9, l10, H⟩ := H
 refine Y1 <| Y5 (.ref r1 v2 o3) <| Yr (o3) f8 <| Yp 4 (o3) f8 <| Y00 l10 <| Ye (.int .i64 x9) <| Y7 <| Y6 <| Y6 <| Y1 <| Y5 (.int .i64 x9) <| Yl (.bool ((x9 : Int) == 0)) ⟨trivial, trivial, rfl⟩ <| Y7 ?_
 rcases X1 ((x9 : Int) == 0) with hb11 | hb11
 ·have H := H.1 hb11
  refine Y0l hb11 <| Y1 <| Ye (.int .i64 4) <| Y7 <| Y6 (Y28 Tryd.checked.mixed (by kernel_rfl) [.ref r1 v2 o3, .ref r1 v2 o3, .ref r1 v2 (o3 + 4), .int .i64 x9, .bool true, .bool true, undA, undA, undA, undA, undA, undA, undA, undA, undA, undA, .bool true, .bool true] [] [h5] h5 (by kernel_rfl) (by kernel_rfl) rfl rfl ?_ ?_)
  ·exact Ym (.ref r1 v2 o3) <| Yc 0 (Yj (o3) f8) <| Yc 0 (Yk 4 (o3) f8) <| Yc 0 (Yq l10) <| Y0o (fun _ => (Y4q ⟨trivial, trivial, rfl⟩ hb11)) <| Ym (.bool true) <| Y0d <| Y0d <| Y0d <| Y0d <| Y0d <| Y0d <| Y0d <| Y0d <| Y0d <| Y0d <| Y0o (fun _ => (Y4f (.bool true))) <| Y0o (fun _ => (Y5h (s := .bool true) rfl (by kernel_rfl) ⟨trivial, rfl⟩)) (Y1m)
  obtain ⟨J13, HR14, H⟩ := H
  refine Y5b (fun e h' => ∃ y16, Env.le e [(0, .ref p 0 0), (2, .int .i64 0), (3, .ref r1 v2 o3), (4, .int .u8 x6), (5, .int .i64 4), (6, .bool true), (16, .bool ((x9 : Int) == 0)), (36, .bool y16)] ∧ J13 y16 h') ?_ ?_
  ·skip
   refine Y12 ?_
   obtain ⟨J17, HR18, H⟩ := H
   refine Y5b (fun e h' => ∃ y20, Env.le e [(0, .ref p 0 0), (2, .int .i64 0), (3, .ref r1 v2 o3), (4, .int .u8 x6), (5, .int .i64 4), (6, .bool true), (16, .bool ((x9 : Int) == 0)), (36, .bool y20)] ∧ h5 = h' ∧ J17 y20) ?_ ?_
   ·skip
    rcases X1 ((x6 : Int) == 44) with hb21 | hb21
    ·have H := H.1 hb21
     obtain ⟨x22, l23, c24, H⟩ := H
     exact Y1 <| Y5 (.int .u8 x6) <| Y9 (Y4q ⟨trivial, trivial, rfl⟩ hb21) <| Y5 (.bool true) <| Y5 (.ref r1 v2 o3) <| Yr (o3) f8 <| Yp 6 (o3) f8 <| Y00 l23 <| Yl (.int .i64 (x22 + 1)) ⟨trivial, trivial, rfl, c24⟩ <| Y5 (.int .i64 4) <| Yl (.bool (decide ((x22 + 1 : Int) < 4))) ⟨trivial, trivial, rfl⟩ <| Y9 (Y42 (s := .bool (decide ((x22 + 1 : Int) < 4))) rfl (by kernel_rfl) (by kernel_rfl) ⟨trivial, rfl⟩) <| Ye (.bool (decide ((x22 + 1 : Int) < 4))) <| Y7 (⟨(decide ((x22 + 1 : Int) < 4)), Ya (by kernel_rfl), rfl, H⟩)
    ·have H := H.2 hb21
     exact Y1 <| Y5 (.int .u8 x6) <| Y9 (Y3e ⟨trivial, trivial, rfl⟩ hb21) <| Y5 (.bool false) <| Yv <| Yv <| Yv <| Yv <| Yv <| Yv <| Yv <| Y9 (Y27 (.bool false)) <| Ye (.bool false) <| Y7 (⟨false, Ya (by kernel_rfl), rfl, H⟩)
   clear H
   rintro _ _ ⟨y20, hle, rfl, HJ19⟩
   have H := HR18 y20 HJ19
   refine Y19 _ hle ?_
   rcases X1 (y20) with hb25 | hb25
   ·have H := H.1 hb25
    refine Y0l hb25 ?_
    obtain ⟨x26, l27, c28, h29, w30, H⟩ := H
    exact Y1 <| Y5 (.ref r1 v2 o3) <| Yr (o3) f8 <| Yp 6 (o3) f8 <| Y00 l27 <| Yl (.int .i64 (x26 + 1)) ⟨trivial, trivial, rfl, c28⟩ <| Yr (o3) f8 <| Yp 6 (o3) f8 <| Y9 (Y17 w30) <| Y7 (⟨y20, Ya (by kernel_rfl), H⟩)
   ·have H := H.2 hb25
    refine Y0s hb25 <| Y6 ?_
    obtain ⟨J31, HR32, H⟩ := H
    refine Y5b (fun e h' => ∃ y34, Env.le e [(0, .ref p 0 0), (2, .int .i64 0), (3, .ref r1 v2 o3), (4, .int .u8 x6), (5, .int .i64 4), (6, .bool true), (16, .bool ((x9 : Int) == 0)), (36, .bool y20), (55, .bool y34)] ∧ h5 = h' ∧ J31 y34) ?_ ?_
    ·skip
     rcases X1 ((x6 : Int) == 59) with hb35 | hb35
     ·have H := H.1 hb35
      obtain ⟨x36, l37, c38, H⟩ := H
      refine Y1 <| Y5 (.int .u8 x6) <| Y9 (Y4q ⟨trivial, trivial, rfl⟩ hb35) <| Y5 (.bool true) <| Y5 (.bool true) <| Y9 (Y4f (.bool true)) <| Y5 (.bool true) <| Y5 (.ref r1 v2 o3) <| Yr (o3) f8 <| Yp 5 (o3) f8 <| Y00 l37 <| Yl (.int .i64 (x36 + 1)) ⟨trivial, trivial, rfl, c38⟩ <| Yl (.bool (decide ((x36 + 1 : Int) < 4))) ⟨trivial, trivial, rfl⟩ <| Y9 (Y42 (s := .bool (decide ((x36 + 1 : Int) < 4))) rfl (by kernel_rfl) (by kernel_rfl) ⟨trivial, rfl⟩) <| Ye (.bool (decide ((x36 + 1 : Int) < 4))) <| Y7 ?_
      exact ⟨(decide ((x36 + 1 : Int) < 4)), Ya (by kernel_rfl), rfl, H⟩
     ·have H := H.2 hb35
      exact Y1 <| Y5 (.int .u8 x6) <| Y9 (Y3e ⟨trivial, trivial, rfl⟩ hb35) <| Y5 (.bool false) <| Yv <| Y9 (Y27 (.bool false)) <| Y5 (.bool false) <| Yv <| Yv <| Yv <| Yv <| Yv <| Yv <| Y9 (Y27 (.bool false)) <| Ye (.bool false) <| Y7 (⟨false, Ya (by kernel_rfl), rfl, H⟩)
    clear H
    rintro _ _ ⟨y34, hle, rfl, HJ33⟩
    have H := HR32 y34 HJ33
    refine Y19 _ hle ?_
    rcases X1 (y34) with hb39 | hb39
    ·have H := H.1 hb39
     refine Y0l hb39 <| Y0p <| Y0l hb39 <| Y6 ?_
     obtain ⟨x40, l41, c42, h43, w44, f45, h46, w47, H⟩ := H
     refine Y1 <| Y5 (.ref r1 v2 o3) <| Y5 (.ref r1 v2 o3) <| Y5 (.ref r1 v2 o3) <| Yr (o3) f8 <| Yp 6 (o3) f8 <| Y00 l41 <| Yl (.int .i64 (x40 + 1)) ⟨trivial, trivial, rfl, c42⟩ <| Yr (o3) f8 <| Yp 4 (o3) f8 <| Y9 (Y17 w44) <| Yr (o3) f45 <| Yp 6 (o3) f45 <| Y9 (Y17 w47) <| Y7 ?_
     obtain ⟨f48, x49, l50, c51, h52, w53, H⟩ := H
     exact Y1 <| Y5 (.ref r1 v2 o3) <| Yr (o3) f48 <| Yp 5 (o3) f48 <| Y00 l50 <| Yl (.int .i64 (x49 + 1)) ⟨trivial, trivial, rfl, c51⟩ <| Yr (o3) f48 <| Yp 5 (o3) f48 <| Y9 (Y17 w53) <| Y7 (⟨y20, Ya (by kernel_rfl), H⟩)
    ·have H := H.2 hb39
     refine Y0s hb39 ?_
     rcases X1 ((x6 : Int) == 41) with hb54 | hb54
     ·have H := H.1 hb54
      refine Y1 <| Y5 (.int .u8 x6) <| Y9 (Y4q ⟨trivial, trivial, rfl⟩ hb54) <| Y5 (.bool true) <| Y5 (.bool true) <| Y9 (Y4f (.bool true)) <| Ye (.bool true) <| Y7 (Y52 (b := true) (by kernel_rfl) (fun _ => ?_) (fun e => by cases e))
      refine Y6 ?_
      obtain ⟨x55, l56, c57, h58, w59, f60, h61, w62, H⟩ := H
      refine Y1 <| Y5 (.ref r1 v2 o3) <| Y5 (.ref r1 v2 o3) <| Y5 (.ref r1 v2 o3) <| Yr (o3) f8 <| Yp 6 (o3) f8 <| Y00 l56 <| Yl (.int .i64 (x55 + 1)) ⟨trivial, trivial, rfl, c57⟩ <| Yr (o3) f8 <| Yp 4 (o3) f8 <| Y9 (Y17 w59) <| Yr (o3) f60 <| Yp 6 (o3) f60 <| Y9 (Y17 w62) <| Y7 ?_
      obtain ⟨f63, x64, l65, c66, h67, w68, H⟩ := H
      exact Y1 <| Y5 (.ref r1 v2 o3) <| Yr (o3) f63 <| Yp 5 (o3) f63 <| Y00 l65 <| Yl (.int .i64 (x64 + 1)) ⟨trivial, trivial, rfl, c66⟩ <| Yr (o3) f63 <| Yp 5 (o3) f63 <| Y9 (Y17 w68) <| Y7 (⟨y20, Ya (by kernel_rfl), H⟩)
     ·have H := H.2 hb54
      refine Y1 <| Y5 (.int .u8 x6) <| Y9 (Y3e ⟨trivial, trivial, rfl⟩ hb54) <| Y5 (.bool false) <| Yv <| Y9 (Y27 (.bool false)) <| Ye (.bool false) <| Y7 (Y52 (b := false) (by kernel_rfl) (fun e => by cases e) (fun _ => ?_))
      rcases H with H | H
      ·skip
       obtain ⟨h72, k73, H⟩ := H
       exact Y1 <| Y5 (.ref p 0 0) <| Y01 k73 nc1 <| Y7 (⟨y20, Ya (by kernel_rfl), H⟩)
      ·skip
       obtain ⟨h69, ch70, k71, H⟩ := H
       exact Y1 <| Y5 (.ref p 0 0) <| Y2m k71 nc1 (H)
  clear H
  rintro _ h12 ⟨y16, hle, HJ15⟩
  have H := HR14 y16 h12 HJ15
  refine Y19 _ hle <| Y6 ?_
  obtain ⟨f74, x75, l76, c77, h78, w79, H⟩ := H
  refine Y1 <| Y5 (.ref p 0 0) <| Yr (0) f74 <| Yp 1 (0) f74 <| Y00 l76 <| Yl (.int .i64 (x75 + 1)) ⟨trivial, trivial, rfl, c77⟩ <| Yr (0) f74 <| Yp 1 (0) f74 <| Y9 (Y17 w79) <| Y7 <| Y6 ?_
  obtain ⟨f80, s81, n82, l83, h84, x85, k86, r87, h88, w89, h90, s92, n93, w91, f94, f97, h95, w96, f98, f99, l100, l101, H⟩ := H
  refine Y28 Tryd.checked.mixed (by kernel_rfl) [.ref r1 v2 o3, .ref r1 v2 o3, .ref r1 v2 o3, .ref r1 v2 (o3 + 1), s81, .ref p 0 0, .int .i64 x85, .rsl r87 0 0 1, s92, .ref r1 v2 o3, .ref r1 v2 (o3 + 1), .any] [6, 7, 8, 11] [h78, h84, h88, h90, h95] h95 (by kernel_rfl) (by kernel_rfl) rfl rfl ?_ ?_
  ·refine Ym (.ref r1 v2 o3) <| Ym (.ref r1 v2 o3) <| Y37 0 1 2 (Yj (o3) f80) (Yj (o3) f98) (Yj (o3) f99) <| Y37 0 1 2 (Yk 1 (o3) f80) (Yk 1 (o3) f98) (Yk 1 (o3) f99) <| Y37 0 1 2 (Yq l83) (Yq l100) (Yq l101) <| Ym (.ref p 0 0) <| Y1n 0 (Y43 k86 nc1) <| Y1n 1 (Y2g ([(0, .int .i64 x85)]) El42 w89 (al_ ⟨⟨⟨trivial, rfl⟩, Y44 rfl⟩, trivial⟩) (al_ ⟨rfl, trivial⟩)) <| Y1n 2 (Y3g (.rsl r87 0 0 1) El42 (SrcA.rsl (m := 1) (by kernel_rfl) (Nw.at w89) rfl rfl rfl (Xc rfl)) w91) ?_
   exact Yc 3 (Yj (o3) f94) <| Yc 3 (Yk 1 (o3) f94) <| Y1n 3 (Y35 w96 n93 f97) (Y1m)
  refine Y6 <| Y6 <| Y1 <| Y5 (.int .u8 x6) <| Yl (.bool ((x6 : Int) != 41)) ⟨trivial, trivial, rfl⟩ <| Y7 ?_
  rcases X1 ((x6 : Int) != 41) with hb102 | hb102
  ·have H := H.1 hb102
   exact Y0l hb102 <| Y6 <| Y1 <| Ye (.int .i64 0) <| Y7 <| Y10 (Yw (Qp := Qp) rfl H)
  ·have H := H.2 hb102
   refine Y0s hb102 <| Y0p <| Y6 ?_
   obtain ⟨f103, s104, n105, l106, n107, g108, c109, s110, n111, i112, f115, h113, w114, H⟩ := H
   refine Y28 Tryd.checked.mixed (by kernel_rfl) [.ref p 0 0, .ref p 0 0, .ref p 0 0, .ref p 0 3, s104, .ref p 0 0, .ref p 0 0, .ref p 0 3, s104, .int .i64 ((n107 : Nat) : Int), .int .i64 (((n107 : Nat) : Int) - 1), s110, .ref p 0 0, .ref p 0 3, .any] [14] [h95, h113] h113 (by kernel_rfl) (by kernel_rfl) rfl rfl ?_ ?_
   ·exact Ym (.ref p 0 0) <| Ym (.ref p 0 0) <| Yc 0 (Yj (0) f103) <| Yc 0 (Yk 3 (0) f103) <| Yc 0 (Yq l106) <| Ym (.ref p 0 0) <| Yc 0 (Yj (0) f103) <| Yc 0 (Yk 3 (0) f103) <| Yc 0 (Yq l106) <| Yc 0 (Y3f g108) <| Y0o (fun _ => (Yn (av := .int .i64 (((n107 : Nat) : Int) - 1)) ⟨trivial, trivial, rfl, c109⟩ (by kernel_rfl))) <| Yc 0 (Y5k i112) <| Yc 0 (Yj (0) f103) <| Yc 0 (Yk 3 (0) f103) <| Y1n 0 (Y35 w114 n111 f115) (Y1m)
   refine Y6 ?_
   obtain ⟨f116, x117, l118, c119, x120, l121, c122, s123, n124, l125, h126, x127, k128, h129, k130, H⟩ := H
   refine Y28 Tryd.checked.mixed (by kernel_rfl) [.ref p 0 0, .ref p 0 0, .ref r1 v2 o3, .ref r1 v2 o3, .ref r1 v2 (o3 + 5), .int .i64 x117, .int .i64 (8 * x117), .ref r1 v2 o3, .ref r1 v2 o3, .ref r1 v2 (o3 + 4), .int .i64 x120, .int .i64 ((8 * x117) + x120), .ref r1 v2 o3, .ref r1 v2 o3, .ref r1 v2 (o3 + 1), s123, .int .i64 x127, .tup []] [16, 17] [h113, h126, h129] h129 (by kernel_rfl) (by kernel_rfl) rfl rfl ?_ ?_
   ·refine Ym (.ref p 0 0) <| Ym (.ref p 0 0) <| Ym (.ref r1 v2 o3) <| Yc 0 (Yj (o3) f116) <| Yc 0 (Yk 5 (o3) f116) <| Yc 0 (Yq l118) <| Y0o (fun _ => (Yn (av := .int .i64 (8 * x117)) ⟨trivial, trivial, rfl, c119⟩ (by kernel_rfl))) <| Ym (.ref r1 v2 o3) <| Yc 0 (Yj (o3) f116) <| Yc 0 (Yk 4 (o3) f116) <| Yc 0 (Yq l121) <| Y0o (fun _ => (Yn (av := .int .i64 ((8 * x117) + x120)) ⟨trivial, trivial, rfl, c122⟩ (by kernel_rfl))) <| Ym (.ref r1 v2 o3) <| Yc 0 (Yj (o3) f116) ?_
    exact Yc 0 (Yk 1 (o3) f116) <| Yc 0 (Yq l125) <| Y1n 0 (Y43 k128 (al_ ⟨⟨trivial, rfl⟩, ⟨trivial, rfl⟩, ⟨trivial, rfl⟩, n124, trivial⟩)) <| Y1n 1 (Y43 k130 nc2) (Y1m)
   exact Y6 <| Y1 <| Ye (.int .i64 1) <| Y7 <| Y10 (Yw (Qp := Qp) rfl H)
 ·have H := H.2 hb11
  refine Y0s hb11 <| Y0p <| Y6 ?_
  obtain ⟨x131, l132, c133, H⟩ := H
  refine Y28 Tryd.checked.mixed (by kernel_rfl) [.ref r1 v2 o3, .ref r1 v2 o3, .ref r1 v2 (o3 + 4), .int .i64 x9, .bool false, .bool false, .ref r1 v2 o3, .ref r1 v2 o3, .ref r1 v2 (o3 + 6), .int .i64 x131, .int .i64 (x131 + 1), .ref r1 v2 o3, .ref r1 v2 o3, .ref r1 v2 (o3 + 4), .int .i64 x9, .bool ((x131 + 1 : Int) == x9), .bool ((x131 + 1 : Int) == x9), .bool ((x131 + 1 : Int) == x9)] [] [h5] h5 (by kernel_rfl) (by kernel_rfl) rfl rfl ?_ ?_
  ·refine Ym (.ref r1 v2 o3) <| Yc 0 (Yj (o3) f8) <| Yc 0 (Yk 4 (o3) f8) <| Yc 0 (Yq l10) <| Y0o (fun _ => (Y3e ⟨trivial, trivial, rfl⟩ hb11)) <| Ym (.bool false) <| Ym (.ref r1 v2 o3) <| Yc 0 (Yj (o3) f8) <| Yc 0 (Yk 6 (o3) f8) <| Yc 0 (Yq l132) <| Y0o (fun _ => (Yn (av := .int .i64 (x131 + 1)) ⟨trivial, trivial, rfl, c133⟩ (by kernel_rfl))) <| Ym (.ref r1 v2 o3) <| Yc 0 (Yj (o3) f8) <| Yc 0 (Yk 4 (o3) f8) <| Yc 0 (Yq l10) ?_
   exact Y0o (fun _ => (Yn (av := .bool ((x131 + 1 : Int) == x9)) ⟨trivial, trivial, rfl⟩ (by kernel_rfl))) <| Y0o (fun _ => (Y27 (.bool ((x131 + 1 : Int) == x9)))) <| Y0o (fun _ => (Y5h (s := .bool ((x131 + 1 : Int) == x9)) rfl (by kernel_rfl) ⟨trivial, rfl⟩)) (Y1m)
  obtain ⟨J135, HR136, H⟩ := H
  refine Y5b (fun e h' => ∃ y138, Env.le e [(0, .ref p 0 0), (2, .int .i64 0), (3, .ref r1 v2 o3), (4, .int .u8 x6), (5, .int .i64 x9), (6, .bool ((x131 + 1 : Int) == x9)), (16, .bool ((x9 : Int) == 0)), (36, .bool y138)] ∧ J135 y138 h') ?_ ?_
  ·skip
   refine Y12 ?_
   obtain ⟨J139, HR140, H⟩ := H
   refine Y5b (fun e h' => ∃ y142, Env.le e [(0, .ref p 0 0), (2, .int .i64 0), (3, .ref r1 v2 o3), (4, .int .u8 x6), (5, .int .i64 x9), (6, .bool ((x131 + 1 : Int) == x9)), (16, .bool ((x9 : Int) == 0)), (36, .bool y142)] ∧ h5 = h' ∧ J139 y142) ?_ ?_
   ·skip
    rcases X1 ((x6 : Int) == 44) with hb143 | hb143
    ·have H := H.1 hb143
     refine Y1 <| Y5 (.int .u8 x6) <| Y9 (Y4q ⟨trivial, trivial, rfl⟩ hb143) <| Y5 (.bool true) <| Y5 (.ref r1 v2 o3) <| Yr (o3) f8 <| Yp 6 (o3) f8 <| Y00 l132 <| Yl (.int .i64 (x131 + 1)) ⟨trivial, trivial, rfl, c133⟩ <| Y5 (.int .i64 x9) <| Yl (.bool (decide ((x131 + 1 : Int) < x9))) ⟨trivial, trivial, rfl⟩ <| Y9 (Y42 (s := .bool (decide ((x131 + 1 : Int) < x9))) rfl (by kernel_rfl) (by kernel_rfl) ⟨trivial, rfl⟩) <| Ye (.bool (decide ((x131 + 1 : Int) < x9))) <| Y7 ?_
     exact ⟨(decide ((x131 + 1 : Int) < x9)), Ya (by kernel_rfl), rfl, H⟩
    ·have H := H.2 hb143
     exact Y1 <| Y5 (.int .u8 x6) <| Y9 (Y3e ⟨trivial, trivial, rfl⟩ hb143) <| Y5 (.bool false) <| Yv <| Yv <| Yv <| Yv <| Yv <| Yv <| Yv <| Y9 (Y27 (.bool false)) <| Ye (.bool false) <| Y7 (⟨false, Ya (by kernel_rfl), rfl, H⟩)
   clear H
   rintro _ _ ⟨y142, hle, rfl, HJ141⟩
   have H := HR140 y142 HJ141
   refine Y19 _ hle ?_
   rcases X1 (y142) with hb144 | hb144
   ·have H := H.1 hb144
    refine Y0l hb144 ?_
    obtain ⟨h145, w146, H⟩ := H
    exact Y1 <| Y5 (.ref r1 v2 o3) <| Yr (o3) f8 <| Yp 6 (o3) f8 <| Y00 l132 <| Yl (.int .i64 (x131 + 1)) ⟨trivial, trivial, rfl, c133⟩ <| Yr (o3) f8 <| Yp 6 (o3) f8 <| Y9 (Y17 w146) <| Y7 (⟨y142, Ya (by kernel_rfl), H⟩)
   ·have H := H.2 hb144
    refine Y0s hb144 <| Y6 ?_
    obtain ⟨J147, HR148, H⟩ := H
    refine Y5b (fun e h' => ∃ y150, Env.le e [(0, .ref p 0 0), (2, .int .i64 0), (3, .ref r1 v2 o3), (4, .int .u8 x6), (5, .int .i64 x9), (6, .bool ((x131 + 1 : Int) == x9)), (16, .bool ((x9 : Int) == 0)), (36, .bool y142), (55, .bool y150)] ∧ h5 = h' ∧ J147 y150) ?_ ?_
    ·skip
     rcases X1 ((x6 : Int) == 59) with hb151 | hb151
     ·have H := H.1 hb151
      rcases X1 ((x131 + 1 : Int) == x9) with hb152 | hb152
      ·have H := H.1 hb152
       obtain ⟨x153, l154, c155, H⟩ := H
       refine Y1 <| Y5 (.int .u8 x6) <| Y9 (Y4q ⟨trivial, trivial, rfl⟩ hb151) <| Y5 (.bool true) <| Y9 (Y5i (Y5v (s := .bool ((x131 + 1 : Int) == x9)) rfl (by kernel_rfl) ⟨trivial, rfl⟩) hb152) <| Y9 (Y4f (.bool true)) <| Y5 (.bool true) <| Y5 (.ref r1 v2 o3) <| Yr (o3) f8 <| Yp 5 (o3) f8 <| Y00 l154 <| Yl (.int .i64 (x153 + 1)) ⟨trivial, trivial, rfl, c155⟩ <| Yl (.bool (decide ((x153 + 1 : Int) < 4))) ⟨trivial, trivial, rfl⟩ ?_
       exact Y9 (Y42 (s := .bool (decide ((x153 + 1 : Int) < 4))) rfl (by kernel_rfl) (by kernel_rfl) ⟨trivial, rfl⟩) <| Ye (.bool (decide ((x153 + 1 : Int) < 4))) <| Y7 (⟨(decide ((x153 + 1 : Int) < 4)), Ya (by kernel_rfl), rfl, H⟩)
      ·have H := H.2 hb152
       exact Y1 <| Y5 (.int .u8 x6) <| Y9 (Y4q ⟨trivial, trivial, rfl⟩ hb151) <| Y5 (.bool true) <| Y9 (Y5j (Y5v (s := .bool ((x131 + 1 : Int) == x9)) rfl (by kernel_rfl) ⟨trivial, rfl⟩) hb152) <| Y9 (Y4f (.bool false)) <| Y5 (.bool false) <| Yv <| Yv <| Yv <| Yv <| Yv <| Yv <| Y9 (Y27 (.bool false)) <| Ye (.bool false) <| Y7 (⟨false, Ya (by kernel_rfl), rfl, H⟩)
     ·have H := H.2 hb151
      exact Y1 <| Y5 (.int .u8 x6) <| Y9 (Y3e ⟨trivial, trivial, rfl⟩ hb151) <| Y5 (.bool false) <| Yv <| Y9 (Y27 (.bool false)) <| Y5 (.bool false) <| Yv <| Yv <| Yv <| Yv <| Yv <| Yv <| Y9 (Y27 (.bool false)) <| Ye (.bool false) <| Y7 (⟨false, Ya (by kernel_rfl), rfl, H⟩)
    clear H
    rintro _ _ ⟨y150, hle, rfl, HJ149⟩
    have H := HR148 y150 HJ149
    refine Y19 _ hle ?_
    rcases X1 (y150) with hb156 | hb156
    ·have H := H.1 hb156
     refine Y0l hb156 <| Y0p <| Y0l hb156 <| Y6 ?_
     obtain ⟨h157, w158, f159, h160, w161, H⟩ := H
     refine Y1 <| Y5 (.ref r1 v2 o3) <| Y5 (.ref r1 v2 o3) <| Y5 (.ref r1 v2 o3) <| Yr (o3) f8 <| Yp 6 (o3) f8 <| Y00 l132 <| Yl (.int .i64 (x131 + 1)) ⟨trivial, trivial, rfl, c133⟩ <| Yr (o3) f8 <| Yp 4 (o3) f8 <| Y9 (Y17 w158) <| Yr (o3) f159 <| Yp 6 (o3) f159 <| Y9 (Y17 w161) <| Y7 ?_
     obtain ⟨f162, x163, l164, c165, h166, w167, H⟩ := H
     exact Y1 <| Y5 (.ref r1 v2 o3) <| Yr (o3) f162 <| Yp 5 (o3) f162 <| Y00 l164 <| Yl (.int .i64 (x163 + 1)) ⟨trivial, trivial, rfl, c165⟩ <| Yr (o3) f162 <| Yp 5 (o3) f162 <| Y9 (Y17 w167) <| Y7 (⟨y142, Ya (by kernel_rfl), H⟩)
    ·have H := H.2 hb156
     refine Y0s hb156 ?_
     rcases X1 ((x6 : Int) == 41) with hb168 | hb168
     ·have H := H.1 hb168
      refine Y1 <| Y5 (.int .u8 x6) <| Y9 (Y4q ⟨trivial, trivial, rfl⟩ hb168) <| Y5 (.bool true) <| Y5 (.bool ((x131 + 1 : Int) == x9)) <| Y9 (Y4f (.bool ((x131 + 1 : Int) == x9))) <| Ye (.bool ((x131 + 1 : Int) == x9)) <| Y7 ?_
      rcases X1 ((x131 + 1 : Int) == x9) with hb169 | hb169
      ·have H := H.1 hb169
       refine Y0l hb169 <| Y6 ?_
       obtain ⟨h170, w171, f172, h173, w174, H⟩ := H
       refine Y1 <| Y5 (.ref r1 v2 o3) <| Y5 (.ref r1 v2 o3) <| Y5 (.ref r1 v2 o3) <| Yr (o3) f8 <| Yp 6 (o3) f8 <| Y00 l132 <| Yl (.int .i64 (x131 + 1)) ⟨trivial, trivial, rfl, c133⟩ <| Yr (o3) f8 <| Yp 4 (o3) f8 <| Y9 (Y17 w171) <| Yr (o3) f172 <| Yp 6 (o3) f172 <| Y9 (Y17 w174) <| Y7 ?_
       obtain ⟨f175, x176, l177, c178, h179, w180, H⟩ := H
       exact Y1 <| Y5 (.ref r1 v2 o3) <| Yr (o3) f175 <| Yp 5 (o3) f175 <| Y00 l177 <| Yl (.int .i64 (x176 + 1)) ⟨trivial, trivial, rfl, c178⟩ <| Yr (o3) f175 <| Yp 5 (o3) f175 <| Y9 (Y17 w180) <| Y7 (⟨y142, Ya (by kernel_rfl), H⟩)
      ·have H := H.2 hb169
       refine Y0s hb169 ?_
       rcases H with H | H
       ·skip
        obtain ⟨h184, k185, H⟩ := H
        exact Y1 <| Y5 (.ref p 0 0) <| Y01 k185 nc1 <| Y7 (⟨y142, Ya (by kernel_rfl), H⟩)
       ·skip
        obtain ⟨h181, ch182, k183, H⟩ := H
        exact Y1 <| Y5 (.ref p 0 0) <| Y2m k183 nc1 (H)
     ·have H := H.2 hb168
      refine Y1 <| Y5 (.int .u8 x6) <| Y9 (Y3e ⟨trivial, trivial, rfl⟩ hb168) <| Y5 (.bool false) <| Yv <| Y9 (Y27 (.bool false)) <| Ye (.bool false) <| Y7 (Y52 (b := false) (by kernel_rfl) (fun e => by cases e) (fun _ => ?_))
      rcases H with H | H
      ·skip
       obtain ⟨h189, k190, H⟩ := H
       exact Y1 <| Y5 (.ref p 0 0) <| Y01 k190 nc1 <| Y7 (⟨y142, Ya (by kernel_rfl), H⟩)
      ·skip
       obtain ⟨h186, ch187, k188, H⟩ := H
       exact Y1 <| Y5 (.ref p 0 0) <| Y2m k188 nc1 (H)
  clear H
  rintro _ h134 ⟨y138, hle, HJ137⟩
  have H := HR136 y138 h134 HJ137
  refine Y19 _ hle <| Y6 ?_
  obtain ⟨f191, x192, l193, c194, h195, w196, H⟩ := H
  refine Y1 <| Y5 (.ref p 0 0) <| Yr (0) f191 <| Yp 1 (0) f191 <| Y00 l193 <| Yl (.int .i64 (x192 + 1)) ⟨trivial, trivial, rfl, c194⟩ <| Yr (0) f191 <| Yp 1 (0) f191 <| Y9 (Y17 w196) <| Y7 <| Y6 ?_
  obtain ⟨f197, s198, n199, l200, h201, x202, k203, r204, h205, w206, h207, s209, n210, w208, f211, f214, h212, w213, f215, f216, l217, l218, H⟩ := H
  refine Y28 Tryd.checked.mixed (by kernel_rfl) [.ref r1 v2 o3, .ref r1 v2 o3, .ref r1 v2 o3, .ref r1 v2 (o3 + 1), s198, .ref p 0 0, .int .i64 x202, .rsl r204 0 0 1, s209, .ref r1 v2 o3, .ref r1 v2 (o3 + 1), .any] [6, 7, 8, 11] [h195, h201, h205, h207, h212] h212 (by kernel_rfl) (by kernel_rfl) rfl rfl ?_ ?_
  ·refine Ym (.ref r1 v2 o3) <| Ym (.ref r1 v2 o3) <| Y37 0 1 2 (Yj (o3) f197) (Yj (o3) f215) (Yj (o3) f216) <| Y37 0 1 2 (Yk 1 (o3) f197) (Yk 1 (o3) f215) (Yk 1 (o3) f216) <| Y37 0 1 2 (Yq l200) (Yq l217) (Yq l218) <| Ym (.ref p 0 0) <| Y1n 0 (Y43 k203 nc1) <| Y1n 1 (Y2g ([(0, .int .i64 x202)]) El42 w206 (al_ ⟨⟨⟨trivial, rfl⟩, Y44 rfl⟩, trivial⟩) (al_ ⟨rfl, trivial⟩)) ?_
   exact Y1n 2 (Y3g (.rsl r204 0 0 1) El42 (SrcA.rsl (m := 1) (by kernel_rfl) (Nw.at w206) rfl rfl rfl (Xc rfl)) w208) <| Yc 3 (Yj (o3) f211) <| Yc 3 (Yk 1 (o3) f211) <| Y1n 3 (Y35 w213 n210 f214) (Y1m)
  refine Y6 <| Y6 <| Y1 <| Y5 (.int .u8 x6) <| Yl (.bool ((x6 : Int) != 41)) ⟨trivial, trivial, rfl⟩ <| Y7 ?_
  rcases X1 ((x6 : Int) != 41) with hb219 | hb219
  ·have H := H.1 hb219
   exact Y0l hb219 <| Y6 <| Y1 <| Ye (.int .i64 0) <| Y7 <| Y10 (Yw (Qp := Qp) rfl H)
  ·have H := H.2 hb219
   refine Y0s hb219 <| Y0p <| Y6 ?_
   obtain ⟨f220, s221, n222, l223, n224, g225, c226, s227, n228, i229, f232, h230, w231, H⟩ := H
   refine Y28 Tryd.checked.mixed (by kernel_rfl) [.ref p 0 0, .ref p 0 0, .ref p 0 0, .ref p 0 3, s221, .ref p 0 0, .ref p 0 0, .ref p 0 3, s221, .int .i64 ((n224 : Nat) : Int), .int .i64 (((n224 : Nat) : Int) - 1), s227, .ref p 0 0, .ref p 0 3, .any] [14] [h212, h230] h230 (by kernel_rfl) (by kernel_rfl) rfl rfl ?_ ?_
   ·exact Ym (.ref p 0 0) <| Ym (.ref p 0 0) <| Yc 0 (Yj (0) f220) <| Yc 0 (Yk 3 (0) f220) <| Yc 0 (Yq l223) <| Ym (.ref p 0 0) <| Yc 0 (Yj (0) f220) <| Yc 0 (Yk 3 (0) f220) <| Yc 0 (Yq l223) <| Yc 0 (Y3f g225) <| Y0o (fun _ => (Yn (av := .int .i64 (((n224 : Nat) : Int) - 1)) ⟨trivial, trivial, rfl, c226⟩ (by kernel_rfl))) <| Yc 0 (Y5k i229) <| Yc 0 (Yj (0) f220) <| Yc 0 (Yk 3 (0) f220) <| Y1n 0 (Y35 w231 n228 f232) (Y1m)
   refine Y6 ?_
   obtain ⟨f233, x234, l235, c236, x237, l238, c239, s240, n241, l242, h243, x244, k245, h246, k247, H⟩ := H
   refine Y28 Tryd.checked.mixed (by kernel_rfl) [.ref p 0 0, .ref p 0 0, .ref r1 v2 o3, .ref r1 v2 o3, .ref r1 v2 (o3 + 5), .int .i64 x234, .int .i64 (8 * x234), .ref r1 v2 o3, .ref r1 v2 o3, .ref r1 v2 (o3 + 4), .int .i64 x237, .int .i64 ((8 * x234) + x237), .ref r1 v2 o3, .ref r1 v2 o3, .ref r1 v2 (o3 + 1), s240, .int .i64 x244, .tup []] [16, 17] [h230, h243, h246] h246 (by kernel_rfl) (by kernel_rfl) rfl rfl ?_ ?_
   ·refine Ym (.ref p 0 0) <| Ym (.ref p 0 0) <| Ym (.ref r1 v2 o3) <| Yc 0 (Yj (o3) f233) <| Yc 0 (Yk 5 (o3) f233) <| Yc 0 (Yq l235) <| Y0o (fun _ => (Yn (av := .int .i64 (8 * x234)) ⟨trivial, trivial, rfl, c236⟩ (by kernel_rfl))) <| Ym (.ref r1 v2 o3) <| Yc 0 (Yj (o3) f233) <| Yc 0 (Yk 4 (o3) f233) <| Yc 0 (Yq l238) <| Y0o (fun _ => (Yn (av := .int .i64 ((8 * x234) + x237)) ⟨trivial, trivial, rfl, c239⟩ (by kernel_rfl))) <| Ym (.ref r1 v2 o3) <| Yc 0 (Yj (o3) f233) ?_
    exact Yc 0 (Yk 1 (o3) f233) <| Yc 0 (Yq l242) <| Y1n 0 (Y43 k245 (al_ ⟨⟨trivial, rfl⟩, ⟨trivial, rfl⟩, ⟨trivial, rfl⟩, n241, trivial⟩)) <| Y1n 1 (Y43 k247 nc2) (Y1m)
   exact Y6 <| Y1 <| Ye (.int .i64 1) <| Y7 <| Y10 (Yw (Qp := Qp) rfl H)
end Go.Proofs.YtkgfbpbndmklnaaDoor
