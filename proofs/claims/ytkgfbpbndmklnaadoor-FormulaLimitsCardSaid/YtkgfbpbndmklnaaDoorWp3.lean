/- Own work. -/
import Derived.Test.YtkgfbpbndmklnaaDoorChecked
import Derived.Test.YtkgfbpbndmklnaaDoorWp5
set_option linter.unusedSimpArgs false
set_option linter.unusedVariables false
set_option maxRecDepth 100000
namespace Go.Proofs.YtkgfbpbndmklnaaDoor
open Go.Abs
def pre_follow (h : Hp) (p : Nat) (Q : Hp → AV → Prop) (Qp : Hp → List PanicEntry → Prop) : Prop :=
 ∃ r1 v2 o3, (CallOK Tryd.prog 66 [.ref p 0 0] h h (.ref r1 v2 o3)) ∧ ∃ h5 x6, (CallOK Tryd.prog 59 [.ref p 0 0] h h5 (.int .u8 x6)) ∧ ∃ r8 h9, (Nw h5 r8 ⟨0, true, 3, 1, [.int .i64 2, .int .i64 3, .int .i64 4, .int .i64 5]⟩ h9) ∧ (Has h9 r8 0) ∧ (HasK h9 r8 0 1) ∧ (Ld h9 r8 0 0 (.int .i64 2)) ∧ (CallOK Tryd.prog 45 [.int .i64 2] h9 h9 (.int .u8 43)) ∧ ((((x6 : Int) == 43) = true → (Has h9 p 0) ∧ ∃ x17, (Ld h9 p 0 1 (.int .i64 x17)) ∧ (okA .i64 (x17 + 1 : Int)) ∧ ∃ h20, (St h9 p 0 1 (.int .i64 (x17 + 1)) h20) ∧ ∃ x22, (CallOK Tryd.prog 68 [.int .i64 2] h20 h20 (.int .i64 x22)) ∧ ∃ h24, (CallOK Tryd.prog 67 [.ref p 0 0, .int .i64 x22] h20 h24 (.tup [])) ∧ (Has h24 r1 v2) ∧ ∃ s27, (NC s27) ∧ (Ld h24 r1 v2 (o3 + 3) s27) ∧ ∃ r30 h31, (Nw h24 r30 ⟨0, true, 3, 1, [.int .i64 2]⟩ h31) ∧ ∃ h33 s35, (NC s35) ∧ (App h31 s27 3 1 8 1 [.int .i64 2] h33 s35) ∧ (Has h33 r1 v2) ∧ (oneA h33 s35) ∧ ∃ h38, (St h33 r1 v2 (o3 + 3) s35 h38) ∧ (Q h38 (.int .i64 0))) ∧ (((x6 : Int) == 43) = false → (Ld h9 r8 0 1 (.int .i64 3)) ∧ (CallOK Tryd.prog 45 [.int .i64 3] h9 h9 (.int .u8 45)) ∧ ((((x6 : Int) == 45) = true → (Has h9 p 0) ∧ ∃ x45, (Ld h9 p 0 1 (.int .i64 x45)) ∧ (okA .i64 (x45 + 1 : Int)) ∧ ∃ h48, (St h9 p 0 1 (.int .i64 (x45 + 1)) h48) ∧ ∃ x50, (CallOK Tryd.prog 68 [.int .i64 3] h48 h48 (.int .i64 x50)) ∧ ∃ h52, (CallOK Tryd.prog 67 [.ref p 0 0, .int .i64 x50] h48 h52 (.tup [])) ∧ (Has h52 r1 v2) ∧ ∃ s55, (NC s55) ∧ (Ld h52 r1 v2 (o3 + 3) s55) ∧ ∃ r58 h59, (Nw h52 r58 ⟨0, true, 3, 1, [.int .i64 3]⟩ h59) ∧ ∃ h61 s63, (NC s63) ∧ (App h59 s55 3 1 8 1 [.int .i64 3] h61 s63) ∧ (Has h61 r1 v2) ∧ (oneA h61 s63) ∧ ∃ h66, (St h61 r1 v2 (o3 + 3) s63 h66) ∧ (Q h66 (.int .i64 0))) ∧ (((x6 : Int) == 45) = false → (Ld h9 r8 0 2 (.int .i64 4)) ∧ (CallOK Tryd.prog 45 [.int .i64 4] h9 h9 (.int .u8 42)) ∧ ((((x6 : Int) == 42) = true → (Has h9 p 0) ∧ ∃ x73, (Ld h9 p 0 1 (.int .i64 x73)) ∧ (okA .i64 (x73 + 1 : Int)) ∧ ∃ h76, (St h9 p 0 1 (.int .i64 (x73 + 1)) h76) ∧ ∃ x78, (CallOK Tryd.prog 68 [.int .i64 4] h76 h76 (.int .i64 x78)) ∧ ∃ h80, (CallOK Tryd.prog 67 [.ref p 0 0, .int .i64 x78] h76 h80 (.tup [])) ∧ (Has h80 r1 v2) ∧ ∃ s83, (NC s83) ∧ (Ld h80 r1 v2 (o3 + 3) s83) ∧ ∃ r86 h87, (Nw h80 r86 ⟨0, true, 3, 1, [.int .i64 4]⟩ h87) ∧ ∃ h89 s91, (NC s91) ∧ (App h87 s83 3 1 8 1 [.int .i64 4] h89 s91) ∧ (Has h89 r1 v2) ∧ (oneA h89 s91) ∧ ∃ h94, (St h89 r1 v2 (o3 + 3) s91 h94) ∧ (Q h94 (.int .i64 0))) ∧ (((x6 : Int) == 42) = false → (Ld h9 r8 0 3 (.int .i64 5)) ∧ (CallOK Tryd.prog 45 [.int .i64 5] h9 h9 (.int .u8 61)) ∧ ((((x6 : Int) == 61) = true → (Has h9 p 0) ∧ ∃ x101, (Ld h9 p 0 1 (.int .i64 x101)) ∧ (okA .i64 (x101 + 1 : Int)) ∧ ∃ h104, (St h9 p 0 1 (.int .i64 (x101 + 1)) h104) ∧ ∃ x106, (CallOK Tryd.prog 68 [.int .i64 5] h104 h104 (.int .i64 x106)) ∧ ∃ h108, (CallOK Tryd.prog 67 [.ref p 0 0, .int .i64 x106] h104 h108 (.tup [])) ∧ (Has h108 r1 v2) ∧ ∃ s111, (NC s111) ∧ (Ld h108 r1 v2 (o3 + 3) s111) ∧ ∃ r114 h115, (Nw h108 r114 ⟨0, true, 3, 1, [.int .i64 5]⟩ h115) ∧ ∃ h117 s119, (NC s119) ∧ (App h115 s111 3 1 8 1 [.int .i64 5] h117 s119) ∧ (Has h117 r1 v2) ∧ (oneA h117 s119) ∧ ∃ h122, (St h117 r1 v2 (o3 + 3) s119 h122) ∧ (Q h122 (.int .i64 0))) ∧ (((x6 : Int) == 61) = false → (Has h9 r1 v2) ∧ ∃ x126, (Ld h9 r1 v2 (o3 + 0) (.int .i64 x126)) ∧ ((((x126 : Int) == (-1)) = true → (Has h9 p 0) ∧ ∃ x130, (Ld h9 p 0 1 (.int .i64 x130)) ∧ ∃ t132, (Ld h9 p 0 0 (.string t132)) ∧ (((decide ((x130 : Int) < ((t132).size : Nat))) = true → ((∃ h138, (CallOK Tryd.prog 65 [.ref p 0 0] h9 h138 (.tup [])) ∧ (Q h138 (.int .i64 2))) ∨ (∃ h135, ∃ (ch136 : List PanicEntry), (Y03 Tryd.prog 65 [.ref p 0 0] h9 h135 ch136) ∧ (Qp h135 ch136)))) ∧ ((decide ((x130 : Int) < ((t132).size : Nat))) = false → (Q h9 (.int .i64 2))))) ∧ (((x126 : Int) == (-1)) = false → ((((x126 : Int) == 13) = true → ((∃ h144 x145, (CallOK Tryd.prog 69 [.ref p 0 0] h9 h144 (.int .i64 x145)) ∧ (Q h144 (.int .i64 x145))) ∨ (∃ h141, ∃ (ch142 : List PanicEntry), (Y03 Tryd.prog 69 [.ref p 0 0] h9 h141 ch142) ∧ (Qp h141 ch142)))) ∧ (((x126 : Int) == 13) = false → ∃ (J147 : Bool → Prop), (∀ y150, J147 y150 → ((((y150) = true → ∃ s154, (NC s154) ∧ (Ld h9 r1 v2 (o3 + 1) s154) ∧ ∃ n157, (Len h9 s154 n157) ∧ (okA .i64 (((n157 : Nat) : Int) + 1 : Int)) ∧ (((decide ((((n157 : Nat) : Int) + 1 : Int) < 2)) = true → ((∃ h164, (CallOK Tryd.prog 70 [.ref p 0 0, .int .u8 44] h9 h164 (.tup [])) ∧ (Has h164 r1 v2) ∧ ∃ s167, (NC s167) ∧ (Ld h164 r1 v2 (o3 + 1) s167) ∧ ∃ h170 x171, (CallOK Tryd.prog 51 [.ref p 0 0] h164 h170 (.int .i64 x171)) ∧ ∃ r173 h174, (Nw h170 r173 ⟨0, true, 3, 1, [.int .i64 x171]⟩ h174) ∧ ∃ h176 s178, (NC s178) ∧ (App h174 s167 3 1 8 1 [.int .i64 x171] h176 s178) ∧ (Has h176 r1 v2) ∧ (oneA h176 s178) ∧ ∃ h181, (St h176 r1 v2 (o3 + 1) s178 h181) ∧ (Has h170 r1 v2) ∧ (Has h174 r1 v2) ∧ (Ld h170 r1 v2 (o3 + 1) s167) ∧ (Ld h174 r1 v2 (o3 + 1) s167) ∧ (Q h181 (.int .i64 0))) ∨ (∃ h161, ∃ (ch162 : List PanicEntry), (Y03 Tryd.prog 70 [.ref p 0 0, .int .u8 44] h9 h161 ch162) ∧ (Qp h161 ch162)))) ∧ ((decide ((((n157 : Nat) : Int) + 1 : Int) < 2)) = false → ((∃ h191, (CallOK Tryd.prog 70 [.ref p 0 0, .int .u8 41] h9 h191 (.tup [])) ∧ (Has h191 r1 v2) ∧ ∃ s194, (NC s194) ∧ (Ld h191 r1 v2 (o3 + 1) s194) ∧ ∃ h197 x198, (CallOK Tryd.prog 51 [.ref p 0 0] h191 h197 (.int .i64 x198)) ∧ ∃ r200 h201, (Nw h197 r200 ⟨0, true, 3, 1, [.int .i64 x198]⟩ h201) ∧ ∃ h203 s205, (NC s205) ∧ (App h201 s194 3 1 8 1 [.int .i64 x198] h203 s205) ∧ (Has h203 r1 v2) ∧ (oneA h203 s205) ∧ ∃ h208, (St h203 r1 v2 (o3 + 1) s205 h208) ∧ (Has h197 r1 v2) ∧ (Has h201 r1 v2) ∧ (Ld h197 r1 v2 (o3 + 1) s194) ∧ (Ld h201 r1 v2 (o3 + 1) s194) ∧ (Has h208 p 0) ∧ ∃ s216, (NC s216) ∧ (Ld h208 p 0 3 s216) ∧ ∃ n219, (Len h208 s216 n219) ∧ (okA .i64 (((n219 : Nat) : Int) - 1 : Int)) ∧ ∃ s222, (NC s222) ∧ (Cut h208 s216 7 (((n219 : Nat) : Int) - 1 : Int) s222) ∧ (oneA h208 s222) ∧ ∃ h225, (St h208 p 0 3 s222 h225) ∧ (Has h225 r1 v2) ∧ ∃ x229, (Ld h225 r1 v2 (o3 + 0) (.int .i64 x229)) ∧ ∃ s231, (NC s231) ∧ (Ld h225 r1 v2 (o3 + 1) s231) ∧ ∃ h234 x235, (CallOK Tryd.prog 63 [.ref p 0 0, .int .i64 x229, .int .i64 0, s231] h225 h234 (.int .i64 x235)) ∧ ∃ h237, (CallOK Tryd.prog 60 [.ref p 0 0, .int .i64 x235] h234 h237 (.tup [])) ∧ (Q h237 (.int .i64 1))) ∨ (∃ h188, ∃ (ch189 : List PanicEntry), (Y03 Tryd.prog 70 [.ref p 0 0, .int .u8 41] h9 h188 ch189) ∧ (Qp h188 ch189)))))) ∧ ((y150) = false → ∃ s239, (NC s239) ∧ (Ld h9 r1 v2 (o3 + 1) s239) ∧ ∃ n242, (Len h9 s239 n242) ∧ (okA .i64 (((n242 : Nat) : Int) + 1 : Int)) ∧ (((decide ((((n242 : Nat) : Int) + 1 : Int) < 1)) = true → ((∃ h249, (CallOK Tryd.prog 70 [.ref p 0 0, .int .u8 44] h9 h249 (.tup [])) ∧ (Has h249 r1 v2) ∧ ∃ s252, (NC s252) ∧ (Ld h249 r1 v2 (o3 + 1) s252) ∧ ∃ h255 x256, (CallOK Tryd.prog 51 [.ref p 0 0] h249 h255 (.int .i64 x256)) ∧ ∃ r258 h259, (Nw h255 r258 ⟨0, true, 3, 1, [.int .i64 x256]⟩ h259) ∧ ∃ h261 s263, (NC s263) ∧ (App h259 s252 3 1 8 1 [.int .i64 x256] h261 s263) ∧ (Has h261 r1 v2) ∧ (oneA h261 s263) ∧ ∃ h266, (St h261 r1 v2 (o3 + 1) s263 h266) ∧ (Has h255 r1 v2) ∧ (Has h259 r1 v2) ∧ (Ld h255 r1 v2 (o3 + 1) s252) ∧ (Ld h259 r1 v2 (o3 + 1) s252) ∧ (Q h266 (.int .i64 0))) ∨ (∃ h246, ∃ (ch247 : List PanicEntry), (Y03 Tryd.prog 70 [.ref p 0 0, .int .u8 44] h9 h246 ch247) ∧ (Qp h246 ch247)))) ∧ ((decide ((((n242 : Nat) : Int) + 1 : Int) < 1)) = false → ((∃ h276, (CallOK Tryd.prog 70 [.ref p 0 0, .int .u8 41] h9 h276 (.tup [])) ∧ (Has h276 r1 v2) ∧ ∃ s279, (NC s279) ∧ (Ld h276 r1 v2 (o3 + 1) s279) ∧ ∃ h282 x283, (CallOK Tryd.prog 51 [.ref p 0 0] h276 h282 (.int .i64 x283)) ∧ ∃ r285 h286, (Nw h282 r285 ⟨0, true, 3, 1, [.int .i64 x283]⟩ h286) ∧ ∃ h288 s290, (NC s290) ∧ (App h286 s279 3 1 8 1 [.int .i64 x283] h288 s290) ∧ (Has h288 r1 v2) ∧ (oneA h288 s290) ∧ ∃ h293, (St h288 r1 v2 (o3 + 1) s290 h293) ∧ (Has h282 r1 v2) ∧ (Has h286 r1 v2) ∧ (Ld h282 r1 v2 (o3 + 1) s279) ∧ (Ld h286 r1 v2 (o3 + 1) s279) ∧ (Has h293 p 0) ∧ ∃ s301, (NC s301) ∧ (Ld h293 p 0 3 s301) ∧ ∃ n304, (Len h293 s301 n304) ∧ (okA .i64 (((n304 : Nat) : Int) - 1 : Int)) ∧ ∃ s307, (NC s307) ∧ (Cut h293 s301 7 (((n304 : Nat) : Int) - 1 : Int) s307) ∧ (oneA h293 s307) ∧ ∃ h310, (St h293 p 0 3 s307 h310) ∧ (Has h310 r1 v2) ∧ ∃ x314, (Ld h310 r1 v2 (o3 + 0) (.int .i64 x314)) ∧ ∃ s316, (NC s316) ∧ (Ld h310 r1 v2 (o3 + 1) s316) ∧ ∃ h319 x320, (CallOK Tryd.prog 63 [.ref p 0 0, .int .i64 x314, .int .i64 0, s316] h310 h319 (.int .i64 x320)) ∧ ∃ h322, (CallOK Tryd.prog 60 [.ref p 0 0, .int .i64 x320] h319 h322 (.tup [])) ∧ (Q h322 (.int .i64 1))) ∨ (∃ h273, ∃ (ch274 : List PanicEntry), (Y03 Tryd.prog 70 [.ref p 0 0, .int .u8 41] h9 h273 ch274) ∧ (Qp h273 ch274))))))))) ∧ (((((x126 : Int) == 6) = true → (J147 true)) ∧ (((x126 : Int) == 6) = false → ((((x126 : Int) == 7) = true → (J147 true)) ∧ (((x126 : Int) == 7) = false → (J147 ((x126 : Int) == 8)))))))))))))))))))
theorem w_follow {h : Hp} {p : Nat} {Q : Hp → AV → Prop} {Qp : Hp → List PanicEntry → Prop}  (H : pre_follow h p Q Qp) : FnO Tryd.prog 50 [.ref p 0 0] h Q Qp := by
 unfold pre_follow at H
 refine Y59 Tryd.func50 rfl (Xc (by kernel_rfl)) <| GQ.E [(0, .ref p 0 0)] <| Y6 <| Y1 <| Ye (.int .i64 0) <| Y7 <| Y6 ?_
 obtain ⟨r1, v2, o3, k4, H⟩ := H
 refine Y1 <| Y5 (.ref p 0 0) <| Y01 k4 nc1 <| Ye (.ref r1 v2 o3) <| Y7 <| Y6 ?_
 obtain ⟨h5, x6, k7, H⟩ := H
 refine Y1 <| Y5 (.ref p 0 0) <| Y01 k7 nc1 <| Ye (.int .u8 x6) <| Y7 <| Y6 <| Y6 ?_
 obtain ⟨r8, h9, w10, f11, H⟩ := H
 refine Y1 <| Y9 (Y2g ([(0, .int .i64 2), (1, .int .i64 3), (2, .int .i64 4), (3, .int .i64 5)]) El42 w10 (al_ ⟨⟨⟨trivial, rfl⟩, Y44 rfl⟩, ⟨⟨trivial, rfl⟩, Y44 rfl⟩, ⟨⟨trivial, rfl⟩, Y44 rfl⟩, ⟨⟨trivial, rfl⟩, Y44 rfl⟩, trivial⟩) (al_ ⟨rfl, rfl, rfl, rfl, trivial⟩)) <| Y9 (Y5y (s := .rsl r8 0 0 4) (n := 4) rfl (by kernel_rfl) (by kernel_rfl) (.inr (.inl ⟨_, _, _, rfl, f11⟩))) <| Y5 (.int .i64 0) <| Y7 <| Y12 <| GQ.ofGL <| Y60 <| Y6 <| Y1 <| Yl (.bool true) ⟨trivial, trivial, rfl⟩ <| Y7 <| Y6 ?_
 refine Y52 (b := true) (by kernel_rfl) (fun _ => ?_) (fun e => by cases e)
 refine Y0p <| Y6 <| Y12 <| Y6 ?_
 obtain ⟨f12, l13, H⟩ := H
 refine Y1 <| Y9 (Y5r (kk := .i64) (s := .rsl r8 0 0 4) (j := 0) (k := 1) rfl (by kernel_rfl) (by kernel_rfl) (by kernel_rfl) (by kernel_rfl) (.inl ⟨_, _, _, _, rfl, f12, by decide, by decide, rfl⟩)) <| Y00 l13 <| Ye (.int .i64 2) <| Y7 <| Y6 ?_
 obtain ⟨k14, H⟩ := H
 refine Y1 <| Y5 (.int .u8 x6) <| Y5 (.int .i64 2) <| Y01 k14 nc1 <| Yl (.bool ((x6 : Int) == 43)) ⟨trivial, trivial, rfl⟩ <| Y7 ?_
 rcases X1 ((x6 : Int) == 43) with hb15 | hb15
 ·have H := H.1 hb15
  refine Y0l hb15 <| Y6 ?_
  obtain ⟨f16, x17, l18, c19, h20, w21, H⟩ := H
  refine Y1 <| Y5 (.ref p 0 0) <| Yr (0) f16 <| Yp 1 (0) f16 <| Y00 l18 <| Yl (.int .i64 (x17 + 1)) ⟨trivial, trivial, rfl, c19⟩ <| Yr (0) f16 <| Yp 1 (0) f16 <| Y9 (Y17 w21) <| Y7 <| Y6 ?_
  obtain ⟨x22, k23, h24, k25, H⟩ := H
  refine Y1 <| Y5 (.ref p 0 0) <| Y5 (.int .i64 2) <| Y01 k23 nc1 <| Y01 k25 nc2 <| Y7 <| Y6 ?_
  obtain ⟨f26, s27, n28, l29, r30, h31, w32, h33, s35, n36, w34, f37, f40, h38, w39, H⟩ := H
  exact Y1 <| Y5 (.ref r1 v2 o3) <| Y5 (.ref r1 v2 o3) <| Yr (o3) f26 <| Yp 3 (o3) f26 <| Y00 l29 <| Y5 (.int .i64 2) <| Y9 (Y2g ([(0, .int .i64 2)]) El42 w32 (al_ ⟨⟨⟨trivial, rfl⟩, Y44 rfl⟩, trivial⟩) (al_ ⟨rfl, trivial⟩)) <| Y9 (Y3g (.rsl r30 0 0 1) El42 (SrcA.rsl (m := 1) (by kernel_rfl) (Nw.at w32) rfl rfl rfl (Xc rfl)) w34) <| Yr (o3) f37 <| Yp 3 (o3) f37 <| Y9 (Y35 w39 n36 f40) <| Y7 <| Y6 <| Y1 <| Ye (.int .i64 0) <| Y7 <| Y10 (Yw (Qp := Qp) rfl H)
 ·have H := H.2 hb15
  refine Y0s hb15 <| Y0p <| Y1 <| Yl (.int .i64 1) ⟨trivial, trivial, rfl, by simp [okA]⟩ <| Y5 (.int .i64 1) <| Y7 <| GL.toE [(0, .ref p 0 0), (2, .int .i64 0), (3, .ref r1 v2 o3), (4, .int .u8 x6), (6, .int .i64 2), (12, .rsl r8 0 0 4), (13, .int .i64 4), (14, .int .i64 1), (15, .bool true), (21, .bool ((x6 : Int) == 43))] (by kernel_rfl) <| Y60 <| Y6 <| Y1 <| Yl (.bool true) ⟨trivial, trivial, rfl⟩ <| Y7 <| Y6 (Y52 (b := true) (by kernel_rfl) (fun _ => ?_) (fun e => by cases e))
  refine Y0p <| Y6 <| Y12 <| Y6 ?_
  obtain ⟨l41, H⟩ := H
  refine Y1 <| Y9 (Y5r (kk := .i64) (s := .rsl r8 0 0 4) (j := 1) (k := 1) rfl (by kernel_rfl) (by kernel_rfl) (by kernel_rfl) (by kernel_rfl) (.inl ⟨_, _, _, _, rfl, f12, by decide, by decide, rfl⟩)) <| Y00 l41 <| Ye (.int .i64 3) <| Y7 <| Y6 ?_
  obtain ⟨k42, H⟩ := H
  refine Y1 <| Y5 (.int .u8 x6) <| Y5 (.int .i64 3) <| Y01 k42 nc1 <| Yl (.bool ((x6 : Int) == 45)) ⟨trivial, trivial, rfl⟩ <| Y7 ?_
  rcases X1 ((x6 : Int) == 45) with hb43 | hb43
  ·have H := H.1 hb43
   refine Y0l hb43 <| Y6 ?_
   obtain ⟨f44, x45, l46, c47, h48, w49, H⟩ := H
   refine Y1 <| Y5 (.ref p 0 0) <| Yr (0) f44 <| Yp 1 (0) f44 <| Y00 l46 <| Yl (.int .i64 (x45 + 1)) ⟨trivial, trivial, rfl, c47⟩ <| Yr (0) f44 <| Yp 1 (0) f44 <| Y9 (Y17 w49) <| Y7 <| Y6 ?_
   obtain ⟨x50, k51, h52, k53, H⟩ := H
   refine Y1 <| Y5 (.ref p 0 0) <| Y5 (.int .i64 3) <| Y01 k51 nc1 <| Y01 k53 nc2 <| Y7 <| Y6 ?_
   obtain ⟨f54, s55, n56, l57, r58, h59, w60, h61, s63, n64, w62, f65, f68, h66, w67, H⟩ := H
   exact Y1 <| Y5 (.ref r1 v2 o3) <| Y5 (.ref r1 v2 o3) <| Yr (o3) f54 <| Yp 3 (o3) f54 <| Y00 l57 <| Y5 (.int .i64 3) <| Y9 (Y2g ([(0, .int .i64 3)]) El42 w60 (al_ ⟨⟨⟨trivial, rfl⟩, Y44 rfl⟩, trivial⟩) (al_ ⟨rfl, trivial⟩)) <| Y9 (Y3g (.rsl r58 0 0 1) El42 (SrcA.rsl (m := 1) (by kernel_rfl) (Nw.at w60) rfl rfl rfl (Xc rfl)) w62) <| Yr (o3) f65 <| Yp 3 (o3) f65 <| Y9 (Y35 w67 n64 f68) <| Y7 <| Y6 <| Y1 <| Ye (.int .i64 0) <| Y7 <| Y10 (Yw (Qp := Qp) rfl H)
  ·have H := H.2 hb43
   refine Y0s hb43 <| Y0p <| Y1 <| Yl (.int .i64 2) ⟨trivial, trivial, rfl, by simp [okA]⟩ <| Y5 (.int .i64 2) <| Y7 <| GL.toE [(0, .ref p 0 0), (2, .int .i64 0), (3, .ref r1 v2 o3), (4, .int .u8 x6), (6, .int .i64 3), (12, .rsl r8 0 0 4), (13, .int .i64 4), (14, .int .i64 2), (15, .bool true), (21, .bool ((x6 : Int) == 45))] (by kernel_rfl) <| Y60 <| Y6 <| Y1 <| Yl (.bool true) ⟨trivial, trivial, rfl⟩ <| Y7 <| Y6 (Y52 (b := true) (by kernel_rfl) (fun _ => ?_) (fun e => by cases e))
   refine Y0p <| Y6 <| Y12 <| Y6 ?_
   obtain ⟨l69, H⟩ := H
   refine Y1 <| Y9 (Y5r (kk := .i64) (s := .rsl r8 0 0 4) (j := 2) (k := 1) rfl (by kernel_rfl) (by kernel_rfl) (by kernel_rfl) (by kernel_rfl) (.inl ⟨_, _, _, _, rfl, f12, by decide, by decide, rfl⟩)) <| Y00 l69 <| Ye (.int .i64 4) <| Y7 <| Y6 ?_
   obtain ⟨k70, H⟩ := H
   refine Y1 <| Y5 (.int .u8 x6) <| Y5 (.int .i64 4) <| Y01 k70 nc1 <| Yl (.bool ((x6 : Int) == 42)) ⟨trivial, trivial, rfl⟩ <| Y7 ?_
   rcases X1 ((x6 : Int) == 42) with hb71 | hb71
   ·have H := H.1 hb71
    refine Y0l hb71 <| Y6 ?_
    obtain ⟨f72, x73, l74, c75, h76, w77, H⟩ := H
    refine Y1 <| Y5 (.ref p 0 0) <| Yr (0) f72 <| Yp 1 (0) f72 <| Y00 l74 <| Yl (.int .i64 (x73 + 1)) ⟨trivial, trivial, rfl, c75⟩ <| Yr (0) f72 <| Yp 1 (0) f72 <| Y9 (Y17 w77) <| Y7 <| Y6 ?_
    obtain ⟨x78, k79, h80, k81, H⟩ := H
    refine Y1 <| Y5 (.ref p 0 0) <| Y5 (.int .i64 4) <| Y01 k79 nc1 <| Y01 k81 nc2 <| Y7 <| Y6 ?_
    obtain ⟨f82, s83, n84, l85, r86, h87, w88, h89, s91, n92, w90, f93, f96, h94, w95, H⟩ := H
    exact Y1 <| Y5 (.ref r1 v2 o3) <| Y5 (.ref r1 v2 o3) <| Yr (o3) f82 <| Yp 3 (o3) f82 <| Y00 l85 <| Y5 (.int .i64 4) <| Y9 (Y2g ([(0, .int .i64 4)]) El42 w88 (al_ ⟨⟨⟨trivial, rfl⟩, Y44 rfl⟩, trivial⟩) (al_ ⟨rfl, trivial⟩)) <| Y9 (Y3g (.rsl r86 0 0 1) El42 (SrcA.rsl (m := 1) (by kernel_rfl) (Nw.at w88) rfl rfl rfl (Xc rfl)) w90) <| Yr (o3) f93 <| Yp 3 (o3) f93 <| Y9 (Y35 w95 n92 f96) <| Y7 <| Y6 <| Y1 <| Ye (.int .i64 0) <| Y7 <| Y10 (Yw (Qp := Qp) rfl H)
   ·have H := H.2 hb71
    refine Y0s hb71 <| Y0p <| Y1 <| Yl (.int .i64 3) ⟨trivial, trivial, rfl, by simp [okA]⟩ <| Y5 (.int .i64 3) <| Y7 <| GL.toE [(0, .ref p 0 0), (2, .int .i64 0), (3, .ref r1 v2 o3), (4, .int .u8 x6), (6, .int .i64 4), (12, .rsl r8 0 0 4), (13, .int .i64 4), (14, .int .i64 3), (15, .bool true), (21, .bool ((x6 : Int) == 42))] (by kernel_rfl) <| Y60 <| Y6 <| Y1 <| Yl (.bool true) ⟨trivial, trivial, rfl⟩ <| Y7 <| Y6 (Y52 (b := true) (by kernel_rfl) (fun _ => ?_) (fun e => by cases e))
    refine Y0p <| Y6 <| Y12 <| Y6 ?_
    obtain ⟨l97, H⟩ := H
    refine Y1 <| Y9 (Y5r (kk := .i64) (s := .rsl r8 0 0 4) (j := 3) (k := 1) rfl (by kernel_rfl) (by kernel_rfl) (by kernel_rfl) (by kernel_rfl) (.inl ⟨_, _, _, _, rfl, f12, by decide, by decide, rfl⟩)) <| Y00 l97 <| Ye (.int .i64 5) <| Y7 <| Y6 ?_
    obtain ⟨k98, H⟩ := H
    refine Y1 <| Y5 (.int .u8 x6) <| Y5 (.int .i64 5) <| Y01 k98 nc1 <| Yl (.bool ((x6 : Int) == 61)) ⟨trivial, trivial, rfl⟩ <| Y7 ?_
    rcases X1 ((x6 : Int) == 61) with hb99 | hb99
    ·have H := H.1 hb99
     refine Y0l hb99 <| Y6 ?_
     obtain ⟨f100, x101, l102, c103, h104, w105, H⟩ := H
     refine Y1 <| Y5 (.ref p 0 0) <| Yr (0) f100 <| Yp 1 (0) f100 <| Y00 l102 <| Yl (.int .i64 (x101 + 1)) ⟨trivial, trivial, rfl, c103⟩ <| Yr (0) f100 <| Yp 1 (0) f100 <| Y9 (Y17 w105) <| Y7 <| Y6 ?_
     obtain ⟨x106, k107, h108, k109, H⟩ := H
     refine Y1 <| Y5 (.ref p 0 0) <| Y5 (.int .i64 5) <| Y01 k107 nc1 <| Y01 k109 nc2 <| Y7 <| Y6 ?_
     obtain ⟨f110, s111, n112, l113, r114, h115, w116, h117, s119, n120, w118, f121, f124, h122, w123, H⟩ := H
     exact Y1 <| Y5 (.ref r1 v2 o3) <| Y5 (.ref r1 v2 o3) <| Yr (o3) f110 <| Yp 3 (o3) f110 <| Y00 l113 <| Y5 (.int .i64 5) <| Y9 (Y2g ([(0, .int .i64 5)]) El42 w116 (al_ ⟨⟨⟨trivial, rfl⟩, Y44 rfl⟩, trivial⟩) (al_ ⟨rfl, trivial⟩)) <| Y9 (Y3g (.rsl r114 0 0 1) El42 (SrcA.rsl (m := 1) (by kernel_rfl) (Nw.at w116) rfl rfl rfl (Xc rfl)) w118) <| Yr (o3) f121 <| Yp 3 (o3) f121 <| Y9 (Y35 w123 n120 f124) <| Y7 <| Y6 <| Y1 <| Ye (.int .i64 0) <| Y7 <| Y10 (Yw (Qp := Qp) rfl H)
    ·have H := H.2 hb99
     refine Y0s hb99 <| Y0p <| Y1 <| Yl (.int .i64 4) ⟨trivial, trivial, rfl, by simp [okA]⟩ <| Y5 (.int .i64 4) <| Y7 <| GL.toE [(0, .ref p 0 0), (2, .int .i64 0), (3, .ref r1 v2 o3), (4, .int .u8 x6), (6, .int .i64 5), (12, .rsl r8 0 0 4), (13, .int .i64 4), (14, .int .i64 4), (15, .bool true), (21, .bool ((x6 : Int) == 61))] (by kernel_rfl) <| Y60 <| Y6 <| Y1 <| Yl (.bool false) ⟨trivial, trivial, rfl⟩ <| Y7 <| Y6 (Y52 (b := false) (by kernel_rfl) (fun e => by cases e) (fun _ => ?_))
     refine Y5d <| Y6 <| Y6 ?_
     obtain ⟨f125, x126, l127, H⟩ := H
     refine Y1 <| Y5 (.ref r1 v2 o3) <| Yr (o3) f125 <| Yp 0 (o3) f125 <| Y00 l127 <| Yl (.bool ((x126 : Int) == (-1))) ⟨trivial, trivial, rfl⟩ <| Y7 ?_
     rcases X1 ((x126 : Int) == (-1)) with hb128 | hb128
     ·have H := H.1 hb128
      refine Y0l hb128 <| Y6 <| Y6 ?_
      obtain ⟨f129, x130, l131, t132, l133, H⟩ := H
      refine Y28 Tryd.checked.mixed (by kernel_rfl) [.ref p 0 0, .ref p 0 0, .ref p 0 1, .int .i64 x130, .ref p 0 0, .ref p 0 0, .ref p 0 0, .string t132, .int .i64 ((t132).size : Nat), .bool (decide ((x130 : Int) < ((t132).size : Nat)))] [] [h9] h9 (by kernel_rfl) (by kernel_rfl) rfl rfl ?_ ?_
      ·exact Ym (.ref p 0 0) <| Yc 0 (Yj (0) f129) <| Yc 0 (Yk 1 (0) f129) <| Yc 0 (Yq l131) <| Ym (.ref p 0 0) <| Yc 0 (Yj (0) f129) <| Yc 0 (Yk 0 (0) f129) <| Yc 0 (Yq l133) <| Y0o (fun _ => (Y5e (s := t132) rfl (by kernel_rfl) (by kernel_rfl))) <| Y0o (fun _ => (Yn (av := .bool (decide ((x130 : Int) < ((t132).size : Nat)))) ⟨trivial, trivial, rfl⟩ (by kernel_rfl))) (Y1m)
      rcases X1 (decide ((x130 : Int) < ((t132).size : Nat))) with hb134 | hb134
      ·have H := H.1 hb134
       refine Y0l hb134 ?_
       rcases H with H | H
       ·skip
        obtain ⟨h138, k139, H⟩ := H
        exact Y1 <| Y5 (.ref p 0 0) <| Y01 k139 nc1 <| Y7 <| Y6 <| Y1 <| Ye (.int .i64 2) <| Y7 <| Y10 (Yw (Qp := Qp) rfl H)
       ·skip
        obtain ⟨h135, ch136, k137, H⟩ := H
        exact Y1 <| Y5 (.ref p 0 0) <| Y2m k137 nc1 (H)
      ·have H := H.2 hb134
       exact Y0s hb134 <| Y0p <| Y6 <| Y1 <| Ye (.int .i64 2) <| Y7 <| Y10 (Yw (Qp := Qp) rfl H)
     ·have H := H.2 hb128
      refine Y0s hb128 <| Y0p <| Y6 <| Y6 <| Y1 <| Y5 (.ref r1 v2 o3) <| Yr (o3) f125 <| Yp 0 (o3) f125 <| Y00 l127 <| Yl (.bool ((x126 : Int) == 13)) ⟨trivial, trivial, rfl⟩ <| Y7 ?_
      rcases X1 ((x126 : Int) == 13) with hb140 | hb140
      ·have H := H.1 hb140
       refine Y0l hb140 <| Y6 ?_
       rcases H with H | H
       ·skip
        obtain ⟨h144, x145, k146, H⟩ := H
        exact Y1 <| Y5 (.ref p 0 0) <| Y01 k146 nc1 <| Ye (.int .i64 x145) <| Y7 <| Y10 (Yw (Qp := Qp) rfl H)
       ·skip
        obtain ⟨h141, ch142, k143, H⟩ := H
        exact Y1 <| Y5 (.ref p 0 0) <| Y2m k143 nc1 (H)
      ·have H := H.2 hb140
       refine Y0s hb140 <| Y0p <| Y6 <| Y1 <| Ye (.int .i64 1) <| Y7 <| Y6 ?_
       obtain ⟨J147, HR148, H⟩ := H
       refine Y5b (fun e h' => ∃ y150, Env.le e [(0, .ref p 0 0), (2, .int .i64 0), (3, .ref r1 v2 o3), (4, .int .u8 x6), (6, .int .i64 5), (7, .int .i64 1), (12, .rsl r8 0 0 4), (13, .int .i64 4), (14, .int .i64 4), (15, .bool false), (21, .bool ((x6 : Int) == 61)), (48, .bool ((x126 : Int) == (-1))), (65, .bool ((x126 : Int) == 13)), (86, .bool y150)] ∧ h9 = h' ∧ J147 y150) ?_ ?_
       ·skip
        rcases X1 ((x126 : Int) == 6) with hb151 | hb151
        ·have H := H.1 hb151
         exact Y1 <| Y5 (.ref r1 v2 o3) <| Yr (o3) f125 <| Yp 0 (o3) f125 <| Y00 l127 <| Y9 (Y4q ⟨trivial, trivial, rfl⟩ hb151) <| Y5 (.bool true) <| Yv <| Yv <| Yv <| Yv <| Yv <| Y9 (Y4f (.bool true)) <| Y5 (.bool true) <| Yv <| Yv <| Yv <| Yv <| Yv <| Y9 (Y4f (.bool true)) <| Y7 (⟨true, Ya (by kernel_rfl), rfl, H⟩)
        ·have H := H.2 hb151
         rcases X1 ((x126 : Int) == 7) with hb152 | hb152
         ·have H := H.1 hb152
          exact Y1 <| Y5 (.ref r1 v2 o3) <| Yr (o3) f125 <| Yp 0 (o3) f125 <| Y00 l127 <| Y9 (Y3e ⟨trivial, trivial, rfl⟩ hb151) <| Y5 (.bool false) <| Y5 (.ref r1 v2 o3) <| Yr (o3) f125 <| Yp 0 (o3) f125 <| Y00 l127 <| Y9 (Y4q ⟨trivial, trivial, rfl⟩ hb152) <| Y9 (Y27 (.bool true)) <| Y5 (.bool true) <| Yv <| Yv <| Yv <| Yv <| Yv <| Y9 (Y4f (.bool true)) <| Y7 (⟨true, Ya (by kernel_rfl), rfl, H⟩)
         ·have H := H.2 hb152
          refine Y1 <| Y5 (.ref r1 v2 o3) <| Yr (o3) f125 <| Yp 0 (o3) f125 <| Y00 l127 <| Y9 (Y3e ⟨trivial, trivial, rfl⟩ hb151) <| Y5 (.bool false) <| Y5 (.ref r1 v2 o3) <| Yr (o3) f125 <| Yp 0 (o3) f125 <| Y00 l127 <| Y9 (Y3e ⟨trivial, trivial, rfl⟩ hb152) <| Y9 (Y27 (.bool false)) <| Y5 (.bool false) <| Y5 (.ref r1 v2 o3) <| Yr (o3) f125 <| Yp 0 (o3) f125 <| Y00 l127 <| Yl (.bool ((x126 : Int) == 8)) ⟨trivial, trivial, rfl⟩ <| Y9 (Y27 (.bool ((x126 : Int) == 8))) <| Y7 ?_
          exact ⟨((x126 : Int) == 8), Ya (by kernel_rfl), rfl, H⟩
       clear H
       rintro _ _ ⟨y150, hle, rfl, HJ149⟩
       have H := HR148 y150 HJ149
       refine Y19 _ hle ?_
       rcases X1 (y150) with hb153 | hb153
       ·have H := H.1 hb153
        refine Y0l hb153 <| Y1 <| Ye (.int .i64 2) <| Y7 <| Y6 <| Y6 ?_
        obtain ⟨s154, n155, l156, n157, g158, c159, H⟩ := H
        refine Y1 <| Y5 (.ref r1 v2 o3) <| Yr (o3) f125 <| Yp 1 (o3) f125 <| Y00 l156 <| Y9 (Y3f g158) <| Yl (.int .i64 (((n157 : Nat) : Int) + 1)) ⟨trivial, trivial, rfl, c159⟩ <| Y5 (.int .i64 2) <| Yl (.bool (decide ((((n157 : Nat) : Int) + 1 : Int) < 2))) ⟨trivial, trivial, rfl⟩ <| Y7 ?_
        rcases X1 (decide ((((n157 : Nat) : Int) + 1 : Int) < 2)) with hb160 | hb160
        ·have H := H.1 hb160
         refine Y0l hb160 <| Y6 ?_
         rcases H with H | H
         ·skip
          obtain ⟨h164, k165, H⟩ := H
          refine Y1 <| Y5 (.ref p 0 0) <| Y01 k165 nc2 <| Y7 <| Y6 ?_
          obtain ⟨f166, s167, n168, l169, h170, x171, k172, r173, h174, w175, h176, s178, n179, w177, f180, f183, h181, w182, f184, f185, l186, l187, H⟩ := H
          refine Y28 Tryd.checked.mixed (by kernel_rfl) [.ref r1 v2 o3, .ref r1 v2 o3, .ref r1 v2 o3, .ref r1 v2 (o3 + 1), s167, .ref p 0 0, .int .i64 x171, .rsl r173 0 0 1, s178, .ref r1 v2 o3, .ref r1 v2 (o3 + 1), .any] [6, 7, 8, 11] [h164, h170, h174, h176, h181] h181 (by kernel_rfl) (by kernel_rfl) rfl rfl ?_ ?_
          ·refine Ym (.ref r1 v2 o3) <| Ym (.ref r1 v2 o3) <| Y37 0 1 2 (Yj (o3) f166) (Yj (o3) f184) (Yj (o3) f185) <| Y37 0 1 2 (Yk 1 (o3) f166) (Yk 1 (o3) f184) (Yk 1 (o3) f185) <| Y37 0 1 2 (Yq l169) (Yq l186) (Yq l187) <| Ym (.ref p 0 0) <| Y1n 0 (Y43 k172 nc1) <| Y1n 1 (Y2g ([(0, .int .i64 x171)]) El42 w175 (al_ ⟨⟨⟨trivial, rfl⟩, Y44 rfl⟩, trivial⟩) (al_ ⟨rfl, trivial⟩)) ?_
           exact Y1n 2 (Y3g (.rsl r173 0 0 1) El42 (SrcA.rsl (m := 1) (by kernel_rfl) (Nw.at w175) rfl rfl rfl (Xc rfl)) w177) <| Yc 3 (Yj (o3) f180) <| Yc 3 (Yk 1 (o3) f180) <| Y1n 3 (Y35 w182 n179 f183) (Y1m)
          exact Y6 <| Y1 <| Ye (.int .i64 0) <| Y7 <| Y10 (Yw (Qp := Qp) rfl H)
         ·skip
          obtain ⟨h161, ch162, k163, H⟩ := H
          exact Y1 <| Y5 (.ref p 0 0) <| Y2m k163 nc2 (H)
        ·have H := H.2 hb160
         refine Y0s hb160 <| Y0p <| Y6 ?_
         rcases H with H | H
         ·skip
          obtain ⟨h191, k192, H⟩ := H
          refine Y1 <| Y5 (.ref p 0 0) <| Y01 k192 nc2 <| Y7 <| Y6 ?_
          obtain ⟨f193, s194, n195, l196, h197, x198, k199, r200, h201, w202, h203, s205, n206, w204, f207, f210, h208, w209, f211, f212, l213, l214, H⟩ := H
          refine Y28 Tryd.checked.mixed (by kernel_rfl) [.ref r1 v2 o3, .ref r1 v2 o3, .ref r1 v2 o3, .ref r1 v2 (o3 + 1), s194, .ref p 0 0, .int .i64 x198, .rsl r200 0 0 1, s205, .ref r1 v2 o3, .ref r1 v2 (o3 + 1), .any] [6, 7, 8, 11] [h191, h197, h201, h203, h208] h208 (by kernel_rfl) (by kernel_rfl) rfl rfl ?_ ?_
          ·refine Ym (.ref r1 v2 o3) <| Ym (.ref r1 v2 o3) <| Y37 0 1 2 (Yj (o3) f193) (Yj (o3) f211) (Yj (o3) f212) <| Y37 0 1 2 (Yk 1 (o3) f193) (Yk 1 (o3) f211) (Yk 1 (o3) f212) <| Y37 0 1 2 (Yq l196) (Yq l213) (Yq l214) <| Ym (.ref p 0 0) <| Y1n 0 (Y43 k199 nc1) <| Y1n 1 (Y2g ([(0, .int .i64 x198)]) El42 w202 (al_ ⟨⟨⟨trivial, rfl⟩, Y44 rfl⟩, trivial⟩) (al_ ⟨rfl, trivial⟩)) ?_
           exact Y1n 2 (Y3g (.rsl r200 0 0 1) El42 (SrcA.rsl (m := 1) (by kernel_rfl) (Nw.at w202) rfl rfl rfl (Xc rfl)) w204) <| Yc 3 (Yj (o3) f207) <| Yc 3 (Yk 1 (o3) f207) <| Y1n 3 (Y35 w209 n206 f210) (Y1m)
          refine Y6 ?_
          obtain ⟨f215, s216, n217, l218, n219, g220, c221, s222, n223, i224, f227, h225, w226, H⟩ := H
          refine Y28 Tryd.checked.mixed (by kernel_rfl) [.ref p 0 0, .ref p 0 0, .ref p 0 0, .ref p 0 3, s216, .ref p 0 0, .ref p 0 0, .ref p 0 3, s216, .int .i64 ((n219 : Nat) : Int), .int .i64 (((n219 : Nat) : Int) - 1), s222, .ref p 0 0, .ref p 0 3, .any] [14] [h208, h225] h225 (by kernel_rfl) (by kernel_rfl) rfl rfl ?_ ?_
          ·exact Ym (.ref p 0 0) <| Ym (.ref p 0 0) <| Yc 0 (Yj (0) f215) <| Yc 0 (Yk 3 (0) f215) <| Yc 0 (Yq l218) <| Ym (.ref p 0 0) <| Yc 0 (Yj (0) f215) <| Yc 0 (Yk 3 (0) f215) <| Yc 0 (Yq l218) <| Yc 0 (Y3f g220) <| Y0o (fun _ => (Yn (av := .int .i64 (((n219 : Nat) : Int) - 1)) ⟨trivial, trivial, rfl, c221⟩ (by kernel_rfl))) <| Yc 0 (Y5k i224) <| Yc 0 (Yj (0) f215) <| Yc 0 (Yk 3 (0) f215) <| Y1n 0 (Y35 w226 n223 f227) (Y1m)
          refine Y6 ?_
          obtain ⟨f228, x229, l230, s231, n232, l233, h234, x235, k236, h237, k238, H⟩ := H
          refine Y28 Tryd.checked.mixed (by kernel_rfl) [.ref p 0 0, .ref p 0 0, .ref r1 v2 o3, .ref r1 v2 o3, .ref r1 v2 (o3 + 0), .int .i64 x229, .ref r1 v2 o3, .ref r1 v2 o3, .ref r1 v2 (o3 + 1), s231, .int .i64 x235, .tup []] [10, 11] [h225, h234, h237] h237 (by kernel_rfl) (by kernel_rfl) rfl rfl ?_ ?_
          ·exact Ym (.ref p 0 0) <| Ym (.ref p 0 0) <| Ym (.ref r1 v2 o3) <| Yc 0 (Yj (o3) f228) <| Yc 0 (Yk 0 (o3) f228) <| Yc 0 (Yq l230) <| Ym (.ref r1 v2 o3) <| Yc 0 (Yj (o3) f228) <| Yc 0 (Yk 1 (o3) f228) <| Yc 0 (Yq l233) <| Y1n 0 (Y43 k236 (al_ ⟨⟨trivial, rfl⟩, ⟨trivial, rfl⟩, ⟨trivial, rfl⟩, n232, trivial⟩)) <| Y1n 1 (Y43 k238 nc2) (Y1m)
          exact Y6 <| Y1 <| Ye (.int .i64 1) <| Y7 <| Y10 (Yw (Qp := Qp) rfl H)
         ·skip
          obtain ⟨h188, ch189, k190, H⟩ := H
          exact Y1 <| Y5 (.ref p 0 0) <| Y2m k190 nc2 (H)
       ·have H := H.2 hb153
        refine Y0s hb153 <| Y0p <| Y6 <| Y6 ?_
        obtain ⟨s239, n240, l241, n242, g243, c244, H⟩ := H
        refine Y1 <| Y5 (.ref r1 v2 o3) <| Yr (o3) f125 <| Yp 1 (o3) f125 <| Y00 l241 <| Y9 (Y3f g243) <| Yl (.int .i64 (((n242 : Nat) : Int) + 1)) ⟨trivial, trivial, rfl, c244⟩ <| Y5 (.int .i64 1) <| Yl (.bool (decide ((((n242 : Nat) : Int) + 1 : Int) < 1))) ⟨trivial, trivial, rfl⟩ <| Y7 ?_
        rcases X1 (decide ((((n242 : Nat) : Int) + 1 : Int) < 1)) with hb245 | hb245
        ·have H := H.1 hb245
         refine Y0l hb245 <| Y6 ?_
         rcases H with H | H
         ·skip
          obtain ⟨h249, k250, H⟩ := H
          refine Y1 <| Y5 (.ref p 0 0) <| Y01 k250 nc2 <| Y7 <| Y6 ?_
          obtain ⟨f251, s252, n253, l254, h255, x256, k257, r258, h259, w260, h261, s263, n264, w262, f265, f268, h266, w267, f269, f270, l271, l272, H⟩ := H
          refine Y28 Tryd.checked.mixed (by kernel_rfl) [.ref r1 v2 o3, .ref r1 v2 o3, .ref r1 v2 o3, .ref r1 v2 (o3 + 1), s252, .ref p 0 0, .int .i64 x256, .rsl r258 0 0 1, s263, .ref r1 v2 o3, .ref r1 v2 (o3 + 1), .any] [6, 7, 8, 11] [h249, h255, h259, h261, h266] h266 (by kernel_rfl) (by kernel_rfl) rfl rfl ?_ ?_
          ·refine Ym (.ref r1 v2 o3) <| Ym (.ref r1 v2 o3) <| Y37 0 1 2 (Yj (o3) f251) (Yj (o3) f269) (Yj (o3) f270) <| Y37 0 1 2 (Yk 1 (o3) f251) (Yk 1 (o3) f269) (Yk 1 (o3) f270) <| Y37 0 1 2 (Yq l254) (Yq l271) (Yq l272) <| Ym (.ref p 0 0) <| Y1n 0 (Y43 k257 nc1) <| Y1n 1 (Y2g ([(0, .int .i64 x256)]) El42 w260 (al_ ⟨⟨⟨trivial, rfl⟩, Y44 rfl⟩, trivial⟩) (al_ ⟨rfl, trivial⟩)) ?_
           exact Y1n 2 (Y3g (.rsl r258 0 0 1) El42 (SrcA.rsl (m := 1) (by kernel_rfl) (Nw.at w260) rfl rfl rfl (Xc rfl)) w262) <| Yc 3 (Yj (o3) f265) <| Yc 3 (Yk 1 (o3) f265) <| Y1n 3 (Y35 w267 n264 f268) (Y1m)
          exact Y6 <| Y1 <| Ye (.int .i64 0) <| Y7 <| Y10 (Yw (Qp := Qp) rfl H)
         ·skip
          obtain ⟨h246, ch247, k248, H⟩ := H
          exact Y1 <| Y5 (.ref p 0 0) <| Y2m k248 nc2 (H)
        ·have H := H.2 hb245
         refine Y0s hb245 <| Y0p <| Y6 ?_
         rcases H with H | H
         ·skip
          obtain ⟨h276, k277, H⟩ := H
          refine Y1 <| Y5 (.ref p 0 0) <| Y01 k277 nc2 <| Y7 <| Y6 ?_
          obtain ⟨f278, s279, n280, l281, h282, x283, k284, r285, h286, w287, h288, s290, n291, w289, f292, f295, h293, w294, f296, f297, l298, l299, H⟩ := H
          refine Y28 Tryd.checked.mixed (by kernel_rfl) [.ref r1 v2 o3, .ref r1 v2 o3, .ref r1 v2 o3, .ref r1 v2 (o3 + 1), s279, .ref p 0 0, .int .i64 x283, .rsl r285 0 0 1, s290, .ref r1 v2 o3, .ref r1 v2 (o3 + 1), .any] [6, 7, 8, 11] [h276, h282, h286, h288, h293] h293 (by kernel_rfl) (by kernel_rfl) rfl rfl ?_ ?_
          ·refine Ym (.ref r1 v2 o3) <| Ym (.ref r1 v2 o3) <| Y37 0 1 2 (Yj (o3) f278) (Yj (o3) f296) (Yj (o3) f297) <| Y37 0 1 2 (Yk 1 (o3) f278) (Yk 1 (o3) f296) (Yk 1 (o3) f297) <| Y37 0 1 2 (Yq l281) (Yq l298) (Yq l299) <| Ym (.ref p 0 0) <| Y1n 0 (Y43 k284 nc1) <| Y1n 1 (Y2g ([(0, .int .i64 x283)]) El42 w287 (al_ ⟨⟨⟨trivial, rfl⟩, Y44 rfl⟩, trivial⟩) (al_ ⟨rfl, trivial⟩)) ?_
           exact Y1n 2 (Y3g (.rsl r285 0 0 1) El42 (SrcA.rsl (m := 1) (by kernel_rfl) (Nw.at w287) rfl rfl rfl (Xc rfl)) w289) <| Yc 3 (Yj (o3) f292) <| Yc 3 (Yk 1 (o3) f292) <| Y1n 3 (Y35 w294 n291 f295) (Y1m)
          refine Y6 ?_
          obtain ⟨f300, s301, n302, l303, n304, g305, c306, s307, n308, i309, f312, h310, w311, H⟩ := H
          refine Y28 Tryd.checked.mixed (by kernel_rfl) [.ref p 0 0, .ref p 0 0, .ref p 0 0, .ref p 0 3, s301, .ref p 0 0, .ref p 0 0, .ref p 0 3, s301, .int .i64 ((n304 : Nat) : Int), .int .i64 (((n304 : Nat) : Int) - 1), s307, .ref p 0 0, .ref p 0 3, .any] [14] [h293, h310] h310 (by kernel_rfl) (by kernel_rfl) rfl rfl ?_ ?_
          ·exact Ym (.ref p 0 0) <| Ym (.ref p 0 0) <| Yc 0 (Yj (0) f300) <| Yc 0 (Yk 3 (0) f300) <| Yc 0 (Yq l303) <| Ym (.ref p 0 0) <| Yc 0 (Yj (0) f300) <| Yc 0 (Yk 3 (0) f300) <| Yc 0 (Yq l303) <| Yc 0 (Y3f g305) <| Y0o (fun _ => (Yn (av := .int .i64 (((n304 : Nat) : Int) - 1)) ⟨trivial, trivial, rfl, c306⟩ (by kernel_rfl))) <| Yc 0 (Y5k i309) <| Yc 0 (Yj (0) f300) <| Yc 0 (Yk 3 (0) f300) <| Y1n 0 (Y35 w311 n308 f312) (Y1m)
          refine Y6 ?_
          obtain ⟨f313, x314, l315, s316, n317, l318, h319, x320, k321, h322, k323, H⟩ := H
          refine Y28 Tryd.checked.mixed (by kernel_rfl) [.ref p 0 0, .ref p 0 0, .ref r1 v2 o3, .ref r1 v2 o3, .ref r1 v2 (o3 + 0), .int .i64 x314, .ref r1 v2 o3, .ref r1 v2 o3, .ref r1 v2 (o3 + 1), s316, .int .i64 x320, .tup []] [10, 11] [h310, h319, h322] h322 (by kernel_rfl) (by kernel_rfl) rfl rfl ?_ ?_
          ·exact Ym (.ref p 0 0) <| Ym (.ref p 0 0) <| Ym (.ref r1 v2 o3) <| Yc 0 (Yj (o3) f313) <| Yc 0 (Yk 0 (o3) f313) <| Yc 0 (Yq l315) <| Ym (.ref r1 v2 o3) <| Yc 0 (Yj (o3) f313) <| Yc 0 (Yk 1 (o3) f313) <| Yc 0 (Yq l318) <| Y1n 0 (Y43 k321 (al_ ⟨⟨trivial, rfl⟩, ⟨trivial, rfl⟩, ⟨trivial, rfl⟩, n317, trivial⟩)) <| Y1n 1 (Y43 k323 nc2) (Y1m)
          exact Y6 <| Y1 <| Ye (.int .i64 1) <| Y7 <| Y10 (Yw (Qp := Qp) rfl H)
         ·skip
          obtain ⟨h273, ch274, k275, H⟩ := H
          exact Y1 <| Y5 (.ref p 0 0) <| Y2m k275 nc2 (H)
end Go.Proofs.YtkgfbpbndmklnaaDoor
