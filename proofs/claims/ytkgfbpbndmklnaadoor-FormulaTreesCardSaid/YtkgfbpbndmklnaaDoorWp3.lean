/- Own work. -/
import Derived.Test.YtkgfbpbndmklnaaDoorChecked
import Derived.Test.YtkgfbpbndmklnaaDoorSymA
set_option linter.unusedSimpArgs false
set_option linter.unusedVariables false
set_option maxRecDepth 100000
namespace Go.Proofs.YtkgfbpbndmklnaaDoor
open Go.Abs
def pre_follow (h : Hp) (p : Nat) (Q : Hp → AV → Prop) (Qp : Hp → List PanicEntry → Prop) : Prop :=
 ∃ (r1 : Nat), ∃ (v2 : Nat), ∃ (o3 : Nat), (CallOK Tryd.prog 66 [.ref p 0 0] h h (.ref r1 v2 o3)) ∧ ∃ (h5 : Hp), ∃ (x6 : Int), (CallOK Tryd.prog 59 [.ref p 0 0] h h5 (.int .u8 x6)) ∧ ∃ (r8 : Nat), ∃ (h9 : Hp), (Nw h5 r8 ⟨0, true, 3, 1, [.int .i64 2, .int .i64 3, .int .i64 4, .int .i64 5]⟩ h9) ∧ (Has h9 r8 0) ∧ (HasK h9 r8 0 1) ∧ (Ld h9 r8 0 0 (.int .i64 2)) ∧ (CallOK Tryd.prog 45 [.int .i64 2] h9 h9 (.int .u8 43)) ∧ ((((x6 : Int) == 43) = true → (Has h9 p 0) ∧ ∃ (x17 : Int), (Ld h9 p 0 1 (.int .i64 x17)) ∧ (okA .i64 (x17 + 1 : Int)) ∧ ∃ (h20 : Hp), (St h9 p 0 1 (.int .i64 (x17 + 1)) h20) ∧ ∃ (x22 : Int), (CallOK Tryd.prog 68 [.int .i64 2] h20 h20 (.int .i64 x22)) ∧ ∃ (h24 : Hp), (CallOK Tryd.prog 67 [.ref p 0 0, .int .i64 x22] h20 h24 (.tup [])) ∧ (Has h24 r1 v2) ∧ ∃ (s27 : AV), (NC s27) ∧ (Ld h24 r1 v2 (o3 + 3) s27) ∧ ∃ (r30 : Nat), ∃ (h31 : Hp), (Nw h24 r30 ⟨0, true, 3, 1, [.int .i64 2]⟩ h31) ∧ ∃ (h33 : Hp), ∃ (s35 : AV), (NC s35) ∧ (App h31 s27 3 1 8 1 [.int .i64 2] h33 s35) ∧ (Has h33 r1 v2) ∧ (oneA h33 s35) ∧ ∃ (h38 : Hp), (St h33 r1 v2 (o3 + 3) s35 h38) ∧ (Q h38 (.int .i64 0))) ∧ (((x6 : Int) == 43) = false → (Ld h9 r8 0 1 (.int .i64 3)) ∧ (CallOK Tryd.prog 45 [.int .i64 3] h9 h9 (.int .u8 45)) ∧ ((((x6 : Int) == 45) = true → (Has h9 p 0) ∧ ∃ (x45 : Int), (Ld h9 p 0 1 (.int .i64 x45)) ∧ (okA .i64 (x45 + 1 : Int)) ∧ ∃ (h48 : Hp), (St h9 p 0 1 (.int .i64 (x45 + 1)) h48) ∧ ∃ (x50 : Int), (CallOK Tryd.prog 68 [.int .i64 3] h48 h48 (.int .i64 x50)) ∧ ∃ (h52 : Hp), (CallOK Tryd.prog 67 [.ref p 0 0, .int .i64 x50] h48 h52 (.tup [])) ∧ (Has h52 r1 v2) ∧ ∃ (s55 : AV), (NC s55) ∧ (Ld h52 r1 v2 (o3 + 3) s55) ∧ ∃ (r58 : Nat), ∃ (h59 : Hp), (Nw h52 r58 ⟨0, true, 3, 1, [.int .i64 3]⟩ h59) ∧ ∃ (h61 : Hp), ∃ (s63 : AV), (NC s63) ∧ (App h59 s55 3 1 8 1 [.int .i64 3] h61 s63) ∧ (Has h61 r1 v2) ∧ (oneA h61 s63) ∧ ∃ (h66 : Hp), (St h61 r1 v2 (o3 + 3) s63 h66) ∧ (Q h66 (.int .i64 0))) ∧ (((x6 : Int) == 45) = false → (Ld h9 r8 0 2 (.int .i64 4)) ∧ (CallOK Tryd.prog 45 [.int .i64 4] h9 h9 (.int .u8 42)) ∧ ((((x6 : Int) == 42) = true → (Has h9 p 0) ∧ ∃ (x73 : Int), (Ld h9 p 0 1 (.int .i64 x73)) ∧ (okA .i64 (x73 + 1 : Int)) ∧ ∃ (h76 : Hp), (St h9 p 0 1 (.int .i64 (x73 + 1)) h76) ∧ ∃ (x78 : Int), (CallOK Tryd.prog 68 [.int .i64 4] h76 h76 (.int .i64 x78)) ∧ ∃ (h80 : Hp), (CallOK Tryd.prog 67 [.ref p 0 0, .int .i64 x78] h76 h80 (.tup [])) ∧ (Has h80 r1 v2) ∧ ∃ (s83 : AV), (NC s83) ∧ (Ld h80 r1 v2 (o3 + 3) s83) ∧ ∃ (r86 : Nat), ∃ (h87 : Hp), (Nw h80 r86 ⟨0, true, 3, 1, [.int .i64 4]⟩ h87) ∧ ∃ (h89 : Hp), ∃ (s91 : AV), (NC s91) ∧ (App h87 s83 3 1 8 1 [.int .i64 4] h89 s91) ∧ (Has h89 r1 v2) ∧ (oneA h89 s91) ∧ ∃ (h94 : Hp), (St h89 r1 v2 (o3 + 3) s91 h94) ∧ (Q h94 (.int .i64 0))) ∧ (((x6 : Int) == 42) = false → (Ld h9 r8 0 3 (.int .i64 5)) ∧ (CallOK Tryd.prog 45 [.int .i64 5] h9 h9 (.int .u8 61)) ∧ ((((x6 : Int) == 61) = true → (Has h9 p 0) ∧ ∃ (x101 : Int), (Ld h9 p 0 1 (.int .i64 x101)) ∧ (okA .i64 (x101 + 1 : Int)) ∧ ∃ (h104 : Hp), (St h9 p 0 1 (.int .i64 (x101 + 1)) h104) ∧ ∃ (x106 : Int), (CallOK Tryd.prog 68 [.int .i64 5] h104 h104 (.int .i64 x106)) ∧ ∃ (h108 : Hp), (CallOK Tryd.prog 67 [.ref p 0 0, .int .i64 x106] h104 h108 (.tup [])) ∧ (Has h108 r1 v2) ∧ ∃ (s111 : AV), (NC s111) ∧ (Ld h108 r1 v2 (o3 + 3) s111) ∧ ∃ (r114 : Nat), ∃ (h115 : Hp), (Nw h108 r114 ⟨0, true, 3, 1, [.int .i64 5]⟩ h115) ∧ ∃ (h117 : Hp), ∃ (s119 : AV), (NC s119) ∧ (App h115 s111 3 1 8 1 [.int .i64 5] h117 s119) ∧ (Has h117 r1 v2) ∧ (oneA h117 s119) ∧ ∃ (h122 : Hp), (St h117 r1 v2 (o3 + 3) s119 h122) ∧ (Q h122 (.int .i64 0))) ∧ (((x6 : Int) == 61) = false → (Has h9 r1 v2) ∧ ∃ (x126 : Int), (Ld h9 r1 v2 (o3 + 0) (.int .i64 x126)) ∧ ((((x126 : Int) == (-1)) = true → (Has h9 p 0) ∧ ∃ (x130 : Int), (Ld h9 p 0 1 (.int .i64 x130)) ∧ ∃ (t132 : ByteArray), (Ld h9 p 0 0 (.string t132)) ∧ (((decide ((x130 : Int) < ((t132).size : Nat))) = true → ((∃ (h138 : Hp), (CallOK Tryd.prog 65 [.ref p 0 0] h9 h138 (.tup [])) ∧ (Q h138 (.int .i64 2))) ∨ (∃ (h135 : Hp), ∃ (ch136 : List PanicEntry), (Yp Tryd.prog 65 [.ref p 0 0] h9 h135 ch136) ∧ (Qp h135 ch136)))) ∧ ((decide ((x130 : Int) < ((t132).size : Nat))) = false → (Q h9 (.int .i64 2))))) ∧ (((x126 : Int) == (-1)) = false → ((((x126 : Int) == 13) = true → ((∃ (h144 : Hp), ∃ (x145 : Int), (CallOK Tryd.prog 69 [.ref p 0 0] h9 h144 (.int .i64 x145)) ∧ (Q h144 (.int .i64 x145))) ∨ (∃ (h141 : Hp), ∃ (ch142 : List PanicEntry), (Yp Tryd.prog 69 [.ref p 0 0] h9 h141 ch142) ∧ (Qp h141 ch142)))) ∧ (((x126 : Int) == 13) = false → ∃ (J147 : Bool → Prop), (∀ (y150 : Bool), J147 y150 → ((((y150) = true → ∃ (s154 : AV), (NC s154) ∧ (Ld h9 r1 v2 (o3 + 1) s154) ∧ ∃ (n157 : Nat), (Len h9 s154 n157) ∧ (okA .i64 (((n157 : Nat) : Int) + 1 : Int)) ∧ (((decide ((((n157 : Nat) : Int) + 1 : Int) < 2)) = true → ((∃ (h164 : Hp), (CallOK Tryd.prog 70 [.ref p 0 0, .int .u8 44] h9 h164 (.tup [])) ∧ (Has h164 r1 v2) ∧ ∃ (s167 : AV), (NC s167) ∧ (Ld h164 r1 v2 (o3 + 1) s167) ∧ ∃ (h170 : Hp), ∃ (x171 : Int), (CallOK Tryd.prog 51 [.ref p 0 0] h164 h170 (.int .i64 x171)) ∧ ∃ (r173 : Nat), ∃ (h174 : Hp), (Nw h170 r173 ⟨0, true, 3, 1, [.int .i64 x171]⟩ h174) ∧ ∃ (h176 : Hp), ∃ (s178 : AV), (NC s178) ∧ (App h174 s167 3 1 8 1 [.int .i64 x171] h176 s178) ∧ (Has h176 r1 v2) ∧ (oneA h176 s178) ∧ ∃ (h181 : Hp), (St h176 r1 v2 (o3 + 1) s178 h181) ∧ (Has h170 r1 v2) ∧ (Has h174 r1 v2) ∧ (Ld h170 r1 v2 (o3 + 1) s167) ∧ (Ld h174 r1 v2 (o3 + 1) s167) ∧ (Q h181 (.int .i64 0))) ∨ (∃ (h161 : Hp), ∃ (ch162 : List PanicEntry), (Yp Tryd.prog 70 [.ref p 0 0, .int .u8 44] h9 h161 ch162) ∧ (Qp h161 ch162)))) ∧ ((decide ((((n157 : Nat) : Int) + 1 : Int) < 2)) = false → ((∃ (h191 : Hp), (CallOK Tryd.prog 70 [.ref p 0 0, .int .u8 41] h9 h191 (.tup [])) ∧ (Has h191 r1 v2) ∧ ∃ (s194 : AV), (NC s194) ∧ (Ld h191 r1 v2 (o3 + 1) s194) ∧ ∃ (h197 : Hp), ∃ (x198 : Int), (CallOK Tryd.prog 51 [.ref p 0 0] h191 h197 (.int .i64 x198)) ∧ ∃ (r200 : Nat), ∃ (h201 : Hp), (Nw h197 r200 ⟨0, true, 3, 1, [.int .i64 x198]⟩ h201) ∧ ∃ (h203 : Hp), ∃ (s205 : AV), (NC s205) ∧ (App h201 s194 3 1 8 1 [.int .i64 x198] h203 s205) ∧ (Has h203 r1 v2) ∧ (oneA h203 s205) ∧ ∃ (h208 : Hp), (St h203 r1 v2 (o3 + 1) s205 h208) ∧ (Has h197 r1 v2) ∧ (Has h201 r1 v2) ∧ (Ld h197 r1 v2 (o3 + 1) s194) ∧ (Ld h201 r1 v2 (o3 + 1) s194) ∧ (Has h208 p 0) ∧ ∃ (s216 : AV), (NC s216) ∧ (Ld h208 p 0 3 s216) ∧ ∃ (n219 : Nat), (Len h208 s216 n219) ∧ (okA .i64 (((n219 : Nat) : Int) - 1 : Int)) ∧ ∃ (s222 : AV), (NC s222) ∧ (Cut h208 s216 7 (((n219 : Nat) : Int) - 1 : Int) s222) ∧ (oneA h208 s222) ∧ ∃ (h225 : Hp), (St h208 p 0 3 s222 h225) ∧ (Has h225 r1 v2) ∧ ∃ (x229 : Int), (Ld h225 r1 v2 (o3 + 0) (.int .i64 x229)) ∧ ∃ (s231 : AV), (NC s231) ∧ (Ld h225 r1 v2 (o3 + 1) s231) ∧ ∃ (h234 : Hp), ∃ (x235 : Int), (CallOK Tryd.prog 63 [.ref p 0 0, .int .i64 x229, .int .i64 0, s231] h225 h234 (.int .i64 x235)) ∧ ∃ (h237 : Hp), (CallOK Tryd.prog 60 [.ref p 0 0, .int .i64 x235] h234 h237 (.tup [])) ∧ (Q h237 (.int .i64 1))) ∨ (∃ (h188 : Hp), ∃ (ch189 : List PanicEntry), (Yp Tryd.prog 70 [.ref p 0 0, .int .u8 41] h9 h188 ch189) ∧ (Qp h188 ch189)))))) ∧ ((y150) = false → ∃ (s239 : AV), (NC s239) ∧ (Ld h9 r1 v2 (o3 + 1) s239) ∧ ∃ (n242 : Nat), (Len h9 s239 n242) ∧ (okA .i64 (((n242 : Nat) : Int) + 1 : Int)) ∧ (((decide ((((n242 : Nat) : Int) + 1 : Int) < 1)) = true → ((∃ (h249 : Hp), (CallOK Tryd.prog 70 [.ref p 0 0, .int .u8 44] h9 h249 (.tup [])) ∧ (Has h249 r1 v2) ∧ ∃ (s252 : AV), (NC s252) ∧ (Ld h249 r1 v2 (o3 + 1) s252) ∧ ∃ (h255 : Hp), ∃ (x256 : Int), (CallOK Tryd.prog 51 [.ref p 0 0] h249 h255 (.int .i64 x256)) ∧ ∃ (r258 : Nat), ∃ (h259 : Hp), (Nw h255 r258 ⟨0, true, 3, 1, [.int .i64 x256]⟩ h259) ∧ ∃ (h261 : Hp), ∃ (s263 : AV), (NC s263) ∧ (App h259 s252 3 1 8 1 [.int .i64 x256] h261 s263) ∧ (Has h261 r1 v2) ∧ (oneA h261 s263) ∧ ∃ (h266 : Hp), (St h261 r1 v2 (o3 + 1) s263 h266) ∧ (Has h255 r1 v2) ∧ (Has h259 r1 v2) ∧ (Ld h255 r1 v2 (o3 + 1) s252) ∧ (Ld h259 r1 v2 (o3 + 1) s252) ∧ (Q h266 (.int .i64 0))) ∨ (∃ (h246 : Hp), ∃ (ch247 : List PanicEntry), (Yp Tryd.prog 70 [.ref p 0 0, .int .u8 44] h9 h246 ch247) ∧ (Qp h246 ch247)))) ∧ ((decide ((((n242 : Nat) : Int) + 1 : Int) < 1)) = false → ((∃ (h276 : Hp), (CallOK Tryd.prog 70 [.ref p 0 0, .int .u8 41] h9 h276 (.tup [])) ∧ (Has h276 r1 v2) ∧ ∃ (s279 : AV), (NC s279) ∧ (Ld h276 r1 v2 (o3 + 1) s279) ∧ ∃ (h282 : Hp), ∃ (x283 : Int), (CallOK Tryd.prog 51 [.ref p 0 0] h276 h282 (.int .i64 x283)) ∧ ∃ (r285 : Nat), ∃ (h286 : Hp), (Nw h282 r285 ⟨0, true, 3, 1, [.int .i64 x283]⟩ h286) ∧ ∃ (h288 : Hp), ∃ (s290 : AV), (NC s290) ∧ (App h286 s279 3 1 8 1 [.int .i64 x283] h288 s290) ∧ (Has h288 r1 v2) ∧ (oneA h288 s290) ∧ ∃ (h293 : Hp), (St h288 r1 v2 (o3 + 1) s290 h293) ∧ (Has h282 r1 v2) ∧ (Has h286 r1 v2) ∧ (Ld h282 r1 v2 (o3 + 1) s279) ∧ (Ld h286 r1 v2 (o3 + 1) s279) ∧ (Has h293 p 0) ∧ ∃ (s301 : AV), (NC s301) ∧ (Ld h293 p 0 3 s301) ∧ ∃ (n304 : Nat), (Len h293 s301 n304) ∧ (okA .i64 (((n304 : Nat) : Int) - 1 : Int)) ∧ ∃ (s307 : AV), (NC s307) ∧ (Cut h293 s301 7 (((n304 : Nat) : Int) - 1 : Int) s307) ∧ (oneA h293 s307) ∧ ∃ (h310 : Hp), (St h293 p 0 3 s307 h310) ∧ (Has h310 r1 v2) ∧ ∃ (x314 : Int), (Ld h310 r1 v2 (o3 + 0) (.int .i64 x314)) ∧ ∃ (s316 : AV), (NC s316) ∧ (Ld h310 r1 v2 (o3 + 1) s316) ∧ ∃ (h319 : Hp), ∃ (x320 : Int), (CallOK Tryd.prog 63 [.ref p 0 0, .int .i64 x314, .int .i64 0, s316] h310 h319 (.int .i64 x320)) ∧ ∃ (h322 : Hp), (CallOK Tryd.prog 60 [.ref p 0 0, .int .i64 x320] h319 h322 (.tup [])) ∧ (Q h322 (.int .i64 1))) ∨ (∃ (h273 : Hp), ∃ (ch274 : List PanicEntry), (Yp Tryd.prog 70 [.ref p 0 0, .int .u8 41] h9 h273 ch274) ∧ (Qp h273 ch274))))))))) ∧ (((((x126 : Int) == 6) = true → (J147 true)) ∧ (((x126 : Int) == 6) = false → ((((x126 : Int) == 7) = true → (J147 true)) ∧ (((x126 : Int) == 7) = false → (J147 ((x126 : Int) == 8)))))))))))))))))))
theorem w_follow {h : Hp} {p : Nat} {Q : Hp → AV → Prop} {Qp : Hp → List PanicEntry → Prop}  (H : pre_follow h p Q Qp) : FnO Tryd.prog 50 [.ref p 0 0] h Q Qp := by
 unfold pre_follow at H
 refine FnO.mk Tryd.func50 rfl (Xc (by kernel_rfl)) ?_
 refine GQ.E [(0, .ref p 0 0)] ?_
 refine GQ.seq ?_
 refine GQ.region ?_
 refine SQ.a (.int .i64 0) ?_
 refine SQ.nil ?_
 refine GQ.seq ?_
 obtain ⟨r1, v2, o3, k4, H⟩ := H
 refine GQ.region ?_
 refine SQ.m (.ref p 0 0) ?_
 refine SQ.c [.ref p 0 0] nc1 k4 ?_
 refine SQ.a (.ref r1 v2 o3) ?_
 refine SQ.nil ?_
 refine GQ.seq ?_
 obtain ⟨h5, x6, k7, H⟩ := H
 refine GQ.region ?_
 refine SQ.m (.ref p 0 0) ?_
 refine SQ.c [.ref p 0 0] nc1 k7 ?_
 refine SQ.a (.int .u8 x6) ?_
 refine SQ.nil ?_
 refine GQ.seq ?_
 refine GQ.seq ?_
 obtain ⟨r8, h9, w10, f11, H⟩ := H
 refine GQ.region ?_
 refine SQ.cons (av := .rsl r8 0 0 4) rfl (OStep.yes rfl (HStep.build (qs := [(0, .int .i64 2), (1, .int .i64 3), (2, .int .i64 4), (3, .int .i64 5)]) (cs := [.int .i64 2, .int .i64 3, .int .i64 4, .int .i64 5]) (r := r8) rfl (Y8 (P := Tryd.prog) (t := 42) (e := 3) (k := 1) (bytes := 8) (z := [.int .i64 0]) (by kernel_rfl)) (by decide) (by kernel_rfl) (by simp only [X5, X4, or_false, forall_eq_or_imp, forall_eq]; exact ⟨⟨⟨trivial, rfl⟩, Y2l rfl⟩, ⟨⟨trivial, rfl⟩, Y2l rfl⟩, ⟨⟨trivial, rfl⟩, Y2l rfl⟩, ⟨⟨trivial, rfl⟩, Y2l rfl⟩⟩) (by kernel_rfl) (by simp only [X5, X4, or_false, forall_eq_or_imp, forall_eq]; exact ⟨rfl, rfl, rfl, rfl⟩) rfl w10)) ?_
 refine SQ.cons (av := .int .i64 4) rfl (OStep.yes rfl (HStep.len (s := .rsl r8 0 0 4) (n := 4) rfl (by kernel_rfl) (by kernel_rfl) (.inr (.inl ⟨_, _, _, rfl, f11⟩)))) ?_
 refine SQ.m (.int .i64 0) ?_
 refine SQ.nil ?_
 refine GQ.block ?_
 refine GQ.ofGL ?_
 refine GL.step ?_
 refine GQ.seq ?_
 refine GQ.region ?_
 refine SQ.p (.bool true) ⟨trivial, trivial, rfl⟩ ?_
 refine SQ.nil ?_
 refine GQ.seq ?_
 refine GQ.cond (b := true) (by kernel_rfl) (fun _ => ?_) (fun e => by cases e)
 refine GQ.skip ?_
 refine GQ.seq ?_
 refine GQ.block ?_
 refine GQ.seq ?_
 obtain ⟨f12, l13, H⟩ := H
 refine GQ.region ?_
 refine SQ.cons (av := .ref r8 0 0) rfl (OStep.yes rfl (HStep.ix (kk := .i64) (s := .rsl r8 0 0 4) (j := 0) (k := 1) rfl (by kernel_rfl) (by kernel_rfl) (by kernel_rfl) (by kernel_rfl) (.inl ⟨_, _, _, _, rfl, f12, by decide, by decide, rfl⟩))) ?_
 refine SQ.y l13 ?_
 refine SQ.a (.int .i64 2) ?_
 refine SQ.nil ?_
 refine GQ.seq ?_
 obtain ⟨k14, H⟩ := H
 refine GQ.region ?_
 refine SQ.m (.int .u8 x6) ?_
 refine SQ.m (.int .i64 2) ?_
 refine SQ.c [.int .i64 2] nc1 k14 ?_
 refine SQ.p (.bool ((x6 : Int) == 43)) ⟨trivial, trivial, rfl⟩ ?_
 refine SQ.nil ?_
 rcases X1 ((x6 : Int) == 43) with hb15 | hb15
 ·have H := H.1 hb15
  refine GQ.t hb15 ?_
  refine GQ.seq ?_
  obtain ⟨f16, x17, l18, c19, h20, w21, H⟩ := H
  refine GQ.region ?_
  refine SQ.m (.ref p 0 0) ?_
  refine SQ.n (0) f16 ?_
  refine SQ.f 1 (0) f16 ?_
  refine SQ.y l18 ?_
  refine SQ.p (.int .i64 (x17 + 1)) ⟨trivial, trivial, rfl, c19⟩ ?_
  refine SQ.n (0) f16 ?_
  refine SQ.f 1 (0) f16 ?_
  refine SQ.cons (av := .any) rfl (OStep.yes rfl (Y9 (r := p) (ver := 0) (off := 1) (n := 1) (v := .int .i64 (x17 + 1)) rfl (by kernel_rfl) (by kernel_rfl) (by kernel_rfl) ⟨trivial, rfl⟩ (by kernel_rfl) w21)) ?_
  refine SQ.nil ?_
  refine GQ.seq ?_
  obtain ⟨x22, k23, h24, k25, H⟩ := H
  refine GQ.region ?_
  refine SQ.m (.ref p 0 0) ?_
  refine SQ.m (.int .i64 2) ?_
  refine SQ.c [.int .i64 2] nc1 k23 ?_
  refine SQ.c [.ref p 0 0, .int .i64 x22] nc2 k25 ?_
  refine SQ.nil ?_
  refine GQ.seq ?_
  obtain ⟨f26, s27, n28, l29, r30, h31, w32, h33, s35, n36, w34, f37, f40, h38, w39, H⟩ := H
  refine GQ.region ?_
  refine SQ.m (.ref r1 v2 o3) ?_
  refine SQ.m (.ref r1 v2 o3) ?_
  refine SQ.n (o3) f26 ?_
  refine SQ.f 3 (o3) f26 ?_
  refine SQ.y l29 ?_
  refine SQ.m (.int .i64 2) ?_
  refine SQ.cons (av := .rsl r30 0 0 1) rfl (OStep.yes rfl (HStep.build (qs := [(0, .int .i64 2)]) (cs := [.int .i64 2]) (r := r30) rfl (Y8 (P := Tryd.prog) (t := 42) (e := 3) (k := 1) (bytes := 8) (z := [.int .i64 0]) (by kernel_rfl)) (by decide) (by kernel_rfl) (by simp only [X5, X4, or_false, forall_eq]; exact ⟨⟨trivial, rfl⟩, Y2l rfl⟩) (by kernel_rfl) (by simp only [X5, X4, or_false, forall_eq]; exact rfl) rfl w32)) ?_
  refine SQ.cons (av := s35) rfl (OStep.yes rfl (HStep.app (sv := s27) (xv := .rsl r30 0 0 1) (news := [.int .i64 2]) rfl (Y8 (P := Tryd.prog) (t := 42) (e := 3) (k := 1) (bytes := 8) (z := [.int .i64 0]) (by kernel_rfl)) (by kernel_rfl) (by kernel_rfl) trivial (SrcA.rsl (m := 1) (by kernel_rfl) (Nw.at w32) rfl rfl rfl (Xc rfl)) w34)) ?_
  refine SQ.n (o3) f37 ?_
  refine SQ.f 3 (o3) f37 ?_
  refine SQ.cons (av := .any) rfl (OStep.yes rfl (Y9 (r := r1) (ver := v2) (off := o3 + 3) (n := 1) (v := s35) rfl (by kernel_rfl) (by kernel_rfl) (by kernel_rfl) n36 (Y09 f40) w39)) ?_
  refine SQ.nil ?_
  refine GQ.seq ?_
  refine GQ.region ?_
  refine SQ.a (.int .i64 0) ?_
  refine SQ.nil ?_
  refine GQ.ret ?_
  exact EndK.ret (Qp := Qp) rfl H
 ·have H := H.2 hb15
  refine GQ.g hb15 ?_
  refine GQ.skip ?_
  refine GQ.region ?_
  refine SQ.p (.int .i64 1) ⟨trivial, trivial, rfl, by simp [okA]⟩ ?_
  refine SQ.m (.int .i64 1) ?_
  refine SQ.nil ?_
  refine GL.toE [(0, .ref p 0 0), (2, .int .i64 0), (3, .ref r1 v2 o3), (4, .int .u8 x6), (6, .int .i64 2), (12, .rsl r8 0 0 4), (13, .int .i64 4), (14, .int .i64 1), (15, .bool true), (21, .bool ((x6 : Int) == 43))] (by kernel_rfl) ?_
  refine GL.step ?_
  refine GQ.seq ?_
  refine GQ.region ?_
  refine SQ.p (.bool true) ⟨trivial, trivial, rfl⟩ ?_
  refine SQ.nil ?_
  refine GQ.seq ?_
  refine GQ.cond (b := true) (by kernel_rfl) (fun _ => ?_) (fun e => by cases e)
  refine GQ.skip ?_
  refine GQ.seq ?_
  refine GQ.block ?_
  refine GQ.seq ?_
  obtain ⟨l41, H⟩ := H
  refine GQ.region ?_
  refine SQ.cons (av := .ref r8 0 1) rfl (OStep.yes rfl (HStep.ix (kk := .i64) (s := .rsl r8 0 0 4) (j := 1) (k := 1) rfl (by kernel_rfl) (by kernel_rfl) (by kernel_rfl) (by kernel_rfl) (.inl ⟨_, _, _, _, rfl, f12, by decide, by decide, rfl⟩))) ?_
  refine SQ.y l41 ?_
  refine SQ.a (.int .i64 3) ?_
  refine SQ.nil ?_
  refine GQ.seq ?_
  obtain ⟨k42, H⟩ := H
  refine GQ.region ?_
  refine SQ.m (.int .u8 x6) ?_
  refine SQ.m (.int .i64 3) ?_
  refine SQ.c [.int .i64 3] nc1 k42 ?_
  refine SQ.p (.bool ((x6 : Int) == 45)) ⟨trivial, trivial, rfl⟩ ?_
  refine SQ.nil ?_
  rcases X1 ((x6 : Int) == 45) with hb43 | hb43
  ·have H := H.1 hb43
   refine GQ.t hb43 ?_
   refine GQ.seq ?_
   obtain ⟨f44, x45, l46, c47, h48, w49, H⟩ := H
   refine GQ.region ?_
   refine SQ.m (.ref p 0 0) ?_
   refine SQ.n (0) f44 ?_
   refine SQ.f 1 (0) f44 ?_
   refine SQ.y l46 ?_
   refine SQ.p (.int .i64 (x45 + 1)) ⟨trivial, trivial, rfl, c47⟩ ?_
   refine SQ.n (0) f44 ?_
   refine SQ.f 1 (0) f44 ?_
   refine SQ.cons (av := .any) rfl (OStep.yes rfl (Y9 (r := p) (ver := 0) (off := 1) (n := 1) (v := .int .i64 (x45 + 1)) rfl (by kernel_rfl) (by kernel_rfl) (by kernel_rfl) ⟨trivial, rfl⟩ (by kernel_rfl) w49)) ?_
   refine SQ.nil ?_
   refine GQ.seq ?_
   obtain ⟨x50, k51, h52, k53, H⟩ := H
   refine GQ.region ?_
   refine SQ.m (.ref p 0 0) ?_
   refine SQ.m (.int .i64 3) ?_
   refine SQ.c [.int .i64 3] nc1 k51 ?_
   refine SQ.c [.ref p 0 0, .int .i64 x50] nc2 k53 ?_
   refine SQ.nil ?_
   refine GQ.seq ?_
   obtain ⟨f54, s55, n56, l57, r58, h59, w60, h61, s63, n64, w62, f65, f68, h66, w67, H⟩ := H
   refine GQ.region ?_
   refine SQ.m (.ref r1 v2 o3) ?_
   refine SQ.m (.ref r1 v2 o3) ?_
   refine SQ.n (o3) f54 ?_
   refine SQ.f 3 (o3) f54 ?_
   refine SQ.y l57 ?_
   refine SQ.m (.int .i64 3) ?_
   refine SQ.cons (av := .rsl r58 0 0 1) rfl (OStep.yes rfl (HStep.build (qs := [(0, .int .i64 3)]) (cs := [.int .i64 3]) (r := r58) rfl (Y8 (P := Tryd.prog) (t := 42) (e := 3) (k := 1) (bytes := 8) (z := [.int .i64 0]) (by kernel_rfl)) (by decide) (by kernel_rfl) (by simp only [X5, X4, or_false, forall_eq]; exact ⟨⟨trivial, rfl⟩, Y2l rfl⟩) (by kernel_rfl) (by simp only [X5, X4, or_false, forall_eq]; exact rfl) rfl w60)) ?_
   refine SQ.cons (av := s63) rfl (OStep.yes rfl (HStep.app (sv := s55) (xv := .rsl r58 0 0 1) (news := [.int .i64 3]) rfl (Y8 (P := Tryd.prog) (t := 42) (e := 3) (k := 1) (bytes := 8) (z := [.int .i64 0]) (by kernel_rfl)) (by kernel_rfl) (by kernel_rfl) trivial (SrcA.rsl (m := 1) (by kernel_rfl) (Nw.at w60) rfl rfl rfl (Xc rfl)) w62)) ?_
   refine SQ.n (o3) f65 ?_
   refine SQ.f 3 (o3) f65 ?_
   refine SQ.cons (av := .any) rfl (OStep.yes rfl (Y9 (r := r1) (ver := v2) (off := o3 + 3) (n := 1) (v := s63) rfl (by kernel_rfl) (by kernel_rfl) (by kernel_rfl) n64 (Y09 f68) w67)) ?_
   refine SQ.nil ?_
   refine GQ.seq ?_
   refine GQ.region ?_
   refine SQ.a (.int .i64 0) ?_
   refine SQ.nil ?_
   refine GQ.ret ?_
   exact EndK.ret (Qp := Qp) rfl H
  ·have H := H.2 hb43
   refine GQ.g hb43 ?_
   refine GQ.skip ?_
   refine GQ.region ?_
   refine SQ.p (.int .i64 2) ⟨trivial, trivial, rfl, by simp [okA]⟩ ?_
   refine SQ.m (.int .i64 2) ?_
   refine SQ.nil ?_
   refine GL.toE [(0, .ref p 0 0), (2, .int .i64 0), (3, .ref r1 v2 o3), (4, .int .u8 x6), (6, .int .i64 3), (12, .rsl r8 0 0 4), (13, .int .i64 4), (14, .int .i64 2), (15, .bool true), (21, .bool ((x6 : Int) == 45))] (by kernel_rfl) ?_
   refine GL.step ?_
   refine GQ.seq ?_
   refine GQ.region ?_
   refine SQ.p (.bool true) ⟨trivial, trivial, rfl⟩ ?_
   refine SQ.nil ?_
   refine GQ.seq ?_
   refine GQ.cond (b := true) (by kernel_rfl) (fun _ => ?_) (fun e => by cases e)
   refine GQ.skip ?_
   refine GQ.seq ?_
   refine GQ.block ?_
   refine GQ.seq ?_
   obtain ⟨l69, H⟩ := H
   refine GQ.region ?_
   refine SQ.cons (av := .ref r8 0 2) rfl (OStep.yes rfl (HStep.ix (kk := .i64) (s := .rsl r8 0 0 4) (j := 2) (k := 1) rfl (by kernel_rfl) (by kernel_rfl) (by kernel_rfl) (by kernel_rfl) (.inl ⟨_, _, _, _, rfl, f12, by decide, by decide, rfl⟩))) ?_
   refine SQ.y l69 ?_
   refine SQ.a (.int .i64 4) ?_
   refine SQ.nil ?_
   refine GQ.seq ?_
   obtain ⟨k70, H⟩ := H
   refine GQ.region ?_
   refine SQ.m (.int .u8 x6) ?_
   refine SQ.m (.int .i64 4) ?_
   refine SQ.c [.int .i64 4] nc1 k70 ?_
   refine SQ.p (.bool ((x6 : Int) == 42)) ⟨trivial, trivial, rfl⟩ ?_
   refine SQ.nil ?_
   rcases X1 ((x6 : Int) == 42) with hb71 | hb71
   ·have H := H.1 hb71
    refine GQ.t hb71 ?_
    refine GQ.seq ?_
    obtain ⟨f72, x73, l74, c75, h76, w77, H⟩ := H
    refine GQ.region ?_
    refine SQ.m (.ref p 0 0) ?_
    refine SQ.n (0) f72 ?_
    refine SQ.f 1 (0) f72 ?_
    refine SQ.y l74 ?_
    refine SQ.p (.int .i64 (x73 + 1)) ⟨trivial, trivial, rfl, c75⟩ ?_
    refine SQ.n (0) f72 ?_
    refine SQ.f 1 (0) f72 ?_
    refine SQ.cons (av := .any) rfl (OStep.yes rfl (Y9 (r := p) (ver := 0) (off := 1) (n := 1) (v := .int .i64 (x73 + 1)) rfl (by kernel_rfl) (by kernel_rfl) (by kernel_rfl) ⟨trivial, rfl⟩ (by kernel_rfl) w77)) ?_
    refine SQ.nil ?_
    refine GQ.seq ?_
    obtain ⟨x78, k79, h80, k81, H⟩ := H
    refine GQ.region ?_
    refine SQ.m (.ref p 0 0) ?_
    refine SQ.m (.int .i64 4) ?_
    refine SQ.c [.int .i64 4] nc1 k79 ?_
    refine SQ.c [.ref p 0 0, .int .i64 x78] nc2 k81 ?_
    refine SQ.nil ?_
    refine GQ.seq ?_
    obtain ⟨f82, s83, n84, l85, r86, h87, w88, h89, s91, n92, w90, f93, f96, h94, w95, H⟩ := H
    refine GQ.region ?_
    refine SQ.m (.ref r1 v2 o3) ?_
    refine SQ.m (.ref r1 v2 o3) ?_
    refine SQ.n (o3) f82 ?_
    refine SQ.f 3 (o3) f82 ?_
    refine SQ.y l85 ?_
    refine SQ.m (.int .i64 4) ?_
    refine SQ.cons (av := .rsl r86 0 0 1) rfl (OStep.yes rfl (HStep.build (qs := [(0, .int .i64 4)]) (cs := [.int .i64 4]) (r := r86) rfl (Y8 (P := Tryd.prog) (t := 42) (e := 3) (k := 1) (bytes := 8) (z := [.int .i64 0]) (by kernel_rfl)) (by decide) (by kernel_rfl) (by simp only [X5, X4, or_false, forall_eq]; exact ⟨⟨trivial, rfl⟩, Y2l rfl⟩) (by kernel_rfl) (by simp only [X5, X4, or_false, forall_eq]; exact rfl) rfl w88)) ?_
    refine SQ.cons (av := s91) rfl (OStep.yes rfl (HStep.app (sv := s83) (xv := .rsl r86 0 0 1) (news := [.int .i64 4]) rfl (Y8 (P := Tryd.prog) (t := 42) (e := 3) (k := 1) (bytes := 8) (z := [.int .i64 0]) (by kernel_rfl)) (by kernel_rfl) (by kernel_rfl) trivial (SrcA.rsl (m := 1) (by kernel_rfl) (Nw.at w88) rfl rfl rfl (Xc rfl)) w90)) ?_
    refine SQ.n (o3) f93 ?_
    refine SQ.f 3 (o3) f93 ?_
    refine SQ.cons (av := .any) rfl (OStep.yes rfl (Y9 (r := r1) (ver := v2) (off := o3 + 3) (n := 1) (v := s91) rfl (by kernel_rfl) (by kernel_rfl) (by kernel_rfl) n92 (Y09 f96) w95)) ?_
    refine SQ.nil ?_
    refine GQ.seq ?_
    refine GQ.region ?_
    refine SQ.a (.int .i64 0) ?_
    refine SQ.nil ?_
    refine GQ.ret ?_
    exact EndK.ret (Qp := Qp) rfl H
   ·have H := H.2 hb71
    refine GQ.g hb71 ?_
    refine GQ.skip ?_
    refine GQ.region ?_
    refine SQ.p (.int .i64 3) ⟨trivial, trivial, rfl, by simp [okA]⟩ ?_
    refine SQ.m (.int .i64 3) ?_
    refine SQ.nil ?_
    refine GL.toE [(0, .ref p 0 0), (2, .int .i64 0), (3, .ref r1 v2 o3), (4, .int .u8 x6), (6, .int .i64 4), (12, .rsl r8 0 0 4), (13, .int .i64 4), (14, .int .i64 3), (15, .bool true), (21, .bool ((x6 : Int) == 42))] (by kernel_rfl) ?_
    refine GL.step ?_
    refine GQ.seq ?_
    refine GQ.region ?_
    refine SQ.p (.bool true) ⟨trivial, trivial, rfl⟩ ?_
    refine SQ.nil ?_
    refine GQ.seq ?_
    refine GQ.cond (b := true) (by kernel_rfl) (fun _ => ?_) (fun e => by cases e)
    refine GQ.skip ?_
    refine GQ.seq ?_
    refine GQ.block ?_
    refine GQ.seq ?_
    obtain ⟨l97, H⟩ := H
    refine GQ.region ?_
    refine SQ.cons (av := .ref r8 0 3) rfl (OStep.yes rfl (HStep.ix (kk := .i64) (s := .rsl r8 0 0 4) (j := 3) (k := 1) rfl (by kernel_rfl) (by kernel_rfl) (by kernel_rfl) (by kernel_rfl) (.inl ⟨_, _, _, _, rfl, f12, by decide, by decide, rfl⟩))) ?_
    refine SQ.y l97 ?_
    refine SQ.a (.int .i64 5) ?_
    refine SQ.nil ?_
    refine GQ.seq ?_
    obtain ⟨k98, H⟩ := H
    refine GQ.region ?_
    refine SQ.m (.int .u8 x6) ?_
    refine SQ.m (.int .i64 5) ?_
    refine SQ.c [.int .i64 5] nc1 k98 ?_
    refine SQ.p (.bool ((x6 : Int) == 61)) ⟨trivial, trivial, rfl⟩ ?_
    refine SQ.nil ?_
    rcases X1 ((x6 : Int) == 61) with hb99 | hb99
    ·have H := H.1 hb99
     refine GQ.t hb99 ?_
     refine GQ.seq ?_
     obtain ⟨f100, x101, l102, c103, h104, w105, H⟩ := H
     refine GQ.region ?_
     refine SQ.m (.ref p 0 0) ?_
     refine SQ.n (0) f100 ?_
     refine SQ.f 1 (0) f100 ?_
     refine SQ.y l102 ?_
     refine SQ.p (.int .i64 (x101 + 1)) ⟨trivial, trivial, rfl, c103⟩ ?_
     refine SQ.n (0) f100 ?_
     refine SQ.f 1 (0) f100 ?_
     refine SQ.cons (av := .any) rfl (OStep.yes rfl (Y9 (r := p) (ver := 0) (off := 1) (n := 1) (v := .int .i64 (x101 + 1)) rfl (by kernel_rfl) (by kernel_rfl) (by kernel_rfl) ⟨trivial, rfl⟩ (by kernel_rfl) w105)) ?_
     refine SQ.nil ?_
     refine GQ.seq ?_
     obtain ⟨x106, k107, h108, k109, H⟩ := H
     refine GQ.region ?_
     refine SQ.m (.ref p 0 0) ?_
     refine SQ.m (.int .i64 5) ?_
     refine SQ.c [.int .i64 5] nc1 k107 ?_
     refine SQ.c [.ref p 0 0, .int .i64 x106] nc2 k109 ?_
     refine SQ.nil ?_
     refine GQ.seq ?_
     obtain ⟨f110, s111, n112, l113, r114, h115, w116, h117, s119, n120, w118, f121, f124, h122, w123, H⟩ := H
     refine GQ.region ?_
     refine SQ.m (.ref r1 v2 o3) ?_
     refine SQ.m (.ref r1 v2 o3) ?_
     refine SQ.n (o3) f110 ?_
     refine SQ.f 3 (o3) f110 ?_
     refine SQ.y l113 ?_
     refine SQ.m (.int .i64 5) ?_
     refine SQ.cons (av := .rsl r114 0 0 1) rfl (OStep.yes rfl (HStep.build (qs := [(0, .int .i64 5)]) (cs := [.int .i64 5]) (r := r114) rfl (Y8 (P := Tryd.prog) (t := 42) (e := 3) (k := 1) (bytes := 8) (z := [.int .i64 0]) (by kernel_rfl)) (by decide) (by kernel_rfl) (by simp only [X5, X4, or_false, forall_eq]; exact ⟨⟨trivial, rfl⟩, Y2l rfl⟩) (by kernel_rfl) (by simp only [X5, X4, or_false, forall_eq]; exact rfl) rfl w116)) ?_
     refine SQ.cons (av := s119) rfl (OStep.yes rfl (HStep.app (sv := s111) (xv := .rsl r114 0 0 1) (news := [.int .i64 5]) rfl (Y8 (P := Tryd.prog) (t := 42) (e := 3) (k := 1) (bytes := 8) (z := [.int .i64 0]) (by kernel_rfl)) (by kernel_rfl) (by kernel_rfl) trivial (SrcA.rsl (m := 1) (by kernel_rfl) (Nw.at w116) rfl rfl rfl (Xc rfl)) w118)) ?_
     refine SQ.n (o3) f121 ?_
     refine SQ.f 3 (o3) f121 ?_
     refine SQ.cons (av := .any) rfl (OStep.yes rfl (Y9 (r := r1) (ver := v2) (off := o3 + 3) (n := 1) (v := s119) rfl (by kernel_rfl) (by kernel_rfl) (by kernel_rfl) n120 (Y09 f124) w123)) ?_
     refine SQ.nil ?_
     refine GQ.seq ?_
     refine GQ.region ?_
     refine SQ.a (.int .i64 0) ?_
     refine SQ.nil ?_
     refine GQ.ret ?_
     exact EndK.ret (Qp := Qp) rfl H
    ·have H := H.2 hb99
     refine GQ.g hb99 ?_
     refine GQ.skip ?_
     refine GQ.region ?_
     refine SQ.p (.int .i64 4) ⟨trivial, trivial, rfl, by simp [okA]⟩ ?_
     refine SQ.m (.int .i64 4) ?_
     refine SQ.nil ?_
     refine GL.toE [(0, .ref p 0 0), (2, .int .i64 0), (3, .ref r1 v2 o3), (4, .int .u8 x6), (6, .int .i64 5), (12, .rsl r8 0 0 4), (13, .int .i64 4), (14, .int .i64 4), (15, .bool true), (21, .bool ((x6 : Int) == 61))] (by kernel_rfl) ?_
     refine GL.step ?_
     refine GQ.seq ?_
     refine GQ.region ?_
     refine SQ.p (.bool false) ⟨trivial, trivial, rfl⟩ ?_
     refine SQ.nil ?_
     refine GQ.seq ?_
     refine GQ.cond (b := false) (by kernel_rfl) (fun e => by cases e) (fun _ => ?_)
     refine GQ.exit ?_
     refine GQ.seq ?_
     refine GQ.seq ?_
     obtain ⟨f125, x126, l127, H⟩ := H
     refine GQ.region ?_
     refine SQ.m (.ref r1 v2 o3) ?_
     refine SQ.n (o3) f125 ?_
     refine SQ.f 0 (o3) f125 ?_
     refine SQ.y l127 ?_
     refine SQ.p (.bool ((x126 : Int) == (-1))) ⟨trivial, trivial, rfl⟩ ?_
     refine SQ.nil ?_
     rcases X1 ((x126 : Int) == (-1)) with hb128 | hb128
     ·have H := H.1 hb128
      refine GQ.t hb128 ?_
      refine GQ.seq ?_
      refine GQ.seq ?_
      obtain ⟨f129, x130, l131, t132, l133, H⟩ := H
      refine GQ.draw Tryd.checked.mixed (by kernel_rfl) [.ref p 0 0, .ref p 0 0, .ref p 0 1, .int .i64 x130, .ref p 0 0, .ref p 0 0, .ref p 0 0, .string t132, .int .i64 ((t132).size : Nat), .bool (decide ((x130 : Int) < ((t132).size : Nat)))] [] [h9] h9 (by kernel_rfl) (by kernel_rfl) rfl rfl ?_ ?_
      ·refine DObl.m (.ref p 0 0) ?_
       refine DObl.y 0 (HStep.n (0) f129) ?_
       refine DObl.y 0 (HStep.f 1 (0) f129) ?_
       refine DObl.y 0 (HStep.y l131) ?_
       refine DObl.m (.ref p 0 0) ?_
       refine DObl.y 0 (HStep.n (0) f129) ?_
       refine DObl.y 0 (HStep.f 0 (0) f129) ?_
       refine DObl.y 0 (HStep.y l133) ?_
       refine DObl.z (fun _ => (HStep.lenS (s := t132) rfl (by kernel_rfl) (by kernel_rfl))) ?_
       refine DObl.z (fun _ => (Y6 (av := .bool (decide ((x130 : Int) < ((t132).size : Nat)))) ⟨trivial, trivial, rfl⟩ (by kernel_rfl))) ?_
       exact DObl.nil
      rcases X1 (decide ((x130 : Int) < ((t132).size : Nat))) with hb134 | hb134
      ·have H := H.1 hb134
       refine GQ.t hb134 ?_
       rcases H with H | H
       ·skip
        obtain ⟨h138, k139, H⟩ := H
        refine GQ.region ?_
        refine SQ.m (.ref p 0 0) ?_
        refine SQ.c [.ref p 0 0] nc1 k139 ?_
        refine SQ.nil ?_
        refine GQ.seq ?_
        refine GQ.region ?_
        refine SQ.a (.int .i64 2) ?_
        refine SQ.nil ?_
        refine GQ.ret ?_
        exact EndK.ret (Qp := Qp) rfl H
       ·skip
        obtain ⟨h135, ch136, k137, H⟩ := H
        refine GQ.region ?_
        refine SQ.m (.ref p 0 0) ?_
        refine Y1n (OPan.yes rfl (HPan.call (vs := [.ref p 0 0]) rfl (by kernel_rfl) (by kernel_rfl) nc1 k137)) ?_
        exact H
      ·have H := H.2 hb134
       refine GQ.g hb134 ?_
       refine GQ.skip ?_
       refine GQ.seq ?_
       refine GQ.region ?_
       refine SQ.a (.int .i64 2) ?_
       refine SQ.nil ?_
       refine GQ.ret ?_
       exact EndK.ret (Qp := Qp) rfl H
     ·have H := H.2 hb128
      refine GQ.g hb128 ?_
      refine GQ.skip ?_
      refine GQ.seq ?_
      refine GQ.seq ?_
      refine GQ.region ?_
      refine SQ.m (.ref r1 v2 o3) ?_
      refine SQ.n (o3) f125 ?_
      refine SQ.f 0 (o3) f125 ?_
      refine SQ.y l127 ?_
      refine SQ.p (.bool ((x126 : Int) == 13)) ⟨trivial, trivial, rfl⟩ ?_
      refine SQ.nil ?_
      rcases X1 ((x126 : Int) == 13) with hb140 | hb140
      ·have H := H.1 hb140
       refine GQ.t hb140 ?_
       refine GQ.seq ?_
       rcases H with H | H
       ·skip
        obtain ⟨h144, x145, k146, H⟩ := H
        refine GQ.region ?_
        refine SQ.m (.ref p 0 0) ?_
        refine SQ.c [.ref p 0 0] nc1 k146 ?_
        refine SQ.a (.int .i64 x145) ?_
        refine SQ.nil ?_
        refine GQ.ret ?_
        exact EndK.ret (Qp := Qp) rfl H
       ·skip
        obtain ⟨h141, ch142, k143, H⟩ := H
        refine GQ.region ?_
        refine SQ.m (.ref p 0 0) ?_
        refine Y1n (OPan.yes rfl (HPan.call (vs := [.ref p 0 0]) rfl (by kernel_rfl) (by kernel_rfl) nc1 k143)) ?_
        exact H
      ·have H := H.2 hb140
       refine GQ.g hb140 ?_
       refine GQ.skip ?_
       refine GQ.seq ?_
       refine GQ.region ?_
       refine SQ.a (.int .i64 1) ?_
       refine SQ.nil ?_
       refine GQ.seq ?_
       obtain ⟨J147, HR148, H⟩ := H
       refine GQ.seqJ (fun e h' => ∃ (y150 : Bool), Env.le e [(0, .ref p 0 0), (2, .int .i64 0), (3, .ref r1 v2 o3), (4, .int .u8 x6), (6, .int .i64 5), (7, .int .i64 1), (12, .rsl r8 0 0 4), (13, .int .i64 4), (14, .int .i64 4), (15, .bool false), (21, .bool ((x6 : Int) == 61)), (48, .bool ((x126 : Int) == (-1))), (65, .bool ((x126 : Int) == 13)), (86, .bool y150)] ∧ h9 = h' ∧ J147 y150) ?_ ?_
       ·skip
        rcases X1 ((x126 : Int) == 6) with hb151 | hb151
        ·have H := H.1 hb151
         refine GQ.region ?_
         refine SQ.m (.ref r1 v2 o3) ?_
         refine SQ.n (o3) f125 ?_
         refine SQ.f 0 (o3) f125 ?_
         refine SQ.y l127 ?_
         refine SQ.cons (av := .bool true) rfl (OStep.yes rfl (Y0p (Y6 (av := .bool ((x126 : Int) == 6)) ⟨trivial, trivial, rfl⟩ (by kernel_rfl)) hb151)) ?_
         refine SQ.m (.bool true) ?_
         refine SQ.cons (av := undA) rfl (OStep.no rfl) ?_
         refine SQ.cons (av := undA) rfl (OStep.no rfl) ?_
         refine SQ.cons (av := undA) rfl (OStep.no rfl) ?_
         refine SQ.cons (av := undA) rfl (OStep.no rfl) ?_
         refine SQ.cons (av := undA) rfl (OStep.no rfl) ?_
         refine SQ.cons (av := .bool true) rfl (OStep.yes rfl (Yl (s := .bool true) rfl (by kernel_rfl) (by kernel_rfl) ⟨trivial, rfl⟩)) ?_
         refine SQ.m (.bool true) ?_
         refine SQ.cons (av := undA) rfl (OStep.no rfl) ?_
         refine SQ.cons (av := undA) rfl (OStep.no rfl) ?_
         refine SQ.cons (av := undA) rfl (OStep.no rfl) ?_
         refine SQ.cons (av := undA) rfl (OStep.no rfl) ?_
         refine SQ.cons (av := undA) rfl (OStep.no rfl) ?_
         refine SQ.cons (av := .bool true) rfl (OStep.yes rfl (Yl (s := .bool true) rfl (by kernel_rfl) (by kernel_rfl) ⟨trivial, rfl⟩)) ?_
         refine SQ.nil ?_
         exact ⟨true, Y5 (by kernel_rfl), rfl, H⟩
        ·have H := H.2 hb151
         rcases X1 ((x126 : Int) == 7) with hb152 | hb152
         ·have H := H.1 hb152
          refine GQ.region ?_
          refine SQ.m (.ref r1 v2 o3) ?_
          refine SQ.n (o3) f125 ?_
          refine SQ.f 0 (o3) f125 ?_
          refine SQ.y l127 ?_
          refine SQ.cons (av := .bool false) rfl (OStep.yes rfl (Y0c (Y6 (av := .bool ((x126 : Int) == 6)) ⟨trivial, trivial, rfl⟩ (by kernel_rfl)) hb151)) ?_
          refine SQ.m (.bool false) ?_
          refine SQ.m (.ref r1 v2 o3) ?_
          refine SQ.n (o3) f125 ?_
          refine SQ.f 0 (o3) f125 ?_
          refine SQ.y l127 ?_
          refine SQ.cons (av := .bool true) rfl (OStep.yes rfl (Y0p (Y6 (av := .bool ((x126 : Int) == 7)) ⟨trivial, trivial, rfl⟩ (by kernel_rfl)) hb152)) ?_
          refine SQ.cons (av := .bool true) rfl (OStep.yes rfl (Yh (s := .bool true) rfl (by kernel_rfl) (by kernel_rfl) ⟨trivial, rfl⟩)) ?_
          refine SQ.m (.bool true) ?_
          refine SQ.cons (av := undA) rfl (OStep.no rfl) ?_
          refine SQ.cons (av := undA) rfl (OStep.no rfl) ?_
          refine SQ.cons (av := undA) rfl (OStep.no rfl) ?_
          refine SQ.cons (av := undA) rfl (OStep.no rfl) ?_
          refine SQ.cons (av := undA) rfl (OStep.no rfl) ?_
          refine SQ.cons (av := .bool true) rfl (OStep.yes rfl (Yl (s := .bool true) rfl (by kernel_rfl) (by kernel_rfl) ⟨trivial, rfl⟩)) ?_
          refine SQ.nil ?_
          exact ⟨true, Y5 (by kernel_rfl), rfl, H⟩
         ·have H := H.2 hb152
          refine GQ.region ?_
          refine SQ.m (.ref r1 v2 o3) ?_
          refine SQ.n (o3) f125 ?_
          refine SQ.f 0 (o3) f125 ?_
          refine SQ.y l127 ?_
          refine SQ.cons (av := .bool false) rfl (OStep.yes rfl (Y0c (Y6 (av := .bool ((x126 : Int) == 6)) ⟨trivial, trivial, rfl⟩ (by kernel_rfl)) hb151)) ?_
          refine SQ.m (.bool false) ?_
          refine SQ.m (.ref r1 v2 o3) ?_
          refine SQ.n (o3) f125 ?_
          refine SQ.f 0 (o3) f125 ?_
          refine SQ.y l127 ?_
          refine SQ.cons (av := .bool false) rfl (OStep.yes rfl (Y0c (Y6 (av := .bool ((x126 : Int) == 7)) ⟨trivial, trivial, rfl⟩ (by kernel_rfl)) hb152)) ?_
          refine SQ.cons (av := .bool false) rfl (OStep.yes rfl (Yh (s := .bool false) rfl (by kernel_rfl) (by kernel_rfl) ⟨trivial, rfl⟩)) ?_
          refine SQ.m (.bool false) ?_
          refine SQ.m (.ref r1 v2 o3) ?_
          refine SQ.n (o3) f125 ?_
          refine SQ.f 0 (o3) f125 ?_
          refine SQ.y l127 ?_
          refine SQ.p (.bool ((x126 : Int) == 8)) ⟨trivial, trivial, rfl⟩ ?_
          refine SQ.cons (av := .bool ((x126 : Int) == 8)) rfl (OStep.yes rfl (Yh (s := .bool ((x126 : Int) == 8)) rfl (by kernel_rfl) (by kernel_rfl) ⟨trivial, rfl⟩)) ?_
          refine SQ.nil ?_
          exact ⟨((x126 : Int) == 8), Y5 (by kernel_rfl), rfl, H⟩
       clear H
       rintro _ _ ⟨y150, hle, rfl, HJ149⟩
       have H := HR148 y150 HJ149
       refine GQ.weaken _ hle ?_
       rcases X1 (y150) with hb153 | hb153
       ·have H := H.1 hb153
        refine GQ.t hb153 ?_
        refine GQ.region ?_
        refine SQ.a (.int .i64 2) ?_
        refine SQ.nil ?_
        refine GQ.seq ?_
        refine GQ.seq ?_
        obtain ⟨s154, n155, l156, n157, g158, c159, H⟩ := H
        refine GQ.region ?_
        refine SQ.m (.ref r1 v2 o3) ?_
        refine SQ.n (o3) f125 ?_
        refine SQ.f 1 (o3) f125 ?_
        refine SQ.y l156 ?_
        refine SQ.cons (av := .int .i64 ((n157 : Nat) : Int)) rfl (OStep.yes rfl (HStep.len (s := s154) (n := n157) rfl (by kernel_rfl) (by kernel_rfl) g158)) ?_
        refine SQ.p (.int .i64 (((n157 : Nat) : Int) + 1)) ⟨trivial, trivial, rfl, c159⟩ ?_
        refine SQ.m (.int .i64 2) ?_
        refine SQ.p (.bool (decide ((((n157 : Nat) : Int) + 1 : Int) < 2))) ⟨trivial, trivial, rfl⟩ ?_
        refine SQ.nil ?_
        rcases X1 (decide ((((n157 : Nat) : Int) + 1 : Int) < 2)) with hb160 | hb160
        ·have H := H.1 hb160
         refine GQ.t hb160 ?_
         refine GQ.seq ?_
         rcases H with H | H
         ·skip
          obtain ⟨h164, k165, H⟩ := H
          refine GQ.region ?_
          refine SQ.m (.ref p 0 0) ?_
          refine SQ.c [.ref p 0 0, .int .u8 44] nc2 k165 ?_
          refine SQ.nil ?_
          refine GQ.seq ?_
          obtain ⟨f166, s167, n168, l169, h170, x171, k172, r173, h174, w175, h176, s178, n179, w177, f180, f183, h181, w182, f184, f185, l186, l187, H⟩ := H
          refine GQ.draw Tryd.checked.mixed (by kernel_rfl) [.ref r1 v2 o3, .ref r1 v2 o3, .ref r1 v2 o3, .ref r1 v2 (o3 + 1), s167, .ref p 0 0, .int .i64 x171, .rsl r173 0 0 1, s178, .ref r1 v2 o3, .ref r1 v2 (o3 + 1), .any] [6, 7, 8, 11] [h164, h170, h174, h176, h181] h181 (by kernel_rfl) (by kernel_rfl) rfl rfl ?_ ?_
          ·refine DObl.m (.ref r1 v2 o3) ?_
           refine DObl.m (.ref r1 v2 o3) ?_
           refine Y0d 0 1 2 (by kernel_rfl) (by kernel_rfl) (OStep.yes rfl (HStep.n (o3) f166)) (OStep.yes rfl (HStep.n (o3) f184)) (OStep.yes rfl (HStep.n (o3) f185)) ?_
           refine Y0d 0 1 2 (by kernel_rfl) (by kernel_rfl) (OStep.yes rfl (HStep.f 1 (o3) f166)) (OStep.yes rfl (HStep.f 1 (o3) f184)) (OStep.yes rfl (HStep.f 1 (o3) f185)) ?_
           refine Y0d 0 1 2 (by kernel_rfl) (by kernel_rfl) (OStep.yes rfl (HStep.y l169)) (OStep.yes rfl (HStep.y l186)) (OStep.yes rfl (HStep.y l187)) ?_
           refine DObl.m (.ref p 0 0) ?_
           refine DObl.hv 0 (by kernel_rfl) (OStep.yes rfl (HStep.call (vs := [.ref p 0 0]) rfl (by kernel_rfl) (by kernel_rfl) nc1 k172)) ?_
           refine DObl.hv 1 (by kernel_rfl) (OStep.yes rfl (HStep.build (qs := [(0, .int .i64 x171)]) (cs := [.int .i64 x171]) (r := r173) rfl (Y8 (P := Tryd.prog) (t := 42) (e := 3) (k := 1) (bytes := 8) (z := [.int .i64 0]) (by kernel_rfl)) (by decide) (by kernel_rfl) (by simp only [X5, X4, or_false, forall_eq]; exact ⟨⟨trivial, rfl⟩, Y2l rfl⟩) (by kernel_rfl) (by simp only [X5, X4, or_false, forall_eq]; exact rfl) rfl w175)) ?_
           refine DObl.hv 2 (by kernel_rfl) (OStep.yes rfl (HStep.app (sv := s167) (xv := .rsl r173 0 0 1) (news := [.int .i64 x171]) rfl (Y8 (P := Tryd.prog) (t := 42) (e := 3) (k := 1) (bytes := 8) (z := [.int .i64 0]) (by kernel_rfl)) (by kernel_rfl) (by kernel_rfl) trivial (SrcA.rsl (m := 1) (by kernel_rfl) (Nw.at w175) rfl rfl rfl (Xc rfl)) w177)) ?_
           refine DObl.y 3 (HStep.n (o3) f180) ?_
           refine DObl.y 3 (HStep.f 1 (o3) f180) ?_
           refine DObl.hv 3 (by kernel_rfl) (OStep.yes rfl (Y9 (r := r1) (ver := v2) (off := o3 + 1) (n := 1) (v := s178) rfl (by kernel_rfl) (by kernel_rfl) (by kernel_rfl) n179 (Y09 f183) w182)) ?_
           exact DObl.nil
          refine GQ.seq ?_
          refine GQ.region ?_
          refine SQ.a (.int .i64 0) ?_
          refine SQ.nil ?_
          refine GQ.ret ?_
          exact EndK.ret (Qp := Qp) rfl H
         ·skip
          obtain ⟨h161, ch162, k163, H⟩ := H
          refine GQ.region ?_
          refine SQ.m (.ref p 0 0) ?_
          refine Y1n (OPan.yes rfl (HPan.call (vs := [.ref p 0 0, .int .u8 44]) rfl (by kernel_rfl) (by kernel_rfl) nc2 k163)) ?_
          exact H
        ·have H := H.2 hb160
         refine GQ.g hb160 ?_
         refine GQ.skip ?_
         refine GQ.seq ?_
         rcases H with H | H
         ·skip
          obtain ⟨h191, k192, H⟩ := H
          refine GQ.region ?_
          refine SQ.m (.ref p 0 0) ?_
          refine SQ.c [.ref p 0 0, .int .u8 41] nc2 k192 ?_
          refine SQ.nil ?_
          refine GQ.seq ?_
          obtain ⟨f193, s194, n195, l196, h197, x198, k199, r200, h201, w202, h203, s205, n206, w204, f207, f210, h208, w209, f211, f212, l213, l214, H⟩ := H
          refine GQ.draw Tryd.checked.mixed (by kernel_rfl) [.ref r1 v2 o3, .ref r1 v2 o3, .ref r1 v2 o3, .ref r1 v2 (o3 + 1), s194, .ref p 0 0, .int .i64 x198, .rsl r200 0 0 1, s205, .ref r1 v2 o3, .ref r1 v2 (o3 + 1), .any] [6, 7, 8, 11] [h191, h197, h201, h203, h208] h208 (by kernel_rfl) (by kernel_rfl) rfl rfl ?_ ?_
          ·refine DObl.m (.ref r1 v2 o3) ?_
           refine DObl.m (.ref r1 v2 o3) ?_
           refine Y0d 0 1 2 (by kernel_rfl) (by kernel_rfl) (OStep.yes rfl (HStep.n (o3) f193)) (OStep.yes rfl (HStep.n (o3) f211)) (OStep.yes rfl (HStep.n (o3) f212)) ?_
           refine Y0d 0 1 2 (by kernel_rfl) (by kernel_rfl) (OStep.yes rfl (HStep.f 1 (o3) f193)) (OStep.yes rfl (HStep.f 1 (o3) f211)) (OStep.yes rfl (HStep.f 1 (o3) f212)) ?_
           refine Y0d 0 1 2 (by kernel_rfl) (by kernel_rfl) (OStep.yes rfl (HStep.y l196)) (OStep.yes rfl (HStep.y l213)) (OStep.yes rfl (HStep.y l214)) ?_
           refine DObl.m (.ref p 0 0) ?_
           refine DObl.hv 0 (by kernel_rfl) (OStep.yes rfl (HStep.call (vs := [.ref p 0 0]) rfl (by kernel_rfl) (by kernel_rfl) nc1 k199)) ?_
           refine DObl.hv 1 (by kernel_rfl) (OStep.yes rfl (HStep.build (qs := [(0, .int .i64 x198)]) (cs := [.int .i64 x198]) (r := r200) rfl (Y8 (P := Tryd.prog) (t := 42) (e := 3) (k := 1) (bytes := 8) (z := [.int .i64 0]) (by kernel_rfl)) (by decide) (by kernel_rfl) (by simp only [X5, X4, or_false, forall_eq]; exact ⟨⟨trivial, rfl⟩, Y2l rfl⟩) (by kernel_rfl) (by simp only [X5, X4, or_false, forall_eq]; exact rfl) rfl w202)) ?_
           refine DObl.hv 2 (by kernel_rfl) (OStep.yes rfl (HStep.app (sv := s194) (xv := .rsl r200 0 0 1) (news := [.int .i64 x198]) rfl (Y8 (P := Tryd.prog) (t := 42) (e := 3) (k := 1) (bytes := 8) (z := [.int .i64 0]) (by kernel_rfl)) (by kernel_rfl) (by kernel_rfl) trivial (SrcA.rsl (m := 1) (by kernel_rfl) (Nw.at w202) rfl rfl rfl (Xc rfl)) w204)) ?_
           refine DObl.y 3 (HStep.n (o3) f207) ?_
           refine DObl.y 3 (HStep.f 1 (o3) f207) ?_
           refine DObl.hv 3 (by kernel_rfl) (OStep.yes rfl (Y9 (r := r1) (ver := v2) (off := o3 + 1) (n := 1) (v := s205) rfl (by kernel_rfl) (by kernel_rfl) (by kernel_rfl) n206 (Y09 f210) w209)) ?_
           exact DObl.nil
          refine GQ.seq ?_
          obtain ⟨f215, s216, n217, l218, n219, g220, c221, s222, n223, i224, f227, h225, w226, H⟩ := H
          refine GQ.draw Tryd.checked.mixed (by kernel_rfl) [.ref p 0 0, .ref p 0 0, .ref p 0 0, .ref p 0 3, s216, .ref p 0 0, .ref p 0 0, .ref p 0 3, s216, .int .i64 ((n219 : Nat) : Int), .int .i64 (((n219 : Nat) : Int) - 1), s222, .ref p 0 0, .ref p 0 3, .any] [14] [h208, h225] h225 (by kernel_rfl) (by kernel_rfl) rfl rfl ?_ ?_
          ·refine DObl.m (.ref p 0 0) ?_
           refine DObl.m (.ref p 0 0) ?_
           refine DObl.y 0 (HStep.n (0) f215) ?_
           refine DObl.y 0 (HStep.f 3 (0) f215) ?_
           refine DObl.y 0 (HStep.y l218) ?_
           refine DObl.m (.ref p 0 0) ?_
           refine DObl.y 0 (HStep.n (0) f215) ?_
           refine DObl.y 0 (HStep.f 3 (0) f215) ?_
           refine DObl.y 0 (HStep.y l218) ?_
           refine DObl.y 0 (HStep.len (s := s216) (n := n219) rfl (by kernel_rfl) (by kernel_rfl) g220) ?_
           refine DObl.z (fun _ => (Y6 (av := .int .i64 (((n219 : Nat) : Int) - 1)) ⟨trivial, trivial, rfl, c221⟩ (by kernel_rfl))) ?_
           refine DObl.y 0 (HStep.cut (kk := .i64) (s := s216) (j := ((n219 : Nat) : Int) - 1) (k := 7) rfl (by kernel_rfl) (by kernel_rfl) (by kernel_rfl) (by kernel_rfl) i224) ?_
           refine DObl.y 0 (HStep.n (0) f215) ?_
           refine DObl.y 0 (HStep.f 3 (0) f215) ?_
           refine DObl.hv 0 (by kernel_rfl) (OStep.yes rfl (Y9 (r := p) (ver := 0) (off := 3) (n := 1) (v := s222) rfl (by kernel_rfl) (by kernel_rfl) (by kernel_rfl) n223 (Y09 f227) w226)) ?_
           exact DObl.nil
          refine GQ.seq ?_
          obtain ⟨f228, x229, l230, s231, n232, l233, h234, x235, k236, h237, k238, H⟩ := H
          refine GQ.draw Tryd.checked.mixed (by kernel_rfl) [.ref p 0 0, .ref p 0 0, .ref r1 v2 o3, .ref r1 v2 o3, .ref r1 v2 (o3 + 0), .int .i64 x229, .ref r1 v2 o3, .ref r1 v2 o3, .ref r1 v2 (o3 + 1), s231, .int .i64 x235, .tup []] [10, 11] [h225, h234, h237] h237 (by kernel_rfl) (by kernel_rfl) rfl rfl ?_ ?_
          ·refine DObl.m (.ref p 0 0) ?_
           refine DObl.m (.ref p 0 0) ?_
           refine DObl.m (.ref r1 v2 o3) ?_
           refine DObl.y 0 (HStep.n (o3) f228) ?_
           refine DObl.y 0 (HStep.f 0 (o3) f228) ?_
           refine DObl.y 0 (HStep.y l230) ?_
           refine DObl.m (.ref r1 v2 o3) ?_
           refine DObl.y 0 (HStep.n (o3) f228) ?_
           refine DObl.y 0 (HStep.f 1 (o3) f228) ?_
           refine DObl.y 0 (HStep.y l233) ?_
           refine DObl.hv 0 (by kernel_rfl) (OStep.yes rfl (HStep.call (vs := [.ref p 0 0, .int .i64 x229, .int .i64 0, s231]) rfl (by kernel_rfl) (by kernel_rfl) (by simp only [X5, X4, or_false, forall_eq_or_imp, forall_eq]; exact ⟨⟨trivial, rfl⟩, ⟨trivial, rfl⟩, ⟨trivial, rfl⟩, n232⟩) k236)) ?_
           refine DObl.hv 1 (by kernel_rfl) (OStep.yes rfl (HStep.call (vs := [.ref p 0 0, .int .i64 x235]) rfl (by kernel_rfl) (by kernel_rfl) nc2 k238)) ?_
           exact DObl.nil
          refine GQ.seq ?_
          refine GQ.region ?_
          refine SQ.a (.int .i64 1) ?_
          refine SQ.nil ?_
          refine GQ.ret ?_
          exact EndK.ret (Qp := Qp) rfl H
         ·skip
          obtain ⟨h188, ch189, k190, H⟩ := H
          refine GQ.region ?_
          refine SQ.m (.ref p 0 0) ?_
          refine Y1n (OPan.yes rfl (HPan.call (vs := [.ref p 0 0, .int .u8 41]) rfl (by kernel_rfl) (by kernel_rfl) nc2 k190)) ?_
          exact H
       ·have H := H.2 hb153
        refine GQ.g hb153 ?_
        refine GQ.skip ?_
        refine GQ.seq ?_
        refine GQ.seq ?_
        obtain ⟨s239, n240, l241, n242, g243, c244, H⟩ := H
        refine GQ.region ?_
        refine SQ.m (.ref r1 v2 o3) ?_
        refine SQ.n (o3) f125 ?_
        refine SQ.f 1 (o3) f125 ?_
        refine SQ.y l241 ?_
        refine SQ.cons (av := .int .i64 ((n242 : Nat) : Int)) rfl (OStep.yes rfl (HStep.len (s := s239) (n := n242) rfl (by kernel_rfl) (by kernel_rfl) g243)) ?_
        refine SQ.p (.int .i64 (((n242 : Nat) : Int) + 1)) ⟨trivial, trivial, rfl, c244⟩ ?_
        refine SQ.m (.int .i64 1) ?_
        refine SQ.p (.bool (decide ((((n242 : Nat) : Int) + 1 : Int) < 1))) ⟨trivial, trivial, rfl⟩ ?_
        refine SQ.nil ?_
        rcases X1 (decide ((((n242 : Nat) : Int) + 1 : Int) < 1)) with hb245 | hb245
        ·have H := H.1 hb245
         refine GQ.t hb245 ?_
         refine GQ.seq ?_
         rcases H with H | H
         ·skip
          obtain ⟨h249, k250, H⟩ := H
          refine GQ.region ?_
          refine SQ.m (.ref p 0 0) ?_
          refine SQ.c [.ref p 0 0, .int .u8 44] nc2 k250 ?_
          refine SQ.nil ?_
          refine GQ.seq ?_
          obtain ⟨f251, s252, n253, l254, h255, x256, k257, r258, h259, w260, h261, s263, n264, w262, f265, f268, h266, w267, f269, f270, l271, l272, H⟩ := H
          refine GQ.draw Tryd.checked.mixed (by kernel_rfl) [.ref r1 v2 o3, .ref r1 v2 o3, .ref r1 v2 o3, .ref r1 v2 (o3 + 1), s252, .ref p 0 0, .int .i64 x256, .rsl r258 0 0 1, s263, .ref r1 v2 o3, .ref r1 v2 (o3 + 1), .any] [6, 7, 8, 11] [h249, h255, h259, h261, h266] h266 (by kernel_rfl) (by kernel_rfl) rfl rfl ?_ ?_
          ·refine DObl.m (.ref r1 v2 o3) ?_
           refine DObl.m (.ref r1 v2 o3) ?_
           refine Y0d 0 1 2 (by kernel_rfl) (by kernel_rfl) (OStep.yes rfl (HStep.n (o3) f251)) (OStep.yes rfl (HStep.n (o3) f269)) (OStep.yes rfl (HStep.n (o3) f270)) ?_
           refine Y0d 0 1 2 (by kernel_rfl) (by kernel_rfl) (OStep.yes rfl (HStep.f 1 (o3) f251)) (OStep.yes rfl (HStep.f 1 (o3) f269)) (OStep.yes rfl (HStep.f 1 (o3) f270)) ?_
           refine Y0d 0 1 2 (by kernel_rfl) (by kernel_rfl) (OStep.yes rfl (HStep.y l254)) (OStep.yes rfl (HStep.y l271)) (OStep.yes rfl (HStep.y l272)) ?_
           refine DObl.m (.ref p 0 0) ?_
           refine DObl.hv 0 (by kernel_rfl) (OStep.yes rfl (HStep.call (vs := [.ref p 0 0]) rfl (by kernel_rfl) (by kernel_rfl) nc1 k257)) ?_
           refine DObl.hv 1 (by kernel_rfl) (OStep.yes rfl (HStep.build (qs := [(0, .int .i64 x256)]) (cs := [.int .i64 x256]) (r := r258) rfl (Y8 (P := Tryd.prog) (t := 42) (e := 3) (k := 1) (bytes := 8) (z := [.int .i64 0]) (by kernel_rfl)) (by decide) (by kernel_rfl) (by simp only [X5, X4, or_false, forall_eq]; exact ⟨⟨trivial, rfl⟩, Y2l rfl⟩) (by kernel_rfl) (by simp only [X5, X4, or_false, forall_eq]; exact rfl) rfl w260)) ?_
           refine DObl.hv 2 (by kernel_rfl) (OStep.yes rfl (HStep.app (sv := s252) (xv := .rsl r258 0 0 1) (news := [.int .i64 x256]) rfl (Y8 (P := Tryd.prog) (t := 42) (e := 3) (k := 1) (bytes := 8) (z := [.int .i64 0]) (by kernel_rfl)) (by kernel_rfl) (by kernel_rfl) trivial (SrcA.rsl (m := 1) (by kernel_rfl) (Nw.at w260) rfl rfl rfl (Xc rfl)) w262)) ?_
           refine DObl.y 3 (HStep.n (o3) f265) ?_
           refine DObl.y 3 (HStep.f 1 (o3) f265) ?_
           refine DObl.hv 3 (by kernel_rfl) (OStep.yes rfl (Y9 (r := r1) (ver := v2) (off := o3 + 1) (n := 1) (v := s263) rfl (by kernel_rfl) (by kernel_rfl) (by kernel_rfl) n264 (Y09 f268) w267)) ?_
           exact DObl.nil
          refine GQ.seq ?_
          refine GQ.region ?_
          refine SQ.a (.int .i64 0) ?_
          refine SQ.nil ?_
          refine GQ.ret ?_
          exact EndK.ret (Qp := Qp) rfl H
         ·skip
          obtain ⟨h246, ch247, k248, H⟩ := H
          refine GQ.region ?_
          refine SQ.m (.ref p 0 0) ?_
          refine Y1n (OPan.yes rfl (HPan.call (vs := [.ref p 0 0, .int .u8 44]) rfl (by kernel_rfl) (by kernel_rfl) nc2 k248)) ?_
          exact H
        ·have H := H.2 hb245
         refine GQ.g hb245 ?_
         refine GQ.skip ?_
         refine GQ.seq ?_
         rcases H with H | H
         ·skip
          obtain ⟨h276, k277, H⟩ := H
          refine GQ.region ?_
          refine SQ.m (.ref p 0 0) ?_
          refine SQ.c [.ref p 0 0, .int .u8 41] nc2 k277 ?_
          refine SQ.nil ?_
          refine GQ.seq ?_
          obtain ⟨f278, s279, n280, l281, h282, x283, k284, r285, h286, w287, h288, s290, n291, w289, f292, f295, h293, w294, f296, f297, l298, l299, H⟩ := H
          refine GQ.draw Tryd.checked.mixed (by kernel_rfl) [.ref r1 v2 o3, .ref r1 v2 o3, .ref r1 v2 o3, .ref r1 v2 (o3 + 1), s279, .ref p 0 0, .int .i64 x283, .rsl r285 0 0 1, s290, .ref r1 v2 o3, .ref r1 v2 (o3 + 1), .any] [6, 7, 8, 11] [h276, h282, h286, h288, h293] h293 (by kernel_rfl) (by kernel_rfl) rfl rfl ?_ ?_
          ·refine DObl.m (.ref r1 v2 o3) ?_
           refine DObl.m (.ref r1 v2 o3) ?_
           refine Y0d 0 1 2 (by kernel_rfl) (by kernel_rfl) (OStep.yes rfl (HStep.n (o3) f278)) (OStep.yes rfl (HStep.n (o3) f296)) (OStep.yes rfl (HStep.n (o3) f297)) ?_
           refine Y0d 0 1 2 (by kernel_rfl) (by kernel_rfl) (OStep.yes rfl (HStep.f 1 (o3) f278)) (OStep.yes rfl (HStep.f 1 (o3) f296)) (OStep.yes rfl (HStep.f 1 (o3) f297)) ?_
           refine Y0d 0 1 2 (by kernel_rfl) (by kernel_rfl) (OStep.yes rfl (HStep.y l281)) (OStep.yes rfl (HStep.y l298)) (OStep.yes rfl (HStep.y l299)) ?_
           refine DObl.m (.ref p 0 0) ?_
           refine DObl.hv 0 (by kernel_rfl) (OStep.yes rfl (HStep.call (vs := [.ref p 0 0]) rfl (by kernel_rfl) (by kernel_rfl) nc1 k284)) ?_
           refine DObl.hv 1 (by kernel_rfl) (OStep.yes rfl (HStep.build (qs := [(0, .int .i64 x283)]) (cs := [.int .i64 x283]) (r := r285) rfl (Y8 (P := Tryd.prog) (t := 42) (e := 3) (k := 1) (bytes := 8) (z := [.int .i64 0]) (by kernel_rfl)) (by decide) (by kernel_rfl) (by simp only [X5, X4, or_false, forall_eq]; exact ⟨⟨trivial, rfl⟩, Y2l rfl⟩) (by kernel_rfl) (by simp only [X5, X4, or_false, forall_eq]; exact rfl) rfl w287)) ?_
           refine DObl.hv 2 (by kernel_rfl) (OStep.yes rfl (HStep.app (sv := s279) (xv := .rsl r285 0 0 1) (news := [.int .i64 x283]) rfl (Y8 (P := Tryd.prog) (t := 42) (e := 3) (k := 1) (bytes := 8) (z := [.int .i64 0]) (by kernel_rfl)) (by kernel_rfl) (by kernel_rfl) trivial (SrcA.rsl (m := 1) (by kernel_rfl) (Nw.at w287) rfl rfl rfl (Xc rfl)) w289)) ?_
           refine DObl.y 3 (HStep.n (o3) f292) ?_
           refine DObl.y 3 (HStep.f 1 (o3) f292) ?_
           refine DObl.hv 3 (by kernel_rfl) (OStep.yes rfl (Y9 (r := r1) (ver := v2) (off := o3 + 1) (n := 1) (v := s290) rfl (by kernel_rfl) (by kernel_rfl) (by kernel_rfl) n291 (Y09 f295) w294)) ?_
           exact DObl.nil
          refine GQ.seq ?_
          obtain ⟨f300, s301, n302, l303, n304, g305, c306, s307, n308, i309, f312, h310, w311, H⟩ := H
          refine GQ.draw Tryd.checked.mixed (by kernel_rfl) [.ref p 0 0, .ref p 0 0, .ref p 0 0, .ref p 0 3, s301, .ref p 0 0, .ref p 0 0, .ref p 0 3, s301, .int .i64 ((n304 : Nat) : Int), .int .i64 (((n304 : Nat) : Int) - 1), s307, .ref p 0 0, .ref p 0 3, .any] [14] [h293, h310] h310 (by kernel_rfl) (by kernel_rfl) rfl rfl ?_ ?_
          ·refine DObl.m (.ref p 0 0) ?_
           refine DObl.m (.ref p 0 0) ?_
           refine DObl.y 0 (HStep.n (0) f300) ?_
           refine DObl.y 0 (HStep.f 3 (0) f300) ?_
           refine DObl.y 0 (HStep.y l303) ?_
           refine DObl.m (.ref p 0 0) ?_
           refine DObl.y 0 (HStep.n (0) f300) ?_
           refine DObl.y 0 (HStep.f 3 (0) f300) ?_
           refine DObl.y 0 (HStep.y l303) ?_
           refine DObl.y 0 (HStep.len (s := s301) (n := n304) rfl (by kernel_rfl) (by kernel_rfl) g305) ?_
           refine DObl.z (fun _ => (Y6 (av := .int .i64 (((n304 : Nat) : Int) - 1)) ⟨trivial, trivial, rfl, c306⟩ (by kernel_rfl))) ?_
           refine DObl.y 0 (HStep.cut (kk := .i64) (s := s301) (j := ((n304 : Nat) : Int) - 1) (k := 7) rfl (by kernel_rfl) (by kernel_rfl) (by kernel_rfl) (by kernel_rfl) i309) ?_
           refine DObl.y 0 (HStep.n (0) f300) ?_
           refine DObl.y 0 (HStep.f 3 (0) f300) ?_
           refine DObl.hv 0 (by kernel_rfl) (OStep.yes rfl (Y9 (r := p) (ver := 0) (off := 3) (n := 1) (v := s307) rfl (by kernel_rfl) (by kernel_rfl) (by kernel_rfl) n308 (Y09 f312) w311)) ?_
           exact DObl.nil
          refine GQ.seq ?_
          obtain ⟨f313, x314, l315, s316, n317, l318, h319, x320, k321, h322, k323, H⟩ := H
          refine GQ.draw Tryd.checked.mixed (by kernel_rfl) [.ref p 0 0, .ref p 0 0, .ref r1 v2 o3, .ref r1 v2 o3, .ref r1 v2 (o3 + 0), .int .i64 x314, .ref r1 v2 o3, .ref r1 v2 o3, .ref r1 v2 (o3 + 1), s316, .int .i64 x320, .tup []] [10, 11] [h310, h319, h322] h322 (by kernel_rfl) (by kernel_rfl) rfl rfl ?_ ?_
          ·refine DObl.m (.ref p 0 0) ?_
           refine DObl.m (.ref p 0 0) ?_
           refine DObl.m (.ref r1 v2 o3) ?_
           refine DObl.y 0 (HStep.n (o3) f313) ?_
           refine DObl.y 0 (HStep.f 0 (o3) f313) ?_
           refine DObl.y 0 (HStep.y l315) ?_
           refine DObl.m (.ref r1 v2 o3) ?_
           refine DObl.y 0 (HStep.n (o3) f313) ?_
           refine DObl.y 0 (HStep.f 1 (o3) f313) ?_
           refine DObl.y 0 (HStep.y l318) ?_
           refine DObl.hv 0 (by kernel_rfl) (OStep.yes rfl (HStep.call (vs := [.ref p 0 0, .int .i64 x314, .int .i64 0, s316]) rfl (by kernel_rfl) (by kernel_rfl) (by simp only [X5, X4, or_false, forall_eq_or_imp, forall_eq]; exact ⟨⟨trivial, rfl⟩, ⟨trivial, rfl⟩, ⟨trivial, rfl⟩, n317⟩) k321)) ?_
           refine DObl.hv 1 (by kernel_rfl) (OStep.yes rfl (HStep.call (vs := [.ref p 0 0, .int .i64 x320]) rfl (by kernel_rfl) (by kernel_rfl) nc2 k323)) ?_
           exact DObl.nil
          refine GQ.seq ?_
          refine GQ.region ?_
          refine SQ.a (.int .i64 1) ?_
          refine SQ.nil ?_
          refine GQ.ret ?_
          exact EndK.ret (Qp := Qp) rfl H
         ·skip
          obtain ⟨h273, ch274, k275, H⟩ := H
          refine GQ.region ?_
          refine SQ.m (.ref p 0 0) ?_
          refine Y1n (OPan.yes rfl (HPan.call (vs := [.ref p 0 0, .int .u8 41]) rfl (by kernel_rfl) (by kernel_rfl) nc2 k275)) ?_
          exact H
end Go.Proofs.YtkgfbpbndmklnaaDoor
