/- Own work. -/
import Derived.Test.YtkgfbpbndmklnaaDoorChecked
import Derived.Test.YtkgfbpbndmklnaaDoorWp5
set_option linter.unusedSimpArgs false
set_option linter.unusedVariables false
set_option maxRecDepth 100000
namespace Go.Proofs.YtkgfbpbndmklnaaDoor
open Go.Abs
def pre_stop (h : Hp) (p : Nat) (Q : Hp → AV → Prop) (Qp : Hp → List PanicEntry → Prop) : Prop :=
 (Qp h [{ v := .iface 101 (.agg #[]), recovered := false }])
theorem w_stop {h : Hp} {p : Nat} {Q : Hp → AV → Prop} {Qp : Hp → List PanicEntry → Prop}  (H : pre_stop h p Q Qp) : FnO Tryd.prog 65 [.ref p 0 0] h Q Qp := by
 unfold pre_stop at H
 exact Y59 Tryd.func65 rfl (Xc (by kernel_rfl)) <| GQ.E [(0, .ref p 0 0)] <| Y1 <| Y9 (Y58 (rs := []) (z := []) (fs := []) (qs := []) (cs := []) rfl (by kernel_rfl) (by kernel_rfl) (by kernel_rfl) (fun q hq => absurd hq X09) (CL.nil) (by kernel_rfl)) <| Y9 (Y5n (fs := #[]) (v := .agg #[]) rfl (by kernel_rfl) (by kernel_rfl)) <| SQ.pan (OPan.yes rfl (HPan.panic (t := 101) (v := .agg #[]) rfl (by kernel_rfl))) (H)
def pre_peek (h : Hp) (p : Nat) (Q : Hp → AV → Prop) (Qp : Hp → List PanicEntry → Prop) : Prop :=
 (Has h p 0) ∧ ∃ x2, (Ld h p 0 1 (.int .i64 x2)) ∧ ∃ t4, (Ld h p 0 0 (.string t4)) ∧ (((decide ((x2 : Int) < ((t4).size : Nat))) = true → ∃ x7, (0 ≤ (x2 : Int) ∧ (x2 : Int) < (t4).size) ∧ (pvIndex Tryd.prog 9 (.string t4) (.int .i64 x2) = .int .u8 x7) ∧ (Q h (.int .u8 x7))) ∧ ((decide ((x2 : Int) < ((t4).size : Nat))) = false → (Q h (.int .u8 0))))
theorem w_peek {h : Hp} {p : Nat} {Q : Hp → AV → Prop} {Qp : Hp → List PanicEntry → Prop}  (H : pre_peek h p Q Qp) : FnO Tryd.prog 59 [.ref p 0 0] h Q Qp := by
 unfold pre_peek at H
 refine Y59 Tryd.func59 rfl (Xc (by kernel_rfl)) <| GQ.E [(0, .ref p 0 0)] <| Y6 <| Y1 <| Ye (.int .u8 0) <| Y7 <| Y6 <| Y6 ?_
 obtain ⟨f1, x2, l3, t4, l5, H⟩ := H
 refine Y28 Tryd.checked.mixed (by kernel_rfl) [.ref p 0 0, .ref p 0 0, .ref p 0 1, .int .i64 x2, .ref p 0 0, .ref p 0 0, .ref p 0 0, .string t4, .int .i64 ((t4).size : Nat), .bool (decide ((x2 : Int) < ((t4).size : Nat)))] [] [h] h (by kernel_rfl) (by kernel_rfl) rfl rfl ?_ ?_
 ·exact Ym (.ref p 0 0) <| Yc 0 (Yj (0) f1) <| Yc 0 (Yk 1 (0) f1) <| Yc 0 (Yq l3) <| Ym (.ref p 0 0) <| Yc 0 (Yj (0) f1) <| Yc 0 (Yk 0 (0) f1) <| Yc 0 (Yq l5) <| Y0o (fun _ => (Y5e (s := t4) rfl (by kernel_rfl) (by kernel_rfl))) <| Y0o (fun _ => (Yn (av := .bool (decide ((x2 : Int) < ((t4).size : Nat)))) ⟨trivial, trivial, rfl⟩ (by kernel_rfl))) (Y1m)
 rcases X1 (decide ((x2 : Int) < ((t4).size : Nat))) with hb6 | hb6
 ·have H := H.1 hb6
  refine Y0l hb6 <| Y6 ?_
  obtain ⟨x7, c8, l9, H⟩ := H
  refine Y28 Tryd.checked.mixed (by kernel_rfl) [.ref p 0 0, .ref p 0 0, .ref p 0 0, .string t4, .ref p 0 0, .ref p 0 0, .ref p 0 1, .int .i64 x2, .int .u8 x7, .int .u8 x7] [] [h] h (by kernel_rfl) (by kernel_rfl) rfl rfl ?_ ?_
  ·exact Ym (.ref p 0 0) <| Yc 0 (Yj (0) f1) <| Yc 0 (Yk 0 (0) f1) <| Yc 0 (Yq l5) <| Ym (.ref p 0 0) <| Yc 0 (Yj (0) f1) <| Yc 0 (Yk 1 (0) f1) <| Yc 0 (Yq l3) <| Y0o (fun _ => (Y5c (kk := .i64) (s := t4) (j := x2) rfl (by kernel_rfl) (by kernel_rfl) (by kernel_rfl) c8 l9)) <| Y0o (fun _ => (Y5h (s := .int .u8 x7) rfl (by kernel_rfl) ⟨trivial, rfl⟩)) (Y1m)
  exact Y10 (Yw (Qp := Qp) rfl H)
 ·have H := H.2 hb6
  exact Y0s hb6 <| Y0p <| Y6 <| Y1 <| Ye (.int .u8 0) <| Y7 <| Y10 (Yw (Qp := Qp) rfl H)
def pre_expect (h : Hp) (p : Nat) (a1 : Int) (Q : Hp → AV → Prop) (Qp : Hp → List PanicEntry → Prop) : Prop :=
 ∃ h1 x2, (CallOK Tryd.prog 59 [.ref p 0 0] h h1 (.int .u8 x2)) ∧ ((((x2 : Int) != a1) = true → ((∃ h8, (CallOK Tryd.prog 65 [.ref p 0 0] h1 h8 (.tup [])) ∧ (Has h8 p 0) ∧ ∃ x11, (Ld h8 p 0 1 (.int .i64 x11)) ∧ (okA .i64 (x11 + 1 : Int)) ∧ ∃ h14, (St h8 p 0 1 (.int .i64 (x11 + 1)) h14) ∧ (Q h14 (.tup []))) ∨ (∃ h5, ∃ (ch6 : List PanicEntry), (Y03 Tryd.prog 65 [.ref p 0 0] h1 h5 ch6) ∧ (Qp h5 ch6)))) ∧ (((x2 : Int) != a1) = false → (Has h1 p 0) ∧ ∃ x17, (Ld h1 p 0 1 (.int .i64 x17)) ∧ (okA .i64 (x17 + 1 : Int)) ∧ ∃ h20, (St h1 p 0 1 (.int .i64 (x17 + 1)) h20) ∧ (Q h20 (.tup []))))
theorem w_expect {h : Hp} {p : Nat} {a1 : Int} {Q : Hp → AV → Prop} {Qp : Hp → List PanicEntry → Prop}  (H : pre_expect h p a1 Q Qp) : FnO Tryd.prog 70 [.ref p 0 0, .int .u8 a1] h Q Qp := by
 unfold pre_expect at H
 refine Y59 Tryd.func70 rfl (Xc (by kernel_rfl)) <| GQ.E [(0, .ref p 0 0), (1, .int .u8 a1)] <| Y6 <| Y6 ?_
 obtain ⟨h1, x2, k3, H⟩ := H
 refine Y1 <| Y5 (.ref p 0 0) <| Y01 k3 nc1 <| Y5 (.int .u8 a1) <| Yl (.bool ((x2 : Int) != a1)) ⟨trivial, trivial, rfl⟩ <| Y7 ?_
 rcases X1 ((x2 : Int) != a1) with hb4 | hb4
 ·have H := H.1 hb4
  refine Y0l hb4 ?_
  rcases H with H | H
  ·skip
   obtain ⟨h8, k9, H⟩ := H
   refine Y1 <| Y5 (.ref p 0 0) <| Y01 k9 nc1 <| Y7 ?_
   obtain ⟨f10, x11, l12, c13, h14, w15, H⟩ := H
   exact Y1 <| Y5 (.ref p 0 0) <| Yr (0) f10 <| Yp 1 (0) f10 <| Y00 l12 <| Yl (.int .i64 (x11 + 1)) ⟨trivial, trivial, rfl, c13⟩ <| Yr (0) f10 <| Yp 1 (0) f10 <| Y9 (Y17 w15) <| Y7 (Y5s (Qp := Qp) rfl H)
  ·skip
   obtain ⟨h5, ch6, k7, H⟩ := H
   exact Y1 <| Y5 (.ref p 0 0) <| Y2m k7 nc1 (H)
 ·have H := H.2 hb4
  refine Y0s hb4 <| Y0p ?_
  obtain ⟨f16, x17, l18, c19, h20, w21, H⟩ := H
  exact Y1 <| Y5 (.ref p 0 0) <| Yr (0) f16 <| Yp 1 (0) f16 <| Y00 l18 <| Yl (.int .i64 (x17 + 1)) ⟨trivial, trivial, rfl, c19⟩ <| Yr (0) f16 <| Yp 1 (0) f16 <| Y9 (Y17 w21) <| Y7 (Y5s (Qp := Qp) rfl H)
def pre_inner (h : Hp) (p : Nat) (Q : Hp → AV → Prop) (Qp : Hp → List PanicEntry → Prop) : Prop :=
 (Has h p 0) ∧ ∃ s2, (NC s2) ∧ (Ld h p 0 3 s2) ∧ ∃ n5, (Len h s2 n5) ∧ (okA .i64 (((n5 : Nat) : Int) - 1 : Int)) ∧ ∃ r8 v9 o10, (Ix h s2 7 (((n5 : Nat) : Int) - 1 : Int) (.ref r8 v9 o10)) ∧ (Q h (.ref r8 v9 o10))
theorem w_inner {h : Hp} {p : Nat} {Q : Hp → AV → Prop} {Qp : Hp → List PanicEntry → Prop}  (H : pre_inner h p Q Qp) : FnO Tryd.prog 66 [.ref p 0 0] h Q Qp := by
 unfold pre_inner at H
 refine Y59 Tryd.func66 rfl (Xc (by kernel_rfl)) <| GQ.E [(0, .ref p 0 0)] <| Y6 <| Y1 <| Ye (.im (.val (.pointer none))) <| Y7 <| Y6 ?_
 obtain ⟨f1, s2, n3, l4, n5, g6, c7, r8, v9, o10, i11, H⟩ := H
 refine Y28 Tryd.checked.mixed (by kernel_rfl) [.ref p 0 0, .ref p 0 0, .ref p 0 3, s2, .ref p 0 0, .ref p 0 0, .ref p 0 3, s2, .int .i64 ((n5 : Nat) : Int), .int .i64 (((n5 : Nat) : Int) - 1), .ref r8 v9 o10, .ref r8 v9 o10] [] [h] h (by kernel_rfl) (by kernel_rfl) rfl rfl ?_ ?_
 ·exact Ym (.ref p 0 0) <| Yc 0 (Yj (0) f1) <| Yc 0 (Yk 3 (0) f1) <| Yc 0 (Yq l4) <| Ym (.ref p 0 0) <| Yc 0 (Yj (0) f1) <| Yc 0 (Yk 3 (0) f1) <| Yc 0 (Yq l4) <| Yc 0 (Y3f g6) <| Y0o (fun _ => (Yn (av := .int .i64 (((n5 : Nat) : Int) - 1)) ⟨trivial, trivial, rfl, c7⟩ (by kernel_rfl))) <| Yc 0 (Y57 i11) <| Y0o (fun _ => (Y5h (s := .ref r8 v9 o10) rfl (by kernel_rfl) ⟨trivial, rfl⟩)) (Y1m)
 exact Y10 (Yw (Qp := Qp) rfl H)
def pre_term (h : Hp) (p : Nat) (a1 : Int) (Q : Hp → AV → Prop) (Qp : Hp → List PanicEntry → Prop) : Prop :=
 ∃ r1 v2 o3, (CallOK Tryd.prog 66 [.ref p 0 0] h h (.ref r1 v2 o3)) ∧ (Has h r1 v2) ∧ ∃ s6, (NC s6) ∧ (Ld h r1 v2 (o3 + 2) s6) ∧ ∃ r9 h10, (Nw h r9 ⟨0, true, 3, 1, [.int .i64 a1]⟩ h10) ∧ ∃ h12 s14, (NC s14) ∧ (App h10 s6 3 1 8 1 [.int .i64 a1] h12 s14) ∧ (Has h12 r1 v2) ∧ (oneA h12 s14) ∧ ∃ h17, (St h12 r1 v2 (o3 + 2) s14 h17) ∧ (Q h17 (.tup []))
theorem w_term {h : Hp} {p : Nat} {a1 : Int} {Q : Hp → AV → Prop} {Qp : Hp → List PanicEntry → Prop}  (H : pre_term h p a1 Q Qp) : FnO Tryd.prog 60 [.ref p 0 0, .int .i64 a1] h Q Qp := by
 unfold pre_term at H
 refine Y59 Tryd.func60 rfl (Xc (by kernel_rfl)) <| GQ.E [(0, .ref p 0 0), (1, .int .i64 a1)] <| Y6 ?_
 obtain ⟨r1, v2, o3, k4, H⟩ := H
 refine Y1 <| Y5 (.ref p 0 0) <| Y01 k4 nc1 <| Ye (.ref r1 v2 o3) <| Y7 ?_
 obtain ⟨f5, s6, n7, l8, r9, h10, w11, h12, s14, n15, w13, f16, f19, h17, w18, H⟩ := H
 exact Y1 <| Y5 (.ref r1 v2 o3) <| Y5 (.ref r1 v2 o3) <| Yr (o3) f5 <| Yp 2 (o3) f5 <| Y00 l8 <| Y5 (.int .i64 a1) <| Y9 (Y2g ([(0, .int .i64 a1)]) El42 w11 (al_ ⟨⟨⟨trivial, rfl⟩, Y44 rfl⟩, trivial⟩) (al_ ⟨rfl, trivial⟩)) <| Y9 (Y3g (.rsl r9 0 0 1) El42 (SrcA.rsl (m := 1) (by kernel_rfl) (Nw.at w11) rfl rfl rfl (Xc rfl)) w13) <| Yr (o3) f16 <| Yp 2 (o3) f16 <| Y9 (Y35 w18 n15 f19) <| Y7 (Y5s (Qp := Qp) rfl H)
def pre_add (h : Hp) (p : Nat) (a1 : Int) (a2 : Int) (a3 : AV) (Q : Hp → AV → Prop) (Qp : Hp → List PanicEntry → Prop) : Prop :=
 ∃ n1, (Len h a3 n1) ∧ ∃ (I5 : Nat → Int → Int → Hp → Prop), (∃ m8, I5 m8 1 0 h) ∧ ∀ m4 y9 y10 h3, I5 m4 y9 y10 h3 → ((((decide ((y10 : Int) < ((n1 : Nat) : Int))) = true → ∃ r12 v13 o14, (Ix h3 a3 1 (y10 : Int) (.ref r12 v13 o14)) ∧ ∃ x16, (Ld h3 r12 v13 o14 (.int .i64 x16)) ∧ (Has h3 p 0) ∧ ∃ s19, (NC s19) ∧ (Ld h3 p 0 2 s19) ∧ ∃ r22 v23 o24, (Ix h3 s19 4 (x16 : Int) (.ref r22 v23 o24)) ∧ (Has h3 r22 v23) ∧ ∃ x27, (Ld h3 r22 v23 (o24 + 3) (.int .i64 x27)) ∧ (okA .i64 (x27 + 1 : Int)) ∧ (okA .i64 (y10 + 1 : Int)) ∧ (∃ m31, m31 < m4 ∧ I5 m31 (if (x27 + 1 : Int) > y9 then x27 + 1 else y9) (y10 + 1) h3)) ∧ ((decide ((y10 : Int) < ((n1 : Nat) : Int))) = false → (Has h3 p 0) ∧ ∃ s34, (NC s34) ∧ (Ld h3 p 0 2 s34) ∧ (oneA h3 a3) ∧ ∃ r38 h39, (Nw h3 r38 ⟨0, true, 64, 4, [.int .i64 a1, .int .i64 a2, a3, .int .i64 y9]⟩ h39) ∧ ∃ h41 s43, (NC s43) ∧ (App h39 s34 64 4 48 1 [.int .i64 a1, .int .i64 a2, a3, .int .i64 y9] h41 s43) ∧ (Has h41 p 0) ∧ (oneA h41 s43) ∧ ∃ h46, (St h41 p 0 2 s43 h46) ∧ (Has h46 p 0) ∧ ∃ s50, (NC s50) ∧ (Ld h46 p 0 2 s50) ∧ ∃ n53, (Len h46 s50 n53) ∧ (okA .i64 (((n53 : Nat) : Int) - 1 : Int)) ∧ (Q h46 (.int .i64 (((n53 : Nat) : Int) - 1))))))
theorem w_add {h : Hp} {p : Nat} {a1 : Int} {a2 : Int} {a3 : AV} {Q : Hp → AV → Prop} {Qp : Hp → List PanicEntry → Prop} (na3 : NC a3) (H : pre_add h p a1 a2 a3 Q Qp) : FnO Tryd.prog 63 [.ref p 0 0, .int .i64 a1, .int .i64 a2, a3] h Q Qp := by
 unfold pre_add at H
 refine Y59 Tryd.func63 rfl (Xc (by kernel_rfl)) <| GQ.E [(0, .ref p 0 0), (1, .int .i64 a1), (2, .int .i64 a2), (3, a3)] <| Y6 <| Y1 <| Ye (.int .i64 0) <| Y7 <| Y6 <| Y1 <| Ye (.int .i64 1) <| Y7 <| Y6 <| Y6 ?_
 obtain ⟨n1, g2, H⟩ := H
 refine Y1 (Y5 (a3) ?_ na3)
 refine Y9 (Y3f g2) <| Y5 (.int .i64 0) <| Y7 <| Y12 ?_
 obtain ⟨I5, ⟨m8, H7⟩, H⟩ := H
 refine Y5g (fun n e h' => ∃ (y9 : Int) (y10 : Int), Env.le e [(0, .ref p 0 0), (1, .int .i64 a1), (2, .int .i64 a2), (3, a3), (8, .int .i64 0), (9, .int .i64 y9), (12, a3), (13, .int .i64 ((n1 : Nat) : Int)), (14, .int .i64 y10)] ∧ I5 n y9 y10 h') ?_ m8 ⟨1, 0, Ya (by kernel_rfl), H7⟩
 rintro m4 _ h3 ⟨y9, y10, hle, HI6⟩
 have H := H m4 y9 y10 h3 HI6
 refine Y19 _ hle <| Y6 <| Y1 <| Yl (.bool (decide ((y10 : Int) < ((n1 : Nat) : Int)))) ⟨trivial, trivial, rfl⟩ <| Y7 <| Y6 ?_
 rcases X1 (decide ((y10 : Int) < ((n1 : Nat) : Int))) with hb11 | hb11
 ·have H := H.1 hb11
  refine Y0l hb11 <| Y0p <| Y6 <| Y12 <| Y6 ?_
  obtain ⟨r12, v13, o14, i15, x16, l17, H⟩ := H
  refine Y1 <| Y9 (Y57 i15) <| Y00 l17 <| Ye (.int .i64 x16) <| Y7 ?_
  obtain ⟨f18, s19, n20, l21, r22, v23, o24, i25, f26, x27, l28, c29, H⟩ := H
  refine Y1 <| Y5 (.int .i64 y9) <| Y5 (.ref p 0 0) <| Yr (0) f18 <| Yp 2 (0) f18 <| Y00 l21 <| Y5 (.int .i64 x16) <| Y9 (Y57 i25) <| Yp 3 (o24) f26 <| Y00 l28 <| Yl (.int .i64 (x27 + 1)) ⟨trivial, trivial, rfl, c29⟩ <| Yl (.int .i64 (if (x27 + 1 : Int) > y9 then x27 + 1 else y9)) ⟨trivial, trivial, trivial⟩ <| Ye (.int .i64 (if (x27 + 1 : Int) > y9 then x27 + 1 else y9)) <| Y7 ?_
  obtain ⟨c30, H⟩ := H
  refine Y1 <| Yl (.int .i64 (y10 + 1)) ⟨trivial, trivial, rfl, c30⟩ <| Y5 (.int .i64 (y10 + 1)) <| Y7 ?_
  obtain ⟨m31, hl32, H⟩ := H
  exact ⟨m31, hl32, (if (x27 + 1 : Int) > y9 then x27 + 1 else y9), (y10 + 1), Ya (by kernel_rfl), H⟩
 ·have H := H.2 hb11
  refine Y0s hb11 <| Y5d <| Y6 ?_
  obtain ⟨f33, s34, n35, l36, f37, r38, h39, w40, h41, s43, n44, w42, f45, f48, h46, w47, H⟩ := H
  refine Y1 <| Y5 (.ref p 0 0) <| Y5 (.ref p 0 0) <| Yr (0) f33 <| Yp 2 (0) f33 <| Y00 l36 <| Y5 (.int .i64 a1) <| Y5 (.int .i64 a2) <| Y9 (Y58 (rs := [(0, [.int .i64 a1]), (1, [.int .i64 a2])]) (z := [.int .i64 0, .int .i64 0]) (fs := [(0, 1), (1, 1)]) (qs := [(0, .int .i64 a1), (1, .int .i64 a2)]) (cs := [.int .i64 a1, .int .i64 a2]) rfl (by kernel_rfl) (by kernel_rfl) (by kernel_rfl) (al_ ⟨⟨⟨trivial, rfl⟩, Y44 rfl⟩, ⟨⟨trivial, rfl⟩, Y44 rfl⟩, trivial⟩) (CL.cons rfl (CL.cons rfl (CL.nil))) (by kernel_rfl)) (Y5 (a3) ?_ na3)
  refine Y5 (.int .i64 y9) ?_
  refine Y9 (Y58 (rs := [(0, [.int .i64 a1, .int .i64 a2]), (1, [a3]), (2, [.int .i64 y9])]) (z := [.int .i64 0, .int .i64 0, .slice none 0 0, .int .i64 0]) (fs := [(0, 2), (2, 1), (3, 1)]) (qs := [(0, .agg [.int .i64 a1, .int .i64 a2]), (1, a3), (2, .int .i64 y9)]) (cs := [.int .i64 a1, .int .i64 a2, a3, .int .i64 y9]) rfl (by kernel_rfl) (by kernel_rfl) (by kernel_rfl) (al_ ⟨⟨⟨trivial, rfl⟩, (okC_agg (al_ ⟨rfl, rfl, trivial⟩))⟩, ⟨na3, (okC_one (f37))⟩, ⟨⟨trivial, rfl⟩, Y44 rfl⟩, trivial⟩) (CL.cons rfl (CL.cons (Y48 f37) (CL.cons rfl (CL.nil)))) (by kernel_rfl)) ?_
  refine Y9 (Y2g ([(0, .agg [.int .i64 a1, .int .i64 a2, a3, .int .i64 y9])]) El59 w40 (al_ ⟨⟨⟨trivial, rfl⟩, (okC_agg (al_ ⟨rfl, rfl, f37, rfl, trivial⟩))⟩, trivial⟩) (al_ ⟨rfl, rfl, f37, rfl, trivial⟩)) <| Y9 (Y3g (.rsl r38 0 0 1) El59 (SrcA.rsl (m := 1) (by kernel_rfl) (Nw.at w40) rfl rfl rfl (Xc rfl)) w42) <| Yr (0) f45 <| Yp 2 (0) f45 <| Y9 (Y35 w47 n44 f48) <| Y7 <| Y6 ?_
  obtain ⟨f49, s50, n51, l52, n53, g54, c55, H⟩ := H
  exact Y1 <| Y5 (.ref p 0 0) <| Yr (0) f49 <| Yp 2 (0) f49 <| Y00 l52 <| Y9 (Y3f g54) <| Yl (.int .i64 (((n53 : Nat) : Int) - 1)) ⟨trivial, trivial, rfl, c55⟩ <| Ye (.int .i64 (((n53 : Nat) : Int) - 1)) <| Y7 <| Y10 (Yw (Qp := Qp) rfl H)
def pre_number (h : Hp) (p : Nat) (Q : Hp → AV → Prop) (Qp : Hp → List PanicEntry → Prop) : Prop :=
 ∃ (J2 : Int → Int → Bool → Hp → Prop), (∀ y5 y6 y7 h1, J2 y5 y6 y7 h1 → (((((y6 : Int) == 0) = true → ((∃ h43, (CallOK Tryd.prog 65 [.ref p 0 0] h1 h43 (.tup [])) ∧ ∃ h45 x46, (CallOK Tryd.prog 63 [.ref p 0 0, .int .i64 0, .int .i64 y5, .im (.val (.slice none 0 0))] h43 h45 (.int .i64 x46)) ∧ (Q h45 (.int .i64 x46))) ∨ (∃ h40, ∃ (ch41 : List PanicEntry), (Y03 Tryd.prog 65 [.ref p 0 0] h1 h40 ch41) ∧ (Qp h40 ch41)))) ∧ (((y6 : Int) == 0) = false → ∃ h48 x49, (CallOK Tryd.prog 63 [.ref p 0 0, .int .i64 0, .int .i64 y5, .im (.val (.slice none 0 0))] h1 h48 (.int .i64 x49)) ∧ (Q h48 (.int .i64 x49)))))) ∧ (∃ (I10 : Nat → Int → Int → Hp → Prop), (∃ m13, I10 m13 0 0 h) ∧ ∀ m9 y14 y15 h8, I10 m9 y14 y15 h8 → ((((decide ((y15 : Int) < 5)) = true → ∃ h17 x18, (CallOK Tryd.prog 59 [.ref p 0 0] h8 h17 (.int .u8 x18)) ∧ ∃ (J20 : Bool → Prop), (∀ y23, J20 y23 → ((((y23) = true → (J2 y14 y15 (decide ((y15 : Int) < 5)) h17)) ∧ ((y23) = false → (okA .i64 (10 * y14 : Int)) ∧ (okA .i64 ((10 * y14) + (IntKind.wrap .i64 (nw .u8 (x18 - 48 : Int))) : Int)) ∧ (Has h17 p 0) ∧ ∃ x31, (Ld h17 p 0 1 (.int .i64 x31)) ∧ (okA .i64 (x31 + 1 : Int)) ∧ ∃ h34, (St h17 p 0 1 (.int .i64 (x31 + 1)) h34) ∧ (okA .i64 (y15 + 1 : Int)) ∧ (∃ m37, m37 < m9 ∧ I10 m37 ((10 * y14) + (IntKind.wrap .i64 (nw .u8 (x18 - 48 : Int)))) (y15 + 1) h34))))) ∧ ((((decide ((x18 : Int) < 48)) = true → (J20 true)) ∧ ((decide ((x18 : Int) < 48)) = false → (((decide ((57 : Int) < x18)) = true → (J20 true)) ∧ ((decide ((57 : Int) < x18)) = false → (((decide ((0 : Int) < y15)) = true → (J20 ((y14 : Int) == 0))) ∧ ((decide ((0 : Int) < y15)) = false → (J20 false))))))))) ∧ ((decide ((y15 : Int) < 5)) = false → (J2 y14 y15 (decide ((y15 : Int) < 5)) h8)))))
theorem w_number {h : Hp} {p : Nat} {Q : Hp → AV → Prop} {Qp : Hp → List PanicEntry → Prop}  (H : pre_number h p Q Qp) : FnO Tryd.prog 61 [.ref p 0 0] h Q Qp := by
 unfold pre_number at H
 refine Y59 Tryd.func61 rfl (Xc (by kernel_rfl)) <| GQ.E [(0, .ref p 0 0)] <| Y6 <| Y1 <| Ye (.int .i64 0) <| Y7 <| Y6 <| Y1 <| Ye (.int .i64 0) <| Ye (.int .i64 0) <| Y7 ?_
 obtain ⟨J2, HR3, H⟩ := H
 refine Y5b (fun e h' => ∃ (y5 : Int) (y6 : Int) (y7 : Bool), Env.le e [(0, .ref p 0 0), (2, .int .i64 0), (3, .int .i64 y5), (4, .int .i64 y6), (7, .bool y7)] ∧ J2 y5 y6 y7 h') ?_ ?_
 ·skip
  refine Y12 ?_
  obtain ⟨I10, ⟨m13, H12⟩, H⟩ := H
  refine Y5g (fun n e h' => ∃ (y14 : Int) (y15 : Int), Env.le e [(0, .ref p 0 0), (2, .int .i64 0), (3, .int .i64 y14), (4, .int .i64 y15)] ∧ I10 n y14 y15 h') ?_ m13 ⟨0, 0, Ya (by kernel_rfl), H12⟩
  rintro m9 _ h8 ⟨y14, y15, hle, HI11⟩
  have H := H m9 y14 y15 h8 HI11
  refine Y19 _ hle <| Y6 <| Y6 <| Y1 <| Y5 (.int .i64 y15) <| Yl (.bool (decide ((y15 : Int) < 5))) ⟨trivial, trivial, rfl⟩ <| Y7 ?_
  rcases X1 (decide ((y15 : Int) < 5)) with hb16 | hb16
  ·have H := H.1 hb16
   refine Y0l hb16 <| Y0p <| Y12 <| Y6 ?_
   obtain ⟨h17, x18, k19, H⟩ := H
   refine Y1 <| Y5 (.ref p 0 0) <| Y01 k19 nc1 <| Ye (.int .u8 x18) <| Y7 <| Y6 ?_
   obtain ⟨J20, HR21, H⟩ := H
   refine Y5b (fun e h' => ∃ y23, Env.le e [(0, .ref p 0 0), (2, .int .i64 0), (3, .int .i64 y14), (4, .int .i64 y15), (5, .int .u8 x18), (7, .bool (decide ((y15 : Int) < 5))), (23, .bool y23)] ∧ h17 = h' ∧ J20 y23) ?_ ?_
   ·skip
    rcases X1 (decide ((x18 : Int) < 48)) with hb24 | hb24
    ·have H := H.1 hb24
     exact Y1 <| Y5 (.int .u8 x18) <| Y9 (Y4q ⟨trivial, trivial, rfl⟩ hb24) <| Y5 (.bool true) <| Yv <| Yv <| Y9 (Y4f (.bool true)) <| Y5 (.bool true) <| Yv <| Yv <| Yv <| Yv <| Yv <| Yv <| Y9 (Y4f (.bool true)) <| Y7 (⟨true, Ya (by kernel_rfl), rfl, H⟩)
    ·have H := H.2 hb24
     rcases X1 (decide ((57 : Int) < x18)) with hb25 | hb25
     ·have H := H.1 hb25
      exact Y1 <| Y5 (.int .u8 x18) <| Y9 (Y3e ⟨trivial, trivial, rfl⟩ hb24) <| Y5 (.bool false) <| Y5 (.int .u8 x18) <| Y9 (Y4q ⟨trivial, trivial, rfl⟩ hb25) <| Y9 (Y27 (.bool true)) <| Y5 (.bool true) <| Yv <| Yv <| Yv <| Yv <| Yv <| Yv <| Y9 (Y4f (.bool true)) <| Y7 (⟨true, Ya (by kernel_rfl), rfl, H⟩)
     ·have H := H.2 hb25
      rcases X1 (decide ((0 : Int) < y15)) with hb26 | hb26
      ·have H := H.1 hb26
       exact Y1 <| Y5 (.int .u8 x18) <| Y9 (Y3e ⟨trivial, trivial, rfl⟩ hb24) <| Y5 (.bool false) <| Y5 (.int .u8 x18) <| Y9 (Y3e ⟨trivial, trivial, rfl⟩ hb25) <| Y9 (Y27 (.bool false)) <| Y5 (.bool false) <| Y5 (.int .i64 y15) <| Y9 (Y4q ⟨trivial, trivial, rfl⟩ hb26) <| Y5 (.bool true) <| Y5 (.int .i64 y14) <| Yl (.bool ((y14 : Int) == 0)) ⟨trivial, trivial, rfl⟩ <| Y9 (Y4f (.bool ((y14 : Int) == 0))) <| Y9 (Y27 (.bool ((y14 : Int) == 0))) <| Y7 (⟨((y14 : Int) == 0), Ya (by kernel_rfl), rfl, H⟩)
      ·have H := H.2 hb26
       exact Y1 <| Y5 (.int .u8 x18) <| Y9 (Y3e ⟨trivial, trivial, rfl⟩ hb24) <| Y5 (.bool false) <| Y5 (.int .u8 x18) <| Y9 (Y3e ⟨trivial, trivial, rfl⟩ hb25) <| Y9 (Y27 (.bool false)) <| Y5 (.bool false) <| Y5 (.int .i64 y15) <| Y9 (Y3e ⟨trivial, trivial, rfl⟩ hb26) <| Y5 (.bool false) <| Yv <| Yv <| Y9 (Y27 (.bool false)) <| Y9 (Y27 (.bool false)) <| Y7 (⟨false, Ya (by kernel_rfl), rfl, H⟩)
   clear H
   rintro _ _ ⟨y23, hle, rfl, HJ22⟩
   have H := HR21 y23 HJ22
   refine Y19 _ hle ?_
   rcases X1 (y23) with hb27 | hb27
   ·have H := H.1 hb27
    exact Y0l hb27 <| Y5d (⟨y14, y15, (decide ((y15 : Int) < 5)), Ya (by kernel_rfl), H⟩)
   ·have H := H.2 hb27
    refine Y0s hb27 <| Y0p <| Y6 ?_
    obtain ⟨c28, c29, H⟩ := H
    refine Y1 <| Y5 (.int .i64 y14) <| Yl (.int .i64 (10 * y14)) ⟨trivial, trivial, rfl, c28⟩ <| Y5 (.int .u8 x18) <| Yl (.int .u8 (nw .u8 (x18 - 48 : Int))) ⟨trivial, trivial, rfl, trivial⟩ <| Y9 (Y5z (k := .u8) (kd := .i64) (n := nw .u8 (x18 - 48 : Int)) (av := .int .i64 (IntKind.wrap .i64 (nw .u8 (x18 - 48 : Int)))) rfl (by kernel_rfl) (by kernel_rfl) (by kernel_rfl) (by kernel_rfl)) <| Yl (.int .i64 ((10 * y14) + (IntKind.wrap .i64 (nw .u8 (x18 - 48 : Int))))) ⟨trivial, trivial, rfl, c29⟩ ?_
    refine Ye (.int .i64 ((10 * y14) + (IntKind.wrap .i64 (nw .u8 (x18 - 48 : Int))))) <| Y7 <| Y6 ?_
    obtain ⟨f30, x31, l32, c33, h34, w35, H⟩ := H
    refine Y1 <| Y5 (.ref p 0 0) <| Yr (0) f30 <| Yp 1 (0) f30 <| Y00 l32 <| Yl (.int .i64 (x31 + 1)) ⟨trivial, trivial, rfl, c33⟩ <| Yr (0) f30 <| Yp 1 (0) f30 <| Y9 (Y17 w35) <| Y7 ?_
    obtain ⟨c36, H⟩ := H
    refine Y1 <| Y5 (.int .i64 y15) <| Yl (.int .i64 (y15 + 1)) ⟨trivial, trivial, rfl, c36⟩ <| Ye (.int .i64 (y15 + 1)) <| Y7 ?_
    obtain ⟨m37, hl38, H⟩ := H
    exact ⟨m37, hl38, ((10 * y14) + (IntKind.wrap .i64 (nw .u8 (x18 - 48 : Int)))), (y15 + 1), Ya (by kernel_rfl), H⟩
  ·have H := H.2 hb16
   exact Y0s hb16 <| Y5d (⟨y14, y15, (decide ((y15 : Int) < 5)), Ya (by kernel_rfl), H⟩)
 clear H
 rintro _ h1 ⟨y5, y6, y7, hle, HJ4⟩
 have H := HR3 y5 y6 y7 h1 HJ4
 refine Y19 _ hle <| Y6 <| Y6 <| Y1 <| Y5 (.int .i64 y6) <| Yl (.bool ((y6 : Int) == 0)) ⟨trivial, trivial, rfl⟩ <| Y7 ?_
 rcases X1 ((y6 : Int) == 0) with hb39 | hb39
 ·have H := H.1 hb39
  refine Y0l hb39 ?_
  rcases H with H | H
  ·skip
   obtain ⟨h43, k44, H⟩ := H
   refine Y1 <| Y5 (.ref p 0 0) <| Y01 k44 nc1 <| Y7 <| Y6 ?_
   obtain ⟨h45, x46, k47, H⟩ := H
   exact Y1 <| Y5 (.ref p 0 0) <| Y5 (.int .i64 y5) <| Y01 k47 (al_ ⟨⟨trivial, rfl⟩, ⟨trivial, rfl⟩, ⟨trivial, rfl⟩, ⟨trivial, rfl⟩, trivial⟩) <| Ye (.int .i64 x46) <| Y7 <| Y10 (Yw (Qp := Qp) rfl H)
  ·skip
   obtain ⟨h40, ch41, k42, H⟩ := H
   exact Y1 <| Y5 (.ref p 0 0) <| Y2m k42 nc1 (H)
 ·have H := H.2 hb39
  refine Y0s hb39 <| Y0p <| Y6 ?_
  obtain ⟨h48, x49, k50, H⟩ := H
  exact Y1 <| Y5 (.ref p 0 0) <| Y5 (.int .i64 y5) <| Y01 k50 (al_ ⟨⟨trivial, rfl⟩, ⟨trivial, rfl⟩, ⟨trivial, rfl⟩, ⟨trivial, rfl⟩, trivial⟩) <| Ye (.int .i64 x49) <| Y7 <| Y10 (Yw (Qp := Qp) rfl H)
def pre_join (h : Hp) (p : Nat) (a1 : Int) (Q : Hp → AV → Prop) (Qp : Hp → List PanicEntry → Prop) : Prop :=
 ∃ r1 v2 o3, (CallOK Tryd.prog 66 [.ref p 0 0] h h (.ref r1 v2 o3)) ∧ ∃ (I7 : Nat → Hp → Prop), (∃ m10, I7 m10 h) ∧ ∀ (m6 : Nat)  (h5 : Hp), I7 m6 h5 → ((Has h5 r1 v2) ∧ ∃ s12, (NC s12) ∧ (Ld h5 r1 v2 (o3 + 3) s12) ∧ ∃ n15, (Len h5 s12 n15) ∧ (((decide ((0 : Int) < ((n15 : Nat) : Int))) = true → (okA .i64 (((n15 : Nat) : Int) - 1 : Int)) ∧ ∃ r19 v20 o21, (Ix h5 s12 1 (((n15 : Nat) : Int) - 1 : Int) (.ref r19 v20 o21)) ∧ ∃ x23, (Ld h5 r19 v20 o21 (.int .i64 x23)) ∧ ∃ x25, (CallOK Tryd.prog 68 [.int .i64 x23] h5 h5 (.int .i64 x25)) ∧ (((decide ((a1 : Int) ≤ x25)) = true → ∃ s28, (NC s28) ∧ (Ld h5 r1 v2 (o3 + 2) s28) ∧ ∃ n31, (Len h5 s28 n31) ∧ (okA .i64 (((n31 : Nat) : Int) - 2 : Int)) ∧ ∃ r34 v35 o36, (Ix h5 s12 1 (((n31 : Nat) : Int) - 2 : Int) (.ref r34 v35 o36)) ∧ ∃ x38, (Ld h5 r34 v35 o36 (.int .i64 x38)) ∧ ∃ r40 v41 o42, (Ix h5 s28 1 (((n31 : Nat) : Int) - 2 : Int) (.ref r40 v41 o42)) ∧ ∃ x44, (Ld h5 r40 v41 o42 (.int .i64 x44)) ∧ (okA .i64 (((n31 : Nat) : Int) - 1 : Int)) ∧ ∃ r47 v48 o49, (Ix h5 s28 1 (((n31 : Nat) : Int) - 1 : Int) (.ref r47 v48 o49)) ∧ ∃ x51, (Ld h5 r47 v48 o49 (.int .i64 x51)) ∧ ∃ r53 h54, (Nw h5 r53 ⟨0, true, 3, 1, [.int .i64 x44, .int .i64 x51]⟩ h54) ∧ ∃ h56 x57, (CallOK Tryd.prog 63 [.ref p 0 0, .int .i64 x38, .int .i64 0, .rsl r53 0 0 2] h54 h56 (.int .i64 x57)) ∧ (Has h54 r1 v2) ∧ (Ld h54 r1 v2 (o3 + 3) s12) ∧ (Ix h54 s12 1 (((n31 : Nat) : Int) - 2 : Int) (.ref r34 v35 o36)) ∧ (Ld h54 r34 v35 o36 (.int .i64 x38)) ∧ (Has h56 r1 v2) ∧ ∃ s64, (NC s64) ∧ (Ld h56 r1 v2 (o3 + 3) s64) ∧ ∃ s67, (NC s67) ∧ (Cut h56 s64 1 (((n31 : Nat) : Int) - 2 : Int) s67) ∧ ∃ s70, (NC s70) ∧ (Ld h56 r1 v2 (o3 + 2) s70) ∧ ∃ s73, (NC s73) ∧ (Cut h56 s70 1 (((n31 : Nat) : Int) - 2 : Int) s73) ∧ ∃ r76 h77, (Nw h56 r76 ⟨0, true, 3, 1, [.int .i64 x57]⟩ h77) ∧ ∃ h79 s81, (NC s81) ∧ (App h77 s73 3 1 8 1 [.int .i64 x57] h79 s81) ∧ (Has h79 r1 v2) ∧ (oneA h79 s67) ∧ ∃ h84, (St h79 r1 v2 (o3 + 3) s67 h84) ∧ (Has h84 r1 v2) ∧ (oneA h84 s81) ∧ ∃ h88, (St h84 r1 v2 (o3 + 2) s81 h88) ∧ (Has h77 r1 v2) ∧ (Ld h77 r1 v2 (o3 + 3) s64) ∧ (Ld h79 r1 v2 (o3 + 3) s64) ∧ (Cut h77 s64 1 (((n31 : Nat) : Int) - 2 : Int) s67) ∧ (Cut h79 s64 1 (((n31 : Nat) : Int) - 2 : Int) s67) ∧ (Ld h77 r1 v2 (o3 + 2) s70) ∧ (Cut h77 s70 1 (((n31 : Nat) : Int) - 2 : Int) s73) ∧ (∃ m98, m98 < m6 ∧ I7 m98 h88)) ∧ ((decide ((a1 : Int) ≤ x25)) = false → (Q h5 (.tup []))))) ∧ ((decide ((0 : Int) < ((n15 : Nat) : Int))) = false → (Q h5 (.tup [])))))
theorem w_join {h : Hp} {p : Nat} {a1 : Int} {Q : Hp → AV → Prop} {Qp : Hp → List PanicEntry → Prop}  (H : pre_join h p a1 Q Qp) : FnO Tryd.prog 67 [.ref p 0 0, .int .i64 a1] h Q Qp := by
 unfold pre_join at H
 refine Y59 Tryd.func67 rfl (Xc (by kernel_rfl)) <| GQ.E [(0, .ref p 0 0), (1, .int .i64 a1)] <| Y6 ?_
 obtain ⟨r1, v2, o3, k4, H⟩ := H
 refine Y1 <| Y5 (.ref p 0 0) <| Y01 k4 nc1 <| Ye (.ref r1 v2 o3) <| Y7 <| Y12 ?_
 obtain ⟨I7, ⟨m10, H9⟩, H⟩ := H
 refine Y5g (fun n e h' => Env.le e [(0, .ref p 0 0), (1, .int .i64 a1), (4, .ref r1 v2 o3)] ∧ I7 n h') ?_ m10 ⟨Ya (by kernel_rfl), H9⟩
 rintro m6 _ h5 ⟨hle, HI8⟩
 have H := H m6 h5 HI8
 refine Y19 _ hle <| Y6 <| Y6 ?_
 obtain ⟨f11, s12, n13, l14, n15, g16, H⟩ := H
 rcases X1 (decide ((0 : Int) < ((n15 : Nat) : Int))) with hb17 | hb17
 ·have H := H.1 hb17
  obtain ⟨c18, r19, v20, o21, i22, x23, l24, x25, k26, H⟩ := H
  refine Y28 Tryd.checked.mixed (by kernel_rfl) [.ref r1 v2 o3, .ref r1 v2 o3, .ref r1 v2 (o3 + 3), s12, .int .i64 ((n15 : Nat) : Int), .bool true, .bool true, .ref r1 v2 o3, .ref r1 v2 o3, .ref r1 v2 (o3 + 3), s12, .ref r1 v2 o3, .ref r1 v2 o3, .ref r1 v2 (o3 + 3), s12, .int .i64 ((n15 : Nat) : Int), .int .i64 (((n15 : Nat) : Int) - 1), .ref r19 v20 o21, .int .i64 x23, .int .i64 x25, .int .i64 a1, .bool (decide ((a1 : Int) ≤ x25)), .bool (decide ((a1 : Int) ≤ x25))] [] [h5] h5 (by kernel_rfl) (by kernel_rfl) rfl rfl ?_ ?_
  ·refine Ym (.ref r1 v2 o3) <| Yc 0 (Yj (o3) f11) <| Yc 0 (Yk 3 (o3) f11) <| Yc 0 (Yq l14) <| Yc 0 (Y3f g16) <| Y0o (fun _ => (Y5i (Yn (av := .bool (decide ((0 : Int) < ((n15 : Nat) : Int)))) ⟨trivial, trivial, rfl⟩ (by kernel_rfl)) hb17)) <| Ym (.bool true) <| Ym (.ref r1 v2 o3) <| Yc 0 (Yj (o3) f11) <| Yc 0 (Yk 3 (o3) f11) <| Yc 0 (Yq l14) <| Ym (.ref r1 v2 o3) <| Yc 0 (Yj (o3) f11) <| Yc 0 (Yk 3 (o3) f11) <| Yc 0 (Yq l14) <| Yc 0 (Y3f g16) ?_
   exact Y0o (fun _ => (Yn (av := .int .i64 (((n15 : Nat) : Int) - 1)) ⟨trivial, trivial, rfl, c18⟩ (by kernel_rfl))) <| Yc 0 (Y57 i22) <| Yc 0 (Yq l24) <| Yc 0 (Y43 k26 nc1) <| Ym (.int .i64 a1) <| Y0o (fun _ => (Yn (av := .bool (decide ((a1 : Int) ≤ x25))) ⟨trivial, trivial, rfl⟩ (by kernel_rfl))) <| Y0o (fun _ => (Y42 (s := .bool (decide ((a1 : Int) ≤ x25))) rfl (by kernel_rfl) (by kernel_rfl) ⟨trivial, rfl⟩)) (Y1m)
  rcases X1 (decide ((a1 : Int) ≤ x25)) with hb27 | hb27
  ·have H := H.1 hb27
   refine Y0l hb27 <| Y0p <| Y12 <| Y6 ?_
   obtain ⟨s28, n29, l30, n31, g32, H⟩ := H
   refine Y1 <| Y5 (.ref r1 v2 o3) <| Yr (o3) f11 <| Yp 2 (o3) f11 <| Y00 l30 <| Y9 (Y3f g32) <| Ye (.int .i64 ((n31 : Nat) : Int)) <| Y7 <| Y6 ?_
   obtain ⟨c33, r34, v35, o36, i37, x38, l39, r40, v41, o42, i43, x44, l45, c46, r47, v48, o49, i50, x51, l52, r53, h54, w55, h56, x57, k58, f59, l60, i61, l62, H⟩ := H
   refine Y28 Tryd.checked.mixed (by kernel_rfl) [.ref p 0 0, .ref r1 v2 o3, .ref r1 v2 o3, .ref r1 v2 (o3 + 3), s12, .int .i64 ((n31 : Nat) : Int), .int .i64 (((n31 : Nat) : Int) - 2), .ref r34 v35 o36, .int .i64 x38, .ref r1 v2 o3, .ref r1 v2 o3, .ref r1 v2 (o3 + 2), s28, .int .i64 ((n31 : Nat) : Int), .int .i64 (((n31 : Nat) : Int) - 2), .ref r40 v41 o42, .int .i64 x44, .ref r1 v2 o3, .ref r1 v2 o3, .ref r1 v2 (o3 + 2), s28, .int .i64 ((n31 : Nat) : Int), .int .i64 (((n31 : Nat) : Int) - 1), .ref r47 v48 o49, .int .i64 x51, .rsl r53 0 0 2, .int .i64 x57, .int .i64 x57] [25, 26] [h5, h54, h56] h56 (by kernel_rfl) (by kernel_rfl) rfl rfl ?_ ?_
   ·refine Ym (.ref p 0 0) <| Ym (.ref r1 v2 o3) <| Y5l 0 1 (Yj (o3) f11) (Yj (o3) f59) <| Y5l 0 1 (Yk 3 (o3) f11) (Yk 3 (o3) f59) <| Y5l 0 1 (Yq l14) (Yq l60) <| Ym (.int .i64 ((n31 : Nat) : Int)) <| Y0o (fun _ => (Yn (av := .int .i64 (((n31 : Nat) : Int) - 2)) ⟨trivial, trivial, rfl, c33⟩ (by kernel_rfl))) <| Y5l 0 1 (Y57 i37) (Y57 i61) <| Y5l 0 1 (Yq l39) (Yq l62) <| Ym (.ref r1 v2 o3) <| Yc 0 (Yj (o3) f11) <| Yc 0 (Yk 2 (o3) f11) <| Yc 0 (Yq l30) ?_
    refine Ym (.int .i64 ((n31 : Nat) : Int)) <| Y0o (fun _ => (Yn (av := .int .i64 (((n31 : Nat) : Int) - 2)) ⟨trivial, trivial, rfl, c33⟩ (by kernel_rfl))) <| Yc 0 (Y57 i43) <| Yc 0 (Yq l45) <| Ym (.ref r1 v2 o3) <| Yc 0 (Yj (o3) f11) <| Yc 0 (Yk 2 (o3) f11) <| Yc 0 (Yq l30) <| Ym (.int .i64 ((n31 : Nat) : Int)) <| Y0o (fun _ => (Yn (av := .int .i64 (((n31 : Nat) : Int) - 1)) ⟨trivial, trivial, rfl, c46⟩ (by kernel_rfl))) <| Yc 0 (Y57 i50) <| Yc 0 (Yq l52) ?_
    exact Y1n 0 (Y2g ([(0, .int .i64 x44), (1, .int .i64 x51)]) El42 w55 (al_ ⟨⟨⟨trivial, rfl⟩, Y44 rfl⟩, ⟨⟨trivial, rfl⟩, Y44 rfl⟩, trivial⟩) (al_ ⟨rfl, rfl, trivial⟩)) <| Y1n 1 (Y43 k58 (al_ ⟨⟨trivial, rfl⟩, ⟨trivial, rfl⟩, ⟨trivial, rfl⟩, ⟨trivial, rfl⟩, trivial⟩)) <| Y0o (fun _ => (Y5h (s := .int .i64 x57) rfl (by kernel_rfl) ⟨trivial, rfl⟩)) (Y1m)
   obtain ⟨f63, s64, n65, l66, s67, n68, i69, s70, n71, l72, s73, n74, i75, r76, h77, w78, h79, s81, n82, w80, f83, f86, h84, w85, f87, f90, h88, w89, f91, l92, l93, i94, i95, l96, i97, H⟩ := H
   refine Y28 Tryd.checked.mixed (by kernel_rfl) [.ref r1 v2 o3, .ref r1 v2 o3, .ref r1 v2 o3, .ref r1 v2 o3, .ref r1 v2 (o3 + 3), s64, .int .i64 ((n31 : Nat) : Int), .int .i64 (((n31 : Nat) : Int) - 2), s67, .ref r1 v2 o3, .ref r1 v2 o3, .ref r1 v2 (o3 + 2), s70, .int .i64 ((n31 : Nat) : Int), .int .i64 (((n31 : Nat) : Int) - 2), s73, .int .i64 x57, .rsl r76 0 0 1, s81, .ref r1 v2 o3, .ref r1 v2 (o3 + 3), .any, .ref r1 v2 o3, .ref r1 v2 (o3 + 2), .any] [17, 18, 21, 24] [h56, h77, h79, h84, h88] h88 (by kernel_rfl) (by kernel_rfl) rfl rfl ?_ ?_
   ·refine Ym (.ref r1 v2 o3) <| Ym (.ref r1 v2 o3) <| Ym (.ref r1 v2 o3) <| Y37 0 1 2 (Yj (o3) f63) (Yj (o3) f91) (Yj (o3) f83) <| Y37 0 1 2 (Yk 3 (o3) f63) (Yk 3 (o3) f91) (Yk 3 (o3) f83) <| Y37 0 1 2 (Yq l66) (Yq l92) (Yq l93) <| Ym (.int .i64 ((n31 : Nat) : Int)) <| Y0o (fun _ => (Yn (av := .int .i64 (((n31 : Nat) : Int) - 2)) ⟨trivial, trivial, rfl, c33⟩ (by kernel_rfl))) <| Y37 0 1 2 (Y5k i69) (Y5k i94) (Y5k i95) <| Ym (.ref r1 v2 o3) ?_
    refine Y5l 0 1 (Yj (o3) f63) (Yj (o3) f91) <| Y5l 0 1 (Yk 2 (o3) f63) (Yk 2 (o3) f91) <| Y5l 0 1 (Yq l72) (Yq l96) <| Ym (.int .i64 ((n31 : Nat) : Int)) <| Y0o (fun _ => (Yn (av := .int .i64 (((n31 : Nat) : Int) - 2)) ⟨trivial, trivial, rfl, c33⟩ (by kernel_rfl))) <| Y5l 0 1 (Y5k i75) (Y5k i97) <| Ym (.int .i64 x57) <| Y1n 0 (Y2g ([(0, .int .i64 x57)]) El42 w78 (al_ ⟨⟨⟨trivial, rfl⟩, Y44 rfl⟩, trivial⟩) (al_ ⟨rfl, trivial⟩)) ?_
    exact Y1n 1 (Y3g (.rsl r76 0 0 1) El42 (SrcA.rsl (m := 1) (by kernel_rfl) (Nw.at w78) rfl rfl rfl (Xc rfl)) w80) <| Yc 2 (Yj (o3) f83) <| Yc 2 (Yk 3 (o3) f83) <| Y1n 2 (Y35 w85 n68 f86) <| Yc 3 (Yj (o3) f87) <| Yc 3 (Yk 2 (o3) f87) <| Y1n 3 (Y35 w89 n82 f90) (Y1m)
   obtain ⟨m98, hl99, H⟩ := H
   exact ⟨m98, hl99, Ya (by kernel_rfl), H⟩
  ·have H := H.2 hb27
   exact Y0s hb27 <| Y5d (Y5s (Qp := Qp) rfl H)
 ·have H := H.2 hb17
  refine Y28 Tryd.checked.mixed (by kernel_rfl) [.ref r1 v2 o3, .ref r1 v2 o3, .ref r1 v2 (o3 + 3), s12, .int .i64 ((n15 : Nat) : Int), .bool false, .bool false, undA, undA, undA, undA, undA, undA, undA, undA, undA, undA, undA, undA, undA, undA, undA, .bool false] [] [h5] h5 (by kernel_rfl) (by kernel_rfl) rfl rfl ?_ ?_
  ·exact Ym (.ref r1 v2 o3) <| Yc 0 (Yj (o3) f11) <| Yc 0 (Yk 3 (o3) f11) <| Yc 0 (Yq l14) <| Yc 0 (Y3f g16) <| Y0o (fun _ => (Y5j (Yn (av := .bool (decide ((0 : Int) < ((n15 : Nat) : Int)))) ⟨trivial, trivial, rfl⟩ (by kernel_rfl)) hb17)) <| Ym (.bool false) <| Y0d <| Y0d <| Y0d <| Y0d <| Y0d <| Y0d <| Y0d <| Y0d <| Y0d <| Y0d <| Y0d <| Y0d <| Y0d <| Y0d <| Y0d <| Y0o (fun _ => (Y27 (.bool false))) (Y1m)
  refine Y52 (b := false) (by kernel_rfl) (fun e => by cases e) (fun _ => ?_)
  exact Y5d (Y5s (Qp := Qp) rfl H)
def pre_operand (h : Hp) (p : Nat) (Q : Hp → AV → Prop) (Qp : Hp → List PanicEntry → Prop) : Prop :=
 ∃ h1, (CallOK Tryd.prog 67 [.ref p 0 0, .int .i64 0] h h1 (.tup [])) ∧ ∃ r3 v4 o5, (CallOK Tryd.prog 66 [.ref p 0 0] h1 h1 (.ref r3 v4 o5)) ∧ (Has h1 r3 v4) ∧ ∃ s8, (NC s8) ∧ (Ld h1 r3 v4 (o5 + 2) s8) ∧ ∃ r11 v12 o13, (Ix h1 s8 1 (0 : Int) (.ref r11 v12 o13)) ∧ ∃ x15, (Ld h1 r11 v12 o13 (.int .i64 x15)) ∧ ∃ h17, (St h1 r3 v4 (o5 + 2) (.im (.val (.slice none 0 0))) h17) ∧ (Q h17 (.int .i64 x15))
theorem w_operand {h : Hp} {p : Nat} {Q : Hp → AV → Prop} {Qp : Hp → List PanicEntry → Prop}  (H : pre_operand h p Q Qp) : FnO Tryd.prog 51 [.ref p 0 0] h Q Qp := by
 unfold pre_operand at H
 refine Y59 Tryd.func51 rfl (Xc (by kernel_rfl)) <| GQ.E [(0, .ref p 0 0)] <| Y6 <| Y1 <| Ye (.int .i64 0) <| Y7 <| Y6 ?_
 obtain ⟨h1, k2, H⟩ := H
 refine Y1 <| Y5 (.ref p 0 0) <| Y01 k2 nc2 <| Y7 <| Y6 ?_
 obtain ⟨r3, v4, o5, k6, H⟩ := H
 refine Y1 <| Y5 (.ref p 0 0) <| Y01 k6 nc1 <| Ye (.ref r3 v4 o5) <| Y7 <| Y6 ?_
 obtain ⟨f7, s8, n9, l10, r11, v12, o13, i14, x15, l16, H⟩ := H
 refine Y1 <| Y5 (.ref r3 v4 o5) <| Yr (o5) f7 <| Yp 2 (o5) f7 <| Y00 l10 <| Y9 (Y57 i14) <| Y00 l16 <| Ye (.int .i64 x15) <| Y7 <| Y6 ?_
 obtain ⟨h17, w18, H⟩ := H
 exact Y1 <| Y5 (.ref r3 v4 o5) <| Yr (o5) f7 <| Yp 2 (o5) f7 <| Y9 (Y17 w18) <| Y7 <| Y6 <| Y1 <| Y5 (.int .i64 x15) <| Ye (.int .i64 x15) <| Y7 <| Y10 (Yw (Qp := Qp) rfl H)
end Go.Proofs.YtkgfbpbndmklnaaDoor
