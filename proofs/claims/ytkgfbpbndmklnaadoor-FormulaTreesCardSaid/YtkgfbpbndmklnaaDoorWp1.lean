/- Own work. -/
import Derived.Test.YtkgfbpbndmklnaaDoorChecked
import Derived.Test.YtkgfbpbndmklnaaDoorSymA
set_option linter.unusedSimpArgs false
set_option linter.unusedVariables false
set_option maxRecDepth 100000
namespace Go.Proofs.YtkgfbpbndmklnaaDoor
open Go.Abs
def pre_stop (h : Hp) (p : Nat) (Q : Hp → AV → Prop) (Qp : Hp → List PanicEntry → Prop) : Prop :=
 (Qp h [{ v := .iface 101 (.agg #[]), recovered := false }])
theorem w_stop {h : Hp} {p : Nat} {Q : Hp → AV → Prop} {Qp : Hp → List PanicEntry → Prop}  (H : pre_stop h p Q Qp) : FnO Tryd.prog 65 [.ref p 0 0] h Q Qp := by
 unfold pre_stop at H
 refine FnO.mk Tryd.func65 rfl (Xc (by kernel_rfl)) ?_
 refine GQ.E [(0, .ref p 0 0)] ?_
 refine GQ.region ?_
 refine SQ.cons (av := .agg []) rfl (OStep.yes rfl (HStep.bld (rs := []) (z := []) (fs := []) (qs := []) (cs := []) rfl (by kernel_rfl) (by kernel_rfl) (by kernel_rfl) (fun q hq => absurd hq X4) (CL.nil) (by kernel_rfl))) ?_
 refine SQ.cons (av := .im (.val (.iface 101 (.agg #[])))) rfl (OStep.yes rfl (HStep.makeIface (fs := #[]) (v := .agg #[]) rfl (by kernel_rfl) (by kernel_rfl))) ?_
 refine Y1n (OPan.yes rfl (HPan.panic (t := 101) (v := .agg #[]) rfl (by kernel_rfl))) ?_
 exact H
def pre_peek (h : Hp) (p : Nat) (Q : Hp → AV → Prop) (Qp : Hp → List PanicEntry → Prop) : Prop :=
 (Has h p 0) ∧ ∃ (x2 : Int), (Ld h p 0 1 (.int .i64 x2)) ∧ ∃ (t4 : ByteArray), (Ld h p 0 0 (.string t4)) ∧ (((decide ((x2 : Int) < ((t4).size : Nat))) = true → ∃ (x7 : Int), (0 ≤ (x2 : Int) ∧ (x2 : Int) < (t4).size) ∧ (pvIndex Tryd.prog 9 (.string t4) (.int .i64 x2) = .int .u8 x7) ∧ (Q h (.int .u8 x7))) ∧ ((decide ((x2 : Int) < ((t4).size : Nat))) = false → (Q h (.int .u8 0))))
theorem w_peek {h : Hp} {p : Nat} {Q : Hp → AV → Prop} {Qp : Hp → List PanicEntry → Prop}  (H : pre_peek h p Q Qp) : FnO Tryd.prog 59 [.ref p 0 0] h Q Qp := by
 unfold pre_peek at H
 refine FnO.mk Tryd.func59 rfl (Xc (by kernel_rfl)) ?_
 refine GQ.E [(0, .ref p 0 0)] ?_
 refine GQ.seq ?_
 refine GQ.region ?_
 refine SQ.a (.int .u8 0) ?_
 refine SQ.nil ?_
 refine GQ.seq ?_
 refine GQ.seq ?_
 obtain ⟨f1, x2, l3, t4, l5, H⟩ := H
 refine GQ.draw Tryd.checked.mixed (by kernel_rfl) [.ref p 0 0, .ref p 0 0, .ref p 0 1, .int .i64 x2, .ref p 0 0, .ref p 0 0, .ref p 0 0, .string t4, .int .i64 ((t4).size : Nat), .bool (decide ((x2 : Int) < ((t4).size : Nat)))] [] [h] h (by kernel_rfl) (by kernel_rfl) rfl rfl ?_ ?_
 ·refine DObl.m (.ref p 0 0) ?_
  refine DObl.y 0 (HStep.n (0) f1) ?_
  refine DObl.y 0 (HStep.f 1 (0) f1) ?_
  refine DObl.y 0 (HStep.y l3) ?_
  refine DObl.m (.ref p 0 0) ?_
  refine DObl.y 0 (HStep.n (0) f1) ?_
  refine DObl.y 0 (HStep.f 0 (0) f1) ?_
  refine DObl.y 0 (HStep.y l5) ?_
  refine DObl.z (fun _ => (HStep.lenS (s := t4) rfl (by kernel_rfl) (by kernel_rfl))) ?_
  refine DObl.z (fun _ => (Y6 (av := .bool (decide ((x2 : Int) < ((t4).size : Nat)))) ⟨trivial, trivial, rfl⟩ (by kernel_rfl))) ?_
  exact DObl.nil
 rcases X1 (decide ((x2 : Int) < ((t4).size : Nat))) with hb6 | hb6
 ·have H := H.1 hb6
  refine GQ.t hb6 ?_
  refine GQ.seq ?_
  obtain ⟨x7, c8, l9, H⟩ := H
  refine GQ.draw Tryd.checked.mixed (by kernel_rfl) [.ref p 0 0, .ref p 0 0, .ref p 0 0, .string t4, .ref p 0 0, .ref p 0 0, .ref p 0 1, .int .i64 x2, .int .u8 x7, .int .u8 x7] [] [h] h (by kernel_rfl) (by kernel_rfl) rfl rfl ?_ ?_
  ·refine DObl.m (.ref p 0 0) ?_
   refine DObl.y 0 (HStep.n (0) f1) ?_
   refine DObl.y 0 (HStep.f 0 (0) f1) ?_
   refine DObl.y 0 (HStep.y l5) ?_
   refine DObl.m (.ref p 0 0) ?_
   refine DObl.y 0 (HStep.n (0) f1) ?_
   refine DObl.y 0 (HStep.f 1 (0) f1) ?_
   refine DObl.y 0 (HStep.y l3) ?_
   refine DObl.z (fun _ => (HStep.chr (kk := .i64) (s := t4) (j := x2) rfl (by kernel_rfl) (by kernel_rfl) (by kernel_rfl) c8 l9)) ?_
   refine DObl.z (fun _ => (HStep.asg (s := .int .u8 x7) rfl (by kernel_rfl) ⟨trivial, rfl⟩)) ?_
   exact DObl.nil
  refine GQ.ret ?_
  exact EndK.ret (Qp := Qp) rfl H
 ·have H := H.2 hb6
  refine GQ.g hb6 ?_
  refine GQ.skip ?_
  refine GQ.seq ?_
  refine GQ.region ?_
  refine SQ.a (.int .u8 0) ?_
  refine SQ.nil ?_
  refine GQ.ret ?_
  exact EndK.ret (Qp := Qp) rfl H
def pre_expect (h : Hp) (p : Nat) (a1 : Int) (Q : Hp → AV → Prop) (Qp : Hp → List PanicEntry → Prop) : Prop :=
 ∃ (h1 : Hp), ∃ (x2 : Int), (CallOK Tryd.prog 59 [.ref p 0 0] h h1 (.int .u8 x2)) ∧ ((((x2 : Int) != a1) = true → ((∃ (h8 : Hp), (CallOK Tryd.prog 65 [.ref p 0 0] h1 h8 (.tup [])) ∧ (Has h8 p 0) ∧ ∃ (x11 : Int), (Ld h8 p 0 1 (.int .i64 x11)) ∧ (okA .i64 (x11 + 1 : Int)) ∧ ∃ (h14 : Hp), (St h8 p 0 1 (.int .i64 (x11 + 1)) h14) ∧ (Q h14 (.tup []))) ∨ (∃ (h5 : Hp), ∃ (ch6 : List PanicEntry), (Yp Tryd.prog 65 [.ref p 0 0] h1 h5 ch6) ∧ (Qp h5 ch6)))) ∧ (((x2 : Int) != a1) = false → (Has h1 p 0) ∧ ∃ (x17 : Int), (Ld h1 p 0 1 (.int .i64 x17)) ∧ (okA .i64 (x17 + 1 : Int)) ∧ ∃ (h20 : Hp), (St h1 p 0 1 (.int .i64 (x17 + 1)) h20) ∧ (Q h20 (.tup []))))
theorem w_expect {h : Hp} {p : Nat} {a1 : Int} {Q : Hp → AV → Prop} {Qp : Hp → List PanicEntry → Prop}  (H : pre_expect h p a1 Q Qp) : FnO Tryd.prog 70 [.ref p 0 0, .int .u8 a1] h Q Qp := by
 unfold pre_expect at H
 refine FnO.mk Tryd.func70 rfl (Xc (by kernel_rfl)) ?_
 refine GQ.E [(0, .ref p 0 0), (1, .int .u8 a1)] ?_
 refine GQ.seq ?_
 refine GQ.seq ?_
 obtain ⟨h1, x2, k3, H⟩ := H
 refine GQ.region ?_
 refine SQ.m (.ref p 0 0) ?_
 refine SQ.c [.ref p 0 0] nc1 k3 ?_
 refine SQ.m (.int .u8 a1) ?_
 refine SQ.p (.bool ((x2 : Int) != a1)) ⟨trivial, trivial, rfl⟩ ?_
 refine SQ.nil ?_
 rcases X1 ((x2 : Int) != a1) with hb4 | hb4
 ·have H := H.1 hb4
  refine GQ.t hb4 ?_
  rcases H with H | H
  ·skip
   obtain ⟨h8, k9, H⟩ := H
   refine GQ.region ?_
   refine SQ.m (.ref p 0 0) ?_
   refine SQ.c [.ref p 0 0] nc1 k9 ?_
   refine SQ.nil ?_
   obtain ⟨f10, x11, l12, c13, h14, w15, H⟩ := H
   refine GQ.region ?_
   refine SQ.m (.ref p 0 0) ?_
   refine SQ.n (0) f10 ?_
   refine SQ.f 1 (0) f10 ?_
   refine SQ.y l12 ?_
   refine SQ.p (.int .i64 (x11 + 1)) ⟨trivial, trivial, rfl, c13⟩ ?_
   refine SQ.n (0) f10 ?_
   refine SQ.f 1 (0) f10 ?_
   refine SQ.cons (av := .any) rfl (OStep.yes rfl (Y9 (r := p) (ver := 0) (off := 1) (n := 1) (v := .int .i64 (x11 + 1)) rfl (by kernel_rfl) (by kernel_rfl) (by kernel_rfl) ⟨trivial, rfl⟩ (by kernel_rfl) w15)) ?_
   refine SQ.nil ?_
   exact EndK.nor (Qp := Qp) rfl H
  ·skip
   obtain ⟨h5, ch6, k7, H⟩ := H
   refine GQ.region ?_
   refine SQ.m (.ref p 0 0) ?_
   refine Y1n (OPan.yes rfl (HPan.call (vs := [.ref p 0 0]) rfl (by kernel_rfl) (by kernel_rfl) nc1 k7)) ?_
   exact H
 ·have H := H.2 hb4
  refine GQ.g hb4 ?_
  refine GQ.skip ?_
  obtain ⟨f16, x17, l18, c19, h20, w21, H⟩ := H
  refine GQ.region ?_
  refine SQ.m (.ref p 0 0) ?_
  refine SQ.n (0) f16 ?_
  refine SQ.f 1 (0) f16 ?_
  refine SQ.y l18 ?_
  refine SQ.p (.int .i64 (x17 + 1)) ⟨trivial, trivial, rfl, c19⟩ ?_
  refine SQ.n (0) f16 ?_
  refine SQ.f 1 (0) f16 ?_
  refine SQ.cons (av := .any) rfl (OStep.yes rfl (Y9 (r := p) (ver := 0) (off := 1) (n := 1) (v := .int .i64 (x17 + 1)) rfl (by kernel_rfl) (by kernel_rfl) (by kernel_rfl) ⟨trivial, rfl⟩ (by kernel_rfl) w21)) ?_
  refine SQ.nil ?_
  exact EndK.nor (Qp := Qp) rfl H
def pre_inner (h : Hp) (p : Nat) (Q : Hp → AV → Prop) (Qp : Hp → List PanicEntry → Prop) : Prop :=
 (Has h p 0) ∧ ∃ (s2 : AV), (NC s2) ∧ (Ld h p 0 3 s2) ∧ ∃ (n5 : Nat), (Len h s2 n5) ∧ (okA .i64 (((n5 : Nat) : Int) - 1 : Int)) ∧ ∃ (r8 : Nat), ∃ (v9 : Nat), ∃ (o10 : Nat), (Ix h s2 7 (((n5 : Nat) : Int) - 1 : Int) (.ref r8 v9 o10)) ∧ (Q h (.ref r8 v9 o10))
theorem w_inner {h : Hp} {p : Nat} {Q : Hp → AV → Prop} {Qp : Hp → List PanicEntry → Prop}  (H : pre_inner h p Q Qp) : FnO Tryd.prog 66 [.ref p 0 0] h Q Qp := by
 unfold pre_inner at H
 refine FnO.mk Tryd.func66 rfl (Xc (by kernel_rfl)) ?_
 refine GQ.E [(0, .ref p 0 0)] ?_
 refine GQ.seq ?_
 refine GQ.region ?_
 refine SQ.a (.im (.val (.pointer none))) ?_
 refine SQ.nil ?_
 refine GQ.seq ?_
 obtain ⟨f1, s2, n3, l4, n5, g6, c7, r8, v9, o10, i11, H⟩ := H
 refine GQ.draw Tryd.checked.mixed (by kernel_rfl) [.ref p 0 0, .ref p 0 0, .ref p 0 3, s2, .ref p 0 0, .ref p 0 0, .ref p 0 3, s2, .int .i64 ((n5 : Nat) : Int), .int .i64 (((n5 : Nat) : Int) - 1), .ref r8 v9 o10, .ref r8 v9 o10] [] [h] h (by kernel_rfl) (by kernel_rfl) rfl rfl ?_ ?_
 ·refine DObl.m (.ref p 0 0) ?_
  refine DObl.y 0 (HStep.n (0) f1) ?_
  refine DObl.y 0 (HStep.f 3 (0) f1) ?_
  refine DObl.y 0 (HStep.y l4) ?_
  refine DObl.m (.ref p 0 0) ?_
  refine DObl.y 0 (HStep.n (0) f1) ?_
  refine DObl.y 0 (HStep.f 3 (0) f1) ?_
  refine DObl.y 0 (HStep.y l4) ?_
  refine DObl.y 0 (HStep.len (s := s2) (n := n5) rfl (by kernel_rfl) (by kernel_rfl) g6) ?_
  refine DObl.z (fun _ => (Y6 (av := .int .i64 (((n5 : Nat) : Int) - 1)) ⟨trivial, trivial, rfl, c7⟩ (by kernel_rfl))) ?_
  refine DObl.y 0 (HStep.ix (kk := .i64) (s := s2) (j := ((n5 : Nat) : Int) - 1) (k := 7) rfl (by kernel_rfl) (by kernel_rfl) (by kernel_rfl) (by kernel_rfl) i11) ?_
  refine DObl.z (fun _ => (HStep.asg (s := .ref r8 v9 o10) rfl (by kernel_rfl) ⟨trivial, rfl⟩)) ?_
  exact DObl.nil
 refine GQ.ret ?_
 exact EndK.ret (Qp := Qp) rfl H
def pre_term (h : Hp) (p : Nat) (a1 : Int) (Q : Hp → AV → Prop) (Qp : Hp → List PanicEntry → Prop) : Prop :=
 ∃ (r1 : Nat), ∃ (v2 : Nat), ∃ (o3 : Nat), (CallOK Tryd.prog 66 [.ref p 0 0] h h (.ref r1 v2 o3)) ∧ (Has h r1 v2) ∧ ∃ (s6 : AV), (NC s6) ∧ (Ld h r1 v2 (o3 + 2) s6) ∧ ∃ (r9 : Nat), ∃ (h10 : Hp), (Nw h r9 ⟨0, true, 3, 1, [.int .i64 a1]⟩ h10) ∧ ∃ (h12 : Hp), ∃ (s14 : AV), (NC s14) ∧ (App h10 s6 3 1 8 1 [.int .i64 a1] h12 s14) ∧ (Has h12 r1 v2) ∧ (oneA h12 s14) ∧ ∃ (h17 : Hp), (St h12 r1 v2 (o3 + 2) s14 h17) ∧ (Q h17 (.tup []))
theorem w_term {h : Hp} {p : Nat} {a1 : Int} {Q : Hp → AV → Prop} {Qp : Hp → List PanicEntry → Prop}  (H : pre_term h p a1 Q Qp) : FnO Tryd.prog 60 [.ref p 0 0, .int .i64 a1] h Q Qp := by
 unfold pre_term at H
 refine FnO.mk Tryd.func60 rfl (Xc (by kernel_rfl)) ?_
 refine GQ.E [(0, .ref p 0 0), (1, .int .i64 a1)] ?_
 refine GQ.seq ?_
 obtain ⟨r1, v2, o3, k4, H⟩ := H
 refine GQ.region ?_
 refine SQ.m (.ref p 0 0) ?_
 refine SQ.c [.ref p 0 0] nc1 k4 ?_
 refine SQ.a (.ref r1 v2 o3) ?_
 refine SQ.nil ?_
 obtain ⟨f5, s6, n7, l8, r9, h10, w11, h12, s14, n15, w13, f16, f19, h17, w18, H⟩ := H
 refine GQ.region ?_
 refine SQ.m (.ref r1 v2 o3) ?_
 refine SQ.m (.ref r1 v2 o3) ?_
 refine SQ.n (o3) f5 ?_
 refine SQ.f 2 (o3) f5 ?_
 refine SQ.y l8 ?_
 refine SQ.m (.int .i64 a1) ?_
 refine SQ.cons (av := .rsl r9 0 0 1) rfl (OStep.yes rfl (HStep.build (qs := [(0, .int .i64 a1)]) (cs := [.int .i64 a1]) (r := r9) rfl (Y8 (P := Tryd.prog) (t := 42) (e := 3) (k := 1) (bytes := 8) (z := [.int .i64 0]) (by kernel_rfl)) (by decide) (by kernel_rfl) (by simp only [X5, X4, or_false, forall_eq]; exact ⟨⟨trivial, rfl⟩, Y2l rfl⟩) (by kernel_rfl) (by simp only [X5, X4, or_false, forall_eq]; exact rfl) rfl w11)) ?_
 refine SQ.cons (av := s14) rfl (OStep.yes rfl (HStep.app (sv := s6) (xv := .rsl r9 0 0 1) (news := [.int .i64 a1]) rfl (Y8 (P := Tryd.prog) (t := 42) (e := 3) (k := 1) (bytes := 8) (z := [.int .i64 0]) (by kernel_rfl)) (by kernel_rfl) (by kernel_rfl) trivial (SrcA.rsl (m := 1) (by kernel_rfl) (Nw.at w11) rfl rfl rfl (Xc rfl)) w13)) ?_
 refine SQ.n (o3) f16 ?_
 refine SQ.f 2 (o3) f16 ?_
 refine SQ.cons (av := .any) rfl (OStep.yes rfl (Y9 (r := r1) (ver := v2) (off := o3 + 2) (n := 1) (v := s14) rfl (by kernel_rfl) (by kernel_rfl) (by kernel_rfl) n15 (Y09 f19) w18)) ?_
 refine SQ.nil ?_
 exact EndK.nor (Qp := Qp) rfl H
def pre_add (h : Hp) (p : Nat) (a1 : Int) (a2 : Int) (a3 : AV) (Q : Hp → AV → Prop) (Qp : Hp → List PanicEntry → Prop) : Prop :=
 ∃ (n1 : Nat), (Len h a3 n1) ∧ ∃ (I5 : Nat → Int → Int → Hp → Prop), (∃ m8 : Nat, I5 m8 1 0 h) ∧ ∀ (m4 : Nat) (y9 : Int) (y10 : Int) (h3 : Hp), I5 m4 y9 y10 h3 → ((((decide ((y10 : Int) < ((n1 : Nat) : Int))) = true → ∃ (r12 : Nat), ∃ (v13 : Nat), ∃ (o14 : Nat), (Ix h3 a3 1 (y10 : Int) (.ref r12 v13 o14)) ∧ ∃ (x16 : Int), (Ld h3 r12 v13 o14 (.int .i64 x16)) ∧ (Has h3 p 0) ∧ ∃ (s19 : AV), (NC s19) ∧ (Ld h3 p 0 2 s19) ∧ ∃ (r22 : Nat), ∃ (v23 : Nat), ∃ (o24 : Nat), (Ix h3 s19 4 (x16 : Int) (.ref r22 v23 o24)) ∧ (Has h3 r22 v23) ∧ ∃ (x27 : Int), (Ld h3 r22 v23 (o24 + 3) (.int .i64 x27)) ∧ (okA .i64 (x27 + 1 : Int)) ∧ (okA .i64 (y10 + 1 : Int)) ∧ (∃ m31 : Nat, m31 < m4 ∧ I5 m31 (if (x27 + 1 : Int) > y9 then x27 + 1 else y9) (y10 + 1) h3)) ∧ ((decide ((y10 : Int) < ((n1 : Nat) : Int))) = false → (Has h3 p 0) ∧ ∃ (s34 : AV), (NC s34) ∧ (Ld h3 p 0 2 s34) ∧ (oneA h3 a3) ∧ ∃ (r38 : Nat), ∃ (h39 : Hp), (Nw h3 r38 ⟨0, true, 64, 4, [.int .i64 a1, .int .i64 a2, a3, .int .i64 y9]⟩ h39) ∧ ∃ (h41 : Hp), ∃ (s43 : AV), (NC s43) ∧ (App h39 s34 64 4 48 1 [.int .i64 a1, .int .i64 a2, a3, .int .i64 y9] h41 s43) ∧ (Has h41 p 0) ∧ (oneA h41 s43) ∧ ∃ (h46 : Hp), (St h41 p 0 2 s43 h46) ∧ (Has h46 p 0) ∧ ∃ (s50 : AV), (NC s50) ∧ (Ld h46 p 0 2 s50) ∧ ∃ (n53 : Nat), (Len h46 s50 n53) ∧ (okA .i64 (((n53 : Nat) : Int) - 1 : Int)) ∧ (Q h46 (.int .i64 (((n53 : Nat) : Int) - 1))))))
theorem w_add {h : Hp} {p : Nat} {a1 : Int} {a2 : Int} {a3 : AV} {Q : Hp → AV → Prop} {Qp : Hp → List PanicEntry → Prop} (na3 : NC a3) (H : pre_add h p a1 a2 a3 Q Qp) : FnO Tryd.prog 63 [.ref p 0 0, .int .i64 a1, .int .i64 a2, a3] h Q Qp := by
 unfold pre_add at H
 refine FnO.mk Tryd.func63 rfl (Xc (by kernel_rfl)) ?_
 refine GQ.E [(0, .ref p 0 0), (1, .int .i64 a1), (2, .int .i64 a2), (3, a3)] ?_
 refine GQ.seq ?_
 refine GQ.region ?_
 refine SQ.a (.int .i64 0) ?_
 refine SQ.nil ?_
 refine GQ.seq ?_
 refine GQ.region ?_
 refine SQ.a (.int .i64 1) ?_
 refine SQ.nil ?_
 refine GQ.seq ?_
 refine GQ.seq ?_
 obtain ⟨n1, g2, H⟩ := H
 refine GQ.region ?_
 refine SQ.m (a3) ?_ na3
 refine SQ.cons (av := .int .i64 ((n1 : Nat) : Int)) rfl (OStep.yes rfl (HStep.len (s := a3) (n := n1) rfl (by kernel_rfl) (by kernel_rfl) g2)) ?_
 refine SQ.m (.int .i64 0) ?_
 refine SQ.nil ?_
 refine GQ.block ?_
 obtain ⟨I5, ⟨m8, H7⟩, H⟩ := H
 refine GQ.loop (fun n e h' => ∃ (y9 : Int) (y10 : Int), Env.le e [(0, .ref p 0 0), (1, .int .i64 a1), (2, .int .i64 a2), (3, a3), (8, .int .i64 0), (9, .int .i64 y9), (12, a3), (13, .int .i64 ((n1 : Nat) : Int)), (14, .int .i64 y10)] ∧ I5 n y9 y10 h') ?_ m8 ⟨1, 0, Y5 (by kernel_rfl), H7⟩
 rintro m4 _ h3 ⟨y9, y10, hle, HI6⟩
 have H := H m4 y9 y10 h3 HI6
 refine GQ.weaken _ hle ?_
 refine GQ.seq ?_
 refine GQ.region ?_
 refine SQ.p (.bool (decide ((y10 : Int) < ((n1 : Nat) : Int)))) ⟨trivial, trivial, rfl⟩ ?_
 refine SQ.nil ?_
 refine GQ.seq ?_
 rcases X1 (decide ((y10 : Int) < ((n1 : Nat) : Int))) with hb11 | hb11
 ·have H := H.1 hb11
  refine GQ.t hb11 ?_
  refine GQ.skip ?_
  refine GQ.seq ?_
  refine GQ.block ?_
  refine GQ.seq ?_
  obtain ⟨r12, v13, o14, i15, x16, l17, H⟩ := H
  refine GQ.region ?_
  refine SQ.cons (av := .ref r12 v13 o14) rfl (OStep.yes rfl (HStep.ix (kk := .i64) (s := a3) (j := y10) (k := 1) rfl (by kernel_rfl) (by kernel_rfl) (by kernel_rfl) (by kernel_rfl) i15)) ?_
  refine SQ.y l17 ?_
  refine SQ.a (.int .i64 x16) ?_
  refine SQ.nil ?_
  obtain ⟨f18, s19, n20, l21, r22, v23, o24, i25, f26, x27, l28, c29, H⟩ := H
  refine GQ.region ?_
  refine SQ.m (.int .i64 y9) ?_
  refine SQ.m (.ref p 0 0) ?_
  refine SQ.n (0) f18 ?_
  refine SQ.f 2 (0) f18 ?_
  refine SQ.y l21 ?_
  refine SQ.m (.int .i64 x16) ?_
  refine SQ.cons (av := .ref r22 v23 o24) rfl (OStep.yes rfl (HStep.ix (kk := .i64) (s := s19) (j := x16) (k := 4) rfl (by kernel_rfl) (by kernel_rfl) (by kernel_rfl) (by kernel_rfl) i25)) ?_
  refine SQ.f 3 (o24) f26 ?_
  refine SQ.y l28 ?_
  refine SQ.p (.int .i64 (x27 + 1)) ⟨trivial, trivial, rfl, c29⟩ ?_
  refine SQ.p (.int .i64 (if (x27 + 1 : Int) > y9 then x27 + 1 else y9)) ⟨trivial, trivial, trivial⟩ ?_
  refine SQ.a (.int .i64 (if (x27 + 1 : Int) > y9 then x27 + 1 else y9)) ?_
  refine SQ.nil ?_
  obtain ⟨c30, H⟩ := H
  refine GQ.region ?_
  refine SQ.p (.int .i64 (y10 + 1)) ⟨trivial, trivial, rfl, c30⟩ ?_
  refine SQ.m (.int .i64 (y10 + 1)) ?_
  refine SQ.nil ?_
  obtain ⟨m31, hl32, H⟩ := H
  exact ⟨m31, hl32, (if (x27 + 1 : Int) > y9 then x27 + 1 else y9), (y10 + 1), Y5 (by kernel_rfl), H⟩
 ·have H := H.2 hb11
  refine GQ.g hb11 ?_
  refine GQ.exit ?_
  refine GQ.seq ?_
  obtain ⟨f33, s34, n35, l36, f37, r38, h39, w40, h41, s43, n44, w42, f45, f48, h46, w47, H⟩ := H
  refine GQ.region ?_
  refine SQ.m (.ref p 0 0) ?_
  refine SQ.m (.ref p 0 0) ?_
  refine SQ.n (0) f33 ?_
  refine SQ.f 2 (0) f33 ?_
  refine SQ.y l36 ?_
  refine SQ.m (.int .i64 a1) ?_
  refine SQ.m (.int .i64 a2) ?_
  refine SQ.cons (av := .agg [.int .i64 a1, .int .i64 a2]) rfl (OStep.yes rfl (HStep.bld (rs := [(0, [.int .i64 a1]), (1, [.int .i64 a2])]) (z := [.int .i64 0, .int .i64 0]) (fs := [(0, 1), (1, 1)]) (qs := [(0, .int .i64 a1), (1, .int .i64 a2)]) (cs := [.int .i64 a1, .int .i64 a2]) rfl (by kernel_rfl) (by kernel_rfl) (by kernel_rfl) (by simp only [X5, X4, or_false, forall_eq_or_imp, forall_eq]; exact ⟨⟨⟨trivial, rfl⟩, Y2l rfl⟩, ⟨⟨trivial, rfl⟩, Y2l rfl⟩⟩) (CL.cons rfl (CL.cons rfl (CL.nil))) (by kernel_rfl))) ?_
  refine SQ.m (a3) ?_ na3
  refine SQ.m (.int .i64 y9) ?_
  refine SQ.cons (av := .agg [.int .i64 a1, .int .i64 a2, a3, .int .i64 y9]) rfl (OStep.yes rfl (HStep.bld (rs := [(0, [.int .i64 a1, .int .i64 a2]), (1, [a3]), (2, [.int .i64 y9])]) (z := [.int .i64 0, .int .i64 0, .slice none 0 0, .int .i64 0]) (fs := [(0, 2), (2, 1), (3, 1)]) (qs := [(0, .agg [.int .i64 a1, .int .i64 a2]), (1, a3), (2, .int .i64 y9)]) (cs := [.int .i64 a1, .int .i64 a2, a3, .int .i64 y9]) rfl (by kernel_rfl) (by kernel_rfl) (by kernel_rfl) (by simp only [X5, X4, or_false, forall_eq_or_imp, forall_eq]; exact ⟨⟨⟨trivial, rfl⟩, (okC_agg (by simp only [X5, X4, or_false, forall_eq_or_imp, forall_eq]; exact ⟨rfl, rfl⟩))⟩, ⟨na3, (okC_one (f37))⟩, ⟨⟨trivial, rfl⟩, Y2l rfl⟩⟩) (CL.cons rfl (CL.cons (Y2o f37) (CL.cons rfl (CL.nil)))) (by kernel_rfl))) ?_
  refine SQ.cons (av := .rsl r38 0 0 1) rfl (OStep.yes rfl (HStep.build (qs := [(0, .agg [.int .i64 a1, .int .i64 a2, a3, .int .i64 y9])]) (cs := [.int .i64 a1, .int .i64 a2, a3, .int .i64 y9]) (r := r38) rfl (Y8 (P := Tryd.prog) (t := 59) (e := 64) (k := 4) (bytes := 48) (z := [.int .i64 0, .int .i64 0, .slice none 0 0, .int .i64 0]) (by kernel_rfl)) (by decide) (by kernel_rfl) (by simp only [X5, X4, or_false, forall_eq]; exact ⟨⟨trivial, rfl⟩, (okC_agg (by simp only [X5, X4, or_false, forall_eq_or_imp, forall_eq]; exact ⟨rfl, rfl, f37, rfl⟩))⟩) (by kernel_rfl) (by simp only [X5, X4, or_false, forall_eq_or_imp, forall_eq]; exact ⟨rfl, rfl, f37, rfl⟩) rfl w40)) ?_
  refine SQ.cons (av := s43) rfl (OStep.yes rfl (HStep.app (sv := s34) (xv := .rsl r38 0 0 1) (news := [.int .i64 a1, .int .i64 a2, a3, .int .i64 y9]) rfl (Y8 (P := Tryd.prog) (t := 59) (e := 64) (k := 4) (bytes := 48) (z := [.int .i64 0, .int .i64 0, .slice none 0 0, .int .i64 0]) (by kernel_rfl)) (by kernel_rfl) (by kernel_rfl) trivial (SrcA.rsl (m := 1) (by kernel_rfl) (Nw.at w40) rfl rfl rfl (Xc rfl)) w42)) ?_
  refine SQ.n (0) f45 ?_
  refine SQ.f 2 (0) f45 ?_
  refine SQ.cons (av := .any) rfl (OStep.yes rfl (Y9 (r := p) (ver := 0) (off := 2) (n := 1) (v := s43) rfl (by kernel_rfl) (by kernel_rfl) (by kernel_rfl) n44 (Y09 f48) w47)) ?_
  refine SQ.nil ?_
  refine GQ.seq ?_
  obtain ⟨f49, s50, n51, l52, n53, g54, c55, H⟩ := H
  refine GQ.region ?_
  refine SQ.m (.ref p 0 0) ?_
  refine SQ.n (0) f49 ?_
  refine SQ.f 2 (0) f49 ?_
  refine SQ.y l52 ?_
  refine SQ.cons (av := .int .i64 ((n53 : Nat) : Int)) rfl (OStep.yes rfl (HStep.len (s := s50) (n := n53) rfl (by kernel_rfl) (by kernel_rfl) g54)) ?_
  refine SQ.p (.int .i64 (((n53 : Nat) : Int) - 1)) ⟨trivial, trivial, rfl, c55⟩ ?_
  refine SQ.a (.int .i64 (((n53 : Nat) : Int) - 1)) ?_
  refine SQ.nil ?_
  refine GQ.ret ?_
  exact EndK.ret (Qp := Qp) rfl H
def pre_number (h : Hp) (p : Nat) (Q : Hp → AV → Prop) (Qp : Hp → List PanicEntry → Prop) : Prop :=
 ∃ (J2 : Int → Int → Bool → Hp → Prop), (∀ (y5 : Int) (y6 : Int) (y7 : Bool) (h1 : Hp), J2 y5 y6 y7 h1 → (((((y6 : Int) == 0) = true → ((∃ (h43 : Hp), (CallOK Tryd.prog 65 [.ref p 0 0] h1 h43 (.tup [])) ∧ ∃ (h45 : Hp), ∃ (x46 : Int), (CallOK Tryd.prog 63 [.ref p 0 0, .int .i64 0, .int .i64 y5, .im (.val (.slice none 0 0))] h43 h45 (.int .i64 x46)) ∧ (Q h45 (.int .i64 x46))) ∨ (∃ (h40 : Hp), ∃ (ch41 : List PanicEntry), (Yp Tryd.prog 65 [.ref p 0 0] h1 h40 ch41) ∧ (Qp h40 ch41)))) ∧ (((y6 : Int) == 0) = false → ∃ (h48 : Hp), ∃ (x49 : Int), (CallOK Tryd.prog 63 [.ref p 0 0, .int .i64 0, .int .i64 y5, .im (.val (.slice none 0 0))] h1 h48 (.int .i64 x49)) ∧ (Q h48 (.int .i64 x49)))))) ∧ (∃ (I10 : Nat → Int → Int → Hp → Prop), (∃ m13 : Nat, I10 m13 0 0 h) ∧ ∀ (m9 : Nat) (y14 : Int) (y15 : Int) (h8 : Hp), I10 m9 y14 y15 h8 → ((((decide ((y15 : Int) < 5)) = true → ∃ (h17 : Hp), ∃ (x18 : Int), (CallOK Tryd.prog 59 [.ref p 0 0] h8 h17 (.int .u8 x18)) ∧ ∃ (J20 : Bool → Prop), (∀ (y23 : Bool), J20 y23 → ((((y23) = true → (J2 y14 y15 (decide ((y15 : Int) < 5)) h17)) ∧ ((y23) = false → (okA .i64 (10 * y14 : Int)) ∧ (okA .i64 ((10 * y14) + (IntKind.wrap .i64 (nw .u8 (x18 - 48 : Int))) : Int)) ∧ (Has h17 p 0) ∧ ∃ (x31 : Int), (Ld h17 p 0 1 (.int .i64 x31)) ∧ (okA .i64 (x31 + 1 : Int)) ∧ ∃ (h34 : Hp), (St h17 p 0 1 (.int .i64 (x31 + 1)) h34) ∧ (okA .i64 (y15 + 1 : Int)) ∧ (∃ m37 : Nat, m37 < m9 ∧ I10 m37 ((10 * y14) + (IntKind.wrap .i64 (nw .u8 (x18 - 48 : Int)))) (y15 + 1) h34))))) ∧ ((((decide ((x18 : Int) < 48)) = true → (J20 true)) ∧ ((decide ((x18 : Int) < 48)) = false → (((decide ((57 : Int) < x18)) = true → (J20 true)) ∧ ((decide ((57 : Int) < x18)) = false → (((decide ((0 : Int) < y15)) = true → (J20 ((y14 : Int) == 0))) ∧ ((decide ((0 : Int) < y15)) = false → (J20 false))))))))) ∧ ((decide ((y15 : Int) < 5)) = false → (J2 y14 y15 (decide ((y15 : Int) < 5)) h8)))))
theorem w_number {h : Hp} {p : Nat} {Q : Hp → AV → Prop} {Qp : Hp → List PanicEntry → Prop}  (H : pre_number h p Q Qp) : FnO Tryd.prog 61 [.ref p 0 0] h Q Qp := by
 unfold pre_number at H
 refine FnO.mk Tryd.func61 rfl (Xc (by kernel_rfl)) ?_
 refine GQ.E [(0, .ref p 0 0)] ?_
 refine GQ.seq ?_
 refine GQ.region ?_
 refine SQ.a (.int .i64 0) ?_
 refine SQ.nil ?_
 refine GQ.seq ?_
 refine GQ.region ?_
 refine SQ.a (.int .i64 0) ?_
 refine SQ.a (.int .i64 0) ?_
 refine SQ.nil ?_
 obtain ⟨J2, HR3, H⟩ := H
 refine GQ.seqJ (fun e h' => ∃ (y5 : Int) (y6 : Int) (y7 : Bool), Env.le e [(0, .ref p 0 0), (2, .int .i64 0), (3, .int .i64 y5), (4, .int .i64 y6), (7, .bool y7)] ∧ J2 y5 y6 y7 h') ?_ ?_
 ·skip
  refine GQ.block ?_
  obtain ⟨I10, ⟨m13, H12⟩, H⟩ := H
  refine GQ.loop (fun n e h' => ∃ (y14 : Int) (y15 : Int), Env.le e [(0, .ref p 0 0), (2, .int .i64 0), (3, .int .i64 y14), (4, .int .i64 y15)] ∧ I10 n y14 y15 h') ?_ m13 ⟨0, 0, Y5 (by kernel_rfl), H12⟩
  rintro m9 _ h8 ⟨y14, y15, hle, HI11⟩
  have H := H m9 y14 y15 h8 HI11
  refine GQ.weaken _ hle ?_
  refine GQ.seq ?_
  refine GQ.seq ?_
  refine GQ.region ?_
  refine SQ.m (.int .i64 y15) ?_
  refine SQ.p (.bool (decide ((y15 : Int) < 5))) ⟨trivial, trivial, rfl⟩ ?_
  refine SQ.nil ?_
  rcases X1 (decide ((y15 : Int) < 5)) with hb16 | hb16
  ·have H := H.1 hb16
   refine GQ.t hb16 ?_
   refine GQ.skip ?_
   refine GQ.block ?_
   refine GQ.seq ?_
   obtain ⟨h17, x18, k19, H⟩ := H
   refine GQ.region ?_
   refine SQ.m (.ref p 0 0) ?_
   refine SQ.c [.ref p 0 0] nc1 k19 ?_
   refine SQ.a (.int .u8 x18) ?_
   refine SQ.nil ?_
   refine GQ.seq ?_
   obtain ⟨J20, HR21, H⟩ := H
   refine GQ.seqJ (fun e h' => ∃ (y23 : Bool), Env.le e [(0, .ref p 0 0), (2, .int .i64 0), (3, .int .i64 y14), (4, .int .i64 y15), (5, .int .u8 x18), (7, .bool (decide ((y15 : Int) < 5))), (23, .bool y23)] ∧ h17 = h' ∧ J20 y23) ?_ ?_
   ·skip
    rcases X1 (decide ((x18 : Int) < 48)) with hb24 | hb24
    ·have H := H.1 hb24
     refine GQ.region ?_
     refine SQ.m (.int .u8 x18) ?_
     refine SQ.cons (av := .bool true) rfl (OStep.yes rfl (Y0p (Y6 (av := .bool (decide ((x18 : Int) < 48))) ⟨trivial, trivial, rfl⟩ (by kernel_rfl)) hb24)) ?_
     refine SQ.m (.bool true) ?_
     refine SQ.cons (av := undA) rfl (OStep.no rfl) ?_
     refine SQ.cons (av := undA) rfl (OStep.no rfl) ?_
     refine SQ.cons (av := .bool true) rfl (OStep.yes rfl (Yl (s := .bool true) rfl (by kernel_rfl) (by kernel_rfl) ⟨trivial, rfl⟩)) ?_
     refine SQ.m (.bool true) ?_
     refine SQ.cons (av := undA) rfl (OStep.no rfl) ?_
     refine SQ.cons (av := undA) rfl (OStep.no rfl) ?_
     refine SQ.cons (av := undA) rfl (OStep.no rfl) ?_
     refine SQ.cons (av := undA) rfl (OStep.no rfl) ?_
     refine SQ.cons (av := undA) rfl (OStep.no rfl) ?_
     refine SQ.cons (av := undA) rfl (OStep.no rfl) ?_
     refine SQ.cons (av := .bool true) rfl (OStep.yes rfl (Yl (s := .bool true) rfl (by kernel_rfl) (by kernel_rfl) ⟨trivial, rfl⟩)) ?_
     refine SQ.nil ?_
     exact ⟨true, Y5 (by kernel_rfl), rfl, H⟩
    ·have H := H.2 hb24
     rcases X1 (decide ((57 : Int) < x18)) with hb25 | hb25
     ·have H := H.1 hb25
      refine GQ.region ?_
      refine SQ.m (.int .u8 x18) ?_
      refine SQ.cons (av := .bool false) rfl (OStep.yes rfl (Y0c (Y6 (av := .bool (decide ((x18 : Int) < 48))) ⟨trivial, trivial, rfl⟩ (by kernel_rfl)) hb24)) ?_
      refine SQ.m (.bool false) ?_
      refine SQ.m (.int .u8 x18) ?_
      refine SQ.cons (av := .bool true) rfl (OStep.yes rfl (Y0p (Y6 (av := .bool (decide ((57 : Int) < x18))) ⟨trivial, trivial, rfl⟩ (by kernel_rfl)) hb25)) ?_
      refine SQ.cons (av := .bool true) rfl (OStep.yes rfl (Yh (s := .bool true) rfl (by kernel_rfl) (by kernel_rfl) ⟨trivial, rfl⟩)) ?_
      refine SQ.m (.bool true) ?_
      refine SQ.cons (av := undA) rfl (OStep.no rfl) ?_
      refine SQ.cons (av := undA) rfl (OStep.no rfl) ?_
      refine SQ.cons (av := undA) rfl (OStep.no rfl) ?_
      refine SQ.cons (av := undA) rfl (OStep.no rfl) ?_
      refine SQ.cons (av := undA) rfl (OStep.no rfl) ?_
      refine SQ.cons (av := undA) rfl (OStep.no rfl) ?_
      refine SQ.cons (av := .bool true) rfl (OStep.yes rfl (Yl (s := .bool true) rfl (by kernel_rfl) (by kernel_rfl) ⟨trivial, rfl⟩)) ?_
      refine SQ.nil ?_
      exact ⟨true, Y5 (by kernel_rfl), rfl, H⟩
     ·have H := H.2 hb25
      rcases X1 (decide ((0 : Int) < y15)) with hb26 | hb26
      ·have H := H.1 hb26
       refine GQ.region ?_
       refine SQ.m (.int .u8 x18) ?_
       refine SQ.cons (av := .bool false) rfl (OStep.yes rfl (Y0c (Y6 (av := .bool (decide ((x18 : Int) < 48))) ⟨trivial, trivial, rfl⟩ (by kernel_rfl)) hb24)) ?_
       refine SQ.m (.bool false) ?_
       refine SQ.m (.int .u8 x18) ?_
       refine SQ.cons (av := .bool false) rfl (OStep.yes rfl (Y0c (Y6 (av := .bool (decide ((57 : Int) < x18))) ⟨trivial, trivial, rfl⟩ (by kernel_rfl)) hb25)) ?_
       refine SQ.cons (av := .bool false) rfl (OStep.yes rfl (Yh (s := .bool false) rfl (by kernel_rfl) (by kernel_rfl) ⟨trivial, rfl⟩)) ?_
       refine SQ.m (.bool false) ?_
       refine SQ.m (.int .i64 y15) ?_
       refine SQ.cons (av := .bool true) rfl (OStep.yes rfl (Y0p (Y6 (av := .bool (decide ((0 : Int) < y15))) ⟨trivial, trivial, rfl⟩ (by kernel_rfl)) hb26)) ?_
       refine SQ.m (.bool true) ?_
       refine SQ.m (.int .i64 y14) ?_
       refine SQ.p (.bool ((y14 : Int) == 0)) ⟨trivial, trivial, rfl⟩ ?_
       refine SQ.cons (av := .bool ((y14 : Int) == 0)) rfl (OStep.yes rfl (Yl (s := .bool ((y14 : Int) == 0)) rfl (by kernel_rfl) (by kernel_rfl) ⟨trivial, rfl⟩)) ?_
       refine SQ.cons (av := .bool ((y14 : Int) == 0)) rfl (OStep.yes rfl (Yh (s := .bool ((y14 : Int) == 0)) rfl (by kernel_rfl) (by kernel_rfl) ⟨trivial, rfl⟩)) ?_
       refine SQ.nil ?_
       exact ⟨((y14 : Int) == 0), Y5 (by kernel_rfl), rfl, H⟩
      ·have H := H.2 hb26
       refine GQ.region ?_
       refine SQ.m (.int .u8 x18) ?_
       refine SQ.cons (av := .bool false) rfl (OStep.yes rfl (Y0c (Y6 (av := .bool (decide ((x18 : Int) < 48))) ⟨trivial, trivial, rfl⟩ (by kernel_rfl)) hb24)) ?_
       refine SQ.m (.bool false) ?_
       refine SQ.m (.int .u8 x18) ?_
       refine SQ.cons (av := .bool false) rfl (OStep.yes rfl (Y0c (Y6 (av := .bool (decide ((57 : Int) < x18))) ⟨trivial, trivial, rfl⟩ (by kernel_rfl)) hb25)) ?_
       refine SQ.cons (av := .bool false) rfl (OStep.yes rfl (Yh (s := .bool false) rfl (by kernel_rfl) (by kernel_rfl) ⟨trivial, rfl⟩)) ?_
       refine SQ.m (.bool false) ?_
       refine SQ.m (.int .i64 y15) ?_
       refine SQ.cons (av := .bool false) rfl (OStep.yes rfl (Y0c (Y6 (av := .bool (decide ((0 : Int) < y15))) ⟨trivial, trivial, rfl⟩ (by kernel_rfl)) hb26)) ?_
       refine SQ.m (.bool false) ?_
       refine SQ.cons (av := undA) rfl (OStep.no rfl) ?_
       refine SQ.cons (av := undA) rfl (OStep.no rfl) ?_
       refine SQ.cons (av := .bool false) rfl (OStep.yes rfl (Yh (s := .bool false) rfl (by kernel_rfl) (by kernel_rfl) ⟨trivial, rfl⟩)) ?_
       refine SQ.cons (av := .bool false) rfl (OStep.yes rfl (Yh (s := .bool false) rfl (by kernel_rfl) (by kernel_rfl) ⟨trivial, rfl⟩)) ?_
       refine SQ.nil ?_
       exact ⟨false, Y5 (by kernel_rfl), rfl, H⟩
   clear H
   rintro _ _ ⟨y23, hle, rfl, HJ22⟩
   have H := HR21 y23 HJ22
   refine GQ.weaken _ hle ?_
   rcases X1 (y23) with hb27 | hb27
   ·have H := H.1 hb27
    refine GQ.t hb27 ?_
    refine GQ.exit ?_
    exact ⟨y14, y15, (decide ((y15 : Int) < 5)), Y5 (by kernel_rfl), H⟩
   ·have H := H.2 hb27
    refine GQ.g hb27 ?_
    refine GQ.skip ?_
    refine GQ.seq ?_
    obtain ⟨c28, c29, H⟩ := H
    refine GQ.region ?_
    refine SQ.m (.int .i64 y14) ?_
    refine SQ.p (.int .i64 (10 * y14)) ⟨trivial, trivial, rfl, c28⟩ ?_
    refine SQ.m (.int .u8 x18) ?_
    refine SQ.p (.int .u8 (nw .u8 (x18 - 48 : Int))) ⟨trivial, trivial, rfl, trivial⟩ ?_
    refine SQ.cons (av := .int .i64 (IntKind.wrap .i64 (nw .u8 (x18 - 48 : Int)))) rfl (OStep.yes rfl (HStep.cnv (k := .u8) (kd := .i64) (n := nw .u8 (x18 - 48 : Int)) (av := .int .i64 (IntKind.wrap .i64 (nw .u8 (x18 - 48 : Int)))) rfl (by kernel_rfl) (by kernel_rfl) (by kernel_rfl) (by kernel_rfl))) ?_
    refine SQ.p (.int .i64 ((10 * y14) + (IntKind.wrap .i64 (nw .u8 (x18 - 48 : Int))))) ⟨trivial, trivial, rfl, c29⟩ ?_
    refine SQ.a (.int .i64 ((10 * y14) + (IntKind.wrap .i64 (nw .u8 (x18 - 48 : Int))))) ?_
    refine SQ.nil ?_
    refine GQ.seq ?_
    obtain ⟨f30, x31, l32, c33, h34, w35, H⟩ := H
    refine GQ.region ?_
    refine SQ.m (.ref p 0 0) ?_
    refine SQ.n (0) f30 ?_
    refine SQ.f 1 (0) f30 ?_
    refine SQ.y l32 ?_
    refine SQ.p (.int .i64 (x31 + 1)) ⟨trivial, trivial, rfl, c33⟩ ?_
    refine SQ.n (0) f30 ?_
    refine SQ.f 1 (0) f30 ?_
    refine SQ.cons (av := .any) rfl (OStep.yes rfl (Y9 (r := p) (ver := 0) (off := 1) (n := 1) (v := .int .i64 (x31 + 1)) rfl (by kernel_rfl) (by kernel_rfl) (by kernel_rfl) ⟨trivial, rfl⟩ (by kernel_rfl) w35)) ?_
    refine SQ.nil ?_
    obtain ⟨c36, H⟩ := H
    refine GQ.region ?_
    refine SQ.m (.int .i64 y15) ?_
    refine SQ.p (.int .i64 (y15 + 1)) ⟨trivial, trivial, rfl, c36⟩ ?_
    refine SQ.a (.int .i64 (y15 + 1)) ?_
    refine SQ.nil ?_
    obtain ⟨m37, hl38, H⟩ := H
    exact ⟨m37, hl38, ((10 * y14) + (IntKind.wrap .i64 (nw .u8 (x18 - 48 : Int)))), (y15 + 1), Y5 (by kernel_rfl), H⟩
  ·have H := H.2 hb16
   refine GQ.g hb16 ?_
   refine GQ.exit ?_
   exact ⟨y14, y15, (decide ((y15 : Int) < 5)), Y5 (by kernel_rfl), H⟩
 clear H
 rintro _ h1 ⟨y5, y6, y7, hle, HJ4⟩
 have H := HR3 y5 y6 y7 h1 HJ4
 refine GQ.weaken _ hle ?_
 refine GQ.seq ?_
 refine GQ.seq ?_
 refine GQ.region ?_
 refine SQ.m (.int .i64 y6) ?_
 refine SQ.p (.bool ((y6 : Int) == 0)) ⟨trivial, trivial, rfl⟩ ?_
 refine SQ.nil ?_
 rcases X1 ((y6 : Int) == 0) with hb39 | hb39
 ·have H := H.1 hb39
  refine GQ.t hb39 ?_
  rcases H with H | H
  ·skip
   obtain ⟨h43, k44, H⟩ := H
   refine GQ.region ?_
   refine SQ.m (.ref p 0 0) ?_
   refine SQ.c [.ref p 0 0] nc1 k44 ?_
   refine SQ.nil ?_
   refine GQ.seq ?_
   obtain ⟨h45, x46, k47, H⟩ := H
   refine GQ.region ?_
   refine SQ.m (.ref p 0 0) ?_
   refine SQ.m (.int .i64 y5) ?_
   refine SQ.c [.ref p 0 0, .int .i64 0, .int .i64 y5, .im (.val (.slice none 0 0))] (by simp only [X5, X4, or_false, forall_eq_or_imp, forall_eq]; exact ⟨⟨trivial, rfl⟩, ⟨trivial, rfl⟩, ⟨trivial, rfl⟩, ⟨trivial, rfl⟩⟩) k47 ?_
   refine SQ.a (.int .i64 x46) ?_
   refine SQ.nil ?_
   refine GQ.ret ?_
   exact EndK.ret (Qp := Qp) rfl H
  ·skip
   obtain ⟨h40, ch41, k42, H⟩ := H
   refine GQ.region ?_
   refine SQ.m (.ref p 0 0) ?_
   refine Y1n (OPan.yes rfl (HPan.call (vs := [.ref p 0 0]) rfl (by kernel_rfl) (by kernel_rfl) nc1 k42)) ?_
   exact H
 ·have H := H.2 hb39
  refine GQ.g hb39 ?_
  refine GQ.skip ?_
  refine GQ.seq ?_
  obtain ⟨h48, x49, k50, H⟩ := H
  refine GQ.region ?_
  refine SQ.m (.ref p 0 0) ?_
  refine SQ.m (.int .i64 y5) ?_
  refine SQ.c [.ref p 0 0, .int .i64 0, .int .i64 y5, .im (.val (.slice none 0 0))] (by simp only [X5, X4, or_false, forall_eq_or_imp, forall_eq]; exact ⟨⟨trivial, rfl⟩, ⟨trivial, rfl⟩, ⟨trivial, rfl⟩, ⟨trivial, rfl⟩⟩) k50 ?_
  refine SQ.a (.int .i64 x49) ?_
  refine SQ.nil ?_
  refine GQ.ret ?_
  exact EndK.ret (Qp := Qp) rfl H
def pre_join (h : Hp) (p : Nat) (a1 : Int) (Q : Hp → AV → Prop) (Qp : Hp → List PanicEntry → Prop) : Prop :=
 ∃ (r1 : Nat), ∃ (v2 : Nat), ∃ (o3 : Nat), (CallOK Tryd.prog 66 [.ref p 0 0] h h (.ref r1 v2 o3)) ∧ ∃ (I7 : Nat → Hp → Prop), (∃ m10 : Nat, I7 m10 h) ∧ ∀ (m6 : Nat)  (h5 : Hp), I7 m6 h5 → ((Has h5 r1 v2) ∧ ∃ (s12 : AV), (NC s12) ∧ (Ld h5 r1 v2 (o3 + 3) s12) ∧ ∃ (n15 : Nat), (Len h5 s12 n15) ∧ (((decide ((0 : Int) < ((n15 : Nat) : Int))) = true → (okA .i64 (((n15 : Nat) : Int) - 1 : Int)) ∧ ∃ (r19 : Nat), ∃ (v20 : Nat), ∃ (o21 : Nat), (Ix h5 s12 1 (((n15 : Nat) : Int) - 1 : Int) (.ref r19 v20 o21)) ∧ ∃ (x23 : Int), (Ld h5 r19 v20 o21 (.int .i64 x23)) ∧ ∃ (x25 : Int), (CallOK Tryd.prog 68 [.int .i64 x23] h5 h5 (.int .i64 x25)) ∧ (((decide ((a1 : Int) ≤ x25)) = true → ∃ (s28 : AV), (NC s28) ∧ (Ld h5 r1 v2 (o3 + 2) s28) ∧ ∃ (n31 : Nat), (Len h5 s28 n31) ∧ (okA .i64 (((n31 : Nat) : Int) - 2 : Int)) ∧ ∃ (r34 : Nat), ∃ (v35 : Nat), ∃ (o36 : Nat), (Ix h5 s12 1 (((n31 : Nat) : Int) - 2 : Int) (.ref r34 v35 o36)) ∧ ∃ (x38 : Int), (Ld h5 r34 v35 o36 (.int .i64 x38)) ∧ ∃ (r40 : Nat), ∃ (v41 : Nat), ∃ (o42 : Nat), (Ix h5 s28 1 (((n31 : Nat) : Int) - 2 : Int) (.ref r40 v41 o42)) ∧ ∃ (x44 : Int), (Ld h5 r40 v41 o42 (.int .i64 x44)) ∧ (okA .i64 (((n31 : Nat) : Int) - 1 : Int)) ∧ ∃ (r47 : Nat), ∃ (v48 : Nat), ∃ (o49 : Nat), (Ix h5 s28 1 (((n31 : Nat) : Int) - 1 : Int) (.ref r47 v48 o49)) ∧ ∃ (x51 : Int), (Ld h5 r47 v48 o49 (.int .i64 x51)) ∧ ∃ (r53 : Nat), ∃ (h54 : Hp), (Nw h5 r53 ⟨0, true, 3, 1, [.int .i64 x44, .int .i64 x51]⟩ h54) ∧ ∃ (h56 : Hp), ∃ (x57 : Int), (CallOK Tryd.prog 63 [.ref p 0 0, .int .i64 x38, .int .i64 0, .rsl r53 0 0 2] h54 h56 (.int .i64 x57)) ∧ (Has h54 r1 v2) ∧ (Ld h54 r1 v2 (o3 + 3) s12) ∧ (Ix h54 s12 1 (((n31 : Nat) : Int) - 2 : Int) (.ref r34 v35 o36)) ∧ (Ld h54 r34 v35 o36 (.int .i64 x38)) ∧ (Has h56 r1 v2) ∧ ∃ (s64 : AV), (NC s64) ∧ (Ld h56 r1 v2 (o3 + 3) s64) ∧ ∃ (s67 : AV), (NC s67) ∧ (Cut h56 s64 1 (((n31 : Nat) : Int) - 2 : Int) s67) ∧ ∃ (s70 : AV), (NC s70) ∧ (Ld h56 r1 v2 (o3 + 2) s70) ∧ ∃ (s73 : AV), (NC s73) ∧ (Cut h56 s70 1 (((n31 : Nat) : Int) - 2 : Int) s73) ∧ ∃ (r76 : Nat), ∃ (h77 : Hp), (Nw h56 r76 ⟨0, true, 3, 1, [.int .i64 x57]⟩ h77) ∧ ∃ (h79 : Hp), ∃ (s81 : AV), (NC s81) ∧ (App h77 s73 3 1 8 1 [.int .i64 x57] h79 s81) ∧ (Has h79 r1 v2) ∧ (oneA h79 s67) ∧ ∃ (h84 : Hp), (St h79 r1 v2 (o3 + 3) s67 h84) ∧ (Has h84 r1 v2) ∧ (oneA h84 s81) ∧ ∃ (h88 : Hp), (St h84 r1 v2 (o3 + 2) s81 h88) ∧ (Has h77 r1 v2) ∧ (Ld h77 r1 v2 (o3 + 3) s64) ∧ (Ld h79 r1 v2 (o3 + 3) s64) ∧ (Cut h77 s64 1 (((n31 : Nat) : Int) - 2 : Int) s67) ∧ (Cut h79 s64 1 (((n31 : Nat) : Int) - 2 : Int) s67) ∧ (Ld h77 r1 v2 (o3 + 2) s70) ∧ (Cut h77 s70 1 (((n31 : Nat) : Int) - 2 : Int) s73) ∧ (∃ m98 : Nat, m98 < m6 ∧ I7 m98 h88)) ∧ ((decide ((a1 : Int) ≤ x25)) = false → (Q h5 (.tup []))))) ∧ ((decide ((0 : Int) < ((n15 : Nat) : Int))) = false → (Q h5 (.tup [])))))
theorem w_join {h : Hp} {p : Nat} {a1 : Int} {Q : Hp → AV → Prop} {Qp : Hp → List PanicEntry → Prop}  (H : pre_join h p a1 Q Qp) : FnO Tryd.prog 67 [.ref p 0 0, .int .i64 a1] h Q Qp := by
 unfold pre_join at H
 refine FnO.mk Tryd.func67 rfl (Xc (by kernel_rfl)) ?_
 refine GQ.E [(0, .ref p 0 0), (1, .int .i64 a1)] ?_
 refine GQ.seq ?_
 obtain ⟨r1, v2, o3, k4, H⟩ := H
 refine GQ.region ?_
 refine SQ.m (.ref p 0 0) ?_
 refine SQ.c [.ref p 0 0] nc1 k4 ?_
 refine SQ.a (.ref r1 v2 o3) ?_
 refine SQ.nil ?_
 refine GQ.block ?_
 obtain ⟨I7, ⟨m10, H9⟩, H⟩ := H
 refine GQ.loop (fun n e h' => Env.le e [(0, .ref p 0 0), (1, .int .i64 a1), (4, .ref r1 v2 o3)] ∧ I7 n h') ?_ m10 ⟨Y5 (by kernel_rfl), H9⟩
 rintro m6 _ h5 ⟨hle, HI8⟩
 have H := H m6 h5 HI8
 refine GQ.weaken _ hle ?_
 refine GQ.seq ?_
 refine GQ.seq ?_
 obtain ⟨f11, s12, n13, l14, n15, g16, H⟩ := H
 rcases X1 (decide ((0 : Int) < ((n15 : Nat) : Int))) with hb17 | hb17
 ·have H := H.1 hb17
  obtain ⟨c18, r19, v20, o21, i22, x23, l24, x25, k26, H⟩ := H
  refine GQ.draw Tryd.checked.mixed (by kernel_rfl) [.ref r1 v2 o3, .ref r1 v2 o3, .ref r1 v2 (o3 + 3), s12, .int .i64 ((n15 : Nat) : Int), .bool true, .bool true, .ref r1 v2 o3, .ref r1 v2 o3, .ref r1 v2 (o3 + 3), s12, .ref r1 v2 o3, .ref r1 v2 o3, .ref r1 v2 (o3 + 3), s12, .int .i64 ((n15 : Nat) : Int), .int .i64 (((n15 : Nat) : Int) - 1), .ref r19 v20 o21, .int .i64 x23, .int .i64 x25, .int .i64 a1, .bool (decide ((a1 : Int) ≤ x25)), .bool (decide ((a1 : Int) ≤ x25))] [] [h5] h5 (by kernel_rfl) (by kernel_rfl) rfl rfl ?_ ?_
  ·refine DObl.m (.ref r1 v2 o3) ?_
   refine DObl.y 0 (HStep.n (o3) f11) ?_
   refine DObl.y 0 (HStep.f 3 (o3) f11) ?_
   refine DObl.y 0 (HStep.y l14) ?_
   refine DObl.y 0 (HStep.len (s := s12) (n := n15) rfl (by kernel_rfl) (by kernel_rfl) g16) ?_
   refine DObl.z (fun _ => (Y0p (Y6 (av := .bool (decide ((0 : Int) < ((n15 : Nat) : Int)))) ⟨trivial, trivial, rfl⟩ (by kernel_rfl)) hb17)) ?_
   refine DObl.m (.bool true) ?_
   refine DObl.m (.ref r1 v2 o3) ?_
   refine DObl.y 0 (HStep.n (o3) f11) ?_
   refine DObl.y 0 (HStep.f 3 (o3) f11) ?_
   refine DObl.y 0 (HStep.y l14) ?_
   refine DObl.m (.ref r1 v2 o3) ?_
   refine DObl.y 0 (HStep.n (o3) f11) ?_
   refine DObl.y 0 (HStep.f 3 (o3) f11) ?_
   refine DObl.y 0 (HStep.y l14) ?_
   refine DObl.y 0 (HStep.len (s := s12) (n := n15) rfl (by kernel_rfl) (by kernel_rfl) g16) ?_
   refine DObl.z (fun _ => (Y6 (av := .int .i64 (((n15 : Nat) : Int) - 1)) ⟨trivial, trivial, rfl, c18⟩ (by kernel_rfl))) ?_
   refine DObl.y 0 (HStep.ix (kk := .i64) (s := s12) (j := ((n15 : Nat) : Int) - 1) (k := 1) rfl (by kernel_rfl) (by kernel_rfl) (by kernel_rfl) (by kernel_rfl) i22) ?_
   refine DObl.y 0 (HStep.y l24) ?_
   refine DObl.y 0 (HStep.call (vs := [.int .i64 x23]) rfl (by kernel_rfl) (by kernel_rfl) nc1 k26) ?_
   refine DObl.m (.int .i64 a1) ?_
   refine DObl.z (fun _ => (Y6 (av := .bool (decide ((a1 : Int) ≤ x25))) ⟨trivial, trivial, rfl⟩ (by kernel_rfl))) ?_
   refine DObl.z (fun _ => (Yl (s := .bool (decide ((a1 : Int) ≤ x25))) rfl (by kernel_rfl) (by kernel_rfl) ⟨trivial, rfl⟩)) ?_
   exact DObl.nil
  rcases X1 (decide ((a1 : Int) ≤ x25)) with hb27 | hb27
  ·have H := H.1 hb27
   refine GQ.t hb27 ?_
   refine GQ.skip ?_
   refine GQ.block ?_
   refine GQ.seq ?_
   obtain ⟨s28, n29, l30, n31, g32, H⟩ := H
   refine GQ.region ?_
   refine SQ.m (.ref r1 v2 o3) ?_
   refine SQ.n (o3) f11 ?_
   refine SQ.f 2 (o3) f11 ?_
   refine SQ.y l30 ?_
   refine SQ.cons (av := .int .i64 ((n31 : Nat) : Int)) rfl (OStep.yes rfl (HStep.len (s := s28) (n := n31) rfl (by kernel_rfl) (by kernel_rfl) g32)) ?_
   refine SQ.a (.int .i64 ((n31 : Nat) : Int)) ?_
   refine SQ.nil ?_
   refine GQ.seq ?_
   obtain ⟨c33, r34, v35, o36, i37, x38, l39, r40, v41, o42, i43, x44, l45, c46, r47, v48, o49, i50, x51, l52, r53, h54, w55, h56, x57, k58, f59, l60, i61, l62, H⟩ := H
   refine GQ.draw Tryd.checked.mixed (by kernel_rfl) [.ref p 0 0, .ref r1 v2 o3, .ref r1 v2 o3, .ref r1 v2 (o3 + 3), s12, .int .i64 ((n31 : Nat) : Int), .int .i64 (((n31 : Nat) : Int) - 2), .ref r34 v35 o36, .int .i64 x38, .ref r1 v2 o3, .ref r1 v2 o3, .ref r1 v2 (o3 + 2), s28, .int .i64 ((n31 : Nat) : Int), .int .i64 (((n31 : Nat) : Int) - 2), .ref r40 v41 o42, .int .i64 x44, .ref r1 v2 o3, .ref r1 v2 o3, .ref r1 v2 (o3 + 2), s28, .int .i64 ((n31 : Nat) : Int), .int .i64 (((n31 : Nat) : Int) - 1), .ref r47 v48 o49, .int .i64 x51, .rsl r53 0 0 2, .int .i64 x57, .int .i64 x57] [25, 26] [h5, h54, h56] h56 (by kernel_rfl) (by kernel_rfl) rfl rfl ?_ ?_
   ·refine DObl.m (.ref p 0 0) ?_
    refine DObl.m (.ref r1 v2 o3) ?_
    refine DObl.lite2 0 1 (by kernel_rfl) (by kernel_rfl) (OStep.yes rfl (HStep.n (o3) f11)) (OStep.yes rfl (HStep.n (o3) f59)) ?_
    refine DObl.lite2 0 1 (by kernel_rfl) (by kernel_rfl) (OStep.yes rfl (HStep.f 3 (o3) f11)) (OStep.yes rfl (HStep.f 3 (o3) f59)) ?_
    refine DObl.lite2 0 1 (by kernel_rfl) (by kernel_rfl) (OStep.yes rfl (HStep.y l14)) (OStep.yes rfl (HStep.y l60)) ?_
    refine DObl.m (.int .i64 ((n31 : Nat) : Int)) ?_
    refine DObl.z (fun _ => (Y6 (av := .int .i64 (((n31 : Nat) : Int) - 2)) ⟨trivial, trivial, rfl, c33⟩ (by kernel_rfl))) ?_
    refine DObl.lite2 0 1 (by kernel_rfl) (by kernel_rfl) (OStep.yes rfl (HStep.ix (kk := .i64) (s := s12) (j := ((n31 : Nat) : Int) - 2) (k := 1) rfl (by kernel_rfl) (by kernel_rfl) (by kernel_rfl) (by kernel_rfl) i37)) (OStep.yes rfl (HStep.ix (kk := .i64) (s := s12) (j := ((n31 : Nat) : Int) - 2) (k := 1) rfl (by kernel_rfl) (by kernel_rfl) (by kernel_rfl) (by kernel_rfl) i61)) ?_
    refine DObl.lite2 0 1 (by kernel_rfl) (by kernel_rfl) (OStep.yes rfl (HStep.y l39)) (OStep.yes rfl (HStep.y l62)) ?_
    refine DObl.m (.ref r1 v2 o3) ?_
    refine DObl.y 0 (HStep.n (o3) f11) ?_
    refine DObl.y 0 (HStep.f 2 (o3) f11) ?_
    refine DObl.y 0 (HStep.y l30) ?_
    refine DObl.m (.int .i64 ((n31 : Nat) : Int)) ?_
    refine DObl.z (fun _ => (Y6 (av := .int .i64 (((n31 : Nat) : Int) - 2)) ⟨trivial, trivial, rfl, c33⟩ (by kernel_rfl))) ?_
    refine DObl.y 0 (HStep.ix (kk := .i64) (s := s28) (j := ((n31 : Nat) : Int) - 2) (k := 1) rfl (by kernel_rfl) (by kernel_rfl) (by kernel_rfl) (by kernel_rfl) i43) ?_
    refine DObl.y 0 (HStep.y l45) ?_
    refine DObl.m (.ref r1 v2 o3) ?_
    refine DObl.y 0 (HStep.n (o3) f11) ?_
    refine DObl.y 0 (HStep.f 2 (o3) f11) ?_
    refine DObl.y 0 (HStep.y l30) ?_
    refine DObl.m (.int .i64 ((n31 : Nat) : Int)) ?_
    refine DObl.z (fun _ => (Y6 (av := .int .i64 (((n31 : Nat) : Int) - 1)) ⟨trivial, trivial, rfl, c46⟩ (by kernel_rfl))) ?_
    refine DObl.y 0 (HStep.ix (kk := .i64) (s := s28) (j := ((n31 : Nat) : Int) - 1) (k := 1) rfl (by kernel_rfl) (by kernel_rfl) (by kernel_rfl) (by kernel_rfl) i50) ?_
    refine DObl.y 0 (HStep.y l52) ?_
    refine DObl.hv 0 (by kernel_rfl) (OStep.yes rfl (HStep.build (qs := [(0, .int .i64 x44), (1, .int .i64 x51)]) (cs := [.int .i64 x44, .int .i64 x51]) (r := r53) rfl (Y8 (P := Tryd.prog) (t := 42) (e := 3) (k := 1) (bytes := 8) (z := [.int .i64 0]) (by kernel_rfl)) (by decide) (by kernel_rfl) (by simp only [X5, X4, or_false, forall_eq_or_imp, forall_eq]; exact ⟨⟨⟨trivial, rfl⟩, Y2l rfl⟩, ⟨⟨trivial, rfl⟩, Y2l rfl⟩⟩) (by kernel_rfl) (by simp only [X5, X4, or_false, forall_eq_or_imp, forall_eq]; exact ⟨rfl, rfl⟩) rfl w55)) ?_
    refine DObl.hv 1 (by kernel_rfl) (OStep.yes rfl (HStep.call (vs := [.ref p 0 0, .int .i64 x38, .int .i64 0, .rsl r53 0 0 2]) rfl (by kernel_rfl) (by kernel_rfl) (by simp only [X5, X4, or_false, forall_eq_or_imp, forall_eq]; exact ⟨⟨trivial, rfl⟩, ⟨trivial, rfl⟩, ⟨trivial, rfl⟩, ⟨trivial, rfl⟩⟩) k58)) ?_
    refine DObl.z (fun _ => (HStep.asg (s := .int .i64 x57) rfl (by kernel_rfl) ⟨trivial, rfl⟩)) ?_
    exact DObl.nil
   obtain ⟨f63, s64, n65, l66, s67, n68, i69, s70, n71, l72, s73, n74, i75, r76, h77, w78, h79, s81, n82, w80, f83, f86, h84, w85, f87, f90, h88, w89, f91, l92, l93, i94, i95, l96, i97, H⟩ := H
   refine GQ.draw Tryd.checked.mixed (by kernel_rfl) [.ref r1 v2 o3, .ref r1 v2 o3, .ref r1 v2 o3, .ref r1 v2 o3, .ref r1 v2 (o3 + 3), s64, .int .i64 ((n31 : Nat) : Int), .int .i64 (((n31 : Nat) : Int) - 2), s67, .ref r1 v2 o3, .ref r1 v2 o3, .ref r1 v2 (o3 + 2), s70, .int .i64 ((n31 : Nat) : Int), .int .i64 (((n31 : Nat) : Int) - 2), s73, .int .i64 x57, .rsl r76 0 0 1, s81, .ref r1 v2 o3, .ref r1 v2 (o3 + 3), .any, .ref r1 v2 o3, .ref r1 v2 (o3 + 2), .any] [17, 18, 21, 24] [h56, h77, h79, h84, h88] h88 (by kernel_rfl) (by kernel_rfl) rfl rfl ?_ ?_
   ·refine DObl.m (.ref r1 v2 o3) ?_
    refine DObl.m (.ref r1 v2 o3) ?_
    refine DObl.m (.ref r1 v2 o3) ?_
    refine Y0d 0 1 2 (by kernel_rfl) (by kernel_rfl) (OStep.yes rfl (HStep.n (o3) f63)) (OStep.yes rfl (HStep.n (o3) f91)) (OStep.yes rfl (HStep.n (o3) f83)) ?_
    refine Y0d 0 1 2 (by kernel_rfl) (by kernel_rfl) (OStep.yes rfl (HStep.f 3 (o3) f63)) (OStep.yes rfl (HStep.f 3 (o3) f91)) (OStep.yes rfl (HStep.f 3 (o3) f83)) ?_
    refine Y0d 0 1 2 (by kernel_rfl) (by kernel_rfl) (OStep.yes rfl (HStep.y l66)) (OStep.yes rfl (HStep.y l92)) (OStep.yes rfl (HStep.y l93)) ?_
    refine DObl.m (.int .i64 ((n31 : Nat) : Int)) ?_
    refine DObl.z (fun _ => (Y6 (av := .int .i64 (((n31 : Nat) : Int) - 2)) ⟨trivial, trivial, rfl, c33⟩ (by kernel_rfl))) ?_
    refine Y0d 0 1 2 (by kernel_rfl) (by kernel_rfl) (OStep.yes rfl (HStep.cut (kk := .i64) (s := s64) (j := ((n31 : Nat) : Int) - 2) (k := 1) rfl (by kernel_rfl) (by kernel_rfl) (by kernel_rfl) (by kernel_rfl) i69)) (OStep.yes rfl (HStep.cut (kk := .i64) (s := s64) (j := ((n31 : Nat) : Int) - 2) (k := 1) rfl (by kernel_rfl) (by kernel_rfl) (by kernel_rfl) (by kernel_rfl) i94)) (OStep.yes rfl (HStep.cut (kk := .i64) (s := s64) (j := ((n31 : Nat) : Int) - 2) (k := 1) rfl (by kernel_rfl) (by kernel_rfl) (by kernel_rfl) (by kernel_rfl) i95)) ?_
    refine DObl.m (.ref r1 v2 o3) ?_
    refine DObl.lite2 0 1 (by kernel_rfl) (by kernel_rfl) (OStep.yes rfl (HStep.n (o3) f63)) (OStep.yes rfl (HStep.n (o3) f91)) ?_
    refine DObl.lite2 0 1 (by kernel_rfl) (by kernel_rfl) (OStep.yes rfl (HStep.f 2 (o3) f63)) (OStep.yes rfl (HStep.f 2 (o3) f91)) ?_
    refine DObl.lite2 0 1 (by kernel_rfl) (by kernel_rfl) (OStep.yes rfl (HStep.y l72)) (OStep.yes rfl (HStep.y l96)) ?_
    refine DObl.m (.int .i64 ((n31 : Nat) : Int)) ?_
    refine DObl.z (fun _ => (Y6 (av := .int .i64 (((n31 : Nat) : Int) - 2)) ⟨trivial, trivial, rfl, c33⟩ (by kernel_rfl))) ?_
    refine DObl.lite2 0 1 (by kernel_rfl) (by kernel_rfl) (OStep.yes rfl (HStep.cut (kk := .i64) (s := s70) (j := ((n31 : Nat) : Int) - 2) (k := 1) rfl (by kernel_rfl) (by kernel_rfl) (by kernel_rfl) (by kernel_rfl) i75)) (OStep.yes rfl (HStep.cut (kk := .i64) (s := s70) (j := ((n31 : Nat) : Int) - 2) (k := 1) rfl (by kernel_rfl) (by kernel_rfl) (by kernel_rfl) (by kernel_rfl) i97)) ?_
    refine DObl.m (.int .i64 x57) ?_
    refine DObl.hv 0 (by kernel_rfl) (OStep.yes rfl (HStep.build (qs := [(0, .int .i64 x57)]) (cs := [.int .i64 x57]) (r := r76) rfl (Y8 (P := Tryd.prog) (t := 42) (e := 3) (k := 1) (bytes := 8) (z := [.int .i64 0]) (by kernel_rfl)) (by decide) (by kernel_rfl) (by simp only [X5, X4, or_false, forall_eq]; exact ⟨⟨trivial, rfl⟩, Y2l rfl⟩) (by kernel_rfl) (by simp only [X5, X4, or_false, forall_eq]; exact rfl) rfl w78)) ?_
    refine DObl.hv 1 (by kernel_rfl) (OStep.yes rfl (HStep.app (sv := s73) (xv := .rsl r76 0 0 1) (news := [.int .i64 x57]) rfl (Y8 (P := Tryd.prog) (t := 42) (e := 3) (k := 1) (bytes := 8) (z := [.int .i64 0]) (by kernel_rfl)) (by kernel_rfl) (by kernel_rfl) trivial (SrcA.rsl (m := 1) (by kernel_rfl) (Nw.at w78) rfl rfl rfl (Xc rfl)) w80)) ?_
    refine DObl.y 2 (HStep.n (o3) f83) ?_
    refine DObl.y 2 (HStep.f 3 (o3) f83) ?_
    refine DObl.hv 2 (by kernel_rfl) (OStep.yes rfl (Y9 (r := r1) (ver := v2) (off := o3 + 3) (n := 1) (v := s67) rfl (by kernel_rfl) (by kernel_rfl) (by kernel_rfl) n68 (Y09 f86) w85)) ?_
    refine DObl.y 3 (HStep.n (o3) f87) ?_
    refine DObl.y 3 (HStep.f 2 (o3) f87) ?_
    refine DObl.hv 3 (by kernel_rfl) (OStep.yes rfl (Y9 (r := r1) (ver := v2) (off := o3 + 2) (n := 1) (v := s81) rfl (by kernel_rfl) (by kernel_rfl) (by kernel_rfl) n82 (Y09 f90) w89)) ?_
    exact DObl.nil
   obtain ⟨m98, hl99, H⟩ := H
   exact ⟨m98, hl99, Y5 (by kernel_rfl), H⟩
  ·have H := H.2 hb27
   refine GQ.g hb27 ?_
   refine GQ.exit ?_
   exact EndK.nor (Qp := Qp) rfl H
 ·have H := H.2 hb17
  refine GQ.draw Tryd.checked.mixed (by kernel_rfl) [.ref r1 v2 o3, .ref r1 v2 o3, .ref r1 v2 (o3 + 3), s12, .int .i64 ((n15 : Nat) : Int), .bool false, .bool false, undA, undA, undA, undA, undA, undA, undA, undA, undA, undA, undA, undA, undA, undA, undA, .bool false] [] [h5] h5 (by kernel_rfl) (by kernel_rfl) rfl rfl ?_ ?_
  ·refine DObl.m (.ref r1 v2 o3) ?_
   refine DObl.y 0 (HStep.n (o3) f11) ?_
   refine DObl.y 0 (HStep.f 3 (o3) f11) ?_
   refine DObl.y 0 (HStep.y l14) ?_
   refine DObl.y 0 (HStep.len (s := s12) (n := n15) rfl (by kernel_rfl) (by kernel_rfl) g16) ?_
   refine DObl.z (fun _ => (Y0c (Y6 (av := .bool (decide ((0 : Int) < ((n15 : Nat) : Int)))) ⟨trivial, trivial, rfl⟩ (by kernel_rfl)) hb17)) ?_
   refine DObl.m (.bool false) ?_
   refine DObl.lite (by kernel_rfl) (fun _ => OStep.no rfl) ?_
   refine DObl.lite (by kernel_rfl) (fun _ => OStep.no rfl) ?_
   refine DObl.lite (by kernel_rfl) (fun _ => OStep.no rfl) ?_
   refine DObl.lite (by kernel_rfl) (fun _ => OStep.no rfl) ?_
   refine DObl.lite (by kernel_rfl) (fun _ => OStep.no rfl) ?_
   refine DObl.lite (by kernel_rfl) (fun _ => OStep.no rfl) ?_
   refine DObl.lite (by kernel_rfl) (fun _ => OStep.no rfl) ?_
   refine DObl.lite (by kernel_rfl) (fun _ => OStep.no rfl) ?_
   refine DObl.lite (by kernel_rfl) (fun _ => OStep.no rfl) ?_
   refine DObl.lite (by kernel_rfl) (fun _ => OStep.no rfl) ?_
   refine DObl.lite (by kernel_rfl) (fun _ => OStep.no rfl) ?_
   refine DObl.lite (by kernel_rfl) (fun _ => OStep.no rfl) ?_
   refine DObl.lite (by kernel_rfl) (fun _ => OStep.no rfl) ?_
   refine DObl.lite (by kernel_rfl) (fun _ => OStep.no rfl) ?_
   refine DObl.lite (by kernel_rfl) (fun _ => OStep.no rfl) ?_
   refine DObl.z (fun _ => (Yh (s := .bool false) rfl (by kernel_rfl) (by kernel_rfl) ⟨trivial, rfl⟩)) ?_
   exact DObl.nil
  refine GQ.cond (b := false) (by kernel_rfl) (fun e => by cases e) (fun _ => ?_)
  refine GQ.exit ?_
  exact EndK.nor (Qp := Qp) rfl H
def pre_operand (h : Hp) (p : Nat) (Q : Hp → AV → Prop) (Qp : Hp → List PanicEntry → Prop) : Prop :=
 ∃ (h1 : Hp), (CallOK Tryd.prog 67 [.ref p 0 0, .int .i64 0] h h1 (.tup [])) ∧ ∃ (r3 : Nat), ∃ (v4 : Nat), ∃ (o5 : Nat), (CallOK Tryd.prog 66 [.ref p 0 0] h1 h1 (.ref r3 v4 o5)) ∧ (Has h1 r3 v4) ∧ ∃ (s8 : AV), (NC s8) ∧ (Ld h1 r3 v4 (o5 + 2) s8) ∧ ∃ (r11 : Nat), ∃ (v12 : Nat), ∃ (o13 : Nat), (Ix h1 s8 1 (0 : Int) (.ref r11 v12 o13)) ∧ ∃ (x15 : Int), (Ld h1 r11 v12 o13 (.int .i64 x15)) ∧ ∃ (h17 : Hp), (St h1 r3 v4 (o5 + 2) (.im (.val (.slice none 0 0))) h17) ∧ (Q h17 (.int .i64 x15))
theorem w_operand {h : Hp} {p : Nat} {Q : Hp → AV → Prop} {Qp : Hp → List PanicEntry → Prop}  (H : pre_operand h p Q Qp) : FnO Tryd.prog 51 [.ref p 0 0] h Q Qp := by
 unfold pre_operand at H
 refine FnO.mk Tryd.func51 rfl (Xc (by kernel_rfl)) ?_
 refine GQ.E [(0, .ref p 0 0)] ?_
 refine GQ.seq ?_
 refine GQ.region ?_
 refine SQ.a (.int .i64 0) ?_
 refine SQ.nil ?_
 refine GQ.seq ?_
 obtain ⟨h1, k2, H⟩ := H
 refine GQ.region ?_
 refine SQ.m (.ref p 0 0) ?_
 refine SQ.c [.ref p 0 0, .int .i64 0] nc2 k2 ?_
 refine SQ.nil ?_
 refine GQ.seq ?_
 obtain ⟨r3, v4, o5, k6, H⟩ := H
 refine GQ.region ?_
 refine SQ.m (.ref p 0 0) ?_
 refine SQ.c [.ref p 0 0] nc1 k6 ?_
 refine SQ.a (.ref r3 v4 o5) ?_
 refine SQ.nil ?_
 refine GQ.seq ?_
 obtain ⟨f7, s8, n9, l10, r11, v12, o13, i14, x15, l16, H⟩ := H
 refine GQ.region ?_
 refine SQ.m (.ref r3 v4 o5) ?_
 refine SQ.n (o5) f7 ?_
 refine SQ.f 2 (o5) f7 ?_
 refine SQ.y l10 ?_
 refine SQ.cons (av := .ref r11 v12 o13) rfl (OStep.yes rfl (HStep.ix (kk := .i64) (s := s8) (j := 0) (k := 1) rfl (by kernel_rfl) (by kernel_rfl) (by kernel_rfl) (by kernel_rfl) i14)) ?_
 refine SQ.y l16 ?_
 refine SQ.a (.int .i64 x15) ?_
 refine SQ.nil ?_
 refine GQ.seq ?_
 obtain ⟨h17, w18, H⟩ := H
 refine GQ.region ?_
 refine SQ.m (.ref r3 v4 o5) ?_
 refine SQ.n (o5) f7 ?_
 refine SQ.f 2 (o5) f7 ?_
 refine SQ.cons (av := .any) rfl (OStep.yes rfl (Y9 (r := r3) (ver := v4) (off := o5 + 2) (n := 1) (v := .im (.val (.slice none 0 0))) rfl (by kernel_rfl) (by kernel_rfl) (by kernel_rfl) ⟨trivial, rfl⟩ (by kernel_rfl) w18)) ?_
 refine SQ.nil ?_
 refine GQ.seq ?_
 refine GQ.region ?_
 refine SQ.m (.int .i64 x15) ?_
 refine SQ.a (.int .i64 x15) ?_
 refine SQ.nil ?_
 refine GQ.ret ?_
 exact EndK.ret (Qp := Qp) rfl H
end Go.Proofs.YtkgfbpbndmklnaaDoor
