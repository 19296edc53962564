/- Own work. -/
import Derived.Test.YtkgfbpbndmklnaaDoorChecked
import Derived.Test.YtkgfbpbndmklnaaDoorSymA
set_option linter.unusedSimpArgs false
set_option linter.unusedVariables false
set_option maxRecDepth 100000
namespace Go.Proofs.YtkgfbpbndmklnaaDoor
open Go.Abs
def pre_Parse (h : Hp) (a0 : ByteArray) (Q : Hp → AV → Prop) : Prop :=
 ∃ (r1 : Nat), ∃ (h2 : Hp), (Nw h r1 ⟨0, true, 23, 1, [.im (.val (.slice none 0 0))]⟩ h2) ∧ ∃ (r4 : Nat), ∃ (h5 : Hp), (Nw h2 r4 ⟨0, true, 3, 1, [.int .i64 0]⟩ h5) ∧ ∃ (r7 : Nat), ∃ (h8 : Hp), (Nw h5 r7 ⟨0, true, 33, 1, [.int .i64 0]⟩ h8) ∧ ∃ (r10 : Nat), ∃ (h11 : Hp), (Nw h8 r10 ⟨0, true, 57, 7, [.int .i64 (-1), .im (.val (.slice none 0 0)), .im (.val (.slice none 0 0)), .im (.val (.slice none 0 0)), .int .i64 0, .int .i64 0, .int .i64 0]⟩ h11) ∧ (Has h11 r10 0) ∧ ∃ (r14 : Nat), ∃ (h15 : Hp), (Nw h11 r14 ⟨0, true, 61, 4, [.string a0, .int .i64 0, .im (.val (.slice none 0 0)), .rsl r10 0 0 1]⟩ h15) ∧ ∃ (r17 : Nat), ∃ (h18 : Hp), (Nw h15 r17 ⟨0, true, 55, 1, [.im (.val (.pointer none))]⟩ h18) ∧ ∃ (h20 : Hp), (St h18 r17 0 0 (.ref r14 0 0) h20) ∧ ∃ (r22 : Nat), ∃ (v23 : Nat), ∃ (o24 : Nat), (Ld h20 r17 0 0 (.ref r22 v23 o24)) ∧ ((∃ (h34 : Hp), ∃ (x35 : Int), (CallOK Tryd.prog 32 [.ref r22 v23 o24] h20 h34 (.int .i64 x35)) ∧ ∃ (r37 : Nat), ∃ (v38 : Nat), ∃ (o39 : Nat), (Ld h34 r17 0 0 (.ref r37 v38 o39)) ∧ (Has h34 r37 v38) ∧ ∃ (s42 : AV), (NC s42) ∧ (Ld h34 r37 v38 (o39 + 2) s42) ∧ ∃ (n45 : Nat), (Len h34 s42 n45) ∧ (((decide ((60 : Int) < ((n45 : Nat) : Int))) = true → ∃ (h48 : Hp), (St h34 r1 0 0 (.im (.val (.slice none 0 0))) h48) ∧ ∃ (h50 : Hp), (St h48 r4 0 0 (.int .i64 0) h50) ∧ ∃ (h52 : Hp), (St h50 r7 0 0 (.int .i64 2) h52) ∧ (∃ (h54 : Hp), CallDf Tryd.prog 31 [.ref r17 0 0, .ref r1 0 0, .ref r4 0 0, .ref r7 0 0] h52 .returning h54 .returning ∧ ∃ (q56 q57 q58 : AV), Ld h54 r1 0 0 q56 ∧ Ld h54 r4 0 0 q57 ∧ Ld h54 r7 0 0 q58 ∧ Q h54 (.tup [q56, q57, q58]))) ∧ ((decide ((60 : Int) < ((n45 : Nat) : Int))) = false → ∃ (r59 : Nat), ∃ (v60 : Nat), ∃ (o61 : Nat), (Ix h34 s42 4 (x35 : Int) (.ref r59 v60 o61)) ∧ (Has h34 r59 v60) ∧ ∃ (x64 : Int), (Ld h34 r59 v60 (o61 + 3) (.int .i64 x64)) ∧ (((decide ((8 : Int) < x64)) = true → ∃ (h67 : Hp), (St h34 r1 0 0 (.im (.val (.slice none 0 0))) h67) ∧ ∃ (h69 : Hp), (St h67 r4 0 0 (.int .i64 0) h69) ∧ ∃ (h71 : Hp), (St h69 r7 0 0 (.int .i64 2) h71) ∧ (∃ (h73 : Hp), CallDf Tryd.prog 31 [.ref r17 0 0, .ref r1 0 0, .ref r4 0 0, .ref r7 0 0] h71 .returning h73 .returning ∧ ∃ (q75 q76 q77 : AV), Ld h73 r1 0 0 q75 ∧ Ld h73 r4 0 0 q76 ∧ Ld h73 r7 0 0 q77 ∧ Q h73 (.tup [q75, q76, q77]))) ∧ ((decide ((8 : Int) < x64)) = false → ∃ (h78 : Hp), ∃ (s79 : AV), (NC s79) ∧ (CallOK Tryd.prog 33 [.ref r37 v38 o39, .im (.val (.slice none 0 0)), .int .i64 x35] h34 h78 s79) ∧ (oneA h78 s79) ∧ ∃ (h82 : Hp), (St h78 r1 0 0 s79 h82) ∧ ∃ (h85 : Hp), (St h82 r4 0 0 (.int .i64 ((a0).size : Nat)) h85) ∧ ∃ (h87 : Hp), (St h85 r7 0 0 (.int .i64 0) h87) ∧ (∃ (h89 : Hp), CallDf Tryd.prog 31 [.ref r17 0 0, .ref r1 0 0, .ref r4 0 0, .ref r7 0 0] h87 .returning h89 .returning ∧ ∃ (q91 q92 q93 : AV), Ld h89 r1 0 0 q91 ∧ Ld h89 r4 0 0 q92 ∧ Ld h89 r7 0 0 q93 ∧ Q h89 (.tup [q91, q92, q93]))))))) ∨ (∃ (h26 : Hp), ∃ (ch27 : List PanicEntry), (Yp Tryd.prog 32 [.ref r22 v23 o24] h20 h26 ch27) ∧ (∃ (h29 : Hp) (u30 : FrameMode), CallDf Tryd.prog 31 [.ref r17 0 0, .ref r1 0 0, .ref r4 0 0, .ref r7 0 0] h26 (.panicking ch27) h29 u30 ∧ settle u30 = .returning ∧ ∃ (q31 q32 q33 : AV), Ld h29 r1 0 0 q31 ∧ Ld h29 r4 0 0 q32 ∧ Ld h29 r7 0 0 q33 ∧ Q h29 (.tup [q31, q32, q33]))))
theorem w_Parse {h : Hp} {a0 : ByteArray} {Q : Hp → AV → Prop}  (H : pre_Parse h a0 Q) : ∃ h' av, CallOK Tryd.prog 16 [.string a0] h h' av ∧ Q h' av := by
 unfold pre_Parse at H
 obtain ⟨r1, h2, w3, r4, h5, w6, r7, h8, w9, r10, h11, w12, f13, r14, h15, w16, r17, h18, w19, h20, w21, H⟩ := H
 refine CallOK.mkD (g := 31) (ys := [.ref r17 0 0, .ref r1 0 0, .ref r4 0 0, .ref r7 0 0]) Tryd.func16 rfl (Xc (by kernel_rfl)) (by kernel_rfl) ?_
 refine GD.E [(0, .string a0)] ?_
 refine GD.seq ?_
 refine GQ.region ?_
 refine SQ.cons (av := .ref r1 0 0) rfl (OStep.yes rfl (HStep.allocN (r := r1) (z := [.slice none 0 0]) rfl (by kernel_rfl) (by kernel_rfl) w3)) ?_
 refine SQ.cons (av := .ref r4 0 0) rfl (OStep.yes rfl (HStep.allocN (r := r4) (z := [.int .i64 0]) rfl (by kernel_rfl) (by kernel_rfl) w6)) ?_
 refine SQ.cons (av := .ref r7 0 0) rfl (OStep.yes rfl (HStep.allocN (r := r7) (z := [.int .i64 0]) rfl (by kernel_rfl) (by kernel_rfl) w9)) ?_
 refine SQ.nil ?_
 refine GD.seq ?_
 refine GQ.region ?_
 refine SQ.m (.string a0) ?_
 refine SQ.cons (av := .agg [.int .i64 (-1), .im (.val (.slice none 0 0)), .im (.val (.slice none 0 0)), .im (.val (.slice none 0 0)), .int .i64 0, .int .i64 0, .int .i64 0]) rfl (OStep.yes rfl (HStep.bld (rs := [(0, [.int .i64 (-1)])]) (z := [.int .i64 0, .slice none 0 0, .slice none 0 0, .slice none 0 0, .int .i64 0, .int .i64 0, .int .i64 0]) (fs := [(0, 1), (1, 1), (2, 1), (3, 1), (4, 1), (5, 1), (6, 1)]) (qs := [(0, .int .i64 (-1))]) (cs := [.int .i64 (-1), .im (.val (.slice none 0 0)), .im (.val (.slice none 0 0)), .im (.val (.slice none 0 0)), .int .i64 0, .int .i64 0, .int .i64 0]) rfl (by kernel_rfl) (by kernel_rfl) (by kernel_rfl) (by simp only [X5, X4, or_false, forall_eq]; exact ⟨⟨trivial, rfl⟩, Y2l rfl⟩) (CL.cons rfl (CL.nil)) (by kernel_rfl))) ?_
 refine SQ.cons (av := .rsl r10 0 0 1) rfl (OStep.yes rfl (HStep.build (qs := [(0, .agg [.int .i64 (-1), .im (.val (.slice none 0 0)), .im (.val (.slice none 0 0)), .im (.val (.slice none 0 0)), .int .i64 0, .int .i64 0, .int .i64 0])]) (cs := [.int .i64 (-1), .im (.val (.slice none 0 0)), .im (.val (.slice none 0 0)), .im (.val (.slice none 0 0)), .int .i64 0, .int .i64 0, .int .i64 0]) (r := r10) rfl (Y8 (P := Tryd.prog) (t := 58) (e := 57) (k := 7) (bytes := 104) (z := [.int .i64 0, .slice none 0 0, .slice none 0 0, .slice none 0 0, .int .i64 0, .int .i64 0, .int .i64 0]) (by kernel_rfl)) (by decide) (by kernel_rfl) (by simp only [X5, X4, or_false, forall_eq]; exact ⟨⟨trivial, rfl⟩, (okC_agg (by simp only [X5, X4, or_false, forall_eq_or_imp, forall_eq]; exact ⟨rfl, rfl, rfl, rfl, rfl, rfl, rfl⟩))⟩) (by kernel_rfl) (by simp only [X5, X4, or_false, forall_eq_or_imp, forall_eq]; exact ⟨rfl, rfl, rfl, rfl, rfl, rfl, rfl⟩) rfl w12)) ?_
 refine SQ.cons (av := .agg [.string a0, .int .i64 0, .im (.val (.slice none 0 0)), .rsl r10 0 0 1]) rfl (OStep.yes rfl (HStep.bld (rs := [(0, [.string a0]), (3, [.rsl r10 0 0 1])]) (z := [.string ⟨#[]⟩, .int .i64 0, .slice none 0 0, .slice none 0 0]) (fs := [(0, 1), (1, 1), (2, 1), (3, 1)]) (qs := [(0, .string a0), (3, .rsl r10 0 0 1)]) (cs := [.string a0, .int .i64 0, .im (.val (.slice none 0 0)), .rsl r10 0 0 1]) rfl (by kernel_rfl) (by kernel_rfl) (by kernel_rfl) (by simp only [X5, X4, or_false, forall_eq_or_imp, forall_eq]; exact ⟨⟨⟨trivial, rfl⟩, Y2l rfl⟩, ⟨⟨trivial, rfl⟩, (okC_one (f13))⟩⟩) (CL.cons rfl (CL.cons rfl (CL.nil))) (by kernel_rfl))) ?_
 refine SQ.cons (av := .ref r14 0 0) rfl (OStep.yes rfl (HStep.boxN (v := .agg [.string a0, .int .i64 0, .im (.val (.slice none 0 0)), .rsl r10 0 0 1]) (r := r14) rfl (by kernel_rfl) (okC_agg (by simp only [X5, X4, or_false, forall_eq_or_imp, forall_eq]; exact ⟨rfl, rfl, rfl, f13⟩)) w16)) ?_
 refine SQ.cons (av := .ref r17 0 0) rfl (OStep.yes rfl (HStep.allocN (r := r17) (z := [.pointer none]) rfl (by kernel_rfl) (by kernel_rfl) w19)) ?_
 refine SQ.cons (av := .any) rfl (OStep.yes rfl (Y9 (r := r17) (ver := 0) (off := 0) (n := 1) (v := .ref r14 0 0) rfl (by kernel_rfl) (by kernel_rfl) (by kernel_rfl) ⟨trivial, rfl⟩ (by kernel_rfl) w21)) ?_
 refine SQ.nil ?_
 refine GD.put (f := 31) (t := 12) (caps := [.tmp 5, .tmp 2, .tmp 3, .tmp 4]) (ys := [.ref r17 0 0, .ref r1 0 0, .ref r4 0 0, .ref r7 0 0]) rfl rfl rfl rfl (by decide) rfl rfl rfl (by kernel_rfl) (by simp only [X5, X4, or_false, forall_eq_or_imp, forall_eq]; exact ⟨⟨trivial, rfl⟩, ⟨trivial, rfl⟩, ⟨trivial, rfl⟩, ⟨trivial, rfl⟩⟩) rfl ?_
 refine GQ.seq ?_
 obtain ⟨r22, v23, o24, l25, H⟩ := H
 rcases H with H | H
 ·skip
  obtain ⟨h34, x35, k36, H⟩ := H
  refine GQ.region ?_
  refine SQ.y l25 ?_
  refine SQ.c [.ref r22 v23 o24] nc1 k36 ?_
  refine SQ.a (.int .i64 x35) ?_
  refine SQ.nil ?_
  refine GQ.seq ?_
  refine GQ.seq ?_
  obtain ⟨r37, v38, o39, l40, f41, s42, n43, l44, n45, g46, H⟩ := H
  rcases X1 (decide ((60 : Int) < ((n45 : Nat) : Int))) with hb47 | hb47
  ·have H := H.1 hb47
   refine GQ.region ?_
   refine SQ.y l40 ?_
   refine SQ.n (o39) f41 ?_
   refine SQ.f 2 (o39) f41 ?_
   refine SQ.y l44 ?_
   refine SQ.cons (av := .int .i64 ((n45 : Nat) : Int)) rfl (OStep.yes rfl (HStep.len (s := s42) (n := n45) rfl (by kernel_rfl) (by kernel_rfl) g46)) ?_
   refine SQ.cons (av := .bool true) rfl (OStep.yes rfl (Y0p (Y6 (av := .bool (decide ((60 : Int) < ((n45 : Nat) : Int)))) ⟨trivial, trivial, rfl⟩ (by kernel_rfl)) hb47)) ?_
   refine SQ.m (.bool true) ?_
   refine SQ.cons (av := undA) rfl (OStep.no rfl) ?_
   refine SQ.cons (av := undA) rfl (OStep.no rfl) ?_
   refine SQ.cons (av := undA) rfl (OStep.no rfl) ?_
   refine SQ.cons (av := undA) rfl (OStep.no rfl) ?_
   refine SQ.cons (av := undA) rfl (OStep.no rfl) ?_
   refine SQ.cons (av := undA) rfl (OStep.no rfl) ?_
   refine SQ.cons (av := undA) rfl (OStep.no rfl) ?_
   refine SQ.cons (av := undA) rfl (OStep.no rfl) ?_
   refine SQ.cons (av := undA) rfl (OStep.no rfl) ?_
   refine SQ.cons (av := .bool true) rfl (OStep.yes rfl (Yl (s := .bool true) rfl (by kernel_rfl) (by kernel_rfl) ⟨trivial, rfl⟩)) ?_
   refine SQ.nil ?_
   refine GQ.cond (b := true) (by kernel_rfl) (fun _ => ?_) (fun e => by cases e)
   refine GQ.seq ?_
   obtain ⟨h48, w49, h50, w51, h52, w53, H⟩ := H
   refine GQ.region ?_
   refine SQ.cons (av := .any) rfl (OStep.yes rfl (Y9 (r := r1) (ver := 0) (off := 0) (n := 1) (v := .im (.val (.slice none 0 0))) rfl (by kernel_rfl) (by kernel_rfl) (by kernel_rfl) ⟨trivial, rfl⟩ (by kernel_rfl) w49)) ?_
   refine SQ.cons (av := .any) rfl (OStep.yes rfl (Y9 (r := r4) (ver := 0) (off := 0) (n := 1) (v := .int .i64 0) rfl (by kernel_rfl) (by kernel_rfl) (by kernel_rfl) ⟨trivial, rfl⟩ (by kernel_rfl) w51)) ?_
   refine SQ.cons (av := .any) rfl (OStep.yes rfl (Y9 (r := r7) (ver := 0) (off := 0) (n := 1) (v := .int .i64 2) rfl (by kernel_rfl) (by kernel_rfl) (by kernel_rfl) ⟨trivial, rfl⟩ (by kernel_rfl) w53)) ?_
   refine SQ.nil ?_
   refine GQ.ret ?_
   exact EndD.ret3 rfl (by kernel_rfl) (by kernel_rfl) (by kernel_rfl) (by kernel_rfl) (by kernel_rfl) (by kernel_rfl) H
  ·have H := H.2 hb47
   obtain ⟨r59, v60, o61, i62, f63, x64, l65, H⟩ := H
   refine GQ.region ?_
   refine SQ.y l40 ?_
   refine SQ.n (o39) f41 ?_
   refine SQ.f 2 (o39) f41 ?_
   refine SQ.y l44 ?_
   refine SQ.cons (av := .int .i64 ((n45 : Nat) : Int)) rfl (OStep.yes rfl (HStep.len (s := s42) (n := n45) rfl (by kernel_rfl) (by kernel_rfl) g46)) ?_
   refine SQ.cons (av := .bool false) rfl (OStep.yes rfl (Y0c (Y6 (av := .bool (decide ((60 : Int) < ((n45 : Nat) : Int)))) ⟨trivial, trivial, rfl⟩ (by kernel_rfl)) hb47)) ?_
   refine SQ.m (.bool false) ?_
   refine SQ.y l40 ?_
   refine SQ.n (o39) f41 ?_
   refine SQ.f 2 (o39) f41 ?_
   refine SQ.y l44 ?_
   refine SQ.m (.int .i64 x35) ?_
   refine SQ.cons (av := .ref r59 v60 o61) rfl (OStep.yes rfl (HStep.ix (kk := .i64) (s := s42) (j := x35) (k := 4) rfl (by kernel_rfl) (by kernel_rfl) (by kernel_rfl) (by kernel_rfl) i62)) ?_
   refine SQ.f 3 (o61) f63 ?_
   refine SQ.y l65 ?_
   refine SQ.p (.bool (decide ((8 : Int) < x64))) ⟨trivial, trivial, rfl⟩ ?_
   refine SQ.cons (av := .bool (decide ((8 : Int) < x64))) rfl (OStep.yes rfl (Yh (s := .bool (decide ((8 : Int) < x64))) rfl (by kernel_rfl) (by kernel_rfl) ⟨trivial, rfl⟩)) ?_
   refine SQ.nil ?_
   rcases X1 (decide ((8 : Int) < x64)) with hb66 | hb66
   ·have H := H.1 hb66
    refine GQ.t hb66 ?_
    refine GQ.seq ?_
    obtain ⟨h67, w68, h69, w70, h71, w72, H⟩ := H
    refine GQ.region ?_
    refine SQ.cons (av := .any) rfl (OStep.yes rfl (Y9 (r := r1) (ver := 0) (off := 0) (n := 1) (v := .im (.val (.slice none 0 0))) rfl (by kernel_rfl) (by kernel_rfl) (by kernel_rfl) ⟨trivial, rfl⟩ (by kernel_rfl) w68)) ?_
    refine SQ.cons (av := .any) rfl (OStep.yes rfl (Y9 (r := r4) (ver := 0) (off := 0) (n := 1) (v := .int .i64 0) rfl (by kernel_rfl) (by kernel_rfl) (by kernel_rfl) ⟨trivial, rfl⟩ (by kernel_rfl) w70)) ?_
    refine SQ.cons (av := .any) rfl (OStep.yes rfl (Y9 (r := r7) (ver := 0) (off := 0) (n := 1) (v := .int .i64 2) rfl (by kernel_rfl) (by kernel_rfl) (by kernel_rfl) ⟨trivial, rfl⟩ (by kernel_rfl) w72)) ?_
    refine SQ.nil ?_
    refine GQ.ret ?_
    exact EndD.ret3 rfl (by kernel_rfl) (by kernel_rfl) (by kernel_rfl) (by kernel_rfl) (by kernel_rfl) (by kernel_rfl) H
   ·have H := H.2 hb66
    refine GQ.g hb66 ?_
    refine GQ.skip ?_
    refine GQ.seq ?_
    obtain ⟨h78, s79, n80, k81, f84, h82, w83, h85, w86, h87, w88, H⟩ := H
    refine GQ.region ?_
    refine SQ.y l40 ?_
    refine SQ.m (.int .i64 x35) ?_
    refine SQ.c [.ref r37 v38 o39, .im (.val (.slice none 0 0)), .int .i64 x35] (by simp only [X5, X4, or_false, forall_eq_or_imp, forall_eq]; exact ⟨⟨trivial, rfl⟩, ⟨trivial, rfl⟩, ⟨trivial, rfl⟩⟩) k81 ?_
    refine SQ.m (.string a0) ?_
    refine SQ.cons (av := .int .i64 ((a0).size : Nat)) rfl (OStep.yes rfl (HStep.lenS (s := a0) rfl (by kernel_rfl) (by kernel_rfl))) ?_
    refine SQ.cons (av := .any) rfl (OStep.yes rfl (Y9 (r := r1) (ver := 0) (off := 0) (n := 1) (v := s79) rfl (by kernel_rfl) (by kernel_rfl) (by kernel_rfl) n80 (Y09 f84) w83)) ?_
    refine SQ.cons (av := .any) rfl (OStep.yes rfl (Y9 (r := r4) (ver := 0) (off := 0) (n := 1) (v := .int .i64 ((a0).size : Nat)) rfl (by kernel_rfl) (by kernel_rfl) (by kernel_rfl) ⟨trivial, rfl⟩ (by kernel_rfl) w86)) ?_
    refine SQ.cons (av := .any) rfl (OStep.yes rfl (Y9 (r := r7) (ver := 0) (off := 0) (n := 1) (v := .int .i64 0) rfl (by kernel_rfl) (by kernel_rfl) (by kernel_rfl) ⟨trivial, rfl⟩ (by kernel_rfl) w88)) ?_
    refine SQ.nil ?_
    refine GQ.ret ?_
    exact EndD.ret3 rfl (by kernel_rfl) (by kernel_rfl) (by kernel_rfl) (by kernel_rfl) (by kernel_rfl) (by kernel_rfl) H
 ·skip
  obtain ⟨h26, ch27, k28, H⟩ := H
  refine GQ.region ?_
  refine SQ.y l25 ?_
  refine SQ.panE (OPan.yes rfl (HPan.call (vs := [.ref r22 v23 o24]) rfl (by kernel_rfl) (by kernel_rfl) nc1 k28)) ?_
  exact EndD.pan3 rfl (by kernel_rfl) (by kernel_rfl) (by kernel_rfl) (by kernel_rfl) (by kernel_rfl) (by kernel_rfl) H
end Go.Proofs.YtkgfbpbndmklnaaDoor
