/- Own work. -/
import Derived.Test.YtkgfbpbndmklnaaDoorChecked
import Derived.Test.YtkgfbpbndmklnaaDoorWp5
set_option linter.unusedSimpArgs false
set_option linter.unusedVariables false
set_option maxRecDepth 100000
namespace Go.Proofs.YtkgfbpbndmklnaaDoor
open Go.Abs
def pre_Parse (h : Hp) (a0 : ByteArray) (Q : Hp → AV → Prop) : Prop :=
 ∃ r1 h2, (Nw h r1 ⟨0, true, 23, 1, [.im (.val (.slice none 0 0))]⟩ h2) ∧ ∃ r4 h5, (Nw h2 r4 ⟨0, true, 3, 1, [.int .i64 0]⟩ h5) ∧ ∃ r7 h8, (Nw h5 r7 ⟨0, true, 33, 1, [.int .i64 0]⟩ h8) ∧ ∃ r10 h11, (Nw h8 r10 ⟨0, true, 57, 7, [.int .i64 (-1), .im (.val (.slice none 0 0)), .im (.val (.slice none 0 0)), .im (.val (.slice none 0 0)), .int .i64 0, .int .i64 0, .int .i64 0]⟩ h11) ∧ (Has h11 r10 0) ∧ ∃ r14 h15, (Nw h11 r14 ⟨0, true, 61, 4, [.string a0, .int .i64 0, .im (.val (.slice none 0 0)), .rsl r10 0 0 1]⟩ h15) ∧ ∃ r17 h18, (Nw h15 r17 ⟨0, true, 55, 1, [.im (.val (.pointer none))]⟩ h18) ∧ ∃ h20, (St h18 r17 0 0 (.ref r14 0 0) h20) ∧ ∃ r22 v23 o24, (Ld h20 r17 0 0 (.ref r22 v23 o24)) ∧ ((∃ h34 x35, (CallOK Tryd.prog 32 [.ref r22 v23 o24] h20 h34 (.int .i64 x35)) ∧ ∃ r37 v38 o39, (Ld h34 r17 0 0 (.ref r37 v38 o39)) ∧ (Has h34 r37 v38) ∧ ∃ s42, (NC s42) ∧ (Ld h34 r37 v38 (o39 + 2) s42) ∧ ∃ n45, (Len h34 s42 n45) ∧ (((decide ((60 : Int) < ((n45 : Nat) : Int))) = true → ∃ h48, (St h34 r1 0 0 (.im (.val (.slice none 0 0))) h48) ∧ ∃ h50, (St h48 r4 0 0 (.int .i64 0) h50) ∧ ∃ h52, (St h50 r7 0 0 (.int .i64 2) h52) ∧ (∃ h54, CallDf Tryd.prog 31 [.ref r17 0 0, .ref r1 0 0, .ref r4 0 0, .ref r7 0 0] h52 .returning h54 .returning ∧ ∃ q56 q57 q58, Ld h54 r1 0 0 q56 ∧ Ld h54 r4 0 0 q57 ∧ Ld h54 r7 0 0 q58 ∧ Q h54 (.tup [q56, q57, q58]))) ∧ ((decide ((60 : Int) < ((n45 : Nat) : Int))) = false → ∃ r59 v60 o61, (Ix h34 s42 4 (x35 : Int) (.ref r59 v60 o61)) ∧ (Has h34 r59 v60) ∧ ∃ x64, (Ld h34 r59 v60 (o61 + 3) (.int .i64 x64)) ∧ (((decide ((8 : Int) < x64)) = true → ∃ h67, (St h34 r1 0 0 (.im (.val (.slice none 0 0))) h67) ∧ ∃ h69, (St h67 r4 0 0 (.int .i64 0) h69) ∧ ∃ h71, (St h69 r7 0 0 (.int .i64 2) h71) ∧ (∃ h73, CallDf Tryd.prog 31 [.ref r17 0 0, .ref r1 0 0, .ref r4 0 0, .ref r7 0 0] h71 .returning h73 .returning ∧ ∃ q75 q76 q77, Ld h73 r1 0 0 q75 ∧ Ld h73 r4 0 0 q76 ∧ Ld h73 r7 0 0 q77 ∧ Q h73 (.tup [q75, q76, q77]))) ∧ ((decide ((8 : Int) < x64)) = false → ∃ h78 s79, (NC s79) ∧ (CallOK Tryd.prog 33 [.ref r37 v38 o39, .im (.val (.slice none 0 0)), .int .i64 x35] h34 h78 s79) ∧ (oneA h78 s79) ∧ ∃ h82, (St h78 r1 0 0 s79 h82) ∧ ∃ h85, (St h82 r4 0 0 (.int .i64 ((a0).size : Nat)) h85) ∧ ∃ h87, (St h85 r7 0 0 (.int .i64 0) h87) ∧ (∃ h89, CallDf Tryd.prog 31 [.ref r17 0 0, .ref r1 0 0, .ref r4 0 0, .ref r7 0 0] h87 .returning h89 .returning ∧ ∃ q91 q92 q93, Ld h89 r1 0 0 q91 ∧ Ld h89 r4 0 0 q92 ∧ Ld h89 r7 0 0 q93 ∧ Q h89 (.tup [q91, q92, q93]))))))) ∨ (∃ h26, ∃ (ch27 : List PanicEntry), (Y03 Tryd.prog 32 [.ref r22 v23 o24] h20 h26 ch27) ∧ (∃ (h29 : Hp) (u30 : FrameMode), CallDf Tryd.prog 31 [.ref r17 0 0, .ref r1 0 0, .ref r4 0 0, .ref r7 0 0] h26 (.panicking ch27) h29 u30 ∧ settle u30 = .returning ∧ ∃ q31 q32 q33, Ld h29 r1 0 0 q31 ∧ Ld h29 r4 0 0 q32 ∧ Ld h29 r7 0 0 q33 ∧ Q h29 (.tup [q31, q32, q33]))))
theorem w_Parse {h : Hp} {a0 : ByteArray} {Q : Hp → AV → Prop}  (H : pre_Parse h a0 Q) : ∃ h' av, CallOK Tryd.prog 16 [.string a0] h h' av ∧ Q h' av := by
 unfold pre_Parse at H
 obtain ⟨r1, h2, w3, r4, h5, w6, r7, h8, w9, r10, h11, w12, f13, r14, h15, w16, r17, h18, w19, h20, w21, H⟩ := H
 refine CallOK.mkD (g := 31) (ys := [.ref r17 0 0, .ref r1 0 0, .ref r4 0 0, .ref r7 0 0]) Tryd.func16 rfl (Xc (by kernel_rfl)) (by kernel_rfl) <| GD.E [(0, .string a0)] <| GD.seq <| Y1 <| Y9 (Y5f (r := r1) (z := [.slice none 0 0]) rfl (by kernel_rfl) (by kernel_rfl) w3) <| Y9 (Y5f (r := r4) (z := [.int .i64 0]) rfl (by kernel_rfl) (by kernel_rfl) w6) <| Y9 (Y5f (r := r7) (z := [.int .i64 0]) rfl (by kernel_rfl) (by kernel_rfl) w9) <| Y7 <| GD.seq <| Y1 <| Y5 (.string a0) ?_
 refine Y9 (Y58 (rs := [(0, [.int .i64 (-1)])]) (z := [.int .i64 0, .slice none 0 0, .slice none 0 0, .slice none 0 0, .int .i64 0, .int .i64 0, .int .i64 0]) (fs := [(0, 1), (1, 1), (2, 1), (3, 1), (4, 1), (5, 1), (6, 1)]) (qs := [(0, .int .i64 (-1))]) (cs := [.int .i64 (-1), .im (.val (.slice none 0 0)), .im (.val (.slice none 0 0)), .im (.val (.slice none 0 0)), .int .i64 0, .int .i64 0, .int .i64 0]) rfl (by kernel_rfl) (by kernel_rfl) (by kernel_rfl) (al_ ⟨⟨⟨trivial, rfl⟩, Y44 rfl⟩, trivial⟩) (CL.cons rfl (CL.nil)) (by kernel_rfl)) ?_
 refine Y9 (Y2g ([(0, .agg [.int .i64 (-1), .im (.val (.slice none 0 0)), .im (.val (.slice none 0 0)), .im (.val (.slice none 0 0)), .int .i64 0, .int .i64 0, .int .i64 0])]) El58 w12 (al_ ⟨⟨⟨trivial, rfl⟩, (okC_agg (al_ ⟨rfl, rfl, rfl, rfl, rfl, rfl, rfl, trivial⟩))⟩, trivial⟩) (al_ ⟨rfl, rfl, rfl, rfl, rfl, rfl, rfl, trivial⟩)) ?_
 refine Y9 (Y58 (rs := [(0, [.string a0]), (3, [.rsl r10 0 0 1])]) (z := [.string ⟨#[]⟩, .int .i64 0, .slice none 0 0, .slice none 0 0]) (fs := [(0, 1), (1, 1), (2, 1), (3, 1)]) (qs := [(0, .string a0), (3, .rsl r10 0 0 1)]) (cs := [.string a0, .int .i64 0, .im (.val (.slice none 0 0)), .rsl r10 0 0 1]) rfl (by kernel_rfl) (by kernel_rfl) (by kernel_rfl) (al_ ⟨⟨⟨trivial, rfl⟩, Y44 rfl⟩, ⟨⟨trivial, rfl⟩, (okC_one (f13))⟩, trivial⟩) (CL.cons rfl (CL.cons rfl (CL.nil))) (by kernel_rfl)) ?_
 refine Y9 (HStep.boxN (v := .agg [.string a0, .int .i64 0, .im (.val (.slice none 0 0)), .rsl r10 0 0 1]) (r := r14) rfl (by kernel_rfl) (okC_agg (al_ ⟨rfl, rfl, rfl, f13, trivial⟩)) w16) <| Y9 (Y5f (r := r17) (z := [.pointer none]) rfl (by kernel_rfl) (by kernel_rfl) w19) <| Y9 (Y17 w21) <| Y7 ?_
 refine GD.put (f := 31) (t := 12) (caps := [.tmp 5, .tmp 2, .tmp 3, .tmp 4]) (ys := [.ref r17 0 0, .ref r1 0 0, .ref r4 0 0, .ref r7 0 0]) rfl rfl rfl rfl (by decide) rfl rfl rfl (by kernel_rfl) (al_ ⟨⟨trivial, rfl⟩, ⟨trivial, rfl⟩, ⟨trivial, rfl⟩, ⟨trivial, rfl⟩, trivial⟩) rfl <| Y6 ?_
 obtain ⟨r22, v23, o24, l25, H⟩ := H
 rcases H with H | H
 ·skip
  obtain ⟨h34, x35, k36, H⟩ := H
  refine Y1 <| Y00 l25 <| Y01 k36 nc1 <| Ye (.int .i64 x35) <| Y7 <| Y6 <| Y6 ?_
  obtain ⟨r37, v38, o39, l40, f41, s42, n43, l44, n45, g46, H⟩ := H
  rcases X1 (decide ((60 : Int) < ((n45 : Nat) : Int))) with hb47 | hb47
  ·have H := H.1 hb47
   refine Y1 <| Y00 l40 <| Yr (o39) f41 <| Yp 2 (o39) f41 <| Y00 l44 <| Y9 (Y3f g46) <| Y9 (Y5i (Yn (av := .bool (decide ((60 : Int) < ((n45 : Nat) : Int)))) ⟨trivial, trivial, rfl⟩ (by kernel_rfl)) hb47) <| Y5 (.bool true) <| Yv <| Yv <| Yv <| Yv <| Yv <| Yv <| Yv <| Yv <| Yv <| Y9 (Y4f (.bool true)) <| Y7 (Y52 (b := true) (by kernel_rfl) (fun _ => ?_) (fun e => by cases e))
   refine Y6 ?_
   obtain ⟨h48, w49, h50, w51, h52, w53, H⟩ := H
   exact Y1 <| Y9 (Y17 w49) <| Y9 (Y17 w51) <| Y9 (Y17 w53) <| Y7 <| Y10 (Y61 rfl (by kernel_rfl) (by kernel_rfl) (by kernel_rfl) (by kernel_rfl) (by kernel_rfl) (by kernel_rfl) H)
  ·have H := H.2 hb47
   obtain ⟨r59, v60, o61, i62, f63, x64, l65, H⟩ := H
   refine Y1 <| Y00 l40 <| Yr (o39) f41 <| Yp 2 (o39) f41 <| Y00 l44 <| Y9 (Y3f g46) <| Y9 (Y5j (Yn (av := .bool (decide ((60 : Int) < ((n45 : Nat) : Int)))) ⟨trivial, trivial, rfl⟩ (by kernel_rfl)) hb47) <| Y5 (.bool false) <| Y00 l40 <| Yr (o39) f41 <| Yp 2 (o39) f41 <| Y00 l44 <| Y5 (.int .i64 x35) <| Y9 (Y57 i62) <| Yp 3 (o61) f63 <| Y00 l65 <| Yl (.bool (decide ((8 : Int) < x64))) ⟨trivial, trivial, rfl⟩ <| Y9 (Y5x (s := .bool (decide ((8 : Int) < x64))) rfl (by kernel_rfl) (by kernel_rfl) ⟨trivial, rfl⟩) ?_
   refine Y7 ?_
   rcases X1 (decide ((8 : Int) < x64)) with hb66 | hb66
   ·have H := H.1 hb66
    refine Y0l hb66 <| Y6 ?_
    obtain ⟨h67, w68, h69, w70, h71, w72, H⟩ := H
    exact Y1 <| Y9 (Y17 w68) <| Y9 (Y17 w70) <| Y9 (Y17 w72) <| Y7 <| Y10 (Y61 rfl (by kernel_rfl) (by kernel_rfl) (by kernel_rfl) (by kernel_rfl) (by kernel_rfl) (by kernel_rfl) H)
   ·have H := H.2 hb66
    refine Y0s hb66 <| Y0p <| Y6 ?_
    obtain ⟨h78, s79, n80, k81, f84, h82, w83, h85, w86, h87, w88, H⟩ := H
    exact Y1 <| Y00 l40 <| Y5 (.int .i64 x35) <| Y01 k81 (al_ ⟨⟨trivial, rfl⟩, ⟨trivial, rfl⟩, ⟨trivial, rfl⟩, trivial⟩) <| Y5 (.string a0) <| Y9 (Y5e (s := a0) rfl (by kernel_rfl) (by kernel_rfl)) <| Y9 (Y35 w83 n80 f84) <| Y9 (Y17 w86) <| Y9 (Y17 w88) <| Y7 <| Y10 (Y61 rfl (by kernel_rfl) (by kernel_rfl) (by kernel_rfl) (by kernel_rfl) (by kernel_rfl) (by kernel_rfl) H)
 ·skip
  obtain ⟨h26, ch27, k28, H⟩ := H
  exact Y1 <| Y00 l25 <| SQ.panE (OPan.yes rfl (HPan.call (vs := [.ref r22 v23 o24]) rfl (by kernel_rfl) (by kernel_rfl) nc1 k28)) (EndD.pan3 rfl (by kernel_rfl) (by kernel_rfl) (by kernel_rfl) (by kernel_rfl) (by kernel_rfl) (by kernel_rfl) H)
end Go.Proofs.YtkgfbpbndmklnaaDoor
