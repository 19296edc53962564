/- Own work. -/
import Derived.Test.YtfpcbalkioolmaaDoorXQ8
set_option linter.unusedSimpArgs false
set_option linter.unusedVariables false
set_option maxHeartbeats 4000000
set_option maxRecDepth 100000
namespace Go.Proofs.YtfpcbalkioolmaaDoor
open Go.Abs
noncomputable section
def c23 : PC D0 := pZ [] [.ks 4] fun _ => Y89
def T1 : PCT D0 := ptc 23 c23 nP
theorem O1 : PK T1 := pA (pcF_ok rfl fun ds x h => f_linear_brackets_ok (r := x) h) P0
def c15 : PC D0 := pZ [fU] [.fz (tS 0), tI, tI] fun x => Y4t x
def T2 : PCT D0 := ptc 15 c15 T1
theorem O2 : PK T2 := pA (pcF_ok rfl fun ds x h => f_linear_Read_ok (r := x) h) O1
def c83 : PC D0 := pZ [.st 0] [tI, .bool] fun x => Y50 x
def T3 : PCT D0 := ptc 83 c83 T2
theorem O3 : PK T3 := pA (xP (xK O2 C0 [] [] [(69, [1]), (66, [1])] 87) Tryd.func83) O2
def c89 : PC D0 := pZ [tI] [tI] fun x => Y20 x
def T4 : PCT D0 := ptc 89 c89 T3
theorem O4 : PK T4 := pA (xP (xK O3 C0 [] [] [] 11) Tryd.func89) O3
def c84 : PC D0 := pZ [.st 0, tI, .st 0] [.bool] fun x => Y5z x.1 x.2.1 x.2.2
def T5 : PCT D0 := ptc 84 c84 T4
theorem O5 : PK T5 := pA (xP (xK O4 C0 [] [] [] 35) Tryd.func84) O4
structure R1 where
 a : (List Y1) → Int → Option (Int × Int × Bool)
def N1 (r : R1) : R1 := ⟨Y7b r.a⟩
def c73 (r : R1) : PC D0 := pZ [.fz (tS 0), tI] [tI, tI, .bool] fun x => r.a x.1 x.2
abbrev K1 (r : R1) : Prop := PO 73 (c73 r) ∧ True
section
variable {r : R1}
theorem B73 (H : K1 r) : PO 73 (c73 (N1 r)) :=
 have G := (xK (pA H.1 <| O5) C0 [] [] [(42, [1800003])] 69)
 xPl G Tryd.func73 (kO 2000008 (kd [.s 0 fS, .s 1 tI, .s 31 tI, .s 27 tB] [.s 9 tI, .s 10 tI, .s 32 tI] (fun k8 => []) [706] (fun k8 => [XC.idx k8.snd.fst (List.length k8.fst)]) fun k8 L8 s => Y1v r.a k8.1 k8.2.1 (k8.2.2.1, k8.2.2.2) L8 s.1 s.2.1 s.2.2)) fun _ => ⟨Y3j fun k8 => low (pre := [(900000, XC.idx k8.snd.fst (List.length k8.fst))]) G, trivial⟩
end
theorem E1 : ∀ n : Nat, K1 ⟨Y1u n⟩
 | 0 => ⟨pc_none rfl (fun _ => rfl), trivial⟩
 | n + 1 => have H := E1 n
  Eq.mpr (congrArg K1 (show (⟨Y1u (n + 1)⟩ : R1) = N1 ⟨Y1u n⟩ by kernel_rfl)) ⟨B73 H, trivial⟩
def r1 : R1 := ⟨Y1u 1000000⟩
theorem H1 : K1 r1 := E1 1000000
def T6 : PCT D0 := ptc 73 (c73 r1) T5
theorem O6 : PK T6 := pA (H1.1) O5
def c39 : PC D0 := pZ [.fz (tS 0)] [tI] fun x => Y7t x
def T7 : PCT D0 := ptc 39 c39 T6
theorem O7 : PK T7 := pA (xP (xK O6 C0 [] [] [] 28) Tryd.func39) O6
def c22 : PC D0 := pZ [.fz (tS 0)] [.bool] fun x => Y6o x
def T8 : PCT D0 := ptc 22 c22 T7
theorem O8 : PK T8 := pA (xP (xK O7 C0 [] [] [] 6) Tryd.func22) O7
def c42 : PC D0 := pZ [tI] [fU] fun x => Y88 x
def T9 : PCT D0 := ptc 42 c42 T8
theorem O9 : PK T9 := pA (xP (xK O8 C0 [] [] [] 14) Tryd.func42) O8
def c74 : PC D0 := pZ [tI] [.bool] fun x => Y7s x
def T10 : PCT D0 := ptc 74 c74 T9
theorem O10 : PK T10 := pA (xP (xK O9 C0 [] [] [] 13) Tryd.func74) O9
def c75 : PC D0 := pZ [tI] [tU] fun x => Y5g x
def T11 : PCT D0 := ptc 75 c75 T10
theorem O11 : PK T11 := pA (xP (xK O10 C0 [] [] [] 5) Tryd.func75) O10
def c40a : FC D0 := ⟨some 58, [.st 2], [.d fU], [], fun x => Y00 x.1 x.2⟩
theorem D40a : FO 40 c40a := xQ (xK O11 C0 [] [] [] 13) Tryd.func40
def U1 : CtrT D0 := ctc 40 c40a nC
theorem Q1 : CK U1 := cA (D40a) C0
structure R2 where
 a : Y3 → Int → Option (Y3)
def N2 (r : R2) : R2 := ⟨Y46 r.a⟩
def c41 (r : R2) : FC D0 := ⟨some 58, [.st 2], [.d tI], [], fun x => r.a x.1 x.2⟩
abbrev K2 (r : R2) : Prop := FO 41 (c41 r) ∧ True
section
variable {r : R2}
theorem B41 (H : K2 r) : FO 41 (c41 (N2 r)) :=
 xQ (xK O11 (cA H.1 <| Q1) [] [] [(14, [1]), (12, [1]), (8, [1])] 19) Tryd.func41
end
theorem E2 : ∀ n : Nat, K2 ⟨Y1g n⟩
 | 0 => ⟨fc_none (fun _ => rfl), trivial⟩
 | n + 1 => have H := E2 n
  Eq.mpr (congrArg K2 (show (⟨Y1g (n + 1)⟩ : R2) = N2 ⟨Y1g n⟩ by kernel_rfl)) ⟨B41 H, trivial⟩
def r2 : R2 := ⟨Y1g 1000000⟩
theorem H2 : K2 r2 := E2 1000000
def U2 : CtrT D0 := ctc 41 (c41 r2) U1
theorem Q2 : CK U2 := cA (H2.1) Q1
def c40b : FC D0 := ⟨some 58, [.st 2], [.al [(0, 2)]], [], fun x => Y0r x⟩
theorem D40b : FO 40 c40b := xQ (xK O11 Q2 [] [] [] 13) Tryd.func40
def U3 : CtrT D0 := ctc2 40 c40b c40a U2
theorem Q3 : CK U3 := cB (D40b) (D40a) Q2
structure R3 where
 a : Y3 → Option (Y3)
 b : Y3 → Int → Option (Y3)
 c : Y3 → Y1 → Int → Option (Y3)
def N3 (r : R3) : R3 := ⟨Y4s r.a r.b r.c, Y4f r.a r.b r.c, Y35 r.a r.b r.c⟩
def c24 (r : R3) : FC D0 := ⟨some 58, [.st 2], [], [], fun x => r.a x⟩
def c43 (r : R3) : FC D0 := ⟨some 58, [.st 2], [.d tI], [], fun x => r.b x.1 x.2⟩
def c44 (r : R3) : FC D0 := ⟨some 58, [.st 2], [.d (tS 0), .d tI], [], fun x => r.c x.1 x.2.1 x.2.2⟩
abbrev K3 (r : R3) : Prop := FO 24 (c24 r) ∧ FO 43 (c43 r) ∧ FO 44 (c44 r) ∧ True
section
variable {r : R3}
theorem B24 (H : K3 r) : FO 24 (c24 (N3 r)) :=
 xQ (xK O11 (cA H.1 <| cA H.2.1 <| cA H.2.2.1 <| Q3) [] [] [(81, [1]), (78, [1])] 89) Tryd.func24
theorem B43 (H : K3 r) : FO 43 (c43 (N3 r)) :=
 xQ (xK O11 (cA H.1 <| cA H.2.1 <| cA H.2.2.1 <| Q3) [59] [] [] 71) Tryd.func43
theorem B44 (H : K3 r) : FO 44 (c44 (N3 r)) :=
 have G := (xK O11 (cA H.1 <| cA H.2.1 <| cA H.2.2.1 <| Q3) [] [] [(60, [1]), (49, [1]), (25, [1]), (16, [1])] 64)
 xQl G Tryd.func44 (kO 2000004 (kc [.s 20 tI] [.bx 1000000 58 (tS 2), .bx 4 50 (tS 0), .bx 6 80 (.arr 3 tU), .s 21 tI] (fun k4 => [(0, .ptr 1000000 [] 0 0), (4, .ptr 4 [] 0 0), (6, .ptr 6 [] 0 0)]) fun k4 L4 s => Y0p r.a k4 L4 s.1 s.2.1 s.2.2.1 s.2.2.2)) fun _ => ⟨Y3j fun k4 => lo G, trivial⟩
end
theorem E3 : ∀ n : Nat, K3 ⟨Y0t n, Y0o n, Y08 n⟩
 | 0 => ⟨fc_none (fun _ => rfl), fc_none (fun _ => rfl), fc_none (fun _ => rfl), trivial⟩
 | n + 1 => have H := E3 n
  Eq.mpr (congrArg K3 (show (⟨Y0t (n + 1), Y0o (n + 1), Y08 (n + 1)⟩ : R3) = N3 ⟨Y0t n, Y0o n, Y08 n⟩ by kernel_rfl)) ⟨B24 H, B43 H, B44 H, trivial⟩
def r3 : R3 := ⟨Y0t 1000000, Y0o 1000000, Y08 1000000⟩
theorem H3 : K3 r3 := E3 1000000
def U4 : CtrT D0 := ctc 24 (c24 r3) U3
theorem Q4 : CK U4 := cA (H3.1) Q3
def U5 : CtrT D0 := ctc 43 (c43 r3) U4
theorem Q5 : CK U5 := cA (H3.2.1) Q4
def U6 : CtrT D0 := ctc 44 (c44 r3) U5
theorem Q6 : CK U6 := cA (H3.2.2.1) Q5
def c11 : PC D0 := pZ [.fz (tS 0)] [fU, tI] fun x => Y2w x
def T12 : PCT D0 := ptc 11 c11 T11
theorem O12 : PK T12 := pA (xP (xK O11 Q6 [] [] [] 14) Tryd.func11) O11
def c19 : PC D0 := pZ [tI] [fU] fun x => f_R10_Nested x
def T13 : PCT D0 := ptc 19 c19 T12
theorem O13 : PK T13 := pA (have G := (xK O12 Q6 [6] [] [] 27)
 xPl G Tryd.func19 (kA 2000003 (k0 [.s 0 tI] [.sl 3 6 33 tU, .s 4 tI] fun k3 L3 s => f_R10_Nested_b2 k3 L3 s.1 s.2) <| kO 2000008 (k0 [.s 0 tI] [.sl 3 6 33 tU, .s 5 tI] fun k8 L8 s => f_R10_Nested_b1 k8 L8 s.1 s.2)) fun _ => ⟨Y3j fun k3 => lo G, ⟨Y3j fun k8 => lo G, trivial⟩⟩) O12
def c13 : PC D0 := pZ [fU, fU] [.bool] fun x => Y6r x.1 x.2
def T14 : PCT D0 := ptc 13 c13 T13
theorem O14 : PK T14 := pA (have G := (xK O13 Q6 [] [] [] 26)
 xPl G Tryd.func13 (kO 2000004 (k0 [.s 0 fU, .s 1 fU] [.s 5 tI] fun k4 L4 s => f_R01_Same_b1 k4.1 k4.2 L4 s)) fun _ => ⟨Y3j fun k4 => lo G, trivial⟩) O13
def c17 : PC D0 := pZ [.fz (tS 0), .fz (tS 0)] [.bool] fun x => Y8c x.1 x.2
def T15 : PCT D0 := ptc 17 c17 T14
theorem O15 : PK T15 := pA (have G := (xK O14 Q6 [] [] [] 26)
 xPl G Tryd.func17 (kO 2000004 (k0 [.s 0 fS, .s 1 fS] [.s 5 tI] fun k4 L4 s => Y70 k4.1 k4.2 L4 s)) fun _ => ⟨Y3j fun k4 => lo G, trivial⟩) O14
def c9 : PC D0 := pZ [] [.bool] fun _ => f_L10_sanity
def T16 : PCT D0 := ptc 9 c9 T15
theorem O16 : PK T16 := pA (xP (xK O15 Q6 [] [] [] 150) Tryd.func9) O15
def c36 : PC D0 := pZ [tI] [tI] fun x => Y0m x
def T17 : PCT D0 := ptc 36 c36 T16
theorem O17 : PK T17 := pA (xP (xK O16 Q6 [] [] [] 11) Tryd.func36) O16
def c37 : PC D0 := pZ [.st 0, .fz fS] [.fz (tS 0)] fun x => Y37 x.1 x.2
def T18 : PCT D0 := ptc 37 c37 T17
theorem O18 : PK T18 := pA (have G := (xK O17 Q6 [8] [] [] 22)
 xPl G Tryd.func37 (kO 2000003 (k0 [.s 1 (.fz fS)] [.sl 5 8 50 (tS 0), .s 6 tI] fun k3 L3 s => Y6q k3 L3 s.1 s.2)) fun _ => ⟨Y3j fun k3 => lo G, trivial⟩) O17
def c76 : PC D0 := pZ [.st 0] [tI] fun x => Y5n x
def T19 : PCT D0 := ptc 76 c76 T18
theorem O19 : PK T19 := pA (xP (xK O18 Q6 [] [] [(65, [1]), (62, [1])] 88) Tryd.func76) O18
def c70 : PC D0 := pZ [.fz (tS 0), tI] [tI] fun x => f_R09_End x.1 x.2
def T20 : PCT D0 := ptc 70 c70 T19
theorem O20 : PK T20 := pA (have G := (xK O19 Q6 [] [] [] 35)
 xPl G Tryd.func70 (kO 2000002 (k0 [.s 0 fS] [.s 1 tI, .s 5 tI] fun k2 L2 s => f_R09_End_b1 k2 L2 s.1 s.2)) fun _ => ⟨Y3j fun k2 => lo G, trivial⟩) O19
def c45 : PC D0 := pZ [.fz (tS 0), tI] [fI] fun x => Y3b x.1 x.2
def T21 : PCT D0 := ptc 45 c45 T20
theorem O21 : PK T21 := pA (have G := (xK O20 Q6 [8] [] [] 28)
 xPl G Tryd.func45 (kO 2000003 (k0 [.s 0 fS, .s 1 tI] [.sl 5 8 3 tI, .s 6 tI, .s 7 tI] fun k3 L3 s => Y5i k3.1 k3.2 L3 s.1 s.2.1 s.2.2)) fun _ => ⟨Y3j fun k3 => lo G, trivial⟩) O20
def c71 : PC D0 := pZ [.fz (tS 0), tI] [.bool] fun x => f_R09_sound x.1 x.2
def T22 : PCT D0 := ptc 71 c71 T21
theorem O22 : PK T22 := pA (have G := (xK O21 Q6 [] [] [(23, [418])] 66)
 xPl G Tryd.func71 (kO 2000011 (k0 [.s 0 fS, .s 5 fI] [.s 7 tI] fun k11 L11 s => Y76 k11.1 k11.2 L11 s)) fun _ => ⟨Y3j fun k11 => lo G, trivial⟩) O21
def c32 : PC D0 := pZ [.fz (tS 0)] [.bool] fun x => f_R09_Tree x
def T23 : PCT D0 := ptc 32 c32 T22
theorem O23 : PK T23 := pA (have G := (xK O22 Q6 [] [] [] 29)
 xPl G Tryd.func32 (kO 2000004 (k0 [.s 0 fS] [.s 3 tI] fun k4 L4 s => Y8b k4 L4 s)) fun _ => ⟨Y3j fun k4 => lo G, trivial⟩) O22
end
end Go.Proofs.YtfpcbalkioolmaaDoor
