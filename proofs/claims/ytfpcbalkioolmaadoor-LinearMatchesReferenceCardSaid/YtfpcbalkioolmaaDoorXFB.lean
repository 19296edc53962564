/- Own work. -/
import Derived.Test.YtfpcbalkioolmaaDoorXFA
set_option linter.unusedSimpArgs false
set_option linter.unusedVariables false
set_option maxHeartbeats 4000000
set_option maxRecDepth 100000
namespace Go.Proofs.YtfpcbalkioolmaaDoor
open Go.Abs
noncomputable section
structure R4 where
 a : (List Y1) → Int → Option (Int)
def N4 (r : R4) : R4 := ⟨f_R09_depth_body r.a⟩
def c72 (r : R4) : PC D0 := pZ [.fz (tS 0), tI] [tI] fun x => r.a x.1 x.2
abbrev K4 (r : R4) : Prop := PO 72 (c72 r) ∧ True
section
variable {r : R4}
theorem B72 (H : K4 r) : PO 72 (c72 (N4 r)) :=
 have G := (xK (pA H.1 <| O23) Q6 [] [] [] 27)
 xPl G Tryd.func72 (kO 2000003 (k0 [.s 0 fS, .s 6 fI] [.s 5 tI, .s 7 tI] fun k3 L3 s => Y3p r.a k3.1 k3.2 L3 s.1 s.2)) fun _ => ⟨Y3j fun k3 => lo G, trivial⟩
end
theorem E4 : ∀ n : Nat, K4 ⟨Y3f n⟩
 | 0 => ⟨pc_none rfl (fun _ => rfl), trivial⟩
 | n + 1 => have H := E4 n
  Eq.mpr (congrArg K4 (show (⟨Y3f (n + 1)⟩ : R4) = N4 ⟨Y3f n⟩ by kernel_rfl)) ⟨B72 H, trivial⟩
def r4 : R4 := ⟨Y3f 1000000⟩
theorem H4 : K4 r4 := E4 1000000
def T24 : PCT D0 := ptc 72 (c72 r4) T23
theorem O24 : PK T24 := pA (H4.1) O23
def c33 : PC D0 := pZ [.fz (tS 0)] [tI] fun x => Y7x x
def T25 : PCT D0 := ptc 33 c33 T24
theorem O25 : PK T25 := pA (xP (xK O24 Q6 [] [] [] 5) Tryd.func33) O24
def c20 : PC D0 := pZ [.fz (tS 0)] [.bool] fun x => Y4r x
def T26 : PCT D0 := ptc 20 c20 T25
theorem O26 : PK T26 := pA (xP (xK O25 Q6 [] [] [] 15) Tryd.func20) O25
def c34 : FC D0 := ⟨some 53, [.st 1], [], [tI], fun x => Y14 x⟩
def U7 : CtrT D0 := ctc 34 c34 U6
theorem Q7 : CK U7 := cA (xQ (xK O26 Q6 [] [] [] 32) Tryd.func34) Q6
def c35 : FC D0 := ⟨some 53, [.st 1], [], [.fz (tS 0)], fun x => Y2p x⟩
def U8 : CtrT D0 := ctc 35 c35 U7
theorem Q8 : CK U8 := cA (xQ (xK O26 Q7 [] [] [(7, [1])] 12) Tryd.func35) Q7
structure R5 where
 a : Yb → Int → Int → Option ((List Y1) × Yb)
 b : Yb → Int → Int → Option ((List (List Y1)) × Yb)
def N5 (r : R5) : R5 := ⟨Y66 r.a r.b, Y7w r.a r.b⟩
def c21 (r : R5) : FC D0 := ⟨some 53, [.st 1], [.d tI, .d tI], [.fz (tS 0)], fun x => r.a x.1 x.2.1 x.2.2⟩
def c38 (r : R5) : FC D0 := ⟨some 53, [.st 1], [.d tI, .d tI], [.fz fS], fun x => r.b x.1 x.2.1 x.2.2⟩
abbrev K5 (r : R5) : Prop := FO 21 (c21 r) ∧ FO 38 (c38 r) ∧ True
section
variable {r : R5}
theorem B21 (H : K5 r) : FO 21 (c21 (N5 r)) :=
 have G := (xK O26 (cA H.1 <| cA H.2.1 <| Q8) [134] [(36, 11)] [(50, [1]), (46, [1]), (132, [1]), (93, [2818]), (74, [1]), (37, [1]), (33, [1]), (17, [1])] 151)
 xQl G Tryd.func21 (kO 2000033 (kc [.s 131 (.int IntKind.i64), .s 16 (.int IntKind.i64)] [.bx 1000000 53 (tS 1), .sl 11 134 26 fS, .s 12 tI] (fun k33 => [(0, .ptr 1000000 [] 0 0), (7, (fun (c0 : Int) (c1 : Int) => .i (IntKind.i64) (c1.tmod 14 : Int)) k33.1 k33.2), (10, (fun (c0 : Int) (c1 : Int) => .i (IntKind.i64) (nw IntKind.i64 (2 + c0.tmod 2) : Int)) k33.1 k33.2)]) fun k33 L33 s => Y23 (k33.2, zS_maker) (k33.1, zS_maker) L33 s.1 s.2.1 s.2.2)) fun _ => ⟨Y3j fun k33 => lo G, trivial⟩
theorem B38 (H : K5 r) : FO 38 (c38 (N5 r)) :=
 have G := (xK O26 (cA H.1 <| cA H.2.1 <| Q8) [9] [] [] 22)
 xQl G Tryd.func38 (kO 2000003 (kc [.s 1 tI, .s 2 tI] [.bx 1000000 53 (tS 1), .sl 7 9 26 fS, .s 8 tI] (fun k3 => [(0, .ptr 1000000 [] 0 0)]) fun k3 L3 s => Y24 r.a k3.1 k3.2 L3 s.1 s.2.1 s.2.2)) fun _ => ⟨Y3j fun k3 => lo G, trivial⟩
end
theorem E5 : ∀ n : Nat, K5 ⟨Y2o n, Y49 n⟩
 | 0 => ⟨fc_none (fun _ => rfl), fc_none (fun _ => rfl), trivial⟩
 | n + 1 => have H := E5 n
  Eq.mpr (congrArg K5 (show (⟨Y2o (n + 1), Y49 (n + 1)⟩ : R5) = N5 ⟨Y2o n, Y49 n⟩ by kernel_rfl)) ⟨B21 H, B38 H, trivial⟩
def r5 : R5 := ⟨Y2o 1000000, Y49 1000000⟩
theorem H5 : K5 r5 := E5 1000000
def U9 : CtrT D0 := ctc 21 (c21 r5) U8
theorem Q9 : CK U9 := cA (H5.1) Q8
def U10 : CtrT D0 := ctc 38 (c38 r5) U9
theorem Q10 : CK U10 := cA (H5.2.1) Q9
def c10 : PC D0 := pZ [fU] [.fz (tS 0)] fun x => f_R09_Made x
def T27 : PCT D0 := ptc 10 c10 T26
theorem O27 : PK T27 := pA (xP (xK O26 Q10 [] [] [] 20) Tryd.func10) O26
def c47 : PC D0 := pZ [tI] [tU] fun x => Y4c x
def T28 : PCT D0 := ptc 47 c47 T27
theorem O28 : PK T28 := pA (xP (xK O27 Q10 [] [] [] 9) Tryd.func47) O27
def c77 : PC D0 := pZ [tI] [tU] fun x => f_R10_digit x
def T29 : PCT D0 := ptc 77 c77 T28
theorem O29 : PK T29 := pA (xP (xK O28 Q10 [] [] [(5, [1])] 7) Tryd.func77) O28
def c46 : PC D0 := pZ [tI] [fU] fun x => Y9c x
def T30 : PCT D0 := ptc 46 c46 T29
theorem O30 : PK T30 := pA (have G := (xK O29 Q10 [5] [] [(9, [1]), (21, [1])] 26)
 xPl G Tryd.func46 (kO 2000003 (k0 [.s 0 tI] [.sl 3 5 33 tU, .s 4 tI] fun k3 L3 s => Y7v k3 L3 s.1 s.2)) fun _ => ⟨Y3j fun k3 => lo G, trivial⟩) O29
def c48 : PC D0 := pZ [tI] [fU] fun x => Y4w x
def T31 : PCT D0 := ptc 48 c48 T30
theorem O31 : PK T31 := pA (xP (xK O30 Q10 [] [] [] 14) Tryd.func48) O30
def c49 : PC D0 := pZ [tI] [.bool] fun x => Y5b x
def T32 : PCT D0 := ptc 49 c49 T31
theorem O32 : PK T32 := pA (xP (xK O31 Q10 [] [] [] 17) Tryd.func49) O31
def c51 : PC D0 := pZ [fU, tI] [fU] fun x => Y47 x.1 x.2
def T33 : PCT D0 := ptc 51 c51 T32
theorem O33 : PK T33 := pA (xP (xK O32 Q10 [9] [] [] 16) Tryd.func51) O32
def c50 : PC D0 := pZ [fU] [fU] fun x => Y75 x
def T34 : PCT D0 := ptc 50 c50 T33
theorem O34 : PK T34 := pA (xP (xK O33 Q10 [3] [] [] 6) Tryd.func50) O33
def c52 : PC D0 := pZ [tI] [.arr 3 tU] fun x => Y28 x
def T35 : PCT D0 := ptc 52 c52 T34
theorem O35 : PK T35 := pA (xP (xK O34 Q10 [] [] [] 14) Tryd.func52) O34
structure R6 where
 a : (List Y1) → Int → (List Int) → Option ((List Int))
def N6 (r : R6) : R6 := ⟨Y8w r.a⟩
def c25 (r : R6) : PC D0 := pZ [.fz (tS 0), tI, fU] [fU] fun x => r.a x.1 x.2.1 x.2.2
abbrev K6 (r : R6) : Prop := PO 25 (c25 r) ∧ True
section
variable {r : R6}
theorem B25 (H : K6 r) : PO 25 (c25 (N6 r)) :=
 have G := (xK (pA H.1 <| O35) Q10 [22] [] [(221, [1]), (207, [1]), (194, [1]), (166, [1]), (73, [2146])] 225)
 xPl G Tryd.func25 (kA 2000030 (k0 [.s 0 fS, .s 2 fU, .s 8 fI] [.sl 9 22 33 tU, .s 11 tI] fun k30 L30 s => Y3n r.a k30.1 k30.2.1 k30.2.2 L30 s.1 s.2) <| kA 2000041 (kc [.s 0 fS, .s 2 fU, .s 8 fI] [.bx 7 50 (tS 0), .sl 9 22 33 tU, .s 12 tI] (fun k41 => [(7, .ptr 7 [] 0 0)]) fun k41 L41 s => Y3m r.a k41.1 k41.2.1 k41.2.2 L41 s.1 s.2.1 s.2.2) <| kO 2000052 (kc [.s 0 fS, .s 2 fU, .s 8 fI] [.sl 9 22 33 tU, .bx 13 80 (.arr 3 tU), .s 14 tI] (fun k52 => [(13, .ptr 13 [] 0 0)]) fun k52 L52 s => Y3o r.a k52.1 k52.2.1 k52.2.2 L52 s.1 s.2.1 s.2.2)) fun _ => ⟨Y3j fun k30 => lo G, ⟨Y3j fun k41 => lo G, ⟨Y3j fun k52 => lo G, trivial⟩⟩⟩
end
theorem E6 : ∀ n : Nat, K6 ⟨Y8a n⟩
 | 0 => ⟨pc_none rfl (fun _ => rfl), trivial⟩
 | n + 1 => have H := E6 n
  Eq.mpr (congrArg K6 (show (⟨Y8a (n + 1)⟩ : R6) = N6 ⟨Y8a n⟩ by kernel_rfl)) ⟨B25 H, trivial⟩
def r6 : R6 := ⟨Y8a 1000000⟩
theorem H6 : K6 r6 := E6 1000000
def T36 : PCT D0 := ptc 25 (c25 r6) T35
theorem O36 : PK T36 := pA (H6.1) O35
def c12 : PC D0 := pZ [.fz (tS 0)] [fU, tI] fun x => f_R10_Write x
def T37 : PCT D0 := ptc 12 c12 T36
theorem O37 : PK T37 := pA (xP (xK O36 Q10 [] [] [] 12) Tryd.func12) O36
def c14 : PC D0 := pZ [fU, tI] [fU] fun x => f_R01_Cells x.1 x.2
def T38 : PCT D0 := ptc 14 c14 T37
theorem O38 : PK T38 := pA (have G := (xK O37 Q10 [7] [] [(24, [1])] 28)
 xPl G Tryd.func14 (kO 2000003 (k0 [.s 0 fU, .s 1 tI] [.sl 5 7 33 tU, .s 6 tI] fun k3 L3 s => f_R01_Cells_b1 k3.1 k3.2 L3 s.1 s.2)) fun _ => ⟨Y3j fun k3 => lo G, trivial⟩) O37
def c69 : PC D0 := pZ [.rp (tS 3)] [.bool] fun x => Yv x
def T39 : PCT D0 := ptc 69 c69 T38
theorem O39 : PK T39 := pA (xP (xK O38 Q10 [] [] [] 13) Tryd.func69) O38
def c86 : PC D0 := pZ [.rp (tS 3)] [tU] fun x => Yr x
def T40 : PCT D0 := ptc 86 c86 T39
theorem O40 : PK T40 := pA (xP (xK O39 Q10 [] [] [] 27) Tryd.func86) O39
def c91 : PC D0 := pZ [tU, tI] [tI] fun x => Y6z x.1 x.2
def T41 : PCT D0 := ptc 91 c91 T40
theorem O41 : PK T41 := pA (have G := (xK O40 Q10 [] [] [] 16)
 xPl G Tryd.func91 (kO 2000002 (k0 [.s 0 tU, .s 1 tI] [.s 5 tI] fun k2 L2 s => f_R10_value_b1 k2.1 k2.2 L2 s)) fun _ => ⟨Y3j fun k2 => lo G, trivial⟩) O40
def c82 : FC D0 := ⟨none, [], [.d tI, .d tI, .sl 50 (tS 0)], [.sl 50 (tS 0)], fun x => Y29 x.1 x.2.1 x.2.2⟩
def U11 : CtrT D0 := ctc 82 c82 U10
theorem Q11 : CK U11 := cA (xQ (xK O41 Q10 [11] [] [] 15) Tryd.func82) Q10
def c94 : PC D0 := pZ [.rp (tS 3), tI, fU] [.bool, .bool] fun x => Y4p x.1 x.2.1 x.2.2
def T42 : PCT D0 := ptc 94 c94 T41
theorem O42 : PK T42 := pA (have G := (xK O41 Q11 [] [] [(30, [546])] 38)
 xPl G Tryd.func94 (kO 2000002 (k0 [.s 0 (.rp (tS 3)), .s 1 tI, .s 2 fU] [.s 8 tI] fun k2 L2 s => Y5s k2.1 k2.2.1 k2.2.2 L2 s)) fun _ => ⟨Y3j fun k2 => lo G, trivial⟩) O41
def c87 : PC D0 := pZ [.rp (tS 3), fU] [.bool, .bool] fun x => Y1q x.1 x.2
def T43 : PCT D0 := ptc 87 c87 T42
theorem O43 : PK T43 := pA (xP (xK O42 Q11 [] [] [] 60) Tryd.func87) O42
def c80 : PC D0 := pZ [.rp (tS 3)] [tI] fun x => Y5h x
def T44 : PCT D0 := ptc 80 c80 T43
theorem O44 : PK T44 := pA (xP (xK O43 Q11 [] [] [] 13) Tryd.func80) O43
def c81 : FC D0 := ⟨some 101, [.st 3], [.d tU], [], fun x => Yg x.1 x.2⟩
def U12 : CtrT D0 := ctc 81 c81 U11
theorem Q12 : CK U12 := cA (xQ (xK O44 Q11 [] [] [] 41) Tryd.func81) Q11
def c88 : FC D0 := ⟨some 101, [.st 3], [.d fU], [], fun x => Y4q x.1 x.2⟩
def U13 : CtrT D0 := ctc 88 c88 U12
theorem Q13 : CK U13 := cA (xQ (xK O44 Q12 [] [] [] 35) Tryd.func88) Q12
def c90 : FC D0 := ⟨some 101, [.st 3], [], [.sl 50 (tS 0)], fun x => Y0i x⟩
def U14 : CtrT D0 := ctc 90 c90 U13
theorem Q14 : CK U14 := cA (have G := (xK O44 Q13 [] [] [(25, [1])] 66)
 xQl G Tryd.func90 (kO 2000003 (kc [] [.bx 1000000 101 (tS 3), .s 3 tI, .s 4 tI] (fun k3 => [(0, .ptr 1000000 [] 0 0)]) fun k3 L3 s => Y3a  L3 s.1 s.2.1 s.2.2)) fun _ => ⟨Y3j fun k3 => lo G, trivial⟩) Q13
end
end Go.Proofs.YtfpcbalkioolmaaDoor
