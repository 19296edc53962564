/- Own work. -/
import Derived.Test.YtfpcbalkioolmaaDoorXFB
set_option linter.unusedSimpArgs false
set_option linter.unusedVariables false
set_option maxHeartbeats 4000000
set_option maxRecDepth 100000
namespace Go.Proofs.YtfpcbalkioolmaaDoor
open Go.Abs
noncomputable section
structure R7 where
 a : Y0 → (List Int) → Int → (List (List Int)) → Option ((List Y1) × Y0)
 b : Y0 → (List Int) → (List (List Int)) → Option ((List Y1) × Y0)
 c : Y0 → (List Int) → Option ((List Y1) × Bool × Y0)
 d : Y0 → Option ((List Y1) × Y0)
 e : Y0 → (List Int) → Option ((List Y1) × Y0)
 f : Y0 → (List Int) → Int → Bool → Option ((List Y1) × Int × Y0)
def N7 (r : R7) : R7 := ⟨Y4v r.a r.b r.c r.d r.e r.f, Y4u r.a r.b r.c r.d r.e r.f, Y3r r.a r.b r.c r.d r.e r.f, Y7u r.a r.b r.c r.d r.e r.f, Y6p r.a r.b r.c r.d r.e r.f, Y4k r.a r.b r.c r.d r.e r.f⟩
def c68 (r : R7) : FC D0 := ⟨some 101, [.st 3], [.d fU, .d tI, .d (.fz fU)], [.sl 50 (tS 0)], fun x => r.a x.1 x.2.1 x.2.2.1 x.2.2.2⟩
def c79 (r : R7) : FC D0 := ⟨some 101, [.st 3], [.d fU, .d (.fz fU)], [.sl 50 (tS 0)], fun x => r.b x.1 x.2.1 x.2.2⟩
def c85 (r : R7) : FC D0 := ⟨some 101, [.st 3], [.d fU], [.sl 50 (tS 0), .bool], fun x => r.c x.1 x.2⟩
def c92 (r : R7) : FC D0 := ⟨some 101, [.st 3], [], [.sl 50 (tS 0)], fun x => r.d x⟩
def c93 (r : R7) : FC D0 := ⟨some 101, [.st 3], [.d fU], [.sl 50 (tS 0)], fun x => r.e x.1 x.2⟩
def c95 (r : R7) : FC D0 := ⟨some 101, [.st 3], [.d fU, .d tI, .d tB], [.sl 50 (tS 0), tI], fun x => r.f x.1 x.2.1 x.2.2.1 x.2.2.2⟩
abbrev K7 (r : R7) : Prop := FO 68 (c68 r) ∧ FO 79 (c79 r) ∧ FO 85 (c85 r) ∧ FO 92 (c92 r) ∧ FO 93 (c93 r) ∧ FO 95 (c95 r) ∧ True
section
variable {r : R7}
theorem B68 (H : K7 r) : FO 68 (c68 (N7 r)) :=
 have G := (xK O44 (cA H.1 <| cA H.2.1 <| cA H.2.2.1 <| cA H.2.2.2.1 <| cA H.2.2.2.2.1 <| cA H.2.2.2.2.2.1 <| Q14) [] [] [] 58)
 xQl G Tryd.func68 (kO 2000002 (kc [.s 1 fU, .s 2 tI, .s 3 (.fz fU)] [.bx 1000000 101 (tS 3), .sl 9 17 50 (tS 0)] (fun k2 => [(0, .ptr 1000000 [] 0 0)]) fun k2 L2 s => Yt r.a k2.1 k2.2.1 k2.2.2 L2 s.1 s.2)) fun _ => ⟨Y3j fun k2 => lp G (fun L2 => (kO 2000007 (kc [.s 10 tI, .s 11 fU] [.bx 1000000 101 (tS 3), .sl 9 17 50 (tS 0), .s 12 tI] (fun k7 => [(0, .ptr 1000000 [] 0 0), (1, (fun (c0 : Int) (c1 : List Int) => .d tU (k2.fst : List Int)) k7.1 k7.2), (2, (fun (c0 : Int) (c1 : List Int) => .i (IntKind.i64) (k2.snd.fst : Int)) k7.1 k7.2), (3, (fun (c0 : Int) (c1 : List Int) => .d (tU.fz) (k2.snd.snd : List (List Int))) k7.1 k7.2)]) fun k7 L7 s => Y0v r.a k2.1 k2.2.2 L2 k7.1 k7.2 L7 s.1 s.2.1 s.2.2))) fun L2 => ⟨Y3j fun k7 => lo G, trivial⟩, trivial⟩
theorem B79 (H : K7 r) : FO 79 (c79 (N7 r)) :=
 have G := (xK O44 (cA H.1 <| cA H.2.1 <| cA H.2.2.1 <| cA H.2.2.2.1 <| cA H.2.2.2.2.1 <| cA H.2.2.2.2.2.1 <| Q14) [] [] [] 130)
 xQl G Tryd.func79 (kO 2000011 (kc [.s 1 fU, .s 2 (.fz fU), .s 8 tB] [.bx 1000000 101 (tS 3), .sl 7 20 50 (tS 0), .s 9 tB, .s 10 tI] (fun k11 => [(0, .ptr 1000000 [] 0 0)]) fun k11 L11 s => Y0u r.a k11.1 k11.2.1 ([], (k11.2.2, zS_reader)) L11 s.1 s.2.1 s.2.2.1 s.2.2.2)) fun _ => ⟨Y3j fun k11 => lo G, trivial⟩
theorem B85 (H : K7 r) : FO 85 (c85 (N7 r)) :=
 have G := (xK O44 (cA H.1 <| cA H.2.1 <| cA H.2.2.1 <| cA H.2.2.2.1 <| cA H.2.2.2.2.1 <| cA H.2.2.2.2.2.1 <| Q14) [] [] [(153, [3938]), (148, [1]), (139, [1]), (135, [3938]), (126, [1])] 160)
 xQl G Tryd.func85 (kO 2000029 (kc [.s 1 fU, .s 6 tU] [.bx 1000000 101 (tS 3), .s 10 tI] (fun k29 => [(0, .ptr 1000000 [] 0 0), (9, (fun (c0 : List Int) (c1 : Int) => .d tI ([6, 9, 10, 11] : List Int)) k29.1 k29.2)]) fun k29 L29 s => Y03 r.a k29.1 k29.2 L29 s.1 s.2)) fun _ => ⟨Y3j fun k29 => lo G, trivial⟩
theorem B92 (H : K7 r) : FO 92 (c92 (N7 r)) :=
 xQ (xK O44 (cA H.1 <| cA H.2.1 <| cA H.2.2.1 <| cA H.2.2.2.1 <| cA H.2.2.2.2.1 <| cA H.2.2.2.2.2.1 <| Q14) [] [] [] 27) Tryd.func92
theorem B93 (H : K7 r) : FO 93 (c93 (N7 r)) :=
 have G := (xK O44 (cA H.1 <| cA H.2.1 <| cA H.2.2.1 <| cA H.2.2.2.1 <| cA H.2.2.2.2.1 <| cA H.2.2.2.2.2.1 <| Q14) [] [] [] 55)
 xQl G Tryd.func93 (kO 2000003 (kc [.s 1 fU, .s 6 tI] [.bx 1000000 101 (tS 3), .sl 5 13 50 (tS 0), .s 7 tI] (fun k3 => [(0, .ptr 1000000 [] 0 0)]) fun k3 L3 s => Y09 r.f k3.1 ([], (k3.2, zS_reader)) L3 s.1 s.2.1 s.2.2)) fun _ => ⟨Y3j fun k3 => lo G, trivial⟩
theorem B95 (H : K7 r) : FO 95 (c95 (N7 r)) :=
 have G := (xK O44 (cA H.1 <| cA H.2.1 <| cA H.2.2.1 <| cA H.2.2.2.1 <| cA H.2.2.2.2.1 <| cA H.2.2.2.2.2.1 <| Q14) [12] [] [] 44)
 xQl G Tryd.func95 (kO 2000004 (kc [.s 1 fU, .s 2 tI, .s 3 tB] [.bx 1000000 101 (tS 3), .sl 10 12 50 (tS 0), .s 11 tI] (fun k4 => [(0, .ptr 1000000 [] 0 0)]) fun k4 L4 s => Y0e r.a k4.1 k4.2.1 k4.2.2 L4 s.1 s.2.1 s.2.2)) fun _ => ⟨Y3j fun k4 => lo G, trivial⟩
end
theorem E7 : ∀ n : Nat, K7 ⟨Y7 n, Yx n, Yp n, Y0a n, Yz n, Yl n⟩
 | 0 => ⟨fc_none (fun _ => rfl), fc_none (fun _ => rfl), fc_none (fun _ => rfl), fc_none (fun _ => rfl), fc_none (fun _ => rfl), fc_none (fun _ => rfl), trivial⟩
 | n + 1 => have H := E7 n
  Eq.mpr (congrArg K7 (show (⟨Y7 (n + 1), Yx (n + 1), Yp (n + 1), Y0a (n + 1), Yz (n + 1), Yl (n + 1)⟩ : R7) = N7 ⟨Y7 n, Yx n, Yp n, Y0a n, Yz n, Yl n⟩ by kernel_rfl)) ⟨B68 H, B79 H, B85 H, B92 H, B93 H, B95 H, trivial⟩
def r7 : R7 := ⟨Y7 1000000, Yx 1000000, Yp 1000000, Y0a 1000000, Yz 1000000, Yl 1000000⟩
theorem H7 : K7 r7 := E7 1000000
def U15 : CtrT D0 := ctc 68 (c68 r7) U14
theorem Q15 : CK U15 := cA (H7.1) Q14
def U16 : CtrT D0 := ctc 79 (c79 r7) U15
theorem Q16 : CK U16 := cA (H7.2.1) Q15
def U17 : CtrT D0 := ctc 85 (c85 r7) U16
theorem Q17 : CK U17 := cA (H7.2.2.1) Q16
def U18 : CtrT D0 := ctc 92 (c92 r7) U17
theorem Q18 : CK U18 := cA (H7.2.2.2.1) Q17
def U19 : CtrT D0 := ctc 93 (c93 r7) U18
theorem Q19 : CK U19 := cA (H7.2.2.2.2.1) Q18
def U20 : CtrT D0 := ctc 95 (c95 r7) U19
theorem Q20 : CK U20 := cA (H7.2.2.2.2.2.1) Q19
def c30 : PC D0 := pZ [fU] [.fz (tS 0), .bool, .bool] fun x => Y4x x
def T45 : PCT D0 := ptc 30 c30 T44
theorem O45 : PK T45 := pA (xP (xK O44 Q20 [] [] [] 35) Tryd.func30) O44
def c16 : PC D0 := pZ [fU] [.fz (tS 0), tI, tI] fun x => f_R10_Read x
def T46 : PCT D0 := ptc 16 c16 T45
theorem O46 : PK T46 := pA (have G := (xK O45 Q20 [] [] [] 45)
 xPl G Tryd.func16 (kO 2000009 (k0 [.s 0 fU] [.s 9 tI, .s 10 tI] fun k9 L9 s => f_R10_Read_b1 k9 L9 s.1 s.2)) fun _ => ⟨Y3j fun k9 => lo G, trivial⟩) O45
theorem law3 : ∀ ds x, (fun x : DenP D0.S [fU, fU, .fz (.arr 2 tU)] => Y3v x.1 x.2.1 x.2.2) ds = some x → QSpec Tryd.prog 3 (encAP D0 [fU, fU, .fz (.arr 2 tU)] ds) (Y8i (encAP D0 [.bool] x)) :=
 have G := (xK O46 Q20 [66] [(12, 13)] [(117, [3458]), (94, [1]), (92, [1]), (91, [2626]), (83, [1])] 138)
 xAl (ats := [fU, fU, .fz (.arr 2 tU)]) (rts := [.bool]) (F := (fun x : DenP D0.S [fU, fU, .fz (.arr 2 tU)] => Y3v x.1 x.2.1 x.2.2)) G Tryd.func3 (kA 2000009 (k0 [.s 1 fU, .s 2 (.fz (.arr 2 tU)), .s 7 tB, .s 11 fU, .s 12 (.int IntKind.i64)] [.sl 13 66 33 tU, .s 14 tI] fun k9 L9 s => Y25 k9.1 k9.2.1 k9.2.2.1 (k9.2.2.2.1, k9.2.2.2.2) L9 s.1 s.2) <| kO 2000014 (kc [.s 7 tB, .s 99 fU, .s 97 fU, .s 96 fU, .s 12 (.int IntKind.i64)] [.s 16 tI] (fun k14 => [(15, (fun (c0 : Bool) (c1 : List Int) (c2 : List Int) (c3 : List Int) (c4 : Int) => .d (tU.fz) ([c3, c2, c1] : List (List Int))) k14.1 k14.2.1 k14.2.2.1 k14.2.2.2.1 k14.2.2.2.2)]) fun k14 L14 s => Y0j k14.1 (k14.2.2.2.1, k14.2.2.2.2) k14.2.2.1 k14.2.1 L14 s)) fun _ => ⟨Y3j fun k9 => lo G, ⟨Y3j fun k14 => lo G, trivial⟩⟩
theorem f_L10_LinearMatchesReference_ok {t0 : List Int} {t1 : List Int} {t2 : List (List Int)} {r : Bool} (H : Y3v t0 t1 t2 = some r) : QSpec Tryd.prog 3 [slA (eI .u8) t0, slA (eI .u8) t1, slA eA34 t2] (.bool r) := law3 (t0, t1, t2) r H
end
end Go.Proofs.YtfpcbalkioolmaaDoor
