/- Own work. -/
import Derived.Test.YtkgfbpbndmklnaaDoorChecked
import Derived.Test.YtkgfbpbndmklnaaDoorSymA
set_option linter.unusedSimpArgs false
set_option linter.unusedVariables false
set_option maxRecDepth 100000
namespace Go.Proofs.YtkgfbpbndmklnaaDoor
open Go.Abs
def pre_word (h : Hp) (p : Nat) (Q : Hp → AV → Prop) (Qp : Hp → List PanicEntry → Prop) : Prop :=
 ∃ (r1 : Nat), ∃ (h2 : Hp), (Nw h r1 ⟨0, true, 3, 1, [.int .i64 6, .int .i64 7, .int .i64 8, .int .i64 9, .int .i64 11, .int .i64 12, .int .i64 13]⟩ h2) ∧ (Has h2 r1 0) ∧ ∃ (I7 : Nat → Int → Int → Hp → Prop), (∃ m10 : Nat, I7 m10 0 0 h2) ∧ ∀ (m6 : Nat) (y11 : Int) (y12 : Int) (h5 : Hp), I7 m6 y11 y12 h5 → ((((decide ((y12 : Int) < 7)) = true → ∃ (J15 : Int → ByteArray → Bool → Hp → Prop), (∀ (y18 : Int) (y19 : ByteArray) (y20 : Bool) (h14 : Hp), J15 y18 y19 y20 h14 → ((okA .i64 (y12 + 1 : Int)) ∧ (∃ m80 : Nat, m80 < m6 ∧ I7 m80 y11 (y12 + 1) h14))) ∧ (∃ (r21 : Nat), ∃ (v22 : Nat), ∃ (o23 : Nat), (Ix h5 (.rsl r1 0 0 7) 1 (y12 : Int) (.ref r21 v22 o23)) ∧ ∃ (x25 : Int), (Ld h5 r21 v22 o23 (.int .i64 x25)) ∧ ∃ (t27 : ByteArray), (CallOK Tryd.prog 46 [.int .i64 x25] h5 h5 (.string t27)) ∧ ∃ (J30 : Bool → Hp → Prop), (∀ (y33 : Bool) (h29 : Hp), J30 y33 h29 → ((((y33) = true → (J15 x25 t27 y33 h29)) ∧ ((y33) = false → ∃ (I57 : Nat → Int → Hp → Prop), (∃ m60 : Nat, I57 m60 0 h29) ∧ ∀ (m56 : Nat) (y61 : Int) (h55 : Hp), I57 m56 y61 h55 → ((((decide ((y61 : Int) < ((t27).size : Nat))) = true → ∃ (x63 : Int), (0 ≤ (y61 : Int) ∧ (y61 : Int) < (t27).size) ∧ (pvIndex Tryd.prog 9 (.string t27) (.int .i64 y61) = .int .u8 x63) ∧ ((∃ (h69 : Hp), (CallOK Tryd.prog 70 [.ref p 0 0, .int .u8 x63] h55 h69 (.tup [])) ∧ (okA .i64 (y61 + 1 : Int)) ∧ (∃ m72 : Nat, m72 < m56 ∧ I57 m72 (y61 + 1) h69)) ∨ (∃ (h66 : Hp), ∃ (ch67 : List PanicEntry), (Yp Tryd.prog 70 [.ref p 0 0, .int .u8 x63] h55 h66 ch67) ∧ (Qp h66 ch67)))) ∧ ((decide ((y61 : Int) < ((t27).size : Nat))) = false → ((∃ (h77 : Hp), (CallOK Tryd.prog 70 [.ref p 0 0, .int .u8 40] h55 h77 (.tup [])) ∧ (Q h77 (.int .i64 x25))) ∨ (∃ (h74 : Hp), ∃ (ch75 : List PanicEntry), (Yp Tryd.prog 70 [.ref p 0 0, .int .u8 40] h55 h74 ch75) ∧ (Qp h74 ch75)))))))))) ∧ (∃ (h34 : Hp), ∃ (x35 : Int), (CallOK Tryd.prog 59 [.ref p 0 0] h5 h34 (.int .u8 x35)) ∧ ∃ (x37 : Int), (0 ≤ (0 : Int) ∧ (0 : Int) < (t27).size) ∧ (pvIndex Tryd.prog 9 (.string t27) (.int .i64 0) = .int .u8 x37) ∧ ((((x35 : Int) != x37) = true → (J30 true h34)) ∧ (((x35 : Int) != x37) = false → (Has h34 p 0) ∧ ∃ (x42 : Int), (Ld h34 p 0 1 (.int .i64 x42)) ∧ (okA .i64 (x42 + 1 : Int)) ∧ ∃ (t45 : ByteArray), (Ld h34 p 0 0 (.string t45)) ∧ (((decide ((((t45).size : Nat) : Int) ≤ (x42 + 1))) = true → (J30 true h34)) ∧ ((decide ((((t45).size : Nat) : Int) ≤ (x42 + 1))) = false → ∃ (x48 : Int), (0 ≤ (x42 + 1 : Int) ∧ (x42 + 1 : Int) < (t45).size) ∧ (pvIndex Tryd.prog 9 (.string t45) (.int .i64 (x42 + 1)) = .int .u8 x48) ∧ ∃ (x51 : Int), (0 ≤ (1 : Int) ∧ (1 : Int) < (t27).size) ∧ (pvIndex Tryd.prog 9 (.string t27) (.int .i64 1) = .int .u8 x51) ∧ (J30 ((x48 : Int) != x51) h34)))))))) ∧ ((decide ((y12 : Int) < 7)) = false → (Has h5 p 0) ∧ ∃ (x83 : Int), (Ld h5 p 0 1 (.int .i64 x83)) ∧ (okA .i64 (x83 + 1 : Int)) ∧ ∃ (h86 : Hp), (St h5 p 0 1 (.int .i64 (x83 + 1)) h86) ∧ (Q h86 (.int .i64 1)))))
theorem w_word {h : Hp} {p : Nat} {Q : Hp → AV → Prop} {Qp : Hp → List PanicEntry → Prop}  (H : pre_word h p Q Qp) : FnO Tryd.prog 62 [.ref p 0 0] h Q Qp := by
 unfold pre_word at H
 refine FnO.mk Tryd.func62 rfl (Xc (by kernel_rfl)) ?_
 refine GQ.E [(0, .ref p 0 0)] ?_
 refine GQ.seq ?_
 refine GQ.region ?_
 refine SQ.a (.int .i64 0) ?_
 refine SQ.nil ?_
 refine GQ.seq ?_
 refine GQ.seq ?_
 obtain ⟨r1, h2, w3, f4, H⟩ := H
 refine GQ.region ?_
 refine SQ.cons (av := .rsl r1 0 0 7) rfl (OStep.yes rfl (HStep.build (qs := [(0, .int .i64 6), (1, .int .i64 7), (2, .int .i64 8), (3, .int .i64 9), (4, .int .i64 11), (5, .int .i64 12), (6, .int .i64 13)]) (cs := [.int .i64 6, .int .i64 7, .int .i64 8, .int .i64 9, .int .i64 11, .int .i64 12, .int .i64 13]) (r := r1) rfl (Y8 (P := Tryd.prog) (t := 42) (e := 3) (k := 1) (bytes := 8) (z := [.int .i64 0]) (by kernel_rfl)) (by decide) (by kernel_rfl) (by simp only [X5, X4, or_false, forall_eq_or_imp, forall_eq]; exact ⟨⟨⟨trivial, rfl⟩, Y2l rfl⟩, ⟨⟨trivial, rfl⟩, Y2l rfl⟩, ⟨⟨trivial, rfl⟩, Y2l rfl⟩, ⟨⟨trivial, rfl⟩, Y2l rfl⟩, ⟨⟨trivial, rfl⟩, Y2l rfl⟩, ⟨⟨trivial, rfl⟩, Y2l rfl⟩, ⟨⟨trivial, rfl⟩, Y2l rfl⟩⟩) (by kernel_rfl) (by simp only [X5, X4, or_false, forall_eq_or_imp, forall_eq]; exact ⟨rfl, rfl, rfl, rfl, rfl, rfl, rfl⟩) rfl w3)) ?_
 refine SQ.cons (av := .int .i64 7) rfl (OStep.yes rfl (HStep.len (s := .rsl r1 0 0 7) (n := 7) rfl (by kernel_rfl) (by kernel_rfl) (.inr (.inl ⟨_, _, _, rfl, f4⟩)))) ?_
 refine SQ.m (.int .i64 0) ?_
 refine SQ.nil ?_
 refine GQ.block ?_
 obtain ⟨I7, ⟨m10, H9⟩, H⟩ := H
 refine GQ.loop (fun n e h' => ∃ (y11 : Int) (y12 : Int), Env.le e [(0, .ref p 0 0), (2, .int .i64 y11), (7, .rsl r1 0 0 7), (8, .int .i64 7), (9, .int .i64 y12)] ∧ I7 n y11 y12 h') ?_ m10 ⟨0, 0, Y5 (by kernel_rfl), H9⟩
 rintro m6 _ h5 ⟨y11, y12, hle, HI8⟩
 have H := H m6 y11 y12 h5 HI8
 refine GQ.weaken _ hle ?_
 refine GQ.seq ?_
 refine GQ.region ?_
 refine SQ.p (.bool (decide ((y12 : Int) < 7))) ⟨trivial, trivial, rfl⟩ ?_
 refine SQ.nil ?_
 refine GQ.seq ?_
 rcases X1 (decide ((y12 : Int) < 7)) with hb13 | hb13
 ·have H := H.1 hb13
  refine GQ.t hb13 ?_
  refine GQ.skip ?_
  obtain ⟨J15, HR16, H⟩ := H
  refine GQ.seqJ (fun e h' => ∃ (y18 : Int) (y19 : ByteArray) (y20 : Bool), Env.le e [(0, .ref p 0 0), (2, .int .i64 y11), (4, .int .i64 y18), (5, .string y19), (7, .rsl r1 0 0 7), (8, .int .i64 7), (9, .int .i64 y12), (10, .bool (decide ((y12 : Int) < 7))), (47, .bool y20)] ∧ J15 y18 y19 y20 h') ?_ ?_
  ·skip
   refine GQ.block ?_
   refine GQ.seq ?_
   obtain ⟨r21, v22, o23, i24, x25, l26, H⟩ := H
   refine GQ.region ?_
   refine SQ.cons (av := .ref r21 v22 o23) rfl (OStep.yes rfl (HStep.ix (kk := .i64) (s := .rsl r1 0 0 7) (j := y12) (k := 1) rfl (by kernel_rfl) (by kernel_rfl) (by kernel_rfl) (by kernel_rfl) i24)) ?_
   refine SQ.y l26 ?_
   refine SQ.a (.int .i64 x25) ?_
   refine SQ.nil ?_
   refine GQ.seq ?_
   obtain ⟨t27, k28, H⟩ := H
   refine GQ.region ?_
   refine SQ.m (.int .i64 x25) ?_
   refine SQ.c [.int .i64 x25] nc1 k28 ?_
   refine SQ.a (.string t27) ?_
   refine SQ.nil ?_
   refine GQ.seq ?_
   obtain ⟨J30, HR31, H⟩ := H
   refine GQ.seqJ (fun e h' => ∃ (y33 : Bool), Env.le e [(0, .ref p 0 0), (2, .int .i64 y11), (4, .int .i64 x25), (5, .string t27), (7, .rsl r1 0 0 7), (8, .int .i64 7), (9, .int .i64 y12), (10, .bool (decide ((y12 : Int) < 7))), (47, .bool y33)] ∧ J30 y33 h') ?_ ?_
   ·skip
    obtain ⟨h34, x35, k36, x37, c38, l39, H⟩ := H
    rcases X1 ((x35 : Int) != x37) with hb40 | hb40
    ·have H := H.1 hb40
     refine GQ.draw Tryd.checked.mixed (by kernel_rfl) [.ref p 0 0, .int .u8 x35, .string t27, .int .u8 x37, .bool true, .bool true, undA, undA, undA, undA, undA, undA, undA, undA, undA, undA, undA, .bool true, .bool true, undA, undA, undA, undA, undA, undA, undA, undA, undA, undA, undA, undA, undA, .bool true] [1] [h5, h34] h34 (by kernel_rfl) (by kernel_rfl) rfl rfl ?_ ?_
     ·refine DObl.m (.ref p 0 0) ?_
      refine DObl.hv 0 (by kernel_rfl) (OStep.yes rfl (HStep.call (vs := [.ref p 0 0]) rfl (by kernel_rfl) (by kernel_rfl) nc1 k36)) ?_
      refine DObl.m (.string t27) ?_
      refine DObl.z (fun _ => (HStep.chr (kk := .i64) (s := t27) (j := 0) rfl (by kernel_rfl) (by kernel_rfl) (by kernel_rfl) c38 l39)) ?_
      refine DObl.z (fun _ => (Y0p (Y6 (av := .bool ((x35 : Int) != x37)) ⟨trivial, trivial, rfl⟩ (by kernel_rfl)) hb40)) ?_
      refine DObl.m (.bool true) ?_
      refine DObl.lite (by kernel_rfl) (fun _ => OStep.no rfl) ?_
      refine DObl.lite (by kernel_rfl) (fun _ => OStep.no rfl) ?_
      refine DObl.lite (by kernel_rfl) (fun _ => OStep.no rfl) ?_
      refine DObl.lite (by kernel_rfl) (fun _ => OStep.no rfl) ?_
      refine DObl.lite (by kernel_rfl) (fun _ => OStep.no rfl) ?_
      refine DObl.lite (by kernel_rfl) (fun _ => OStep.no rfl) ?_
      refine DObl.lite (by kernel_rfl) (fun _ => OStep.no rfl) ?_
      refine DObl.lite (by kernel_rfl) (fun _ => OStep.no rfl) ?_
      refine DObl.lite (by kernel_rfl) (fun _ => OStep.no rfl) ?_
      refine DObl.lite (by kernel_rfl) (fun _ => OStep.no rfl) ?_
      refine DObl.lite (by kernel_rfl) (fun _ => OStep.no rfl) ?_
      refine DObl.z (fun _ => (Yl (s := .bool true) rfl (by kernel_rfl) (by kernel_rfl) ⟨trivial, rfl⟩)) ?_
      refine DObl.m (.bool true) ?_
      refine DObl.lite (by kernel_rfl) (fun _ => OStep.no rfl) ?_
      refine DObl.lite (by kernel_rfl) (fun _ => OStep.no rfl) ?_
      refine DObl.lite (by kernel_rfl) (fun _ => OStep.no rfl) ?_
      refine DObl.lite (by kernel_rfl) (fun _ => OStep.no rfl) ?_
      refine DObl.lite (by kernel_rfl) (fun _ => OStep.no rfl) ?_
      refine DObl.lite (by kernel_rfl) (fun _ => OStep.no rfl) ?_
      refine DObl.lite (by kernel_rfl) (fun _ => OStep.no rfl) ?_
      refine DObl.lite (by kernel_rfl) (fun _ => OStep.no rfl) ?_
      refine DObl.lite (by kernel_rfl) (fun _ => OStep.no rfl) ?_
      refine DObl.lite (by kernel_rfl) (fun _ => OStep.no rfl) ?_
      refine DObl.lite (by kernel_rfl) (fun _ => OStep.no rfl) ?_
      refine DObl.lite (by kernel_rfl) (fun _ => OStep.no rfl) ?_
      refine DObl.lite (by kernel_rfl) (fun _ => OStep.no rfl) ?_
      refine DObl.z (fun _ => (Yl (s := .bool true) rfl (by kernel_rfl) (by kernel_rfl) ⟨trivial, rfl⟩)) ?_
      exact DObl.nil
     exact ⟨true, Y5 (by kernel_rfl), H⟩
    ·have H := H.2 hb40
     obtain ⟨f41, x42, l43, c44, t45, l46, H⟩ := H
     rcases X1 (decide ((((t45).size : Nat) : Int) ≤ (x42 + 1))) with hb47 | hb47
     ·have H := H.1 hb47
      refine GQ.draw Tryd.checked.mixed (by kernel_rfl) [.ref p 0 0, .int .u8 x35, .string t27, .int .u8 x37, .bool false, .bool false, .ref p 0 0, .ref p 0 0, .ref p 0 1, .int .i64 x42, .int .i64 (x42 + 1), .ref p 0 0, .ref p 0 0, .ref p 0 0, .string t45, .int .i64 ((t45).size : Nat), .bool true, .bool true, .bool true, undA, undA, undA, undA, undA, undA, undA, undA, undA, undA, undA, undA, undA, .bool true] [1] [h5, h34] h34 (by kernel_rfl) (by kernel_rfl) rfl rfl ?_ ?_
      ·refine DObl.m (.ref p 0 0) ?_
       refine DObl.hv 0 (by kernel_rfl) (OStep.yes rfl (HStep.call (vs := [.ref p 0 0]) rfl (by kernel_rfl) (by kernel_rfl) nc1 k36)) ?_
       refine DObl.m (.string t27) ?_
       refine DObl.z (fun _ => (HStep.chr (kk := .i64) (s := t27) (j := 0) rfl (by kernel_rfl) (by kernel_rfl) (by kernel_rfl) c38 l39)) ?_
       refine DObl.z (fun _ => (Y0c (Y6 (av := .bool ((x35 : Int) != x37)) ⟨trivial, trivial, rfl⟩ (by kernel_rfl)) hb40)) ?_
       refine DObl.m (.bool false) ?_
       refine DObl.m (.ref p 0 0) ?_
       refine DObl.y 1 (HStep.n (0) f41) ?_
       refine DObl.y 1 (HStep.f 1 (0) f41) ?_
       refine DObl.y 1 (HStep.y l43) ?_
       refine DObl.z (fun _ => (Y6 (av := .int .i64 (x42 + 1)) ⟨trivial, trivial, rfl, c44⟩ (by kernel_rfl))) ?_
       refine DObl.m (.ref p 0 0) ?_
       refine DObl.y 1 (HStep.n (0) f41) ?_
       refine DObl.y 1 (HStep.f 0 (0) f41) ?_
       refine DObl.y 1 (HStep.y l46) ?_
       refine DObl.z (fun _ => (HStep.lenS (s := t45) rfl (by kernel_rfl) (by kernel_rfl))) ?_
       refine DObl.z (fun _ => (Y0p (Y6 (av := .bool (decide ((((t45).size : Nat) : Int) ≤ (x42 + 1)))) ⟨trivial, trivial, rfl⟩ (by kernel_rfl)) hb47)) ?_
       refine DObl.z (fun _ => (Yh (s := .bool true) rfl (by kernel_rfl) (by kernel_rfl) ⟨trivial, rfl⟩)) ?_
       refine DObl.m (.bool true) ?_
       refine DObl.lite (by kernel_rfl) (fun _ => OStep.no rfl) ?_
       refine DObl.lite (by kernel_rfl) (fun _ => OStep.no rfl) ?_
       refine DObl.lite (by kernel_rfl) (fun _ => OStep.no rfl) ?_
       refine DObl.lite (by kernel_rfl) (fun _ => OStep.no rfl) ?_
       refine DObl.lite (by kernel_rfl) (fun _ => OStep.no rfl) ?_
       refine DObl.lite (by kernel_rfl) (fun _ => OStep.no rfl) ?_
       refine DObl.lite (by kernel_rfl) (fun _ => OStep.no rfl) ?_
       refine DObl.lite (by kernel_rfl) (fun _ => OStep.no rfl) ?_
       refine DObl.lite (by kernel_rfl) (fun _ => OStep.no rfl) ?_
       refine DObl.lite (by kernel_rfl) (fun _ => OStep.no rfl) ?_
       refine DObl.lite (by kernel_rfl) (fun _ => OStep.no rfl) ?_
       refine DObl.lite (by kernel_rfl) (fun _ => OStep.no rfl) ?_
       refine DObl.lite (by kernel_rfl) (fun _ => OStep.no rfl) ?_
       refine DObl.z (fun _ => (Yl (s := .bool true) rfl (by kernel_rfl) (by kernel_rfl) ⟨trivial, rfl⟩)) ?_
       exact DObl.nil
      exact ⟨true, Y5 (by kernel_rfl), H⟩
     ·have H := H.2 hb47
      obtain ⟨x48, c49, l50, x51, c52, l53, H⟩ := H
      refine GQ.draw Tryd.checked.mixed (by kernel_rfl) [.ref p 0 0, .int .u8 x35, .string t27, .int .u8 x37, .bool false, .bool false, .ref p 0 0, .ref p 0 0, .ref p 0 1, .int .i64 x42, .int .i64 (x42 + 1), .ref p 0 0, .ref p 0 0, .ref p 0 0, .string t45, .int .i64 ((t45).size : Nat), .bool false, .bool false, .bool false, .ref p 0 0, .ref p 0 0, .ref p 0 0, .string t45, .ref p 0 0, .ref p 0 0, .ref p 0 1, .int .i64 x42, .int .i64 (x42 + 1), .int .u8 x48, .string t27, .int .u8 x51, .bool ((x48 : Int) != x51), .bool ((x48 : Int) != x51)] [1] [h5, h34] h34 (by kernel_rfl) (by kernel_rfl) rfl rfl ?_ ?_
      ·refine DObl.m (.ref p 0 0) ?_
       refine DObl.hv 0 (by kernel_rfl) (OStep.yes rfl (HStep.call (vs := [.ref p 0 0]) rfl (by kernel_rfl) (by kernel_rfl) nc1 k36)) ?_
       refine DObl.m (.string t27) ?_
       refine DObl.z (fun _ => (HStep.chr (kk := .i64) (s := t27) (j := 0) rfl (by kernel_rfl) (by kernel_rfl) (by kernel_rfl) c38 l39)) ?_
       refine DObl.z (fun _ => (Y0c (Y6 (av := .bool ((x35 : Int) != x37)) ⟨trivial, trivial, rfl⟩ (by kernel_rfl)) hb40)) ?_
       refine DObl.m (.bool false) ?_
       refine DObl.m (.ref p 0 0) ?_
       refine DObl.y 1 (HStep.n (0) f41) ?_
       refine DObl.y 1 (HStep.f 1 (0) f41) ?_
       refine DObl.y 1 (HStep.y l43) ?_
       refine DObl.z (fun _ => (Y6 (av := .int .i64 (x42 + 1)) ⟨trivial, trivial, rfl, c44⟩ (by kernel_rfl))) ?_
       refine DObl.m (.ref p 0 0) ?_
       refine DObl.y 1 (HStep.n (0) f41) ?_
       refine DObl.y 1 (HStep.f 0 (0) f41) ?_
       refine DObl.y 1 (HStep.y l46) ?_
       refine DObl.z (fun _ => (HStep.lenS (s := t45) rfl (by kernel_rfl) (by kernel_rfl))) ?_
       refine DObl.z (fun _ => (Y0c (Y6 (av := .bool (decide ((((t45).size : Nat) : Int) ≤ (x42 + 1)))) ⟨trivial, trivial, rfl⟩ (by kernel_rfl)) hb47)) ?_
       refine DObl.z (fun _ => (Yh (s := .bool false) rfl (by kernel_rfl) (by kernel_rfl) ⟨trivial, rfl⟩)) ?_
       refine DObl.m (.bool false) ?_
       refine DObl.m (.ref p 0 0) ?_
       refine DObl.y 1 (HStep.n (0) f41) ?_
       refine DObl.y 1 (HStep.f 0 (0) f41) ?_
       refine DObl.y 1 (HStep.y l46) ?_
       refine DObl.m (.ref p 0 0) ?_
       refine DObl.y 1 (HStep.n (0) f41) ?_
       refine DObl.y 1 (HStep.f 1 (0) f41) ?_
       refine DObl.y 1 (HStep.y l43) ?_
       refine DObl.z (fun _ => (Y6 (av := .int .i64 (x42 + 1)) ⟨trivial, trivial, rfl, c44⟩ (by kernel_rfl))) ?_
       refine DObl.z (fun _ => (HStep.chr (kk := .i64) (s := t45) (j := x42 + 1) rfl (by kernel_rfl) (by kernel_rfl) (by kernel_rfl) c49 l50)) ?_
       refine DObl.m (.string t27) ?_
       refine DObl.z (fun _ => (HStep.chr (kk := .i64) (s := t27) (j := 1) rfl (by kernel_rfl) (by kernel_rfl) (by kernel_rfl) c52 l53)) ?_
       refine DObl.z (fun _ => (Y6 (av := .bool ((x48 : Int) != x51)) ⟨trivial, trivial, rfl⟩ (by kernel_rfl))) ?_
       refine DObl.z (fun _ => (Yh (s := .bool ((x48 : Int) != x51)) rfl (by kernel_rfl) (by kernel_rfl) ⟨trivial, rfl⟩)) ?_
       exact DObl.nil
      exact ⟨((x48 : Int) != x51), Y5 (by kernel_rfl), H⟩
   clear H
   rintro _ h29 ⟨y33, hle, HJ32⟩
   have H := HR31 y33 h29 HJ32
   refine GQ.weaken _ hle ?_
   rcases X1 (y33) with hb54 | hb54
   ·have H := H.1 hb54
    refine GQ.t hb54 ?_
    refine GQ.exit ?_
    exact ⟨x25, t27, y33, Y5 (by kernel_rfl), H⟩
   ·have H := H.2 hb54
    refine GQ.g hb54 ?_
    refine GQ.skip ?_
    refine GQ.seq ?_
    refine GQ.seq ?_
    refine GQ.region ?_
    refine SQ.m (.string t27) ?_
    refine SQ.cons (av := .int .i64 ((t27).size : Nat)) rfl (OStep.yes rfl (HStep.lenS (s := t27) rfl (by kernel_rfl) (by kernel_rfl))) ?_
    refine SQ.m (.int .i64 0) ?_
    refine SQ.nil ?_
    refine GQ.block ?_
    obtain ⟨I57, ⟨m60, H59⟩, H⟩ := H
    refine GQ.loop (fun n e h' => ∃ (y61 : Int), Env.le e [(0, .ref p 0 0), (2, .int .i64 y11), (4, .int .i64 x25), (5, .string t27), (7, .rsl r1 0 0 7), (8, .int .i64 7), (9, .int .i64 y12), (10, .bool (decide ((y12 : Int) < 7))), (47, .bool y33), (49, .int .i64 ((t27).size : Nat)), (50, .int .i64 y61)] ∧ I57 n y61 h') ?_ m60 ⟨0, Y5 (by kernel_rfl), H59⟩
    rintro m56 _ h55 ⟨y61, hle, HI58⟩
    have H := H m56 y61 h55 HI58
    refine GQ.weaken _ hle ?_
    refine GQ.seq ?_
    refine GQ.region ?_
    refine SQ.p (.bool (decide ((y61 : Int) < ((t27).size : Nat)))) ⟨trivial, trivial, rfl⟩ ?_
    refine SQ.nil ?_
    refine GQ.seq ?_
    rcases X1 (decide ((y61 : Int) < ((t27).size : Nat))) with hb62 | hb62
    ·have H := H.1 hb62
     refine GQ.t hb62 ?_
     refine GQ.skip ?_
     refine GQ.seq ?_
     refine GQ.block ?_
     refine GQ.seq ?_
     refine GQ.region ?_
     refine SQ.m (.int .i64 y61) ?_
     refine SQ.a (.int .i64 y61) ?_
     refine SQ.nil ?_
     obtain ⟨x63, c64, l65, H⟩ := H
     rcases H with H | H
     ·skip
      obtain ⟨h69, k70, H⟩ := H
      refine GQ.region ?_
      refine SQ.m (.ref p 0 0) ?_
      refine SQ.m (.string t27) ?_
      refine SQ.m (.int .i64 y61) ?_
      refine SQ.cons (av := .int .u8 x63) rfl (OStep.yes rfl (HStep.chr (kk := .i64) (s := t27) (j := y61) rfl (by kernel_rfl) (by kernel_rfl) (by kernel_rfl) c64 l65)) ?_
      refine SQ.c [.ref p 0 0, .int .u8 x63] nc2 k70 ?_
      refine SQ.nil ?_
      obtain ⟨c71, H⟩ := H
      refine GQ.region ?_
      refine SQ.p (.int .i64 (y61 + 1)) ⟨trivial, trivial, rfl, c71⟩ ?_
      refine SQ.m (.int .i64 (y61 + 1)) ?_
      refine SQ.nil ?_
      obtain ⟨m72, hl73, H⟩ := H
      exact ⟨m72, hl73, (y61 + 1), Y5 (by kernel_rfl), H⟩
     ·skip
      obtain ⟨h66, ch67, k68, H⟩ := H
      refine GQ.region ?_
      refine SQ.m (.ref p 0 0) ?_
      refine SQ.m (.string t27) ?_
      refine SQ.m (.int .i64 y61) ?_
      refine SQ.cons (av := .int .u8 x63) rfl (OStep.yes rfl (HStep.chr (kk := .i64) (s := t27) (j := y61) rfl (by kernel_rfl) (by kernel_rfl) (by kernel_rfl) c64 l65)) ?_
      refine Y1n (OPan.yes rfl (HPan.call (vs := [.ref p 0 0, .int .u8 x63]) rfl (by kernel_rfl) (by kernel_rfl) nc2 k68)) ?_
      exact H
    ·have H := H.2 hb62
     refine GQ.g hb62 ?_
     refine GQ.exit ?_
     refine GQ.seq ?_
     rcases H with H | H
     ·skip
      obtain ⟨h77, k78, H⟩ := H
      refine GQ.region ?_
      refine SQ.m (.ref p 0 0) ?_
      refine SQ.c [.ref p 0 0, .int .u8 40] nc2 k78 ?_
      refine SQ.nil ?_
      refine GQ.seq ?_
      refine GQ.region ?_
      refine SQ.m (.int .i64 x25) ?_
      refine SQ.a (.int .i64 x25) ?_
      refine SQ.nil ?_
      refine GQ.ret ?_
      exact EndK.ret (Qp := Qp) rfl H
     ·skip
      obtain ⟨h74, ch75, k76, H⟩ := H
      refine GQ.region ?_
      refine SQ.m (.ref p 0 0) ?_
      refine Y1n (OPan.yes rfl (HPan.call (vs := [.ref p 0 0, .int .u8 40]) rfl (by kernel_rfl) (by kernel_rfl) nc2 k76)) ?_
      exact H
  clear H
  rintro _ h14 ⟨y18, y19, y20, hle, HJ17⟩
  have H := HR16 y18 y19 y20 h14 HJ17
  refine GQ.weaken _ hle ?_
  obtain ⟨c79, H⟩ := H
  refine GQ.region ?_
  refine SQ.p (.int .i64 (y12 + 1)) ⟨trivial, trivial, rfl, c79⟩ ?_
  refine SQ.m (.int .i64 (y12 + 1)) ?_
  refine SQ.nil ?_
  obtain ⟨m80, hl81, H⟩ := H
  exact ⟨m80, hl81, y11, (y12 + 1), Y5 (by kernel_rfl), H⟩
 ·have H := H.2 hb13
  refine GQ.g hb13 ?_
  refine GQ.exit ?_
  refine GQ.seq ?_
  obtain ⟨f82, x83, l84, c85, h86, w87, H⟩ := H
  refine GQ.region ?_
  refine SQ.m (.ref p 0 0) ?_
  refine SQ.n (0) f82 ?_
  refine SQ.f 1 (0) f82 ?_
  refine SQ.y l84 ?_
  refine SQ.p (.int .i64 (x83 + 1)) ⟨trivial, trivial, rfl, c85⟩ ?_
  refine SQ.n (0) f82 ?_
  refine SQ.f 1 (0) f82 ?_
  refine SQ.cons (av := .any) rfl (OStep.yes rfl (Y9 (r := p) (ver := 0) (off := 1) (n := 1) (v := .int .i64 (x83 + 1)) rfl (by kernel_rfl) (by kernel_rfl) (by kernel_rfl) ⟨trivial, rfl⟩ (by kernel_rfl) w87)) ?_
  refine SQ.nil ?_
  refine GQ.seq ?_
  refine GQ.region ?_
  refine SQ.a (.int .i64 1) ?_
  refine SQ.nil ?_
  refine GQ.ret ?_
  exact EndK.ret (Qp := Qp) rfl H
def pre_begin (h : Hp) (p : Nat) (Q : Hp → AV → Prop) (Qp : Hp → List PanicEntry → Prop) : Prop :=
 ∃ (I3 : Nat → Hp → Prop), (∃ m6 : Nat, I3 m6 h) ∧ ∀ (m2 : Nat)  (h1 : Hp), I3 m2 h1 → (∃ (h7 : Hp), ∃ (x8 : Int), (CallOK Tryd.prog 59 [.ref p 0 0] h1 h7 (.int .u8 x8)) ∧ (((decide ((48 : Int) ≤ x8)) = true → (((decide ((x8 : Int) ≤ 57)) = true → ((∃ (h15 : Hp), ∃ (x16 : Int), (CallOK Tryd.prog 61 [.ref p 0 0] h7 h15 (.int .i64 x16)) ∧ ∃ (h18 : Hp), (CallOK Tryd.prog 60 [.ref p 0 0, .int .i64 x16] h15 h18 (.tup [])) ∧ (Q h18 (.tup []))) ∨ (∃ (h12 : Hp), ∃ (ch13 : List PanicEntry), (Yp Tryd.prog 61 [.ref p 0 0] h7 h12 ch13) ∧ (Qp h12 ch13)))) ∧ ((decide ((x8 : Int) ≤ 57)) = false → ((((x8 : Int) == 40) = true → (Has h7 p 0) ∧ ∃ (x22 : Int), (Ld h7 p 0 1 (.int .i64 x22)) ∧ (okA .i64 (x22 + 1 : Int)) ∧ ∃ (h25 : Hp), (St h7 p 0 1 (.int .i64 (x22 + 1)) h25) ∧ (Has h25 p 0) ∧ ∃ (s28 : AV), (NC s28) ∧ (Ld h25 p 0 3 s28) ∧ ∃ (r31 : Nat), ∃ (h32 : Hp), (Nw h25 r31 ⟨0, true, 57, 7, [.int .i64 10, .im (.val (.slice none 0 0)), .im (.val (.slice none 0 0)), .im (.val (.slice none 0 0)), .int .i64 0, .int .i64 0, .int .i64 0]⟩ h32) ∧ ∃ (h34 : Hp), ∃ (s36 : AV), (NC s36) ∧ (App h32 s28 57 7 104 1 [.int .i64 10, .im (.val (.slice none 0 0)), .im (.val (.slice none 0 0)), .im (.val (.slice none 0 0)), .int .i64 0, .int .i64 0, .int .i64 0] h34 s36) ∧ (Has h34 p 0) ∧ (oneA h34 s36) ∧ ∃ (h39 : Hp), (St h34 p 0 3 s36 h39) ∧ (∃ m42 : Nat, m42 < m2 ∧ I3 m42 h39)) ∧ (((x8 : Int) == 40) = false → (((decide ((97 : Int) ≤ x8)) = true → (((decide ((x8 : Int) ≤ 122)) = true → ((∃ (h49 : Hp), ∃ (x50 : Int), (CallOK Tryd.prog 62 [.ref p 0 0] h7 h49 (.int .i64 x50)) ∧ ((((x50 : Int) == 1) = true → ∃ (h53 : Hp), ∃ (x54 : Int), (CallOK Tryd.prog 63 [.ref p 0 0, .int .i64 1, .int .i64 (IntKind.wrap .i64 (nw .u8 (x8 - 97 : Int))), .im (.val (.slice none 0 0))] h49 h53 (.int .i64 x54)) ∧ ∃ (h56 : Hp), (CallOK Tryd.prog 60 [.ref p 0 0, .int .i64 x54] h53 h56 (.tup [])) ∧ (Q h56 (.tup []))) ∧ (((x50 : Int) == 1) = false → ((((x50 : Int) == 12) = true → ((∃ (h62 : Hp), ∃ (x63 : Int), (CallOK Tryd.prog 64 [.ref p 0 0] h49 h62 (.int .i64 x63)) ∧ ∃ (h65 : Hp), (CallOK Tryd.prog 60 [.ref p 0 0, .int .i64 x63] h62 h65 (.tup [])) ∧ (Q h65 (.tup []))) ∨ (∃ (h59 : Hp), ∃ (ch60 : List PanicEntry), (Yp Tryd.prog 64 [.ref p 0 0] h49 h59 ch60) ∧ (Qp h59 ch60)))) ∧ (((x50 : Int) == 12) = false → (Has h49 p 0) ∧ ∃ (s68 : AV), (NC s68) ∧ (Ld h49 p 0 3 s68) ∧ ∃ (r71 : Nat), ∃ (h72 : Hp), (Nw h49 r71 ⟨0, true, 57, 7, [.int .i64 x50, .im (.val (.slice none 0 0)), .im (.val (.slice none 0 0)), .im (.val (.slice none 0 0)), .int .i64 0, .int .i64 0, .int .i64 0]⟩ h72) ∧ ∃ (h74 : Hp), ∃ (s76 : AV), (NC s76) ∧ (App h72 s68 57 7 104 1 [.int .i64 x50, .im (.val (.slice none 0 0)), .im (.val (.slice none 0 0)), .im (.val (.slice none 0 0)), .int .i64 0, .int .i64 0, .int .i64 0] h74 s76) ∧ (Has h74 p 0) ∧ (oneA h74 s76) ∧ ∃ (h79 : Hp), (St h74 p 0 3 s76 h79) ∧ (∃ m82 : Nat, m82 < m2 ∧ I3 m82 h79)))))) ∨ (∃ (h46 : Hp), ∃ (ch47 : List PanicEntry), (Yp Tryd.prog 62 [.ref p 0 0] h7 h46 ch47) ∧ (Qp h46 ch47)))) ∧ ((decide ((x8 : Int) ≤ 122)) = false → ((∃ (h87 : Hp), (CallOK Tryd.prog 65 [.ref p 0 0] h7 h87 (.tup [])) ∧ (∃ m89 : Nat, m89 < m2 ∧ I3 m89 h87)) ∨ (∃ (h84 : Hp), ∃ (ch85 : List PanicEntry), (Yp Tryd.prog 65 [.ref p 0 0] h7 h84 ch85) ∧ (Qp h84 ch85)))))) ∧ ((decide ((97 : Int) ≤ x8)) = false → ((∃ (h94 : Hp), (CallOK Tryd.prog 65 [.ref p 0 0] h7 h94 (.tup [])) ∧ (∃ m96 : Nat, m96 < m2 ∧ I3 m96 h94)) ∨ (∃ (h91 : Hp), ∃ (ch92 : List PanicEntry), (Yp Tryd.prog 65 [.ref p 0 0] h7 h91 ch92) ∧ (Qp h91 ch92)))))))))) ∧ ((decide ((48 : Int) ≤ x8)) = false → ((((x8 : Int) == 40) = true → (Has h7 p 0) ∧ ∃ (x100 : Int), (Ld h7 p 0 1 (.int .i64 x100)) ∧ (okA .i64 (x100 + 1 : Int)) ∧ ∃ (h103 : Hp), (St h7 p 0 1 (.int .i64 (x100 + 1)) h103) ∧ (Has h103 p 0) ∧ ∃ (s106 : AV), (NC s106) ∧ (Ld h103 p 0 3 s106) ∧ ∃ (r109 : Nat), ∃ (h110 : Hp), (Nw h103 r109 ⟨0, true, 57, 7, [.int .i64 10, .im (.val (.slice none 0 0)), .im (.val (.slice none 0 0)), .im (.val (.slice none 0 0)), .int .i64 0, .int .i64 0, .int .i64 0]⟩ h110) ∧ ∃ (h112 : Hp), ∃ (s114 : AV), (NC s114) ∧ (App h110 s106 57 7 104 1 [.int .i64 10, .im (.val (.slice none 0 0)), .im (.val (.slice none 0 0)), .im (.val (.slice none 0 0)), .int .i64 0, .int .i64 0, .int .i64 0] h112 s114) ∧ (Has h112 p 0) ∧ (oneA h112 s114) ∧ ∃ (h117 : Hp), (St h112 p 0 3 s114 h117) ∧ (∃ m120 : Nat, m120 < m2 ∧ I3 m120 h117)) ∧ (((x8 : Int) == 40) = false → (((decide ((97 : Int) ≤ x8)) = true → (((decide ((x8 : Int) ≤ 122)) = true → ((∃ (h127 : Hp), ∃ (x128 : Int), (CallOK Tryd.prog 62 [.ref p 0 0] h7 h127 (.int .i64 x128)) ∧ ((((x128 : Int) == 1) = true → ∃ (h131 : Hp), ∃ (x132 : Int), (CallOK Tryd.prog 63 [.ref p 0 0, .int .i64 1, .int .i64 (IntKind.wrap .i64 (nw .u8 (x8 - 97 : Int))), .im (.val (.slice none 0 0))] h127 h131 (.int .i64 x132)) ∧ ∃ (h134 : Hp), (CallOK Tryd.prog 60 [.ref p 0 0, .int .i64 x132] h131 h134 (.tup [])) ∧ (Q h134 (.tup []))) ∧ (((x128 : Int) == 1) = false → ((((x128 : Int) == 12) = true → ((∃ (h140 : Hp), ∃ (x141 : Int), (CallOK Tryd.prog 64 [.ref p 0 0] h127 h140 (.int .i64 x141)) ∧ ∃ (h143 : Hp), (CallOK Tryd.prog 60 [.ref p 0 0, .int .i64 x141] h140 h143 (.tup [])) ∧ (Q h143 (.tup []))) ∨ (∃ (h137 : Hp), ∃ (ch138 : List PanicEntry), (Yp Tryd.prog 64 [.ref p 0 0] h127 h137 ch138) ∧ (Qp h137 ch138)))) ∧ (((x128 : Int) == 12) = false → (Has h127 p 0) ∧ ∃ (s146 : AV), (NC s146) ∧ (Ld h127 p 0 3 s146) ∧ ∃ (r149 : Nat), ∃ (h150 : Hp), (Nw h127 r149 ⟨0, true, 57, 7, [.int .i64 x128, .im (.val (.slice none 0 0)), .im (.val (.slice none 0 0)), .im (.val (.slice none 0 0)), .int .i64 0, .int .i64 0, .int .i64 0]⟩ h150) ∧ ∃ (h152 : Hp), ∃ (s154 : AV), (NC s154) ∧ (App h150 s146 57 7 104 1 [.int .i64 x128, .im (.val (.slice none 0 0)), .im (.val (.slice none 0 0)), .im (.val (.slice none 0 0)), .int .i64 0, .int .i64 0, .int .i64 0] h152 s154) ∧ (Has h152 p 0) ∧ (oneA h152 s154) ∧ ∃ (h157 : Hp), (St h152 p 0 3 s154 h157) ∧ (∃ m160 : Nat, m160 < m2 ∧ I3 m160 h157)))))) ∨ (∃ (h124 : Hp), ∃ (ch125 : List PanicEntry), (Yp Tryd.prog 62 [.ref p 0 0] h7 h124 ch125) ∧ (Qp h124 ch125)))) ∧ ((decide ((x8 : Int) ≤ 122)) = false → ((∃ (h165 : Hp), (CallOK Tryd.prog 65 [.ref p 0 0] h7 h165 (.tup [])) ∧ (∃ m167 : Nat, m167 < m2 ∧ I3 m167 h165)) ∨ (∃ (h162 : Hp), ∃ (ch163 : List PanicEntry), (Yp Tryd.prog 65 [.ref p 0 0] h7 h162 ch163) ∧ (Qp h162 ch163)))))) ∧ ((decide ((97 : Int) ≤ x8)) = false → ((∃ (h172 : Hp), (CallOK Tryd.prog 65 [.ref p 0 0] h7 h172 (.tup [])) ∧ (∃ m174 : Nat, m174 < m2 ∧ I3 m174 h172)) ∨ (∃ (h169 : Hp), ∃ (ch170 : List PanicEntry), (Yp Tryd.prog 65 [.ref p 0 0] h7 h169 ch170) ∧ (Qp h169 ch170))))))))))
theorem w_begin {h : Hp} {p : Nat} {Q : Hp → AV → Prop} {Qp : Hp → List PanicEntry → Prop}  (H : pre_begin h p Q Qp) : FnO Tryd.prog 49 [.ref p 0 0] h Q Qp := by
 unfold pre_begin at H
 refine FnO.mk Tryd.func49 rfl (Xc (by kernel_rfl)) ?_
 refine GQ.E [(0, .ref p 0 0)] ?_
 refine GQ.block ?_
 obtain ⟨I3, ⟨m6, H5⟩, H⟩ := H
 refine GQ.loop (fun n e h' => Env.le e [(0, .ref p 0 0)] ∧ I3 n h') ?_ m6 ⟨Y5 (by kernel_rfl), H5⟩
 rintro m2 _ h1 ⟨hle, HI4⟩
 have H := H m2 h1 HI4
 refine GQ.weaken _ hle ?_
 refine GQ.block ?_
 refine GQ.seq ?_
 obtain ⟨h7, x8, k9, H⟩ := H
 refine GQ.region ?_
 refine SQ.m (.ref p 0 0) ?_
 refine SQ.c [.ref p 0 0] nc1 k9 ?_
 refine SQ.a (.int .u8 x8) ?_
 refine SQ.nil ?_
 refine GQ.block ?_
 refine GQ.seq ?_
 rcases X1 (decide ((48 : Int) ≤ x8)) with hb10 | hb10
 ·have H := H.1 hb10
  refine GQ.region ?_
  refine SQ.m (.int .u8 x8) ?_
  refine SQ.cons (av := .bool true) rfl (OStep.yes rfl (Y0p (Y6 (av := .bool (decide ((48 : Int) ≤ x8))) ⟨trivial, trivial, rfl⟩ (by kernel_rfl)) hb10)) ?_
  refine SQ.m (.bool true) ?_
  refine SQ.m (.int .u8 x8) ?_
  refine SQ.p (.bool (decide ((x8 : Int) ≤ 57))) ⟨trivial, trivial, rfl⟩ ?_
  refine SQ.cons (av := .bool (decide ((x8 : Int) ≤ 57))) rfl (OStep.yes rfl (Yl (s := .bool (decide ((x8 : Int) ≤ 57))) rfl (by kernel_rfl) (by kernel_rfl) ⟨trivial, rfl⟩)) ?_
  refine SQ.a (.bool (decide ((x8 : Int) ≤ 57))) ?_
  refine SQ.nil ?_
  rcases X1 (decide ((x8 : Int) ≤ 57)) with hb11 | hb11
  ·have H := H.1 hb11
   refine GQ.t hb11 ?_
   refine GQ.seq ?_
   rcases H with H | H
   ·skip
    obtain ⟨h15, x16, k17, h18, k19, H⟩ := H
    refine GQ.region ?_
    refine SQ.m (.ref p 0 0) ?_
    refine SQ.m (.ref p 0 0) ?_
    refine SQ.c [.ref p 0 0] nc1 k17 ?_
    refine SQ.c [.ref p 0 0, .int .i64 x16] nc2 k19 ?_
    refine SQ.nil ?_
    refine GQ.ret ?_
    exact EndK.ret (Qp := Qp) rfl H
   ·skip
    obtain ⟨h12, ch13, k14, H⟩ := H
    refine GQ.region ?_
    refine SQ.m (.ref p 0 0) ?_
    refine SQ.m (.ref p 0 0) ?_
    refine Y1n (OPan.yes rfl (HPan.call (vs := [.ref p 0 0]) rfl (by kernel_rfl) (by kernel_rfl) nc1 k14)) ?_
    exact H
  ·have H := H.2 hb11
   refine GQ.g hb11 ?_
   refine GQ.seq ?_
   refine GQ.region ?_
   refine SQ.m (.int .u8 x8) ?_
   refine SQ.p (.bool ((x8 : Int) == 40)) ⟨trivial, trivial, rfl⟩ ?_
   refine SQ.a (.bool ((x8 : Int) == 40)) ?_
   refine SQ.nil ?_
   rcases X1 ((x8 : Int) == 40) with hb20 | hb20
   ·have H := H.1 hb20
    refine GQ.t hb20 ?_
    refine GQ.seq ?_
    obtain ⟨f21, x22, l23, c24, h25, w26, H⟩ := H
    refine GQ.region ?_
    refine SQ.m (.ref p 0 0) ?_
    refine SQ.n (0) f21 ?_
    refine SQ.f 1 (0) f21 ?_
    refine SQ.y l23 ?_
    refine SQ.p (.int .i64 (x22 + 1)) ⟨trivial, trivial, rfl, c24⟩ ?_
    refine SQ.n (0) f21 ?_
    refine SQ.f 1 (0) f21 ?_
    refine SQ.cons (av := .any) rfl (OStep.yes rfl (Y9 (r := p) (ver := 0) (off := 1) (n := 1) (v := .int .i64 (x22 + 1)) rfl (by kernel_rfl) (by kernel_rfl) (by kernel_rfl) ⟨trivial, rfl⟩ (by kernel_rfl) w26)) ?_
    refine SQ.nil ?_
    obtain ⟨f27, s28, n29, l30, r31, h32, w33, h34, s36, n37, w35, f38, f41, h39, w40, H⟩ := H
    refine GQ.region ?_
    refine SQ.m (.ref p 0 0) ?_
    refine SQ.m (.ref p 0 0) ?_
    refine SQ.n (0) f27 ?_
    refine SQ.f 3 (0) f27 ?_
    refine SQ.y l30 ?_
    refine SQ.cons (av := .agg [.int .i64 10, .im (.val (.slice none 0 0)), .im (.val (.slice none 0 0)), .im (.val (.slice none 0 0)), .int .i64 0, .int .i64 0, .int .i64 0]) rfl (OStep.yes rfl (HStep.bld (rs := [(0, [.int .i64 10])]) (z := [.int .i64 0, .slice none 0 0, .slice none 0 0, .slice none 0 0, .int .i64 0, .int .i64 0, .int .i64 0]) (fs := [(0, 1), (1, 1), (2, 1), (3, 1), (4, 1), (5, 1), (6, 1)]) (qs := [(0, .int .i64 10)]) (cs := [.int .i64 10, .im (.val (.slice none 0 0)), .im (.val (.slice none 0 0)), .im (.val (.slice none 0 0)), .int .i64 0, .int .i64 0, .int .i64 0]) rfl (by kernel_rfl) (by kernel_rfl) (by kernel_rfl) (by simp only [X5, X4, or_false, forall_eq]; exact ⟨⟨trivial, rfl⟩, Y2l rfl⟩) (CL.cons rfl (CL.nil)) (by kernel_rfl))) ?_
    refine SQ.cons (av := .rsl r31 0 0 1) rfl (OStep.yes rfl (HStep.build (qs := [(0, .agg [.int .i64 10, .im (.val (.slice none 0 0)), .im (.val (.slice none 0 0)), .im (.val (.slice none 0 0)), .int .i64 0, .int .i64 0, .int .i64 0])]) (cs := [.int .i64 10, .im (.val (.slice none 0 0)), .im (.val (.slice none 0 0)), .im (.val (.slice none 0 0)), .int .i64 0, .int .i64 0, .int .i64 0]) (r := r31) rfl (Y8 (P := Tryd.prog) (t := 58) (e := 57) (k := 7) (bytes := 104) (z := [.int .i64 0, .slice none 0 0, .slice none 0 0, .slice none 0 0, .int .i64 0, .int .i64 0, .int .i64 0]) (by kernel_rfl)) (by decide) (by kernel_rfl) (by simp only [X5, X4, or_false, forall_eq]; exact ⟨⟨trivial, rfl⟩, (okC_agg (by simp only [X5, X4, or_false, forall_eq_or_imp, forall_eq]; exact ⟨rfl, rfl, rfl, rfl, rfl, rfl, rfl⟩))⟩) (by kernel_rfl) (by simp only [X5, X4, or_false, forall_eq_or_imp, forall_eq]; exact ⟨rfl, rfl, rfl, rfl, rfl, rfl, rfl⟩) rfl w33)) ?_
    refine SQ.cons (av := s36) rfl (OStep.yes rfl (HStep.app (sv := s28) (xv := .rsl r31 0 0 1) (news := [.int .i64 10, .im (.val (.slice none 0 0)), .im (.val (.slice none 0 0)), .im (.val (.slice none 0 0)), .int .i64 0, .int .i64 0, .int .i64 0]) rfl (Y8 (P := Tryd.prog) (t := 58) (e := 57) (k := 7) (bytes := 104) (z := [.int .i64 0, .slice none 0 0, .slice none 0 0, .slice none 0 0, .int .i64 0, .int .i64 0, .int .i64 0]) (by kernel_rfl)) (by kernel_rfl) (by kernel_rfl) trivial (SrcA.rsl (m := 1) (by kernel_rfl) (Nw.at w33) rfl rfl rfl (Xc rfl)) w35)) ?_
    refine SQ.n (0) f38 ?_
    refine SQ.f 3 (0) f38 ?_
    refine SQ.cons (av := .any) rfl (OStep.yes rfl (Y9 (r := p) (ver := 0) (off := 3) (n := 1) (v := s36) rfl (by kernel_rfl) (by kernel_rfl) (by kernel_rfl) n37 (Y09 f41) w40)) ?_
    refine SQ.nil ?_
    obtain ⟨m42, hl43, H⟩ := H
    exact ⟨m42, hl43, Y5 (by kernel_rfl), H⟩
   ·have H := H.2 hb20
    refine GQ.g hb20 ?_
    refine GQ.seq ?_
    rcases X1 (decide ((97 : Int) ≤ x8)) with hb44 | hb44
    ·have H := H.1 hb44
     refine GQ.region ?_
     refine SQ.m (.int .u8 x8) ?_
     refine SQ.cons (av := .bool true) rfl (OStep.yes rfl (Y0p (Y6 (av := .bool (decide ((97 : Int) ≤ x8))) ⟨trivial, trivial, rfl⟩ (by kernel_rfl)) hb44)) ?_
     refine SQ.m (.bool true) ?_
     refine SQ.m (.int .u8 x8) ?_
     refine SQ.p (.bool (decide ((x8 : Int) ≤ 122))) ⟨trivial, trivial, rfl⟩ ?_
     refine SQ.cons (av := .bool (decide ((x8 : Int) ≤ 122))) rfl (OStep.yes rfl (Yl (s := .bool (decide ((x8 : Int) ≤ 122))) rfl (by kernel_rfl) (by kernel_rfl) ⟨trivial, rfl⟩)) ?_
     refine SQ.a (.bool (decide ((x8 : Int) ≤ 122))) ?_
     refine SQ.nil ?_
     rcases X1 (decide ((x8 : Int) ≤ 122)) with hb45 | hb45
     ·have H := H.1 hb45
      refine GQ.t hb45 ?_
      refine GQ.seq ?_
      rcases H with H | H
      ·skip
       obtain ⟨h49, x50, k51, H⟩ := H
       refine GQ.region ?_
       refine SQ.m (.ref p 0 0) ?_
       refine SQ.c [.ref p 0 0] nc1 k51 ?_
       refine SQ.a (.int .i64 x50) ?_
       refine SQ.nil ?_
       refine GQ.seq ?_
       refine GQ.seq ?_
       refine GQ.region ?_
       refine SQ.m (.int .i64 x50) ?_
       refine SQ.p (.bool ((x50 : Int) == 1)) ⟨trivial, trivial, rfl⟩ ?_
       refine SQ.nil ?_
       rcases X1 ((x50 : Int) == 1) with hb52 | hb52
       ·have H := H.1 hb52
        refine GQ.t hb52 ?_
        refine GQ.seq ?_
        obtain ⟨h53, x54, k55, h56, k57, H⟩ := H
        refine GQ.region ?_
        refine SQ.m (.ref p 0 0) ?_
        refine SQ.m (.ref p 0 0) ?_
        refine SQ.m (.int .u8 x8) ?_
        refine SQ.p (.int .u8 (nw .u8 (x8 - 97 : Int))) ⟨trivial, trivial, rfl, trivial⟩ ?_
        refine SQ.cons (av := .int .i64 (IntKind.wrap .i64 (nw .u8 (x8 - 97 : Int)))) rfl (OStep.yes rfl (HStep.cnv (k := .u8) (kd := .i64) (n := nw .u8 (x8 - 97 : Int)) (av := .int .i64 (IntKind.wrap .i64 (nw .u8 (x8 - 97 : Int)))) rfl (by kernel_rfl) (by kernel_rfl) (by kernel_rfl) (by kernel_rfl))) ?_
        refine SQ.c [.ref p 0 0, .int .i64 1, .int .i64 (IntKind.wrap .i64 (nw .u8 (x8 - 97 : Int))), .im (.val (.slice none 0 0))] (by simp only [X5, X4, or_false, forall_eq_or_imp, forall_eq]; exact ⟨⟨trivial, rfl⟩, ⟨trivial, rfl⟩, ⟨trivial, rfl⟩, ⟨trivial, rfl⟩⟩) k55 ?_
        refine SQ.c [.ref p 0 0, .int .i64 x54] nc2 k57 ?_
        refine SQ.nil ?_
        refine GQ.ret ?_
        exact EndK.ret (Qp := Qp) rfl H
       ·have H := H.2 hb52
        refine GQ.g hb52 ?_
        refine GQ.skip ?_
        refine GQ.seq ?_
        refine GQ.seq ?_
        refine GQ.region ?_
        refine SQ.m (.int .i64 x50) ?_
        refine SQ.p (.bool ((x50 : Int) == 12)) ⟨trivial, trivial, rfl⟩ ?_
        refine SQ.nil ?_
        rcases X1 ((x50 : Int) == 12) with hb58 | hb58
        ·have H := H.1 hb58
         refine GQ.t hb58 ?_
         refine GQ.seq ?_
         rcases H with H | H
         ·skip
          obtain ⟨h62, x63, k64, h65, k66, H⟩ := H
          refine GQ.region ?_
          refine SQ.m (.ref p 0 0) ?_
          refine SQ.m (.ref p 0 0) ?_
          refine SQ.c [.ref p 0 0] nc1 k64 ?_
          refine SQ.c [.ref p 0 0, .int .i64 x63] nc2 k66 ?_
          refine SQ.nil ?_
          refine GQ.ret ?_
          exact EndK.ret (Qp := Qp) rfl H
         ·skip
          obtain ⟨h59, ch60, k61, H⟩ := H
          refine GQ.region ?_
          refine SQ.m (.ref p 0 0) ?_
          refine SQ.m (.ref p 0 0) ?_
          refine Y1n (OPan.yes rfl (HPan.call (vs := [.ref p 0 0]) rfl (by kernel_rfl) (by kernel_rfl) nc1 k61)) ?_
          exact H
        ·have H := H.2 hb58
         refine GQ.g hb58 ?_
         refine GQ.skip ?_
         obtain ⟨f67, s68, n69, l70, r71, h72, w73, h74, s76, n77, w75, f78, f81, h79, w80, H⟩ := H
         refine GQ.region ?_
         refine SQ.m (.ref p 0 0) ?_
         refine SQ.m (.ref p 0 0) ?_
         refine SQ.n (0) f67 ?_
         refine SQ.f 3 (0) f67 ?_
         refine SQ.y l70 ?_
         refine SQ.m (.int .i64 x50) ?_
         refine SQ.cons (av := .agg [.int .i64 x50, .im (.val (.slice none 0 0)), .im (.val (.slice none 0 0)), .im (.val (.slice none 0 0)), .int .i64 0, .int .i64 0, .int .i64 0]) rfl (OStep.yes rfl (HStep.bld (rs := [(0, [.int .i64 x50])]) (z := [.int .i64 0, .slice none 0 0, .slice none 0 0, .slice none 0 0, .int .i64 0, .int .i64 0, .int .i64 0]) (fs := [(0, 1), (1, 1), (2, 1), (3, 1), (4, 1), (5, 1), (6, 1)]) (qs := [(0, .int .i64 x50)]) (cs := [.int .i64 x50, .im (.val (.slice none 0 0)), .im (.val (.slice none 0 0)), .im (.val (.slice none 0 0)), .int .i64 0, .int .i64 0, .int .i64 0]) rfl (by kernel_rfl) (by kernel_rfl) (by kernel_rfl) (by simp only [X5, X4, or_false, forall_eq]; exact ⟨⟨trivial, rfl⟩, Y2l rfl⟩) (CL.cons rfl (CL.nil)) (by kernel_rfl))) ?_
         refine SQ.cons (av := .rsl r71 0 0 1) rfl (OStep.yes rfl (HStep.build (qs := [(0, .agg [.int .i64 x50, .im (.val (.slice none 0 0)), .im (.val (.slice none 0 0)), .im (.val (.slice none 0 0)), .int .i64 0, .int .i64 0, .int .i64 0])]) (cs := [.int .i64 x50, .im (.val (.slice none 0 0)), .im (.val (.slice none 0 0)), .im (.val (.slice none 0 0)), .int .i64 0, .int .i64 0, .int .i64 0]) (r := r71) rfl (Y8 (P := Tryd.prog) (t := 58) (e := 57) (k := 7) (bytes := 104) (z := [.int .i64 0, .slice none 0 0, .slice none 0 0, .slice none 0 0, .int .i64 0, .int .i64 0, .int .i64 0]) (by kernel_rfl)) (by decide) (by kernel_rfl) (by simp only [X5, X4, or_false, forall_eq]; exact ⟨⟨trivial, rfl⟩, (okC_agg (by simp only [X5, X4, or_false, forall_eq_or_imp, forall_eq]; exact ⟨rfl, rfl, rfl, rfl, rfl, rfl, rfl⟩))⟩) (by kernel_rfl) (by simp only [X5, X4, or_false, forall_eq_or_imp, forall_eq]; exact ⟨rfl, rfl, rfl, rfl, rfl, rfl, rfl⟩) rfl w73)) ?_
         refine SQ.cons (av := s76) rfl (OStep.yes rfl (HStep.app (sv := s68) (xv := .rsl r71 0 0 1) (news := [.int .i64 x50, .im (.val (.slice none 0 0)), .im (.val (.slice none 0 0)), .im (.val (.slice none 0 0)), .int .i64 0, .int .i64 0, .int .i64 0]) rfl (Y8 (P := Tryd.prog) (t := 58) (e := 57) (k := 7) (bytes := 104) (z := [.int .i64 0, .slice none 0 0, .slice none 0 0, .slice none 0 0, .int .i64 0, .int .i64 0, .int .i64 0]) (by kernel_rfl)) (by kernel_rfl) (by kernel_rfl) trivial (SrcA.rsl (m := 1) (by kernel_rfl) (Nw.at w73) rfl rfl rfl (Xc rfl)) w75)) ?_
         refine SQ.n (0) f78 ?_
         refine SQ.f 3 (0) f78 ?_
         refine SQ.cons (av := .any) rfl (OStep.yes rfl (Y9 (r := p) (ver := 0) (off := 3) (n := 1) (v := s76) rfl (by kernel_rfl) (by kernel_rfl) (by kernel_rfl) n77 (Y09 f81) w80)) ?_
         refine SQ.nil ?_
         obtain ⟨m82, hl83, H⟩ := H
         exact ⟨m82, hl83, Y5 (by kernel_rfl), H⟩
      ·skip
       obtain ⟨h46, ch47, k48, H⟩ := H
       refine GQ.region ?_
       refine SQ.m (.ref p 0 0) ?_
       refine Y1n (OPan.yes rfl (HPan.call (vs := [.ref p 0 0]) rfl (by kernel_rfl) (by kernel_rfl) nc1 k48)) ?_
       exact H
     ·have H := H.2 hb45
      refine GQ.g hb45 ?_
      rcases H with H | H
      ·skip
       obtain ⟨h87, k88, H⟩ := H
       refine GQ.region ?_
       refine SQ.m (.ref p 0 0) ?_
       refine SQ.c [.ref p 0 0] nc1 k88 ?_
       refine SQ.nil ?_
       obtain ⟨m89, hl90, H⟩ := H
       exact ⟨m89, hl90, Y5 (by kernel_rfl), H⟩
      ·skip
       obtain ⟨h84, ch85, k86, H⟩ := H
       refine GQ.region ?_
       refine SQ.m (.ref p 0 0) ?_
       refine Y1n (OPan.yes rfl (HPan.call (vs := [.ref p 0 0]) rfl (by kernel_rfl) (by kernel_rfl) nc1 k86)) ?_
       exact H
    ·have H := H.2 hb44
     refine GQ.region ?_
     refine SQ.m (.int .u8 x8) ?_
     refine SQ.cons (av := .bool false) rfl (OStep.yes rfl (Y0c (Y6 (av := .bool (decide ((97 : Int) ≤ x8))) ⟨trivial, trivial, rfl⟩ (by kernel_rfl)) hb44)) ?_
     refine SQ.m (.bool false) ?_
     refine SQ.cons (av := undA) rfl (OStep.no rfl) ?_
     refine SQ.cons (av := undA) rfl (OStep.no rfl) ?_
     refine SQ.cons (av := .bool false) rfl (OStep.yes rfl (Yh (s := .bool false) rfl (by kernel_rfl) (by kernel_rfl) ⟨trivial, rfl⟩)) ?_
     refine SQ.a (.bool false) ?_
     refine SQ.nil ?_
     refine GQ.cond (b := false) (by kernel_rfl) (fun e => by cases e) (fun _ => ?_)
     rcases H with H | H
     ·skip
      obtain ⟨h94, k95, H⟩ := H
      refine GQ.region ?_
      refine SQ.m (.ref p 0 0) ?_
      refine SQ.c [.ref p 0 0] nc1 k95 ?_
      refine SQ.nil ?_
      obtain ⟨m96, hl97, H⟩ := H
      exact ⟨m96, hl97, Y5 (by kernel_rfl), H⟩
     ·skip
      obtain ⟨h91, ch92, k93, H⟩ := H
      refine GQ.region ?_
      refine SQ.m (.ref p 0 0) ?_
      refine Y1n (OPan.yes rfl (HPan.call (vs := [.ref p 0 0]) rfl (by kernel_rfl) (by kernel_rfl) nc1 k93)) ?_
      exact H
 ·have H := H.2 hb10
  refine GQ.region ?_
  refine SQ.m (.int .u8 x8) ?_
  refine SQ.cons (av := .bool false) rfl (OStep.yes rfl (Y0c (Y6 (av := .bool (decide ((48 : Int) ≤ x8))) ⟨trivial, trivial, rfl⟩ (by kernel_rfl)) hb10)) ?_
  refine SQ.m (.bool false) ?_
  refine SQ.cons (av := undA) rfl (OStep.no rfl) ?_
  refine SQ.cons (av := undA) rfl (OStep.no rfl) ?_
  refine SQ.cons (av := .bool false) rfl (OStep.yes rfl (Yh (s := .bool false) rfl (by kernel_rfl) (by kernel_rfl) ⟨trivial, rfl⟩)) ?_
  refine SQ.a (.bool false) ?_
  refine SQ.nil ?_
  refine GQ.cond (b := false) (by kernel_rfl) (fun e => by cases e) (fun _ => ?_)
  refine GQ.seq ?_
  refine GQ.region ?_
  refine SQ.m (.int .u8 x8) ?_
  refine SQ.p (.bool ((x8 : Int) == 40)) ⟨trivial, trivial, rfl⟩ ?_
  refine SQ.a (.bool ((x8 : Int) == 40)) ?_
  refine SQ.nil ?_
  rcases X1 ((x8 : Int) == 40) with hb98 | hb98
  ·have H := H.1 hb98
   refine GQ.t hb98 ?_
   refine GQ.seq ?_
   obtain ⟨f99, x100, l101, c102, h103, w104, H⟩ := H
   refine GQ.region ?_
   refine SQ.m (.ref p 0 0) ?_
   refine SQ.n (0) f99 ?_
   refine SQ.f 1 (0) f99 ?_
   refine SQ.y l101 ?_
   refine SQ.p (.int .i64 (x100 + 1)) ⟨trivial, trivial, rfl, c102⟩ ?_
   refine SQ.n (0) f99 ?_
   refine SQ.f 1 (0) f99 ?_
   refine SQ.cons (av := .any) rfl (OStep.yes rfl (Y9 (r := p) (ver := 0) (off := 1) (n := 1) (v := .int .i64 (x100 + 1)) rfl (by kernel_rfl) (by kernel_rfl) (by kernel_rfl) ⟨trivial, rfl⟩ (by kernel_rfl) w104)) ?_
   refine SQ.nil ?_
   obtain ⟨f105, s106, n107, l108, r109, h110, w111, h112, s114, n115, w113, f116, f119, h117, w118, H⟩ := H
   refine GQ.region ?_
   refine SQ.m (.ref p 0 0) ?_
   refine SQ.m (.ref p 0 0) ?_
   refine SQ.n (0) f105 ?_
   refine SQ.f 3 (0) f105 ?_
   refine SQ.y l108 ?_
   refine SQ.cons (av := .agg [.int .i64 10, .im (.val (.slice none 0 0)), .im (.val (.slice none 0 0)), .im (.val (.slice none 0 0)), .int .i64 0, .int .i64 0, .int .i64 0]) rfl (OStep.yes rfl (HStep.bld (rs := [(0, [.int .i64 10])]) (z := [.int .i64 0, .slice none 0 0, .slice none 0 0, .slice none 0 0, .int .i64 0, .int .i64 0, .int .i64 0]) (fs := [(0, 1), (1, 1), (2, 1), (3, 1), (4, 1), (5, 1), (6, 1)]) (qs := [(0, .int .i64 10)]) (cs := [.int .i64 10, .im (.val (.slice none 0 0)), .im (.val (.slice none 0 0)), .im (.val (.slice none 0 0)), .int .i64 0, .int .i64 0, .int .i64 0]) rfl (by kernel_rfl) (by kernel_rfl) (by kernel_rfl) (by simp only [X5, X4, or_false, forall_eq]; exact ⟨⟨trivial, rfl⟩, Y2l rfl⟩) (CL.cons rfl (CL.nil)) (by kernel_rfl))) ?_
   refine SQ.cons (av := .rsl r109 0 0 1) rfl (OStep.yes rfl (HStep.build (qs := [(0, .agg [.int .i64 10, .im (.val (.slice none 0 0)), .im (.val (.slice none 0 0)), .im (.val (.slice none 0 0)), .int .i64 0, .int .i64 0, .int .i64 0])]) (cs := [.int .i64 10, .im (.val (.slice none 0 0)), .im (.val (.slice none 0 0)), .im (.val (.slice none 0 0)), .int .i64 0, .int .i64 0, .int .i64 0]) (r := r109) rfl (Y8 (P := Tryd.prog) (t := 58) (e := 57) (k := 7) (bytes := 104) (z := [.int .i64 0, .slice none 0 0, .slice none 0 0, .slice none 0 0, .int .i64 0, .int .i64 0, .int .i64 0]) (by kernel_rfl)) (by decide) (by kernel_rfl) (by simp only [X5, X4, or_false, forall_eq]; exact ⟨⟨trivial, rfl⟩, (okC_agg (by simp only [X5, X4, or_false, forall_eq_or_imp, forall_eq]; exact ⟨rfl, rfl, rfl, rfl, rfl, rfl, rfl⟩))⟩) (by kernel_rfl) (by simp only [X5, X4, or_false, forall_eq_or_imp, forall_eq]; exact ⟨rfl, rfl, rfl, rfl, rfl, rfl, rfl⟩) rfl w111)) ?_
   refine SQ.cons (av := s114) rfl (OStep.yes rfl (HStep.app (sv := s106) (xv := .rsl r109 0 0 1) (news := [.int .i64 10, .im (.val (.slice none 0 0)), .im (.val (.slice none 0 0)), .im (.val (.slice none 0 0)), .int .i64 0, .int .i64 0, .int .i64 0]) rfl (Y8 (P := Tryd.prog) (t := 58) (e := 57) (k := 7) (bytes := 104) (z := [.int .i64 0, .slice none 0 0, .slice none 0 0, .slice none 0 0, .int .i64 0, .int .i64 0, .int .i64 0]) (by kernel_rfl)) (by kernel_rfl) (by kernel_rfl) trivial (SrcA.rsl (m := 1) (by kernel_rfl) (Nw.at w111) rfl rfl rfl (Xc rfl)) w113)) ?_
   refine SQ.n (0) f116 ?_
   refine SQ.f 3 (0) f116 ?_
   refine SQ.cons (av := .any) rfl (OStep.yes rfl (Y9 (r := p) (ver := 0) (off := 3) (n := 1) (v := s114) rfl (by kernel_rfl) (by kernel_rfl) (by kernel_rfl) n115 (Y09 f119) w118)) ?_
   refine SQ.nil ?_
   obtain ⟨m120, hl121, H⟩ := H
   exact ⟨m120, hl121, Y5 (by kernel_rfl), H⟩
  ·have H := H.2 hb98
   refine GQ.g hb98 ?_
   refine GQ.seq ?_
   rcases X1 (decide ((97 : Int) ≤ x8)) with hb122 | hb122
   ·have H := H.1 hb122
    refine GQ.region ?_
    refine SQ.m (.int .u8 x8) ?_
    refine SQ.cons (av := .bool true) rfl (OStep.yes rfl (Y0p (Y6 (av := .bool (decide ((97 : Int) ≤ x8))) ⟨trivial, trivial, rfl⟩ (by kernel_rfl)) hb122)) ?_
    refine SQ.m (.bool true) ?_
    refine SQ.m (.int .u8 x8) ?_
    refine SQ.p (.bool (decide ((x8 : Int) ≤ 122))) ⟨trivial, trivial, rfl⟩ ?_
    refine SQ.cons (av := .bool (decide ((x8 : Int) ≤ 122))) rfl (OStep.yes rfl (Yl (s := .bool (decide ((x8 : Int) ≤ 122))) rfl (by kernel_rfl) (by kernel_rfl) ⟨trivial, rfl⟩)) ?_
    refine SQ.a (.bool (decide ((x8 : Int) ≤ 122))) ?_
    refine SQ.nil ?_
    rcases X1 (decide ((x8 : Int) ≤ 122)) with hb123 | hb123
    ·have H := H.1 hb123
     refine GQ.t hb123 ?_
     refine GQ.seq ?_
     rcases H with H | H
     ·skip
      obtain ⟨h127, x128, k129, H⟩ := H
      refine GQ.region ?_
      refine SQ.m (.ref p 0 0) ?_
      refine SQ.c [.ref p 0 0] nc1 k129 ?_
      refine SQ.a (.int .i64 x128) ?_
      refine SQ.nil ?_
      refine GQ.seq ?_
      refine GQ.seq ?_
      refine GQ.region ?_
      refine SQ.m (.int .i64 x128) ?_
      refine SQ.p (.bool ((x128 : Int) == 1)) ⟨trivial, trivial, rfl⟩ ?_
      refine SQ.nil ?_
      rcases X1 ((x128 : Int) == 1) with hb130 | hb130
      ·have H := H.1 hb130
       refine GQ.t hb130 ?_
       refine GQ.seq ?_
       obtain ⟨h131, x132, k133, h134, k135, H⟩ := H
       refine GQ.region ?_
       refine SQ.m (.ref p 0 0) ?_
       refine SQ.m (.ref p 0 0) ?_
       refine SQ.m (.int .u8 x8) ?_
       refine SQ.p (.int .u8 (nw .u8 (x8 - 97 : Int))) ⟨trivial, trivial, rfl, trivial⟩ ?_
       refine SQ.cons (av := .int .i64 (IntKind.wrap .i64 (nw .u8 (x8 - 97 : Int)))) rfl (OStep.yes rfl (HStep.cnv (k := .u8) (kd := .i64) (n := nw .u8 (x8 - 97 : Int)) (av := .int .i64 (IntKind.wrap .i64 (nw .u8 (x8 - 97 : Int)))) rfl (by kernel_rfl) (by kernel_rfl) (by kernel_rfl) (by kernel_rfl))) ?_
       refine SQ.c [.ref p 0 0, .int .i64 1, .int .i64 (IntKind.wrap .i64 (nw .u8 (x8 - 97 : Int))), .im (.val (.slice none 0 0))] (by simp only [X5, X4, or_false, forall_eq_or_imp, forall_eq]; exact ⟨⟨trivial, rfl⟩, ⟨trivial, rfl⟩, ⟨trivial, rfl⟩, ⟨trivial, rfl⟩⟩) k133 ?_
       refine SQ.c [.ref p 0 0, .int .i64 x132] nc2 k135 ?_
       refine SQ.nil ?_
       refine GQ.ret ?_
       exact EndK.ret (Qp := Qp) rfl H
      ·have H := H.2 hb130
       refine GQ.g hb130 ?_
       refine GQ.skip ?_
       refine GQ.seq ?_
       refine GQ.seq ?_
       refine GQ.region ?_
       refine SQ.m (.int .i64 x128) ?_
       refine SQ.p (.bool ((x128 : Int) == 12)) ⟨trivial, trivial, rfl⟩ ?_
       refine SQ.nil ?_
       rcases X1 ((x128 : Int) == 12) with hb136 | hb136
       ·have H := H.1 hb136
        refine GQ.t hb136 ?_
        refine GQ.seq ?_
        rcases H with H | H
        ·skip
         obtain ⟨h140, x141, k142, h143, k144, H⟩ := H
         refine GQ.region ?_
         refine SQ.m (.ref p 0 0) ?_
         refine SQ.m (.ref p 0 0) ?_
         refine SQ.c [.ref p 0 0] nc1 k142 ?_
         refine SQ.c [.ref p 0 0, .int .i64 x141] nc2 k144 ?_
         refine SQ.nil ?_
         refine GQ.ret ?_
         exact EndK.ret (Qp := Qp) rfl H
        ·skip
         obtain ⟨h137, ch138, k139, H⟩ := H
         refine GQ.region ?_
         refine SQ.m (.ref p 0 0) ?_
         refine SQ.m (.ref p 0 0) ?_
         refine Y1n (OPan.yes rfl (HPan.call (vs := [.ref p 0 0]) rfl (by kernel_rfl) (by kernel_rfl) nc1 k139)) ?_
         exact H
       ·have H := H.2 hb136
        refine GQ.g hb136 ?_
        refine GQ.skip ?_
        obtain ⟨f145, s146, n147, l148, r149, h150, w151, h152, s154, n155, w153, f156, f159, h157, w158, H⟩ := H
        refine GQ.region ?_
        refine SQ.m (.ref p 0 0) ?_
        refine SQ.m (.ref p 0 0) ?_
        refine SQ.n (0) f145 ?_
        refine SQ.f 3 (0) f145 ?_
        refine SQ.y l148 ?_
        refine SQ.m (.int .i64 x128) ?_
        refine SQ.cons (av := .agg [.int .i64 x128, .im (.val (.slice none 0 0)), .im (.val (.slice none 0 0)), .im (.val (.slice none 0 0)), .int .i64 0, .int .i64 0, .int .i64 0]) rfl (OStep.yes rfl (HStep.bld (rs := [(0, [.int .i64 x128])]) (z := [.int .i64 0, .slice none 0 0, .slice none 0 0, .slice none 0 0, .int .i64 0, .int .i64 0, .int .i64 0]) (fs := [(0, 1), (1, 1), (2, 1), (3, 1), (4, 1), (5, 1), (6, 1)]) (qs := [(0, .int .i64 x128)]) (cs := [.int .i64 x128, .im (.val (.slice none 0 0)), .im (.val (.slice none 0 0)), .im (.val (.slice none 0 0)), .int .i64 0, .int .i64 0, .int .i64 0]) rfl (by kernel_rfl) (by kernel_rfl) (by kernel_rfl) (by simp only [X5, X4, or_false, forall_eq]; exact ⟨⟨trivial, rfl⟩, Y2l rfl⟩) (CL.cons rfl (CL.nil)) (by kernel_rfl))) ?_
        refine SQ.cons (av := .rsl r149 0 0 1) rfl (OStep.yes rfl (HStep.build (qs := [(0, .agg [.int .i64 x128, .im (.val (.slice none 0 0)), .im (.val (.slice none 0 0)), .im (.val (.slice none 0 0)), .int .i64 0, .int .i64 0, .int .i64 0])]) (cs := [.int .i64 x128, .im (.val (.slice none 0 0)), .im (.val (.slice none 0 0)), .im (.val (.slice none 0 0)), .int .i64 0, .int .i64 0, .int .i64 0]) (r := r149) rfl (Y8 (P := Tryd.prog) (t := 58) (e := 57) (k := 7) (bytes := 104) (z := [.int .i64 0, .slice none 0 0, .slice none 0 0, .slice none 0 0, .int .i64 0, .int .i64 0, .int .i64 0]) (by kernel_rfl)) (by decide) (by kernel_rfl) (by simp only [X5, X4, or_false, forall_eq]; exact ⟨⟨trivial, rfl⟩, (okC_agg (by simp only [X5, X4, or_false, forall_eq_or_imp, forall_eq]; exact ⟨rfl, rfl, rfl, rfl, rfl, rfl, rfl⟩))⟩) (by kernel_rfl) (by simp only [X5, X4, or_false, forall_eq_or_imp, forall_eq]; exact ⟨rfl, rfl, rfl, rfl, rfl, rfl, rfl⟩) rfl w151)) ?_
        refine SQ.cons (av := s154) rfl (OStep.yes rfl (HStep.app (sv := s146) (xv := .rsl r149 0 0 1) (news := [.int .i64 x128, .im (.val (.slice none 0 0)), .im (.val (.slice none 0 0)), .im (.val (.slice none 0 0)), .int .i64 0, .int .i64 0, .int .i64 0]) rfl (Y8 (P := Tryd.prog) (t := 58) (e := 57) (k := 7) (bytes := 104) (z := [.int .i64 0, .slice none 0 0, .slice none 0 0, .slice none 0 0, .int .i64 0, .int .i64 0, .int .i64 0]) (by kernel_rfl)) (by kernel_rfl) (by kernel_rfl) trivial (SrcA.rsl (m := 1) (by kernel_rfl) (Nw.at w151) rfl rfl rfl (Xc rfl)) w153)) ?_
        refine SQ.n (0) f156 ?_
        refine SQ.f 3 (0) f156 ?_
        refine SQ.cons (av := .any) rfl (OStep.yes rfl (Y9 (r := p) (ver := 0) (off := 3) (n := 1) (v := s154) rfl (by kernel_rfl) (by kernel_rfl) (by kernel_rfl) n155 (Y09 f159) w158)) ?_
        refine SQ.nil ?_
        obtain ⟨m160, hl161, H⟩ := H
        exact ⟨m160, hl161, Y5 (by kernel_rfl), H⟩
     ·skip
      obtain ⟨h124, ch125, k126, H⟩ := H
      refine GQ.region ?_
      refine SQ.m (.ref p 0 0) ?_
      refine Y1n (OPan.yes rfl (HPan.call (vs := [.ref p 0 0]) rfl (by kernel_rfl) (by kernel_rfl) nc1 k126)) ?_
      exact H
    ·have H := H.2 hb123
     refine GQ.g hb123 ?_
     rcases H with H | H
     ·skip
      obtain ⟨h165, k166, H⟩ := H
      refine GQ.region ?_
      refine SQ.m (.ref p 0 0) ?_
      refine SQ.c [.ref p 0 0] nc1 k166 ?_
      refine SQ.nil ?_
      obtain ⟨m167, hl168, H⟩ := H
      exact ⟨m167, hl168, Y5 (by kernel_rfl), H⟩
     ·skip
      obtain ⟨h162, ch163, k164, H⟩ := H
      refine GQ.region ?_
      refine SQ.m (.ref p 0 0) ?_
      refine Y1n (OPan.yes rfl (HPan.call (vs := [.ref p 0 0]) rfl (by kernel_rfl) (by kernel_rfl) nc1 k164)) ?_
      exact H
   ·have H := H.2 hb122
    refine GQ.region ?_
    refine SQ.m (.int .u8 x8) ?_
    refine SQ.cons (av := .bool false) rfl (OStep.yes rfl (Y0c (Y6 (av := .bool (decide ((97 : Int) ≤ x8))) ⟨trivial, trivial, rfl⟩ (by kernel_rfl)) hb122)) ?_
    refine SQ.m (.bool false) ?_
    refine SQ.cons (av := undA) rfl (OStep.no rfl) ?_
    refine SQ.cons (av := undA) rfl (OStep.no rfl) ?_
    refine SQ.cons (av := .bool false) rfl (OStep.yes rfl (Yh (s := .bool false) rfl (by kernel_rfl) (by kernel_rfl) ⟨trivial, rfl⟩)) ?_
    refine SQ.a (.bool false) ?_
    refine SQ.nil ?_
    refine GQ.cond (b := false) (by kernel_rfl) (fun e => by cases e) (fun _ => ?_)
    rcases H with H | H
    ·skip
     obtain ⟨h172, k173, H⟩ := H
     refine GQ.region ?_
     refine SQ.m (.ref p 0 0) ?_
     refine SQ.c [.ref p 0 0] nc1 k173 ?_
     refine SQ.nil ?_
     obtain ⟨m174, hl175, H⟩ := H
     exact ⟨m174, hl175, Y5 (by kernel_rfl), H⟩
    ·skip
     obtain ⟨h169, ch170, k171, H⟩ := H
     refine GQ.region ?_
     refine SQ.m (.ref p 0 0) ?_
     refine Y1n (OPan.yes rfl (HPan.call (vs := [.ref p 0 0]) rfl (by kernel_rfl) (by kernel_rfl) nc1 k171)) ?_
     exact H
def pre_formula (h : Hp) (p : Nat) (Q : Hp → AV → Prop) (Qp : Hp → List PanicEntry → Prop) : Prop :=
 ∃ (I3 : Nat → Int → Hp → Prop), (∃ m6 : Nat, I3 m6 0 h) ∧ ∀ (m2 : Nat) (y7 : Int) (h1 : Hp), I3 m2 y7 h1 → (((∃ (h11 : Hp), (CallOK Tryd.prog 49 [.ref p 0 0] h1 h11 (.tup [])) ∧ ((∃ (h16 : Hp), ∃ (x17 : Int), (CallOK Tryd.prog 50 [.ref p 0 0] h11 h16 (.int .i64 x17)) ∧ ∃ (I21 : Nat → Int → Hp → Prop), (∃ m24 : Nat, I21 m24 x17 h16) ∧ ∀ (m20 : Nat) (y25 : Int) (h19 : Hp), I21 m20 y25 h19 → (((((y25 : Int) == 1) = true → ((∃ (h30 : Hp), ∃ (x31 : Int), (CallOK Tryd.prog 50 [.ref p 0 0] h19 h30 (.int .i64 x31)) ∧ (∃ m33 : Nat, m33 < m20 ∧ I21 m33 x31 h30)) ∨ (∃ (h27 : Hp), ∃ (ch28 : List PanicEntry), (Yp Tryd.prog 50 [.ref p 0 0] h19 h27 ch28) ∧ (Qp h27 ch28)))) ∧ (((y25 : Int) == 1) = false → ((((y25 : Int) == 2) = true → ∃ (h36 : Hp), ∃ (x37 : Int), (CallOK Tryd.prog 51 [.ref p 0 0] h19 h36 (.int .i64 x37)) ∧ (Q h36 (.int .i64 x37))) ∧ (((y25 : Int) == 2) = false → (∃ m39 : Nat, m39 < m2 ∧ I3 m39 y7 h19))))))) ∨ (∃ (h13 : Hp), ∃ (ch14 : List PanicEntry), (Yp Tryd.prog 50 [.ref p 0 0] h11 h13 ch14) ∧ (Qp h13 ch14)))) ∨ (∃ (h8 : Hp), ∃ (ch9 : List PanicEntry), (Yp Tryd.prog 49 [.ref p 0 0] h1 h8 ch9) ∧ (Qp h8 ch9))))
theorem w_formula {h : Hp} {p : Nat} {Q : Hp → AV → Prop} {Qp : Hp → List PanicEntry → Prop}  (H : pre_formula h p Q Qp) : FnO Tryd.prog 32 [.ref p 0 0] h Q Qp := by
 unfold pre_formula at H
 refine FnO.mk Tryd.func32 rfl (Xc (by kernel_rfl)) ?_
 refine GQ.E [(0, .ref p 0 0)] ?_
 refine GQ.seq ?_
 refine GQ.region ?_
 refine SQ.a (.int .i64 0) ?_
 refine SQ.nil ?_
 refine GQ.block ?_
 obtain ⟨I3, ⟨m6, H5⟩, H⟩ := H
 refine GQ.loop (fun n e h' => ∃ (y7 : Int), Env.le e [(0, .ref p 0 0), (2, .int .i64 y7)] ∧ I3 n y7 h') ?_ m6 ⟨0, Y5 (by kernel_rfl), H5⟩
 rintro m2 _ h1 ⟨y7, hle, HI4⟩
 have H := H m2 y7 h1 HI4
 refine GQ.weaken _ hle ?_
 refine GQ.block ?_
 refine GQ.seq ?_
 rcases H with H | H
 ·skip
  obtain ⟨h11, k12, H⟩ := H
  refine GQ.region ?_
  refine SQ.m (.ref p 0 0) ?_
  refine SQ.c [.ref p 0 0] nc1 k12 ?_
  refine SQ.nil ?_
  refine GQ.seq ?_
  rcases H with H | H
  ·skip
   obtain ⟨h16, x17, k18, H⟩ := H
   refine GQ.region ?_
   refine SQ.m (.ref p 0 0) ?_
   refine SQ.c [.ref p 0 0] nc1 k18 ?_
   refine SQ.a (.int .i64 x17) ?_
   refine SQ.nil ?_
   refine GQ.seq ?_
   refine GQ.block ?_
   obtain ⟨I21, ⟨m24, H23⟩, H⟩ := H
   refine GQ.loop (fun n e h' => ∃ (y25 : Int), Env.le e [(0, .ref p 0 0), (2, .int .i64 y7), (3, .int .i64 y25)] ∧ I21 n y25 h') ?_ m24 ⟨x17, Y5 (by kernel_rfl), H23⟩
   rintro m20 _ h19 ⟨y25, hle, HI22⟩
   have H := H m20 y25 h19 HI22
   refine GQ.weaken _ hle ?_
   refine GQ.seq ?_
   refine GQ.seq ?_
   refine GQ.region ?_
   refine SQ.m (.int .i64 y25) ?_
   refine SQ.p (.bool ((y25 : Int) == 1)) ⟨trivial, trivial, rfl⟩ ?_
   refine SQ.nil ?_
   rcases X1 ((y25 : Int) == 1) with hb26 | hb26
   ·have H := H.1 hb26
    refine GQ.t hb26 ?_
    refine GQ.skip ?_
    refine GQ.block ?_
    rcases H with H | H
    ·skip
     obtain ⟨h30, x31, k32, H⟩ := H
     refine GQ.region ?_
     refine SQ.m (.ref p 0 0) ?_
     refine SQ.c [.ref p 0 0] nc1 k32 ?_
     refine SQ.a (.int .i64 x31) ?_
     refine SQ.nil ?_
     obtain ⟨m33, hl34, H⟩ := H
     exact ⟨m33, hl34, x31, Y5 (by kernel_rfl), H⟩
    ·skip
     obtain ⟨h27, ch28, k29, H⟩ := H
     refine GQ.region ?_
     refine SQ.m (.ref p 0 0) ?_
     refine Y1n (OPan.yes rfl (HPan.call (vs := [.ref p 0 0]) rfl (by kernel_rfl) (by kernel_rfl) nc1 k29)) ?_
     exact H
   ·have H := H.2 hb26
    refine GQ.g hb26 ?_
    refine GQ.exit ?_
    refine GQ.seq ?_
    refine GQ.region ?_
    refine SQ.m (.int .i64 y25) ?_
    refine SQ.p (.bool ((y25 : Int) == 2)) ⟨trivial, trivial, rfl⟩ ?_
    refine SQ.nil ?_
    rcases X1 ((y25 : Int) == 2) with hb35 | hb35
    ·have H := H.1 hb35
     refine GQ.t hb35 ?_
     refine GQ.seq ?_
     obtain ⟨h36, x37, k38, H⟩ := H
     refine GQ.region ?_
     refine SQ.m (.ref p 0 0) ?_
     refine SQ.c [.ref p 0 0] nc1 k38 ?_
     refine SQ.a (.int .i64 x37) ?_
     refine SQ.nil ?_
     refine GQ.ret ?_
     exact EndK.ret (Qp := Qp) rfl H
    ·have H := H.2 hb35
     refine GQ.g hb35 ?_
     refine GQ.skip ?_
     obtain ⟨m39, hl40, H⟩ := H
     exact ⟨m39, hl40, y7, Y5 (by kernel_rfl), H⟩
  ·skip
   obtain ⟨h13, ch14, k15, H⟩ := H
   refine GQ.region ?_
   refine SQ.m (.ref p 0 0) ?_
   refine Y1n (OPan.yes rfl (HPan.call (vs := [.ref p 0 0]) rfl (by kernel_rfl) (by kernel_rfl) nc1 k15)) ?_
   exact H
 ·skip
  obtain ⟨h8, ch9, k10, H⟩ := H
  refine GQ.region ?_
  refine SQ.m (.ref p 0 0) ?_
  refine Y1n (OPan.yes rfl (HPan.call (vs := [.ref p 0 0]) rfl (by kernel_rfl) (by kernel_rfl) nc1 k10)) ?_
  exact H
def pre_flat (h : Hp) (p : Nat) (a1 : AV) (a2 : Int) (Q : Hp → AV → Prop) (Qp : Hp → List PanicEntry → Prop) : Prop :=
 (Has h p 0) ∧ ∃ (s2 : AV), (NC s2) ∧ (Ld h p 0 2 s2) ∧ ∃ (r5 : Nat), ∃ (v6 : Nat), ∃ (o7 : Nat), (Ix h s2 4 (a2 : Int) (.ref r5 v6 o7)) ∧ (Has h r5 v6) ∧ ∃ (x10 : Int), ∃ (x11 : Int), (LdN h r5 v6 (o7 + 0) 2 [.int .i64 x10, .int .i64 x11]) ∧ ∃ (r13 : Nat), ∃ (h14 : Hp), (Nw h r13 ⟨0, true, 26, 2, [.int .i64 x10, .int .i64 x11]⟩ h14) ∧ ∃ (h16 : Hp), ∃ (s18 : AV), (NC s18) ∧ (App h14 a1 26 2 16 1 [.int .i64 x10, .int .i64 x11] h16 s18) ∧ (Has h16 p 0) ∧ ∃ (s21 : AV), (NC s21) ∧ (Ld h16 p 0 2 s21) ∧ ∃ (r24 : Nat), ∃ (v25 : Nat), ∃ (o26 : Nat), (Ix h16 s21 4 (a2 : Int) (.ref r24 v25 o26)) ∧ (Has h16 r24 v25) ∧ ∃ (s29 : AV), (NC s29) ∧ (Ld h16 r24 v25 (o26 + 2) s29) ∧ ∃ (n32 : Nat), (Len h16 s29 n32) ∧ ∃ (I36 : Nat → AV → Int → Hp → Prop), (∃ m39 : Nat, I36 m39 s18 0 h16) ∧ ∀ (m35 : Nat) (y40 : AV) (y42 : Int) (h34 : Hp), I36 m35 y40 y42 h34 → NC y40 → ((((decide ((y42 : Int) < ((n32 : Nat) : Int))) = true → ∃ (r44 : Nat), ∃ (v45 : Nat), ∃ (o46 : Nat), (Ix h34 s29 1 (y42 : Int) (.ref r44 v45 o46)) ∧ ∃ (x48 : Int), (Ld h34 r44 v45 o46 (.int .i64 x48)) ∧ ∃ (h50 : Hp), ∃ (s51 : AV), (NC s51) ∧ (CallOK Tryd.prog 33 [.ref p 0 0, y40, .int .i64 x48] h34 h50 s51) ∧ (okA .i64 (y42 + 1 : Int)) ∧ (∃ m55 : Nat, m55 < m35 ∧ I36 m55 s51 (y42 + 1) h50)) ∧ ((decide ((y42 : Int) < ((n32 : Nat) : Int))) = false → (Q h34 y40))))
theorem w_flat {h : Hp} {p : Nat} {a1 : AV} {a2 : Int} {Q : Hp → AV → Prop} {Qp : Hp → List PanicEntry → Prop} (na1 : NC a1) (H : pre_flat h p a1 a2 Q Qp) : FnO Tryd.prog 33 [.ref p 0 0, a1, .int .i64 a2] h Q Qp := by
 unfold pre_flat at H
 refine FnO.mk Tryd.func33 rfl (Xc (by kernel_rfl)) ?_
 refine GQ.E [(0, .ref p 0 0), (1, a1), (2, .int .i64 a2)] ?_
 refine GQ.seq ?_
 refine GQ.region ?_
 refine SQ.a (.im (.val (.slice none 0 0))) ?_
 refine SQ.nil ?_
 refine GQ.seq ?_
 obtain ⟨f1, s2, n3, l4, r5, v6, o7, i8, f9, x10, x11, l12, r13, h14, w15, h16, s18, n19, w17, H⟩ := H
 refine GQ.region ?_
 refine SQ.m (a1) ?_ na1
 refine SQ.m (.ref p 0 0) ?_
 refine SQ.n (0) f1 ?_
 refine SQ.f 2 (0) f1 ?_
 refine SQ.y l4 ?_
 refine SQ.m (.int .i64 a2) ?_
 refine SQ.cons (av := .ref r5 v6 o7) rfl (OStep.yes rfl (HStep.ix (kk := .i64) (s := s2) (j := a2) (k := 4) rfl (by kernel_rfl) (by kernel_rfl) (by kernel_rfl) (by kernel_rfl) i8)) ?_
 refine SQ.f 0 (o7) f9 ?_
 refine SQ.cons (av := .agg [.int .i64 x10, .int .i64 x11]) rfl (OStep.yes rfl (HStep.ldN (r := r5) (ver := v6) (off := o7 + 0) rfl (by kernel_rfl) (by kernel_rfl) l12)) ?_
 refine SQ.cons (av := .rsl r13 0 0 1) rfl (OStep.yes rfl (HStep.build (qs := [(0, .agg [.int .i64 x10, .int .i64 x11])]) (cs := [.int .i64 x10, .int .i64 x11]) (r := r13) rfl (Y8 (P := Tryd.prog) (t := 23) (e := 26) (k := 2) (bytes := 16) (z := [.int .i64 0, .int .i64 0]) (by kernel_rfl)) (by decide) (by kernel_rfl) (by simp only [X5, X4, or_false, forall_eq]; exact ⟨⟨trivial, rfl⟩, (okC_agg (by simp only [X5, X4, or_false, forall_eq_or_imp, forall_eq]; exact ⟨rfl, rfl⟩))⟩) (by kernel_rfl) (by simp only [X5, X4, or_false, forall_eq_or_imp, forall_eq]; exact ⟨rfl, rfl⟩) rfl w15)) ?_
 refine SQ.cons (av := s18) rfl (OStep.yes rfl (HStep.app (sv := a1) (xv := .rsl r13 0 0 1) (news := [.int .i64 x10, .int .i64 x11]) rfl (Y8 (P := Tryd.prog) (t := 23) (e := 26) (k := 2) (bytes := 16) (z := [.int .i64 0, .int .i64 0]) (by kernel_rfl)) (by kernel_rfl) (by kernel_rfl) trivial (SrcA.rsl (m := 1) (by kernel_rfl) (Nw.at w15) rfl rfl rfl (Xc rfl)) w17)) ?_
 refine SQ.a (s18) ?_ n19
 refine SQ.nil ?_
 refine GQ.seq ?_
 refine GQ.seq ?_
 obtain ⟨f20, s21, n22, l23, r24, v25, o26, i27, f28, s29, n30, l31, n32, g33, H⟩ := H
 refine GQ.region ?_
 refine SQ.m (.ref p 0 0) ?_
 refine SQ.n (0) f20 ?_
 refine SQ.f 2 (0) f20 ?_
 refine SQ.y l23 ?_
 refine SQ.m (.int .i64 a2) ?_
 refine SQ.cons (av := .ref r24 v25 o26) rfl (OStep.yes rfl (HStep.ix (kk := .i64) (s := s21) (j := a2) (k := 4) rfl (by kernel_rfl) (by kernel_rfl) (by kernel_rfl) (by kernel_rfl) i27)) ?_
 refine SQ.f 2 (o26) f28 ?_
 refine SQ.y l31 ?_
 refine SQ.cons (av := .int .i64 ((n32 : Nat) : Int)) rfl (OStep.yes rfl (HStep.len (s := s29) (n := n32) rfl (by kernel_rfl) (by kernel_rfl) g33)) ?_
 refine SQ.m (.int .i64 0) ?_
 refine SQ.nil ?_
 refine GQ.block ?_
 obtain ⟨I36, ⟨m39, H38⟩, H⟩ := H
 refine GQ.loop (fun n e h' => ∃ (y40 : AV) (y42 : Int), NC y40 ∧ Env.le e [(0, .ref p 0 0), (1, y40), (2, .int .i64 a2), (6, .im (.val (.slice none 0 0))), (27, s29), (28, .int .i64 ((n32 : Nat) : Int)), (29, .int .i64 y42)] ∧ I36 n y40 y42 h') ?_ m39 ⟨s18, 0, n19, Y5 (by kernel_rfl), H38⟩
 rintro m35 _ h34 ⟨y40, y42, n41, hle, HI37⟩
 have H := H m35 y40 y42 h34 HI37 n41
 refine GQ.weaken _ hle ?_
 refine GQ.seq ?_
 refine GQ.region ?_
 refine SQ.p (.bool (decide ((y42 : Int) < ((n32 : Nat) : Int)))) ⟨trivial, trivial, rfl⟩ ?_
 refine SQ.nil ?_
 refine GQ.seq ?_
 rcases X1 (decide ((y42 : Int) < ((n32 : Nat) : Int))) with hb43 | hb43
 ·have H := H.1 hb43
  refine GQ.t hb43 ?_
  refine GQ.skip ?_
  refine GQ.seq ?_
  refine GQ.block ?_
  refine GQ.seq ?_
  obtain ⟨r44, v45, o46, i47, x48, l49, H⟩ := H
  refine GQ.region ?_
  refine SQ.cons (av := .ref r44 v45 o46) rfl (OStep.yes rfl (HStep.ix (kk := .i64) (s := s29) (j := y42) (k := 1) rfl (by kernel_rfl) (by kernel_rfl) (by kernel_rfl) (by kernel_rfl) i47)) ?_
  refine SQ.y l49 ?_
  refine SQ.a (.int .i64 x48) ?_
  refine SQ.nil ?_
  obtain ⟨h50, s51, n52, k53, H⟩ := H
  refine GQ.region ?_
  refine SQ.m (.ref p 0 0) ?_
  refine SQ.m (y40) ?_ n41
  refine SQ.m (.int .i64 x48) ?_
  refine SQ.c [.ref p 0 0, y40, .int .i64 x48] (by simp only [X5, X4, or_false, forall_eq_or_imp, forall_eq]; exact ⟨⟨trivial, rfl⟩, n41, ⟨trivial, rfl⟩⟩) k53 ?_
  refine SQ.a (s51) ?_ n52
  refine SQ.nil ?_
  obtain ⟨c54, H⟩ := H
  refine GQ.region ?_
  refine SQ.p (.int .i64 (y42 + 1)) ⟨trivial, trivial, rfl, c54⟩ ?_
  refine SQ.m (.int .i64 (y42 + 1)) ?_
  refine SQ.nil ?_
  obtain ⟨m55, hl56, H⟩ := H
  exact ⟨m55, hl56, s51, (y42 + 1), n52, Y5 (by kernel_rfl), H⟩
 ·have H := H.2 hb43
  refine GQ.g hb43 ?_
  refine GQ.exit ?_
  refine GQ.seq ?_
  refine GQ.region ?_
  refine SQ.m (y40) ?_ n41
  refine SQ.a (y40) ?_ n41
  refine SQ.nil ?_
  refine GQ.ret ?_
  exact EndK.ret (Qp := Qp) rfl H
end Go.Proofs.YtkgfbpbndmklnaaDoor
