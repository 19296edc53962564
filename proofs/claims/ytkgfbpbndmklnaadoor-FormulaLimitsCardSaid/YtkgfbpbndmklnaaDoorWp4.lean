/- Own work. -/
import Derived.Test.YtkgfbpbndmklnaaDoorChecked
import Derived.Test.YtkgfbpbndmklnaaDoorWp5
set_option linter.unusedSimpArgs false
set_option linter.unusedVariables false
set_option maxRecDepth 100000
namespace Go.Proofs.YtkgfbpbndmklnaaDoor
open Go.Abs
def pre_word (h : Hp) (p : Nat) (Q : Hp → AV → Prop) (Qp : Hp → List PanicEntry → Prop) : Prop :=
 ∃ r1 h2, (Nw h r1 ⟨0, true, 3, 1, [.int .i64 6, .int .i64 7, .int .i64 8, .int .i64 9, .int .i64 11, .int .i64 12, .int .i64 13]⟩ h2) ∧ (Has h2 r1 0) ∧ ∃ (I7 : Nat → Int → Int → Hp → Prop), (∃ m10, I7 m10 0 0 h2) ∧ ∀ m6 y11 y12 h5, I7 m6 y11 y12 h5 → ((((decide ((y12 : Int) < 7)) = true → ∃ (J15 : Int → ByteArray → Bool → Hp → Prop), (∀ (y18 : Int) (y19 : ByteArray) (y20 : Bool) (h14 : Hp), J15 y18 y19 y20 h14 → ((okA .i64 (y12 + 1 : Int)) ∧ (∃ m80, m80 < m6 ∧ I7 m80 y11 (y12 + 1) h14))) ∧ (∃ r21 v22 o23, (Ix h5 (.rsl r1 0 0 7) 1 (y12 : Int) (.ref r21 v22 o23)) ∧ ∃ x25, (Ld h5 r21 v22 o23 (.int .i64 x25)) ∧ ∃ t27, (CallOK Tryd.prog 46 [.int .i64 x25] h5 h5 (.string t27)) ∧ ∃ (J30 : Bool → Hp → Prop), (∀ y33 h29, J30 y33 h29 → ((((y33) = true → (J15 x25 t27 y33 h29)) ∧ ((y33) = false → ∃ (I57 : Nat → Int → Hp → Prop), (∃ m60, I57 m60 0 h29) ∧ ∀ m56 y61 h55, I57 m56 y61 h55 → ((((decide ((y61 : Int) < ((t27).size : Nat))) = true → ∃ x63, (0 ≤ (y61 : Int) ∧ (y61 : Int) < (t27).size) ∧ (pvIndex Tryd.prog 9 (.string t27) (.int .i64 y61) = .int .u8 x63) ∧ ((∃ h69, (CallOK Tryd.prog 70 [.ref p 0 0, .int .u8 x63] h55 h69 (.tup [])) ∧ (okA .i64 (y61 + 1 : Int)) ∧ (∃ m72, m72 < m56 ∧ I57 m72 (y61 + 1) h69)) ∨ (∃ h66, ∃ (ch67 : List PanicEntry), (Y03 Tryd.prog 70 [.ref p 0 0, .int .u8 x63] h55 h66 ch67) ∧ (Qp h66 ch67)))) ∧ ((decide ((y61 : Int) < ((t27).size : Nat))) = false → ((∃ h77, (CallOK Tryd.prog 70 [.ref p 0 0, .int .u8 40] h55 h77 (.tup [])) ∧ (Q h77 (.int .i64 x25))) ∨ (∃ h74, ∃ (ch75 : List PanicEntry), (Y03 Tryd.prog 70 [.ref p 0 0, .int .u8 40] h55 h74 ch75) ∧ (Qp h74 ch75)))))))))) ∧ (∃ h34 x35, (CallOK Tryd.prog 59 [.ref p 0 0] h5 h34 (.int .u8 x35)) ∧ ∃ x37, (0 ≤ (0 : Int) ∧ (0 : Int) < (t27).size) ∧ (pvIndex Tryd.prog 9 (.string t27) (.int .i64 0) = .int .u8 x37) ∧ ((((x35 : Int) != x37) = true → (J30 true h34)) ∧ (((x35 : Int) != x37) = false → (Has h34 p 0) ∧ ∃ x42, (Ld h34 p 0 1 (.int .i64 x42)) ∧ (okA .i64 (x42 + 1 : Int)) ∧ ∃ t45, (Ld h34 p 0 0 (.string t45)) ∧ (((decide ((((t45).size : Nat) : Int) ≤ (x42 + 1))) = true → (J30 true h34)) ∧ ((decide ((((t45).size : Nat) : Int) ≤ (x42 + 1))) = false → ∃ x48, (0 ≤ (x42 + 1 : Int) ∧ (x42 + 1 : Int) < (t45).size) ∧ (pvIndex Tryd.prog 9 (.string t45) (.int .i64 (x42 + 1)) = .int .u8 x48) ∧ ∃ x51, (0 ≤ (1 : Int) ∧ (1 : Int) < (t27).size) ∧ (pvIndex Tryd.prog 9 (.string t27) (.int .i64 1) = .int .u8 x51) ∧ (J30 ((x48 : Int) != x51) h34)))))))) ∧ ((decide ((y12 : Int) < 7)) = false → (Has h5 p 0) ∧ ∃ x83, (Ld h5 p 0 1 (.int .i64 x83)) ∧ (okA .i64 (x83 + 1 : Int)) ∧ ∃ h86, (St h5 p 0 1 (.int .i64 (x83 + 1)) h86) ∧ (Q h86 (.int .i64 1)))))
theorem w_word {h : Hp} {p : Nat} {Q : Hp → AV → Prop} {Qp : Hp → List PanicEntry → Prop}  (H : pre_word h p Q Qp) : FnO Tryd.prog 62 [.ref p 0 0] h Q Qp := by
 unfold pre_word at H
 refine Y59 Tryd.func62 rfl (Xc (by kernel_rfl)) <| GQ.E [(0, .ref p 0 0)] <| Y6 <| Y1 <| Ye (.int .i64 0) <| Y7 <| Y6 <| Y6 ?_
 obtain ⟨r1, h2, w3, f4, H⟩ := H
 refine Y1 <| Y9 (Y2g ([(0, .int .i64 6), (1, .int .i64 7), (2, .int .i64 8), (3, .int .i64 9), (4, .int .i64 11), (5, .int .i64 12), (6, .int .i64 13)]) El42 w3 (al_ ⟨⟨⟨trivial, rfl⟩, Y44 rfl⟩, ⟨⟨trivial, rfl⟩, Y44 rfl⟩, ⟨⟨trivial, rfl⟩, Y44 rfl⟩, ⟨⟨trivial, rfl⟩, Y44 rfl⟩, ⟨⟨trivial, rfl⟩, Y44 rfl⟩, ⟨⟨trivial, rfl⟩, Y44 rfl⟩, ⟨⟨trivial, rfl⟩, Y44 rfl⟩, trivial⟩) (al_ ⟨rfl, rfl, rfl, rfl, rfl, rfl, rfl, trivial⟩)) <| Y9 (Y5y (s := .rsl r1 0 0 7) (n := 7) rfl (by kernel_rfl) (by kernel_rfl) (.inr (.inl ⟨_, _, _, rfl, f4⟩))) <| Y5 (.int .i64 0) ?_
 refine Y7 <| Y12 ?_
 obtain ⟨I7, ⟨m10, H9⟩, H⟩ := H
 refine Y5g (fun n e h' => ∃ (y11 : Int) (y12 : Int), Env.le e [(0, .ref p 0 0), (2, .int .i64 y11), (7, .rsl r1 0 0 7), (8, .int .i64 7), (9, .int .i64 y12)] ∧ I7 n y11 y12 h') ?_ m10 ⟨0, 0, Ya (by kernel_rfl), H9⟩
 rintro m6 _ h5 ⟨y11, y12, hle, HI8⟩
 have H := H m6 y11 y12 h5 HI8
 refine Y19 _ hle <| Y6 <| Y1 <| Yl (.bool (decide ((y12 : Int) < 7))) ⟨trivial, trivial, rfl⟩ <| Y7 <| Y6 ?_
 rcases X1 (decide ((y12 : Int) < 7)) with hb13 | hb13
 ·have H := H.1 hb13
  refine Y0l hb13 <| Y0p ?_
  obtain ⟨J15, HR16, H⟩ := H
  refine Y5b (fun e h' => ∃ (y18 : Int) (y19 : ByteArray) (y20 : Bool), Env.le e [(0, .ref p 0 0), (2, .int .i64 y11), (4, .int .i64 y18), (5, .string y19), (7, .rsl r1 0 0 7), (8, .int .i64 7), (9, .int .i64 y12), (10, .bool (decide ((y12 : Int) < 7))), (47, .bool y20)] ∧ J15 y18 y19 y20 h') ?_ ?_
  ·skip
   refine Y12 <| Y6 ?_
   obtain ⟨r21, v22, o23, i24, x25, l26, H⟩ := H
   refine Y1 <| Y9 (Y57 i24) <| Y00 l26 <| Ye (.int .i64 x25) <| Y7 <| Y6 ?_
   obtain ⟨t27, k28, H⟩ := H
   refine Y1 <| Y5 (.int .i64 x25) <| Y01 k28 nc1 <| Ye (.string t27) <| Y7 <| Y6 ?_
   obtain ⟨J30, HR31, H⟩ := H
   refine Y5b (fun e h' => ∃ y33, Env.le e [(0, .ref p 0 0), (2, .int .i64 y11), (4, .int .i64 x25), (5, .string t27), (7, .rsl r1 0 0 7), (8, .int .i64 7), (9, .int .i64 y12), (10, .bool (decide ((y12 : Int) < 7))), (47, .bool y33)] ∧ J30 y33 h') ?_ ?_
   ·skip
    obtain ⟨h34, x35, k36, x37, c38, l39, H⟩ := H
    rcases X1 ((x35 : Int) != x37) with hb40 | hb40
    ·have H := H.1 hb40
     refine Y28 Tryd.checked.mixed (by kernel_rfl) [.ref p 0 0, .int .u8 x35, .string t27, .int .u8 x37, .bool true, .bool true, undA, undA, undA, undA, undA, undA, undA, undA, undA, undA, undA, .bool true, .bool true, undA, undA, undA, undA, undA, undA, undA, undA, undA, undA, undA, undA, undA, .bool true] [1] [h5, h34] h34 (by kernel_rfl) (by kernel_rfl) rfl rfl ?_ ?_
     ·refine Ym (.ref p 0 0) <| Y1n 0 (Y43 k36 nc1) <| Ym (.string t27) <| Y0o (fun _ => (Y5c (kk := .i64) (s := t27) (j := 0) rfl (by kernel_rfl) (by kernel_rfl) (by kernel_rfl) c38 l39)) <| Y0o (fun _ => (Y4q ⟨trivial, trivial, rfl⟩ hb40)) <| Ym (.bool true) <| Y0d <| Y0d <| Y0d <| Y0d <| Y0d <| Y0d <| Y0d <| Y0d <| Y0d <| Y0d <| Y0d <| Y0o (fun _ => (Y4f (.bool true))) <| Ym (.bool true) <| Y0d <| Y0d <| Y0d <| Y0d <| Y0d <| Y0d <| Y0d <| Y0d <| Y0d <| Y0d <| Y0d ?_
      exact Y0d <| Y0d <| Y0o (fun _ => (Y4f (.bool true))) (Y1m)
     exact ⟨true, Ya (by kernel_rfl), H⟩
    ·have H := H.2 hb40
     obtain ⟨f41, x42, l43, c44, t45, l46, H⟩ := H
     rcases X1 (decide ((((t45).size : Nat) : Int) ≤ (x42 + 1))) with hb47 | hb47
     ·have H := H.1 hb47
      refine Y28 Tryd.checked.mixed (by kernel_rfl) [.ref p 0 0, .int .u8 x35, .string t27, .int .u8 x37, .bool false, .bool false, .ref p 0 0, .ref p 0 0, .ref p 0 1, .int .i64 x42, .int .i64 (x42 + 1), .ref p 0 0, .ref p 0 0, .ref p 0 0, .string t45, .int .i64 ((t45).size : Nat), .bool true, .bool true, .bool true, undA, undA, undA, undA, undA, undA, undA, undA, undA, undA, undA, undA, undA, .bool true] [1] [h5, h34] h34 (by kernel_rfl) (by kernel_rfl) rfl rfl ?_ ?_
      ·refine Ym (.ref p 0 0) <| Y1n 0 (Y43 k36 nc1) <| Ym (.string t27) <| Y0o (fun _ => (Y5c (kk := .i64) (s := t27) (j := 0) rfl (by kernel_rfl) (by kernel_rfl) (by kernel_rfl) c38 l39)) <| Y0o (fun _ => (Y3e ⟨trivial, trivial, rfl⟩ hb40)) <| Ym (.bool false) <| Ym (.ref p 0 0) <| Yc 1 (Yj (0) f41) <| Yc 1 (Yk 1 (0) f41) <| Yc 1 (Yq l43) <| Y0o (fun _ => (Yn (av := .int .i64 (x42 + 1)) ⟨trivial, trivial, rfl, c44⟩ (by kernel_rfl))) <| Ym (.ref p 0 0) <| Yc 1 (Yj (0) f41) ?_
       exact Yc 1 (Yk 0 (0) f41) <| Yc 1 (Yq l46) <| Y0o (fun _ => (Y5e (s := t45) rfl (by kernel_rfl) (by kernel_rfl))) <| Y0o (fun _ => (Y5i (Yn (av := .bool (decide ((((t45).size : Nat) : Int) ≤ (x42 + 1)))) ⟨trivial, trivial, rfl⟩ (by kernel_rfl)) hb47)) <| Y0o (fun _ => (Y27 (.bool true))) <| Ym (.bool true) <| Y0d <| Y0d <| Y0d <| Y0d <| Y0d <| Y0d <| Y0d <| Y0d <| Y0d <| Y0d <| Y0d <| Y0d <| Y0d <| Y0o (fun _ => (Y4f (.bool true))) (Y1m)
      exact ⟨true, Ya (by kernel_rfl), H⟩
     ·have H := H.2 hb47
      obtain ⟨x48, c49, l50, x51, c52, l53, H⟩ := H
      refine Y28 Tryd.checked.mixed (by kernel_rfl) [.ref p 0 0, .int .u8 x35, .string t27, .int .u8 x37, .bool false, .bool false, .ref p 0 0, .ref p 0 0, .ref p 0 1, .int .i64 x42, .int .i64 (x42 + 1), .ref p 0 0, .ref p 0 0, .ref p 0 0, .string t45, .int .i64 ((t45).size : Nat), .bool false, .bool false, .bool false, .ref p 0 0, .ref p 0 0, .ref p 0 0, .string t45, .ref p 0 0, .ref p 0 0, .ref p 0 1, .int .i64 x42, .int .i64 (x42 + 1), .int .u8 x48, .string t27, .int .u8 x51, .bool ((x48 : Int) != x51), .bool ((x48 : Int) != x51)] [1] [h5, h34] h34 (by kernel_rfl) (by kernel_rfl) rfl rfl ?_ ?_
      ·refine Ym (.ref p 0 0) <| Y1n 0 (Y43 k36 nc1) <| Ym (.string t27) <| Y0o (fun _ => (Y5c (kk := .i64) (s := t27) (j := 0) rfl (by kernel_rfl) (by kernel_rfl) (by kernel_rfl) c38 l39)) <| Y0o (fun _ => (Y3e ⟨trivial, trivial, rfl⟩ hb40)) <| Ym (.bool false) <| Ym (.ref p 0 0) <| Yc 1 (Yj (0) f41) <| Yc 1 (Yk 1 (0) f41) <| Yc 1 (Yq l43) <| Y0o (fun _ => (Yn (av := .int .i64 (x42 + 1)) ⟨trivial, trivial, rfl, c44⟩ (by kernel_rfl))) <| Ym (.ref p 0 0) <| Yc 1 (Yj (0) f41) ?_
       refine Yc 1 (Yk 0 (0) f41) <| Yc 1 (Yq l46) <| Y0o (fun _ => (Y5e (s := t45) rfl (by kernel_rfl) (by kernel_rfl))) <| Y0o (fun _ => (Y5j (Yn (av := .bool (decide ((((t45).size : Nat) : Int) ≤ (x42 + 1)))) ⟨trivial, trivial, rfl⟩ (by kernel_rfl)) hb47)) <| Y0o (fun _ => (Y27 (.bool false))) <| Ym (.bool false) <| Ym (.ref p 0 0) <| Yc 1 (Yj (0) f41) <| Yc 1 (Yk 0 (0) f41) <| Yc 1 (Yq l46) <| Ym (.ref p 0 0) <| Yc 1 (Yj (0) f41) <| Yc 1 (Yk 1 (0) f41) ?_
       refine Yc 1 (Yq l43) <| Y0o (fun _ => (Yn (av := .int .i64 (x42 + 1)) ⟨trivial, trivial, rfl, c44⟩ (by kernel_rfl))) <| Y0o (fun _ => (Y5c (kk := .i64) (s := t45) (j := x42 + 1) rfl (by kernel_rfl) (by kernel_rfl) (by kernel_rfl) c49 l50)) <| Ym (.string t27) <| Y0o (fun _ => (Y5c (kk := .i64) (s := t27) (j := 1) rfl (by kernel_rfl) (by kernel_rfl) (by kernel_rfl) c52 l53)) <| Y0o (fun _ => (Yn (av := .bool ((x48 : Int) != x51)) ⟨trivial, trivial, rfl⟩ (by kernel_rfl))) ?_
       exact Y0o (fun _ => (Y27 (.bool ((x48 : Int) != x51)))) (Y1m)
      exact ⟨((x48 : Int) != x51), Ya (by kernel_rfl), H⟩
   clear H
   rintro _ h29 ⟨y33, hle, HJ32⟩
   have H := HR31 y33 h29 HJ32
   refine Y19 _ hle ?_
   rcases X1 (y33) with hb54 | hb54
   ·have H := H.1 hb54
    exact Y0l hb54 <| Y5d (⟨x25, t27, y33, Ya (by kernel_rfl), H⟩)
   ·have H := H.2 hb54
    refine Y0s hb54 <| Y0p <| Y6 <| Y6 <| Y1 <| Y5 (.string t27) <| Y9 (Y5e (s := t27) rfl (by kernel_rfl) (by kernel_rfl)) <| Y5 (.int .i64 0) <| Y7 <| Y12 ?_
    obtain ⟨I57, ⟨m60, H59⟩, H⟩ := H
    refine Y5g (fun n e h' => ∃ y61, Env.le e [(0, .ref p 0 0), (2, .int .i64 y11), (4, .int .i64 x25), (5, .string t27), (7, .rsl r1 0 0 7), (8, .int .i64 7), (9, .int .i64 y12), (10, .bool (decide ((y12 : Int) < 7))), (47, .bool y33), (49, .int .i64 ((t27).size : Nat)), (50, .int .i64 y61)] ∧ I57 n y61 h') ?_ m60 ⟨0, Ya (by kernel_rfl), H59⟩
    rintro m56 _ h55 ⟨y61, hle, HI58⟩
    have H := H m56 y61 h55 HI58
    refine Y19 _ hle <| Y6 <| Y1 <| Yl (.bool (decide ((y61 : Int) < ((t27).size : Nat)))) ⟨trivial, trivial, rfl⟩ <| Y7 <| Y6 ?_
    rcases X1 (decide ((y61 : Int) < ((t27).size : Nat))) with hb62 | hb62
    ·have H := H.1 hb62
     refine Y0l hb62 <| Y0p <| Y6 <| Y12 <| Y6 <| Y1 <| Y5 (.int .i64 y61) <| Ye (.int .i64 y61) <| Y7 ?_
     obtain ⟨x63, c64, l65, H⟩ := H
     rcases H with H | H
     ·skip
      obtain ⟨h69, k70, H⟩ := H
      refine Y1 <| Y5 (.ref p 0 0) <| Y5 (.string t27) <| Y5 (.int .i64 y61) <| Y9 (Y5c (kk := .i64) (s := t27) (j := y61) rfl (by kernel_rfl) (by kernel_rfl) (by kernel_rfl) c64 l65) <| Y01 k70 nc2 <| Y7 ?_
      obtain ⟨c71, H⟩ := H
      refine Y1 <| Yl (.int .i64 (y61 + 1)) ⟨trivial, trivial, rfl, c71⟩ <| Y5 (.int .i64 (y61 + 1)) <| Y7 ?_
      obtain ⟨m72, hl73, H⟩ := H
      exact ⟨m72, hl73, (y61 + 1), Ya (by kernel_rfl), H⟩
     ·skip
      obtain ⟨h66, ch67, k68, H⟩ := H
      exact Y1 <| Y5 (.ref p 0 0) <| Y5 (.string t27) <| Y5 (.int .i64 y61) <| Y9 (Y5c (kk := .i64) (s := t27) (j := y61) rfl (by kernel_rfl) (by kernel_rfl) (by kernel_rfl) c64 l65) <| Y2m k68 nc2 (H)
    ·have H := H.2 hb62
     refine Y0s hb62 <| Y5d <| Y6 ?_
     rcases H with H | H
     ·skip
      obtain ⟨h77, k78, H⟩ := H
      exact Y1 <| Y5 (.ref p 0 0) <| Y01 k78 nc2 <| Y7 <| Y6 <| Y1 <| Y5 (.int .i64 x25) <| Ye (.int .i64 x25) <| Y7 <| Y10 (Yw (Qp := Qp) rfl H)
     ·skip
      obtain ⟨h74, ch75, k76, H⟩ := H
      exact Y1 <| Y5 (.ref p 0 0) <| Y2m k76 nc2 (H)
  clear H
  rintro _ h14 ⟨y18, y19, y20, hle, HJ17⟩
  have H := HR16 y18 y19 y20 h14 HJ17
  refine Y19 _ hle ?_
  obtain ⟨c79, H⟩ := H
  refine Y1 <| Yl (.int .i64 (y12 + 1)) ⟨trivial, trivial, rfl, c79⟩ <| Y5 (.int .i64 (y12 + 1)) <| Y7 ?_
  obtain ⟨m80, hl81, H⟩ := H
  exact ⟨m80, hl81, y11, (y12 + 1), Ya (by kernel_rfl), H⟩
 ·have H := H.2 hb13
  refine Y0s hb13 <| Y5d <| Y6 ?_
  obtain ⟨f82, x83, l84, c85, h86, w87, H⟩ := H
  exact Y1 <| Y5 (.ref p 0 0) <| Yr (0) f82 <| Yp 1 (0) f82 <| Y00 l84 <| Yl (.int .i64 (x83 + 1)) ⟨trivial, trivial, rfl, c85⟩ <| Yr (0) f82 <| Yp 1 (0) f82 <| Y9 (Y17 w87) <| Y7 <| Y6 <| Y1 <| Ye (.int .i64 1) <| Y7 <| Y10 (Yw (Qp := Qp) rfl H)
def pre_begin (h : Hp) (p : Nat) (Q : Hp → AV → Prop) (Qp : Hp → List PanicEntry → Prop) : Prop :=
 ∃ (I3 : Nat → Hp → Prop), (∃ m6, I3 m6 h) ∧ ∀ (m2 : Nat)  (h1 : Hp), I3 m2 h1 → (∃ h7 x8, (CallOK Tryd.prog 59 [.ref p 0 0] h1 h7 (.int .u8 x8)) ∧ (((decide ((48 : Int) ≤ x8)) = true → (((decide ((x8 : Int) ≤ 57)) = true → ((∃ h15 x16, (CallOK Tryd.prog 61 [.ref p 0 0] h7 h15 (.int .i64 x16)) ∧ ∃ h18, (CallOK Tryd.prog 60 [.ref p 0 0, .int .i64 x16] h15 h18 (.tup [])) ∧ (Q h18 (.tup []))) ∨ (∃ h12, ∃ (ch13 : List PanicEntry), (Y03 Tryd.prog 61 [.ref p 0 0] h7 h12 ch13) ∧ (Qp h12 ch13)))) ∧ ((decide ((x8 : Int) ≤ 57)) = false → ((((x8 : Int) == 40) = true → (Has h7 p 0) ∧ ∃ x22, (Ld h7 p 0 1 (.int .i64 x22)) ∧ (okA .i64 (x22 + 1 : Int)) ∧ ∃ h25, (St h7 p 0 1 (.int .i64 (x22 + 1)) h25) ∧ (Has h25 p 0) ∧ ∃ s28, (NC s28) ∧ (Ld h25 p 0 3 s28) ∧ ∃ r31 h32, (Nw h25 r31 ⟨0, true, 57, 7, [.int .i64 10, .im (.val (.slice none 0 0)), .im (.val (.slice none 0 0)), .im (.val (.slice none 0 0)), .int .i64 0, .int .i64 0, .int .i64 0]⟩ h32) ∧ ∃ h34 s36, (NC s36) ∧ (App h32 s28 57 7 104 1 [.int .i64 10, .im (.val (.slice none 0 0)), .im (.val (.slice none 0 0)), .im (.val (.slice none 0 0)), .int .i64 0, .int .i64 0, .int .i64 0] h34 s36) ∧ (Has h34 p 0) ∧ (oneA h34 s36) ∧ ∃ h39, (St h34 p 0 3 s36 h39) ∧ (∃ m42, m42 < m2 ∧ I3 m42 h39)) ∧ (((x8 : Int) == 40) = false → (((decide ((97 : Int) ≤ x8)) = true → (((decide ((x8 : Int) ≤ 122)) = true → ((∃ h49 x50, (CallOK Tryd.prog 62 [.ref p 0 0] h7 h49 (.int .i64 x50)) ∧ ((((x50 : Int) == 1) = true → ∃ h53 x54, (CallOK Tryd.prog 63 [.ref p 0 0, .int .i64 1, .int .i64 (IntKind.wrap .i64 (nw .u8 (x8 - 97 : Int))), .im (.val (.slice none 0 0))] h49 h53 (.int .i64 x54)) ∧ ∃ h56, (CallOK Tryd.prog 60 [.ref p 0 0, .int .i64 x54] h53 h56 (.tup [])) ∧ (Q h56 (.tup []))) ∧ (((x50 : Int) == 1) = false → ((((x50 : Int) == 12) = true → ((∃ h62 x63, (CallOK Tryd.prog 64 [.ref p 0 0] h49 h62 (.int .i64 x63)) ∧ ∃ h65, (CallOK Tryd.prog 60 [.ref p 0 0, .int .i64 x63] h62 h65 (.tup [])) ∧ (Q h65 (.tup []))) ∨ (∃ h59, ∃ (ch60 : List PanicEntry), (Y03 Tryd.prog 64 [.ref p 0 0] h49 h59 ch60) ∧ (Qp h59 ch60)))) ∧ (((x50 : Int) == 12) = false → (Has h49 p 0) ∧ ∃ s68, (NC s68) ∧ (Ld h49 p 0 3 s68) ∧ ∃ r71 h72, (Nw h49 r71 ⟨0, true, 57, 7, [.int .i64 x50, .im (.val (.slice none 0 0)), .im (.val (.slice none 0 0)), .im (.val (.slice none 0 0)), .int .i64 0, .int .i64 0, .int .i64 0]⟩ h72) ∧ ∃ h74 s76, (NC s76) ∧ (App h72 s68 57 7 104 1 [.int .i64 x50, .im (.val (.slice none 0 0)), .im (.val (.slice none 0 0)), .im (.val (.slice none 0 0)), .int .i64 0, .int .i64 0, .int .i64 0] h74 s76) ∧ (Has h74 p 0) ∧ (oneA h74 s76) ∧ ∃ h79, (St h74 p 0 3 s76 h79) ∧ (∃ m82, m82 < m2 ∧ I3 m82 h79)))))) ∨ (∃ h46, ∃ (ch47 : List PanicEntry), (Y03 Tryd.prog 62 [.ref p 0 0] h7 h46 ch47) ∧ (Qp h46 ch47)))) ∧ ((decide ((x8 : Int) ≤ 122)) = false → ((∃ h87, (CallOK Tryd.prog 65 [.ref p 0 0] h7 h87 (.tup [])) ∧ (∃ m89, m89 < m2 ∧ I3 m89 h87)) ∨ (∃ h84, ∃ (ch85 : List PanicEntry), (Y03 Tryd.prog 65 [.ref p 0 0] h7 h84 ch85) ∧ (Qp h84 ch85)))))) ∧ ((decide ((97 : Int) ≤ x8)) = false → ((∃ h94, (CallOK Tryd.prog 65 [.ref p 0 0] h7 h94 (.tup [])) ∧ (∃ m96, m96 < m2 ∧ I3 m96 h94)) ∨ (∃ h91, ∃ (ch92 : List PanicEntry), (Y03 Tryd.prog 65 [.ref p 0 0] h7 h91 ch92) ∧ (Qp h91 ch92)))))))))) ∧ ((decide ((48 : Int) ≤ x8)) = false → ((((x8 : Int) == 40) = true → (Has h7 p 0) ∧ ∃ x100, (Ld h7 p 0 1 (.int .i64 x100)) ∧ (okA .i64 (x100 + 1 : Int)) ∧ ∃ h103, (St h7 p 0 1 (.int .i64 (x100 + 1)) h103) ∧ (Has h103 p 0) ∧ ∃ s106, (NC s106) ∧ (Ld h103 p 0 3 s106) ∧ ∃ r109 h110, (Nw h103 r109 ⟨0, true, 57, 7, [.int .i64 10, .im (.val (.slice none 0 0)), .im (.val (.slice none 0 0)), .im (.val (.slice none 0 0)), .int .i64 0, .int .i64 0, .int .i64 0]⟩ h110) ∧ ∃ h112 s114, (NC s114) ∧ (App h110 s106 57 7 104 1 [.int .i64 10, .im (.val (.slice none 0 0)), .im (.val (.slice none 0 0)), .im (.val (.slice none 0 0)), .int .i64 0, .int .i64 0, .int .i64 0] h112 s114) ∧ (Has h112 p 0) ∧ (oneA h112 s114) ∧ ∃ h117, (St h112 p 0 3 s114 h117) ∧ (∃ m120, m120 < m2 ∧ I3 m120 h117)) ∧ (((x8 : Int) == 40) = false → (((decide ((97 : Int) ≤ x8)) = true → (((decide ((x8 : Int) ≤ 122)) = true → ((∃ h127 x128, (CallOK Tryd.prog 62 [.ref p 0 0] h7 h127 (.int .i64 x128)) ∧ ((((x128 : Int) == 1) = true → ∃ h131 x132, (CallOK Tryd.prog 63 [.ref p 0 0, .int .i64 1, .int .i64 (IntKind.wrap .i64 (nw .u8 (x8 - 97 : Int))), .im (.val (.slice none 0 0))] h127 h131 (.int .i64 x132)) ∧ ∃ h134, (CallOK Tryd.prog 60 [.ref p 0 0, .int .i64 x132] h131 h134 (.tup [])) ∧ (Q h134 (.tup []))) ∧ (((x128 : Int) == 1) = false → ((((x128 : Int) == 12) = true → ((∃ h140 x141, (CallOK Tryd.prog 64 [.ref p 0 0] h127 h140 (.int .i64 x141)) ∧ ∃ h143, (CallOK Tryd.prog 60 [.ref p 0 0, .int .i64 x141] h140 h143 (.tup [])) ∧ (Q h143 (.tup []))) ∨ (∃ h137, ∃ (ch138 : List PanicEntry), (Y03 Tryd.prog 64 [.ref p 0 0] h127 h137 ch138) ∧ (Qp h137 ch138)))) ∧ (((x128 : Int) == 12) = false → (Has h127 p 0) ∧ ∃ s146, (NC s146) ∧ (Ld h127 p 0 3 s146) ∧ ∃ r149 h150, (Nw h127 r149 ⟨0, true, 57, 7, [.int .i64 x128, .im (.val (.slice none 0 0)), .im (.val (.slice none 0 0)), .im (.val (.slice none 0 0)), .int .i64 0, .int .i64 0, .int .i64 0]⟩ h150) ∧ ∃ h152 s154, (NC s154) ∧ (App h150 s146 57 7 104 1 [.int .i64 x128, .im (.val (.slice none 0 0)), .im (.val (.slice none 0 0)), .im (.val (.slice none 0 0)), .int .i64 0, .int .i64 0, .int .i64 0] h152 s154) ∧ (Has h152 p 0) ∧ (oneA h152 s154) ∧ ∃ h157, (St h152 p 0 3 s154 h157) ∧ (∃ m160, m160 < m2 ∧ I3 m160 h157)))))) ∨ (∃ h124, ∃ (ch125 : List PanicEntry), (Y03 Tryd.prog 62 [.ref p 0 0] h7 h124 ch125) ∧ (Qp h124 ch125)))) ∧ ((decide ((x8 : Int) ≤ 122)) = false → ((∃ h165, (CallOK Tryd.prog 65 [.ref p 0 0] h7 h165 (.tup [])) ∧ (∃ m167, m167 < m2 ∧ I3 m167 h165)) ∨ (∃ h162, ∃ (ch163 : List PanicEntry), (Y03 Tryd.prog 65 [.ref p 0 0] h7 h162 ch163) ∧ (Qp h162 ch163)))))) ∧ ((decide ((97 : Int) ≤ x8)) = false → ((∃ h172, (CallOK Tryd.prog 65 [.ref p 0 0] h7 h172 (.tup [])) ∧ (∃ m174, m174 < m2 ∧ I3 m174 h172)) ∨ (∃ h169, ∃ (ch170 : List PanicEntry), (Y03 Tryd.prog 65 [.ref p 0 0] h7 h169 ch170) ∧ (Qp h169 ch170))))))))))
theorem w_begin {h : Hp} {p : Nat} {Q : Hp → AV → Prop} {Qp : Hp → List PanicEntry → Prop}  (H : pre_begin h p Q Qp) : FnO Tryd.prog 49 [.ref p 0 0] h Q Qp := by
 unfold pre_begin at H
 refine Y59 Tryd.func49 rfl (Xc (by kernel_rfl)) <| GQ.E [(0, .ref p 0 0)] <| Y12 ?_
 obtain ⟨I3, ⟨m6, H5⟩, H⟩ := H
 refine Y5g (fun n e h' => Env.le e [(0, .ref p 0 0)] ∧ I3 n h') ?_ m6 ⟨Ya (by kernel_rfl), H5⟩
 rintro m2 _ h1 ⟨hle, HI4⟩
 have H := H m2 h1 HI4
 refine Y19 _ hle <| Y12 <| Y6 ?_
 obtain ⟨h7, x8, k9, H⟩ := H
 refine Y1 <| Y5 (.ref p 0 0) <| Y01 k9 nc1 <| Ye (.int .u8 x8) <| Y7 <| Y12 <| Y6 ?_
 rcases X1 (decide ((48 : Int) ≤ x8)) with hb10 | hb10
 ·have H := H.1 hb10
  refine Y1 <| Y5 (.int .u8 x8) <| Y9 (Y4q ⟨trivial, trivial, rfl⟩ hb10) <| Y5 (.bool true) <| Y5 (.int .u8 x8) <| Yl (.bool (decide ((x8 : Int) ≤ 57))) ⟨trivial, trivial, rfl⟩ <| Y9 (Y42 (s := .bool (decide ((x8 : Int) ≤ 57))) rfl (by kernel_rfl) (by kernel_rfl) ⟨trivial, rfl⟩) <| Ye (.bool (decide ((x8 : Int) ≤ 57))) <| Y7 ?_
  rcases X1 (decide ((x8 : Int) ≤ 57)) with hb11 | hb11
  ·have H := H.1 hb11
   refine Y0l hb11 <| Y6 ?_
   rcases H with H | H
   ·skip
    obtain ⟨h15, x16, k17, h18, k19, H⟩ := H
    exact Y1 <| Y5 (.ref p 0 0) <| Y5 (.ref p 0 0) <| Y01 k17 nc1 <| Y01 k19 nc2 <| Y7 <| Y10 (Yw (Qp := Qp) rfl H)
   ·skip
    obtain ⟨h12, ch13, k14, H⟩ := H
    exact Y1 <| Y5 (.ref p 0 0) <| Y5 (.ref p 0 0) <| Y2m k14 nc1 (H)
  ·have H := H.2 hb11
   refine Y0s hb11 <| Y6 <| Y1 <| Y5 (.int .u8 x8) <| Yl (.bool ((x8 : Int) == 40)) ⟨trivial, trivial, rfl⟩ <| Ye (.bool ((x8 : Int) == 40)) <| Y7 ?_
   rcases X1 ((x8 : Int) == 40) with hb20 | hb20
   ·have H := H.1 hb20
    refine Y0l hb20 <| Y6 ?_
    obtain ⟨f21, x22, l23, c24, h25, w26, H⟩ := H
    refine Y1 <| Y5 (.ref p 0 0) <| Yr (0) f21 <| Yp 1 (0) f21 <| Y00 l23 <| Yl (.int .i64 (x22 + 1)) ⟨trivial, trivial, rfl, c24⟩ <| Yr (0) f21 <| Yp 1 (0) f21 <| Y9 (Y17 w26) <| Y7 ?_
    obtain ⟨f27, s28, n29, l30, r31, h32, w33, h34, s36, n37, w35, f38, f41, h39, w40, H⟩ := H
    refine Y1 <| Y5 (.ref p 0 0) <| Y5 (.ref p 0 0) <| Yr (0) f27 <| Yp 3 (0) f27 <| Y00 l30 ?_
    refine Y9 (Y58 (rs := [(0, [.int .i64 10])]) (z := [.int .i64 0, .slice none 0 0, .slice none 0 0, .slice none 0 0, .int .i64 0, .int .i64 0, .int .i64 0]) (fs := [(0, 1), (1, 1), (2, 1), (3, 1), (4, 1), (5, 1), (6, 1)]) (qs := [(0, .int .i64 10)]) (cs := [.int .i64 10, .im (.val (.slice none 0 0)), .im (.val (.slice none 0 0)), .im (.val (.slice none 0 0)), .int .i64 0, .int .i64 0, .int .i64 0]) rfl (by kernel_rfl) (by kernel_rfl) (by kernel_rfl) (al_ ⟨⟨⟨trivial, rfl⟩, Y44 rfl⟩, trivial⟩) (CL.cons rfl (CL.nil)) (by kernel_rfl)) ?_
    refine Y9 (Y2g ([(0, .agg [.int .i64 10, .im (.val (.slice none 0 0)), .im (.val (.slice none 0 0)), .im (.val (.slice none 0 0)), .int .i64 0, .int .i64 0, .int .i64 0])]) El58 w33 (al_ ⟨⟨⟨trivial, rfl⟩, (okC_agg (al_ ⟨rfl, rfl, rfl, rfl, rfl, rfl, rfl, trivial⟩))⟩, trivial⟩) (al_ ⟨rfl, rfl, rfl, rfl, rfl, rfl, rfl, trivial⟩)) <| Y9 (Y3g (.rsl r31 0 0 1) El58 (SrcA.rsl (m := 1) (by kernel_rfl) (Nw.at w33) rfl rfl rfl (Xc rfl)) w35) <| Yr (0) f38 <| Yp 3 (0) f38 <| Y9 (Y35 w40 n37 f41) <| Y7 ?_
    obtain ⟨m42, hl43, H⟩ := H
    exact ⟨m42, hl43, Ya (by kernel_rfl), H⟩
   ·have H := H.2 hb20
    refine Y0s hb20 <| Y6 ?_
    rcases X1 (decide ((97 : Int) ≤ x8)) with hb44 | hb44
    ·have H := H.1 hb44
     refine Y1 <| Y5 (.int .u8 x8) <| Y9 (Y4q ⟨trivial, trivial, rfl⟩ hb44) <| Y5 (.bool true) <| Y5 (.int .u8 x8) <| Yl (.bool (decide ((x8 : Int) ≤ 122))) ⟨trivial, trivial, rfl⟩ <| Y9 (Y42 (s := .bool (decide ((x8 : Int) ≤ 122))) rfl (by kernel_rfl) (by kernel_rfl) ⟨trivial, rfl⟩) <| Ye (.bool (decide ((x8 : Int) ≤ 122))) <| Y7 ?_
     rcases X1 (decide ((x8 : Int) ≤ 122)) with hb45 | hb45
     ·have H := H.1 hb45
      refine Y0l hb45 <| Y6 ?_
      rcases H with H | H
      ·skip
       obtain ⟨h49, x50, k51, H⟩ := H
       refine Y1 <| Y5 (.ref p 0 0) <| Y01 k51 nc1 <| Ye (.int .i64 x50) <| Y7 <| Y6 <| Y6 <| Y1 <| Y5 (.int .i64 x50) <| Yl (.bool ((x50 : Int) == 1)) ⟨trivial, trivial, rfl⟩ <| Y7 ?_
       rcases X1 ((x50 : Int) == 1) with hb52 | hb52
       ·have H := H.1 hb52
        refine Y0l hb52 <| Y6 ?_
        obtain ⟨h53, x54, k55, h56, k57, H⟩ := H
        exact Y1 <| Y5 (.ref p 0 0) <| Y5 (.ref p 0 0) <| Y5 (.int .u8 x8) <| Yl (.int .u8 (nw .u8 (x8 - 97 : Int))) ⟨trivial, trivial, rfl, trivial⟩ <| Y9 (Y5z (k := .u8) (kd := .i64) (n := nw .u8 (x8 - 97 : Int)) (av := .int .i64 (IntKind.wrap .i64 (nw .u8 (x8 - 97 : Int)))) rfl (by kernel_rfl) (by kernel_rfl) (by kernel_rfl) (by kernel_rfl)) <| Y01 k55 (al_ ⟨⟨trivial, rfl⟩, ⟨trivial, rfl⟩, ⟨trivial, rfl⟩, ⟨trivial, rfl⟩, trivial⟩) <| Y01 k57 nc2 <| Y7 <| Y10 (Yw (Qp := Qp) rfl H)
       ·have H := H.2 hb52
        refine Y0s hb52 <| Y0p <| Y6 <| Y6 <| Y1 <| Y5 (.int .i64 x50) <| Yl (.bool ((x50 : Int) == 12)) ⟨trivial, trivial, rfl⟩ <| Y7 ?_
        rcases X1 ((x50 : Int) == 12) with hb58 | hb58
        ·have H := H.1 hb58
         refine Y0l hb58 <| Y6 ?_
         rcases H with H | H
         ·skip
          obtain ⟨h62, x63, k64, h65, k66, H⟩ := H
          exact Y1 <| Y5 (.ref p 0 0) <| Y5 (.ref p 0 0) <| Y01 k64 nc1 <| Y01 k66 nc2 <| Y7 <| Y10 (Yw (Qp := Qp) rfl H)
         ·skip
          obtain ⟨h59, ch60, k61, H⟩ := H
          exact Y1 <| Y5 (.ref p 0 0) <| Y5 (.ref p 0 0) <| Y2m k61 nc1 (H)
        ·have H := H.2 hb58
         refine Y0s hb58 <| Y0p ?_
         obtain ⟨f67, s68, n69, l70, r71, h72, w73, h74, s76, n77, w75, f78, f81, h79, w80, H⟩ := H
         refine Y1 <| Y5 (.ref p 0 0) <| Y5 (.ref p 0 0) <| Yr (0) f67 <| Yp 3 (0) f67 <| Y00 l70 <| Y5 (.int .i64 x50) ?_
         refine Y9 (Y58 (rs := [(0, [.int .i64 x50])]) (z := [.int .i64 0, .slice none 0 0, .slice none 0 0, .slice none 0 0, .int .i64 0, .int .i64 0, .int .i64 0]) (fs := [(0, 1), (1, 1), (2, 1), (3, 1), (4, 1), (5, 1), (6, 1)]) (qs := [(0, .int .i64 x50)]) (cs := [.int .i64 x50, .im (.val (.slice none 0 0)), .im (.val (.slice none 0 0)), .im (.val (.slice none 0 0)), .int .i64 0, .int .i64 0, .int .i64 0]) rfl (by kernel_rfl) (by kernel_rfl) (by kernel_rfl) (al_ ⟨⟨⟨trivial, rfl⟩, Y44 rfl⟩, trivial⟩) (CL.cons rfl (CL.nil)) (by kernel_rfl)) ?_
         refine Y9 (Y2g ([(0, .agg [.int .i64 x50, .im (.val (.slice none 0 0)), .im (.val (.slice none 0 0)), .im (.val (.slice none 0 0)), .int .i64 0, .int .i64 0, .int .i64 0])]) El58 w73 (al_ ⟨⟨⟨trivial, rfl⟩, (okC_agg (al_ ⟨rfl, rfl, rfl, rfl, rfl, rfl, rfl, trivial⟩))⟩, trivial⟩) (al_ ⟨rfl, rfl, rfl, rfl, rfl, rfl, rfl, trivial⟩)) <| Y9 (Y3g (.rsl r71 0 0 1) El58 (SrcA.rsl (m := 1) (by kernel_rfl) (Nw.at w73) rfl rfl rfl (Xc rfl)) w75) <| Yr (0) f78 <| Yp 3 (0) f78 <| Y9 (Y35 w80 n77 f81) <| Y7 ?_
         obtain ⟨m82, hl83, H⟩ := H
         exact ⟨m82, hl83, Ya (by kernel_rfl), H⟩
      ·skip
       obtain ⟨h46, ch47, k48, H⟩ := H
       exact Y1 <| Y5 (.ref p 0 0) <| Y2m k48 nc1 (H)
     ·have H := H.2 hb45
      refine Y0s hb45 ?_
      rcases H with H | H
      ·skip
       obtain ⟨h87, k88, H⟩ := H
       refine Y1 <| Y5 (.ref p 0 0) <| Y01 k88 nc1 <| Y7 ?_
       obtain ⟨m89, hl90, H⟩ := H
       exact ⟨m89, hl90, Ya (by kernel_rfl), H⟩
      ·skip
       obtain ⟨h84, ch85, k86, H⟩ := H
       exact Y1 <| Y5 (.ref p 0 0) <| Y2m k86 nc1 (H)
    ·have H := H.2 hb44
     refine Y1 <| Y5 (.int .u8 x8) <| Y9 (Y3e ⟨trivial, trivial, rfl⟩ hb44) <| Y5 (.bool false) <| Yv <| Yv <| Y9 (Y27 (.bool false)) <| Ye (.bool false) <| Y7 (Y52 (b := false) (by kernel_rfl) (fun e => by cases e) (fun _ => ?_))
     rcases H with H | H
     ·skip
      obtain ⟨h94, k95, H⟩ := H
      refine Y1 <| Y5 (.ref p 0 0) <| Y01 k95 nc1 <| Y7 ?_
      obtain ⟨m96, hl97, H⟩ := H
      exact ⟨m96, hl97, Ya (by kernel_rfl), H⟩
     ·skip
      obtain ⟨h91, ch92, k93, H⟩ := H
      exact Y1 <| Y5 (.ref p 0 0) <| Y2m k93 nc1 (H)
 ·have H := H.2 hb10
  refine Y1 <| Y5 (.int .u8 x8) <| Y9 (Y3e ⟨trivial, trivial, rfl⟩ hb10) <| Y5 (.bool false) <| Yv <| Yv <| Y9 (Y27 (.bool false)) <| Ye (.bool false) <| Y7 (Y52 (b := false) (by kernel_rfl) (fun e => by cases e) (fun _ => ?_))
  refine Y6 <| Y1 <| Y5 (.int .u8 x8) <| Yl (.bool ((x8 : Int) == 40)) ⟨trivial, trivial, rfl⟩ <| Ye (.bool ((x8 : Int) == 40)) <| Y7 ?_
  rcases X1 ((x8 : Int) == 40) with hb98 | hb98
  ·have H := H.1 hb98
   refine Y0l hb98 <| Y6 ?_
   obtain ⟨f99, x100, l101, c102, h103, w104, H⟩ := H
   refine Y1 <| Y5 (.ref p 0 0) <| Yr (0) f99 <| Yp 1 (0) f99 <| Y00 l101 <| Yl (.int .i64 (x100 + 1)) ⟨trivial, trivial, rfl, c102⟩ <| Yr (0) f99 <| Yp 1 (0) f99 <| Y9 (Y17 w104) <| Y7 ?_
   obtain ⟨f105, s106, n107, l108, r109, h110, w111, h112, s114, n115, w113, f116, f119, h117, w118, H⟩ := H
   refine Y1 <| Y5 (.ref p 0 0) <| Y5 (.ref p 0 0) <| Yr (0) f105 <| Yp 3 (0) f105 <| Y00 l108 ?_
   refine Y9 (Y58 (rs := [(0, [.int .i64 10])]) (z := [.int .i64 0, .slice none 0 0, .slice none 0 0, .slice none 0 0, .int .i64 0, .int .i64 0, .int .i64 0]) (fs := [(0, 1), (1, 1), (2, 1), (3, 1), (4, 1), (5, 1), (6, 1)]) (qs := [(0, .int .i64 10)]) (cs := [.int .i64 10, .im (.val (.slice none 0 0)), .im (.val (.slice none 0 0)), .im (.val (.slice none 0 0)), .int .i64 0, .int .i64 0, .int .i64 0]) rfl (by kernel_rfl) (by kernel_rfl) (by kernel_rfl) (al_ ⟨⟨⟨trivial, rfl⟩, Y44 rfl⟩, trivial⟩) (CL.cons rfl (CL.nil)) (by kernel_rfl)) ?_
   refine Y9 (Y2g ([(0, .agg [.int .i64 10, .im (.val (.slice none 0 0)), .im (.val (.slice none 0 0)), .im (.val (.slice none 0 0)), .int .i64 0, .int .i64 0, .int .i64 0])]) El58 w111 (al_ ⟨⟨⟨trivial, rfl⟩, (okC_agg (al_ ⟨rfl, rfl, rfl, rfl, rfl, rfl, rfl, trivial⟩))⟩, trivial⟩) (al_ ⟨rfl, rfl, rfl, rfl, rfl, rfl, rfl, trivial⟩)) <| Y9 (Y3g (.rsl r109 0 0 1) El58 (SrcA.rsl (m := 1) (by kernel_rfl) (Nw.at w111) rfl rfl rfl (Xc rfl)) w113) <| Yr (0) f116 <| Yp 3 (0) f116 <| Y9 (Y35 w118 n115 f119) <| Y7 ?_
   obtain ⟨m120, hl121, H⟩ := H
   exact ⟨m120, hl121, Ya (by kernel_rfl), H⟩
  ·have H := H.2 hb98
   refine Y0s hb98 <| Y6 ?_
   rcases X1 (decide ((97 : Int) ≤ x8)) with hb122 | hb122
   ·have H := H.1 hb122
    refine Y1 <| Y5 (.int .u8 x8) <| Y9 (Y4q ⟨trivial, trivial, rfl⟩ hb122) <| Y5 (.bool true) <| Y5 (.int .u8 x8) <| Yl (.bool (decide ((x8 : Int) ≤ 122))) ⟨trivial, trivial, rfl⟩ <| Y9 (Y42 (s := .bool (decide ((x8 : Int) ≤ 122))) rfl (by kernel_rfl) (by kernel_rfl) ⟨trivial, rfl⟩) <| Ye (.bool (decide ((x8 : Int) ≤ 122))) <| Y7 ?_
    rcases X1 (decide ((x8 : Int) ≤ 122)) with hb123 | hb123
    ·have H := H.1 hb123
     refine Y0l hb123 <| Y6 ?_
     rcases H with H | H
     ·skip
      obtain ⟨h127, x128, k129, H⟩ := H
      refine Y1 <| Y5 (.ref p 0 0) <| Y01 k129 nc1 <| Ye (.int .i64 x128) <| Y7 <| Y6 <| Y6 <| Y1 <| Y5 (.int .i64 x128) <| Yl (.bool ((x128 : Int) == 1)) ⟨trivial, trivial, rfl⟩ <| Y7 ?_
      rcases X1 ((x128 : Int) == 1) with hb130 | hb130
      ·have H := H.1 hb130
       refine Y0l hb130 <| Y6 ?_
       obtain ⟨h131, x132, k133, h134, k135, H⟩ := H
       exact Y1 <| Y5 (.ref p 0 0) <| Y5 (.ref p 0 0) <| Y5 (.int .u8 x8) <| Yl (.int .u8 (nw .u8 (x8 - 97 : Int))) ⟨trivial, trivial, rfl, trivial⟩ <| Y9 (Y5z (k := .u8) (kd := .i64) (n := nw .u8 (x8 - 97 : Int)) (av := .int .i64 (IntKind.wrap .i64 (nw .u8 (x8 - 97 : Int)))) rfl (by kernel_rfl) (by kernel_rfl) (by kernel_rfl) (by kernel_rfl)) <| Y01 k133 (al_ ⟨⟨trivial, rfl⟩, ⟨trivial, rfl⟩, ⟨trivial, rfl⟩, ⟨trivial, rfl⟩, trivial⟩) <| Y01 k135 nc2 <| Y7 <| Y10 (Yw (Qp := Qp) rfl H)
      ·have H := H.2 hb130
       refine Y0s hb130 <| Y0p <| Y6 <| Y6 <| Y1 <| Y5 (.int .i64 x128) <| Yl (.bool ((x128 : Int) == 12)) ⟨trivial, trivial, rfl⟩ <| Y7 ?_
       rcases X1 ((x128 : Int) == 12) with hb136 | hb136
       ·have H := H.1 hb136
        refine Y0l hb136 <| Y6 ?_
        rcases H with H | H
        ·skip
         obtain ⟨h140, x141, k142, h143, k144, H⟩ := H
         exact Y1 <| Y5 (.ref p 0 0) <| Y5 (.ref p 0 0) <| Y01 k142 nc1 <| Y01 k144 nc2 <| Y7 <| Y10 (Yw (Qp := Qp) rfl H)
        ·skip
         obtain ⟨h137, ch138, k139, H⟩ := H
         exact Y1 <| Y5 (.ref p 0 0) <| Y5 (.ref p 0 0) <| Y2m k139 nc1 (H)
       ·have H := H.2 hb136
        refine Y0s hb136 <| Y0p ?_
        obtain ⟨f145, s146, n147, l148, r149, h150, w151, h152, s154, n155, w153, f156, f159, h157, w158, H⟩ := H
        refine Y1 <| Y5 (.ref p 0 0) <| Y5 (.ref p 0 0) <| Yr (0) f145 <| Yp 3 (0) f145 <| Y00 l148 <| Y5 (.int .i64 x128) ?_
        refine Y9 (Y58 (rs := [(0, [.int .i64 x128])]) (z := [.int .i64 0, .slice none 0 0, .slice none 0 0, .slice none 0 0, .int .i64 0, .int .i64 0, .int .i64 0]) (fs := [(0, 1), (1, 1), (2, 1), (3, 1), (4, 1), (5, 1), (6, 1)]) (qs := [(0, .int .i64 x128)]) (cs := [.int .i64 x128, .im (.val (.slice none 0 0)), .im (.val (.slice none 0 0)), .im (.val (.slice none 0 0)), .int .i64 0, .int .i64 0, .int .i64 0]) rfl (by kernel_rfl) (by kernel_rfl) (by kernel_rfl) (al_ ⟨⟨⟨trivial, rfl⟩, Y44 rfl⟩, trivial⟩) (CL.cons rfl (CL.nil)) (by kernel_rfl)) ?_
        refine Y9 (Y2g ([(0, .agg [.int .i64 x128, .im (.val (.slice none 0 0)), .im (.val (.slice none 0 0)), .im (.val (.slice none 0 0)), .int .i64 0, .int .i64 0, .int .i64 0])]) El58 w151 (al_ ⟨⟨⟨trivial, rfl⟩, (okC_agg (al_ ⟨rfl, rfl, rfl, rfl, rfl, rfl, rfl, trivial⟩))⟩, trivial⟩) (al_ ⟨rfl, rfl, rfl, rfl, rfl, rfl, rfl, trivial⟩)) <| Y9 (Y3g (.rsl r149 0 0 1) El58 (SrcA.rsl (m := 1) (by kernel_rfl) (Nw.at w151) rfl rfl rfl (Xc rfl)) w153) <| Yr (0) f156 <| Yp 3 (0) f156 <| Y9 (Y35 w158 n155 f159) <| Y7 ?_
        obtain ⟨m160, hl161, H⟩ := H
        exact ⟨m160, hl161, Ya (by kernel_rfl), H⟩
     ·skip
      obtain ⟨h124, ch125, k126, H⟩ := H
      exact Y1 <| Y5 (.ref p 0 0) <| Y2m k126 nc1 (H)
    ·have H := H.2 hb123
     refine Y0s hb123 ?_
     rcases H with H | H
     ·skip
      obtain ⟨h165, k166, H⟩ := H
      refine Y1 <| Y5 (.ref p 0 0) <| Y01 k166 nc1 <| Y7 ?_
      obtain ⟨m167, hl168, H⟩ := H
      exact ⟨m167, hl168, Ya (by kernel_rfl), H⟩
     ·skip
      obtain ⟨h162, ch163, k164, H⟩ := H
      exact Y1 <| Y5 (.ref p 0 0) <| Y2m k164 nc1 (H)
   ·have H := H.2 hb122
    refine Y1 <| Y5 (.int .u8 x8) <| Y9 (Y3e ⟨trivial, trivial, rfl⟩ hb122) <| Y5 (.bool false) <| Yv <| Yv <| Y9 (Y27 (.bool false)) <| Ye (.bool false) <| Y7 (Y52 (b := false) (by kernel_rfl) (fun e => by cases e) (fun _ => ?_))
    rcases H with H | H
    ·skip
     obtain ⟨h172, k173, H⟩ := H
     refine Y1 <| Y5 (.ref p 0 0) <| Y01 k173 nc1 <| Y7 ?_
     obtain ⟨m174, hl175, H⟩ := H
     exact ⟨m174, hl175, Ya (by kernel_rfl), H⟩
    ·skip
     obtain ⟨h169, ch170, k171, H⟩ := H
     exact Y1 <| Y5 (.ref p 0 0) <| Y2m k171 nc1 (H)
def pre_formula (h : Hp) (p : Nat) (Q : Hp → AV → Prop) (Qp : Hp → List PanicEntry → Prop) : Prop :=
 ∃ (I3 : Nat → Int → Hp → Prop), (∃ m6, I3 m6 0 h) ∧ ∀ m2 y7 h1, I3 m2 y7 h1 → (((∃ h11, (CallOK Tryd.prog 49 [.ref p 0 0] h1 h11 (.tup [])) ∧ ((∃ h16 x17, (CallOK Tryd.prog 50 [.ref p 0 0] h11 h16 (.int .i64 x17)) ∧ ∃ (I21 : Nat → Int → Hp → Prop), (∃ m24, I21 m24 x17 h16) ∧ ∀ m20 y25 h19, I21 m20 y25 h19 → (((((y25 : Int) == 1) = true → ((∃ h30 x31, (CallOK Tryd.prog 50 [.ref p 0 0] h19 h30 (.int .i64 x31)) ∧ (∃ m33, m33 < m20 ∧ I21 m33 x31 h30)) ∨ (∃ h27, ∃ (ch28 : List PanicEntry), (Y03 Tryd.prog 50 [.ref p 0 0] h19 h27 ch28) ∧ (Qp h27 ch28)))) ∧ (((y25 : Int) == 1) = false → ((((y25 : Int) == 2) = true → ∃ h36 x37, (CallOK Tryd.prog 51 [.ref p 0 0] h19 h36 (.int .i64 x37)) ∧ (Q h36 (.int .i64 x37))) ∧ (((y25 : Int) == 2) = false → (∃ m39, m39 < m2 ∧ I3 m39 y7 h19))))))) ∨ (∃ h13, ∃ (ch14 : List PanicEntry), (Y03 Tryd.prog 50 [.ref p 0 0] h11 h13 ch14) ∧ (Qp h13 ch14)))) ∨ (∃ h8, ∃ (ch9 : List PanicEntry), (Y03 Tryd.prog 49 [.ref p 0 0] h1 h8 ch9) ∧ (Qp h8 ch9))))
theorem w_formula {h : Hp} {p : Nat} {Q : Hp → AV → Prop} {Qp : Hp → List PanicEntry → Prop}  (H : pre_formula h p Q Qp) : FnO Tryd.prog 32 [.ref p 0 0] h Q Qp := by
 unfold pre_formula at H
 refine Y59 Tryd.func32 rfl (Xc (by kernel_rfl)) <| GQ.E [(0, .ref p 0 0)] <| Y6 <| Y1 <| Ye (.int .i64 0) <| Y7 <| Y12 ?_
 obtain ⟨I3, ⟨m6, H5⟩, H⟩ := H
 refine Y5g (fun n e h' => ∃ y7, Env.le e [(0, .ref p 0 0), (2, .int .i64 y7)] ∧ I3 n y7 h') ?_ m6 ⟨0, Ya (by kernel_rfl), H5⟩
 rintro m2 _ h1 ⟨y7, hle, HI4⟩
 have H := H m2 y7 h1 HI4
 refine Y19 _ hle <| Y12 <| Y6 ?_
 rcases H with H | H
 ·skip
  obtain ⟨h11, k12, H⟩ := H
  refine Y1 <| Y5 (.ref p 0 0) <| Y01 k12 nc1 <| Y7 <| Y6 ?_
  rcases H with H | H
  ·skip
   obtain ⟨h16, x17, k18, H⟩ := H
   refine Y1 <| Y5 (.ref p 0 0) <| Y01 k18 nc1 <| Ye (.int .i64 x17) <| Y7 <| Y6 <| Y12 ?_
   obtain ⟨I21, ⟨m24, H23⟩, H⟩ := H
   refine Y5g (fun n e h' => ∃ y25, Env.le e [(0, .ref p 0 0), (2, .int .i64 y7), (3, .int .i64 y25)] ∧ I21 n y25 h') ?_ m24 ⟨x17, Ya (by kernel_rfl), H23⟩
   rintro m20 _ h19 ⟨y25, hle, HI22⟩
   have H := H m20 y25 h19 HI22
   refine Y19 _ hle <| Y6 <| Y6 <| Y1 <| Y5 (.int .i64 y25) <| Yl (.bool ((y25 : Int) == 1)) ⟨trivial, trivial, rfl⟩ <| Y7 ?_
   rcases X1 ((y25 : Int) == 1) with hb26 | hb26
   ·have H := H.1 hb26
    refine Y0l hb26 <| Y0p <| Y12 ?_
    rcases H with H | H
    ·skip
     obtain ⟨h30, x31, k32, H⟩ := H
     refine Y1 <| Y5 (.ref p 0 0) <| Y01 k32 nc1 <| Ye (.int .i64 x31) <| Y7 ?_
     obtain ⟨m33, hl34, H⟩ := H
     exact ⟨m33, hl34, x31, Ya (by kernel_rfl), H⟩
    ·skip
     obtain ⟨h27, ch28, k29, H⟩ := H
     exact Y1 <| Y5 (.ref p 0 0) <| Y2m k29 nc1 (H)
   ·have H := H.2 hb26
    refine Y0s hb26 <| Y5d <| Y6 <| Y1 <| Y5 (.int .i64 y25) <| Yl (.bool ((y25 : Int) == 2)) ⟨trivial, trivial, rfl⟩ <| Y7 ?_
    rcases X1 ((y25 : Int) == 2) with hb35 | hb35
    ·have H := H.1 hb35
     refine Y0l hb35 <| Y6 ?_
     obtain ⟨h36, x37, k38, H⟩ := H
     exact Y1 <| Y5 (.ref p 0 0) <| Y01 k38 nc1 <| Ye (.int .i64 x37) <| Y7 <| Y10 (Yw (Qp := Qp) rfl H)
    ·have H := H.2 hb35
     refine Y0s hb35 <| Y0p ?_
     obtain ⟨m39, hl40, H⟩ := H
     exact ⟨m39, hl40, y7, Ya (by kernel_rfl), H⟩
  ·skip
   obtain ⟨h13, ch14, k15, H⟩ := H
   exact Y1 <| Y5 (.ref p 0 0) <| Y2m k15 nc1 (H)
 ·skip
  obtain ⟨h8, ch9, k10, H⟩ := H
  exact Y1 <| Y5 (.ref p 0 0) <| Y2m k10 nc1 (H)
def pre_flat (h : Hp) (p : Nat) (a1 : AV) (a2 : Int) (Q : Hp → AV → Prop) (Qp : Hp → List PanicEntry → Prop) : Prop :=
 (Has h p 0) ∧ ∃ s2, (NC s2) ∧ (Ld h p 0 2 s2) ∧ ∃ r5 v6 o7, (Ix h s2 4 (a2 : Int) (.ref r5 v6 o7)) ∧ (Has h r5 v6) ∧ ∃ x10 x11, (LdN h r5 v6 (o7 + 0) 2 [.int .i64 x10, .int .i64 x11]) ∧ ∃ r13 h14, (Nw h r13 ⟨0, true, 26, 2, [.int .i64 x10, .int .i64 x11]⟩ h14) ∧ ∃ h16 s18, (NC s18) ∧ (App h14 a1 26 2 16 1 [.int .i64 x10, .int .i64 x11] h16 s18) ∧ (Has h16 p 0) ∧ ∃ s21, (NC s21) ∧ (Ld h16 p 0 2 s21) ∧ ∃ r24 v25 o26, (Ix h16 s21 4 (a2 : Int) (.ref r24 v25 o26)) ∧ (Has h16 r24 v25) ∧ ∃ s29, (NC s29) ∧ (Ld h16 r24 v25 (o26 + 2) s29) ∧ ∃ n32, (Len h16 s29 n32) ∧ ∃ (I36 : Nat → AV → Int → Hp → Prop), (∃ m39, I36 m39 s18 0 h16) ∧ ∀ m35 y40 y42 h34, I36 m35 y40 y42 h34 → NC y40 → ((((decide ((y42 : Int) < ((n32 : Nat) : Int))) = true → ∃ r44 v45 o46, (Ix h34 s29 1 (y42 : Int) (.ref r44 v45 o46)) ∧ ∃ x48, (Ld h34 r44 v45 o46 (.int .i64 x48)) ∧ ∃ h50 s51, (NC s51) ∧ (CallOK Tryd.prog 33 [.ref p 0 0, y40, .int .i64 x48] h34 h50 s51) ∧ (okA .i64 (y42 + 1 : Int)) ∧ (∃ m55, m55 < m35 ∧ I36 m55 s51 (y42 + 1) h50)) ∧ ((decide ((y42 : Int) < ((n32 : Nat) : Int))) = false → (Q h34 y40))))
theorem w_flat {h : Hp} {p : Nat} {a1 : AV} {a2 : Int} {Q : Hp → AV → Prop} {Qp : Hp → List PanicEntry → Prop} (na1 : NC a1) (H : pre_flat h p a1 a2 Q Qp) : FnO Tryd.prog 33 [.ref p 0 0, a1, .int .i64 a2] h Q Qp := by
 unfold pre_flat at H
 refine Y59 Tryd.func33 rfl (Xc (by kernel_rfl)) <| GQ.E [(0, .ref p 0 0), (1, a1), (2, .int .i64 a2)] <| Y6 <| Y1 <| Ye (.im (.val (.slice none 0 0))) <| Y7 <| Y6 ?_
 obtain ⟨f1, s2, n3, l4, r5, v6, o7, i8, f9, x10, x11, l12, r13, h14, w15, h16, s18, n19, w17, H⟩ := H
 refine Y1 (Y5 (a1) ?_ na1)
 refine Y5 (.ref p 0 0) <| Yr (0) f1 <| Yp 2 (0) f1 <| Y00 l4 <| Y5 (.int .i64 a2) <| Y9 (Y57 i8) <| Yp 0 (o7) f9 <| Y9 (HStep.ldN (r := r5) (ver := v6) (off := o7 + 0) rfl (by kernel_rfl) (by kernel_rfl) l12) <| Y9 (Y2g ([(0, .agg [.int .i64 x10, .int .i64 x11])]) El23 w15 (al_ ⟨⟨⟨trivial, rfl⟩, (okC_agg (al_ ⟨rfl, rfl, trivial⟩))⟩, trivial⟩) (al_ ⟨rfl, rfl, trivial⟩)) <| Y9 (Y3g (.rsl r13 0 0 1) El23 (SrcA.rsl (m := 1) (by kernel_rfl) (Nw.at w15) rfl rfl rfl (Xc rfl)) w17) (Ye (s18) ?_ n19)
 refine Y7 <| Y6 <| Y6 ?_
 obtain ⟨f20, s21, n22, l23, r24, v25, o26, i27, f28, s29, n30, l31, n32, g33, H⟩ := H
 refine Y1 <| Y5 (.ref p 0 0) <| Yr (0) f20 <| Yp 2 (0) f20 <| Y00 l23 <| Y5 (.int .i64 a2) <| Y9 (Y57 i27) <| Yp 2 (o26) f28 <| Y00 l31 <| Y9 (Y3f g33) <| Y5 (.int .i64 0) <| Y7 <| Y12 ?_
 obtain ⟨I36, ⟨m39, H38⟩, H⟩ := H
 refine Y5g (fun n e h' => ∃ (y40 : AV) (y42 : Int), NC y40 ∧ Env.le e [(0, .ref p 0 0), (1, y40), (2, .int .i64 a2), (6, .im (.val (.slice none 0 0))), (27, s29), (28, .int .i64 ((n32 : Nat) : Int)), (29, .int .i64 y42)] ∧ I36 n y40 y42 h') ?_ m39 ⟨s18, 0, n19, Ya (by kernel_rfl), H38⟩
 rintro m35 _ h34 ⟨y40, y42, n41, hle, HI37⟩
 have H := H m35 y40 y42 h34 HI37 n41
 refine Y19 _ hle <| Y6 <| Y1 <| Yl (.bool (decide ((y42 : Int) < ((n32 : Nat) : Int)))) ⟨trivial, trivial, rfl⟩ <| Y7 <| Y6 ?_
 rcases X1 (decide ((y42 : Int) < ((n32 : Nat) : Int))) with hb43 | hb43
 ·have H := H.1 hb43
  refine Y0l hb43 <| Y0p <| Y6 <| Y12 <| Y6 ?_
  obtain ⟨r44, v45, o46, i47, x48, l49, H⟩ := H
  refine Y1 <| Y9 (Y57 i47) <| Y00 l49 <| Ye (.int .i64 x48) <| Y7 ?_
  obtain ⟨h50, s51, n52, k53, H⟩ := H
  refine Y1 <| Y5 (.ref p 0 0) (Y5 (y40) ?_ n41)
  refine Y5 (.int .i64 x48) <| Y01 k53 (al_ ⟨⟨trivial, rfl⟩, n41, ⟨trivial, rfl⟩, trivial⟩) (Ye (s51) ?_ n52)
  refine Y7 ?_
  obtain ⟨c54, H⟩ := H
  refine Y1 <| Yl (.int .i64 (y42 + 1)) ⟨trivial, trivial, rfl, c54⟩ <| Y5 (.int .i64 (y42 + 1)) <| Y7 ?_
  obtain ⟨m55, hl56, H⟩ := H
  exact ⟨m55, hl56, s51, (y42 + 1), n52, Ya (by kernel_rfl), H⟩
 ·have H := H.2 hb43
  refine Y0s hb43 <| Y5d <| Y6 <| Y1 (Y5 (y40) ?_ n41)
  refine Ye (y40) ?_ n41
  exact Y7 <| Y10 (Yw (Qp := Qp) rfl H)
end Go.Proofs.YtkgfbpbndmklnaaDoor
