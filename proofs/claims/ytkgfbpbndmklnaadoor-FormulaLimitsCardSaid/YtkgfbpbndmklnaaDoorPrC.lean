/- Own work. -/
import Derived.Test.YtkgfbpbndmklnaaDoorPrB
import Derived.Test.YtkgfbpbndmklnaaDoorWp6
import Derived.Tactics
import Derived.Tactics2
import Derived.Test.YtkgfbpbndmklnaaDoorRunC
set_option linter.unusedSimpArgs false
set_option linter.unusedVariables false
set_option maxRecDepth 100000
namespace Go.Proofs.YtkgfbpbndmklnaaDoor
open Go.Abs
theorem wrapL {x : Int} (h1 : 97 ≤ x) (h2 : x ≤ 122) : IntKind.wrap .i64 (nw .u8 (x - 97)) = x - 97 := by
 have e : nw .u8 (x - 97) = x - 97 := by
  show (x - 97) % 256 = x - 97
  omega
 rw [e]
 exact IntWalk.i64_in _ (by omega)
section
variable {h h0 : Hp} {g g0 : Tag} {txt : ByteArray} {s : Ps} {L L0 : Lay} {r : Res Unit} {k : Nat}
theorem m_push (R : Rep h g txt s L) (op : Int) (hn : s.F.length ≤ 100000000) {J : Hp → Prop} (hJ : ∀ h' g' L', Rep h' g' txt (pPush op s) L' → Kept h g h' g' → L'.p = L.p → J h') :
  (Has h L.p 0) ∧ ∃ (s28 : AV), (NC s28) ∧ (Ld h L.p 0 3 s28) ∧ ∃ (r31 : Nat), ∃ (h32 : Hp), (Nw h r31 ⟨0, true, 57, 7, [.int .i64 op, .im (.val (.slice none 0 0)), .im (.val (.slice none 0 0)), .im (.val (.slice none 0 0)), .int .i64 0, .int .i64 0, .int .i64 0]⟩ h32) ∧ ∃ (h34 : Hp), ∃ (s36 : AV), (NC s36) ∧ (App h32 s28 57 7 104 1 [.int .i64 op, .im (.val (.slice none 0 0)), .im (.val (.slice none 0 0)), .im (.val (.slice none 0 0)), .int .i64 0, .int .i64 0, .int .i64 0] h34 s36) ∧ (Has h34 L.p 0) ∧ (oneA h34 s36) ∧ ∃ (h39 : Hp), (St h34 L.p 0 3 s36 h39) ∧ J h39 := by
 obtain ⟨q, hq⟩ := h.fresh
 obtain ⟨a1, a2, a3, a4⟩ := R.grow (t := 4) (rt := ⟨0, true, 57, 7, [.int .i64 op, .im (.val (.slice none 0 0)), .im (.val (.slice none 0 0)), .im (.val (.slice none 0 0)), .int .i64 0, .int .i64 0, .int .i64 0]⟩) (.inr rfl) hq
 obtain ⟨h1, y, b1, b2, b3, b4, b5, h2, b6, b7, b8⟩ := a2.push op (by omega)
 exact ⟨R.has, .rsl L.fr L.fv 0 (s.F.length + 1), ⟨trivial, rfl⟩, R.ldF, q, _, a1, h1, y, b2, b1, b3, b4, h2, b6, hJ _ _ _ b7 (a3.trans b8) rfl⟩
def Ib (h0 : Hp) (g0 : Tag) (txt : ByteArray) (L0 : Lay) (r : Res Unit) (m : Nat) (h : Hp) : Prop :=
 ∃ s g L, Rep h g txt s L ∧ Kept h0 g0 h g ∧ L.p = L0.p ∧ W txt s 0 3 ∧ (txt.size : Int) + 70 < m + s.at_ ∧ Y36 txt m s = r
theorem b_tail (R : Rep h g txt s L) (K : Kept h0 g0 h g) (hp : L.p = L0.p) (w : W txt s 0 3) (hk : (txt.size : Int) + 70 < (k + 1 : Nat) + s.at_) (he : Y36 txt (k + 1) s = r) (hd : ¬ (48 ≤ Yh txt s ∧ Yh txt s ≤ 57)) :
  ((((Yh txt s : Int) == 40) = true → (Has h L0.p 0) ∧ ∃ (x100 : Int), (Ld h L0.p 0 1 (.int .i64 x100)) ∧ (okA .i64 (x100 + 1 : Int)) ∧ ∃ (h103 : Hp), (St h L0.p 0 1 (.int .i64 (x100 + 1)) h103) ∧ (Has h103 L0.p 0) ∧ ∃ (s106 : AV), (NC s106) ∧ (Ld h103 L0.p 0 3 s106) ∧ ∃ (r109 : Nat), ∃ (h110 : Hp), (Nw h103 r109 ⟨0, true, 57, 7, [.int .i64 10, .im (.val (.slice none 0 0)), .im (.val (.slice none 0 0)), .im (.val (.slice none 0 0)), .int .i64 0, .int .i64 0, .int .i64 0]⟩ h110) ∧ ∃ (h112 : Hp), ∃ (s114 : AV), (NC s114) ∧ (App h110 s106 57 7 104 1 [.int .i64 10, .im (.val (.slice none 0 0)), .im (.val (.slice none 0 0)), .im (.val (.slice none 0 0)), .int .i64 0, .int .i64 0, .int .i64 0] h112 s114) ∧ (Has h112 L0.p 0) ∧ (oneA h112 s114) ∧ ∃ (h117 : Hp), (St h112 L0.p 0 3 s114 h117) ∧ (∃ m120 : Nat, m120 < (k + 1) ∧ Ib h0 g0 txt L0 r m120 h117)) ∧ (((Yh txt s : Int) == 40) = false → (((decide ((97 : Int) ≤ (Yh txt s))) = true → (((decide ((Yh txt s : Int) ≤ 122)) = true → ((∃ (h127 : Hp), ∃ (x128 : Int), (CallOK Tryd.prog 62 [.ref L0.p 0 0] h h127 (.int .i64 x128)) ∧ ((((x128 : Int) == 1) = true → ∃ (h131 : Hp), ∃ (x132 : Int), (CallOK Tryd.prog 63 [.ref L0.p 0 0, .int .i64 1, .int .i64 (IntKind.wrap .i64 (nw .u8 ((Yh txt s) - 97 : Int))), .im (.val (.slice none 0 0))] h127 h131 (.int .i64 x132)) ∧ ∃ (h134 : Hp), (CallOK Tryd.prog 60 [.ref L0.p 0 0, .int .i64 x132] h131 h134 (.tup [])) ∧ (OkQ r (fun _ => .tup []) h0 g0 txt L0 (fun L L' => L'.p = L.p) h134 (.tup []))) ∧ (((x128 : Int) == 1) = false → ((((x128 : Int) == 12) = true → ((∃ (h140 : Hp), ∃ (x141 : Int), (CallOK Tryd.prog 64 [.ref L0.p 0 0] h127 h140 (.int .i64 x141)) ∧ ∃ (h143 : Hp), (CallOK Tryd.prog 60 [.ref L0.p 0 0, .int .i64 x141] h140 h143 (.tup [])) ∧ (OkQ r (fun _ => .tup []) h0 g0 txt L0 (fun L L' => L'.p = L.p) h143 (.tup []))) ∨ (∃ (h137 : Hp), ∃ (ch138 : List PanicEntry), (Y03 Tryd.prog 64 [.ref L0.p 0 0] h127 h137 ch138) ∧ (BadQ r h0 g0 txt L0 h137 ch138)))) ∧ (((x128 : Int) == 12) = false → (Has h127 L0.p 0) ∧ ∃ (s146 : AV), (NC s146) ∧ (Ld h127 L0.p 0 3 s146) ∧ ∃ (r149 : Nat), ∃ (h150 : Hp), (Nw h127 r149 ⟨0, true, 57, 7, [.int .i64 x128, .im (.val (.slice none 0 0)), .im (.val (.slice none 0 0)), .im (.val (.slice none 0 0)), .int .i64 0, .int .i64 0, .int .i64 0]⟩ h150) ∧ ∃ (h152 : Hp), ∃ (s154 : AV), (NC s154) ∧ (App h150 s146 57 7 104 1 [.int .i64 x128, .im (.val (.slice none 0 0)), .im (.val (.slice none 0 0)), .im (.val (.slice none 0 0)), .int .i64 0, .int .i64 0, .int .i64 0] h152 s154) ∧ (Has h152 L0.p 0) ∧ (oneA h152 s154) ∧ ∃ (h157 : Hp), (St h152 L0.p 0 3 s154 h157) ∧ (∃ m160 : Nat, m160 < (k + 1) ∧ Ib h0 g0 txt L0 r m160 h157)))))) ∨ (∃ (h124 : Hp), ∃ (ch125 : List PanicEntry), (Y03 Tryd.prog 62 [.ref L0.p 0 0] h h124 ch125) ∧ (BadQ r h0 g0 txt L0 h124 ch125)))) ∧ ((decide ((Yh txt s : Int) ≤ 122)) = false → ((∃ (h165 : Hp), (CallOK Tryd.prog 65 [.ref L0.p 0 0] h h165 (.tup [])) ∧ (∃ m167 : Nat, m167 < (k + 1) ∧ Ib h0 g0 txt L0 r m167 h165)) ∨ (∃ (h162 : Hp), ∃ (ch163 : List PanicEntry), (Y03 Tryd.prog 65 [.ref L0.p 0 0] h h162 ch163) ∧ (BadQ r h0 g0 txt L0 h162 ch163)))))) ∧ ((decide ((97 : Int) ≤ (Yh txt s))) = false → ((∃ (h172 : Hp), (CallOK Tryd.prog 65 [.ref L0.p 0 0] h h172 (.tup [])) ∧ (∃ m174 : Nat, m174 < (k + 1) ∧ Ib h0 g0 txt L0 r m174 h172)) ∨ (∃ (h169 : Hp), ∃ (ch170 : List PanicEntry), (Y03 Tryd.prog 65 [.ref L0.p 0 0] h h169 ch170) ∧ (BadQ r h0 g0 txt L0 h169 ch170))))))) := by
 have at0 := w.at0
 have at1 := w.at1
 have sz := w.sz
 have nF := w.nF
 have pot := w.pot
 have len := w.len
 rw [Y36, if_neg hd] at he
 rw [← hp]
 have again : ∀ {s1 : Ps} {h1 : Hp} {g1 : Tag} {L1 : Lay} {op : Int}, Rep h1 g1 txt s1 L1 → Kept h g h1 g1 → L1.p = L.p → W txt s1 0 3 → s.at_ < s1.at_ → ((s1.F.length : Nat) : Int) + 1 ≤ s1.at_ → Y36 txt k (pPush op s1) = r → _ := fun {s1 h1 g1 L1 op} R1 K1 p1 w1 lt nf he1 =>
  m_push R1 op (by have := w1.at1; omega) (J := fun h39 => ∃ m42 : Nat, m42 < k + 1 ∧ Ib h0 g0 txt L0 r m42 h39) fun h' g' L' b1 b2 b3 => ⟨k, by omega, _, g', L', b1, K.trans (K1.trans b2), b3.trans (p1.trans hp), w1.push op nf, by simp only [pPush]; push_cast at hk; omega, he1⟩
 have stp : Res.bad s = r → ∃ h84 ch85, Y03 Tryd.prog 65 [.ref L.p 0 0] h h84 ch85 ∧ BadQ r h0 g0 txt L0 h84 ch85 := fun e => ⟨h, chM, c_stop h L.p, s, g, L, e.symm, rfl, R, K, hp⟩
 refine ⟨fun h40 => ?_, fun h40 => ⟨fun h97 => ⟨fun h122 => ?_, fun h122 => .inr (stp ?_)⟩, fun h97 => .inr (stp ?_)⟩⟩
 ·have e40 : Yh txt s = 40 := by simpa using h40
  have hlt := Y30 e40 (by omega)
  rw [if_pos e40] at he
  obtain ⟨h1, q1, q2, q3⟩ := R.setAt (s.at_ + 1)
  refine ⟨R.has, _, R.ldAt, Y4r (by omega) (by omega), h1, q1, ?_⟩
  exact again q2 q3 rfl (w.adv (c := 1) (by omega) (by omega)) (by simp only; omega) (by simp only; omega) he
 ·have e40 : Yh txt s ≠ 40 := by simpa using h40
  have hz : 97 ≤ Yh txt s ∧ Yh txt s ≤ 122 := ⟨of_decide_eq_true h97, of_decide_eq_true h122⟩
  have hlt := Y30 (t := txt) (s := s) rfl (by omega)
  rw [if_neg e40, if_pos hz] at he
  have C := c_word R at0 (by omega)
  cases hW : pWord txt s with
  | bad s1 =>
   rw [hW] at C he
   obtain ⟨h1, g1, L1, b1, b2, b3, b4⟩ := C
   exact .inr ⟨h1, chM, b1, s1, g1, L1, he.symm, rfl, b2, K.trans b3, b4.trans hp⟩
  | ok s1 op =>
   rw [hW] at C he
   rw [Y07] at he
   obtain ⟨h1, g1, L1, b1, b2, b3, b4⟩ := C
   obtain ⟨c, rfl, c1, c7, hop⟩ := pWordL_ok txt opsW (fun _ h => h) s s1 op hW
   have w1 := w.adv (c := (c : Int)) (by omega) (by omega)
   refine .inl ⟨h1, op, b1, fun o1 => ?_, fun o1 => ⟨fun o12 => ?_, fun o12 => ?_⟩⟩
   ·have e1 : op = 1 := by simpa using o1
    rw [if_pos e1] at he
    rw [wrapL hz.1 hz.2, ← b4.p]
    obtain ⟨h2, g2, L2, d1, d2, d3, d4, d5⟩ := c_add b2 1 (Yh txt s - 97) (x := nilA) (l := []) (SlI.nil _) (fun r hr => by simp [Y06] at hr) w.okT (fun i hi => by simp at hi) (by simp only; omega) (by simp)
    obtain ⟨h3, g3, L3, f1, f2, f3, f4⟩ := c_term d2 (s.T.length : Nat) (by simp only [pAdd]; omega) (by simp only [pAdd]; omega)
    rw [d4.p] at f1
    exact ⟨h2, _, d1, h3, f1, _, (), g3, L3, he.symm, rfl, f2, K.trans (b3.trans (d3.trans f3)), (f4.p.trans (d4.p.trans b4.p)).trans hp⟩
   ·have e1 : ¬ op = 1 := by simpa using o1
    have e12 : op = 12 := by simpa using o12
    rw [if_neg e1, if_pos e12] at he
    have S := c_sum b2 (by simp only; omega) (by simp only; omega) w.okT (by simp only; omega)
    rw [← b4.p]
    cases hS : pSum txt { s with at_ := s.at_ + (c : Int) } with
    | bad s2 =>
     rw [hS] at S he
     obtain ⟨h2, g2, L2, d1, d2, d3, d4⟩ := S
     exact .inr ⟨h2, chM, d1, s2, g2, L2, he.symm, rfl, d2, K.trans (b3.trans d3), (d4.trans b4.p).trans hp⟩
    | ok s2 i =>
     rw [hS] at S he
     obtain ⟨h2, g2, L2, d1, d2, d3, d4⟩ := S
     obtain ⟨y1, y2, y3, y4⟩ := pSum_ok (s := { s with at_ := s.at_ + (c : Int) }) w.okT hS
     have eF : s2.F = s.F := y1.F
     have ef : s2.f = s.f := y1.f
     obtain ⟨h3, g3, L3, f1, f2, f3, f4⟩ := c_term d2 i (by rw [eF]; omega) (by rw [ef]; omega)
     rw [d4.p] at f1
     exact .inl ⟨h2, i, d1, h3, f1, _, (), g3, L3, he.symm, rfl, f2, K.trans (b3.trans (d3.trans f3)), (f4.p.trans (d4.p.trans b4.p)).trans hp⟩
   ·have e1 : ¬ op = 1 := by simpa using o1
    have e12 : ¬ op = 12 := by simpa using o12
    rw [if_neg e1, if_neg e12] at he
    rw [← b4.p]
    exact again b2 b3 b4.p w1 (by simp only; omega) (by simp only; omega) he
 ·rw [if_neg (by simpa using h40), if_neg (fun hz => of_decide_eq_false h122 hz.2)] at he
  exact he
 ·rw [if_neg (by simpa using h40), if_neg (fun hz => of_decide_eq_false h97 hz.1)] at he
  exact he
def fuelB (t : ByteArray) : Nat := t.size + 100
theorem c_begin (R : Rep h g txt s L) (w : W txt s 0 3) : Out 49 [.ref L.p 0 0] (fun _ => .tup []) h g txt L (fun L L' => L'.p = L.p) (Y36 txt (fuelB txt) s) := by
 refine Out.of (w_begin (h := h) (p := L.p) ⟨Ib h g txt L (Y36 txt (fuelB txt) s), ⟨fuelB txt, s, g, L, R, Kept.refl _ _, rfl, w, by have := w.at0; unfold fuelB; push_cast; omega, rfl⟩, ?_⟩)
 rintro m h1 ⟨s1, g1, L1, R1, K1, p1, w1, hm, he⟩
 have at0 := w1.at0
 have at1 := w1.at1
 have sz := w1.sz
 have nF := w1.nF
 have pot := w1.pot
 have len := w1.len
 obtain ⟨k, rfl⟩ : ∃ k, m = k + 1 := ⟨m - 1, by omega⟩
 have pk := c_peek R1 at0
 rw [p1] at pk
 refine ⟨h1, _, pk, fun h48 => ⟨fun h57 => ?_, fun h57 => b_tail R1 K1 p1 w1 hm he (fun hd => of_decide_eq_false h57 hd.2)⟩, fun h48 => b_tail R1 K1 p1 w1 hm he (fun hd => of_decide_eq_false h48 hd.1)⟩
 have hd : 48 ≤ Yh txt s1 ∧ Yh txt s1 ≤ 57 := ⟨of_decide_eq_true h48, of_decide_eq_true h57⟩
 rw [Y36, if_pos hd] at he
 have N := c_number R1 at0 (by omega) w1.okT (by omega)
 rw [← p1]
 cases hN : Y14 txt s1 with
 | bad s2 =>
  rw [hN] at N he
  obtain ⟨h2, g2, L2, d1, d2, d3, d4⟩ := N
  exact .inr ⟨h2, chM, d1, s2, g2, L2, he.symm, rfl, d2, K1.trans d3, d4.trans p1⟩
 | ok s2 i =>
  rw [hN] at N he
  rw [Y07] at he
  obtain ⟨h2, g2, L2, d1, d2, d3, d4⟩ := N
  obtain ⟨y1, y2, y3⟩ := Y2h w1.okT hN
  obtain ⟨h3, g3, L3, f1, f2, f3, f4⟩ := c_term d2 i (by rw [y1.F]; omega) (by rw [y1.f]; omega)
  rw [d4.p] at f1
  exact .inl ⟨h2, i, d1, h3, f1, _, (), g3, L3, he.symm, rfl, f2, K1.trans (d3.trans f3), (f4.p.trans d4.p).trans p1⟩
def pRun (t : ByteArray) : Nat → Int → Ps → Res Int
 | 0, _, s => .bad s
 | k + 1, y, s => if y = 1 then (Y11 t s).bind fun s1 y1 => pRun t k y1 s1 else if y = 2 then .ok (pOperand s) (Y13 s) else (Y36 t (fuelB t) s).bind fun s1 _ => (Y11 t s1).bind fun s2 y2 => pRun t k y2 s2
def pFormula (t : ByteArray) (s : Ps) : Res Int := pRun t (fuelB t) 0 s
def Wy (t : ByteArray) (y : Int) (s : Ps) : Prop := (y = 0 ∧ W t s 0 3) ∨ (y = 1 ∧ W t s 1 3) ∨ (y = 2 ∧ W t s 1 3 ∧ s.f.op = -1)
theorem Wy.at1 {t : ByteArray} {y : Int} {s : Ps} (w : Wy t y s) : s.at_ ≤ (t.size : Nat) + 60 := by
 rcases w with ⟨_, w⟩ | ⟨_, w⟩ | ⟨_, w, _⟩ <;> exact w.at1
theorem c_formula (R : Rep h g txt s L) (w : W txt s 0 3) : Out 32 [.ref L.p 0 0] (fun i => .int .i64 i) h g txt L (fun L L' => L'.p = L.p) (pFormula txt s) := by
 have fol : ∀ {s1 : Ps} {y : Int} {s2 : Ps}, W txt s1 1 3 → Y11 txt s1 = .ok s2 y → Wy txt y s2 ∧ s1.at_ + (if y = 2 then 0 else 1) ≤ s2.at_ := fun {s1 y s2} w1 e => by
  rcases pFollow_ok w1 e with ⟨rfl, a, b⟩ | ⟨rfl, a, b⟩ | ⟨rfl, rfl, b, c⟩
  ·exact ⟨.inl ⟨rfl, a⟩, by rw [Vn]; omega⟩
  ·exact ⟨.inr (.inl ⟨rfl, a⟩), by rw [Vn]; omega⟩
  ·exact ⟨.inr (.inr ⟨rfl, w1, b⟩), by rw [if_pos rfl]; omega⟩
 refine Out.of (w_formula (h := h) (p := L.p) ⟨fun m _ h1 => ∃ s1 g1 L1, Rep h1 g1 txt s1 L1 ∧ Kept h g h1 g1 ∧ L1.p = L.p ∧ W txt s1 0 3 ∧ (txt.size : Int) + 70 < m + s1.at_ ∧ pRun txt m 0 s1 = pFormula txt s, ⟨fuelB txt, s, g, L, R, Kept.refl _ _, rfl, w, by have := w.at0; unfold fuelB; push_cast; omega, rfl⟩, ?_⟩)
 rintro m y7 h1 ⟨s1, g1, L1, R1, K1, p1, w1, hm, he⟩
 have at1 := w1.at1
 obtain ⟨k, rfl⟩ : ∃ k, m = k + 1 := ⟨m - 1, by omega⟩
 rw [pRun, Vn, Vn] at he
 have B := c_begin R1 w1
 rw [← p1]
 cases hB : Y36 txt (fuelB txt) s1 with
 | bad s2 =>
  rw [hB] at B he
  obtain ⟨h2, g2, L2, d1, d2, d3, d4⟩ := B
  exact .inr ⟨h2, chM, d1, s2, g2, L2, he.symm, rfl, d2, K1.trans d3, d4.trans p1⟩
 | ok s2 u =>
  rw [hB] at B he
  rw [Y07] at he
  obtain ⟨h2, g2, L2, d1, d2, d3, d4⟩ := B
  obtain ⟨w2, lt2⟩ := pBegin_ok (fuelB txt) s1 s2 w1 hB
  refine .inl ⟨h2, d1, ?_⟩
  have F := c_follow d2 w2.invF (fun _ => ⟨w2.cur.c.2.2.2.2.2, w2.cur.c.2.2.2.1⟩)
  rw [d4] at F
  cases hF : Y11 txt s2 with
  | bad s3 =>
   rw [hF] at F he
   obtain ⟨h3, g3, L3, f1, f2, f3, f4⟩ := F
   exact .inr ⟨h3, chM, f1, s3, g3, L3, he.symm, rfl, f2, K1.trans (d3.trans f3), (f4.trans d4).trans p1⟩
  | ok s3 y =>
   rw [hF] at F he
   rw [Y07] at he
   obtain ⟨h3, g3, L3, f1, f2, f3, f4⟩ := F
   obtain ⟨w3, lt3⟩ := fol w2 hF
   refine .inl ⟨h3, y, f1, fun m y h9 => m < k + 1 ∧ ∃ s9 g9 L9, Rep h9 g9 txt s9 L9 ∧ Kept h g h9 g9 ∧ L9.p = L1.p ∧ Wy txt y s9 ∧ (txt.size : Int) + 70 < m + s9.at_ + (if y = 2 then 1 else 0) ∧ pRun txt m y s9 = pFormula txt s, ⟨k, by omega, s3, g3, L3, f2, K1.trans (d3.trans f3), f4.trans d4, w3, ?_, he⟩, ?_⟩
   ·push_cast at hm
    split at lt3 <;> omega
   ·rintro m9 y9 h9 ⟨hm9, s9, g9, L9, R9, K9, p9, w9, hf9, he9⟩
    have at9 := w9.at1
    rw [← p9]
    refine ⟨fun hy => ?_, fun hy => ⟨fun hy2 => ?_, fun hy2 => ?_⟩⟩
    ·have y1 : y9 = 1 := by simpa using hy
     have w9' : W txt s9 1 3 := by
      rcases w9 with ⟨a, _⟩ | ⟨_, b⟩ | ⟨a, _⟩
      ·omega
      ·exact b
      ·omega
     obtain ⟨k9, rfl⟩ : ∃ k, m9 = k + 1 := ⟨m9 - 1, by split at hf9 <;> omega⟩
     rw [pRun, if_pos y1] at he9
     have F := c_follow R9 w9'.invF (fun _ => ⟨w9'.cur.c.2.2.2.2.2, w9'.cur.c.2.2.2.1⟩)
     cases hF : Y11 txt s9 with
     | bad s8 =>
      rw [hF] at F he9
      obtain ⟨h3, g3, L3, f1, f2, f3, f4⟩ := F
      exact .inr ⟨h3, chM, f1, s8, g3, L3, he9.symm, rfl, f2, K9.trans f3, f4.trans (p9.trans p1)⟩
     | ok s8 y8 =>
      rw [hF] at F he9
      rw [Y07] at he9
      obtain ⟨h3, g3, L3, f1, f2, f3, f4⟩ := F
      obtain ⟨w8, lt8⟩ := fol w9' hF
      refine .inl ⟨h3, y8, f1, k9, by omega, by omega, s8, g3, L3, f2, K9.trans f3, f4, w8, ?_, he9⟩
      push_cast at hf9
      rw [Vn] at hf9
      split at lt8 <;> omega
    ·have y2 : y9 = 2 := by simpa using hy2
     have w9' : W txt s9 1 3 := by
      rcases w9 with ⟨a, _⟩ | ⟨a, _⟩ | ⟨_, b, _⟩
      ·omega
      ·omega
      ·exact b
     obtain ⟨k9, rfl⟩ : ∃ k, m9 = k + 1 := ⟨m9 - 1, by split at hf9 <;> omega⟩
     rw [pRun, Vn, if_pos y2] at he9
     obtain ⟨h3, g3, L3, f1, f2, f3, f4⟩ := c_operand R9 w9'.invJ
     exact ⟨h3, _, f1, _, _, g3, L3, he9.symm, rfl, f2, K9.trans f3, (f4.p.trans p9).trans p1⟩
    ·have y1 : y9 ≠ 1 := by simpa using hy
     have y2 : y9 ≠ 2 := by simpa using hy2
     have w9' : y9 = 0 ∧ W txt s9 0 3 := by
      rcases w9 with b | ⟨a, _⟩ | ⟨a, _⟩
      ·exact b
      ·omega
      ·omega
     rw [if_neg y2] at hf9
     refine ⟨m9, hm9, s9, g9, L9, R9, K9, rfl, w9'.2, by omega, ?_⟩
     rw [← he9, w9'.1]
end
def flT (T : List Tn) : Nat → Int → List (Int × Int)
 | 0, _ => []
 | k + 1, i => ((T.getD i.toNat noT).op, (T.getD i.toNat noT).n) :: (T.getD i.toNat noT).ops.flatMap (flT T k)
def fl (T : List Tn) (i : Int) : List (Int × Int) := flT T (i.toNat + 1) i
theorem getD_in {T : List Tn} {i : Int} (h : 0 ≤ i ∧ i < (T.length : Nat)) : ∃ t, T[i.toNat]? = some t ∧ T.getD i.toNat noT = t := by
 have hlt : i.toNat < T.length := by omega
 exact ⟨T[i.toNat], X2 hlt, by rw [X8, X2 hlt]; rfl⟩
theorem OkT.ops {T : List Tn} (hT : OkT T) {i : Int} (h : 0 ≤ i ∧ i < (T.length : Nat)) : ∀ o ∈ (T.getD i.toNat noT).ops, 0 ≤ o ∧ o < i := by
 obtain ⟨t, h1, h2⟩ := getD_in h
 rw [h2]
 intro o ho
 have := (hT _ _ h1).2.2 o ho
 omega
theorem Y4a {α β : Type} {f g : α → List β} : ∀ (l : List α), (∀ x ∈ l, f x = g x) → l.flatMap f = l.flatMap g
 | [], _ => rfl
 | x :: l, h => by
  rw [Xq, Xq, h x (by simp), Y4a l (fun y hy => h y (by simp [hy]))]
theorem flT_eq {T : List Tn} (hT : OkT T) : ∀ (k k' : Nat) (i : Int), 0 ≤ i → i < (T.length : Nat) → i < (k : Nat) → i < (k' : Nat) → flT T k i = flT T k' i
 | 0, _, i, h0, _, hk, _ => by omega
 | _ + 1, 0, i, h0, _, _, hk => by omega
 | k + 1, k' + 1, i, h0, h1, hk, hk' => by
  rw [flT, flT]
  congr 1
  refine Y4a _ fun o ho => ?_
  have := hT.ops ⟨h0, h1⟩ o ho
  exact flT_eq hT k k' o (by omega) (by omega) (by push_cast at hk; omega) (by push_cast at hk'; omega)
theorem fl_step {T : List Tn} (hT : OkT T) {i : Int} (h : 0 ≤ i ∧ i < (T.length : Nat)) : fl T i = ((T.getD i.toNat noT).op, (T.getD i.toNat noT).n) :: (T.getD i.toNat noT).ops.flatMap (fl T) := by
 rw [fl, flT]
 congr 1
 refine Y4a _ fun o ho => ?_
 have := hT.ops h o ho
 exact flT_eq hT _ _ o (by omega) (by omega) (by omega) (by omega)
theorem getD_app {T T' : List Tn} {i : Int} (h : 0 ≤ i ∧ i < (T.length : Nat)) : (T ++ T').getD i.toNat noT = T.getD i.toNat noT := by
 rw [X8, X8, X0f (by omega)]
theorem flT_app {T T' : List Tn} (hT : OkT T) : ∀ (k : Nat) (i : Int), 0 ≤ i → i < (T.length : Nat) → flT (T ++ T') k i = flT T k i
 | 0, i, h0, h1 => rfl
 | k + 1, i, h0, h1 => by
  rw [flT, flT, getD_app ⟨h0, h1⟩]
  congr 1
  refine Y4a _ fun o ho => ?_
  have := hT.ops ⟨h0, h1⟩ o ho
  exact flT_app hT k o (by omega) (by omega)
theorem fl_app {T T' : List Tn} (hT : OkT T) {i : Int} (h : 0 ≤ i ∧ i < (T.length : Nat)) : fl (T ++ T') i = fl T i := flT_app hT _ i h.1 h.2
theorem fl_new {T : List Tn} (hT : OkT T) {op n : Int} {l : List Int} (hv : Val T l) : fl (T ++ [⟨op, n, l, depOf T l⟩]) ((T.length : Nat) : Int) = (op, n) :: l.flatMap (fl T) := by
 rw [fl_step (okT_add hT hv) ⟨by omega, by simp; omega⟩]
 have e : (T ++ [(⟨op, n, l, depOf T l⟩ : Tn)]).getD ((T.length : Nat) : Int).toNat noT = ⟨op, n, l, depOf T l⟩ := by
  rw [X8, show (((T.length : Nat) : Int)).toNat = T.length by omega, X04 (Xf _)]
  simp
 rw [e]
 simp only
 congr 1
 exact Y4a _ fun o ho => fl_app hT (hv o ho)
def szl (T : List Tn) (l : List Int) : Nat := (l.flatMap (fl T)).length
theorem szl_app (T : List Tn) (a b : List Int) : szl T (a ++ b) = szl T a + szl T b := by simp [szl]
theorem szl_nil (T : List Tn) : szl T [] = 0 := rfl
theorem szl_one (T : List Tn) (i : Int) : szl T [i] = (fl T i).length := by simp [szl]
theorem szl_ext {T T' : List Tn} (hT : OkT T) {l : List Int} (hv : Val T l) : szl (T ++ T') l = szl T l := by
 unfold szl
 rw [Y4a l fun o ho => fl_app hT (hv o ho)]
def tf (T : List Tn) (f : Fr) : Nat := szl T f.terms + szl T f.ops
def tt (T : List Tn) : List Fr → Nat
 | [] => 0
 | f :: F => tf T f + tt T F
theorem tt_app (T : List Tn) : ∀ (F : List Fr) (f : Fr), tt T (F ++ [f]) = tt T F + tf T f
 | [], f => by simp [tt]
 | f' :: F, f => by simp [tt, tt_app T F f]; omega
theorem tt_ext {T T' : List Tn} (hT : OkT T) : ∀ (F : List Fr), (∀ f ∈ F, Val T f.terms ∧ Val T f.ops) → tt (T ++ T') F = tt T F
 | [], _ => rfl
 | f :: F, h => by
  have := h f (by simp)
  simp only [tt, tf]
  rw [szl_ext hT this.1, szl_ext hT this.2, tt_ext hT F (fun f hf => h f (by simp [hf]))]
def Tot (s : Ps) (d : Nat) : Prop := tt s.T s.F + tf s.T s.f + d = s.T.length
section
variable {t : ByteArray} {s s' : Ps} {d : Nat} {r : Int}
theorem W.vF (w : W t s d r) : ∀ f ∈ s.F, Val s.T f.terms ∧ Val s.T f.ops := fun f hf => ⟨(w.out f hf).1.vt, (w.out f hf).1.vo⟩
structure VS (s : Ps) : Prop where
 okT : OkT s.T
 vF : ∀ f ∈ s.F, Val s.T f.terms ∧ Val s.T f.ops
 vf : Val s.T s.f.terms ∧ Val s.T s.f.ops
theorem W.vs (w : W t s d r) : VS s := ⟨w.okT, w.vF, w.cur.vt, w.cur.vo⟩
theorem Tot.ext (h : Tot s d) (v : VS s) {c : Int} (e : Ext s s' c) : Tot s' (d + (s'.T.length - s.T.length)) := by
 obtain ⟨T, h1, h2⟩ := e.T
 unfold Tot at h ⊢
 rw [e.F, e.f, h1]
 unfold tf at h ⊢
 rw [tt_ext v.okT _ v.vF, szl_ext v.okT v.vf.1, szl_ext v.okT v.vf.2]
 simp only [X4]
 omega
theorem Tot.term {i : Int} (h : Tot s (fl s.T i).length) : Tot (pTerm i s) 0 := by
 unfold Tot at h ⊢
 simp only [pTerm, tf] at h ⊢
 rw [szl_app, szl_one]
 omega
theorem pNumber_fl {i : Int} (hT : OkT s.T) (h : Y14 t s = .ok s' i) : fl s'.T i = [(0, (pDig t 5 0 0 s).1)] := by
 unfold Y14 at h
 split at h
 ·cases h
 ·simp only [Res.ok.injEq] at h
  obtain ⟨rfl, rfl⟩ := h
  have e := (pDig_ext t 5 0 0 s).1
  have := fl_new (T := (pDig t 5 0 0 s).2.2.T) (by rw [e]; exact hT) (op := 0) (n := (pDig t 5 0 0 s).1) (l := []) (fun i hi => by simp at hi)
  exact this
theorem szl_ext' {c : Int} (hT : OkT s.T) (e : Ext s s' c) {l : List Int} (hv : Val s.T l) : szl s'.T l = szl s.T l := by
 obtain ⟨T, h1, h2⟩ := e.T
 rw [h1, szl_ext hT hv]
theorem pSumL_sz : ∀ (k : Nat) (l l' : List Int) (s s' : Ps), OkT s.T → Val s.T l → pSumL t k l s = .ok s' l' → s'.T.length + szl s.T l = s.T.length + szl s'.T l'
 | 0, l, l', s, s', hT, hv, h => by
  simp only [pSumL, Res.ok.injEq] at h
  rw [← h.1, ← h.2]
 | k + 1, l, l', s, s', hT, hv, h => by
  rw [pSumL] at h
  split at h
  ·cases hN : Y14 t { s with at_ := s.at_ + 1 } with
   | bad s1 => rw [hN] at h; cases h
   | ok s1 i =>
    rw [hN, Y07] at h
    obtain ⟨x1, x2, x3⟩ := Y2h (s := { s with at_ := s.at_ + 1 }) hT hN
    have x4 := pNumber_fl (s := { s with at_ := s.at_ + 1 }) hT hN
    have v1 : Val s1.T (l ++ [i]) := fun j hj => by
     simp only [Xw, Xd] at hj
     simp only at x2 x3
     rcases hj with hj | rfl
     ·have := hv j hj; omega
     ·omega
    have := pSumL_sz k _ _ _ _ x1.ok v1 h
    rw [szl_app, szl_one, x4, szl_ext' (s := { s with at_ := s.at_ + 1 }) hT x1 hv] at this
    simp only [Xh] at this x3
    omega
  ·simp only [Res.ok.injEq] at h
   rw [← h.1, ← h.2]
theorem pSum_sz {i : Int} (hT : OkT s.T) (h : pSum t s = .ok s' i) : s'.T.length = s.T.length + (fl s'.T i).length := by
 unfold pSum at h
 cases hN : Y14 t s with
 | bad s1 => rw [hN] at h; cases h
 | ok s1 i1 =>
  rw [hN, Y07] at h
  obtain ⟨x1, x2, x3⟩ := Y2h hT hN
  have x4 := pNumber_fl hT hN
  cases hL : pSumL t 4 [i1] s1 with
  | bad s2 => rw [hL] at h; cases h
  | ok s2 l =>
   rw [hL, Y07] at h
   have v1 : Val s1.T [i1] := fun j hj => by simp only [Xd] at hj; rw [hj]; omega
   obtain ⟨y1, y2, y3⟩ := pSumL_ok 4 _ _ _ _ x1.ok v1 hL
   have y4 := pSumL_sz 4 _ _ _ _ x1.ok v1 hL
   rw [szl_one, x4] at y4
   unfold pSumR at h
   split at h
   ·cases h
   ·cases hE : Y1z t 59 s2 with
    | bad s3 => rw [hE] at h; cases h
    | ok s3 u =>
     obtain ⟨rfl, hlt⟩ := Y55 (by omega) hE
     rw [hE, Y07] at h
     cases hM : Y14 t { s2 with at_ := s2.at_ + 1 } with
     | bad s4 => rw [hM] at h; cases h
     | ok s4 j =>
      rw [hM, Y07] at h
      obtain ⟨z1, z2, z3⟩ := Y2h (s := { s2 with at_ := s2.at_ + 1 }) y1.ok hM
      have z4 := pNumber_fl (s := { s2 with at_ := s2.at_ + 1 }) y1.ok hM
      cases hX : Y1z t 41 s4 with
      | bad s5 => rw [hX] at h; cases h
      | ok s5 u5 =>
       obtain ⟨rfl, hlt5⟩ := Y55 (by omega) hX
       rw [hX, Y07] at h
       simp only [Res.ok.injEq] at h
       obtain ⟨h1, h2⟩ := h
       have v4 : Val s4.T (l ++ [j]) := fun i hi => by
        simp only [Xw, Xd] at hi
        simp only at z2 z3
        rcases hi with hi | rfl
        ·have := y3 i hi; omega
        ·omega
       rw [← h1, ← h2]
       simp only [pAdd] at z3 ⊢
       rw [fl_new z1.ok v4]
       have e := szl_app s4.T l [j]
       rw [szl_one, z4, szl_ext' (s := { s2 with at_ := s2.at_ + 1 }) y1.ok z1 y3] at e
       unfold szl at e
       simp only [X4, Xb, Xh] at e y4 ⊢
       unfold szl at y4
       simp only [Xj] at e y4 ⊢
       omega
end
section
variable {t : ByteArray} {s s' : Ps} {d : Nat} {r : Int}
theorem list_last2 {l : List Int} {n : Nat} (h : l.length = n + 2) : l = l.take n ++ [l.getD n 0, l.getD (n + 1) 0] := by
 have h1 : l.drop n = [l.getD n 0, l.getD (n + 1) 0] := by
  rw [X0k (by omega), X0k (by omega), List.drop_of_length_le (by omega)]
  rw [X8, X8, X2 (by omega), X2 (by omega)]
  rfl
 conv => lhs; rw [← X0u n l]
 rw [h1]
theorem InvJ.val2 (I : InvJ s) (h0 : 0 < s.f.signs.length) : Val s.T [s.f.terms.getD (s.f.terms.length - 2) 0, s.f.terms.getD (s.f.terms.length - 1) 0] := by
 have hl := I.len
 have m : ∀ j, j < s.f.terms.length → 0 ≤ s.f.terms.getD j 0 ∧ s.f.terms.getD j 0 < (s.T.length : Nat) := fun j hj => I.val _ (by rw [X8, X2 hj]; simp)
 intro i hi
 simp only [X00, X09, or_false] at hi
 rcases hi with rfl | rfl
 ·exact m _ (by omega)
 ·exact m _ (by omega)
theorem VS.step (v : VS s) (I : InvJ s) (h0 : 0 < s.f.signs.length) : VS (jStep s) := by
 obtain ⟨h1, h2⟩ := I.step h0
 refine ⟨h1.okT, fun f hf => ?_, h1.val, ?_⟩
 ·have := v.vF f hf
  exact ⟨this.1.mono (by simp [jStep, pAdd]), this.2.mono (by simp [jStep, pAdd])⟩
 ·exact v.vf.2.mono (by simp [jStep, pAdd])
theorem Tot.step (h : Tot s 0) (v : VS s) (I : InvJ s) (h0 : 0 < s.f.signs.length) : Tot (jStep s) 0 := by
 have hl := I.len
 have hv := I.val2 h0
 have e2 : s.f.terms = s.f.terms.take (s.f.terms.length - 2) ++ [s.f.terms.getD (s.f.terms.length - 2) 0, s.f.terms.getD (s.f.terms.length - 1) 0] := by
  have := list_last2 (l := s.f.terms) (n := s.f.terms.length - 2) (by omega)
  rwa [show s.f.terms.length - 2 + 1 = s.f.terms.length - 1 by omega] at this
 have e3 := szl_app s.T (s.f.terms.take (s.f.terms.length - 2)) [s.f.terms.getD (s.f.terms.length - 2) 0, s.f.terms.getD (s.f.terms.length - 1) 0]
 rw [← e2] at e3
 unfold Tot at h ⊢
 simp only [jStep, pAdd, tf] at h ⊢
 rw [szl_app, szl_one, fl_new v.okT hv, tt_ext v.okT _ v.vF, szl_ext v.okT v.vf.2, szl_ext v.okT (fun i hi => v.vf.1 i (X0y hi))]
 simp only [Xb, X4, Xh, Xj]
 have e4 : szl s.T [s.f.terms.getD (s.f.terms.length - 2) 0, s.f.terms.getD (s.f.terms.length - 1) 0] = (List.flatMap (fl s.T) [s.f.terms.getD (s.f.terms.length - 2) 0, s.f.terms.getD (s.f.terms.length - 1) 0]).length := rfl
 omega
theorem pJoin_tot (least : Int) : ∀ (k : Nat) (s : Ps), VS s → InvJ s → k = s.f.signs.length → Tot s 0 → Tot (Y0v least k s) 0 ∧ VS (Y0v least k s)
 | 0, s, v, _, _, h => ⟨h, v⟩
 | k + 1, s, v, I, hk, h => by
  rw [Y0v]
  split
  ·obtain ⟨h1, h2⟩ := I.step (by omega)
   exact pJoin_tot least k (jStep s) (v.step I (by omega)) h1 (by omega) (h.step v I (by omega))
  ·exact ⟨h, v⟩
theorem Tot.at_ (h : Tot s d) (n : Int) : Tot { s with at_ := n } d := h
theorem Tot.sign (w : W t s 1 r) (h : Tot s 0) (hlt : s.at_ < (t.size : Nat)) (op : Int) : Tot (pSign op s) 0 := by
 have w0 := w.adv (c := 1) (by omega) (by omega)
 exact (pJoin_tot (prec op) _ { s with at_ := s.at_ + 1 } w0.vs w0.invJ rfl h).1
theorem Tot.opd (w : W t s 1 r) (h : Tot s 0) (hlt : s.at_ < (t.size : Nat)) : Tot (pOpd { s with at_ := s.at_ + 1 }) 0 := by
 have w0 := w.adv (c := 1) (by omega) (by omega)
 obtain ⟨h1, v1⟩ := pJoin_tot 0 _ { s with at_ := s.at_ + 1 } w0.vs w0.invJ rfl h
 have p1 := pJoin_all _ _ w0.invJ rfl
 obtain ⟨b1, _⟩ := Y2r 0 _ _ w0.invJ rfl
 have hl := b1.len
 simp only at p1 h1 v1 hl
 have e : (Y0v 0 s.f.signs.length { s with at_ := s.at_ + 1 }).f.terms = [Y13 { s with at_ := s.at_ + 1 }] := by
  unfold Y13
  simp only
  generalize (Y0v 0 s.f.signs.length { s with at_ := s.at_ + 1 }).f.terms = l at hl
  cases l with
  | nil => simp at hl
  | cons a l =>
   cases l with
   | nil => rfl
   | cons b l => rw [p1] at hl; simp at hl
 unfold Tot tf at h1 ⊢
 rw [e] at h1
 show tt (Y0v 0 s.f.signs.length { s with at_ := s.at_ + 1 }).T (Y0v 0 s.f.signs.length { s with at_ := s.at_ + 1 }).F + (szl _ [] + szl (Y0v 0 s.f.signs.length { s with at_ := s.at_ + 1 }).T ((Y0v 0 s.f.signs.length { s with at_ := s.at_ + 1 }).f.ops ++ [Y13 { s with at_ := s.at_ + 1 }])) + 0 = (Y0v 0 s.f.signs.length { s with at_ := s.at_ + 1 }).T.length
 rw [szl_app, szl_nil]
 omega
theorem Tot.close (w : W t s 0 r) (hF : s.F ≠ []) (h : Tot s 0) (ht : s.f.terms = []) (op n : Int) : Tot (pClose op n s) 0 := by
 obtain ⟨F', f', hF'⟩ := last_split hF
 have hd : s.F.dropLast = F' := by rw [hF']; simp
 have hg : s.F.getLast?.getD s.f = f' := by rw [hF']; simp
 have v := w.vs
 have vF := v.vF
 unfold pClose
 rw [hd, hg]
 unfold Tot at h ⊢
 rw [hF'] at vF
 have vf' := vF f' (by simp)
 simp only [pTerm, pAdd, tf] at h ⊢
 rw [hF', tt_app, ht, szl_nil] at h
 rw [szl_app, szl_one, fl_new v.okT v.vf.2, tt_ext v.okT _ (fun f hf => vF f (by simp [hf])), szl_ext v.okT vf'.1, szl_ext v.okT vf'.2]
 simp only [Xb, X4, Xh, Xj]
 have e4 : szl s.T s.f.ops = (List.flatMap (fl s.T) s.f.ops).length := rfl
 unfold tf at h
 omega
theorem pFin_tot {c y : Int} (w : W t s 1 r) (hF : s.F ≠ []) (h1 : s.at_ < (t.size : Nat)) (hT : Tot s 0) (h : pFin c s = .ok s' y) : Tot s' 0 := by
 obtain ⟨w1, hp⟩ := w.opd (by omega)
 have w0 := w.adv (c := 1) (by omega) (by omega)
 obtain ⟨d1, d2, d3, d4, d5, d6, d7, d8, d9, d10, d11, d12, d13⟩ := pOpd_inv w0.invJ w0.cur.vo
 have t1 := hT.opd w h1
 unfold pFin at h
 split at h
 ·simp only [Res.ok.injEq] at h
  rw [← h.1]
  exact t1.close w1 (by rw [d4]; exact hF) d11 _ _
 ·simp only [Res.ok.injEq] at h
  rw [← h.1]; exact t1
theorem pMatrix_tot {y : Int} (w : W t s 1 3) (hF : s.F ≠ []) (hT : Tot s 0) (h : Y1h t s = .ok s' y) : Tot s' 0 := by
 have cc := w.cur.c
 by_cases h1 : Yh t s = 44 ∧ s.f.ents + 1 < (if s.f.cols = 0 then 4 else s.f.cols)
 ·rw [Y1h, if_pos h1] at h
  have hlt := Y30 h1.1 (by omega)
  have he : s.f.ents + 1 ≤ 3 := by
   have := h1.2
   split at this <;> omega
  exact pFin_tot (s := { s with f := { s.f with ents := s.f.ents + 1 } }) (r := 3) (w.row rfl rfl rfl rfl (by simp only; omega) (by omega)) hF hlt hT h
 ·by_cases h2 : (Yh t s = 59 ∧ (s.f.cols = 0 ∨ s.f.ents + 1 = s.f.cols) ∧ s.f.rows + 1 < 4) ∨ (Yh t s = 41 ∧ (s.f.cols = 0 ∨ s.f.ents + 1 = s.f.cols))
  ·rw [Y1h, if_neg h1, if_pos h2] at h
   rcases h2 with ⟨p1, p2, p3⟩ | ⟨p1, p2⟩
   ·exact pFin_tot (r := 3) (w.row (f' := { s.f with cols := s.f.ents + 1, ents := 0, rows := s.f.rows + 1 }) rfl rfl rfl rfl (by simp only; omega) (by omega)) hF (Y30 p1 (by omega)) hT h
   ·exact pFin_tot (r := 4) (w.row (f' := { s.f with cols := s.f.ents + 1, ents := 0, rows := s.f.rows + 1 }) rfl rfl rfl rfl (by simp only; omega) (by omega)) hF (Y30 p1 (by omega)) hT h
  ·rw [Y1h, if_neg h1, if_neg h2] at h
   cases h
theorem pFollow_tot {y : Int} (w : W t s 1 3) (hT : Tot s 0) (h : Y11 t s = .ok s' y) : Tot s' 0 := by
 have sgn : ∀ {op b : Int}, Yh t s = b → b ≠ 0 → Res.ok (pSign op s) 0 = Res.ok s' y → Tot s' 0 := fun {op b} hp hb he => by
  simp only [Res.ok.injEq] at he
  rw [← he.1]
  exact hT.sign w (Y30 hp hb) op
 unfold Y11 at h
 split at h
 ·exact sgn (by assumption) (by omega) h
 ·split at h
  ·exact sgn (by assumption) (by omega) h
  ·split at h
   ·exact sgn (by assumption) (by omega) h
   ·split at h
    ·exact sgn (by assumption) (by omega) h
    ·split at h
     ·split at h
      ·cases h
      ·simp only [Res.ok.injEq] at h
       rw [← h.1]; exact hT
     ·rename_i ho
      have hF : s.F ≠ [] := w.invF.top.resolve_left ho
      split at h
      ·exact pMatrix_tot w hF hT h
      ·split at h
       ·unfold pMore at h
        cases hE : Y1z t 44 s with
        | bad s1 => rw [hE] at h; cases h
        | ok s1 u =>
         obtain ⟨rfl, hlt⟩ := Y55 (by omega) hE
         rw [hE, Y07] at h
         simp only [Res.ok.injEq] at h
         rw [← h.1]
         exact hT.opd w hlt
       ·unfold pEnd at h
        cases hE : Y1z t 41 s with
        | bad s1 => rw [hE] at h; cases h
        | ok s1 u =>
         obtain ⟨rfl, hlt⟩ := Y55 (by omega) hE
         rw [hE, Y07] at h
         simp only [Res.ok.injEq] at h
         have w0 := w.adv (c := 1) (by omega) (by omega)
         obtain ⟨d1, d2, d3, d4, d5, d6, d7, d8, d9, d10, d11, d12, d13⟩ := pOpd_inv w0.invJ w0.cur.vo
         rw [← h.1]
         exact (hT.opd w hlt).close (w.opd (by omega)).1 (by rw [d4]; exact hF) d11 _ _
theorem pBegin_tot : ∀ (k : Nat) (s s' : Ps), W t s 0 3 → Tot s 0 → Y36 t k s = .ok s' () → Tot s' 0
 | 0, s, s', w, hT, h => by simp [Y36] at h
 | k + 1, s, s', w, hT, h => by
  have wnF := w.nF
  rw [Y36] at h
  split at h
  ·rename_i hd
   cases hN : Y14 t s with
   | bad s1 => rw [hN] at h; cases h
   | ok s1 i =>
    obtain ⟨x1, x2, x3⟩ := Y2h w.okT hN
    have x4 := pNumber_fl w.okT hN
    rw [hN, Y07] at h
    simp only [Res.ok.injEq, and_true] at h
    rw [← h]
    refine Tot.term ?_
    have := hT.ext w.vs x1
    rw [x4]
    rwa [x3, show 0 + (s.T.length + 1 - s.T.length) = 1 by omega] at this
  ·split at h
   ·rename_i h40
    have hlt := Y30 h40 (by omega)
    refine pBegin_tot k _ _ ((w.adv (c := 1) (by omega) (by omega)).push 10 (by simp only; omega)) ?_ h
    unfold Tot at hT ⊢
    simp only [pPush, tt_app]
    simp only [tf, szl_nil] at hT ⊢
    omega
   ·split at h
    ·rename_i hz
     have hlt := Y30 (t := t) (s := s) rfl (by omega)
     cases hW : pWord t s with
     | bad s1 => rw [hW] at h; cases h
     | ok s1 op =>
      rw [hW, Y07] at h
      obtain ⟨c, rfl, c1, c7, hop⟩ := pWordL_ok t opsW (fun _ h => h) s s1 op hW
      have w1 := w.adv (c := (c : Int)) (by omega) (by omega)
      split at h
      ·simp only [Res.ok.injEq, and_true] at h
       rw [← h]
       refine Tot.term ?_
       have e : Ext { s with at_ := s.at_ + (c : Int) } (pAdd 1 (Yh t s - 97) [] { s with at_ := s.at_ + (c : Int) }) 1 := ⟨rfl, rfl, by simp only [pAdd]; omega, by simp only [pAdd]; omega, ⟨[_], rfl, by simp⟩, okT_add w.okT (fun i hi => by simp at hi)⟩
       have := (hT.at_ (s.at_ + (c : Int))).ext w1.vs e
       have e2 : fl (pAdd 1 (Yh t s - 97) [] { s with at_ := s.at_ + (c : Int) }).T ((s.T.length : Nat) : Int) = [(1, Yh t s - 97)] := fl_new w.okT (fun i hi => by simp at hi)
       show Tot (pAdd 1 (Yh t s - 97) [] { s with at_ := s.at_ + (c : Int) }) (fl (pAdd 1 (Yh t s - 97) [] { s with at_ := s.at_ + (c : Int) }).T ((s.T.length : Nat) : Int)).length
       rw [e2]
       simp only [pAdd, X4, Xh] at this ⊢
       rwa [show 0 + (s.T.length + 1 - s.T.length) = 1 by omega] at this
      ·split at h
       ·rename_i h1 h12
        cases hS : pSum t { s with at_ := s.at_ + (c : Int) } with
        | bad s2 => rw [hS] at h; cases h
        | ok s2 i =>
         rw [hS, Y07] at h
         simp only [Res.ok.injEq, and_true] at h
         rw [← h]
         obtain ⟨y1, y2, y3, y4⟩ := pSum_ok (s := { s with at_ := s.at_ + (c : Int) }) w.okT hS
         have y5 := pSum_sz (s := { s with at_ := s.at_ + (c : Int) }) w.okT hS
         refine Tot.term ?_
         have := (hT.at_ (s.at_ + (c : Int))).ext w1.vs y1
         simp only at y5 this
         rwa [y5, show 0 + (s.T.length + (fl s2.T i).length - s.T.length) = (fl s2.T i).length by omega] at this
       ·refine pBegin_tot k _ _ (w1.push op (by simp only; omega)) ?_ h
        unfold Tot at hT ⊢
        simp only [pPush, tt_app]
        simp only [tf, szl_nil] at hT ⊢
        omega
    ·cases h
theorem pRun_ok : ∀ (k : Nat) (y : Int) (s s' : Ps) (i : Int), Wy t y s → Tot s 0 → pRun t k y s = .ok s' i → OkT s'.T ∧ 0 ≤ i ∧ i < (s'.T.length : Nat) ∧ (fl s'.T i).length ≤ s'.T.length
 | 0, _, _, _, _, _, _, h => by simp [pRun] at h
 | k + 1, y, s, s', i, w, hT, h => by
  have wy : ∀ {s1 s2 : Ps} {y2 : Int}, W t s1 1 3 → Y11 t s1 = .ok s2 y2 → Wy t y2 s2 := fun {s1 s2 y2} w1 e => by
   rcases pFollow_ok w1 e with ⟨rfl, a, b⟩ | ⟨rfl, a, b⟩ | ⟨rfl, rfl, b, c⟩
   ·exact .inl ⟨rfl, a⟩
   ·exact .inr (.inl ⟨rfl, a⟩)
   ·exact .inr (.inr ⟨rfl, w1, b⟩)
  rw [pRun] at h
  split at h
  ·have w1 : W t s 1 3 := by
    rcases w with ⟨a, _⟩ | ⟨_, b⟩ | ⟨a, _⟩
    ·omega
    ·exact b
    ·omega
   cases hF : Y11 t s with
   | bad s1 => rw [hF] at h; cases h
   | ok s1 y1 =>
    rw [hF, Y07] at h
    exact pRun_ok k y1 s1 s' i (wy w1 hF) (pFollow_tot w1 hT hF) h
  ·split at h
   ·have w1 : W t s 1 3 := by
     rcases w with ⟨a, _⟩ | ⟨a, _⟩ | ⟨_, b, _⟩
     ·omega
     ·omega
     ·exact b
    simp only [Res.ok.injEq] at h
    obtain ⟨h1, v1⟩ := pJoin_tot 0 _ s w1.vs w1.invJ rfl hT
    have p1 := pJoin_all _ _ w1.invJ rfl
    obtain ⟨b1, _⟩ := Y2r 0 _ _ w1.invJ rfl
    have hl := b1.len
    have e : (Y0v 0 s.f.signs.length s).f.terms = [Y13 s] := by
     unfold Y13
     generalize (Y0v 0 s.f.signs.length s).f.terms = l at hl
     cases l with
     | nil => simp at hl
     | cons a l =>
      cases l with
      | nil => rfl
      | cons b l => rw [p1] at hl; simp at hl
    have hv := b1.val (Y13 s) (by rw [e]; simp)
    rw [← h.1, ← h.2]
    unfold Tot tf at h1
    rw [e, szl_one] at h1
    exact ⟨b1.okT, hv.1, hv.2, by show _ ≤ (Y0v 0 s.f.signs.length s).T.length; show (fl (Y0v 0 s.f.signs.length s).T _).length ≤ _; omega⟩
   ·have w0 : W t s 0 3 := by
     rcases w with ⟨_, b⟩ | ⟨a, _⟩ | ⟨a, _⟩
     ·exact b
     ·omega
     ·omega
    cases hB : Y36 t (fuelB t) s with
    | bad s1 => rw [hB] at h; cases h
    | ok s1 u =>
     rw [hB, Y07] at h
     obtain ⟨w1, lt1⟩ := pBegin_ok _ _ _ w0 hB
     have t1 := pBegin_tot _ _ _ w0 hT hB
     cases hF : Y11 t s1 with
     | bad s2 => rw [hF] at h; cases h
     | ok s2 y2 =>
      rw [hF, Y07] at h
      exact pRun_ok k y2 s2 s' i (wy w1 hF) (pFollow_tot w1 t1 hF) h
end
end Go.Proofs.YtkgfbpbndmklnaaDoor
namespace Go.Abs
section
namespace Rep
variable {h h1 : Hp} {g g1 : Tag} {txt : ByteArray} {s : Ps} {L : Lay}
theorem keepAll (R : Rep h g txt s L) (hs : ∀ r, h.at r ≠ none → g r ≠ 4 → h1.at r = h.at r ∧ g1 r = g r) : Rep h1 g1 txt s L := by
 have gp := R.gp
 have gf := R.gf
 have sl : ∀ {x : AV} {e k n t' : Nat} {cs : List AV}, (SlA h x e k n cs ∧ ∀ r ∈ Y06 x, g r = t') → t' ≠ 4 → SlA h1 x e k n cs ∧ ∀ r ∈ Y06 x, g1 r = t' := fun H n4 => SlA.keep H fun r hr hg => by
  obtain ⟨a, b⟩ := hs r hr (by omega); exact ⟨a, b.trans hg⟩
 have p1 := hs L.p (by rw [R.box]; simp) (by omega)
 have f1 := hs L.fr (by rw [R.frs]; simp) (by omega)
 have tr := sl ⟨R.trs, R.gt⟩ (by omega)
 exact ⟨p1.1.trans R.box, p1.2.trans gp, f1.1.trans R.frs, f1.2.trans gf, tr.1, tr.2, R.lX, fun i x t a b => sl (R.xs i x t a b) (by omega), R.lR, RowsOK.keep R.rows fun r a b c => hs r a (by omega), RowOK.keep R.row fun r a b => hs r a (by omega)⟩
theorem appOther (R : Rep h g txt s L) {x : AV} {e k n : Nat} {cs : List AV} {bytes : Nat} (hx : SlA h x e k n cs) (hg : ∀ r ∈ Y06 x, g r = 4) (news : List AV) (hk : news.length = k) (hb : (n + 1) * bytes ≤ 140737488355328) (hn : n + 1 ≤ 140737488355328) :
  ∃ h1 g1 y, App h x e k bytes 1 news h1 y ∧ NC y ∧ SlA h1 y e k (n + 1) (cs ++ news) ∧ (∀ r ∈ Y06 y, g1 r = 4) ∧ Rep h1 g1 txt s L ∧ KeptE (Y06 x) h g h1 g1 ∧ (∀ r ∈ Y06 y, r ∈ Y06 x ∨ h.at r = none) ∧ ∀ r, h.at r ≠ none → h1.at r ≠ none := by
 obtain ⟨h1, y, q, a1, a2, a3, a4, a5, a6⟩ := SlA.app (bytes := bytes) hx news hk hb hn
 have dom : ∀ r, h.at r ≠ none → h1.at r ≠ none := fun r hr => by
  by_cases e : r = q
  ·exact a3.dom r (by rw [a4, e]; simp)
  ·rw [a5 r (by simpa using e)]; exact hr
 rcases a6 with a6 | ⟨a6, a7⟩
 ·have gq : g q = 4 := hg q (by rw [a6]; simp)
  refine ⟨h1, g, y, a1, a2, a3, fun r hr => ?_, R.keepAll fun r hr h4 => ⟨a5 r (by simp only [Xd]; intro e; rw [e] at h4; exact h4 gq), rfl⟩, fun r hr _ hg' => ⟨a5 r (by rw [a6] at hr; exact hr), hg'⟩, fun r hr => .inl ?_, dom⟩
  ·rw [a4] at hr; simp only [Xd] at hr; rw [hr]; exact gq
  ·rw [a4] at hr; rw [a6]; exact hr
 ·have ne : ∀ r, h.at r ≠ none → r ≠ q := fun r hr e => hr (by rw [e]; exact a7)
  refine ⟨h1, upg g q 4, y, a1, a2, a3, fun r hr => ?_, R.keepAll fun r hr h4 => ⟨a5 r (by simp only [Xd]; exact ne r hr), upg_ne g 4 (ne r hr)⟩, fun r _ hr hg' => ⟨a5 r (by simp only [Xd]; exact ne r hr), by rw [upg_ne g 4 (ne r hr)]; exact hg'⟩, fun r hr => .inr ?_, dom⟩
  ·rw [a4] at hr; simp only [Xd] at hr; rw [hr]; exact upg_self _ _ _
  ·rw [a4] at hr; simp only [Xd] at hr; rw [hr]; exact a7
end Rep
structure Kp (x : AV) (h : Hp) (g : Tag) (y : AV) (h' : Hp) (g' : Tag) : Prop where
 keep : KeptE (Y06 x) h g h' g'
 root : ∀ r ∈ Y06 y, r ∈ Y06 x ∨ h.at r = none
 live : ∀ r, h.at r ≠ none → h'.at r ≠ none
theorem Kp.trans {x y z : AV} {h h1 h2 : Hp} {g g1 g2 : Tag} (a : Kp x h g y h1 g1) (b : Kp y h1 g1 z h2 g2) : Kp x h g z h2 g2 := by
 refine ⟨fun r hr hn hg => ?_, fun r hr => ?_, fun r hr => b.live r (a.live r hr)⟩
 ·obtain ⟨c1, c2⟩ := a.keep r hr hn hg
  obtain ⟨d1, d2⟩ := b.keep r (fun hy => by
   rcases a.root r hy with h | h
   ·exact hr h
   ·exact hn h) (by rw [c1]; exact hn) c2
  exact ⟨d1.trans c1, d2⟩
 ·rcases b.root r hr with h3 | h3
  ·exact a.root r h3
  ·by_cases hz : h.at r = none
   ·exact .inr hz
   ·exact absurd h3 (a.live r hz)
end
end Go.Abs
namespace Go.Proofs.YtkgfbpbndmklnaaDoor
open Go.Abs
def nodesC (l : List (Int × Int)) : List AV := l.flatMap fun a => [.int .i64 a.1, .int .i64 a.2]
theorem nodesC_app (a b : List (Int × Int)) : nodesC (a ++ b) = nodesC a ++ nodesC b := by simp [nodesC]
section
variable {txt : ByteArray} {s : Ps} {L : Lay}
theorem treesC_two {T : List Tn} {X : List AV} (hl : X.length = T.length) {i : Nat} (hi : i < T.length) : ((treesC T X).drop (i * 4)).take 2 = [.int .i64 (T.getD i noT).op, .int .i64 (T.getD i noT).n] := by
 have h1 : T[i]? = some T[i] := X2 hi
 have h2 : X[i]? = some (X[i]'(by omega)) := X2 (by omega)
 have := treesC_get T X i _ _ h1 h2
 have e := congrArg (List.take 2) this
 rw [X0t, show min 2 4 = 2 by rfl] at e
 rw [e, X8, h1]
 rfl
theorem treesC_ops {T : List Tn} {X : List AV} (hl : X.length = T.length) {i : Nat} (hi : i < T.length) : (treesC T X)[i * 4 + 2]? = some (X[i]'(by omega)) := by
 have h1 : T[i]? = some T[i] := X2 hi
 have h2 : X[i]? = some (X[i]'(by omega)) := X2 (by omega)
 have := treesC_get T X i _ _ h1 h2
 have e := congrArg (fun l : List AV => l[2]?) this
 simp only [Xk, X0w, treeC] at e
 rw [Vp] at e
 rw [e]
 rfl
theorem flatL_len (T : List Tn) : ∀ (l : List Int), l.length ≤ (l.flatMap (fl T)).length
 | [] => by simp
 | i :: l => by
  have := flatL_len T l
  have h1 : 1 ≤ (fl T i).length := by rw [fl, flT]; simp
  simp only [Xq, X4, Xb]
  omega
theorem c_flat (hT : OkT s.T) : ∀ (m : Nat) (i : Int) (h : Hp) (g : Tag) (x : AV) (l : List (Int × Int)), i < (m : Nat) → 0 ≤ i → i < (s.T.length : Nat) → Rep h g txt s L → SlA h x 26 2 l.length (nodesC l) → (∀ r ∈ Y06 x, g r = 4) → l.length + (fl s.T i).length ≤ 1000000000 →
  ∃ h' g' y, CallOK Tryd.prog 33 [.ref L.p 0 0, x, .int .i64 i] h h' y ∧ NC y ∧ Rep h' g' txt s L ∧ SlA h' y 26 2 (l ++ fl s.T i).length (nodesC (l ++ fl s.T i)) ∧ (∀ r ∈ Y06 y, g' r = 4) ∧ Kp x h g y h' g' := by
 intro m
 induction m with
 | zero => intro i h g x l h1 h2; omega
 | succ m ih =>
  intro i h g x l hm i0 i1 R hx hg hb
  have fs := fl_step hT ⟨i0, i1⟩
  have hops := hT.ops ⟨i0, i1⟩
  have hin : i.toNat < s.T.length := by omega
  obtain ⟨t, ht1, ht2⟩ := getD_in ⟨i0, i1⟩
  rw [ht2] at fs hops
  have hol : t.ops.length ≤ 1000000000 := by
   have := flatL_len s.T t.ops
   rw [fs] at hb
   simp only [Xb] at hb
   omega
  -- the node
  obtain ⟨r2, v2, e1, e2, e3, e4⟩ := SlA.ix R.trs i0 i1
  have n2 := e4 2 (by omega)
  rw [treesC_two R.lX hin, ht2] at n2
  obtain ⟨q, hq⟩ := h.fresh
  obtain ⟨a1, a2, a3, a4⟩ := R.grow (t := 4) (rt := ⟨0, true, 26, 2, [.int .i64 t.op, .int .i64 t.n]⟩) (.inr rfl) hq
  have X1 := SlA.after hx hg a3
  have hle : l.length + 1 ≤ 1000000000 := by rw [fs] at hb; simp only [Xb] at hb; omega
  obtain ⟨h1, g1, y, b1, b2, b3, b4, b5, b6, b7, b8⟩ := a2.appOther (bytes := 16) X1.1 X1.2 [.int .i64 t.op, .int .i64 t.n] rfl (by omega) (by omega)
  obtain ⟨r3, v3, f1, f2, f3, f4⟩ := SlA.ix b5.trs i0 i1
  have o2 := f3 2 _ (by omega) (treesC_ops b5.lX hin)
  have hX : L.X[i.toNat]? = some (L.X[i.toNat]'(by rw [R.lX]; exact hin)) := X2 _
  generalize L.X[i.toNat]'(by rw [R.lX]; exact hin) = xo at hX o2
  have xs1 := b5.xs i.toNat xo t hX ht1
  have rq : ∀ r ∈ Y06 y, r ∈ Y06 x ∨ h.at r = none := fun r hr => by
   rcases b7 r hr with h2 | h2
   ·exact .inl h2
   ·by_cases hrq : q = r
    ·exact .inr (by rw [← hrq]; exact hq)
    ·rw [Y1l hrq] at h2
     exact .inr h2
  have K1 : Kp x h g y h1 g1 := ⟨a3.toE.trans b6, rq, fun r hr => b8 r (by rw [grow_at hq hr]; exact hr)⟩
  have hp : pre_flat h L.p x i (fun h' y' => NC y' ∧ ∃ g', Rep h' g' txt s L ∧ SlA h' y' 26 2 (l ++ fl s.T i).length (nodesC (l ++ fl s.T i)) ∧ (∀ r ∈ Y06 y', g' r = 4) ∧ Kp x h g y' h' g') (fun _ _ => False) := by
   refine ⟨R.has, L.xt, R.trs.nc, R.ldT, r2, v2, _, e1, e2, t.op, t.n, n2, q, _, a1, h1, y, b2, b1, b5.has, L.xt, b5.trs.nc, b5.ldT, r3, v3, _, f1, f2, xo, xs1.1.nc, o2, t.ops.length, xs1.1.len,
    fun m9 y9 j h9 => ∃ g9, Rep h9 g9 txt s L ∧ 0 ≤ j ∧ j ≤ (t.ops.length : Nat) ∧ m9 = t.ops.length - j.toNat ∧ SlA h9 y9 26 2 (l ++ (t.op, t.n) :: (t.ops.take j.toNat).flatMap (fl s.T)).length (nodesC (l ++ (t.op, t.n) :: (t.ops.take j.toNat).flatMap (fl s.T))) ∧ (∀ r ∈ Y06 y9, g9 r = 4) ∧ Kp x h g y9 h9 g9,
    ⟨t.ops.length, g1, b5, by omega, by omega, by simp, ?_, b4, K1⟩, ?_⟩
   ·have e : (l ++ (t.op, t.n) :: (t.ops.take (0 : Int).toNat).flatMap (fl s.T)) = l ++ [(t.op, t.n)] := by simp
    rw [e, nodesC_app, X4, Xh]
    exact b3
   ·rintro m9 y9 j h9 ⟨g9, R9, j0, j1, rfl, S9, G9, K9⟩ nc9
    refine ⟨fun hj => ?_, fun hj => ?_⟩
    ·have hj' : j < (t.ops.length : Nat) := of_decide_eq_true hj
     have hjn : j.toNat < t.ops.length := by omega
     have xs9 := R9.xs i.toNat xo t hX ht1
     obtain ⟨r4, v4, o4, c1, c2⟩ := SlI.get xs9.1 j0 hj'
     have hmem : t.ops.getD j.toNat 0 ∈ t.ops := by
      rw [X8, X2 hjn]; exact List.getElem_mem _
     have ho := hops _ hmem
     have etake : t.ops.take (j.toNat + 1) = t.ops.take j.toNat ++ [t.ops.getD j.toNat 0] := by
      rw [List.take_add_one, X2 hjn, X8, X2 hjn]; rfl
     have hlen : ((t.ops.take (j.toNat + 1)).flatMap (fl s.T)).length ≤ (t.ops.flatMap (fl s.T)).length := by
      conv => rhs; rw [← X0u (j.toNat + 1) t.ops]
      rw [X18, X4]; omega
     rw [etake, X18, X4] at hlen
     obtain ⟨h8, g8, y8, d1, d2, d3, d4, d5, d6⟩ := ih (t.ops.getD j.toNat 0) h9 g9 y9 (l ++ (t.op, t.n) :: (t.ops.take j.toNat).flatMap (fl s.T)) (by omega) ho.1 (by omega) R9 S9 G9 (by
      rw [fs] at hb
      simp only [X4, Xb] at hb ⊢
      simp only [Xq, List.flatMap_nil, X0e] at hlen
      omega)
     have ecat : (l ++ (t.op, t.n) :: (t.ops.take j.toNat).flatMap (fl s.T)) ++ fl s.T (t.ops.getD j.toNat 0) = l ++ (t.op, t.n) :: (t.ops.take (j + 1).toNat).flatMap (fl s.T) := by
      rw [show (j + 1).toNat = j.toNat + 1 by omega, etake, X18]
      simp
     rw [ecat] at d4
     refine ⟨r4, v4, o4, c1, _, c2, h8, y8, d2, d1, Y4r (by omega) (by omega), t.ops.length - (j + 1).toNat, by omega, g8, d3, by omega, by omega, rfl, d4, d5, K9.trans d6⟩
    ·have hj' : j.toNat = t.ops.length := by have : ¬ j < (t.ops.length : Nat) := of_decide_eq_false hj; omega
     rw [hj', Xt (Xf _), ← fs] at S9
     exact ⟨nc9, g9, R9, S9, G9, K9⟩
  obtain ⟨h', y', c1, c2, g', c3, c4, c5, c6⟩ := Y5a (w_flat hx.nc hp)
  exact ⟨h', g', y', c1, c2, c3, c4, c5, c6⟩
end
end Go.Proofs.YtkgfbpbndmklnaaDoor
namespace Go.Abs
section
variable {P : Program} {ops : Array Oper} {Q : Exit → Act → List Frame → World → Prop} {a : Act} {cs : List Frame} {w : World} {i : Nat} {o : Oper} {rest : List Nat}
theorem wpOpsS_rec {v : Value} {cs' : List Frame} (ho : ops[i]? = some o) (hg : o.guard = none) (hr : (execOp a.eval o).run P w = .ok .recover w) (hc : recoverD cs = some (v, cs')) (H : wpOpsS P ops Q rest (a.put o.dst v) cs' w) : wpOpsS P ops Q (i :: rest) a cs w := by
 simp only [wpOpsS, ho]
 rw [if_pos (by simp [Region.wanted, hg])]
 simp only [hr, hc]
 exact H
theorem wpOpsS_recN (ho : ops[i]? = some o) (hg : o.guard = none) (hr : (execOp a.eval o).run P w = .ok .recover w) (hc : recoverD cs = none) (H : wpOpsS P ops Q rest (a.put o.dst .nilIface) cs w) : wpOpsS P ops Q (i :: rest) a cs w := by
 simp only [wpOpsS, ho]
 rw [if_pos (by simp [Region.wanted, hg])]
 simp only [hr, hc]
 exact H
theorem wpOpsS_val {v : Value} (ho : ops[i]? = some o) (hg : o.guard = none) (hr : (execOp a.eval o).run P w = .ok (.value v) w) (H : wpOpsS P ops Q rest (a.put o.dst v) cs w) : wpOpsS P ops Q (i :: rest) a cs w := by
 simp only [wpOpsS, ho]
 rw [if_pos (by simp [Region.wanted, hg])]
 simp only [hr, Oper.upon]
 exact H
theorem wpOpsS_two {o0 o1 : Oper} {v0 v1 : Value} {cs' : List Frame} (hops : ops = #[o0, o1]) (g0 : o0.guard = none) (g1 : o1.guard = none) (h0 : o0.op = .call ⟨.builtin .recover, #[], #[]⟩) (hc : (recoverD cs = some (v0, cs')) ∨ (recoverD cs = none ∧ v0 = .nilIface ∧ cs' = cs))
  (h1 : (execOp (a.put o0.dst v0).eval o1).run P w = .ok (.value v1) w) (H : Q .normal ((a.put o0.dst v0).put o1.dst v1) cs' w) : wpOpsS P ops Q (List.range ops.size) a cs w := by
 subst hops
 have hr : (execOp a.eval o0).run P w = .ok .recover w := by
  simp only [execOp, h0, resolve, X6, Xz, Xi]
  rfl
 have e : List.range (#[o0, o1] : Array Oper).size = [0, 1] := rfl
 rw [e]
 have hlast : wpOpsS P #[o0, o1] Q [1] (a.put o0.dst v0) cs' w := wpOpsS_val (v := v1) (o := o1) rfl g1 h1 H
 rcases hc with hc | ⟨hc, rfl, rfl⟩
 ·exact wpOpsS_rec (o := o0) rfl g0 hr hc hlast
 ·exact wpOpsS_recN (o := o0) rfl g0 hr hc hlast
end
end Go.Abs
namespace Go.Proofs.YtkgfbpbndmklnaaDoor
open Go.Abs
def sndC : Code → Code
 | .seq _ b => b
 | c => c
def thenC : Code → Code
 | .cond _ b _ => b
 | c => c
def bodyC (b : Option Code) : Code := thenC (sndC (b.getD .skip))
theorem recoverD_pan {c₀ : Frame} {cs : List Frame} (hu : c₀.mode = .panicking chM) : recoverD (c₀ :: cs) = some (.iface 101 (.agg #[]), { c₀ with mode := .panicking [{ v := .iface 101 (.agg #[]), recovered := true }] } :: cs) := by
 simp [recoverD, hu, chM]
theorem recoverD_ret {c₀ : Frame} {cs : List Frame} (hu : c₀.mode = .returning) : recoverD (c₀ :: cs) = none := by
 simp [recoverD, hu]
theorem vrl4 {w : World} {h : Hp} {ι : Nat → Bk} {A : Nat → Prop} {a b c d : AV} {vs : List Value} (hv : VRL w h ι A [a, b, c, d] vs) : vs.length = 4 := by
 have := hv.length
 simpa using this
theorem q_caught {rp r1 r2 r3 p : Nat} {n : Int} {h h1 h2 h3 : Hp} (l1 : Ld h rp 0 0 (.ref p 0 0)) (hp : Has h p 0) (l2 : Ld h p 0 1 (.int .i64 n)) (s1 : St h r1 0 0 nilA h1) (s2 : St h1 r2 0 0 (.int .i64 n) h2) (s3 : St h2 r3 0 0 (.int .i64 90) h3) :
  GQ [] Tryd.prog 10 (bodyC Tryd.f31.body) (setd (setd (args0 0 [.ref rp 0 0, .ref r1 0 0, .ref r2 0 0, .ref r3 0 0]) (some 4) .any) (some 5) .any) h (fun x _ h' => x = .normal ∧ h' = h3) := by
 refine GQ.toE [(0, .ref rp 0 0), (1, .ref r1 0 0), (2, .ref r2 0 0), (3, .ref r3 0 0)] (by kernel_rfl) <| Y1 <| Y4p (av := .ref p 0 0) rfl (OStep.yes rfl (Y5w (r := rp) (ver := 0) (off := 0) rfl (by kernel_rfl) (by kernel_rfl) l1)) <| Y4p (av := .ref p 0 0) rfl (OStep.yes rfl (Y5t (r := p) (ver := 0) (off := 0) rfl (by kernel_rfl) hp)) ?_
 refine Y4p (av := .ref p 0 1) rfl (OStep.yes rfl (HStep.fa (d := 1) (r := p) (ver := 0) (off := 0) rfl (by kernel_rfl) (by kernel_rfl) hp)) <| Y4p (av := .int .i64 n) rfl (OStep.yes rfl (Y5w (r := p) (ver := 0) (off := 1) rfl (by kernel_rfl) (by kernel_rfl) l2)) <| Y4p (av := .any) rfl (OStep.yes rfl (Y5m (r := r1) (ver := 0) (off := 0) (n := 1) (v := nilA) rfl (by kernel_rfl) (by kernel_rfl) (by kernel_rfl) ⟨trivial, rfl⟩ (by kernel_rfl) s1)) ?_
 exact Y4p (av := .any) rfl (OStep.yes rfl (Y5m (r := r2) (ver := 0) (off := 0) (n := 1) (v := .int .i64 n) rfl (by kernel_rfl) (by kernel_rfl) (by kernel_rfl) ⟨trivial, rfl⟩ (by kernel_rfl) s2)) <| Y4p (av := .any) rfl (OStep.yes rfl (Y5m (r := r3) (ver := 0) (off := 0) (n := 1) (v := .int .i64 90) rfl (by kernel_rfl) (by kernel_rfl) (by kernel_rfl) ⟨trivial, rfl⟩ (by kernel_rfl) s3)) <| Y7 ⟨rfl, rfl⟩
theorem list4 {α : Type} {l : List α} (h : l.length = 4) : ∃ a b c d, l = [a, b, c, d] := by
 match l, h with
 | [a, b, c, d], _ => exact ⟨a, b, c, d, rfl⟩
theorem res31 (tmps : Array Value) (w : World) : (results Tryd.f31 tmps).run Tryd.prog w = .ok (.tuple #[]) w := by
 simp [results, Tryd.results31]
theorem c_caught {rp r1 r2 r3 p : Nat} {n : Int} {h h1 h2 h3 : Hp} (l1 : Ld h rp 0 0 (.ref p 0 0)) (hp : Has h p 0) (l2 : Ld h p 0 1 (.int .i64 n)) (s1 : St h r1 0 0 nilA h1) (s2 : St h1 r2 0 0 (.int .i64 n) h2) (s3 : St h2 r3 0 0 (.int .i64 90) h3) :
  CallDf Tryd.prog 31 [.ref rp 0 0, .ref r1 0 0, .ref r2 0 0, .ref r3 0 0] h (.panicking chM) h3 (.panicking [{ v := .iface 101 (.agg #[]), recovered := true }]) := by
 intro X w ι vs H hv
 obtain ⟨x, e', h', G, rfl, rfl⟩ := q_caught l1 hp l2 s1 s2 s3
 obtain ⟨a, b, c, d, rfl⟩ := list4 (vrl4 hv)
 refine callsD_of_wpS Tryd.func31 rfl fun c₀ cs hu => ?_
 apply wpS_seq
 apply wpS_region
 have S0 := fnArgs (N := 10) (show [AV.ref rp 0 0, .ref r1 0 0, .ref r2 0 0, .ref r3 0 0].length ≤ 10 by simp) hv
 have S1 := S0.setd (d := some 4) (v := .iface 101 (.agg #[])) (av := .any) (Keep.refl _ _ _ _) rfl (by simp [VR])
 have S2 := S1.setd (d := some 5) (v := .bool true) (av := .any) (Keep.refl _ _ _ _) rfl (by simp [VR])
 refine wpOpsS_two (v1 := .bool true) rfl rfl rfl rfl (.inl (recoverD_pan hu)) ?_ ?_
 ·simp [go_sem, Act.put, Act.eval, Tryd.ntmps31]
 refine wpS_cond (t := true) ?_ ?_
 ·simp [Act.put, Act.eval, Tryd.ntmps31]
 rw [if_pos rfl]
 refine wpS_of_wp (wp_mono (G X _ w ι H S2) ?_)
 rintro e a' w' ⟨rfl, ι', H', S', K'⟩
 exact ⟨S'.defers, _, rfl, .tuple #[], res31 _ _, rfl, rfl, ι', H', K'⟩
theorem c_idle (h : Hp) (x1 x2 x3 x4 : AV) : CallDf Tryd.prog 31 [x1, x2, x3, x4] h .returning h .returning := by
 intro X w ι vs H hv
 obtain ⟨a, b, c, d, rfl⟩ := list4 (vrl4 hv)
 refine callsD_of_wpS Tryd.func31 rfl fun c₀ cs hu => ?_
 apply wpS_seq
 apply wpS_region
 refine wpOpsS_two (v1 := .bool false) rfl rfl rfl rfl (.inr ⟨recoverD_ret hu, rfl, rfl⟩) ?_ ?_
 ·simp [go_sem, Act.put, Act.eval, Tryd.ntmps31]
 refine wpS_cond (t := false) ?_ ?_
 ·simp [Act.put, Act.eval, Tryd.ntmps31]
 rw [if_neg (by simp)]
 refine wpS_of_wp (wp_skip ?_)
 exact ⟨rfl, .returning, by cases c₀; simp_all, .tuple #[], res31 _ _, rfl, rfl, ι, H, Keep.refl _ _ _ _⟩
end Go.Proofs.YtkgfbpbndmklnaaDoor
namespace Go.Abs
theorem Hol.toNil {X : Ctx} {h : Hp} {ι : Nat → Bk} {w : World} (H : Hol X h ι w) (hp : ∀ r, X.pin r = none) : Hol X [] ι w where
 roots r rt hr := by cases hr
 inj r r' rt rt' q h1 := by cases h1
 place r rt q h1 := by cases h1
 os := H.os
 tape := H.tape
 output := H.output
 size := H.size
 frame := H.frame
 old := H.old
 glob := H.glob
 pin r b k h1 := by rw [hp r] at h1; cases h1
theorem frzNil {X : Ctx} {h : Hp} {ι : Nat → Bk} {w : World} {v : Value} (H : Hol X h ι w) {r ver n : Nat} {rt : Rt} {ys : List IV} (h1 : h.at r = some rt) (h2 : rt.ver = ver) (h3 : rt.live = true) (h4 : rt.cs.take (n * rt.k) = ys.map .im) (h5 : ys.length = n * rt.k)
  (hv : VR w h ι (Own X.B h ι) (.rsl r ver 0 n) v) : VR w [] ι (Own X.B [] ι) (.im (.sl ys n)) v := by
 have hsrc := ArgS.slice (h := h) (bs := [r]) (by simp) h1 h2 h3 (by rw [List.drop_zero]; exact h4) h5 X ι w _ H hv
 refine VR.pure (fun β _ hA => ⟨rfl, fun ho => hA ?_⟩) _ _ rfl hsrc
 have hb : X.B β := by
  rcases ho with hb | ⟨r', rt', hr', _⟩
  ·exact hb
  ·cases hr'
 refine ⟨.inl hb, fun s hs hg => ?_⟩
 simp at hs
 subst hs
 exact (H.place s rt β h1 h3 hg).1 hb
theorem nilNil {X : Ctx} {h : Hp} {ι : Nat → Bk} {w : World} {v : Value} (hv : VR w h ι (Own X.B h ι) nilA v) : VR w [] ι (Own X.B [] ι) (.im (.sl [] 0)) v := by
 refine Sub.nil _ _ _ _ _ ?_
 rw [Y02] at hv ⊢
 exact hv
theorem QSpec.ofFrz {P : Program} {f : FuncId} {args : List AV} {h' : Hp} {x : AV} {n e : Int} {m : Nat} {ys : List IV} (hc : CallOK P f args [] h' (.tup [x, .int .i64 n, .int .i64 e]))
  (hx : (x = nilA ∧ ys = [] ∧ m = 0) ∨ ∃ r ver rt, x = .rsl r ver 0 m ∧ h'.at r = some rt ∧ rt.ver = ver ∧ rt.live = true ∧ rt.cs.take (m * rt.k) = ys.map .im ∧ ys.length = m * rt.k) : QSpec P f args (.tup [.im (.sl ys m), .int .i64 n, .int .i64 e]) := by
 intro w ι B vs H hv
 refine (hc _ w ι vs H hv).mono ?_
 rintro e' w' ⟨v, ι', rfl, H', K', hvr⟩
 refine ⟨v, _, [], ι', rfl, rfl, H'.toNil (fun r => ?_), ?_⟩
 ·simp [pinOf, Hp.at]
 ·simp only [VR, VRL] at hvr ⊢
  obtain ⟨l, rfl, v1, l1, rfl, hv1, v2, l2, rfl, hv2, v3, l3, rfl, hv3, rfl⟩ := hvr
  refine ⟨_, rfl, v1, _, rfl, ?_, v2, _, rfl, ?_, v3, _, rfl, ?_, rfl⟩
  ·rcases hx with ⟨rfl, rfl, rfl⟩ | ⟨r, ver, rt, rfl, b1, b2, b3, b4, b5⟩
   ·exact nilNil (X := ⟨w, B, Own (fun x => False) [] ι, pinOf [] ι⟩) (h := h') (w := w') (v := v1) (ι := ι') hv1
   ·exact frzNil H' b1 b2 b3 b4 b5 hv1
  ·exact hv2
  ·exact hv3
end Go.Abs
namespace Go.Proofs.YtkgfbpbndmklnaaDoor
open Go.Abs
def s0 : Ps := ⟨0, [], [], ⟨-1, [], [], [], 0, 0, 0⟩⟩
def mParse (t : ByteArray) : List (Int × Int) × Int × Int :=
 match pFormula t s0 with
 | .bad s => ([], s.at_, 90)
 | .ok s i => if (60 : Int) < ((s.T.length : Nat) : Int) then ([], 0, 2) else if (8 : Int) < (s.T.getD i.toNat noT).dep then ([], 0, 2) else (fl s.T i, (t.size : Nat), 0)
def nodeI (a : Int × Int) : List IV := [.val (.int .i64 a.1), .val (.int .i64 a.2)]
theorem nodesC_im (l : List (Int × Int)) : nodesC l = (l.flatMap nodeI).map .im := by
 induction l with
 | nil => rfl
 | cons a l ih =>
  have : nodesC (a :: l) = [.int .i64 a.1, .int .i64 a.2] ++ nodesC l := by simp [nodesC]
  rw [this, ih]
  simp [nodeI, Xq]
def h0P (txt : ByteArray) : Hp := [(5, ⟨0, true, 55, 1, [.ref 4 0 0]⟩), (5, ⟨0, true, 55, 1, [.im (.val (.pointer none))]⟩), (4, ⟨0, true, 61, 4, [.string txt, .int .i64 0, nilA, .rsl 3 0 0 1]⟩), (3, ⟨0, true, 57, 7, [.int .i64 (-1), nilA, nilA, nilA, .int .i64 0, .int .i64 0, .int .i64 0]⟩), (2, ⟨0, true, 33, 1, [.int .i64 0]⟩), (1, ⟨0, true, 3, 1, [.int .i64 0]⟩), (0, ⟨0, true, 23, 1, [nilA]⟩)]
def g0P : Tag := fun r => if r = 4 then 0 else if r = 3 then 1 else 4
def L0P : Lay := ⟨4, 3, 0, nilA, [], [], ⟨nilA, nilA, nilA⟩, []⟩
theorem R0P (txt : ByteArray) : Rep (h0P txt) g0P txt s0 L0P := by
 refine ⟨rfl, rfl, rfl, rfl, .inl ⟨rfl, rfl, rfl⟩, fun r hr => by simp [L0P, Y06] at hr, rfl, fun i x t a b => by simp [L0P] at a, rfl, trivial, ⟨SlI.nil _, fun r hr => by simp [L0P, Y06] at hr⟩, ⟨SlI.nil _, fun r hr => by simp [L0P, Y06] at hr⟩, SlI.nil _, fun r hr => by simp [L0P, Y06] at hr⟩
theorem W0P {txt : ByteArray} (h : txt.size ≤ 1000000) : W txt s0 0 3 := by
 refine ⟨fun i t hi => by simp [s0] at hi, ⟨fun i hi => by simp [s0] at hi, fun i hi => by simp [s0] at hi, by simp [s0], by simp [s0]⟩, rfl, fun f hf => by simp [s0] at hf, fun f hf => ?_, by simp [s0, sg], by simp [s0], by simp [s0], by simp [s0]; omega, h, by omega, by omega⟩
 simp [s0] at hf
 rw [← hf]
theorem T0P : Tot s0 0 := rfl
theorem st3 {h : Hp} {x0 x1 x2 : AV} (e0 : h.at 0 = some ⟨0, true, 23, 1, [x0]⟩) (e1 : h.at 1 = some ⟨0, true, 3, 1, [x1]⟩) (e2 : h.at 2 = some ⟨0, true, 33, 1, [x2]⟩) {a : AV} (b c : Int) (ha : Y0u a = [a]) (oa : okC h a) :
  ∃ h1 h2 h3, St h 0 0 0 a h1 ∧ St h1 1 0 0 (.int .i64 b) h2 ∧ St h2 2 0 0 (.int .i64 c) h3 ∧ Ld h3 0 0 0 a ∧ Ld h3 1 0 0 (.int .i64 b) ∧ Ld h3 2 0 0 (.int .i64 c) ∧ ∀ r, r ≠ 0 → r ≠ 1 → r ≠ 2 → h3.at r = h.at r := by
 refine ⟨(0, ⟨0, true, 23, 1, [a]⟩) :: h, (1, ⟨0, true, 3, 1, [.int .i64 b]⟩) :: (0, ⟨0, true, 23, 1, [a]⟩) :: h, (2, ⟨0, true, 33, 1, [.int .i64 c]⟩) :: (1, ⟨0, true, 3, 1, [.int .i64 b]⟩) :: (0, ⟨0, true, 23, 1, [a]⟩) :: h,
  ⟨_, e0, rfl, rfl, by rw [ha]; simp, oa, by rw [ha]; rfl⟩, ⟨_, (Y1l (by omega) _ _).trans e1, rfl, rfl, by simp [Y0u], rfl, rfl⟩, ⟨_, ((Y1l (by omega) _ _).trans (Y1l (by omega) _ _)).trans e2, rfl, rfl, by simp [Y0u], rfl, rfl⟩,
  ⟨_, ((Y1l (by omega) _ _).trans (Y1l (by omega) _ _)).trans (Y0n _ _ _), rfl, rfl, rfl⟩, ⟨_, (Y1l (by omega) _ _).trans (Y0n _ _ _), rfl, rfl, rfl⟩, ⟨_, Y0n _ _ _, rfl, rfl, rfl⟩, fun r r0 r1 r2 => ?_⟩
 rw [Y1l (by omega), Y1l (by omega), Y1l (by omega)]
theorem c_Parse0 {txt : ByteArray} (hs : txt.size ≤ 1000000) : ∃ h' av, CallOK Tryd.prog 16 [.string txt] [] h' av ∧ ∃ x, av = .tup [x, .int .i64 (mParse txt).2.1, .int .i64 (mParse txt).2.2] ∧ SlA h' x 26 2 (mParse txt).1.length (nodesC (mParse txt).1) := by
 refine w_Parse (h := []) (a0 := txt) ?_
 refine ⟨0, _, ⟨rfl, rfl⟩, 1, _, ⟨rfl, rfl⟩, 2, _, ⟨rfl, rfl⟩, 3, _, ⟨rfl, rfl⟩, Has.mk (Y0n _ _ _) rfl, 4, _, ⟨rfl, rfl⟩, 5, _, ⟨rfl, rfl⟩, h0P txt, ⟨_, Y0n _ _ _, rfl, rfl, by simp [Y0u], rfl, rfl⟩, 4, 0, 0, ⟨_, Y0n _ _ _, rfl, rfl, rfl⟩, ?_⟩
 have R := R0P txt
 have w0 := W0P hs
 have F := c_formula R w0
 unfold mParse
 cases hF : pFormula txt s0 with
 | bad s1 =>
  rw [hF] at F
  obtain ⟨h1, g1, L1, a1, a2, a3, a4⟩ := F
  have k0 := (a3 0 (by simp [h0P, Hp.at]) rfl).1
  have k1 := (a3 1 (by simp [h0P, Hp.at]) rfl).1
  have k2 := (a3 2 (by simp [h0P, Hp.at]) rfl).1
  have k5 := (a3 5 (by simp [h0P, Hp.at]) rfl).1
  have p4 : L1.p = 4 := a4
  have hh := a2.has
  have hl := a2.ldAt
  rw [p4] at hh hl
  obtain ⟨h2, h3, h4, b1, b2, b3, b4, b5, b6, b7⟩ := st3 (k0.trans rfl) (k1.trans rfl) (k2.trans rfl) (a := nilA) s1.at_ 90 rfl rfl
  exact .inr ⟨h1, chM, a1, h4, _, c_caught (p := 4) ⟨_, k5.trans rfl, rfl, rfl, rfl⟩ hh hl b1 b2 b3, rfl, _, _, _, b4, b5, b6, _, rfl, .inl ⟨rfl, rfl, rfl⟩⟩
 | ok s1 i =>
  rw [hF] at F
  obtain ⟨h1, g1, L1, a1, a2, a3, a4⟩ := F
  have k0 := (a3 0 (by simp [h0P, Hp.at]) rfl).1
  have k1 := (a3 1 (by simp [h0P, Hp.at]) rfl).1
  have k2 := (a3 2 (by simp [h0P, Hp.at]) rfl).1
  have k5 := (a3 5 (by simp [h0P, Hp.at]) rfl).1
  have p4 : L1.p = 4 := a4
  have hh := a2.has
  have hl := a2.ldT
  rw [p4] at hh hl
  obtain ⟨o1, o2, o3, o4⟩ := pRun_ok _ _ _ _ _ (.inl ⟨rfl, w0⟩) T0P hF
  refine .inl ⟨h1, i, a1, 4, 0, 0, ⟨_, k5.trans rfl, rfl, rfl, rfl⟩, hh, L1.xt, a2.trs.nc, hl, s1.T.length, a2.trs.len, fun hd => ?_, fun hd => ?_⟩
  ·obtain ⟨h2, h3, h4, b1, b2, b3, b4, b5, b6, b7⟩ := st3 (k0.trans rfl) (k1.trans rfl) (k2.trans rfl) (a := nilA) 0 2 rfl rfl
   refine ⟨h2, b1, h3, b2, h4, b3, h4, c_idle _ _ _ _ _, _, _, _, b4, b5, b6, nilA, ?_, ?_⟩
   ·simp only [if_pos (of_decide_eq_true hd)]
   ·simp only [if_pos (of_decide_eq_true hd)]; exact .inl ⟨rfl, rfl, rfl⟩
  ·have n60 : ¬ (60 : Int) < ((s1.T.length : Nat) : Int) := of_decide_eq_false hd
   obtain ⟨r2, v2, e1, e2, e3, _⟩ := SlA.ix a2.trs o2 o3
   have hin : i.toNat < s1.T.length := by omega
   refine ⟨r2, v2, _, e1, e2, _, e3 3 _ (by omega) (treesC_dep a2.lX hin), fun hd8 => ?_, fun hd8 => ?_⟩
   ·obtain ⟨h2, h3, h4, b1, b2, b3, b4, b5, b6, b7⟩ := st3 (k0.trans rfl) (k1.trans rfl) (k2.trans rfl) (a := nilA) 0 2 rfl rfl
    refine ⟨h2, b1, h3, b2, h4, b3, h4, c_idle _ _ _ _ _, _, _, _, b4, b5, b6, nilA, ?_, ?_⟩
    ·simp only [if_neg n60, if_pos (of_decide_eq_true hd8)]
    ·simp only [if_neg n60, if_pos (of_decide_eq_true hd8)]; exact .inl ⟨rfl, rfl, rfl⟩
   ·have n8 : ¬ (8 : Int) < (s1.T.getD i.toNat noT).dep := of_decide_eq_false hd8
    obtain ⟨h7, g7, y, c1, c2, c3, c4, c5, c6⟩ := c_flat o1 (s1.T.length + 1) i h1 g1 nilA [] (by push_cast; omega) o2 o3 a2 (.inl ⟨rfl, rfl, rfl⟩) (fun r hr => by simp [Y06] at hr) (by simp only [Xj]; omega)
    rw [p4] at c1
    have g0 := a3 0 (by simp [h0P, Hp.at]) rfl
    have g1' := a3 1 (by simp [h0P, Hp.at]) rfl
    have g2' := a3 2 (by simp [h0P, Hp.at]) rfl
    have m0 := (c6.keep 0 (by simp [Y06]) (by rw [k0]; simp [h0P, Hp.at]) g0.2).1
    have m1 := (c6.keep 1 (by simp [Y06]) (by rw [k1]; simp [h0P, Hp.at]) g1'.2).1
    have m2 := (c6.keep 2 (by simp [Y06]) (by rw [k2]; simp [h0P, Hp.at]) g2'.2).1
    have on := c4.one
    obtain ⟨h2, h3, h4, b1, b2, b3, b4, b5, b6, b7⟩ := st3 ((m0.trans k0).trans rfl) ((m1.trans k1).trans rfl) ((m2.trans k2).trans rfl) (a := y) (txt.size : Nat) 0 (Y48 on) (okC_one on)
    refine ⟨h7, y, c2, c1, on, h2, b1, h3, b2, h4, b3, h4, c_idle _ _ _ _ _, _, _, _, b4, b5, b6, y, ?_, ?_⟩
    ·simp only [if_neg n60, if_neg n8]
    ·simp only [if_neg n60, if_neg n8]
     rw [X0a] at c4
     rcases c4 with c4 | ⟨r, v, rt, rfl, d1, d2⟩
     ·exact .inl c4
     ·have hr := c6.root r (by simp [Y06])
      have hz : h1.at r = none := by
       rcases hr with hr | hr
       ·simp [Y06] at hr
       ·exact hr
      have z0 : r ≠ 0 := fun e => by rw [e, k0] at hz; simp [h0P, Hp.at] at hz
      have z1 : r ≠ 1 := fun e => by rw [e, k1] at hz; simp [h0P, Hp.at] at hz
      have z2 : r ≠ 2 := fun e => by rw [e, k2] at hz; simp [h0P, Hp.at] at hz
      exact .inr ⟨r, v, rt, rfl, (b7 r z0 z1 z2).trans d1, d2⟩
theorem q_Parse {txt : ByteArray} (hs : txt.size ≤ 1000000) : QSpec Tryd.prog 16 [.string txt] (.tup [slA nodeI (mParse txt).1, .int .i64 (mParse txt).2.1, .int .i64 (mParse txt).2.2]) := by
 obtain ⟨h', av, hc, x, rfl, hx⟩ := c_Parse0 hs
 refine QSpec.ofFrz hc ?_
 rcases hx with ⟨rfl, h1, h2⟩ | ⟨r, v, rt, rfl, h1, h2, h3, h4, h5, h6, h7⟩
 ·have : (mParse txt).1 = [] := Xn h1
  rw [this]
  exact .inl ⟨rfl, rfl, rfl⟩
 ·have e : (List.flatMap nodeI (mParse txt).1).length = (mParse txt).1.length * 2 := by
   have := h7
   rw [nodesC_im, X02] at this
   exact this
  exact .inr ⟨r, v, rt, rfl, h1, h2, h3, by rw [h5, h6, nodesC_im], by rw [h5]; exact e⟩
def orc : Orc := fun f args => match args with
 | [.im (.val (.string s))] => bif Nat.beq f 16 && Nat.ble s.size 1000000 then (match mParse s with
  | (l, n, e) => some (.tup [slA nodeI l, .int .i64 n, .int .i64 e])) else none
 | _ => none
theorem orc_ok : OrcOK Tryd.prog orc := by
 intro f args av h
 unfold orc at h
 split at h
 ·rename_i s
  cases hb : (Nat.beq f 16 && Nat.ble s.size 1000000) with
  | false => rw [hb] at h; cases h
  | true =>
   rw [hb] at h
   simp only [cond_true, X0] at h
   simp only [X3] at hb
   have := Xv hb.1
   subst this
   rw [← h]
   exact CallOK.ofQ (q_Parse (Xc hb.2)) rfl rfl
 ·cases h
end Go.Proofs.YtkgfbpbndmklnaaDoor
