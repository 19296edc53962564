/- Own work. -/
import Derived.Test.YtkgfbpbndmklnaaDoorPrA
import Derived.Test.YtkgfbpbndmklnaaDoorWp3
import Derived.Test.YtkgfbpbndmklnaaDoorWp4
set_option linter.unusedSimpArgs false
set_option linter.unusedVariables false
namespace Go.Proofs.YtkgfbpbndmklnaaDoor
open Go.Abs
structure LX (L L' : Lay) : Prop where
 p : L'.p = L.p
 fr : L'.fr = L.fr
 fv : L'.fv = L.fv
def pOpd (s : Ps) : Ps := { pOperand s with f := { (pOperand s).f with ops := (pOperand s).f.ops ++ [Y13 s] } }
def pClose (op n : Int) (s : Ps) : Ps := pTerm (s.T.length : Nat) (pAdd op n s.f.ops { s with F := s.F.dropLast, f := s.F.getLast?.getD s.f })
def pSign (op : Int) (s : Ps) : Ps :=
 { Y0v (prec op) s.f.signs.length { s with at_ := s.at_ + 1 } with f := { (Y0v (prec op) s.f.signs.length { s with at_ := s.at_ + 1 }).f with signs := (Y0v (prec op) s.f.signs.length { s with at_ := s.at_ + 1 }).f.signs ++ [op] } }
section
variable {h : Hp} {g : Tag} {txt : ByteArray} {s : Ps} {L : Lay}
theorem m_op (R : Rep h g txt s L) (I : InvJ s) (hn : s.f.ops.length ≤ 900000000) :
  ∃ s0, NC s0 ∧ Ld h L.fr L.fv (0 + s.F.length * 7 + 1) s0 ∧ ∃ h1, CallOK Tryd.prog 51 [.ref L.p 0 0] h h1 (.int .i64 (Y13 s)) ∧ ∃ r h2, Nw h1 r ⟨0, true, 3, 1, [.int .i64 (Y13 s)]⟩ h2 ∧ ∃ h3 y, NC y ∧ App h2 s0 3 1 8 1 [.int .i64 (Y13 s)] h3 y ∧
   Has h3 L.fr L.fv ∧ oneA h3 y ∧ ∃ h4, St h3 L.fr L.fv (0 + s.F.length * 7 + 1) y h4 ∧ Has h1 L.fr L.fv ∧ Has h2 L.fr L.fv ∧ Ld h1 L.fr L.fv (0 + s.F.length * 7 + 1) s0 ∧ Ld h2 L.fr L.fv (0 + s.F.length * 7 + 1) s0 ∧
   ∃ g' L', Rep h4 g' txt (pOpd s) L' ∧ Kept h g h4 g' ∧ LX L L' := by
 obtain ⟨h1, g1, L1, a1, a2, a3, a4⟩ := c_operand R I
 obtain ⟨b1, b2, b3, b4, b5⟩ := Y2r 0 _ s I rfl
 have eF : (pOperand s).F = s.F := b2
 have eo : (pOperand s).f.ops = s.f.ops := b5
 obtain ⟨r, hr⟩ := h1.fresh
 obtain ⟨c1, c2, c3, c4⟩ := a2.grow (t := 4) (rt := ⟨0, true, 3, 1, [.int .i64 (Y13 s)]⟩) (.inr rfl) hr
 obtain ⟨h3, y, d1, d2, d3, d4, h4, g4, d5, d6, d7⟩ := c2.appOp (Y13 s) (by rw [eo]; omega)
 have l1 := a2.ldRow (k := 1) rfl
 have l2 := c2.ldRow (k := 1) rfl
 have k1 := a2.hasF
 have k2 := c2.hasF
 rw [eF] at d5 l1 l2
 rw [a4.fr, a4.fv] at d3 d5 l1 l2 k1 k2
 rw [a4.xo] at d1 l1 l2
 exact ⟨L.ρ.xo, R.row.1.1.nc, R.ldRow (k := 1) rfl, h1, a1, r, _, c1, h3, y, d2, d1, d3, d4, h4, d5, k1, k2, l1, l2, g4, _, d6, (a3.trans c3).trans d7, ⟨a4.p, a4.fr, a4.fv⟩⟩
theorem m_sign (R : Rep h g txt s L) (I : InvJ s) (h0 : 0 ≤ s.at_) (h2 : s.at_ ≤ 900000000) (op : Int) :
  Has h L.p 0 ∧ ∃ x, Ld h L.p 0 1 (.int .i64 x) ∧ okA .i64 (x + 1) ∧ ∃ h1, St h L.p 0 1 (.int .i64 (x + 1)) h1 ∧ ∃ x2, CallOK Tryd.prog 68 [.int .i64 op] h1 h1 (.int .i64 x2) ∧ ∃ h2, CallOK Tryd.prog 67 [.ref L.p 0 0, .int .i64 x2] h1 h2 (.tup []) ∧ Has h2 L.fr L.fv ∧
   ∃ s0, NC s0 ∧ Ld h2 L.fr L.fv (0 + s.F.length * 7 + 3) s0 ∧ ∃ r h3, Nw h2 r ⟨0, true, 3, 1, [.int .i64 op]⟩ h3 ∧ ∃ h4 y, NC y ∧ App h3 s0 3 1 8 1 [.int .i64 op] h4 y ∧ Has h4 L.fr L.fv ∧ oneA h4 y ∧ ∃ h5, St h4 L.fr L.fv (0 + s.F.length * 7 + 3) y h5 ∧
   ∃ g' L', Rep h5 g' txt (pSign op s) L' ∧ Kept h g h5 g' ∧ LX L L' := by
 obtain ⟨h1, q1, q2, q3⟩ := R.setAt (s.at_ + 1)
 have I1 : InvJ { s with at_ := s.at_ + 1 } := ⟨I.okT, I.val, I.len, I.bT, I.bF⟩
 obtain ⟨h3, g3, L3, a1, a2, a3, a4⟩ := c_join q2 I1 (prec op)
 obtain ⟨b1, b2, b3, b4, b5⟩ := Y2r (prec op) _ _ I1 rfl
 obtain ⟨r, hr⟩ := h3.fresh
 obtain ⟨c1, c2, c3, c4⟩ := a2.grow (t := 4) (rt := ⟨0, true, 3, 1, [.int .i64 op]⟩) (.inr rfl) hr
 obtain ⟨h5, y, d1, d2, d3, d4, h6, g6, d5, d6, d7⟩ := c2.appSign op (by have := b1.bT; omega)
 have l1 := a2.ldRow (k := 3) rfl
 have k1 := a2.hasF
 rw [b2] at d5 l1
 rw [a4.fr, a4.fv] at d3 d5 l1 k1
 exact ⟨R.has, _, R.ldAt, Y4r (by omega) (by omega), h1, q1, _, c_prec h1 op, h3, a1, k1, L3.ρ.xs, a2.row.2.2.1.nc, l1, r, _, c1, h5, y, d2, d1, d3, d4, h6, d5, g6, _, d6, ((q3.trans a3).trans c3).trans d7, ⟨a4.p, a4.fr, a4.fv⟩⟩
theorem m_close (R : Rep h g txt s L) {F' : List Fr} {f' : Fr} (hF : s.F = F' ++ [f']) (hT : OkT s.T) (hv : Val s.T s.f.ops) (hb : s.T.length ≤ 900000000) (hn : s.f.ops.length ≤ 900000000) (hf : s.F.length ≤ 900000000) (ht : f'.terms.length ≤ 900000000) (op n : Int) :
  Has h L.p 0 ∧ ∃ s1, NC s1 ∧ Ld h L.p 0 3 s1 ∧ ∃ m, Len h s1 m ∧ okA .i64 (((m : Nat) : Int) - 1) ∧ ∃ s2, NC s2 ∧ Cut h s1 7 (((m : Nat) : Int) - 1) s2 ∧ oneA h s2 ∧ ∃ h1, St h L.p 0 3 s2 h1 ∧ Has h1 L.fr L.fv ∧
   (∀ k a, (row7 s.f L.ρ)[k]? = some a → Ld h1 L.fr L.fv (0 + s.F.length * 7 + k) a) ∧ NC L.ρ.xo ∧ ∃ h2, CallOK Tryd.prog 63 [.ref L.p 0 0, .int .i64 op, .int .i64 n, L.ρ.xo] h1 h2 (.int .i64 (s.T.length : Nat)) ∧
   ∃ h3, CallOK Tryd.prog 60 [.ref L.p 0 0, .int .i64 (s.T.length : Nat)] h2 h3 (.tup []) ∧ ∃ g' L', Rep h3 g' txt (pClose op n s) L' ∧ Kept h g h3 g' ∧ L'.p = L.p := by
 obtain ⟨R', ρ', h1, e1, e2, e3, e4, e5, e6, e7⟩ := R.pop hF
 have gp := R.gp
 have gf := R.gf
 have fr1 : h1.at L.fr = h.at L.fr := e7 _ (by simpa using fun e => R.ne_pf e.symm)
 have hlen : s.F.length = F'.length + 1 := by rw [hF]; simp
 have ops1 := SlA.tag e7 R.row.1 (by omega)
 -- the operands' root is given to the trees
 obtain ⟨g2, R2, x2, k2⟩ : ∃ g2, Rep h1 g2 txt { s with F := F', f := f' } { L with R := R', ρ := ρ', G := row7 s.f L.ρ ++ L.G } ∧ (∀ r ∈ Y06 L.ρ.xo, g2 r = 3) ∧ Kept h1 g h1 g2 := by
  rcases hx : Y06 L.ρ.xo with _ | ⟨q, rest⟩
  ·exact ⟨g, e5, fun r hr => by simp at hr, Kept.refl _ _⟩
  ·have hq : g q = 10 + 3 * s.F.length := R.row.1.2 q (by rw [hx]; simp)
   have hrest : rest = [] := by
    cases hxo : L.ρ.xo with
    | rsl r v o n => rw [hxo] at hx; simp [Y06] at hx; exact hx.2
    | _ => rw [hxo] at hx; simp [Y06] at hx
   refine ⟨upg g q 3, e5.retag (.inr (by simp only; omega)), fun r hr => ?_, fun r _ hr => ⟨rfl, by rw [upg_ne g 3 (fun e => by rw [e] at hr; omega)]; exact hr⟩⟩
   rw [hrest] at hr
   simp only [Xd] at hr
   rw [hr]; exact upg_self _ _ _
 obtain ⟨h4, g4, L4, a1, a2, a3, a4, a5⟩ := c_add R2 op n ops1.1 x2 hT hv (by simp only; omega) (by omega)
 obtain ⟨h5, g5, L5, b1, b2, b3, b4⟩ := c_term a2 ((s.T.length : Nat) : Int) (by show F'.length ≤ _; omega) (by show f'.terms.length ≤ _; omega)
 have hd : s.F.dropLast = F' := by rw [hF]; simp
 have hg : s.F.getLast?.getD s.f = f' := by rw [hF]; simp
 have p4 : L4.p = L.p := a4.p
 rw [p4] at b1
 refine ⟨R.has, .rsl L.fr L.fv 0 (s.F.length + 1), ⟨trivial, rfl⟩, R.ldF, s.F.length + 1, .inr (.inl ⟨_, _, _, rfl, R.hasF⟩), Y4r (by omega) (by omega), .rsl L.fr L.fv 0 s.F.length, ⟨trivial, rfl⟩, e2, e3, h1, e4, R.hasF.of fr1, fun k a hk => (R.ldRow hk).of fr1, R.row.1.1.nc, h4, a1, h5, b1, g5, L5, ?_, ((e6.trans k2).trans a3).trans b3, b4.p.trans p4⟩
 unfold pClose
 rw [hd, hg]
 exact b2
end
theorem pJoin_f (least : Int) : ∀ (k : Nat) (s : Ps), (∃ a b, (Y0v least k s).f = { s.f with terms := a, signs := b }) ∧ ∃ T, (Y0v least k s).T = s.T ++ T
 | 0, s => ⟨⟨s.f.terms, s.f.signs, rfl⟩, [], by simp [Y0v]⟩
 | k + 1, s => by
  rw [Y0v]
  split
  ·obtain ⟨⟨a, b, h1⟩, T, h2⟩ := pJoin_f least k (jStep s)
   refine ⟨⟨a, b, by rw [h1]; rfl⟩, [⟨s.f.signs.getD (s.f.terms.length - 2) 0, 0, [s.f.terms.getD (s.f.terms.length - 2) 0, s.f.terms.getD (s.f.terms.length - 1) 0], _⟩] ++ T, by rw [h2]; simp only [jStep, pAdd, Xs]; rfl⟩
  ·exact ⟨⟨s.f.terms, s.f.signs, rfl⟩, [], by simp⟩
structure InvF (s : Ps) : Prop where
 J : InvJ s
 ops : Val s.T s.f.ops
 nO : s.f.ops.length ≤ 800000000
 c : 0 ≤ s.f.cols ∧ s.f.cols ≤ 4 ∧ 0 ≤ s.f.rows ∧ s.f.rows ≤ 4 ∧ 0 ≤ s.f.ents ∧ s.f.ents ≤ 4
 top : s.f.op = -1 ∨ s.F ≠ []
 tF : ∀ f ∈ s.F, f.terms.length ≤ 900000000
 at0 : 0 ≤ s.at_
 at1 : s.at_ ≤ 800000000
theorem pOpd_inv {s : Ps} (I : InvJ s) (hv : Val s.T s.f.ops) : OkT (pOpd s).T ∧ Val (pOpd s).T (pOpd s).f.ops ∧ (pOpd s).T.length ≤ 900000000 ∧ (pOpd s).F = s.F ∧ (pOpd s).at_ = s.at_ ∧ (pOpd s).f.op = s.f.op ∧ (pOpd s).f.cols = s.f.cols ∧ (pOpd s).f.rows = s.f.rows ∧ (pOpd s).f.ents = s.f.ents ∧
  (pOpd s).f.ops = s.f.ops ++ [Y13 s] ∧ (pOpd s).f.terms = [] ∧ (∃ T, (pOpd s).T = s.T ++ T) ∧ (pOpd s).f.signs = (Y0v 0 s.f.signs.length s).f.signs := by
 obtain ⟨b1, b2, b3, b4, b5⟩ := Y2r 0 _ s I rfl
 obtain ⟨⟨a, b, h1⟩, T, h2⟩ := pJoin_f 0 s.f.signs.length s
 have hT : (pOpd s).T = s.T ++ T := h2
 have ho : (pOpd s).f.ops = s.f.ops ++ [Y13 s] := by
  show (Y0v 0 s.f.signs.length s).f.ops ++ [Y13 s] = _
  rw [b5]
 have hl := b1.len
 refine ⟨b1.okT, ?_, ?_, b2, b3, b4, ?_, ?_, ?_, ho, rfl, ⟨T, hT⟩, rfl⟩
 ·rw [ho]
  intro i hi
  simp only [Xw, Xd] at hi
  rcases hi with hi | rfl
  ·have := hv i hi
   rw [hT]; simp; omega
  ·have hlt : 0 < (Y0v 0 s.f.signs.length s).f.terms.length := by omega
   exact b1.val _ (by unfold Y13; rw [X8, X2 hlt]; simp)
 ·have := b1.bT
  show (Y0v 0 s.f.signs.length s).T.length ≤ _
  omega
 ·show (Y0v 0 s.f.signs.length s).f.cols = _
  rw [h1]
 ·show (Y0v 0 s.f.signs.length s).f.rows = _
  rw [h1]
 ·show (Y0v 0 s.f.signs.length s).f.ents = _
  rw [h1]
theorem last_split {F : List Fr} (hF : F ≠ []) : ∃ F' f', F = F' ++ [f'] := ⟨F.dropLast, F.getLast hF, (List.dropLast_concat_getLast hF).symm⟩
def pFin (c : Int) (s : Ps) : Res Int :=
 if c = 41 then .ok (pClose 13 (8 * s.f.rows + s.f.cols) (pOpd { s with at_ := s.at_ + 1 })) 1 else .ok (pOpd { s with at_ := s.at_ + 1 }) 0
def Y1h (t : ByteArray) (s : Ps) : Res Int :=
 if Yh t s = 44 ∧ s.f.ents + 1 < (if s.f.cols = 0 then 4 else s.f.cols) then pFin (Yh t s) { s with f := { s.f with ents := s.f.ents + 1 } }
 else if (Yh t s = 59 ∧ (s.f.cols = 0 ∨ s.f.ents + 1 = s.f.cols) ∧ s.f.rows + 1 < 4) ∨ (Yh t s = 41 ∧ (s.f.cols = 0 ∨ s.f.ents + 1 = s.f.cols)) then pFin (Yh t s) { s with f := { s.f with cols := s.f.ents + 1, ents := 0, rows := s.f.rows + 1 } }
 else .bad s
section
variable {h : Hp} {g : Tag} {txt : ByteArray} {s : Ps} {L : Lay}
theorem stRowV (R : Rep h g txt s L) {k : Nat} {y : AV} {f' : Fr} {ρ' : Row} (hk : k < 7) (hc : Y0u y = [y]) (ho : okC h y) (hrow : (row7 s.f L.ρ).set k y = row7 f' ρ') (hok : RowOK h g s.F.length f' ρ') :
  ∃ h1, St h L.fr L.fv (0 + s.F.length * 7 + k) y h1 ∧ Rep h1 g txt { s with f := f' } { L with ρ := ρ' } ∧ Kept h g h1 g := by
 have gp := R.gp
 have gf := R.gf
 have hput : putA (Y4j s.F L.R ++ (row7 s.f L.ρ ++ L.G)) (0 + s.F.length * 7 + k) [y] = Y4j s.F L.R ++ (row7 f' ρ' ++ L.G) := by
  rw [putA_mid R.lenA (by show k < 7; omega), hrow]
 refine ⟨_, ⟨_, R.frs, rfl, rfl, ?_, ho, rfl⟩, ?_⟩
 ·rw [hc]
  have := R.lenA
  simp [row7]; omega
 ·rw [hc]
  simp only [hput]
  have hs : Same h ((L.fr, (⟨L.fv, true, 57, 7, Y4j s.F L.R ++ (row7 f' ρ' ++ L.G)⟩ : Rt)) :: h) [L.fr] := Same.cons _ _ _
  exact ⟨⟨by rw [Y1l (fun e => R.ne_pf e.symm)]; exact R.box, gp, Y0n _ _ _, gf, (SlA.tag hs ⟨R.trs, R.gt⟩ (by omega)).1, R.gt, R.lX, fun i x t a b => SlA.tag hs (R.xs i x t a b) (by omega), R.lR, RowsOK.tag hs R.rows (by omega), RowOK.tag hs hok (by omega)⟩, Kept.tag hs (by omega)⟩
theorem m_int (R : Rep h g txt s L) {k : Nat} {v : Int} {f' : Fr} (hk : k < 7) (hrow : (row7 s.f L.ρ).set k (.int .i64 v) = row7 f' L.ρ) (h1 : f'.ops = s.f.ops) (h2 : f'.terms = s.f.terms) (h3 : f'.signs = s.f.signs) :
  ∃ h1, St h L.fr L.fv (0 + s.F.length * 7 + k) (.int .i64 v) h1 ∧ Rep h1 g txt { s with f := f' } L ∧ Kept h g h1 g := by
 obtain ⟨q, a1, a2, a3⟩ := stRowV R (y := .int .i64 v) (ρ' := L.ρ) hk rfl rfl hrow (by have := R.row; unfold RowOK at this ⊢; rw [h1, h2, h3]; exact this)
 exact ⟨q, a1, a2, a3⟩
def sRow (s : Ps) : Ps := { s with f := { s.f with cols := s.f.ents + 1, ents := 0, rows := s.f.rows + 1 } }
theorem m_row (R : Rep h g txt s L) (I : InvF s) (e4 : s.f.ents + 1 ≤ 4) (r4 : s.f.rows + 1 ≤ 4) {J : Hp → Prop} (hJ : ∀ h', Rep h' g txt (sRow s) L → Kept h g h' g → InvF (sRow s) → J h') :
  ∃ h43, (St h L.fr L.fv (0 + s.F.length * 7 + 4) (.int .i64 (s.f.ents + 1)) h43) ∧ (Has h43 L.fr L.fv) ∧ ∃ (h46 : Hp), (St h43 L.fr L.fv (0 + s.F.length * 7 + 6) (.int .i64 0) h46) ∧ (Has h46 L.fr L.fv) ∧ ∃ (x49 : Int), (Ld h46 L.fr L.fv (0 + s.F.length * 7 + 5) (.int .i64 x49)) ∧ (okA .i64 (x49 + 1 : Int)) ∧ ∃ (h52 : Hp), (St h46 L.fr L.fv (0 + s.F.length * 7 + 5) (.int .i64 (x49 + 1)) h52) ∧ J h52 := by
 have cc := I.c
 obtain ⟨h1, a1, a2, a3⟩ := m_int R (k := 4) (v := s.f.ents + 1) (f' := { s.f with cols := s.f.ents + 1 }) (by omega) rfl rfl rfl rfl
 obtain ⟨h2, b1, b2, b3⟩ := m_int a2 (k := 6) (v := 0) (f' := { s.f with cols := s.f.ents + 1, ents := 0 }) (by omega) rfl rfl rfl rfl
 obtain ⟨h3, c1, c2, c3⟩ := m_int b2 (k := 5) (v := s.f.rows + 1) (f' := { s.f with cols := s.f.ents + 1, ents := 0, rows := s.f.rows + 1 }) (by omega) rfl rfl rfl rfl
 exact ⟨h1, a1, a2.hasF, h2, b1, b2.hasF, s.f.rows, b2.ldRow (k := 5) rfl, Y4r (by omega) (by omega), h3, c1, hJ h3 c2 ((a3.trans b3).trans c3) ⟨⟨I.J.okT, I.J.val, I.J.len, I.J.bT, I.J.bF⟩, I.ops, I.nO, by simp only [sRow]; omega, I.top, I.tF, I.at0, I.at1⟩⟩
theorem m_fin (R : Rep h g txt s L) (I : InvF s) (hF : s.F ≠ []) (c : Int) {Q : Hp → AV → Prop} (hQ : ∀ h' g' L' s' a, pFin c s = .ok s' a → Rep h' g' txt s' L' → Kept h g h' g' → L'.p = L.p → Q h' (.int .i64 a)) :
  (Has h L.p 0) ∧ ∃ (x75 : Int), (Ld h L.p 0 1 (.int .i64 x75)) ∧ (okA .i64 (x75 + 1 : Int)) ∧ ∃ (h78 : Hp), (St h L.p 0 1 (.int .i64 (x75 + 1)) h78) ∧ (Has h78 L.fr L.fv) ∧ ∃ (s81 : AV), (NC s81) ∧ (Ld h78 L.fr L.fv (0 + s.F.length * 7 + 1) s81) ∧ ∃ (h84 : Hp), ∃ (x85 : Int), (CallOK Tryd.prog 51 [.ref L.p 0 0] h78 h84 (.int .i64 x85)) ∧ ∃ (r87 : Nat), ∃ (h88 : Hp), (Nw h84 r87 ⟨0, true, 3, 1, [.int .i64 x85]⟩ h88) ∧ ∃ (h90 : Hp), ∃ (s92 : AV), (NC s92) ∧ (App h88 s81 3 1 8 1 [.int .i64 x85] h90 s92) ∧ (Has h90 L.fr L.fv) ∧ (oneA h90 s92) ∧ ∃ (h95 : Hp), (St h90 L.fr L.fv (0 + s.F.length * 7 + 1) s92 h95) ∧ (Has h84 L.fr L.fv) ∧ (Has h88 L.fr L.fv) ∧ (Ld h84 L.fr L.fv (0 + s.F.length * 7 + 1) s81) ∧ (Ld h88 L.fr L.fv (0 + s.F.length * 7 + 1) s81) ∧ ((((c : Int) != 41) = true → (Q h95 (.int .i64 0))) ∧ (((c : Int) != 41) = false → (Has h95 L.p 0) ∧ ∃ (s104 : AV), (NC s104) ∧ (Ld h95 L.p 0 3 s104) ∧ ∃ (n107 : Nat), (Len h95 s104 n107) ∧ (okA .i64 (((n107 : Nat) : Int) - 1 : Int)) ∧ ∃ (s110 : AV), (NC s110) ∧ (Cut h95 s104 7 (((n107 : Nat) : Int) - 1 : Int) s110) ∧ (oneA h95 s110) ∧ ∃ (h113 : Hp), (St h95 L.p 0 3 s110 h113) ∧ (Has h113 L.fr L.fv) ∧ ∃ (x117 : Int), (Ld h113 L.fr L.fv (0 + s.F.length * 7 + 5) (.int .i64 x117)) ∧ (okA .i64 (8 * x117 : Int)) ∧ ∃ (x120 : Int), (Ld h113 L.fr L.fv (0 + s.F.length * 7 + 4) (.int .i64 x120)) ∧ (okA .i64 ((8 * x117) + x120 : Int)) ∧ ∃ (s123 : AV), (NC s123) ∧ (Ld h113 L.fr L.fv (0 + s.F.length * 7 + 1) s123) ∧ ∃ (h126 : Hp), ∃ (x127 : Int), (CallOK Tryd.prog 63 [.ref L.p 0 0, .int .i64 13, .int .i64 ((8 * x117) + x120), s123] h113 h126 (.int .i64 x127)) ∧ ∃ (h129 : Hp), (CallOK Tryd.prog 60 [.ref L.p 0 0, .int .i64 x127] h126 h129 (.tup [])) ∧ (Q h129 (.int .i64 1)))) := by
 have at0 := I.at0
 have at1 := I.at1
 have cc := I.c
 obtain ⟨h1, q1, q2, q3⟩ := R.setAt (s.at_ + 1)
 have I1 : InvJ { s with at_ := s.at_ + 1 } := ⟨I.J.okT, I.J.val, I.J.len, I.J.bT, I.J.bF⟩
 obtain ⟨s0, b1, b2, h2, b3, r, h3, b4, h4, y, b5, b6, b7, b8, h5, b9, b10, b11, b12, b13, g5, L5, b14, b15, b16⟩ := m_op q2 I1 (by have := I.nO; simp only; omega)
 obtain ⟨d1, d2, d3, d4, d5, d6, d7, d8, d9, d10, d11, d12⟩ := pOpd_inv I1 I.ops
 refine ⟨R.has, _, R.ldAt, Y4r (by omega) (by omega), h1, q1, q2.hasF, s0, b1, b2, h2, _, b3, r, h3, b4, h4, y, b5, b6, b7, b8, h5, b9, b10, b11, b12, b13, fun hc => ?_, fun hc => ?_⟩
 ·exact hQ h5 g5 L5 _ 0 (by rw [pFin, if_neg (by simpa using hc)]) b14 (q3.trans b15) b16.p
 ·have hc' : c = 41 := by simpa using hc
  obtain ⟨F', f', hF'⟩ := last_split hF
  have hF5 : (pOpd { s with at_ := s.at_ + 1 }).F = F' ++ [f'] := d4.trans hF'
  have l10 := congrArg List.length d10
  simp only [X4, Xh] at l10
  obtain ⟨e1, s1, e2, e3, m, e4, e5, s2, e6, e7, e8, h6, e9, e10, e11, e12, h7, e13, h8, e14, g8, L8, e15, e16, e17⟩ := m_close b14 hF5 d1 d2 d3 (by have := I.nO; omega) (by rw [d4]; have := I.J.bF; simp only; omega) (I.tF f' (by rw [hF']; simp)) 13 (8 * s.f.rows + s.f.cols)
  rw [b16.p] at e1 e3 e9 e13 e14
  rw [d4, b16.fr, b16.fv] at e11
  rw [b16.fr, b16.fv] at e10
  have w5 := e11 5 (.int .i64 s.f.rows) (by simp only [row7, X10, X0z]; rw [d8])
  have w4 := e11 4 (.int .i64 s.f.cols) (by simp only [row7, X10, X0z]; rw [d7])
  have w1 := e11 1 _ rfl
  exact ⟨e1, s1, e2, e3, m, e4, e5, s2, e6, e7, e8, h6, e9, e10, _, w5, Y4r (by omega) (by omega), _, w4, Y4r (by omega) (by omega), _, e12, w1, h7, _, e13, h8, e14, hQ h8 g8 L8 _ 1 (by rw [pFin, if_pos hc']) e15 ((q3.trans b15).trans e16) (e17.trans b16.p)⟩
theorem c_matrix (R : Rep h g txt s L) (I : InvF s) (hF : s.F ≠ []) (e3 : s.f.ents ≤ 3) (r3 : s.f.rows ≤ 3) : Out 69 [.ref L.p 0 0] (fun i => .int .i64 i) h g txt L (fun L L' => L'.p = L.p) (Y1h txt s) := by
 have cc := I.c
 have fin : ∀ {h1 : Hp} {s1 : Ps}, Rep h1 g txt s1 L → Kept h g h1 g → InvF s1 → s1.F = s.F → Y1h txt s = pFin (Yh txt s) s1 → _ := fun {h1 s1} R1 K1 I1 F1 he => m_fin R1 I1 (by rw [F1]; exact hF) (Yh txt s) (Q := OkQ (Y1h txt s) (fun i => .int .i64 i) h g txt L (fun L L' => L'.p = L.p)) fun h' g' L' s' a e1 e2 e3 e4 => ⟨s', a, g', L', he.trans e1, rfl, e2, K1.trans e3, e4⟩
 have stp : Y1h txt s = .bad s → ∃ h69 ch70, Y03 Tryd.prog 65 [.ref L.p 0 0] h h69 ch70 ∧ BadQ (Y1h txt s) h g txt L h69 ch70 := fun he => ⟨h, chM, c_stop h L.p, s, g, L, he, rfl, R, Kept.refl _ _, rfl⟩
 refine Out.of (w_matrix (h := h) (p := L.p) ⟨L.fr, L.fv, _, c_inner R (by have := I.J.bF; omega), h, _, c_peek R I.at0, R.hasF, _, R.ldRow (k := 4) rfl, fun h0 => ?_, fun h0 => ?_⟩)
 ·have c0 : s.f.cols = 0 := by simpa using h0
  have row : Yh txt s ≠ 44 ∨ 4 ≤ s.f.ents + 1 → (Yh txt s = 59 ∧ s.f.rows + 1 < 4) ∨ Yh txt s = 41 → Y1h txt s = pFin (Yh txt s) (sRow s) := fun h1 h2 => by
   rw [Y1h, if_neg (by rw [if_pos c0]; omega), if_pos (by rcases h2 with h2 | h2; exact .inl ⟨h2.1, .inl c0, h2.2⟩; exact .inr ⟨h2, .inl c0⟩)]; rfl
  have badd : Yh txt s ≠ 44 ∨ 4 ≤ s.f.ents + 1 → ¬((Yh txt s = 59 ∧ s.f.rows + 1 < 4) ∨ Yh txt s = 41) → Y1h txt s = .bad s := fun h1 h2 => by
   rw [Y1h, if_neg (by rw [if_pos c0]; omega), if_neg (fun h3 => h2 (by rcases h3 with h3 | h3; exact .inl ⟨h3.1, h3.2.2⟩; exact .inr h3.1))]
  refine ⟨fun _ h1 => ∃ s1, Rep h1 g txt s1 L ∧ Kept h g h1 g ∧ InvF s1 ∧ s1.F = s.F ∧ Y1h txt s = pFin (Yh txt s) s1, ?_, fun b => (b = true ∧ Yh txt s = 44 ∧ s.f.ents + 1 < 4) ∨ (b = false ∧ (Yh txt s ≠ 44 ∨ 4 ≤ s.f.ents + 1)), ?_, ?_, ?_⟩
  ·rintro _ h1 ⟨s1, R1, K1, I1, F1, he⟩
   rw [← F1]
   exact fin R1 K1 I1 F1 he
  ·rintro b hb
   refine ⟨fun hb1 => ?_, fun hb1 => ?_⟩
   ·rcases hb with ⟨_, p44, e4⟩ | ⟨hb, _⟩
    ·obtain ⟨h1, a1, a2, a3⟩ := m_int R (k := 6) (v := s.f.ents + 1) (f' := { s.f with ents := s.f.ents + 1 }) (by omega) rfl rfl rfl rfl
     refine ⟨_, R.ldRow (k := 6) rfl, Y4r (by omega) (by omega), h1, a1, _, a2, a3, ⟨⟨I.J.okT, I.J.val, I.J.len, I.J.bT, I.J.bF⟩, I.ops, I.nO, by simp only; omega, I.top, I.tF, I.at0, I.at1⟩, rfl, ?_⟩
     rw [Y1h, if_pos ⟨p44, by rw [if_pos c0]; exact e4⟩]
    ·rw [hb] at hb1; cases hb1
   ·have hn : Yh txt s ≠ 44 ∨ 4 ≤ s.f.ents + 1 := by
     rcases hb with ⟨hb, _⟩ | ⟨_, hb⟩
     ·rw [hb] at hb1; cases hb1
     ·exact hb
    refine ⟨fun b => (b = true ∧ Yh txt s = 59 ∧ s.f.rows + 1 < 4) ∨ (b = false ∧ ¬(Yh txt s = 59 ∧ s.f.rows + 1 < 4)), ?_, ?_, ?_⟩
    ·rintro b2 hb2
     refine ⟨fun hb3 => ?_, fun hb3 => ⟨fun h41 => ⟨s.f.ents, R.ldRow (k := 6) rfl, Y4r (by omega) (by omega), m_row R I (by omega) (by omega) (J := fun h1 => ∃ s1, Rep h1 g txt s1 L ∧ Kept h g h1 g ∧ InvF s1 ∧ s1.F = s.F ∧ Y1h txt s = pFin (Yh txt s) s1) fun h' a b c => ⟨_, a, b, c, rfl, row hn (.inr (by simpa using h41))⟩⟩, fun h41 => .inr (stp (badd hn ?_))⟩⟩
     ·rcases hb2 with ⟨_, hb2⟩ | ⟨hb2, _⟩
      ·exact ⟨s.f.ents, R.ldRow (k := 6) rfl, Y4r (by omega) (by omega), m_row R I (by omega) (by omega) (J := fun h1 => ∃ s1, Rep h1 g txt s1 L ∧ Kept h g h1 g ∧ InvF s1 ∧ s1.F = s.F ∧ Y1h txt s = pFin (Yh txt s) s1) fun h' a b c => ⟨_, a, b, c, rfl, row hn (.inl hb2)⟩⟩
      ·rw [hb2] at hb3; cases hb3
     ·rcases hb2 with ⟨hb2, _⟩ | ⟨_, hb2⟩
      ·rw [hb2] at hb3; cases hb3
      ·have h41' : Yh txt s ≠ 41 := by simpa using h41
       exact fun h9 => h9.elim hb2 h41'
    ·intro h59
     have h59' : Yh txt s = 59 := by simpa using h59
     refine ⟨_, R.ldRow (k := 5) rfl, Y4r (by omega) (by omega), ?_⟩
     by_cases hr : s.f.rows + 1 < 4
     ·exact .inl ⟨decide_eq_true hr, h59', hr⟩
     ·exact .inr ⟨decide_eq_false hr, fun h9 => hr h9.2⟩
    ·intro h59
     have h59' : Yh txt s ≠ 59 := by simpa using h59
     exact .inr ⟨rfl, fun h9 => h59' h9.1⟩
  ·intro h44
   have h44' : Yh txt s = 44 := by simpa using h44
   refine ⟨_, R.ldRow (k := 6) rfl, Y4r (by omega) (by omega), ?_⟩
   by_cases hr : s.f.ents + 1 < 4
   ·exact .inl ⟨decide_eq_true hr, h44', hr⟩
   ·exact .inr ⟨decide_eq_false hr, .inr (by omega)⟩
  ·intro h44
   have h44' : Yh txt s ≠ 44 := by simpa using h44
   exact .inr ⟨rfl, .inl h44'⟩
 ·have c0 : s.f.cols ≠ 0 := by simpa using h0
  have row : Yh txt s ≠ 44 ∨ s.f.cols ≤ s.f.ents + 1 → s.f.ents + 1 = s.f.cols → (Yh txt s = 59 ∧ s.f.rows + 1 < 4) ∨ Yh txt s = 41 → Y1h txt s = pFin (Yh txt s) (sRow s) := fun h1 h3 h2 => by
   rw [Y1h, if_neg (by rw [if_neg c0]; omega), if_pos (by rcases h2 with h2 | h2; exact .inl ⟨h2.1, .inr h3, h2.2⟩; exact .inr ⟨h2, .inr h3⟩)]; rfl
  have badd : Yh txt s ≠ 44 ∨ s.f.cols ≤ s.f.ents + 1 → ¬(s.f.ents + 1 = s.f.cols ∧ ((Yh txt s = 59 ∧ s.f.rows + 1 < 4) ∨ Yh txt s = 41)) → Y1h txt s = .bad s := fun h1 h2 => by
   rw [Y1h, if_neg (by rw [if_neg c0]; omega), if_neg (fun h3 => h2 (by rcases h3 with h3 | h3; exact ⟨h3.2.1.resolve_left c0, .inl ⟨h3.1, h3.2.2⟩⟩; exact ⟨h3.2.resolve_left c0, .inr h3.1⟩))]
  refine ⟨_, R.ldRow (k := 6) rfl, Y4r (by omega) (by omega), fun _ h1 => ∃ s1, Rep h1 g txt s1 L ∧ Kept h g h1 g ∧ InvF s1 ∧ s1.F = s.F ∧ Y1h txt s = pFin (Yh txt s) s1, ?_, fun b => (b = true ∧ Yh txt s = 44 ∧ s.f.ents + 1 < s.f.cols) ∨ (b = false ∧ (Yh txt s ≠ 44 ∨ s.f.cols ≤ s.f.ents + 1)), ?_, ?_, ?_⟩
  ·rintro _ h1 ⟨s1, R1, K1, I1, F1, he⟩
   rw [← F1]
   exact fin R1 K1 I1 F1 he
  ·rintro b hb
   refine ⟨fun hb1 => ?_, fun hb1 => ?_⟩
   ·rcases hb with ⟨_, p44, e4⟩ | ⟨hb, _⟩
    ·obtain ⟨h1, a1, a2, a3⟩ := m_int R (k := 6) (v := s.f.ents + 1) (f' := { s.f with ents := s.f.ents + 1 }) (by omega) rfl rfl rfl rfl
     refine ⟨h1, a1, _, a2, a3, ⟨⟨I.J.okT, I.J.val, I.J.len, I.J.bT, I.J.bF⟩, I.ops, I.nO, by simp only; omega, I.top, I.tF, I.at0, I.at1⟩, rfl, ?_⟩
     rw [Y1h, if_pos ⟨p44, by rw [if_neg c0]; exact e4⟩]
    ·rw [hb] at hb1; cases hb1
   ·have hn : Yh txt s ≠ 44 ∨ s.f.cols ≤ s.f.ents + 1 := by
     rcases hb with ⟨hb, _⟩ | ⟨_, hb⟩
     ·rw [hb] at hb1; cases hb1
     ·exact hb
    have end_ : s.f.ents + 1 = s.f.cols → (Yh txt s = 59 ∧ s.f.rows + 1 < 4) ∨ Yh txt s = 41 → _ := fun h3 h2 =>
     m_row R I (by omega) (by omega) (J := fun h1 => ∃ s1, Rep h1 g txt s1 L ∧ Kept h g h1 g ∧ InvF s1 ∧ s1.F = s.F ∧ Y1h txt s = pFin (Yh txt s) s1) fun h' a b c => ⟨_, a, b, c, rfl, row hn h3 h2⟩
    refine ⟨fun b => (b = true ∧ s.f.ents + 1 = s.f.cols ∧ Yh txt s = 59 ∧ s.f.rows + 1 < 4) ∨ (b = false ∧ ¬(s.f.ents + 1 = s.f.cols ∧ Yh txt s = 59 ∧ s.f.rows + 1 < 4)), ?_, ?_, ?_⟩
    ·rintro b2 hb2
     refine ⟨fun hb3 => ?_, fun hb3 => ⟨fun h41 => ⟨fun hcol => end_ (by simpa using hcol) (.inr (by simpa using h41)), fun hcol => .inr (stp (badd hn fun h9 => ?_))⟩, fun h41 => .inr (stp (badd hn ?_))⟩⟩
     ·rcases hb2 with ⟨_, hb2⟩ | ⟨hb2, _⟩
      ·exact end_ hb2.1 (.inl hb2.2)
      ·rw [hb2] at hb3; cases hb3
     ·have hcol' : s.f.ents + 1 ≠ s.f.cols := by simpa using hcol
      exact hcol' h9.1
     ·rcases hb2 with ⟨hb2, _⟩ | ⟨_, hb2⟩
      ·rw [hb2] at hb3; cases hb3
      ·have h41' : Yh txt s ≠ 41 := by simpa using h41
       exact fun h9 => h9.2.elim (fun h8 => hb2 ⟨h9.1, h8⟩) h41'
    ·intro h59
     have h59' : Yh txt s = 59 := by simpa using h59
     refine ⟨fun hcol => ⟨_, R.ldRow (k := 5) rfl, Y4r (by omega) (by omega), ?_⟩, fun hcol => .inr ⟨rfl, ?_⟩⟩
     ·have hcol' : s.f.ents + 1 = s.f.cols := by simpa using hcol
      by_cases hr : s.f.rows + 1 < 4
      ·exact .inl ⟨decide_eq_true hr, hcol', h59', hr⟩
      ·exact .inr ⟨decide_eq_false hr, fun h9 => hr h9.2.2⟩
     ·have hcol' : s.f.ents + 1 ≠ s.f.cols := by simpa using hcol
      exact fun h9 => hcol' h9.1
    ·intro h59
     have h59' : Yh txt s ≠ 59 := by simpa using h59
     exact .inr ⟨rfl, fun h9 => h59' h9.2.1⟩
  ·intro h44
   have h44' : Yh txt s = 44 := by simpa using h44
   by_cases hr : s.f.ents + 1 < s.f.cols
   ·exact .inl ⟨decide_eq_true hr, h44', hr⟩
   ·exact .inr ⟨decide_eq_false hr, .inr (by omega)⟩
  ·intro h44
   have h44' : Yh txt s ≠ 44 := by simpa using h44
   exact .inr ⟨rfl, .inl h44'⟩
end
def pNeed (op : Int) : Int := if op = 6 then 2 else if op = 7 then 2 else if op = 8 then 2 else 1
def pMore (t : ByteArray) (s : Ps) : Res Int := (Y1z t 44 s).bind fun s1 _ => .ok (pOpd s1) 0
def pEnd (t : ByteArray) (s : Ps) : Res Int := (Y1z t 41 s).bind fun s1 _ => .ok (pClose s.f.op 0 (pOpd s1)) 1
def Y11 (t : ByteArray) (s : Ps) : Res Int :=
 if Yh t s = 43 then .ok (pSign 2 s) 0 else if Yh t s = 45 then .ok (pSign 3 s) 0 else if Yh t s = 42 then .ok (pSign 4 s) 0 else if Yh t s = 61 then .ok (pSign 5 s) 0
 else if s.f.op = -1 then (if s.at_ < (t.size : Nat) then .bad s else .ok s 2)
 else if s.f.op = 13 then Y1h t s
 else if ((s.f.ops.length : Nat) : Int) + 1 < pNeed s.f.op then pMore t s else pEnd t s
theorem c_sign (h : Hp) {op r : Int} (hr : r = if op = 2 then 43 else if op = 3 then 45 else if op = 4 then 42 else 61) : CallOK Tryd.prog 45 [.int .i64 op] h h (.int .u8 r) := by
 obtain ⟨h', av, h1, rfl, rfl⟩ := Y5a (w_sign (h := h) (a0 := op) (Q := fun h' av => h' = h ∧ av = .int .u8 r) (Qp := fun _ _ => False) (by
  unfold pre_sign
  subst hr
  refine ⟨fun e => ⟨rfl, by rw [if_pos (by simpa using e)]⟩, fun e => ?_⟩
  have e1 : ¬ op = 2 := by simpa using e
  rw [if_neg e1]
  refine ⟨fun e => ⟨rfl, by rw [if_pos (by simpa using e)]⟩, fun e => ?_⟩
  have e1 : ¬ op = 3 := by simpa using e
  rw [if_neg e1]
  refine ⟨fun e => ⟨rfl, by rw [if_pos (by simpa using e)]⟩, fun e => ?_⟩
  have e1 : ¬ op = 4 := by simpa using e
  rw [if_neg e1]
  exact ⟨rfl, rfl⟩))
 exact h1
section
variable {h : Hp} {g : Tag} {txt : ByteArray} {s : Ps} {L : Lay}
theorem m_signQ (R : Rep h g txt s L) (I : InvJ s) (h0 : 0 ≤ s.at_) (h2 : s.at_ ≤ 900000000) (op : Int) {Q : Hp → Prop} (hQ : ∀ h' g' L', Rep h' g' txt (pSign op s) L' → Kept h g h' g' → LX L L' → Q h') :
  (Has h L.p 0) ∧ ∃ (x17 : Int), (Ld h L.p 0 1 (.int .i64 x17)) ∧ (okA .i64 (x17 + 1 : Int)) ∧ ∃ (h20 : Hp), (St h L.p 0 1 (.int .i64 (x17 + 1)) h20) ∧ ∃ (x22 : Int), (CallOK Tryd.prog 68 [.int .i64 op] h20 h20 (.int .i64 x22)) ∧ ∃ (h24 : Hp), (CallOK Tryd.prog 67 [.ref L.p 0 0, .int .i64 x22] h20 h24 (.tup [])) ∧ (Has h24 L.fr L.fv) ∧ ∃ (s27 : AV), (NC s27) ∧ (Ld h24 L.fr L.fv (0 + s.F.length * 7 + 3) s27) ∧ ∃ (r30 : Nat), ∃ (h31 : Hp), (Nw h24 r30 ⟨0, true, 3, 1, [.int .i64 op]⟩ h31) ∧ ∃ (h33 : Hp), ∃ (s35 : AV), (NC s35) ∧ (App h31 s27 3 1 8 1 [.int .i64 op] h33 s35) ∧ (Has h33 L.fr L.fv) ∧ (oneA h33 s35) ∧ ∃ (h38 : Hp), (St h33 L.fr L.fv (0 + s.F.length * 7 + 3) s35 h38) ∧ (Q h38) := by
 obtain ⟨a1, x, a2, a3, h1, a4, x2, a5, h3, a6, a7, s0, a8, a9, r, h4, b1, h5, y, b2, b3, b4, b5, h6, b6, g', L', b7, b8, b9⟩ := m_sign R I h0 h2 op
 exact ⟨a1, x, a2, a3, h1, a4, x2, a5, h3, a6, a7, s0, a8, a9, r, h4, b1, h5, y, b2, b3, b4, b5, h6, b6, hQ _ _ _ b7 b8 b9⟩
theorem m_more (R : Rep h g txt s L) (I : InvF s) {Q : Hp → AV → Prop} {Qp : Hp → List PanicEntry → Prop} (hQ : ∀ h' g' L' s' a, pMore txt s = .ok s' a → Rep h' g' txt s' L' → Kept h g h' g' → L'.p = L.p → Q h' (.int .i64 a))
  (hP : pMore txt s = .bad s → Qp h chM) : ((∃ (h164 : Hp), (CallOK Tryd.prog 70 [.ref L.p 0 0, .int .u8 44] h h164 (.tup [])) ∧ (Has h164 L.fr L.fv) ∧ ∃ (s167 : AV), (NC s167) ∧ (Ld h164 L.fr L.fv (0 + s.F.length * 7 + 1) s167) ∧ ∃ (h170 : Hp), ∃ (x171 : Int), (CallOK Tryd.prog 51 [.ref L.p 0 0] h164 h170 (.int .i64 x171)) ∧ ∃ (r173 : Nat), ∃ (h174 : Hp), (Nw h170 r173 ⟨0, true, 3, 1, [.int .i64 x171]⟩ h174) ∧ ∃ (h176 : Hp), ∃ (s178 : AV), (NC s178) ∧ (App h174 s167 3 1 8 1 [.int .i64 x171] h176 s178) ∧ (Has h176 L.fr L.fv) ∧ (oneA h176 s178) ∧ ∃ (h181 : Hp), (St h176 L.fr L.fv (0 + s.F.length * 7 + 1) s178 h181) ∧ (Has h170 L.fr L.fv) ∧ (Has h174 L.fr L.fv) ∧ (Ld h170 L.fr L.fv (0 + s.F.length * 7 + 1) s167) ∧ (Ld h174 L.fr L.fv (0 + s.F.length * 7 + 1) s167) ∧ (Q h181 (.int .i64 0))) ∨ (∃ (h161 : Hp), ∃ (ch162 : List PanicEntry), (Y03 Tryd.prog 70 [.ref L.p 0 0, .int .u8 44] h h161 ch162) ∧ (Qp h161 ch162))) := by
 have at0 := I.at0
 have at1 := I.at1
 rcases c_expectO R (b := 44) (by omega) (by omega) with ⟨h1, a1, a2, a3, a4⟩ | ⟨a1, a2⟩
 ·have I1 : InvJ { s with at_ := s.at_ + 1 } := ⟨I.J.okT, I.J.val, I.J.len, I.J.bT, I.J.bF⟩
  obtain ⟨s0, b1, b2, h2, b3, r, h3, b4, h4, y, b5, b6, b7, b8, h5, b9, b10, b11, b12, b13, g5, L5, b14, b15, b16⟩ := m_op a2 I1 (by have := I.nO; simp only; omega)
  exact .inl ⟨h1, a1, a2.hasF, s0, b1, b2, h2, _, b3, r, h3, b4, h4, y, b5, b6, b7, b8, h5, b9, b10, b11, b12, b13, hQ _ _ _ _ 0 (by rw [pMore, a4]; rfl) b14 (a3.trans b15) b16.p⟩
 ·exact .inr ⟨h, chM, a1, hP (by rw [pMore, a2]; rfl)⟩
theorem m_end (R : Rep h g txt s L) (I : InvF s) (hF : s.F ≠ []) {Q : Hp → AV → Prop} {Qp : Hp → List PanicEntry → Prop} (hQ : ∀ h' g' L' s' a, pEnd txt s = .ok s' a → Rep h' g' txt s' L' → Kept h g h' g' → L'.p = L.p → Q h' (.int .i64 a))
  (hP : pEnd txt s = .bad s → Qp h chM) : ((∃ (h191 : Hp), (CallOK Tryd.prog 70 [.ref L.p 0 0, .int .u8 41] h h191 (.tup [])) ∧ (Has h191 L.fr L.fv) ∧ ∃ (s194 : AV), (NC s194) ∧ (Ld h191 L.fr L.fv (0 + s.F.length * 7 + 1) s194) ∧ ∃ (h197 : Hp), ∃ (x198 : Int), (CallOK Tryd.prog 51 [.ref L.p 0 0] h191 h197 (.int .i64 x198)) ∧ ∃ (r200 : Nat), ∃ (h201 : Hp), (Nw h197 r200 ⟨0, true, 3, 1, [.int .i64 x198]⟩ h201) ∧ ∃ (h203 : Hp), ∃ (s205 : AV), (NC s205) ∧ (App h201 s194 3 1 8 1 [.int .i64 x198] h203 s205) ∧ (Has h203 L.fr L.fv) ∧ (oneA h203 s205) ∧ ∃ (h208 : Hp), (St h203 L.fr L.fv (0 + s.F.length * 7 + 1) s205 h208) ∧ (Has h197 L.fr L.fv) ∧ (Has h201 L.fr L.fv) ∧ (Ld h197 L.fr L.fv (0 + s.F.length * 7 + 1) s194) ∧ (Ld h201 L.fr L.fv (0 + s.F.length * 7 + 1) s194) ∧ (Has h208 L.p 0) ∧ ∃ (s216 : AV), (NC s216) ∧ (Ld h208 L.p 0 3 s216) ∧ ∃ (n219 : Nat), (Len h208 s216 n219) ∧ (okA .i64 (((n219 : Nat) : Int) - 1 : Int)) ∧ ∃ (s222 : AV), (NC s222) ∧ (Cut h208 s216 7 (((n219 : Nat) : Int) - 1 : Int) s222) ∧ (oneA h208 s222) ∧ ∃ (h225 : Hp), (St h208 L.p 0 3 s222 h225) ∧ (Has h225 L.fr L.fv) ∧ ∃ (x229 : Int), (Ld h225 L.fr L.fv (0 + s.F.length * 7 + 0) (.int .i64 x229)) ∧ ∃ (s231 : AV), (NC s231) ∧ (Ld h225 L.fr L.fv (0 + s.F.length * 7 + 1) s231) ∧ ∃ (h234 : Hp), ∃ (x235 : Int), (CallOK Tryd.prog 63 [.ref L.p 0 0, .int .i64 x229, .int .i64 0, s231] h225 h234 (.int .i64 x235)) ∧ ∃ (h237 : Hp), (CallOK Tryd.prog 60 [.ref L.p 0 0, .int .i64 x235] h234 h237 (.tup [])) ∧ (Q h237 (.int .i64 1))) ∨ (∃ (h188 : Hp), ∃ (ch189 : List PanicEntry), (Y03 Tryd.prog 70 [.ref L.p 0 0, .int .u8 41] h h188 ch189) ∧ (Qp h188 ch189))) := by
 have at0 := I.at0
 have at1 := I.at1
 rcases c_expectO R (b := 41) (by omega) (by omega) with ⟨h1, a1, a2, a3, a4⟩ | ⟨a1, a2⟩
 ·have I1 : InvJ { s with at_ := s.at_ + 1 } := ⟨I.J.okT, I.J.val, I.J.len, I.J.bT, I.J.bF⟩
  obtain ⟨s0, b1, b2, h2, b3, r, h3, b4, h4, y, b5, b6, b7, b8, h5, b9, b10, b11, b12, b13, g5, L5, b14, b15, b16⟩ := m_op a2 I1 (by have := I.nO; simp only; omega)
  obtain ⟨d1, d2, d3, d4, d5, d6, d7, d8, d9, d10, d11, d12⟩ := pOpd_inv I1 I.ops
  obtain ⟨F', f', hF'⟩ := last_split hF
  have hF5 : (pOpd { s with at_ := s.at_ + 1 }).F = F' ++ [f'] := d4.trans hF'
  have l10 := congrArg List.length d10
  simp only [X4, Xh] at l10
  obtain ⟨e1, s1, e2, e3, m, e4, e5, s2, e6, e7, e8, h6, e9, e10, e11, e12, h7, e13, h8, e14, g8, L8, e15, e16, e17⟩ := m_close b14 hF5 d1 d2 d3 (by have := I.nO; omega) (by rw [d4]; have := I.J.bF; simp only; omega) (I.tF f' (by rw [hF']; simp)) s.f.op 0
  rw [b16.p] at e1 e3 e9 e13 e14
  rw [d4, b16.fr, b16.fv] at e11
  rw [b16.fr, b16.fv] at e10
  have w0 := e11 0 (.int .i64 s.f.op) (by simp only [row7, X0z]; rw [d6])
  have w1 := e11 1 _ rfl
  exact .inl ⟨h1, a1, a2.hasF, s0, b1, b2, h2, _, b3, r, h3, b4, h4, y, b5, b6, b7, b8, h5, b9, b10, b11, b12, b13, e1, s1, e2, e3, m, e4, e5, s2, e6, e7, e8, h6, e9, e10, _, w0, _, e12, w1, h7, _, e13, h8, e14, hQ h8 g8 L8 _ 1 (by rw [pEnd, a4]; rfl) e15 ((a3.trans b15).trans e16) (e17.trans b16.p)⟩
 ·exact .inr ⟨h, chM, a1, hP (by rw [pEnd, a2]; rfl)⟩
theorem c_follow (R : Rep h g txt s L) (I : InvF s) (hb : s.f.op = 13 → s.f.ents ≤ 3 ∧ s.f.rows ≤ 3) : Out 50 [.ref L.p 0 0] (fun i => .int .i64 i) h g txt L (fun L L' => L'.p = L.p) (Y11 txt s) := by
 have at0 := I.at0
 have at1 := I.at1
 obtain ⟨r, hr⟩ := h.fresh
 obtain ⟨a1, a2, a3, a4⟩ := R.grow (t := 4) (rt := ⟨0, true, 3, 1, [.int .i64 2, .int .i64 3, .int .i64 4, .int .i64 5]⟩) (.inr rfl) hr
 have hself : Hp.at ((r, (⟨0, true, 3, 1, [.int .i64 2, .int .i64 3, .int .i64 4, .int .i64 5]⟩ : Rt)) :: h) r = _ := Y0n _ _ _
 have sg : ∀ op, Y11 txt s = .ok (pSign op s) 0 → ∀ h' g' L', Rep h' g' txt (pSign op s) L' → Kept ((r, (⟨0, true, 3, 1, [.int .i64 2, .int .i64 3, .int .i64 4, .int .i64 5]⟩ : Rt)) :: h) (upg g r 4) h' g' → LX L L' → OkQ (Y11 txt s) (fun i => .int .i64 i) h g txt L (fun L L' => L'.p = L.p) h' (.int .i64 0) :=
  fun op he h' g' L' b1 b2 b3 => ⟨_, _, g', L', he, rfl, b1, a3.trans b2, b3.p⟩
 refine Out.of (w_follow (h := h) (p := L.p) ⟨L.fr, L.fv, _, c_inner R (by have := I.J.bF; omega), h, _, c_peek R I.at0, r, _, a1, Has.mk hself rfl, HasK.mk hself rfl rfl, ⟨_, hself, rfl, rfl, rfl⟩, c_sign _ rfl, fun h43 => ?_, fun h43 => ⟨⟨_, hself, rfl, rfl, rfl⟩, c_sign _ rfl, fun h45 => ?_, fun h45 => ⟨⟨_, hself, rfl, rfl, rfl⟩, c_sign _ rfl, fun h42 => ?_, fun h42 => ⟨⟨_, hself, rfl, rfl, rfl⟩, c_sign _ rfl, fun h61 => ?_, fun h61 => ⟨a2.hasF, s.f.op, a2.ldRow (k := 0) rfl, fun hop => ?_, fun hop => ?_⟩⟩⟩⟩⟩)
 ·have e43 : Yh txt s = 43 := by simpa using h43
  exact m_signQ a2 I.J (by omega) (by omega) 2 (Q := fun h' => OkQ (Y11 txt s) (fun i => .int .i64 i) h g txt L (fun L L' => L'.p = L.p) h' (.int .i64 0)) (sg 2 (by rw [Y11, if_pos e43]))
 ·have e43 : Yh txt s ≠ 43 := by simpa using h43
  have e45 : Yh txt s = 45 := by simpa using h45
  exact m_signQ a2 I.J (by omega) (by omega) 3 (Q := fun h' => OkQ (Y11 txt s) (fun i => .int .i64 i) h g txt L (fun L L' => L'.p = L.p) h' (.int .i64 0)) (sg 3 (by rw [Y11, if_neg e43, if_pos e45]))
 ·have e43 : Yh txt s ≠ 43 := by simpa using h43
  have e45 : Yh txt s ≠ 45 := by simpa using h45
  have e42 : Yh txt s = 42 := by simpa using h42
  exact m_signQ a2 I.J (by omega) (by omega) 4 (Q := fun h' => OkQ (Y11 txt s) (fun i => .int .i64 i) h g txt L (fun L L' => L'.p = L.p) h' (.int .i64 0)) (sg 4 (by rw [Y11, if_neg e43, if_neg e45, if_pos e42]))
 ·have e43 : Yh txt s ≠ 43 := by simpa using h43
  have e45 : Yh txt s ≠ 45 := by simpa using h45
  have e42 : Yh txt s ≠ 42 := by simpa using h42
  have e61 : Yh txt s = 61 := by simpa using h61
  exact m_signQ a2 I.J (by omega) (by omega) 5 (Q := fun h' => OkQ (Y11 txt s) (fun i => .int .i64 i) h g txt L (fun L L' => L'.p = L.p) h' (.int .i64 0)) (sg 5 (by rw [Y11, if_neg e43, if_neg e45, if_neg e42, if_pos e61]))
 all_goals
  have e43 : Yh txt s ≠ 43 := by simpa using h43
  have e45 : Yh txt s ≠ 45 := by simpa using h45
  have e42 : Yh txt s ≠ 42 := by simpa using h42
  have e61 : Yh txt s ≠ 61 := by simpa using h61
 ·have o1 : s.f.op = -1 := by simpa using hop
  refine ⟨a2.has, _, a2.ldAt, _, a2.ldS, fun hlt => .inr ⟨_, chM, c_stop _ L.p, s, _, L, ?_, rfl, a2, a3, rfl⟩, fun hlt => ⟨s, 2, _, L, ?_, rfl, a2, a3, rfl⟩⟩
  ·rw [Y11, if_neg e43, if_neg e45, if_neg e42, if_neg e61, if_pos o1, if_pos (of_decide_eq_true hlt)]
  ·rw [Y11, if_neg e43, if_neg e45, if_neg e42, if_neg e61, if_pos o1, if_neg (of_decide_eq_false hlt)]
 ·have o1 : s.f.op ≠ -1 := by simpa using hop
  have hF : s.F ≠ [] := I.top.resolve_left o1
  refine ⟨fun h13 => ?_, fun h13 => ?_⟩
  ·have o13 : s.f.op = 13 := by simpa using h13
   have M := c_matrix a2 I hF (hb o13).1 (hb o13).2
   have e : Y11 txt s = Y1h txt s := by rw [Y11, if_neg e43, if_neg e45, if_neg e42, if_neg e61, if_neg o1, if_pos o13]
   cases hM : Y1h txt s with
   | ok s' a =>
    rw [hM] at M e
    obtain ⟨h', g', L', b1, b2, b3, b4⟩ := M
    exact .inl ⟨h', a, b1, s', a, g', L', e, rfl, b2, a3.trans b3, b4⟩
   | bad s' =>
    rw [hM] at M e
    obtain ⟨h', g', L', b1, b2, b3, b4⟩ := M
    exact .inr ⟨h', chM, b1, s', g', L', e, rfl, b2, a3.trans b3, b4⟩
  ·have o13 : s.f.op ≠ 13 := by simpa using h13
   have e : Y11 txt s = if ((s.f.ops.length : Nat) : Int) + 1 < pNeed s.f.op then pMore txt s else pEnd txt s := by rw [Y11, if_neg e43, if_neg e45, if_neg e42, if_neg e61, if_neg o1, if_neg o13]
   have nO := I.nO
   refine ⟨fun b => (b = true ∧ pNeed s.f.op = 2) ∨ (b = false ∧ pNeed s.f.op = 1), ?_, fun h6 => .inl ⟨rfl, ?_⟩, fun h6 => ⟨fun h7 => .inl ⟨rfl, ?_⟩, fun h7 => ?_⟩⟩
   ·have more : ((s.f.ops.length : Nat) : Int) + 1 < pNeed s.f.op → _ := fun hl => m_more a2 I (Q := OkQ (Y11 txt s) (fun i => .int .i64 i) h g txt L (fun L L' => L'.p = L.p)) (Qp := BadQ (Y11 txt s) h g txt L)
     (fun h' g' L' s' a b1 b2 b3 b4 => ⟨s', a, g', L', by rw [e, if_pos hl]; exact b1, rfl, b2, a3.trans b3, b4⟩) (fun b1 => ⟨s, _, L, by rw [e, if_pos hl]; exact b1, rfl, a2, a3, rfl⟩)
    have fin : ¬((s.f.ops.length : Nat) : Int) + 1 < pNeed s.f.op → _ := fun hl => m_end a2 I hF (Q := OkQ (Y11 txt s) (fun i => .int .i64 i) h g txt L (fun L L' => L'.p = L.p)) (Qp := BadQ (Y11 txt s) h g txt L)
     (fun h' g' L' s' a b1 b2 b3 b4 => ⟨s', a, g', L', by rw [e, if_neg hl]; exact b1, rfl, b2, a3.trans b3, b4⟩) (fun b1 => ⟨s, _, L, by rw [e, if_neg hl]; exact b1, rfl, a2, a3, rfl⟩)
    rintro b (⟨rfl, hn⟩ | ⟨rfl, hn⟩)
    ·rw [hn] at more fin
     exact ⟨fun _ => ⟨L.ρ.xo, a2.row.1.1.nc, a2.ldRow (k := 1) rfl, s.f.ops.length, a2.row.1.1.len, Y4r (by omega) (by omega), fun hd => more (of_decide_eq_true hd), fun hd => fin (of_decide_eq_false hd)⟩, fun hd => (by cases hd)⟩
    ·rw [hn] at more fin
     exact ⟨fun hd => (by cases hd), fun _ => ⟨L.ρ.xo, a2.row.1.1.nc, a2.ldRow (k := 1) rfl, s.f.ops.length, a2.row.1.1.len, Y4r (by omega) (by omega), fun hd => more (of_decide_eq_true hd), fun hd => fin (of_decide_eq_false hd)⟩⟩
   ·have e6 : s.f.op = 6 := by simpa using h6
    rw [pNeed, if_pos e6]
   ·have e6 : s.f.op ≠ 6 := by simpa using h6
    have e7 : s.f.op = 7 := by simpa using h7
    rw [pNeed, if_neg e6, if_pos e7]
   ·have e6 : s.f.op ≠ 6 := by simpa using h6
    have e7 : s.f.op ≠ 7 := by simpa using h7
    by_cases e8 : s.f.op = 8
    ·exact .inl ⟨by simpa using e8, by rw [pNeed, if_neg e6, if_neg e7, if_pos e8]⟩
    ·exact .inr ⟨by simpa using e8, by rw [pNeed, if_neg e6, if_neg e7, if_neg e8]⟩
end
def Y0q (op : Int) : ByteArray :=
 if op = 6 then ⟨#[102, 114, 97, 99]⟩ else if op = 7 then ⟨#[112, 111, 119]⟩ else if op = 8 then ⟨#[105, 100, 120]⟩ else if op = 9 then ⟨#[114, 111, 111, 116]⟩ else if op = 11 then ⟨#[99, 97, 110, 99, 101, 108]⟩
 else if op = 12 then ⟨#[115, 117, 109]⟩ else if op = 13 then ⟨#[109, 97, 116, 114, 105, 120]⟩ else ⟨#[]⟩
def opsW : List Int := [6, 7, 8, 9, 11, 12, 13]
theorem nameB_size : ∀ op ∈ opsW, 2 ≤ (Y0q op).size ∧ (Y0q op).size ≤ 6 := by decide
def pName (t n : ByteArray) : Nat → Ps → Res Unit
 | 0, s => .ok s ()
 | k + 1, s => (Y1z t (Y1q n ((n.size - (k + 1) : Nat) : Int)) s).bind fun s1 _ => pName t n k s1
def pWordM (t : ByteArray) (s : Ps) (n : ByteArray) : Prop := Yh t s = Y1q n 0 ∧ s.at_ + 1 < (t.size : Nat) ∧ Y1q t (s.at_ + 1) = Y1q n 1
instance (t : ByteArray) (s : Ps) (n : ByteArray) : Decidable (pWordM t s n) := by unfold pWordM; exact inferInstance
def pWordL (t : ByteArray) : List Int → Ps → Res Int
 | [], s => .ok { s with at_ := s.at_ + 1 } 1
 | op :: l, s => if pWordM t s (Y0q op) then (pName t (Y0q op) (Y0q op).size s).bind fun s1 _ => (Y1z t 40 s1).bind fun s2 _ => .ok s2 op else pWordL t l s
def pWord (t : ByteArray) (s : Ps) : Res Int := pWordL t opsW s
theorem pName_ok (t n : ByteArray) : ∀ (k : Nat) (s s1 : Ps), pName t n k s = .ok s1 () → s1 = { s with at_ := s.at_ + k }
 | 0, s, s1, h => by
  simp only [pName, Res.ok.injEq, and_true] at h
  rw [← h]; simp
 | k + 1, s, s1, h => by
  rw [pName] at h
  unfold Y1z at h
  split at h
  ·rw [Y07] at h
   have := pName_ok t n k _ _ h
   rw [this]
   simp only [Ps.mk.injEq, and_true]
   push_cast; omega
  ·cases h
theorem pWordL_ok (t : ByteArray) : ∀ (l : List Int), (∀ op ∈ l, op ∈ opsW) → ∀ (s s1 : Ps) (op : Int), pWordL t l s = .ok s1 op → ∃ c : Nat, s1 = { s with at_ := s.at_ + c } ∧ 1 ≤ c ∧ c ≤ 7 ∧ ((op = 1 ∧ c = 1) ∨ (op ∈ opsW ∧ 3 ≤ c))
 | [], _, s, s1, op, h => by
  simp only [pWordL, Res.ok.injEq] at h
  exact ⟨1, h.1.symm, by omega, by omega, .inl ⟨h.2.symm, rfl⟩⟩
 | o :: l, hl, s, s1, op, h => by
  rw [pWordL] at h
  split at h
  ·cases hN : pName t (Y0q o) (Y0q o).size s with
   | bad s' => rw [hN] at h; cases h
   | ok s' u =>
    rw [hN, Y07] at h
    have e := pName_ok t _ _ s s' hN
    unfold Y1z at h
    split at h
    ·simp only [Y07, Res.ok.injEq] at h
     obtain ⟨h1, h2⟩ := h
     have ho := hl o (by simp)
     have := nameB_size o ho
     refine ⟨(Y0q o).size + 1, ?_, by omega, by omega, .inr ⟨by rw [← h2]; exact ho, by omega⟩⟩
     rw [← h1, e]
     simp only [Ps.mk.injEq, and_true]
     push_cast; omega
    ·cases h
  ·exact pWordL_ok t l (fun o ho => hl o (by simp [ho])) s s1 op h
theorem c_name (h : Hp) (op : Int) : CallOK Tryd.prog 46 [.int .i64 op] h h (.string (Y0q op)) := by
 obtain ⟨h', av, h1, rfl, rfl⟩ := Y5a (w_name (h := h) (a0 := op) (Q := fun h' av => h' = h ∧ av = .string (Y0q op)) (Qp := fun _ _ => False) (by
  unfold pre_name Y0q
  refine ⟨fun e => ⟨rfl, by rw [if_pos (by simpa using e)]⟩, fun e => ?_⟩
  rw [if_neg (show ¬ op = 6 by simpa using e)]
  refine ⟨fun e => ⟨rfl, by rw [if_pos (by simpa using e)]⟩, fun e => ?_⟩
  rw [if_neg (show ¬ op = 7 by simpa using e)]
  refine ⟨fun e => ⟨rfl, by rw [if_pos (by simpa using e)]⟩, fun e => ?_⟩
  rw [if_neg (show ¬ op = 8 by simpa using e)]
  refine ⟨fun e => ⟨rfl, by rw [if_pos (by simpa using e)]⟩, fun e => ?_⟩
  rw [if_neg (show ¬ op = 9 by simpa using e)]
  refine ⟨fun e => ⟨rfl, by rw [if_pos (by simpa using e)]⟩, fun e => ?_⟩
  rw [if_neg (show ¬ op = 11 by simpa using e)]
  refine ⟨fun e => ⟨rfl, by rw [if_pos (by simpa using e)]⟩, fun e => ?_⟩
  rw [if_neg (show ¬ op = 12 by simpa using e)]
  refine ⟨fun e => ⟨rfl, by rw [if_pos (by simpa using e)]⟩, fun e => ?_⟩
  rw [if_neg (show ¬ op = 13 by simpa using e)]
  exact ⟨rfl, rfl⟩))
 exact h1
section
variable {h : Hp} {g : Tag} {txt : ByteArray} {s : Ps} {L : Lay}
theorem c_word (R : Rep h g txt s L) (h0 : 0 ≤ s.at_) (h2 : s.at_ ≤ 800000000) : Out 62 [.ref L.p 0 0] (fun i => .int .i64 i) h g txt L LS (pWord txt s) := by
 obtain ⟨r, hr⟩ := h.fresh
 obtain ⟨a1, a2, a3, a4⟩ := R.grow (t := 4) (rt := ⟨0, true, 3, 1, [.int .i64 6, .int .i64 7, .int .i64 8, .int .i64 9, .int .i64 11, .int .i64 12, .int .i64 13]⟩) (.inr rfl) hr
 have hx : SlI ((r, (⟨0, true, 3, 1, [.int .i64 6, .int .i64 7, .int .i64 8, .int .i64 9, .int .i64 11, .int .i64 12, .int .i64 13]⟩ : Rt)) :: h) (.rsl r 0 0 7) opsW := .inr ⟨r, 0, _, rfl, Y0n _ _ _, rfl, rfl, rfl, rfl, rfl, rfl⟩
 refine Out.of (w_word (h := h) (p := L.p) ⟨r, _, a1, Has.mk (Y0n _ _ _) rfl, fun m y j h' => h' = (r, (⟨0, true, 3, 1, [.int .i64 6, .int .i64 7, .int .i64 8, .int .i64 9, .int .i64 11, .int .i64 12, .int .i64 13]⟩ : Rt)) :: h ∧ 0 ≤ j ∧ j ≤ 7 ∧ m = 7 - j.toNat ∧ pWordL txt (opsW.drop j.toNat) s = pWord txt s, ⟨7, rfl, by omega, by omega, rfl, rfl⟩, ?_⟩)
 rintro m y j h' ⟨rfl, j0, j7, rfl, he⟩
 refine ⟨fun hj => ?_, fun hj => ?_⟩
 ·have hj7 : j < 7 := of_decide_eq_true hj
  have hjn : j.toNat < opsW.length := by show j.toNat < 7; omega
  obtain ⟨r1, v1, o1, b1, b2⟩ := SlI.get hx (j := j) j0 (by show j < 7; omega)
  have hd : opsW.drop j.toNat = opsW.getD j.toNat 0 :: opsW.drop (j.toNat + 1) := by
   rw [X0k hjn, X8, X2 hjn]; rfl
  have hmem : opsW.getD j.toNat 0 ∈ opsW := by
   rw [X8, X2 hjn]; exact List.getElem_mem _
  generalize opsW.getD j.toNat 0 = op at b2 hd hmem
  rw [hd, pWordL] at he
  obtain ⟨n2, n6⟩ := nameB_size op hmem
  refine ⟨fun _ _ _ h' => h' = (r, (⟨0, true, 3, 1, [.int .i64 6, .int .i64 7, .int .i64 8, .int .i64 9, .int .i64 11, .int .i64 12, .int .i64 13]⟩ : Rt)) :: h ∧ pWordL txt (opsW.drop (j.toNat + 1)) s = pWord txt s, ?_, r1, v1, o1, b1, op, b2, Y0q op, c_name _ _, fun b h' => h' = (r, (⟨0, true, 3, 1, [.int .i64 6, .int .i64 7, .int .i64 8, .int .i64 9, .int .i64 11, .int .i64 12, .int .i64 13]⟩ : Rt)) :: h ∧ ((b = true ∧ ¬ pWordM txt s (Y0q op)) ∨ (b = false ∧ pWordM txt s (Y0q op))), ?_, ?_⟩
  ·rintro _ _ _ h' ⟨rfl, e⟩
   exact ⟨Y4r (by omega) (by omega), 7 - (j + 1).toNat, by omega, rfl, by omega, by omega, rfl, by rw [show (j + 1).toNat = j.toNat + 1 by omega]; exact e⟩
  ·rintro b h' ⟨rfl, hb⟩
   refine ⟨fun hb1 => ⟨rfl, ?_⟩, fun hb1 => ?_⟩
   ·rcases hb with ⟨_, hb⟩ | ⟨hb, _⟩
    ·rw [if_neg hb] at he; exact he
    ·rw [hb] at hb1; cases hb1
   ·have hM : pWordM txt s (Y0q op) := by
     rcases hb with ⟨hb, _⟩ | ⟨_, hb⟩
     ·rw [hb] at hb1; cases hb1
     ·exact hb
    rw [if_pos hM] at he
    refine ⟨fun k i h' => ∃ s1, Rep h' (upg g r 4) txt s1 L ∧ Kept ((r, (⟨0, true, 3, 1, [.int .i64 6, .int .i64 7, .int .i64 8, .int .i64 9, .int .i64 11, .int .i64 12, .int .i64 13]⟩ : Rt)) :: h) (upg g r 4) h' (upg g r 4) ∧ 0 ≤ i ∧ i + k = ((Y0q op).size : Nat) ∧ s1.at_ = s.at_ + i ∧ ((pName txt (Y0q op) k s1).bind fun s1 _ => (Y1z txt 40 s1).bind fun s2 _ => .ok s2 op) = pWord txt s,
     ⟨(Y0q op).size, s, a2, Kept.refl _ _, by omega, by omega, by omega, he⟩, ?_⟩
    rintro k i h' ⟨s1, R1, K1, i0, ik, at1, he1⟩
    refine ⟨fun hi => ?_, fun hi => ?_⟩
    ·have hi' : i < ((Y0q op).size : Nat) := of_decide_eq_true hi
     obtain ⟨k', rfl⟩ : ∃ k', k = k' + 1 := ⟨k - 1, by omega⟩
     rw [pName, show (((Y0q op).size - (k' + 1) : Nat) : Int) = i by omega] at he1
     refine ⟨Y1q (Y0q op) i, ⟨i0, hi'⟩, rfl, ?_⟩
     rcases c_expectO R1 (b := Y1q (Y0q op) i) (by omega) (by omega) with ⟨h3, c1, c2, c3, c4⟩ | ⟨c1, c2⟩
     ·rw [c4, Y07] at he1
      exact .inl ⟨h3, c1, Y4r (by omega) (by omega), k', by omega, _, c2, K1.trans c3, by omega, by push_cast at ik; omega, by simp only; omega, he1⟩
     ·rw [c2] at he1
      exact .inr ⟨h', chM, c1, s1, _, L, he1.symm, rfl, R1, a3.trans K1, rfl⟩
    ·have hk : k = 0 := by have : ¬ i < ((Y0q op).size : Nat) := of_decide_eq_false hi; omega
     subst hk
     rw [pName, Y07] at he1
     rcases c_expectO R1 (b := 40) (by omega) (by omega) with ⟨h3, c1, c2, c3, c4⟩ | ⟨c1, c2⟩
     ·rw [c4, Y07] at he1
      exact .inl ⟨h3, c1, _, op, _, L, he1.symm, rfl, c2, a3.trans (K1.trans c3), LS.refl _⟩
     ·rw [c2] at he1
      exact .inr ⟨h', chM, c1, s1, _, L, he1.symm, rfl, R1, a3.trans K1, rfl⟩
  ·refine ⟨_, _, c_peek a2 h0, Y1q (Y0q op) 0, ⟨by omega, by omega⟩, rfl, fun h1 => ⟨rfl, .inl ⟨rfl, fun hM => ?_⟩⟩, fun h1 => ⟨a2.has, _, a2.ldAt, Y4r (by omega) (by omega), txt, a2.ldS, fun h3 => ⟨rfl, .inl ⟨rfl, fun hM => ?_⟩⟩, fun h3 => ⟨Y1q txt (s.at_ + 1), ⟨by omega, ?_⟩, rfl, Y1q (Y0q op) 1, ⟨by omega, by omega⟩, rfl, rfl, ?_⟩⟩⟩
   ·rw [hM.1] at h1; simp at h1
   ·have := of_decide_eq_true h3
    have := hM.2.1
    omega
   ·have := of_decide_eq_false h3; omega
   ·have h4 : s.at_ + 1 < (txt.size : Nat) := by have := of_decide_eq_false h3; omega
    have h5 : Yh txt s = Y1q (Y0q op) 0 := by simpa using h1
    by_cases h6 : Y1q txt (s.at_ + 1) = Y1q (Y0q op) 1
    ·exact .inr ⟨by simpa using h6, h5, h4, h6⟩
    ·exact .inl ⟨by simpa using h6, fun hM => h6 hM.2.2⟩
 ·have hj7 : j = 7 := by have : ¬ j < 7 := of_decide_eq_false hj; omega
  subst hj7
  obtain ⟨h3, q1, q2, q3⟩ := a2.setAt (s.at_ + 1)
  refine ⟨a2.has, _, a2.ldAt, Y4r (by omega) (by omega), h3, q1, _, 1, _, L, ?_, rfl, q2, a3.trans q3, LS.refl _⟩
  rw [← he]; rfl
end
structure FOk (T : List Tn) (n r : Int) (f : Fr) : Prop where
 vt : Val T f.terms
 vo : Val T f.ops
 no : ((f.ops.length : Nat) : Int) ≤ n
 c : 0 ≤ f.cols ∧ f.cols ≤ 4 ∧ 0 ≤ f.rows ∧ f.rows ≤ r ∧ 0 ≤ f.ents ∧ f.ents ≤ 3
def sg : List Fr → Nat
 | [] => 0
 | f :: F => f.signs.length + sg F
theorem sg_app : ∀ (F : List Fr) (f : Fr), sg (F ++ [f]) = sg F + f.signs.length
 | [], f => by simp [sg]
 | f' :: F, f => by simp [sg, sg_app F f]; omega
theorem sg_mem : ∀ (F : List Fr) (f : Fr), f ∈ F → f.signs.length ≤ sg F
 | [], _, h => by simp at h
 | f' :: F, f, h => by
  simp only [X00] at h
  simp only [sg]
  rcases h with rfl | h
  ·omega
  ·have := sg_mem F f h; omega
structure W (t : ByteArray) (s : Ps) (d : Nat) (r : Int) : Prop where
 okT : OkT s.T
 cur : FOk s.T s.at_ r s.f
 len : s.f.terms.length = s.f.signs.length + d
 out : ∀ f ∈ s.F, FOk s.T s.at_ 3 f ∧ f.terms.length = f.signs.length
 top : ∀ f, (s.F ++ [s.f]).head? = some f → f.op = -1
 pot : ((s.T.length : Nat) : Int) + (sg s.F : Nat) + (s.f.signs.length : Nat) ≤ 10 * s.at_
 nF : ((s.F.length : Nat) : Int) ≤ s.at_
 at0 : 0 ≤ s.at_
 at1 : s.at_ ≤ (t.size : Nat) + 60
 sz : t.size ≤ 1000000
 r4 : r ≤ 4
 r0 : 0 ≤ r
theorem Val.mono {T T' : List Tn} {l : List Int} (h : Val T l) (hl : T.length ≤ T'.length) : Val T' l := fun i hi => by have := h i hi; omega
theorem FOk.mono {T T' : List Tn} {n n' r : Int} {f : Fr} (h : FOk T n r f) (hl : T.length ≤ T'.length) (hn : n ≤ n') : FOk T' n' r f := ⟨h.vt.mono hl, h.vo.mono hl, by have := h.no; omega, h.c⟩
section
variable {t : ByteArray} {s s' : Ps} {d : Nat} {r : Int}
theorem Y30 {b : Int} (h : Yh t s = b) (hb : b ≠ 0) : s.at_ < (t.size : Nat) := by
 unfold Yh at h
 split at h
 ·assumption
 ·exact absurd h.symm hb
theorem W.ext (w : W t s d r) {c : Int} (e : Ext s s' c) (hT : (s'.T.length : Int) - s.T.length ≤ 10 * (s'.at_ - s.at_)) (h1 : s'.at_ ≤ (t.size : Nat) + 60) : W t s' d r := by
 have l := e.len
 have a0 := e.at0
 have hp := w.pot
 refine ⟨e.ok, ?_, ?_, ?_, ?_, ?_, ?_, ?_, h1, w.sz, w.r4, w.r0⟩
 ·rw [e.f]; exact w.cur.mono (by omega) e.at0
 ·rw [e.f]; exact w.len
 ·rw [e.F]; exact fun f hf => ⟨(w.out f hf).1.mono (by omega) e.at0, (w.out f hf).2⟩
 ·rw [e.F, e.f]; exact w.top
 ·rw [e.F, e.f]; omega
 ·rw [e.F]; have := w.nF; omega
 ·have := w.at0; omega
theorem W.adv (w : W t s d r) {c : Int} (hc : 0 ≤ c) (h1 : s.at_ + c ≤ (t.size : Nat) + 60) : W t { s with at_ := s.at_ + c } d r :=
 w.ext (c := c) ⟨rfl, rfl, by simp only; omega, by simp only; omega, ⟨[], by simp, by simpa using hc⟩, w.okT⟩ (by simp only; omega) h1
theorem top_f {F : List Fr} {f f' : Fr} (ht : ∀ x, (F ++ [f]).head? = some x → x.op = -1) (ho : f'.op = f.op) : ∀ x, (F ++ [f']).head? = some x → x.op = -1 := by
 intro x hx
 cases F with
 | nil =>
  simp at hx
  rw [← hx, ho]
  exact ht f rfl
 | cons a F => exact ht x hx
theorem W.term (w : W t s 0 r) {i : Int} (hi : 0 ≤ i ∧ i < (s.T.length : Nat)) : W t (pTerm i s) 1 r := by
 refine ⟨w.okT, ⟨?_, w.cur.vo, w.cur.no, w.cur.c⟩, ?_, w.out, top_f w.top rfl, w.pot, w.nF, w.at0, w.at1, w.sz, w.r4, w.r0⟩
 ·intro j hj
  simp only [pTerm, Xw, Xd] at hj
  rcases hj with hj | rfl
  ·exact w.cur.vt j hj
  ·exact hi
 ·have := w.len
  simp only [pTerm, X4, Xh]; omega
def pPush (op : Int) (s : Ps) : Ps := { s with F := s.F ++ [s.f], f := ⟨op, [], [], [], 0, 0, 0⟩ }
theorem W.push (w : W t s 0 3) (op : Int) (h1 : ((s.F.length : Nat) : Int) + 1 ≤ s.at_) : W t (pPush op s) 0 3 := by
 have hp := w.pot
 refine ⟨w.okT, ⟨fun i hi => by simp [pPush] at hi, fun i hi => by simp [pPush] at hi, by have := w.at0; simp [pPush]; omega, by simp [pPush]⟩, rfl, ?_, ?_, ?_, ?_, w.at0, w.at1, w.sz, w.r4, w.r0⟩
 ·intro f hf
  simp only [pPush, Xw, Xd] at hf
  rcases hf with hf | rfl
  ·exact w.out f hf
  ·exact ⟨w.cur, w.len⟩
 ·intro x hx
  refine w.top x ?_
  rw [← hx]
  show (s.F ++ [s.f]).head? = ((s.F ++ [s.f]) ++ [_]).head?
  cases s.F <;> rfl
 ·simp only [pPush, sg_app, Xj]
  push_cast; omega
 ·simp only [pPush, X4, Xh]; push_cast; omega
theorem W.invJ (w : W t s 1 r) : InvJ s := by
 have := w.pot
 have := w.at1
 have := w.sz
 have := w.nF
 exact ⟨w.okT, w.cur.vt, w.len, by omega, by omega⟩
theorem W.invF (w : W t s 1 r) : InvF s := by
 have r4 := w.r4
 have := w.pot
 have := w.at1
 have := w.sz
 have := w.nF
 have cc := w.cur.c
 refine ⟨w.invJ, w.cur.vo, by have := w.cur.no; omega, ⟨cc.1, cc.2.1, cc.2.2.1, by omega, cc.2.2.2.2.1, by omega⟩, ?_, fun f hf => ?_, w.at0, by omega⟩
 ·cases hF : s.F with
  | nil => exact .inl (w.top s.f (by rw [hF]; rfl))
  | cons a F => exact .inr (by simp)
 ·have := sg_mem _ f hf
  have := (w.out f hf).2
  omega
theorem pJoin_pot (least : Int) : ∀ (k : Nat) (s : Ps), InvJ s → k = s.f.signs.length → (Y0v least k s).T.length + (Y0v least k s).f.signs.length = s.T.length + s.f.signs.length
 | 0, s, _, _ => rfl
 | k + 1, s, I, hk => by
  rw [Y0v]
  split
  ·obtain ⟨h1, h2⟩ := I.step (by omega)
   rw [pJoin_pot least k (jStep s) h1 (by omega)]
   simp only [jStep, pAdd, X4, Xh] at h2 ⊢
   omega
  ·rfl
theorem W.join (w : W t s 1 r) (least : Int) : W t (Y0v least s.f.signs.length s) 1 r := by
 have hp := w.pot
 obtain ⟨b1, b2, b3, b4, b5⟩ := Y2r least _ s w.invJ rfl
 obtain ⟨⟨a, b, h1⟩, T, h2⟩ := pJoin_f least s.f.signs.length s
 have h3 := pJoin_pot least _ s w.invJ rfl
 have lT : s.T.length ≤ (Y0v least s.f.signs.length s).T.length := by rw [h2]; simp
 have cc := w.cur.c
 refine ⟨b1.okT, ⟨b1.val, ?_, ?_, ?_⟩, b1.len, ?_, ?_, ?_, ?_, ?_, ?_, w.sz, w.r4, w.r0⟩
 ·rw [b5]; exact w.cur.vo.mono lT
 ·rw [b5, b3]; exact w.cur.no
 ·rw [h1]; exact cc
 ·rw [b2, b3]; exact fun f hf => ⟨(w.out f hf).1.mono lT (by omega), (w.out f hf).2⟩
 ·rw [b2]; exact top_f w.top b4
 ·rw [b2, b3]; omega
 ·rw [b2, b3]; exact w.nF
 ·rw [b3]; exact w.at0
 ·rw [b3]; exact w.at1
theorem W.sign (w : W t s 1 r) (op : Int) (h : s.at_ + 1 ≤ (t.size : Nat) + 60) : W t (pSign op s) 0 r := by
 have hp := w.pot
 obtain ⟨b1, b2, b3, b4, b5⟩ := Y2r (prec op) _ s w.invJ rfl
 have w0 := w.adv (c := 1) (by omega) h
 have w1 := w0.join (prec op)
 obtain ⟨c1, c2, c3, c4, c5⟩ := Y2r (prec op) _ _ w0.invJ rfl
 have h3 := pJoin_pot (prec op) _ _ w0.invJ rfl
 refine ⟨w1.okT, ⟨w1.cur.vt, w1.cur.vo, w1.cur.no, w1.cur.c⟩, ?_, w1.out, top_f w1.top rfl, ?_, w1.nF, w1.at0, w1.at1, w1.sz, w1.r4, w1.r0⟩
 ·have := w1.len
  simp only [pSign, X4, Xh] at this ⊢
  omega
 ·simp only at c2 c3 h3
  simp only [pSign, X4, Xh]
  rw [c2, c3]
  push_cast; omega
theorem prec_pos (op : Int) : 0 ≤ prec op := by
 unfold prec
 repeat' split
 all_goals omega
theorem pJoin_all : ∀ (k : Nat) (s : Ps), InvJ s → k = s.f.signs.length → (Y0v 0 k s).f.signs.length = 0
 | 0, s, _, hk => hk.symm
 | k + 1, s, I, hk => by
  rw [Y0v, if_pos ⟨by omega, prec_pos _⟩]
  obtain ⟨h1, h2⟩ := I.step (by omega)
  exact pJoin_all k (jStep s) h1 (by omega)
theorem W.opd (w : W t s 1 r) (h : s.at_ + 1 ≤ (t.size : Nat) + 60) : W t (pOpd { s with at_ := s.at_ + 1 }) 0 r ∧ ((pOpd { s with at_ := s.at_ + 1 }).T.length : Int) + (sg (pOpd { s with at_ := s.at_ + 1 }).F : Nat) + ((pOpd { s with at_ := s.at_ + 1 }).f.signs.length : Nat) + 10 ≤ 10 * (pOpd { s with at_ := s.at_ + 1 }).at_ := by
 have hp := w.pot
 have w0 := w.adv (c := 1) (by omega) h
 obtain ⟨d1, d2, d3, d4, d5, d6, d7, d8, d9, d10, d11, d12, d13⟩ := pOpd_inv w0.invJ w0.cur.vo
 have p0 := pJoin_pot 0 _ _ w0.invJ rfl
 have p1 := pJoin_all _ _ w0.invJ rfl
 have lT : s.T.length ≤ (pOpd { s with at_ := s.at_ + 1 }).T.length := by
  obtain ⟨T, h2⟩ := d12
  rw [h2]; simp
 have key : ((pOpd { s with at_ := s.at_ + 1 }).T.length : Int) + (sg (pOpd { s with at_ := s.at_ + 1 }).F : Nat) + ((pOpd { s with at_ := s.at_ + 1 }).f.signs.length : Nat) + 10 ≤ 10 * (pOpd { s with at_ := s.at_ + 1 }).at_ := by
  rw [d4, d5, d13]
  have e : (pOpd { s with at_ := s.at_ + 1 }).T = (Y0v 0 s.f.signs.length { s with at_ := s.at_ + 1 }).T := rfl
  rw [e]
  simp only at p0 ⊢
  omega
 refine ⟨⟨d1, ⟨?_, d2, ?_, ?_⟩, ?_, ?_, ?_, by omega, ?_, ?_, ?_, w.sz, w.r4, w.r0⟩, key⟩
 ·rw [d11]; exact fun i hi => by simp at hi
 ·rw [d10, d5]
  have := w.cur.no
  simp only [X4, Xh]; push_cast; omega
 ·rw [d7, d8, d9]; exact w.cur.c
 ·rw [d11, d13]; simp only at p1 ⊢; rw [p1]; rfl
 ·rw [d4, d5]; exact fun f hf => ⟨(w.out f hf).1.mono lT (by simp only; omega), (w.out f hf).2⟩
 ·rw [d4]; exact top_f w.top d6
 ·rw [d4, d5]; have := w.nF; simp only; omega
 ·rw [d5]; have := w.at0; simp only; omega
 ·rw [d5]; exact h
theorem W.close (w : W t s 0 r) (hF : s.F ≠ []) (op n : Int) (hp : (s.T.length : Int) + (sg s.F : Nat) + (s.f.signs.length : Nat) + 10 ≤ 10 * s.at_) : W t (pClose op n s) 1 3 := by
 obtain ⟨F', f', hF'⟩ := last_split hF
 have hd : s.F.dropLast = F' := by rw [hF']; simp
 have hg : s.F.getLast?.getD s.f = f' := by rw [hF']; simp
 have hf' := w.out f' (by rw [hF']; simp)
 have o1 := w.okT
 have hs : sg s.F = sg F' + f'.signs.length := by rw [hF', sg_app]
 unfold pClose
 rw [hd, hg]
 refine ⟨okT_add w.okT w.cur.vo, ⟨?_, ?_, ?_, hf'.1.c⟩, ?_, ?_, ?_, ?_, ?_, w.at0, w.at1, w.sz, by omega, by omega⟩
 ·intro i hi
  simp only [pTerm, pAdd, Xw, Xd] at hi
  simp only [pTerm, pAdd, X4, Xh]
  rcases hi with hi | rfl
  ·have := hf'.1.vt i hi; push_cast; omega
  ·push_cast; omega
 ·exact hf'.1.vo.mono (by simp [pTerm, pAdd])
 ·exact hf'.1.no
 ·have := hf'.2
  simp only [pTerm, pAdd, X4, Xh]; omega
 ·intro f hf
  have := w.out f (by rw [hF']; exact List.mem_append_left _ hf)
  exact ⟨this.1.mono (by simp [pTerm, pAdd]) (by simp [pTerm, pAdd]), this.2⟩
 ·refine top_f (f := f') ?_ rfl
  intro x hx
  refine w.top x ?_
  rw [hF', ← hx]
  show ((F' ++ [f']) ++ [s.f]).head? = (F' ++ [f']).head?
  cases F' <;> rfl
 ·simp only [pTerm, pAdd, X4, Xh]; push_cast; omega
 ·have := w.nF
  rw [hF', X4, Xh] at this
  simp only [pTerm, pAdd]; push_cast at this; omega
theorem W.row (w : W t s 1 r) {f' : Fr} {r' : Int} (h1 : f'.op = s.f.op) (h2 : f'.ops = s.f.ops) (h3 : f'.terms = s.f.terms) (h4 : f'.signs = s.f.signs) (hc : 0 ≤ f'.cols ∧ f'.cols ≤ 4 ∧ 0 ≤ f'.rows ∧ f'.rows ≤ r' ∧ 0 ≤ f'.ents ∧ f'.ents ≤ 3) (hr : r' ≤ 4) : W t { s with f := f' } 1 r' :=
 ⟨w.okT, ⟨by rw [h3]; exact w.cur.vt, by rw [h2]; exact w.cur.vo, by rw [h2]; exact w.cur.no, hc⟩, by rw [h3, h4]; exact w.len, w.out, top_f w.top h1, by rw [h4]; exact w.pot, w.nF, w.at0, w.at1, w.sz, hr, by omega⟩
end
section
variable {t : ByteArray} {s s' : Ps} {d : Nat} {r : Int}
theorem Y55 {b : Int} {u : Unit} (hb : b ≠ 0) (h : Y1z t b s = .ok s' u) : s' = { s with at_ := s.at_ + 1 } ∧ s.at_ < (t.size : Nat) := by
 unfold Y1z at h
 split at h
 ·rename_i hp
  simp only [Res.ok.injEq, and_true] at h
  exact ⟨h.symm, Y30 hp hb⟩
 ·cases h
theorem pFin_ok {c y : Int} (w : W t s 1 r) (hF : s.F ≠ []) (h1 : s.at_ < (t.size : Nat)) (hr : c = 41 ∨ r ≤ 3) (h : pFin c s = .ok s' y) : ((y = 0 ∧ W t s' 0 3) ∨ (y = 1 ∧ W t s' 1 3)) ∧ s'.at_ = s.at_ + 1 := by
 obtain ⟨w1, hp⟩ := w.opd (by omega)
 have w0 := w.adv (c := 1) (by omega) (by omega)
 obtain ⟨d1, d2, d3, d4, d5, d6, d7, d8, d9, d10, d11, d12, d13⟩ := pOpd_inv w0.invJ w0.cur.vo
 unfold pFin at h
 split at h
 ·simp only [Res.ok.injEq] at h
  rw [← h.1, ← h.2]
  exact ⟨.inr ⟨rfl, w1.close (by rw [d4]; exact hF) _ _ hp⟩, d5⟩
 ·rename_i hc
  simp only [Res.ok.injEq] at h
  rw [← h.1, ← h.2]
  refine ⟨.inl ⟨rfl, ?_⟩, d5⟩
  have r3 := hr.resolve_left hc
  have cc := w1.cur.c
  exact ⟨w1.okT, ⟨w1.cur.vt, w1.cur.vo, w1.cur.no, cc.1, cc.2.1, cc.2.2.1, by omega, cc.2.2.2.2⟩, w1.len, w1.out, w1.top, w1.pot, w1.nF, w1.at0, w1.at1, w1.sz, by omega, by omega⟩
theorem pMatrix_ok {y : Int} (w : W t s 1 3) (hF : s.F ≠ []) (h : Y1h t s = .ok s' y) : ((y = 0 ∧ W t s' 0 3) ∨ (y = 1 ∧ W t s' 1 3)) ∧ s.at_ < s'.at_ := by
 have cc := w.cur.c
 by_cases h1 : Yh t s = 44 ∧ s.f.ents + 1 < (if s.f.cols = 0 then 4 else s.f.cols)
 ·rw [Y1h, if_pos h1] at h
  have hlt := Y30 h1.1 (by omega)
  have he : s.f.ents + 1 ≤ 3 := by
   have := h1.2
   split at this <;> omega
  have := pFin_ok (s := { s with f := { s.f with ents := s.f.ents + 1 } }) (r := 3) (w.row rfl rfl rfl rfl (by simp only; omega) (by omega)) hF hlt (.inr (by omega)) h
  exact ⟨this.1, by have := this.2; simp only at this; omega⟩
 ·by_cases h2 : (Yh t s = 59 ∧ (s.f.cols = 0 ∨ s.f.ents + 1 = s.f.cols) ∧ s.f.rows + 1 < 4) ∨ (Yh t s = 41 ∧ (s.f.cols = 0 ∨ s.f.ents + 1 = s.f.cols))
  ·rw [Y1h, if_neg h1, if_pos h2] at h
   rcases h2 with ⟨p1, p2, p3⟩ | ⟨p1, p2⟩
   ·have := pFin_ok (r := 3) (w.row (f' := { s.f with cols := s.f.ents + 1, ents := 0, rows := s.f.rows + 1 }) rfl rfl rfl rfl (by simp only; omega) (by omega)) hF (Y30 p1 (by omega)) (.inr (by omega)) h
    exact ⟨this.1, by have := this.2; simp only at this; omega⟩
   ·have := pFin_ok (r := 4) (w.row (f' := { s.f with cols := s.f.ents + 1, ents := 0, rows := s.f.rows + 1 }) rfl rfl rfl rfl (by simp only; omega) (by omega)) hF (Y30 p1 (by omega)) (.inl p1) h
    exact ⟨this.1, by have := this.2; simp only at this; omega⟩
  ·rw [Y1h, if_neg h1, if_neg h2] at h
   cases h
theorem pSign_at (w : W t s 1 3) (op : Int) (h : s.at_ < (t.size : Nat)) : (pSign op s).at_ = s.at_ + 1 := by
 have w0 := w.adv (c := 1) (by omega) (by omega)
 exact (Y2r (prec op) _ _ w0.invJ rfl).2.2.1
theorem pFollow_ok {y : Int} (w : W t s 1 3) (h : Y11 t s = .ok s' y) : (y = 0 ∧ W t s' 0 3 ∧ s.at_ < s'.at_) ∨ (y = 1 ∧ W t s' 1 3 ∧ s.at_ < s'.at_) ∨ (y = 2 ∧ s' = s ∧ s.f.op = -1 ∧ ¬ s.at_ < (t.size : Nat)) := by
 have sgn : ∀ {op b : Int}, Yh t s = b → b ≠ 0 → Res.ok (pSign op s) 0 = Res.ok s' y → (y = 0 ∧ W t s' 0 3 ∧ s.at_ < s'.at_) ∨ (y = 1 ∧ W t s' 1 3 ∧ s.at_ < s'.at_) ∨ (y = 2 ∧ s' = s ∧ s.f.op = -1 ∧ ¬ s.at_ < (t.size : Nat)) := fun {op b} hp hb he => by
  have hlt := Y30 hp hb
  simp only [Res.ok.injEq] at he
  rw [← he.1, ← he.2]
  exact .inl ⟨rfl, w.sign op (by omega), by rw [pSign_at w op hlt]; omega⟩
 unfold Y11 at h
 split at h
 ·exact sgn (by assumption) (by omega) h
 ·split at h
  ·exact sgn (by assumption) (by omega) h
  ·split at h
   ·exact sgn (by assumption) (by omega) h
   ·split at h
    ·exact sgn (by assumption) (by omega) h
    ·split at h
     ·rename_i ho
      split at h
      ·cases h
      ·simp only [Res.ok.injEq] at h
       exact .inr (.inr ⟨h.2.symm, h.1.symm, ho, by assumption⟩)
     ·rename_i ho
      have hF : s.F ≠ [] := w.invF.top.resolve_left ho
      split at h
      ·have := pMatrix_ok w hF h
       rcases this with ⟨⟨a, b⟩ | ⟨a, b⟩, c⟩
       ·exact .inl ⟨a, b, c⟩
       ·exact .inr (.inl ⟨a, b, c⟩)
      ·split at h
       ·unfold pMore at h
        cases hE : Y1z t 44 s with
        | bad s1 => rw [hE] at h; cases h
        | ok s1 u =>
         obtain ⟨rfl, hlt⟩ := Y55 (by omega) hE
         rw [hE, Y07] at h
         simp only [Res.ok.injEq] at h
         have w0 := w.adv (c := 1) (by omega) (by omega)
         obtain ⟨d1, d2, d3, d4, d5, _⟩ := pOpd_inv w0.invJ w0.cur.vo
         rw [← h.1, ← h.2]
         exact .inl ⟨rfl, (w.opd (by omega)).1, by rw [d5]; simp only; omega⟩
       ·unfold pEnd at h
        cases hE : Y1z t 41 s with
        | bad s1 => rw [hE] at h; cases h
        | ok s1 u =>
         obtain ⟨rfl, hlt⟩ := Y55 (by omega) hE
         rw [hE, Y07] at h
         simp only [Res.ok.injEq] at h
         have w0 := w.adv (c := 1) (by omega) (by omega)
         obtain ⟨d1, d2, d3, d4, d5, _⟩ := pOpd_inv w0.invJ w0.cur.vo
         rw [← h.1, ← h.2]
         obtain ⟨w1, hp⟩ := w.opd (by omega)
         exact .inr (.inl ⟨rfl, w1.close (by rw [d4]; exact hF) _ _ hp, by show s.at_ < (pOpd { s with at_ := s.at_ + 1 }).at_; rw [d5]; simp only; omega⟩)
def Y36 (t : ByteArray) : Nat → Ps → Res Unit
 | 0, s => .bad s
 | k + 1, s =>
  if 48 ≤ Yh t s ∧ Yh t s ≤ 57 then (Y14 t s).bind fun s1 i => .ok (pTerm i s1) ()
  else if Yh t s = 40 then Y36 t k (pPush 10 { s with at_ := s.at_ + 1 })
  else if 97 ≤ Yh t s ∧ Yh t s ≤ 122 then (pWord t s).bind fun s1 op =>
   if op = 1 then .ok (pTerm (s1.T.length : Nat) (pAdd 1 (Yh t s - 97) [] s1)) () else if op = 12 then (pSum t s1).bind fun s2 i => .ok (pTerm i s2) () else Y36 t k (pPush op s1)
  else .bad s
theorem pNumber_adv {i : Int} (hp : 48 ≤ Yh t s ∧ Yh t s ≤ 57) (h : Y14 t s = .ok s' i) : s.at_ + 1 ≤ s'.at_ := by
 unfold Y14 at h
 split at h
 ·cases h
 ·simp only [Res.ok.injEq] at h
  rw [← h.1]
  show s.at_ + 1 ≤ (pDig t 5 0 0 s).2.2.at_
  rw [pDig, Vn]
  exact (pDig_ext t 4 _ _ { s with at_ := s.at_ + 1 }).2.2.2.1
theorem pSumL_ok : ∀ (k : Nat) (l l' : List Int) (s s' : Ps), OkT s.T → Val s.T l → pSumL t k l s = .ok s' l' → Ext s s' (6 * k) ∧ s'.T.length ≤ s.T.length + k ∧ Val s'.T l'
 | 0, l, l', s, s', hT, hv, h => by
  simp only [pSumL, Res.ok.injEq] at h
  rw [← h.1, ← h.2]
  exact ⟨(Ext.refl hT).mono (by omega), by omega, hv⟩
 | k + 1, l, l', s, s', hT, hv, h => by
  rw [pSumL] at h
  split at h
  ·cases hN : Y14 t { s with at_ := s.at_ + 1 } with
   | bad s1 => rw [hN] at h; cases h
   | ok s1 i =>
    rw [hN, Y07] at h
    obtain ⟨x1, x2, x3⟩ := Y2h (s := { s with at_ := s.at_ + 1 }) hT hN
    have e0 : Ext s { s with at_ := s.at_ + 1 } 1 := ⟨rfl, rfl, by simp only; omega, by simp only; omega, ⟨[], by simp, by simp⟩, hT⟩
    have v1 : Val s1.T (l ++ [i]) := fun j hj => by
     simp only [Xw, Xd] at hj
     simp only at x2 x3
     rcases hj with hj | rfl
     ·have := hv j hj; omega
     ·omega
    obtain ⟨y1, y2, y3⟩ := pSumL_ok k _ _ _ _ x1.ok v1 h
    simp only at x3
    exact ⟨((e0.trans x1).trans y1).mono (by push_cast; omega), by omega, y3⟩
  ·simp only [Res.ok.injEq] at h
   rw [← h.1, ← h.2]
   exact ⟨(Ext.refl hT).mono (by omega), by omega, hv⟩
theorem pSum_ok {i : Int} (hT : OkT s.T) (h : pSum t s = .ok s' i) : Ext s s' 40 ∧ 0 ≤ i ∧ i < (s'.T.length : Nat) ∧ s'.T.length ≤ s.T.length + 7 := by
 unfold pSum at h
 cases hN : Y14 t s with
 | bad s1 => rw [hN] at h; cases h
 | ok s1 i1 =>
  rw [hN, Y07] at h
  obtain ⟨x1, x2, x3⟩ := Y2h hT hN
  cases hL : pSumL t 4 [i1] s1 with
  | bad s2 => rw [hL] at h; cases h
  | ok s2 l =>
   rw [hL, Y07] at h
   obtain ⟨y1, y2, y3⟩ := pSumL_ok 4 _ _ _ _ x1.ok (fun j hj => by simp only [Xd] at hj; rw [hj]; omega) hL
   unfold pSumR at h
   split at h
   ·cases h
   ·cases hE : Y1z t 59 s2 with
    | bad s3 => rw [hE] at h; cases h
    | ok s3 u =>
     obtain ⟨rfl, hlt⟩ := Y55 (by omega) hE
     rw [hE, Y07] at h
     cases hM : Y14 t { s2 with at_ := s2.at_ + 1 } with
     | bad s4 => rw [hM] at h; cases h
     | ok s4 j =>
      rw [hM, Y07] at h
      obtain ⟨z1, z2, z3⟩ := Y2h (s := { s2 with at_ := s2.at_ + 1 }) y1.ok hM
      cases hX : Y1z t 41 s4 with
      | bad s5 => rw [hX] at h; cases h
      | ok s5 u5 =>
       obtain ⟨rfl, hlt5⟩ := Y55 (by omega) hX
       rw [hX, Y07] at h
       simp only [Res.ok.injEq] at h
       obtain ⟨h1, h2⟩ := h
       have e0 : Ext s2 { s2 with at_ := s2.at_ + 1 } 1 := ⟨rfl, rfl, by simp only; omega, by simp only; omega, ⟨[], by simp, by simp⟩, y1.ok⟩
       have v4 : Val s4.T (l ++ [j]) := fun i hi => by
        simp only [Xw, Xd] at hi
        simp only at z2 z3
        rcases hi with hi | rfl
        ·have := y3 i hi; omega
        ·omega
       have e5 : Ext s4 s' 1 := by
        rw [← h1]
        exact ⟨rfl, rfl, by simp only [pAdd]; omega, by simp only [pAdd]; omega, ⟨[_], rfl, by simp⟩, okT_add z1.ok v4⟩
       have len := e5.len
       have eT : s'.T.length = s4.T.length + 1 := by rw [← h1]; simp [pAdd]
       simp only at z3 h2
       exact ⟨((((x1.trans y1).trans e0).trans z1).trans e5).mono (by omega), by omega, by omega, by omega⟩
theorem pBegin_ok : ∀ (k : Nat) (s s' : Ps), W t s 0 3 → Y36 t k s = .ok s' () → W t s' 1 3 ∧ s.at_ < s'.at_
 | 0, s, s', w, h => by simp [Y36] at h
 | k + 1, s, s', w, h => by
  have wnF := w.nF
  rw [Y36] at h
  split at h
  ·rename_i hd
   have hlt := Y30 (t := t) (s := s) rfl (by omega)
   cases hN : Y14 t s with
   | bad s1 => rw [hN] at h; cases h
   | ok s1 i =>
    obtain ⟨x1, x2, x3⟩ := Y2h w.okT hN
    have x4 := pNumber_adv hd hN
    rw [hN, Y07] at h
    simp only [Res.ok.injEq, and_true] at h
    rw [← h]
    exact ⟨(w.ext x1 (by omega) (by have := x1.at1; omega)).term (by omega), by show s.at_ < s1.at_; omega⟩
  ·split at h
   ·rename_i h40
    have hlt := Y30 h40 (by omega)
    have := pBegin_ok k _ _ ((w.adv (c := 1) (by omega) (by omega)).push 10 (by simp only; omega)) h
    exact ⟨this.1, by have := this.2; simp only [pPush] at this; omega⟩
   ·split at h
    ·rename_i hz
     have hlt := Y30 (t := t) (s := s) rfl (by omega)
     cases hW : pWord t s with
     | bad s1 => rw [hW] at h; cases h
     | ok s1 op =>
      rw [hW, Y07] at h
      obtain ⟨c, rfl, c1, c7, hop⟩ := pWordL_ok t opsW (fun _ h => h) s s1 op hW
      have w1 := w.adv (c := (c : Int)) (by omega) (by omega)
      split at h
      ·simp only [Res.ok.injEq, and_true] at h
       rw [← h]
       have e : Ext { s with at_ := s.at_ + (c : Int) } (pAdd 1 (Yh t s - 97) [] { s with at_ := s.at_ + (c : Int) }) 1 := ⟨rfl, rfl, by simp only [pAdd]; omega, by simp only [pAdd]; omega, ⟨[_], rfl, by simp⟩, okT_add w.okT (fun i hi => by simp at hi)⟩
       have w2 : W t (pAdd 1 (Yh t s - 97) [] { s with at_ := s.at_ + (c : Int) }) 0 3 := w.ext (s' := pAdd 1 (Yh t s - 97) [] { s with at_ := s.at_ + (c : Int) }) (c := c + 1)
        ⟨rfl, rfl, by simp only [pAdd]; omega, by simp only [pAdd]; omega, ⟨[_], rfl, by simp; omega⟩, okT_add w.okT (fun i hi => by simp at hi)⟩ (by simp only [pAdd, X4, Xh]; push_cast; omega) (by simp only [pAdd]; omega)
       exact ⟨w2.term (by simp only [pAdd, X4, Xh]; push_cast; omega), by simp only [pTerm, pAdd]; omega⟩
      ·split at h
       ·rename_i h1 h12
        cases hS : pSum t { s with at_ := s.at_ + (c : Int) } with
        | bad s2 => rw [hS] at h; cases h
        | ok s2 i =>
         rw [hS, Y07] at h
         simp only [Res.ok.injEq, and_true] at h
         rw [← h]
         obtain ⟨y1, y2, y3, y4⟩ := pSum_ok (s := { s with at_ := s.at_ + (c : Int) }) w.okT hS
         have a0 := y1.at0
         have a1 := y1.at1
         simp only at a0 a1 y4
         have e0 : Ext s { s with at_ := s.at_ + (c : Int) } c := ⟨rfl, rfl, by simp only; omega, by simp only; omega, ⟨[], by simp, by simp⟩, w.okT⟩
         exact ⟨(w.ext (e0.trans y1) (by omega) (by omega)).term ⟨y2, y3⟩, by show s.at_ < s2.at_; omega⟩
       ·have := pBegin_ok k _ _ (w1.push op (by simp only; omega)) h
        exact ⟨this.1, by have := this.2; simp only [pPush] at this; omega⟩
    ·cases h
end
end Go.Proofs.YtkgfbpbndmklnaaDoor
