/- Own work. -/
import Derived.Test.YtkgfbpbndmklnaaDoorFmX
import Derived.Test.YtkgfbpbndmklnaaDoorPrB
import Derived.Test.YtkgfbpbndmklnaaDoorPrP
set_option linter.unusedSimpArgs false
set_option linter.unusedVariables false
namespace Go.Proofs.YtkgfbpbndmklnaaDoor
open Go.Abs
def Yd (t : ByteArray) (i : Int) : Int := if i < (t.size : Nat) then Y1q t i else 0
inductive Lf (α : Type) where
 | ok (a : α) (j : Int)
 | bad (j : Int)
def Lf.bind {α β : Type} : Lf α → (α → Int → Lf β) → Lf β
 | .ok a j, k => k a j
 | .bad j, _ => .bad j
def dg (t : ByteArray) : Nat → Int → Int → Int → Int × Int × Int
 | 0, n, d, i => (n, d, i)
 | k + 1, n, d, i => if Yd t i < 48 ∨ 57 < Yd t i ∨ (0 < d ∧ n = 0) then (n, d, i) else dg t k (10 * n + (Yd t i - 48)) (d + 1) (i + 1)
def qNum (t : ByteArray) (i : Int) : Lf Tr := if (dg t 5 0 0 i).2.1 = 0 then .bad (dg t 5 0 0 i).2.2 else .ok (.node ⟨0, (dg t 5 0 0 i).1⟩ []) (dg t 5 0 0 i).2.2
def qWant (t : ByteArray) (b i : Int) : Lf Unit := if Yd t i = b then .ok () (i + 1) else .bad i
def qSumL (t : ByteArray) : Nat → List Tr → Int → Lf (List Tr)
 | 0, l, i => .ok l i
 | k + 1, l, i => if Yd t i = 44 then (qNum t (i + 1)).bind fun x j => qSumL t k (l ++ [x]) j else .ok l i
def qSumR (t : ByteArray) (l : List Tr) (i : Int) : Lf Tr :=
 if l.length < 2 then .bad i else (qWant t 59 i).bind fun _ j => (qNum t j).bind fun x j => (qWant t 41 j).bind fun _ j => .ok (.node ⟨12, (l.length : Nat)⟩ (l ++ [x])) j
def qSum (t : ByteArray) (i : Int) : Lf Tr := (qNum t i).bind fun x j => (qSumL t 4 [x] j).bind fun l j => qSumR t l j
def qName (t n : ByteArray) : Nat → Int → Lf Unit
 | 0, i => .ok () i
 | k + 1, i => (qWant t (Y1q n ((n.size - (k + 1) : Nat) : Int)) i).bind fun _ j => qName t n k j
def Y54 (t : ByteArray) : List Int → Int → Lf Int
 | [], i => .ok 1 (i + 1)
 | op :: l, i => if Yd t i = Y1q (Y0q op) 0 ∧ i + 1 < (t.size : Nat) ∧ Y1q t (i + 1) = Y1q (Y0q op) 1 then (qName t (Y0q op) (Y0q op).size i).bind fun _ j => (qWant t 40 j).bind fun _ j => .ok op j else Y54 t l i
def qWord (t : ByteArray) (i : Int) : Lf Int := Y54 t opsW i
structure Qf where
 op : Int
 ops : List Tr
 ts : List Tr
 ss : List Int
 cols : Int
 rows : Int
 ents : Int
structure Qs where
 at_ : Int
 F : List Qf
 f : Qf
inductive QR where
 | bad (j : Int)
 | go (y : Int) (q : Qs)
def noTr : Tr := .node ⟨0, 0⟩ []
def mkB (o : Int) : List Tr → List Tr
 | x2 :: x1 :: ts => .node ⟨o, 0⟩ [x1, x2] :: ts
 | ts => ts
def qJ (m : Int) : List Int → List Tr → List Tr × List Int
 | [], ts => (ts, [])
 | o :: ss, ts => if m ≤ prec o then qJ m ss (mkB o ts) else (ts, o :: ss)
def qTerm (x : Tr) (j : Int) (q : Qs) : Qs := ⟨j, q.F, { q.f with ts := x :: q.f.ts }⟩
def qPush (op j : Int) (q : Qs) : Qs := ⟨j, q.f :: q.F, ⟨op, [], [], [], 0, 0, 0⟩⟩
def qLf (q : Qs) : Lf Tr → QR
 | .bad j => .bad j
 | .ok x j => .go 1 (qTerm x j q)
def qOp (t : ByteArray) (q : Qs) : Lf Int → QR
 | .bad j => .bad j
 | .ok op j => if op = 1 then .go 1 (qTerm (.node ⟨1, Yd t q.at_ - 97⟩ []) j q) else if op = 12 then qLf q (qSum t j) else .go 0 (qPush op j q)
def qBegin (t : ByteArray) (q : Qs) : QR :=
 if 48 ≤ Yd t q.at_ ∧ Yd t q.at_ ≤ 57 then qLf q (qNum t q.at_)
 else if Yd t q.at_ = 40 then .go 0 (qPush 10 (q.at_ + 1) q)
 else if 97 ≤ Yd t q.at_ ∧ Yd t q.at_ ≤ 122 then qOp t q (qWord t q.at_)
 else .bad q.at_
def opOf (b : Int) : Option Int := if b = 43 then some 2 else if b = 45 then some 3 else if b = 42 then some 4 else if b = 61 then some 5 else none
def qSign (op : Int) (q : Qs) : Qs := ⟨q.at_ + 1, q.F, { q.f with ts := (qJ (prec op) q.f.ss q.f.ts).1, ss := op :: (qJ (prec op) q.f.ss q.f.ts).2 }⟩
def qOpI (q : Qs) : Tr := (qJ 0 q.f.ss q.f.ts).1.headD noTr
def qOpd (q : Qs) : Qs := ⟨q.at_ + 1, q.F, { q.f with ops := q.f.ops ++ [qOpI q], ts := [], ss := [] }⟩
def qClose (op n : Int) (q : Qs) : Qs :=
 match q.F with
 | [] => q
 | f :: F => ⟨q.at_, F, { f with ts := .node ⟨op, n⟩ q.f.ops :: f.ts }⟩
def qFin (c : Int) (q : Qs) : QR := if c = 41 then .go 1 (qClose 13 (8 * q.f.rows + q.f.cols) (qOpd q)) else .go 0 (qOpd q)
def qMatrix (t : ByteArray) (q : Qs) : QR :=
 if Yd t q.at_ = 44 ∧ q.f.ents + 1 < (if q.f.cols = 0 then 4 else q.f.cols) then qFin (Yd t q.at_) { q with f := { q.f with ents := q.f.ents + 1 } }
 else if (Yd t q.at_ = 59 ∧ (q.f.cols = 0 ∨ q.f.ents + 1 = q.f.cols) ∧ q.f.rows + 1 < 4) ∨ (Yd t q.at_ = 41 ∧ (q.f.cols = 0 ∨ q.f.ents + 1 = q.f.cols)) then qFin (Yd t q.at_) { q with f := { q.f with cols := q.f.ents + 1, ents := 0, rows := q.f.rows + 1 } }
 else .bad q.at_
def qRest (t : ByteArray) (q : Qs) : QR :=
 if q.f.op = -1 then (if q.at_ < (t.size : Nat) then .bad q.at_ else .go 2 q)
 else if q.f.op = 13 then qMatrix t q
 else if ((q.f.ops.length : Nat) : Int) + 1 < pNeed q.f.op then (if Yd t q.at_ = 44 then .go 0 (qOpd q) else .bad q.at_)
 else (if Yd t q.at_ = 41 then .go 1 (qClose q.f.op 0 (qOpd q)) else .bad q.at_)
def qFollow (t : ByteArray) (q : Qs) : QR :=
 match opOf (Yd t q.at_) with
 | some o => .go 0 (qSign o q)
 | none => qRest t q
inductive Fin' where
 | bad (j : Int)
 | ok (x : Tr)
inductive Gs (t : ByteArray) : Int → Qs → Fin' → Prop where
 | b0 {q : Qs} {j : Int} : qBegin t q = .bad j → Gs t 0 q (.bad j)
 | b1 {q q' : Qs} {y : Int} {r : Fin'} : qBegin t q = .go y q' → Gs t y q' r → Gs t 0 q r
 | f0 {q : Qs} {j : Int} : qFollow t q = .bad j → Gs t 1 q (.bad j)
 | f1 {q q' : Qs} {y : Int} {r : Fin'} : qFollow t q = .go y q' → Gs t y q' r → Gs t 1 q r
 | e {q : Qs} : q.F = [] → q.f.ops = [] → Gs t 2 q (.ok (qOpI q))
inductive Rr where
 | ok (l : List Tr) (j : Int)
 | err (j : Int)
 | out
def Rr.bind : Rr → (List Tr → Int → Rr) → Rr
 | .ok l j, k => k l j
 | .err j, _ => .err j
 | .out, _ => .out
inductive Tk where
 | E (p i : Int)
 | L (p : Int) (l : List Tr) (j : Int)
 | A (i : Int)
 | M (l : List Tr) (c r e j : Int)
def ofLf : Lf Tr → Rr
 | .ok x j => .ok [x] j
 | .bad j => .err j
def Y2z (t : ByteArray) (op : Int) (l : List Tr) (j : Int) : Rr := if Yd t j = 41 then .ok [.node ⟨op, 0⟩ l] (j + 1) else .err j
def rd (t : ByteArray) : Nat → Tk → Rr
 | 0, _ => .out
 | k + 1, .E p i => (rd t k (.A i)).bind fun l j => rd t k (.L p l j)
 | k + 1, .L p l j =>
  match opOf (Yd t j) with
  | some o => if p ≤ prec o then (rd t k (.E (prec o + 1) (j + 1))).bind fun l2 j2 => rd t k (.L p [.node ⟨o, 0⟩ (l ++ l2)] j2) else .ok l j
  | none => .ok l j
 | k + 1, .A i =>
  if 48 ≤ Yd t i ∧ Yd t i ≤ 57 then ofLf (qNum t i)
  else if Yd t i = 40 then (rd t k (.E 1 (i + 1))).bind fun l j => Y2z t 10 l j
  else if 97 ≤ Yd t i ∧ Yd t i ≤ 122 then
   match qWord t i with
   | .bad j => .err j
   | .ok op j =>
    if op = 1 then .ok [.node ⟨1, Yd t i - 97⟩ []] j else if op = 12 then ofLf (qSum t j)
    else (rd t k (.E 1 j)).bind fun l j =>
     if op = 13 then rd t k (.M l 0 0 0 j)
     else if pNeed op = 2 then (if Yd t j = 44 then (rd t k (.E 1 (j + 1))).bind fun l2 j => Y2z t op (l ++ l2) j else .err j)
     else Y2z t op l j
  else .err i
 | k + 1, .M l c r e j =>
  if Yd t j = 44 ∧ e + 1 < (if c = 0 then 4 else c) then (rd t k (.E 1 (j + 1))).bind fun l2 j => rd t k (.M (l ++ l2) c r (e + 1) j)
  else if Yd t j = 59 ∧ (c = 0 ∨ e + 1 = c) ∧ r + 1 < 4 then (rd t k (.E 1 (j + 1))).bind fun l2 j => rd t k (.M (l ++ l2) (e + 1) (r + 1) 0 j)
  else if Yd t j = 41 ∧ (c = 0 ∨ e + 1 = c) then .ok [.node ⟨13, 8 * (r + 1) + (e + 1)⟩ l] (j + 1)
  else .err j
def HD (ss : List Int) (p : Int) : Prop := ∀ o, ss.head? = some o → prec o < p
section
variable {t : ByteArray} {m i j op : Int} {l : List Int} {T T' : List Tn} {k : Nat} {q : Qs} {x : Tr}
theorem qJ_stop {ss : List Int} (h : HD ss m) (ts : List Tr) : qJ m ss ts = (ts, ss) := by
 cases ss with
 | nil => rfl
 | cons o ss => have := h o rfl; rw [qJ, Vn]
theorem qJ_qJ {m' : Int} (h : m ≤ m') : ∀ (ss : List Int) (ts : List Tr), qJ m (qJ m' ss ts).2 (qJ m' ss ts).1 = qJ m ss ts
 | [], ts => rfl
 | o :: ss, ts => by
  by_cases h1 : m' ≤ prec o
  ·rw [qJ, if_pos h1, qJ_qJ h ss, qJ, Vp]
  ·rw [qJ, if_neg h1]
theorem qJ_of {m' : Int} (h : m ≤ m') {ss ss' : List Int} {ts ts' : List Tr} (e : qJ m' ss ts = (ts', ss')) : qJ m ss ts = qJ m ss' ts' := by
 rw [← qJ_qJ h ss ts, e]
theorem prec_one (o : Int) : 1 ≤ prec o ∧ prec o ≤ 4 := by
 unfold prec
 repeat' split
 all_goals omega
theorem opOf_prec {b o : Int} (h : opOf b = some o) : prec o ≤ 3 := by
 unfold opOf at h
 repeat' split at h
 all_goals cases h
 all_goals decide
theorem rd_nextL (t : ByteArray) : ∀ (k : Nat) (p : Int) (l : List Tr) (j : Int) (l' : List Tr) (j' : Int), rd t k (.L p l j) = .ok l' j' → ∀ o, opOf (Yd t j') = some o → prec o < p
 | 0, _, _, _, _, _, h => by cases h
 | k + 1, p, l, j, l', j', h => by
  rw [rd] at h
  split at h
  ·next o ho =>
   split at h
   ·cases hE : rd t k (.E (prec o + 1) (j + 1)) with
    | out => rw [hE] at h; cases h
    | err n => rw [hE] at h; cases h
    | ok l2 j2 => rw [hE] at h; exact rd_nextL t k _ _ _ _ _ h
   ·next hp =>
    cases h
    intro o' h'
    rw [ho] at h'
    cases h'
    omega
  ·next ho =>
   cases h
   intro o' h'
   rw [ho] at h'
   cases h'
theorem rd_next {p : Int} {l : List Tr} (h : rd t k (.E p i) = .ok l j) : ∀ o, opOf (Yd t j) = some o → prec o < p := by
 cases k with
 | zero => cases h
 | succ k =>
  rw [rd] at h
  cases hA : rd t k (.A i) with
  | out => rw [hA] at h; cases h
  | err n => rw [hA] at h; cases h
  | ok l2 j2 => rw [hA] at h; exact rd_nextL t k _ _ _ _ _ h
theorem rd_none {l : List Tr} (h : rd t k (.E 1 i) = .ok l j) : opOf (Yd t j) = none := by
 cases ho : opOf (Yd t j) with
 | none => rfl
 | some o => have := rd_next h o ho; have := prec_one o; omega
def OkE (t : ByteArray) (p : Int) (q : Qs) (ts : List Tr) (ss : List Int) (y : Int) : Rr → Prop
 | .out => True
 | .err n => Gs t y q (.bad n)
 | .ok l j => ∃ x, l = [x] ∧ ∀ r, (∀ us rs, qJ p rs us = (x :: ts, ss) → Gs t 1 ⟨j, q.F, { q.f with ts := us, ss := rs }⟩ r) → Gs t y q r
def OkA (t : ByteArray) (q q' : Qs) (y : Int) : Rr → Prop
 | .out => True
 | .err n => Gs t y q (.bad n)
 | .ok l j => ∃ x, l = [x] ∧ ∀ r, Gs t 1 (qTerm x j q') r → Gs t y q r
structure Spec (t : ByteArray) (k : Nat) : Prop where
 e : ∀ (p : Int) (q : Qs), 1 ≤ p → HD q.f.ss p → p ≤ 4 → OkE t p q q.f.ts q.f.ss 0 (rd t k (.E p q.at_))
 l : ∀ (p q0 : Int) (x : Tr) (q : Qs) (ts : List Tr) (ss : List Int), 1 ≤ p → HD ss p → p ≤ q0 → (∀ m, p ≤ m → m ≤ q0 → qJ m q.f.ss q.f.ts = (x :: ts, ss)) → (∀ o, opOf (Yd t q.at_) = some o → prec o ≤ q0) → OkE t p q ts ss 1 (rd t k (.L p [x] q.at_))
 a : ∀ q : Qs, OkA t q q 0 (rd t k (.A q.at_))
 m : ∀ (q : Qs) (x : Tr) (f : Qf) (F : List Qf), q.f.op = 13 → q.F = f :: F → qJ 0 q.f.ss q.f.ts = ([x], []) → opOf (Yd t q.at_) = none → OkA t q ⟨0, F, f⟩ 1 (rd t k (.M (q.f.ops ++ [x]) q.f.cols q.f.rows q.f.ents q.at_))
theorem follow_none (h : opOf (Yd t q.at_) = none) : qFollow t q = qRest t q := by rw [qFollow, h]
theorem qOpI_of (h : qJ 0 q.f.ss q.f.ts = ([x], [])) : qOpI q = x := by rw [qOpI, h]; rfl
theorem s_close {f : Qf} {F : List Qf} (h1 : q.f.op ≠ -1) (h2 : q.f.op ≠ 13) (h3 : ¬ ((q.f.ops.length : Nat) : Int) + 1 < pNeed q.f.op) (hF : q.F = f :: F) (hx : qJ 0 q.f.ss q.f.ts = ([x], [])) (hn : opOf (Yd t q.at_) = none) :
  OkA t q ⟨0, F, f⟩ 1 (Y2z t q.f.op (q.f.ops ++ [x]) q.at_) := by
 have e := follow_none hn
 rw [qRest, if_neg h1, if_neg h2, if_neg h3] at e
 rw [Y2z]
 split at e
 ·next hc =>
  rw [if_pos hc]
  refine ⟨_, rfl, fun r hr => .f1 e ?_⟩
  have : qClose q.f.op 0 (qOpd q) = qTerm (.node ⟨q.f.op, 0⟩ (q.f.ops ++ [x])) (q.at_ + 1) ⟨0, F, f⟩ := by
   rw [qClose, qOpd]
   simp only [hF, qOpI_of hx]
   rfl
  rw [this]; exact hr
 ·next hc => rw [if_neg hc]; exact .f0 e
theorem qJ_one {us : List Tr} {rs : List Int} (h : qJ 1 rs us = ([x], [])) : qJ 0 rs us = ([x], []) := by rw [qJ_of (by omega) h]; rfl
theorem spec_e (S : Spec t k) (p : Int) (q : Qs) (h1 : 1 ≤ p) (hd : HD q.f.ss p) (h4 : p ≤ 4) : OkE t p q q.f.ts q.f.ss 0 (rd t (k + 1) (.E p q.at_)) := by
 rw [rd]
 have a := S.a q
 cases hA : rd t k (.A q.at_) with
 | out => trivial
 | err n => rw [hA] at a; exact a
 | ok l j =>
  rw [hA] at a
  obtain ⟨x, rfl, c⟩ := a
  have b := S.l p 4 x (qTerm x j q) q.f.ts q.f.ss h1 hd h4 (fun m hm _ => qJ_stop (fun o ho => by have := hd o ho; omega) _) (fun o ho => by have := opOf_prec ho; omega)
  show OkE t p q q.f.ts q.f.ss 0 (rd t k (.L p [x] j))
  rw [show (qTerm x j q).at_ = j from rfl] at b
  cases hL : rd t k (.L p [x] j) with
  | out => trivial
  | err n => rw [hL] at b; exact c _ b
  | ok l2 j2 =>
   rw [hL] at b
   obtain ⟨x2, rfl, d⟩ := b
   exact ⟨x2, rfl, fun r hr => c _ (d r hr)⟩
theorem spec_l (S : Spec t k) (p q0 : Int) (x : Tr) (q : Qs) (ts : List Tr) (ss : List Int) (h1 : 1 ≤ p) (hd : HD ss p) (h4 : p ≤ q0) (hj : ∀ m, p ≤ m → m ≤ q0 → qJ m q.f.ss q.f.ts = (x :: ts, ss)) (ho : ∀ o, opOf (Yd t q.at_) = some o → prec o ≤ q0) :
  OkE t p q ts ss 1 (rd t (k + 1) (.L p [x] q.at_)) := by
 have fin : OkE t p q ts ss 1 (.ok [x] q.at_) := ⟨x, rfl, fun r hr => hr q.f.ts q.f.ss (hj p (by omega) h4)⟩
 rw [rd]
 cases hO : opOf (Yd t q.at_) with
 | none => exact fin
 | some o =>
  have o1 := ho o hO
  have o3 := opOf_prec hO
  simp only []
  split
  ·next hp =>
   have fo : qFollow t q = .go 0 (qSign o q) := by rw [qFollow, hO]
   have es : qSign o q = ⟨q.at_ + 1, q.F, { q.f with ts := x :: ts, ss := o :: ss }⟩ := by rw [qSign, hj _ hp o1]
   have e := S.e (prec o + 1) (qSign o q) (by omega) (by rw [es]; intro o' h'; simp at h'; subst h'; omega) (by omega)
   have ea : (qSign o q).at_ = q.at_ + 1 := rfl
   rw [ea] at e
   cases hE : rd t k (.E (prec o + 1) (q.at_ + 1)) with
   | out => trivial
   | err n => rw [hE] at e; exact .f1 fo e
   | ok l2 j2 =>
    have nx := rd_next hE
    rw [hE] at e
    obtain ⟨x2, rfl, c⟩ := e
    rw [es] at c
    show OkE t p q ts ss 1 (rd t k (.L p [.node ⟨o, 0⟩ [x, x2]] j2))
    have step : ∀ (us : List Tr) (rs : List Int), qJ (prec o + 1) rs us = (x2 :: x :: ts, o :: ss) → OkE t p ⟨j2, q.F, { q.f with ts := us, ss := rs }⟩ ts ss 1 (rd t k (.L p [.node ⟨o, 0⟩ [x, x2]] j2)) := fun us rs hr => by
     have := S.l p (prec o) (.node ⟨o, 0⟩ [x, x2]) ⟨j2, q.F, { q.f with ts := us, ss := rs }⟩ ts ss h1 hd hp (fun m hm hm2 => by
      show qJ m rs us = _
      rw [qJ_of (by omega) hr, qJ, if_pos hm2, mkB]
      exact qJ_stop (fun o' h' => by have := hd o' h'; omega) _) (fun o' h' => by have := nx o' h'; omega)
     exact this
    cases hL : rd t k (.L p [.node ⟨o, 0⟩ [x, x2]] j2) with
    | out => trivial
    | err n =>
     refine .f1 fo ?_
     rw [es]
     exact c _ fun us rs hr => by have := step us rs hr; rw [hL] at this; exact this
    | ok l3 j3 =>
     have s0 := step (x2 :: x :: ts) (o :: ss) (qJ_stop (fun o' h' => by simp at h'; subst h'; omega) _)
     rw [hL] at s0
     obtain ⟨x3, rfl, _⟩ := s0
     refine ⟨x3, rfl, fun r hr => .f1 fo ?_⟩
     rw [es]
     refine c _ fun us rs hu => ?_
     have s1 := step us rs hu
     rw [hL] at s1
     obtain ⟨x4, h4', d⟩ := s1
     cases h4'
     exact d r hr
  ·exact fin
theorem OkA.pre {q1 q' : Qs} {y y1 : Int} (h : ∀ r, Gs t y1 q1 r → Gs t y q r) : ∀ {R : Rr}, OkA t q1 q' y1 R → OkA t q q' y R
 | .out, _ => trivial
 | .err _, a => h _ a
 | .ok _ _, a => by
  obtain ⟨x, e, c⟩ := a
  exact ⟨x, e, fun r hr => h r (c r hr)⟩
theorem s_arg (S : Spec t k) {q1 q' : Qs} (h1 : q1.f.ss = []) (h2 : q1.f.ts = []) {K : List Tr → Int → Rr}
  (hK : ∀ x j us rs, qJ 0 rs us = ([x], []) → opOf (Yd t j) = none → OkA t ⟨j, q1.F, { q1.f with ts := us, ss := rs }⟩ q' 1 (K [x] j)) : OkA t q1 q' 0 ((rd t k (.E 1 q1.at_)).bind K) := by
 have e := S.e 1 q1 (by omega) (by rw [h1]; intro o ho; cases ho) (by omega)
 cases hE : rd t k (.E 1 q1.at_) with
 | out => trivial
 | err n => rw [hE] at e; exact e
 | ok l j =>
  have hn := rd_none hE
  rw [hE, h1, h2] at e
  obtain ⟨x, rfl, c⟩ := e
  show OkA t q1 q' 0 (K [x] j)
  cases hR : K [x] j with
  | out => trivial
  | err n => exact c _ fun us rs hu => by have := hK x j us rs (qJ_one hu) hn; rw [hR] at this; exact this
  | ok l2 j2 =>
   have a0 := hK x j [x] [] rfl hn
   rw [hR] at a0
   obtain ⟨x2, rfl, _⟩ := a0
   refine ⟨x2, rfl, fun r hr => c _ fun us rs hu => ?_⟩
   have a1 := hK x j us rs (qJ_one hu) hn
   rw [hR] at a1
   obtain ⟨x3, e3, d⟩ := a1
   cases e3
   exact d r hr
theorem qWordL_mem : ∀ (l : List Int) (i op j : Int), Y54 t l i = .ok op j → op = 1 ∨ op ∈ l
 | [], i, op, j, h => by rw [Y54] at h; cases h; exact .inl rfl
 | o :: l, i, op, j, h => by
  rw [Y54] at h
  split at h
  ·cases h1 : qName t (Y0q o) (Y0q o).size i with
   | bad n => rw [h1] at h; cases h
   | ok u j1 =>
    rw [h1] at h
    simp only [Lf.bind] at h
    cases h2 : qWant t 40 j1 with
    | bad n => rw [h2] at h; cases h
    | ok u j2 => rw [h2] at h; cases h; exact .inr (by simp)
  ·rcases qWordL_mem l i op j h with h | h
   ·exact .inl h
   ·exact .inr (by simp [h])
theorem qWord_mem (h : qWord t i = .ok op j) : op = 1 ∨ op = 6 ∨ op = 7 ∨ op = 8 ∨ op = 9 ∨ op = 11 ∨ op = 12 ∨ op = 13 := by
 have := qWordL_mem _ _ _ _ h
 simp only [opsW, X00, X09, or_false] at this
 exact this
theorem qLf_ok {x : Lf Tr} (h : qBegin t q = qLf q x) : OkA t q q 0 (ofLf x) := by
 cases x with
 | bad j => exact .b0 h
 | ok x j => exact ⟨x, rfl, fun r hr => .b1 h hr⟩
theorem pNeed_two {op : Int} : pNeed op = 1 ∨ pNeed op = 2 := by
 unfold pNeed
 repeat' split
 all_goals simp
theorem spec_a (S : Spec t k) (q : Qs) : OkA t q q 0 (rd t (k + 1) (.A q.at_)) := by
 rw [rd]
 have b : qBegin t q = qBegin t q := rfl
 conv at b => rhs; rw [qBegin]
 split
 ·next h => rw [if_pos h] at b; exact qLf_ok b
 ·next h =>
  rw [if_neg h] at b
  split
  ·next h => 
   rw [if_pos h] at b
   refine OkA.pre (fun r hr => .b1 b hr) (s_arg S (q1 := qPush 10 (q.at_ + 1) q) rfl rfl fun x j us rs hu hn => ?_)
   exact s_close (q := ⟨j, q.f :: q.F, ⟨10, [], us, rs, 0, 0, 0⟩⟩) (by show (10 : Int) ≠ -1; decide) (by show (10 : Int) ≠ 13; decide) (by show ¬ ((0 : Nat) : Int) + 1 < pNeed 10; decide) rfl hu hn
  ·next h =>
   rw [if_neg h] at b
   split
   ·next h =>
    rw [if_pos h] at b
    cases hW : qWord t q.at_ with
    | bad n => rw [hW] at b; exact .b0 b
    | ok op j =>
     have hm := qWord_mem hW
     rw [hW, qOp] at b
     simp only []
     split
     ·next h1 => rw [if_pos h1] at b; exact ⟨_, rfl, fun r hr => .b1 b hr⟩
     ·next h1 =>
      rw [if_neg h1] at b
      split
      ·next h2 => rw [if_pos h2] at b; exact qLf_ok b
      ·next h2 =>
       rw [if_neg h2] at b
       refine OkA.pre (fun r hr => .b1 b hr) (s_arg S (q1 := qPush op j q) rfl rfl fun x j us rs hu hn => ?_)
       split
       ·next h3 => subst h3; exact S.m ⟨j, q.f :: q.F, ⟨13, [], us, rs, 0, 0, 0⟩⟩ x q.f q.F rfl rfl hu hn
       ·next h3 =>
        split
        ·next h4 =>
         have fo : qFollow t ⟨j, q.f :: q.F, ⟨op, [], us, rs, 0, 0, 0⟩⟩ = _ := follow_none hn
         rw [qRest, if_neg (by show ¬ op = -1; omega), if_neg h3, if_pos (by show ((0 : Nat) : Int) + 1 < pNeed op; omega)] at fo
         split
         ·next h5 =>
          rw [if_pos h5] at fo
          refine OkA.pre (fun r hr => .f1 fo hr) (s_arg S (q1 := qOpd ⟨j, q.f :: q.F, ⟨op, [], us, rs, 0, 0, 0⟩⟩) rfl rfl fun x2 j2 us2 rs2 hu2 hn2 => ?_)
          have eo : qOpI ⟨j, q.f :: q.F, ⟨op, [], us, rs, 0, 0, 0⟩⟩ = x := qOpI_of hu
          have := s_close (t := t) (q := ⟨j2, q.f :: q.F, ⟨op, [x], us2, rs2, 0, 0, 0⟩⟩) (by show op ≠ -1; omega) h3 (by show ¬ ((1 : Nat) : Int) + 1 < pNeed op; omega) rfl hu2 hn2
          rw [qOpd, eo]
          exact this
         ·next h5 => rw [if_neg h5] at fo; exact .f0 fo
        ·next h4 =>
         exact s_close (q := ⟨j, q.f :: q.F, ⟨op, [], us, rs, 0, 0, 0⟩⟩) (by show op ≠ -1; omega) h3 (by show ¬ ((0 : Nat) : Int) + 1 < pNeed op; have := @pNeed_two op; omega) rfl hu hn
   ·next h => rw [if_neg h] at b; exact .b0 b
theorem spec_m (S : Spec t k) (q : Qs) (x : Tr) (f : Qf) (F : List Qf) (h13 : q.f.op = 13) (hF : q.F = f :: F) (hx : qJ 0 q.f.ss q.f.ts = ([x], [])) (hn : opOf (Yd t q.at_) = none) :
  OkA t q ⟨0, F, f⟩ 1 (rd t (k + 1) (.M (q.f.ops ++ [x]) q.f.cols q.f.rows q.f.ents q.at_)) := by
 have fo := follow_none hn
 rw [qRest, Vn, if_pos h13, qMatrix] at fo
 have nxt : ∀ c r e : Int, OkA t (qOpd { q with f := { q.f with cols := c, rows := r, ents := e } }) ⟨0, F, f⟩ 0 ((rd t k (.E 1 (q.at_ + 1))).bind fun l2 j => rd t k (.M (q.f.ops ++ [x] ++ l2) c r e j)) := fun c r e => by
  refine s_arg S (q1 := qOpd { q with f := { q.f with cols := c, rows := r, ents := e } }) rfl rfl fun x2 j2 us rs hu hn2 => ?_
  have eo : qOpI { q with f := { q.f with cols := c, rows := r, ents := e } } = x := qOpI_of hx
  have := S.m ⟨j2, q.F, ⟨q.f.op, q.f.ops ++ [x], us, rs, c, r, e⟩⟩ x2 f F h13 hF hu hn2
  rw [qOpd, eo]
  exact this
 rw [rd]
 by_cases h : Yd t q.at_ = 44 ∧ q.f.ents + 1 < (if q.f.cols = 0 then 4 else q.f.cols)
 ·rw [if_pos h, qFin, if_neg (by rw [h.1]; decide)] at fo
  rw [if_pos h]
  exact OkA.pre (fun r hr => .f1 fo hr) (nxt q.f.cols q.f.rows (q.f.ents + 1))
 ·rw [if_neg h] at fo ⊢
  by_cases h2 : Yd t q.at_ = 59 ∧ (q.f.cols = 0 ∨ q.f.ents + 1 = q.f.cols) ∧ q.f.rows + 1 < 4
  ·rw [if_pos (Or.inl h2), qFin, if_neg (by rw [h2.1]; decide)] at fo
   rw [if_pos h2]
   exact OkA.pre (fun r hr => .f1 fo hr) (nxt (q.f.ents + 1) (q.f.rows + 1) 0)
  ·rw [if_neg h2]
   by_cases h3 : Yd t q.at_ = 41 ∧ (q.f.cols = 0 ∨ q.f.ents + 1 = q.f.cols)
   ·rw [if_pos (Or.inr h3), qFin, if_pos h3.1] at fo
    rw [if_pos h3]
    refine ⟨_, rfl, fun r hr => .f1 fo ?_⟩
    have eo : qOpI { q with f := { q.f with cols := q.f.ents + 1, ents := 0, rows := q.f.rows + 1 } } = x := qOpI_of hx
    rw [qOpd, eo, qClose]
    simp only [hF]
    exact hr
   ·rw [if_neg (by intro h4; rcases h4 with h4 | h4; exact h2 h4; exact h3 h4)] at fo
    rw [if_neg h3]
    exact Gs.f0 fo
theorem spec (t : ByteArray) : ∀ k, Spec t k
 | 0 => ⟨fun _ _ _ _ _ => trivial, fun _ _ _ _ _ _ _ _ _ _ _ => trivial, fun _ => trivial, fun _ _ _ _ _ _ _ _ => trivial⟩
 | k + 1 => ⟨spec_e (spec t k), spec_l (spec t k), spec_a (spec t k), spec_m (spec t k)⟩
def q0 : Qs := ⟨0, [], ⟨-1, [], [], [], 0, 0, 0⟩⟩
def topR (t : ByteArray) : Rr → Fin' → Prop
 | .out, _ => False
 | .err n, r => r = .bad n
 | .ok l j, r => ∃ x, l = [x] ∧ r = if j < (t.size : Nat) then .bad j else .ok x
theorem go_top (t : ByteArray) (k : Nat) (h : rd t k (.E 1 0) ≠ .out) : ∃ r, Gs t 0 q0 r ∧ topR t (rd t k (.E 1 0)) r := by
 have e := (spec t k).e 1 q0 (by omega) (by intro o ho; cases ho) (by omega)
 rw [show q0.at_ = 0 from rfl] at e
 cases hE : rd t k (.E 1 0) with
 | out => exact absurd hE h
 | err n => rw [hE] at e; exact ⟨_, e, rfl⟩
 | ok l j =>
  have hn := rd_none hE
  rw [hE] at e
  obtain ⟨x, rfl, c⟩ := e
  refine ⟨_, c _ fun us rs hu => ?_, x, rfl, rfl⟩
  have fo : qFollow t ⟨j, [], ⟨-1, [], us, rs, 0, 0, 0⟩⟩ = _ := follow_none hn
  rw [qRest, if_pos rfl] at fo
  by_cases hj : j < (t.size : Nat)
  ·rw [if_pos hj] at fo ⊢; exact .f0 fo
  ·rw [if_neg hj] at fo ⊢
   refine .f1 fo ?_
   have eo : qOpI ⟨j, [], ⟨-1, [], us, rs, 0, 0, 0⟩⟩ = x := qOpI_of (qJ_one hu)
   rw [← eo]
   exact .e rfl rfl
def trT (T : List Tn) : Nat → Int → Tr
 | 0, _ => noTr
 | k + 1, i => .node ⟨(T.getD i.toNat noT).op, (T.getD i.toNat noT).n⟩ ((T.getD i.toNat noT).ops.map (trT T k))
def tr (T : List Tn) (i : Int) : Tr := trT T (i.toNat + 1) i
theorem trT_eq (hT : OkT T) : ∀ (k k' : Nat) (i : Int), 0 ≤ i → i < (T.length : Nat) → i < (k : Nat) → i < (k' : Nat) → trT T k i = trT T k' i
 | 0, _, i, h0, _, hk, _ => by omega
 | _ + 1, 0, i, h0, _, _, hk => by omega
 | k + 1, k' + 1, i, h0, h1, hk, hk' => by
  rw [trT, trT]
  congr 1
  refine X08 fun o ho => ?_
  have := hT.ops ⟨h0, h1⟩ o ho
  exact trT_eq hT k k' o (by omega) (by omega) (by push_cast at hk; omega) (by push_cast at hk'; omega)
theorem tr_step (hT : OkT T) (h : 0 ≤ i ∧ i < (T.length : Nat)) : tr T i = .node ⟨(T.getD i.toNat noT).op, (T.getD i.toNat noT).n⟩ ((T.getD i.toNat noT).ops.map (tr T)) := by
 rw [tr, trT]
 congr 1
 refine X08 fun o ho => ?_
 have := hT.ops h o ho
 exact trT_eq hT _ _ o (by omega) (by omega) (by omega) (by omega)
theorem trT_app (hT : OkT T) : ∀ (k : Nat) (i : Int), 0 ≤ i → i < (T.length : Nat) → trT (T ++ T') k i = trT T k i
 | 0, i, h0, h1 => rfl
 | k + 1, i, h0, h1 => by
  rw [trT, trT, getD_app ⟨h0, h1⟩]
  congr 1
  refine X08 fun o ho => ?_
  have := hT.ops ⟨h0, h1⟩ o ho
  exact trT_app hT k o (by omega) (by omega)
theorem tr_app (hT : OkT T) (h : 0 ≤ i ∧ i < (T.length : Nat)) : tr (T ++ T') i = tr T i := trT_app hT _ i h.1 h.2
theorem trs_app (hT : OkT T) (h : Val T l) : l.map (tr (T ++ T')) = l.map (tr T) := X08 fun i hi => tr_app hT (h i hi)
theorem new_at (t : Tn) : (T ++ [t]).getD ((T.length : Nat) : Int).toNat noT = t := by
 rw [X8, show (((T.length : Nat) : Int)).toNat = T.length by omega, X04 (Xf _)]
 simp
theorem tr_new (hT : OkT T) {n : Int} (hv : Val T l) : tr (T ++ [⟨op, n, l, depOf T l⟩]) ((T.length : Nat) : Int) = .node ⟨op, n⟩ (l.map (tr T)) := by
 rw [tr_step (okT_add hT hv) ⟨by omega, by simp; omega⟩, new_at]
 simp only
 rw [trs_app hT hv]
theorem flatL_of : ∀ l : List Int, (∀ i ∈ l, (trT T k i).flat = (flT T k i).map toN) → flatL (l.map (trT T k)) = (l.flatMap (flT T k)).map toN
 | [], _ => rfl
 | i :: l, h => by rw [Xp, flatL, Xq, X0v, h i (by simp), flatL_of l fun j hj => h j (by simp [hj])]
theorem trT_flat (hT : OkT T) : ∀ (k : Nat) (i : Int), 0 ≤ i → i < (T.length : Nat) → i < (k : Nat) → (trT T k i).flat = (flT T k i).map toN
 | 0, i, h0, _, hk => by omega
 | k + 1, i, h0, h1, hk => by
  rw [trT, flT, Tr.flat, Xp, flatL_of _ fun o ho => ?_]
  ·rfl
  ·have := hT.ops ⟨h0, h1⟩ o ho
   exact trT_flat hT k o (by omega) (by omega) (by push_cast at hk; omega)
theorem tr_flat (hT : OkT T) (h : 0 ≤ i ∧ i < (T.length : Nat)) : (tr T i).flat = (fl T i).map toN := trT_flat hT _ i h.1 h.2 (by omega)
def DepOk (T : List Tn) : Prop := ∀ i : Int, 0 ≤ i → i < (T.length : Nat) → (T.getD i.toNat noT).dep = (tr T i).dep
theorem depOf_tr (hd : DepOk T) : ∀ (l : List Int) (d : Int), Val T l → l.foldl (depS T) d = depL d (l.map (tr T))
 | [], d, _ => rfl
 | i :: l, d, h => by
  have := h i (by simp)
  rw [X11, Xp, depL, depOf_tr hd l _ fun j hj => h j (by simp [hj]), depS, hd i this.1 this.2]
theorem DepOk.add (hT : OkT T) (hd : DepOk T) {n : Int} (hv : Val T l) : DepOk (T ++ [⟨op, n, l, depOf T l⟩]) := fun i h0 h1 => by
 by_cases hi : i < (T.length : Nat)
 ·rw [getD_app ⟨h0, hi⟩, tr_app hT ⟨h0, hi⟩]; exact hd i h0 hi
 ·have : i = ((T.length : Nat) : Int) := by simp at h1; omega
  subst this
  rw [new_at, tr_new hT hv, Tr.dep]
  exact depOf_tr hd l 1 hv
def alf (T : List Tn) (f : Fr) : Qf := ⟨f.op, f.ops.map (tr T), (f.terms.map (tr T)).reverse, f.signs.reverse, f.cols, f.rows, f.ents⟩
theorem alf_app (hT : OkT T) {f : Fr} (h1 : Val T f.terms) (h2 : Val T f.ops) : alf (T ++ T') f = alf T f := by rw [alf, alf, trs_app hT h1, trs_app hT h2]
structure Sim (s : Ps) (q : Qs) : Prop where
 dep : DepOk s.T
 at_ : q.at_ = s.at_
 F : q.F = (s.F.map (alf s.T)).reverse
 f : q.f = alf s.T s.f
end
section
variable {t : ByteArray} {s s' : Ps} {q : Qs} {r : Int} {d : Nat}
theorem fs_app {T : List Tn} (v : VS s) : (s.F.map (alf (s.T ++ T))).reverse = (s.F.map (alf s.T)).reverse := by
 rw [X08 fun f hf => alf_app v.okT (v.vF f hf).1 (v.vF f hf).2]
theorem Sim.ext {c : Int} (S : Sim s q) (v : VS s) (e : Ext s s' c) (hd : DepOk s'.T) : Sim s' ⟨s'.at_, q.F, q.f⟩ := by
 obtain ⟨T, hT, _⟩ := e.T
 refine ⟨hd, rfl, ?_, ?_⟩
 ·rw [e.F, hT, fs_app v]; exact S.F
 ·rw [e.f, hT, alf_app v.okT v.vf.1 v.vf.2]; exact S.f
theorem Sim.term (S : Sim s q) {i : Int} {x : Tr} (hx : tr s.T i = x) : Sim (pTerm i s) (qTerm x q.at_ q) := by
 refine ⟨S.dep, S.at_, S.F, ?_⟩
 rw [qTerm, pTerm, S.f]
 simp only [alf, X0v, Xp, X0q, List.reverse_append, X1e, List.reverse_nil, X0a, List.singleton_append, hx]
theorem Sim.push (S : Sim s q) (op : Int) : Sim (pPush op s) (qPush op q.at_ q) := by
 refine ⟨S.dep, S.at_, ?_, rfl⟩
 rw [qPush, pPush, S.f, S.F]
 simp
theorem jStep_eq (I : InvJ s) (h0 : 0 < s.f.signs.length) : ∃ A x1 x2 B op, s.f.terms = A ++ [x1, x2] ∧ s.f.signs = B ++ [op] ∧ s.f.signs.getD (s.f.signs.length - 1) 0 = op ∧ Val s.T [x1, x2] ∧
  jStep s = { s with T := s.T ++ [⟨op, 0, [x1, x2], depOf s.T [x1, x2]⟩], f := { s.f with signs := B, terms := A ++ [(s.T.length : Int)] } } := by
 have hl := I.len
 have e2 : s.f.terms = s.f.terms.take (s.f.terms.length - 2) ++ [s.f.terms.getD (s.f.terms.length - 2) 0, s.f.terms.getD (s.f.terms.length - 1) 0] := by
  have := list_last2 (l := s.f.terms) (n := s.f.terms.length - 2) (by omega)
  rwa [show s.f.terms.length - 2 + 1 = s.f.terms.length - 1 by omega] at this
 have e3 : s.f.signs = s.f.signs.take (s.f.terms.length - 2) ++ [s.f.signs.getD (s.f.terms.length - 2) 0] := by
  conv => lhs; rw [← X0u (s.f.terms.length - 2) s.f.signs]
  congr 1
  rw [X0k (by omega), List.drop_of_length_le (by omega), X8, X2 (by omega)]
  rfl
 exact ⟨_, _, _, _, _, e2, e3, by rw [show s.f.signs.length - 1 = s.f.terms.length - 2 by omega], I.val2 h0, rfl⟩
theorem sim_join (m : Int) : ∀ (k : Nat) (s : Ps), VS s → InvJ s → k = s.f.signs.length → DepOk s.T → DepOk (Y0v m k s).T ∧
  alf (Y0v m k s).T (Y0v m k s).f = { alf s.T s.f with ts := (qJ m (alf s.T s.f).ss (alf s.T s.f).ts).1, ss := (qJ m (alf s.T s.f).ss (alf s.T s.f).ts).2 }
 | 0, s, v, I, hk, hd => by
  have : s.f.signs = [] := X15.1 hk.symm
  refine ⟨hd, ?_⟩
  simp [Y0v, alf, this, qJ]
 | k + 1, s, v, I, hk, hd => by
  obtain ⟨A, x1, x2, B, op, e1, e2, e3, hv, e4⟩ := jStep_eq I (by omega)
  have eq : (alf s.T s.f).ss = op :: B.reverse := by simp [alf, e2]
  have eq2 : (alf s.T s.f).ts = tr s.T x2 :: tr s.T x1 :: (A.map (tr s.T)).reverse := by simp [alf, e1]
  rw [Y0v, e3, eq, eq2, qJ, mkB]
  by_cases hp : m ≤ prec op
  ·rw [if_pos ⟨by omega, hp⟩, if_pos hp]
   obtain ⟨h1, h2⟩ := I.step (by omega)
   have hT : (jStep s).T = s.T ++ [⟨op, 0, [x1, x2], depOf s.T [x1, x2]⟩] := by rw [e4]
   obtain ⟨a, b⟩ := sim_join m k (jStep s) (v.step I (by omega)) h1 (by omega) (by rw [hT]; exact hd.add v.okT hv)
   refine ⟨a, ?_⟩
   have vA : Val s.T A := fun i hi => v.vf.1 i (by rw [e1]; simp [hi])
   have ef : alf (jStep s).T (jStep s).f = { alf s.T s.f with ts := .node ⟨op, 0⟩ [tr s.T x1, tr s.T x2] :: (A.map (tr s.T)).reverse, ss := B.reverse } := by
    rw [e4]
    simp only [alf, X0v, Xp, X0q, List.reverse_append, X1e, List.reverse_nil, X0a, List.singleton_append]
    rw [trs_app v.okT v.vf.2, trs_app v.okT vA, tr_new v.okT hv]
    rfl
   rw [b, ef]
  ·rw [if_neg (fun h => hp h.2), if_neg hp]
   refine ⟨hd, ?_⟩
   rw [← eq, ← eq2]
theorem join_F (m : Int) (k : Nat) (v : VS s) (I : InvJ s) (hk : k = s.f.signs.length) : ((Y0v m k s).F.map (alf (Y0v m k s).T)).reverse = (s.F.map (alf s.T)).reverse := by
 obtain ⟨T, hT⟩ := (pJoin_f m k s).2
 rw [(Y2r m k s I hk).2.1, hT, fs_app v]
theorem Sim.sign (S : Sim s q) (w : W t s 1 r) (op : Int) : Sim (pSign op s) (qSign op q) := by
 have v : VS { s with at_ := s.at_ + 1 } := ⟨w.vs.okT, w.vs.vF, w.vs.vf⟩
 have I : InvJ { s with at_ := s.at_ + 1 } := ⟨w.invJ.okT, w.invJ.val, w.invJ.len, w.invJ.bT, w.invJ.bF⟩
 obtain ⟨a, b⟩ := sim_join (prec op) _ { s with at_ := s.at_ + 1 } v I rfl S.dep
 have c := join_F (prec op) _ v I rfl
 refine ⟨a, ?_, ?_, ?_⟩
 ·show q.at_ + 1 = (Y0v _ _ _).at_
  rw [(Y2r _ _ _ I rfl).2.2.1, S.at_]
 ·show q.F = ((Y0v _ _ _).F.map (alf (Y0v _ _ _).T)).reverse
  rw [c]; exact S.F
 ·show { q.f with ts := (qJ (prec op) q.f.ss q.f.ts).1, ss := op :: (qJ (prec op) q.f.ss q.f.ts).2 } = alf (Y0v (prec op) s.f.signs.length { s with at_ := s.at_ + 1 }).T { (Y0v (prec op) s.f.signs.length { s with at_ := s.at_ + 1 }).f with signs := (Y0v (prec op) s.f.signs.length { s with at_ := s.at_ + 1 }).f.signs ++ [op] }
  have e : ∀ (T : List Tn) (f : Fr), alf T { f with signs := f.signs ++ [op] } = { alf T f with ss := op :: (alf T f).ss } := fun T f => by simp [alf]
  rw [e, b, S.f]
theorem opd_one (w : W t s 1 r) : (Y0v 0 s.f.signs.length s).f.terms = [Y13 s] ∧ (Y0v 0 s.f.signs.length s).f.signs = [] := by
 have p1 := pJoin_all _ _ w.invJ rfl
 obtain ⟨b1, _⟩ := Y2r 0 _ _ w.invJ rfl
 have hl := b1.len
 refine ⟨?_, X15.1 p1⟩
 unfold Y13
 generalize (Y0v 0 s.f.signs.length s).f.terms = l at hl
 cases l with
 | nil => simp at hl
 | cons a l =>
  cases l with
  | nil => rfl
  | cons b l => rw [p1] at hl; simp at hl
theorem sim_opI (S : Sim s q) (w : W t s 1 r) : qOpI q = tr (Y0v 0 s.f.signs.length s).T (Y13 s) := by
 obtain ⟨a, b⟩ := sim_join 0 _ s w.vs w.invJ rfl S.dep
 have h1 := (opd_one w).1
 have : (alf (Y0v 0 s.f.signs.length s).T (Y0v 0 s.f.signs.length s).f).ts = [tr (Y0v 0 s.f.signs.length s).T (Y13 s)] := by simp [alf, h1]
 rw [b] at this
 rw [qOpI, S.f]
 simp only at this
 rw [this]
 rfl
theorem Sim.opd (S : Sim s q) (w : W t s 1 r) (hw : s.at_ < (t.size : Nat)) : Sim (pOpd { s with at_ := s.at_ + 1 }) (qOpd q) := by
 have w1 : W t { s with at_ := s.at_ + 1 } 1 r := w.adv (by omega) (by omega)
 have S1 : Sim { s with at_ := s.at_ + 1 } ⟨q.at_ + 1, q.F, q.f⟩ := ⟨S.dep, by rw [S.at_], S.F, S.f⟩
 have v := w1.vs
 obtain ⟨a, b⟩ := sim_join 0 _ { s with at_ := s.at_ + 1 } v w1.invJ rfl S.dep
 have c := join_F 0 _ v w1.invJ rfl
 have h1 := opd_one w1
 have e := sim_opI S1 w1
 have jf := pJoin_f 0 s.f.signs.length { s with at_ := s.at_ + 1 }
 refine ⟨a, ?_, ?_, ?_⟩
 ·show q.at_ + 1 = (Y0v _ _ _).at_
  rw [(Y2r _ _ _ w1.invJ rfl).2.2.1, S.at_]
 ·show q.F = ((Y0v _ _ _).F.map (alf (Y0v _ _ _).T)).reverse
  rw [c]; exact S.F
 ·show { q.f with ops := q.f.ops ++ [qOpI q], ts := [], ss := [] } = alf (Y0v 0 s.f.signs.length { s with at_ := s.at_ + 1 }).T { (Y0v 0 s.f.signs.length { s with at_ := s.at_ + 1 }).f with terms := [], ops := (Y0v 0 s.f.signs.length { s with at_ := s.at_ + 1 }).f.ops ++ [Y13 { s with at_ := s.at_ + 1 }] }
  rw [show qOpI q = _ from e]
  have e2 : ∀ (T : List Tn) (f : Fr) (i : Int), f.signs = [] → alf T { f with terms := [], ops := f.ops ++ [i] } = { alf T f with ops := (alf T f).ops ++ [tr T i], ts := [], ss := [] } := fun T f i hf => by simp [alf, hf]
  rw [e2 _ _ _ h1.2, b, S.f]
theorem Sim.close (S : Sim s q) (v : VS s) (hF : s.F ≠ []) (op n : Int) : Sim (pClose op n s) (qClose op n q) := by
 obtain ⟨F', f', hF⟩ := last_split hF
 have hd := S.dep.add v.okT (op := op) (n := n) v.vf.2
 have vF : ∀ f ∈ F', Val s.T f.terms ∧ Val s.T f.ops := fun f hf => v.vF f (by rw [hF]; simp [hf])
 have vf := v.vF f' (by rw [hF]; simp)
 have qF : q.F = alf s.T f' :: (F'.map (alf s.T)).reverse := by rw [S.F, hF]; simp
 rw [qClose, qF]
 simp only
 refine ⟨hd, S.at_, ?_, ?_⟩
 ·show (F'.map (alf s.T)).reverse = (s.F.dropLast.map (alf (s.T ++ [_]))).reverse
  rw [hF, List.dropLast_concat, X08 fun f hf => alf_app v.okT (vF f hf).1 (vF f hf).2]
 ·show _ = alf (s.T ++ [_]) { (s.F.getLast?.getD s.f) with terms := (s.F.getLast?.getD s.f).terms ++ [((s.T.length : Nat) : Int)] }
  have e : s.F.getLast?.getD s.f = f' := by rw [hF]; simp
  rw [e]
  simp only [alf, X0v, Xp, X0q, List.reverse_append, X1e, List.reverse_nil, X0a, List.singleton_append]
  rw [trs_app v.okT vf.1, trs_app v.okT vf.2, tr_new v.okT v.vf.2, S.f]
  rfl
end
section
variable {t : ByteArray} {s s' : Ps} {q : Qs} {r : Int} {d : Nat}
def lift {α : Type} (s : Ps) : Lf α → Res α
 | .bad j => .bad { s with at_ := j }
 | .ok a j => .ok { s with at_ := j } a
theorem lift_bind {α β : Type} (s : Ps) (x : Lf α) (k : α → Int → Lf β) : lift s (x.bind k) = (lift s x).bind fun s1 a => lift s1 (k a s1.at_) := by
 cases x with
 | bad j => rfl
 | ok a j => show lift s (k a j) = lift { s with at_ := j } (k a j); cases k a j <;> rfl
theorem expect_eq (b : Int) (s : Ps) : Y1z t b s = lift s (qWant t b s.at_) := by
 unfold Y1z qWant
 rw [show Yh t s = Yd t s.at_ from rfl]
 split <;> rfl
theorem name_eq (n : ByteArray) : ∀ (k : Nat) (s : Ps), pName t n k s = lift s (qName t n k s.at_)
 | 0, s => rfl
 | k + 1, s => by
  rw [pName, qName, lift_bind, expect_eq]
  congr 1
  funext s1 u
  exact name_eq n k s1
theorem wordL_eq : ∀ (l : List Int) (s : Ps), pWordL t l s = lift s (Y54 t l s.at_)
 | [], s => rfl
 | op :: l, s => by
  rw [pWordL, Y54]
  by_cases h : pWordM t s (Y0q op)
  ·have h' : Yd t s.at_ = Y1q (Y0q op) 0 ∧ s.at_ + 1 < (t.size : Nat) ∧ Y1q t (s.at_ + 1) = Y1q (Y0q op) 1 := h
   rw [if_pos h, if_pos h', lift_bind, name_eq]
   congr 1
   funext s1 u
   rw [lift_bind, expect_eq]
   rfl
  ·have h' : ¬ (Yd t s.at_ = Y1q (Y0q op) 0 ∧ s.at_ + 1 < (t.size : Nat) ∧ Y1q t (s.at_ + 1) = Y1q (Y0q op) 1) := h
   rw [if_neg h, if_neg h']; exact wordL_eq l s
theorem word_eq (s : Ps) : pWord t s = lift s (qWord t s.at_) := wordL_eq _ _
theorem dig_eq : ∀ (k : Nat) (n d : Int) (s : Ps), pDig t k n d s = ((dg t k n d s.at_).1, (dg t k n d s.at_).2.1, { s with at_ := (dg t k n d s.at_).2.2 })
 | 0, n, d, s => rfl
 | k + 1, n, d, s => by
  rw [pDig, dg]
  by_cases h : Yd t s.at_ < 48 ∨ 57 < Yd t s.at_ ∨ (0 < d ∧ n = 0)
  ·have h' : Yh t s < 48 ∨ 57 < Yh t s ∨ (0 < d ∧ n = 0) := h
   rw [if_pos h, if_pos h']
  ·have h' : ¬ (Yh t s < 48 ∨ 57 < Yh t s ∨ (0 < d ∧ n = 0)) := h
   rw [if_neg h, if_neg h', dig_eq k]
   rfl
def SimL (s : Ps) : Lf Tr → Res Int → Prop
 | .bad j, .bad s' => s'.at_ = j
 | .ok x j, .ok s' i => s'.at_ = j ∧ Ext s s' 1000 ∧ DepOk s'.T ∧ tr s'.T i = x ∧ 0 ≤ i ∧ i < (s'.T.length : Nat)
 | _, _ => False
theorem num_sim {s : Ps} (hT : OkT s.T) (hd : DepOk s.T) : SimL s (qNum t s.at_) (Y14 t s) := by
 cases hN : Y14 t s with
 | bad s1 =>
  unfold Y14 at hN
  rw [dig_eq] at hN
  unfold qNum
  split at hN
  ·next h => cases hN; rw [if_pos h]; rfl
  ·cases hN
 | ok s1 i =>
  obtain ⟨x1, x2, x3⟩ := Y2h hT hN
  unfold Y14 at hN
  rw [dig_eq] at hN
  unfold qNum
  split at hN
  ·cases hN
  ·next h =>
   cases hN
   rw [if_neg h]
   refine ⟨rfl, x1.mono (by omega), hd.add hT (l := []) (fun i hi => by cases hi), ?_, by omega, ?_⟩
   ·exact tr_new hT (l := []) (fun i hi => by cases hi)
   ·show ((s.T.length : Nat) : Int) < ((s.T ++ [_]).length : Nat); simp; omega
def SimLs (s : Ps) : Lf (List Tr) → Res (List Int) → Prop
 | .bad j, .bad s' => s'.at_ = j
 | .ok x j, .ok s' l => s'.at_ = j ∧ Ext s s' 1000 ∧ DepOk s'.T ∧ l.map (tr s'.T) = x ∧ Val s'.T l
 | _, _ => False
theorem Ext.step1 {s : Ps} {c : Int} (h : 0 ≤ c) (hT : OkT s.T) : Ext s { s with at_ := s.at_ + c } c := ⟨rfl, rfl, by simp only; omega, by simp only; omega, ⟨[], by simp, by simpa using h⟩, hT⟩
def SimN (c : Int) (s : Ps) : Lf (List Tr) → Res (List Int) → Prop
 | .bad j, .bad s' => s'.at_ = j
 | .ok x j, .ok s' l => s'.at_ = j ∧ Ext s s' c ∧ DepOk s'.T ∧ l.map (tr s'.T) = x ∧ Val s'.T l
 | _, _ => False
theorem SimN.up {s s1 : Ps} {c d e : Int} (h : Ext s s1 c) (he : c + d ≤ e) : ∀ {x : Lf (List Tr)} {y : Res (List Int)}, SimN d s1 x y → SimN e s x y
 | .bad _, .bad _, g => g
 | .ok _ _, .ok _ _, ⟨a, b, g⟩ => ⟨a, (h.trans b).mono he, g⟩
theorem num_sim5 {s : Ps} (hT : OkT s.T) (hd : DepOk s.T) : match qNum t s.at_, Y14 t s with
  | .bad j, .bad s' => s'.at_ = j
  | .ok x j, .ok s' i => s'.at_ = j ∧ Ext s s' 5 ∧ DepOk s'.T ∧ tr s'.T i = x ∧ 0 ≤ i ∧ i < (s'.T.length : Nat)
  | _, _ => False := by
 have h := num_sim (t := t) hT hd
 cases hN : Y14 t s with
 | bad s1 =>
  rw [hN] at h
  cases hQ : qNum t s.at_ with
  | bad j => rw [hQ] at h; exact h
  | ok x j => rw [hQ] at h; exact h
 | ok s1 i =>
  obtain ⟨x1, _⟩ := Y2h hT hN
  rw [hN] at h
  cases hQ : qNum t s.at_ with
  | bad j => rw [hQ] at h; exact h
  | ok x j => rw [hQ] at h; exact ⟨h.1, x1, h.2.2⟩
theorem sumL_sim : ∀ (k : Nat) (l : List Int) (s : Ps), OkT s.T → DepOk s.T → Val s.T l → SimN (6 * k) s (qSumL t k (l.map (tr s.T)) s.at_) (pSumL t k l s)
 | 0, l, s, hT, hd, hv => ⟨rfl, (Ext.refl hT).mono (by omega), hd, rfl, hv⟩
 | k + 1, l, s, hT, hd, hv => by
  rw [qSumL, pSumL]
  by_cases h : Yd t s.at_ = 44
  ·have h' : Yh t s = 44 := h
   rw [if_pos h, if_pos h']
   have e0 := Ext.step1 (s := s) (c := 1) (by omega) hT
   have N := num_sim5 (t := t) (s := { s with at_ := s.at_ + 1 }) hT hd
   simp only at N
   revert N
   cases hQ : qNum t (s.at_ + 1) with
   | bad j =>
    cases hN : Y14 t { s with at_ := s.at_ + 1 } with
    | bad s1 => exact id
    | ok s1 i => exact fun h => h.elim
   | ok x j =>
    cases hN : Y14 t { s with at_ := s.at_ + 1 } with
    | bad s1 => exact fun h => h.elim
    | ok s1 i =>
     rintro ⟨rfl, e1, d1, rfl, i0, i1⟩
     rw [Y07]
     show SimN _ s (qSumL t k (l.map (tr s.T) ++ [tr s1.T i]) s1.at_) _
     have ee := e0.trans e1
     obtain ⟨T, hT1, _⟩ := ee.T
     have em : l.map (tr s.T) ++ [tr s1.T i] = (l ++ [i]).map (tr s1.T) := by rw [X0v, hT1, trs_app hT hv]; rfl
     rw [em]
     have R := sumL_sim k (l ++ [i]) s1 e1.ok d1 (fun j hj => by
      simp only [Xw, Xd] at hj
      rcases hj with hj | rfl
      ·exact ee.val hv j hj
      ·exact ⟨i0, i1⟩)
     exact SimN.up ee (by push_cast; omega) R
  ·have h' : ¬ Yh t s = 44 := h
   rw [if_neg h, if_neg h']
   exact ⟨rfl, (Ext.refl hT).mono (by omega), hd, rfl, hv⟩
def SimM (c : Int) (s : Ps) : Lf Tr → Res Int → Prop
 | .bad j, .bad s' => s'.at_ = j
 | .ok x j, .ok s' i => s'.at_ = j ∧ Ext s s' c ∧ DepOk s'.T ∧ tr s'.T i = x ∧ 0 ≤ i ∧ i < (s'.T.length : Nat)
 | _, _ => False
theorem SimM.trans {s s1 : Ps} {c d : Int} (e : Ext s s1 c) : ∀ {x : Lf Tr} {y : Res Int}, SimM d s1 x y → SimM (c + d) s x y
 | .bad _, .bad _, h => h
 | .ok _ _, .ok _ _, ⟨a, b, h⟩ => ⟨a, e.trans b, h⟩
theorem SimM.mono {s : Ps} {c d : Int} (h : c ≤ d) : ∀ {x : Lf Tr} {y : Res Int}, SimM c s x y → SimM d s x y
 | .bad _, .bad _, g => g
 | .ok _ _, .ok _ _, ⟨a, b, g⟩ => ⟨a, b.mono h, g⟩
theorem want_sim {b : Int} {c : Int} {s : Ps} (hT : OkT s.T) {K : Unit → Int → Lf Tr} {K' : Ps → Unit → Res Int} (h : SimM c { s with at_ := s.at_ + 1 } (K () (s.at_ + 1)) (K' { s with at_ := s.at_ + 1 } ())) : SimM (1 + c) s ((qWant t b s.at_).bind K) ((Y1z t b s).bind K') := by
 rw [expect_eq]
 unfold qWant
 split
 ·exact SimM.trans (Ext.step1 (by omega) hT) h
 ·rfl
theorem sumR_sim {l : List Int} {s : Ps} (hT : OkT s.T) (hd : DepOk s.T) (hv : Val s.T l) : SimM 8 s (qSumR t (l.map (tr s.T)) s.at_) (pSumR t s l) := by
 unfold qSumR pSumR
 rw [X02]
 by_cases h : l.length < 2
 ·rw [if_pos h, if_pos h]; rfl
 ·rw [if_neg h, if_neg h]
  refine want_sim (c := 7) hT ?_
  have N := num_sim5 (t := t) (s := { s with at_ := s.at_ + 1 }) hT hd
  simp only at N
  revert N
  cases hQ : qNum t (s.at_ + 1) with
  | bad j =>
   cases hN : Y14 t { s with at_ := s.at_ + 1 } with
   | bad s1 => exact id
   | ok s1 i => exact fun h => h.elim
  | ok x j =>
   cases hN : Y14 t { s with at_ := s.at_ + 1 } with
   | bad s1 => exact fun h => h.elim
   | ok s1 i =>
    rintro ⟨rfl, e1, d1, rfl, i0, i1⟩
    rw [Y07]
    show SimM 7 _ ((qWant t 41 s1.at_).bind _) _
    have : SimM (1 + 1) s1 ((qWant t 41 s1.at_).bind fun _ j => .ok (.node ⟨12, (l.length : Nat)⟩ (l.map (tr s.T) ++ [tr s1.T i])) j) ((Y1z t 41 s1).bind fun s3 _ => .ok (pAdd 12 (l.length : Nat) (l ++ [i]) s3) (s3.T.length : Nat)) := by
     refine want_sim (c := 1) e1.ok ?_
     obtain ⟨T, hT1, _⟩ := e1.T
     have hT1' : s1.T = s.T ++ T := hT1
     have hv2 : Val s1.T (l ++ [i]) := fun j hj => by
      simp only [Xw, Xd] at hj
      rcases hj with hj | rfl
      ·exact Ext.val e1 (s := { s with at_ := s.at_ + 1 }) hv j hj
      ·exact ⟨i0, i1⟩
     have em : l.map (tr s.T) ++ [tr s1.T i] = (l ++ [i]).map (tr s1.T) := by rw [X0v, hT1', trs_app hT hv]; rfl
     refine ⟨rfl, ⟨rfl, rfl, by simp only [pAdd]; omega, by simp only [pAdd]; omega, ⟨[_], rfl, by simp⟩, okT_add e1.ok hv2⟩, d1.add e1.ok hv2, ?_, by omega, ?_⟩
     ·rw [em]; exact tr_new e1.ok hv2
     ·show ((s1.T.length : Nat) : Int) < ((s1.T ++ [_]).length : Nat); simp; omega
    exact SimM.trans e1 this
theorem sum_sim {s : Ps} (hT : OkT s.T) (hd : DepOk s.T) : SimM 1000 s (qSum t s.at_) (pSum t s) := by
 unfold qSum pSum
 have N := num_sim5 (t := t) (s := s) hT hd
 revert N
 cases hQ : qNum t s.at_ with
 | bad j =>
  cases hN : Y14 t s with
  | bad s1 => exact id
  | ok s1 i => exact fun h => h.elim
 | ok x j =>
  cases hN : Y14 t s with
  | bad s1 => exact fun h => h.elim
  | ok s1 i =>
   rintro ⟨rfl, e1, d1, rfl, i0, i1⟩
   rw [Y07]
   show SimM 1000 s ((qSumL t 4 [tr s1.T i] s1.at_).bind _) _
   have L := sumL_sim (t := t) 4 [i] s1 e1.ok d1 (fun j hj => by simp only [Xd] at hj; subst hj; exact ⟨i0, i1⟩)
   rw [Xp, X0q] at L
   revert L
   cases hL : qSumL t 4 [tr s1.T i] s1.at_ with
   | bad j =>
    cases hP : pSumL t 4 [i] s1 with
    | bad s2 => exact id
    | ok s2 l => exact fun h => h.elim
   | ok x j =>
    cases hP : pSumL t 4 [i] s1 with
    | bad s2 => exact fun h => h.elim
    | ok s2 l =>
     rintro ⟨rfl, e2, d2, rfl, hv⟩
     rw [Y07]
     have R := (sumR_sim (t := t) e2.ok d2 hv).trans (e1.trans e2)
     show SimM 1000 s (qSumR t (l.map (tr s2.T)) s2.at_) (pSumR t s2 l)
     exact SimM.mono (by omega) R
def SimR : QR → Res Int → Prop
 | .bad j, .bad s' => s'.at_ = j
 | .go y q, .ok s' y' => y' = y ∧ Sim s' q
 | _, _ => False
theorem fin_sim {c : Int} (S : Sim s q) (w : W t s 1 r) (hF : s.F ≠ []) (h1 : s.at_ < (t.size : Nat)) : SimR (qFin c q) (pFin c s) := by
 have S1 := S.opd w h1
 have w0 := w.adv (c := 1) (by omega) (by omega)
 obtain ⟨d1, d2, d3, d4, _⟩ := pOpd_inv w0.invJ w0.cur.vo
 unfold qFin pFin
 by_cases hc : c = 41
 ·rw [if_pos hc, if_pos hc]
  have er : q.f.rows = s.f.rows := by rw [S.f]; rfl
  have ec : q.f.cols = s.f.cols := by rw [S.f]; rfl
  rw [er, ec]
  exact ⟨rfl, S1.close (w.opd (by omega)).1.vs (by rw [d4]; exact hF) _ _⟩
 ·rw [if_neg hc, if_neg hc]; exact ⟨rfl, S1⟩
theorem matrix_sim (S : Sim s q) (w : W t s 1 3) (hF : s.F ≠ []) : SimR (qMatrix t q) (Y1h t s) := by
 have ee : q.f.ents = s.f.ents := by rw [S.f]; rfl
 have ec : q.f.cols = s.f.cols := by rw [S.f]; rfl
 have er : q.f.rows = s.f.rows := by rw [S.f]; rfl
 have ep : Yd t q.at_ = Yh t s := by rw [S.at_]; rfl
 have cc := w.cur.c
 unfold qMatrix Y1h
 rw [ep, ee, ec, er]
 by_cases h1 : Yh t s = 44 ∧ s.f.ents + 1 < (if s.f.cols = 0 then 4 else s.f.cols)
 ·rw [if_pos h1, if_pos h1]
  have he : s.f.ents + 1 ≤ 3 := by
   have := h1.2
   split at this <;> omega
  refine fin_sim (r := 3) ⟨S.dep, S.at_, S.F, ?_⟩ (w.row rfl rfl rfl rfl (by simp only; omega) (by omega)) hF (Y30 h1.1 (by omega))
  show { q.f with ents := s.f.ents + 1 } = _
  rw [S.f]; rfl
 ·rw [if_neg h1, if_neg h1]
  by_cases h2 : (Yh t s = 59 ∧ (s.f.cols = 0 ∨ s.f.ents + 1 = s.f.cols) ∧ s.f.rows + 1 < 4) ∨ (Yh t s = 41 ∧ (s.f.cols = 0 ∨ s.f.ents + 1 = s.f.cols))
  ·rw [if_pos h2, if_pos h2]
   have hlt : s.at_ < (t.size : Nat) := by
    rcases h2 with h | h
    ·exact Y30 h.1 (by omega)
    ·exact Y30 h.1 (by omega)
   refine fin_sim (r := 4) ⟨S.dep, S.at_, S.F, ?_⟩ (w.row rfl rfl rfl rfl (by simp only; omega) (by omega)) hF hlt
   show { q.f with cols := s.f.ents + 1, ents := 0, rows := s.f.rows + 1 } = _
   rw [S.f]; rfl
  ·rw [if_neg h2, if_neg h2]; exact S.at_.symm
theorem rest_sim (S : Sim s q) (w : W t s 1 3) (ho : opOf (Yh t s) = none) : SimR (qRest t q) (if s.f.op = -1 then (if s.at_ < (t.size : Nat) then .bad s else .ok s 2) else if s.f.op = 13 then Y1h t s else if ((s.f.ops.length : Nat) : Int) + 1 < pNeed s.f.op then pMore t s else pEnd t s) := by
 have eo : q.f.op = s.f.op := by rw [S.f]; rfl
 have el : q.f.ops.length = s.f.ops.length := by rw [S.f]; simp [alf]
 have ep : Yd t q.at_ = Yh t s := by rw [S.at_]; rfl
 unfold qRest
 rw [eo, el, ep, S.at_]
 by_cases h1 : s.f.op = -1
 ·rw [if_pos h1, if_pos h1]
  by_cases h2 : s.at_ < (t.size : Nat)
  ·rw [if_pos h2, if_pos h2]; rfl
  ·rw [if_neg h2, if_neg h2]; exact ⟨rfl, S⟩
 ·rw [if_neg h1, if_neg h1]
  have hF : s.F ≠ [] := w.invF.top.resolve_left h1
  by_cases h2 : s.f.op = 13
  ·rw [if_pos h2, if_pos h2]; exact matrix_sim S w hF
  ·rw [if_neg h2, if_neg h2]
   by_cases h3 : ((s.f.ops.length : Nat) : Int) + 1 < pNeed s.f.op
   ·rw [if_pos h3, if_pos h3, pMore, Y1z]
    by_cases h4 : Yh t s = 44
    ·rw [if_pos h4, if_pos h4]; exact ⟨rfl, S.opd w (Y30 h4 (by omega))⟩
    ·rw [if_neg h4, if_neg h4]; rfl
   ·rw [if_neg h3, if_neg h3, pEnd, Y1z]
    by_cases h4 : Yh t s = 41
    ·rw [if_pos h4, if_pos h4]
     have hlt := Y30 h4 (by omega)
     have w0 := w.adv (c := 1) (by omega) (by omega)
     obtain ⟨d1, d2, d3, d4, _⟩ := pOpd_inv w0.invJ w0.cur.vo
     exact ⟨rfl, (S.opd w hlt).close (w.opd (by omega)).1.vs (by rw [d4]; exact hF) _ _⟩
    ·rw [if_neg h4, if_neg h4]; rfl
theorem follow_sim (S : Sim s q) (w : W t s 1 3) : SimR (qFollow t q) (Y11 t s) := by
 have ep : Yd t q.at_ = Yh t s := by rw [S.at_]; rfl
 unfold qFollow Y11
 rw [ep]
 unfold opOf
 by_cases h1 : Yh t s = 43
 ·rw [if_pos h1, if_pos h1]; exact ⟨rfl, S.sign w 2⟩
 ·rw [if_neg h1, if_neg h1]
  by_cases h2 : Yh t s = 45
  ·rw [if_pos h2, if_pos h2]; exact ⟨rfl, S.sign w 3⟩
  ·rw [if_neg h2, if_neg h2]
   by_cases h3 : Yh t s = 42
   ·rw [if_pos h3, if_pos h3]; exact ⟨rfl, S.sign w 4⟩
   ·rw [if_neg h3, if_neg h3]
    by_cases h4 : Yh t s = 61
    ·rw [if_pos h4, if_pos h4]; exact ⟨rfl, S.sign w 5⟩
    ·rw [if_neg h4, if_neg h4]
     exact rest_sim S w (by unfold opOf; rw [if_neg h1, if_neg h2, if_neg h3, if_neg h4])
end
section
variable {t : ByteArray} {s s' : Ps} {q : Qs} {r : Int} {d : Nat}
theorem Tot.push (h : Tot s 0) (op n : Int) : Tot (pPush op { s with at_ := n }) 0 := by
 unfold Tot at h ⊢
 simp only [pPush, tt_app]
 simp only [tf, szl_nil] at h ⊢
 omega
def BegR (t : ByteArray) (m : Nat) (s : Ps) : QR → Prop
 | .bad j => ∃ s', Y36 t (m + 1) s = .bad s' ∧ s'.at_ = j
 | .go y q' => (y = 1 ∧ ∃ s', Y36 t (m + 1) s = .ok s' () ∧ Sim s' q' ∧ W t s' 1 3 ∧ Tot s' 0 ∧ s.at_ < s'.at_) ∨ (y = 0 ∧ ∃ s', Y36 t (m + 1) s = Y36 t m s' ∧ Sim s' q' ∧ W t s' 0 3 ∧ Tot s' 0 ∧ s.at_ < s'.at_)
theorem qLf_sim {c : Int} {m : Nat} {s1 : Ps} (S : Sim s1 q) (w : W t s 0 3) (hT : Tot s 0) (v : VS s1) {x : Lf Tr} {y : Res Int} (h : SimM c s1 x y) (e : Y36 t (m + 1) s = y.bind fun s2 i => .ok (pTerm i s2) ()) : BegR t m s (qLf q x) := by
 cases x with
 | bad j =>
  cases y with
  | bad s2 => exact ⟨s2, e, h⟩
  | ok s2 i => exact h.elim
 | ok x j =>
  cases y with
  | bad s2 => exact h.elim
  | ok s2 i =>
   obtain ⟨rfl, h2, h3, h4, h5, h6⟩ := h
   rw [Y07] at e
   obtain ⟨w1, lt⟩ := pBegin_ok _ _ _ w e
   have t1 := pBegin_tot _ _ _ w hT e
   exact .inl ⟨rfl, _, e, (S.ext v h2 h3).term h4, w1, t1, lt⟩
theorem begin_step (S : Sim s q) (w : W t s 0 3) (hT : Tot s 0) (m : Nat) : BegR t m s (qBegin t q) := by
 have ep : Yd t q.at_ = Yh t s := by rw [S.at_]; rfl
 have ea := S.at_
 have at0 := w.at0
 have at1 := w.at1
 have nF := w.nF
 unfold qBegin
 rw [ep]
 by_cases h1 : 48 ≤ Yh t s ∧ Yh t s ≤ 57
 ·rw [if_pos h1]
  have N := num_sim (t := t) w.okT S.dep
  rw [ea]
  exact qLf_sim S w hT w.vs (c := 1000) (y := Y14 t s) (by revert N; cases qNum t s.at_ <;> cases Y14 t s <;> exact id) (by rw [Y36, if_pos h1])
 ·rw [if_neg h1]
  by_cases h2 : Yh t s = 40
  ·rw [if_pos h2]
   have hlt := Y30 h2 (by omega)
   refine .inr ⟨rfl, pPush 10 { s with at_ := s.at_ + 1 }, by rw [Y36, if_neg h1, if_pos h2], ?_, (w.adv (c := 1) (by omega) (by omega)).push 10 (by simp only; omega), hT.push 10 _, by simp only [pPush]; omega⟩
   have := Sim.push (s := { s with at_ := s.at_ + 1 }) (q := ⟨s.at_ + 1, q.F, q.f⟩) ⟨S.dep, rfl, S.F, S.f⟩ 10
   rw [ea]; exact this
  ·rw [if_neg h2]
   by_cases h3 : 97 ≤ Yh t s ∧ Yh t s ≤ 122
   ·rw [if_pos h3]
    have hlt := Y30 (t := t) (s := s) rfl (by omega)
    have eW := word_eq (t := t) s
    rw [ea]
    have eB : Y36 t (m + 1) s = (pWord t s).bind fun s1 op => if op = 1 then .ok (pTerm (s1.T.length : Nat) (pAdd 1 (Yh t s - 97) [] s1)) () else if op = 12 then (pSum t s1).bind fun s2 i => .ok (pTerm i s2) () else Y36 t m (pPush op s1) := by rw [Y36, if_neg h1, if_neg h2, if_pos h3]
    cases hW : qWord t s.at_ with
    | bad j =>
     rw [hW] at eW
     rw [eW] at eB
     exact ⟨_, eB, rfl⟩
    | ok op j =>
     rw [hW] at eW
     obtain ⟨c, hc, c1, c7, hop⟩ := pWordL_ok t opsW (fun _ h => h) s _ op eW
     have hj : j = s.at_ + (c : Int) := by have := congrArg Ps.at_ hc; exact this
     subst hj
     rw [eW] at eB
     rw [show (lift s (.ok op (s.at_ + (c : Int))) : Res Int) = .ok { s with at_ := s.at_ + (c : Int) } op from rfl, Y07] at eB
     have w1 := w.adv (c := (c : Int)) (by omega) (by omega)
     have S1 : Sim { s with at_ := s.at_ + (c : Int) } ⟨s.at_ + (c : Int), q.F, q.f⟩ := ⟨S.dep, rfl, S.F, S.f⟩
     rw [qOp]
     by_cases o1 : op = 1
     ·rw [if_pos o1]
      rw [if_pos o1] at eB
      obtain ⟨w2, lt⟩ := pBegin_ok _ _ _ w eB
      have t1 := pBegin_tot _ _ _ w hT eB
      have e : Ext { s with at_ := s.at_ + (c : Int) } (pAdd 1 (Yh t s - 97) [] { s with at_ := s.at_ + (c : Int) }) 1 := ⟨rfl, rfl, by simp only [pAdd]; omega, by simp only [pAdd]; omega, ⟨[_], rfl, by simp⟩, okT_add w.okT (fun i hi => by simp at hi)⟩
      have S2 := S1.ext w1.vs e (S.dep.add w.okT (l := []) (fun i hi => by cases hi))
      refine .inl ⟨rfl, _, eB, ?_, w2, t1, lt⟩
      have e3 := S2.term (x := .node ⟨1, Yh t s - 97⟩ []) (tr_new w.okT (op := 1) (n := Yh t s - 97) (l := []) (fun i hi => by cases hi))
      rw [ep]
      exact e3
     ·rw [if_neg o1]
      rw [if_neg o1] at eB
      by_cases o12 : op = 12
      ·rw [if_pos o12]
       rw [if_pos o12] at eB
       have M := sum_sim (t := t) (s := { s with at_ := s.at_ + (c : Int) }) w.okT S.dep
       have := qLf_sim S1 w hT w1.vs M eB
       revert this
       cases qSum t (s.at_ + (c : Int)) <;> exact id
      ·rw [if_neg o12]
       rw [if_neg o12] at eB
       refine .inr ⟨rfl, _, eB, ?_, w1.push op (by simp only; omega), hT.push op _, by simp only [pPush]; omega⟩
       exact S1.push op
   ·rw [if_neg h3]
    exact ⟨s, by rw [Y36, if_neg h1, if_neg h2, if_neg h3], ea.symm⟩
def ResOk : Res Int → Fin' → Prop
 | .bad s', .bad j => s'.at_ = j
 | .ok s' i, .ok x => OkT s'.T ∧ DepOk s'.T ∧ 0 ≤ i ∧ i < (s'.T.length : Nat) ∧ tr s'.T i = x ∧ s'.T.length = (fl s'.T i).length
 | _, _ => False
theorem run_of_go {y : Int} {r : Fin'} (h : Gs t y q r) : ∀ s, Sim s q → Tot s 0 →
  (y = 0 → W t s 0 3 → ∀ kb k : Nat, (t.size : Int) + 70 < kb + s.at_ → (t.size : Int) + 70 < k + s.at_ → ResOk ((Y36 t kb s).bind fun s1 _ => (Y11 t s1).bind fun s2 y2 => pRun t k y2 s2) r) ∧
  (y = 1 → W t s 1 3 → ∀ k : Nat, (t.size : Int) + 70 < k + s.at_ → ResOk ((Y11 t s).bind fun s2 y2 => pRun t k y2 s2) r) ∧
  (y = 2 → W t s 1 3 → ∀ k : Nat, 1 ≤ k → ResOk (pRun t k 2 s) r) := by
 induction h with
 | @b0 q j h =>
  intro s S hT
  refine ⟨fun _ w kb k hk hk2 => ?_, fun h => by omega, fun h => by omega⟩
  obtain ⟨m, rfl⟩ : ∃ m, kb = m + 1 := ⟨kb - 1, by have := w.at1; omega⟩
  have B := begin_step S w hT m
  rw [h] at B
  obtain ⟨s', e1, e2⟩ := B
  rw [e1]
  exact e2
 | @b1 q q' y r h g ih =>
  intro s S hT
  refine ⟨fun _ w kb k hk hk2 => ?_, fun h => by omega, fun h => by omega⟩
  obtain ⟨m, rfl⟩ : ∃ m, kb = m + 1 := ⟨kb - 1, by have := w.at1; omega⟩
  have B := begin_step S w hT m
  rw [h] at B
  rcases B with ⟨rfl, s', e1, e2, e3, e4, e5⟩ | ⟨rfl, s', e1, e2, e3, e4, e5⟩
  ·rw [e1, Y07]
   exact (ih s' e2 e4).2.1 rfl e3 k (by omega)
  ·rw [e1]
   exact (ih s' e2 e4).1 rfl e3 m k (by push_cast at hk; omega) (by omega)
 | @f0 q j h =>
  intro s S hT
  refine ⟨fun h => by omega, fun _ w k hk => ?_, fun h => by omega⟩
  have F := follow_sim S w
  rw [h] at F
  cases hF : Y11 t s with
  | bad s' => rw [hF] at F; exact F
  | ok s' y => rw [hF] at F; exact F.elim
 | @f1 q q' y r h g ih =>
  intro s S hT
  refine ⟨fun h => by omega, fun _ w k hk => ?_, fun h => by omega⟩
  have F := follow_sim S w
  rw [h] at F
  cases hF : Y11 t s with
  | bad s' => rw [hF] at F; exact F.elim
  | ok s' y' =>
   rw [hF] at F
   obtain ⟨rfl, F⟩ := F
   rw [Y07]
   have T1 := pFollow_tot w hT hF
   obtain ⟨k, rfl⟩ : ∃ m, k = m + 1 := ⟨k - 1, by have := w.at1; omega⟩
   have I := ih s' F T1
   rcases pFollow_ok w hF with ⟨rfl, a, b⟩ | ⟨rfl, a, b⟩ | ⟨rfl, rfl, b, c⟩
   ·rw [pRun, Vn, Vn]
    have := a.at0
    exact I.1 rfl a (fuelB t) k (by unfold fuelB; push_cast; omega) (by push_cast at hk; omega)
   ·rw [pRun, if_pos rfl]
    exact I.2.1 rfl a k (by push_cast at hk; omega)
   ·exact I.2.2 rfl w (k + 1) (by omega)
 | @e q hF ho =>
  intro s S hT
  refine ⟨fun h => by omega, fun h => by omega, fun _ w k hk => ?_⟩
  obtain ⟨k, rfl⟩ : ∃ m, k = m + 1 := ⟨k - 1, by omega⟩
  rw [pRun, Vn, if_pos rfl]
  obtain ⟨h1, v1⟩ := pJoin_tot 0 _ s w.vs w.invJ rfl hT
  obtain ⟨b1, b2, b3, b4, b5⟩ := Y2r 0 _ s w.invJ rfl
  obtain ⟨a1, a2⟩ := sim_join 0 _ s w.vs w.invJ rfl S.dep
  obtain ⟨e1, e2⟩ := opd_one w
  have hv := b1.val (Y13 s) (by rw [e1]; simp)
  have sF : s.F = [] := by
   have := S.F
   rw [hF] at this
   have := congrArg List.length this
   simp at this
   exact Xn (by omega)
  have so : s.f.ops = [] := by
   have := S.f
   rw [this] at ho
   exact List.map_eq_nil_iff.1 ho
  refine ⟨b1.okT, a1, hv.1, hv.2, (sim_opI S w).symm, ?_⟩
  unfold Tot tf at h1
  rw [e1, szl_one, b2, sF, b5, so] at h1
  simp only [tt, szl_nil] at h1
  show (Y0v 0 s.f.signs.length s).T.length = (fl (Y0v 0 s.f.signs.length s).T _).length
  omega
end
theorem sim0 : Sim s0 q0 := ⟨fun i h0 h1 => by simp [s0] at h1; omega, rfl, rfl, rfl⟩
theorem formula_of_go {t : ByteArray} (hs : t.size ≤ 1000000) {r : Fin'} (h : Gs t 0 q0 r) : ResOk (pFormula t s0) r := by
 have w := W0P hs
 have := (run_of_go h s0 sim0 T0P).1 rfl w (fuelB t) (t.size + 99) (by unfold fuelB; have : s0.at_ = 0 := rfl; push_cast; omega) (by have : s0.at_ = 0 := rfl; push_cast; omega)
 unfold pFormula
 rw [show fuelB t = t.size + 99 + 1 from rfl, pRun, Vn, Vn]
 exact this
theorem parse_ok {t : ByteArray} (hs : t.size ≤ 1000000) {k : Nat} {l : List Tr} {j : Int} (h : rd t k (.E 1 0) = .ok l j) (hj : ¬ j < (t.size : Nat)) : ∃ x, l = [x] ∧ Y31 t = some (if 60 < (x.flat.length : Int) ∨ 8 < x.dep then ([], 0, 2) else (x.flat, ((t.size : Nat) : Int), 0)) := by
 obtain ⟨r, h1, h2⟩ := go_top t k (by rw [h]; intro e; cases e)
 rw [h] at h2
 obtain ⟨x, rfl, h2⟩ := h2
 rw [if_neg hj] at h2
 have F := formula_of_go hs h1
 rw [h2] at F
 refine ⟨x, rfl, ?_⟩
 unfold Y31 mParse
 cases hF : pFormula t s0 with
 | bad s => rw [hF] at F; exact F.elim
 | ok s i =>
  rw [hF] at F
  obtain ⟨f1, f2, f3, f4, rfl, f6⟩ := F
  have e1 := tr_flat f1 ⟨f3, f4⟩
  have e2 := f2 i f3 f4
  have e3 : (tr s.T i).flat.length = s.T.length := by rw [e1, X02]; exact f6.symm
  rw [Y2q hs, e3, ← e2]
  simp only
  by_cases h60 : (60 : Int) < ((s.T.length : Nat) : Int)
  ·rw [if_pos h60, if_pos (Or.inl h60)]; rfl
  ·rw [if_neg h60]
   by_cases h8 : 8 < (s.T.getD i.toNat noT).dep
   ·rw [if_pos h8, if_pos (Or.inr h8)]; rfl
   ·rw [if_neg h8, Vn]
    simp only [e1]
end Go.Proofs.YtkgfbpbndmklnaaDoor
