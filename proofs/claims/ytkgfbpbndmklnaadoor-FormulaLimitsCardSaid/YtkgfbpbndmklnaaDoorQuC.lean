/- Own work. -/
import Derived.Test.YtkgfbpbndmklnaaDoorQuB
import Derived.Test.YtkgfbpbndmklnaaDoorFmX
import Derived.Test.YtkgfbpbndmklnaaDoorPl4
import Derived.Test.YtkgfbpbndmklnaaDoorQuA
set_option linter.unusedSimpArgs false
set_option linter.unusedVariables false
namespace Go.Proofs.YtkgfbpbndmklnaaDoor
section
open Go.Abs
def digs : Nat → Nat → List UInt8
 | 0, n => [UInt8.ofNat (48 + n)]
 | k + 1, n => if n < 10 then [UInt8.ofNat (48 + n)] else digs k (n / 10) ++ [UInt8.ofNat (48 + n % 10)]
def nameL (op : Int) : List UInt8 := (Y0q op).data.toList
def sgnC (op : Int) : UInt8 := if op = 2 then 43 else if op = 3 then 45 else if op = 4 then 42 else 61
def sepOf (n : Y4) (k : Nat) : UInt8 :=
 if n.Op ≤ 5 then sgnC n.Op else if n.Op = 12 ∧ (k : Int) = n.N ∨ n.Op = 13 ∧ (k : Int) % (n.N % 8) = 0 then 59 else 44
def wrapT (n : Y4) (l : List UInt8) : List UInt8 := if n.Op ≤ 5 then l else (if n.Op = 10 then [] else nameL n.Op) ++ 40 :: (l ++ [41])
mutual
def Tr.tx : Tr → List UInt8
 | .node n ks => if n.Op = 0 then digs 4 n.N.toNat else if n.Op = 1 then [UInt8.ofNat (97 + n.N.toNat)] else wrapT n (txs n 0 ks)
def txs : Y4 → Nat → List Tr → List UInt8
 | _, _, [] => []
 | n, k, x :: xs => (if k = 0 then [] else [sepOf n k]) ++ (x.tx ++ txs n (k + 1) xs)
end
def Std (t : ByteArray) (i : Int) : List UInt8 → Prop
 | [] => True
 | c :: l => Yd t i = ((c.toNat : Nat) : Int) ∧ Std t (i + 1) l
variable {t : ByteArray} {i j : Int}
theorem Std.app : ∀ {a b : List UInt8} {i : Int}, Std t i (a ++ b) ↔ Std t i a ∧ Std t (i + (a.length : Nat)) b
 | [], b, i => by simp [Std]
 | c :: a, b, i => by
  rw [X03, Std, Std, Std.app, and_assoc]
  simp only [Xb]
  rw [show i + 1 + (a.length : Int) = i + ((a.length + 1 : Nat) : Int) by push_cast; omega]
theorem Std.get : ∀ {l : List UInt8} {i : Int} {k : Nat}, Std t i l → k < l.length → Yd t (i + (k : Int)) = (((l.getD k 0).toNat : Nat) : Int)
 | [], i, k, h, hk => by simp at hk
 | c :: l, i, 0, h, hk => by simpa using h.1
 | c :: l, i, k + 1, h, hk => by
  have := Std.get (k := k) h.2 (by simpa using hk)
  rw [show i + ((k + 1 : Nat) : Int) = i + 1 + (k : Int) by push_cast; omega, this]
  rfl
def Stp (b : Int) : Prop := ¬ (48 ≤ b ∧ b ≤ 57) ∧ ¬ (97 ≤ b ∧ b ≤ 122)
def Fol (t : ByteArray) (q j : Int) : Prop := Stp (Yd t j) ∧ ∀ o, opOf (Yd t j) = some o → prec o ≤ q
theorem Fol.of {q : Int} {b : Int} (h : Yd t j = b) (hb : b = 44 ∨ b = 59 ∨ b = 41 ∨ b = 0) : Fol t q j := by
 rw [Fol, h]
 refine ⟨?_, fun o ho => ?_⟩
 ·unfold Stp; omega
 ·exfalso
  unfold opOf at ho
  rw [Vn, Vn, Vn, Vn] at ho
  cases ho
def isD (c : UInt8) : Prop := 48 ≤ c.toNat ∧ c.toNat ≤ 57
def val (n : Int) (l : List UInt8) : Int := l.foldl (fun a c => 10 * a + ((c.toNat : Nat) - 48 : Int)) n
theorem dg_run : ∀ (l : List UInt8) (k : Nat) (n d i : Int), Std t i l → (∀ c ∈ l, isD c) → l.length ≤ k → 0 < n → 0 ≤ d → (l.length = k ∨ ¬ (48 ≤ Yd t (i + (l.length : Nat)) ∧ Yd t (i + (l.length : Nat)) ≤ 57)) →
  dg t k n d i = (val n l, d + (l.length : Nat), i + (l.length : Nat))
 | [], 0, n, d, i, _, _, _, _, _, _ => by simp [dg, val]
 | [], k + 1, n, d, i, _, _, _, _, _, h => by
  have h' : ¬ (48 ≤ Yd t i ∧ Yd t i ≤ 57) := by simpa using h
  rw [dg, Vp]
  simp [val]
 | c :: l, k, n, d, i, h, hc, hk, hn, hd, he => by
  obtain ⟨k, rfl⟩ : ∃ m, k = m + 1 := ⟨k - 1, by simp at hk; omega⟩
  have c1 := hc c (by simp)
  unfold isD at c1
  rw [dg, h.1, Vn, dg_run l k _ _ _ h.2 (fun c hc' => hc c (by simp [hc'])) (by simpa using hk) (by omega) (by omega) (by
   rw [show i + 1 + (l.length : Int) = i + ((l.length + 1 : Nat) : Int) by push_cast; omega]
   simpa using he)]
  simp only [val, X11, Xb]
  refine Prod.ext rfl (Prod.ext ?_ ?_) <;> (simp only; push_cast; omega)
theorem Y50 {n : Nat} (h : n < 256) : (UInt8.ofNat n).toNat = n := by rw [UInt8.toNat_ofNat']; omega
theorem val_snoc (n : Int) (l : List UInt8) (c : UInt8) : val n (l ++ [c]) = 10 * val n l + ((c.toNat : Nat) - 48 : Int) := by simp [val, List.foldl_append]
theorem digs_spec : ∀ (k n : Nat), n < 10 ^ (k + 1) → ∃ c l, digs k n = c :: l ∧ l.length ≤ k ∧ (∀ x ∈ c :: l, isD x) ∧ val 0 (c :: l) = (n : Int) ∧ (c.toNat = 48 → l = [])
 | 0, n, h => ⟨UInt8.ofNat (48 + n), [], rfl, by simp, by
   intro x hx
   simp only [X00, X09, or_false] at hx
   subst hx
   unfold isD
   rw [Y50 (by omega)]; omega, by simp only [val, X11, List.foldl_nil]; rw [Y50 (by omega)]; push_cast; omega, fun _ => rfl⟩
 | k + 1, n, h => by
  by_cases h1 : n < 10
  ·refine ⟨UInt8.ofNat (48 + n), [], by rw [digs, if_pos h1], by simp, ?_, by simp only [val, X11, List.foldl_nil]; rw [Y50 (by omega)]; push_cast; omega, fun _ => rfl⟩
   intro x hx
   simp only [X00, X09, or_false] at hx
   subst hx
   unfold isD
   rw [Y50 (by omega)]; omega
  ·obtain ⟨c, l, e1, e2, e3, e4, e5⟩ := digs_spec k (n / 10) (by rw [Nat.pow_succ] at h; omega)
   refine ⟨c, l ++ [UInt8.ofNat (48 + n % 10)], by rw [digs, if_neg h1, e1]; rfl, by simp; omega, ?_, ?_, fun hc => ?_⟩
   ·intro x hx
    rw [← X03, Xw] at hx
    rcases hx with hx | hx
    ·exact e3 x hx
    ·simp only [X00, X09, or_false] at hx
     subst hx
     unfold isD
     rw [Y50 (by omega)]; omega
   ·rw [← X03, val_snoc, e4, Y50 (by omega)]
    push_cast
    omega
   ·exfalso
    have e6 := e5 hc
    subst e6
    simp only [val, X11, List.foldl_nil, hc] at e4
    omega
theorem num_std {n : Int} (h0 : 0 ≤ n) (h1 : n ≤ 99999) (h : Std t i (digs 4 n.toNat)) (he : ¬ (48 ≤ Yd t (i + ((digs 4 n.toNat).length : Nat)) ∧ Yd t (i + ((digs 4 n.toNat).length : Nat)) ≤ 57)) :
  qNum t i = .ok (.node ⟨0, n⟩ []) (i + ((digs 4 n.toNat).length : Nat)) ∧ 48 ≤ Yd t i ∧ Yd t i ≤ 57 := by
 obtain ⟨c, l, e1, e2, e3, e4, e5⟩ := digs_spec 4 n.toNat (by omega)
 rw [e1] at h he ⊢
 have c1 := e3 c (by simp)
 have c2 : ∀ x ∈ l, isD x := fun x hx => e3 x (by simp [hx])
 unfold isD at c1
 have hp := h.1
 refine ⟨?_, by omega, by omega⟩
 have key : dg t 5 0 0 i = (n, ((l.length + 1 : Nat) : Int), i + ((l.length + 1 : Nat) : Int)) := by
  simp only [Xb] at he
  rw [dg, hp, Vn]
  by_cases hc : c.toNat = 48
  ·have := e5 hc
   subst this
   rw [dg, if_pos (.inr (.inr ⟨by omega, by rw [hc]; decide⟩))]
   simp only [val, X11, List.foldl_nil, hc] at e4
   refine Prod.ext ?_ (Prod.ext ?_ ?_) <;> simp only [Xj] <;> (try rw [hc]) <;> omega
  ·rw [dg_run l 4 _ _ _ h.2 c2 e2 (by omega) (by omega) (.inr (by rw [show i + 1 + (l.length : Int) = i + ((l.length + 1 : Nat) : Int) by push_cast; omega]; exact he))]
   simp only [val, X11] at e4
   refine Prod.ext ?_ (Prod.ext ?_ ?_)
   ·show val (10 * 0 + ((c.toNat : Nat) - 48 : Int)) l = n
    unfold val; rw [e4]; omega
   ·simp only; push_cast; omega
   ·simp only; push_cast; omega
 rw [qNum, key]
 simp only [Xb]
 rw [Vn]
theorem name_std {n : ByteArray} : ∀ (k : Nat) (i : Int), k ≤ n.size → Std t i (n.data.toList.drop (n.size - k)) → qName t n k i = .ok () (i + (k : Nat))
 | 0, i, _, _ => by simp [qName]
 | k + 1, i, hk, h => by
  have hl : n.size - (k + 1) < n.data.toList.length := by rw [X0h]; exact (by have : n.data.size = n.size := rfl; omega)
  rw [X0k hl] at h
  have e : Y1q n ((n.size - (k + 1) : Nat) : Int) = Yd t i := by
   rw [h.1, Y1q, X06, X8, X2 hl, Xy]
  rw [qName, e, qWant, if_pos rfl, Lf.bind, name_std k (i + 1) (by omega) (by
   have := h.2
   rwa [show n.size - (k + 1) + 1 = n.size - k by omega] at this)]
  rw [show i + 1 + (k : Int) = i + ((k + 1 : Nat) : Int) by push_cast; omega]
theorem name_all {n : ByteArray} (h : Std t i n.data.toList) : qName t n n.size i = .ok () (i + (n.size : Nat)) := name_std _ _ (Xf _) (by rw [Nat.sub_self]; exact h)
theorem peek_txt (h : Yd t i ≠ 0) : i < (t.size : Nat) ∧ Y1q t i = Yd t i := by
 have := Y3t h
 exact ⟨this, by rw [Yd, if_pos this]⟩
theorem word_at {op : Int} (l1 l2 : List Int) (hl : opsW = l1 ++ op :: l2) (hn : ∀ o ∈ l1, Y1q (Y0q o) 0 ≠ Y1q (Y0q op) 0) (h2 : 2 ≤ (Y0q op).size) (hz : Y1q (Y0q op) 1 ≠ 0) (h : Std t i (nameL op ++ [40])) :
  qWord t i = .ok op (i + ((nameL op ++ [40]).length : Nat)) := by
 obtain ⟨ha, hb, _⟩ := Std.app.1 h
 have sz : (nameL op).length = (Y0q op).size := by rw [nameL, X0h]; rfl
 have p0 : Yd t i = Y1q (Y0q op) 0 := by have := ha.get (k := 0) (by omega); simpa [nameL, Y1q] using this
 have p1 : Yd t (i + 1) = Y1q (Y0q op) 1 := by have := ha.get (k := 1) (by omega); simpa [nameL, Y1q] using this
 obtain ⟨q1, q2⟩ := peek_txt (t := t) (i := i + 1) (by rw [p1]; exact hz)
 have fin : Y54 t (op :: l2) i = .ok op (i + ((nameL op ++ [40]).length : Nat)) := by
  rw [Y54, if_pos ⟨p0, q1, by rw [q2, p1]⟩, name_all ha, Lf.bind, qWant, if_pos (by rw [← sz]; exact hb), Lf.bind, X4, sz]
  simp only [Xb, Xj]
  rw [show i + ((Y0q op).size : Int) + 1 = i + (((Y0q op).size + (0 + 1) : Nat) : Int) by push_cast; omega]
 rw [qWord, hl]
 clear hl
 induction l1 with
 | nil => exact fin
 | cons o l1 ih =>
  rw [X03, Y54, if_neg (fun e => hn o (by simp) (by rw [← e.1, p0]))]
  exact ih fun o ho => hn o (by simp [ho])
theorem word_std {op : Int} (ho : op ∈ opsW) (h : Std t i (nameL op ++ [40])) : qWord t i = .ok op (i + ((nameL op ++ [40]).length : Nat)) ∧ 97 ≤ Yd t i ∧ Yd t i ≤ 122 := by
 have ha := (Std.app.1 h).1
 have go : ∀ (l1 l2 : List Int), opsW = l1 ++ op :: l2 → (∀ o ∈ l1, Y1q (Y0q o) 0 ≠ Y1q (Y0q op) 0) → 2 ≤ (Y0q op).size → Y1q (Y0q op) 1 ≠ 0 → 97 ≤ Y1q (Y0q op) 0 ∧ Y1q (Y0q op) 0 ≤ 122 → _ := fun l1 l2 e1 e2 e3 e4 e5 => by
  have p0 : Yd t i = Y1q (Y0q op) 0 := by have := ha.get (k := 0) (by rw [nameL, X0h]; show 0 < (Y0q op).size; omega); simpa [nameL, Y1q] using this
  exact (⟨word_at l1 l2 e1 e2 e3 e4 h, by omega, by omega⟩ : qWord t i = .ok op (i + ((nameL op ++ [40]).length : Nat)) ∧ 97 ≤ Yd t i ∧ Yd t i ≤ 122)
 simp only [opsW, X00, X09, or_false] at ho
 rcases ho with rfl | rfl | rfl | rfl | rfl | rfl | rfl
 ·exact go [] [7, 8, 9, 11, 12, 13] rfl (by decide) (by decide) (by decide) (by decide)
 ·exact go [6] [8, 9, 11, 12, 13] rfl (by decide) (by decide) (by decide) (by decide)
 ·exact go [6, 7] [9, 11, 12, 13] rfl (by decide) (by decide) (by decide) (by decide)
 ·exact go [6, 7, 8] [11, 12, 13] rfl (by decide) (by decide) (by decide) (by decide)
 ·exact go [6, 7, 8, 9] [12, 13] rfl (by decide) (by decide) (by decide) (by decide)
 ·exact go [6, 7, 8, 9, 11] [13] rfl (by decide) (by decide) (by decide) (by decide)
 ·exact go [6, 7, 8, 9, 11, 12] [] rfl (by decide) (by decide) (by decide) (by decide)
theorem nameB_second : ∀ op ∈ opsW, 97 ≤ Y1q (Y0q op) 1 ∧ Y1q (Y0q op) 1 ≤ 122 := by decide
theorem letter_std (h : Stp (Yd t (i + 1))) : ∀ l : List Int, (∀ o ∈ l, o ∈ opsW) → Y54 t l i = .ok 1 (i + 1)
 | [], _ => rfl
 | o :: l, ho => by
  have := nameB_second o (ho o (by simp))
  rw [Y54, if_neg, letter_std h l fun o h => ho o (by simp [h])]
  rintro ⟨_, h2, h3⟩
  have e : Yd t (i + 1) = Y1q t (i + 1) := by rw [Yd, if_pos h2]
  unfold Stp at h
  omega
end
section
open Go.Abs
variable {t : ByteArray} {i j : Int}
def Tr.op : Tr → Int
 | .node n _ => n.Op
theorem hd_flat : ∀ T : Tr, (hd T.flat).Op = T.op
 | .node n ks => by rw [Tr.flat]; rfl
theorem pr_eq (o : Int) : pr o = prec o := by
 unfold pr prec
 split
 ·rfl
 ·by_cases h2 : o = 2
  ·rw [if_pos (.inl h2), if_pos h2]
  ·rw [if_neg h2]
   by_cases h3 : o = 3
   ·rw [if_pos (.inr h3), if_pos h3]
   ·rw [Vn, if_neg h3]
theorem Ev.atom {p : Int} {r : Rr} {l : List Tr} (hA : Ev t (.A i) (.ok l j)) (hL : Ev t (.L p l j) r) : Ev t (.E p i) r := by
 obtain ⟨a, ha⟩ := hA.ge
 obtain ⟨b, hb⟩ := hL.ge
 refine Ev.st hL.1 (k := a + b) ?_
 show ((rd t (a + b) (.A i)).bind fun l j => rd t (a + b) (.L p l j)) = r
 rw [ha _ (by omega), Rr.bind, hb _ (by omega)]
theorem Ev.stop {p : Int} {l : List Tr} (h : ∀ o, opOf (Yd t j) = some o → prec o < p) : Ev t (.L p l j) (.ok l j) := by
 refine Ev.st (by intro e; cases e) (k := 0) ?_
 simp only [stp]
 cases ho : opOf (Yd t j) with
 | none => rfl
 | some o => have := h o ho; simp only; rw [Vn]
def Rds (t : ByteArray) (T : Tr) : Prop := ∀ (p i : Int) (r : Rr), p ≤ prec T.op → Std t i T.tx → Fol t (prec T.op) (i + (T.tx.length : Nat)) → Ev t (.L p [T] (i + (T.tx.length : Nat))) r → Ev t (.E p i) r
theorem opOf_none {b : Int} (hb : b = 44 ∨ b = 59 ∨ b = 41 ∨ b = 0) : opOf b = none := by
 unfold opOf
 rw [Vn, Vn, Vn, Vn]
theorem Rds.operand {T : Tr} (h : Rds t T) (hs : Std t i T.tx) {b : Int} (hb : Yd t (i + (T.tx.length : Nat)) = b) (hb2 : b = 44 ∨ b = 59 ∨ b = 41 ∨ b = 0) : Ev t (.E 1 i) (.ok [T] (i + (T.tx.length : Nat))) :=
 h 1 i _ (prec_one _).1 hs (Fol.of hb hb2) (Ev.stop fun o ho => by rw [hb, opOf_none hb2] at ho; cases ho)
theorem Rds.ofA {T : Tr} (h : ∀ i, Std t i T.tx → Fol t (prec T.op) (i + (T.tx.length : Nat)) → Ev t (.A i) (.ok [T] (i + (T.tx.length : Nat)))) : Rds t T := fun p i r _ hs hf hL => Ev.atom (h i hs hf) hL
theorem Std.cons {c : UInt8} {l : List UInt8} : Std t i (c :: l) ↔ Yd t i = ((c.toNat : Nat) : Int) ∧ Std t (i + 1) l := Iff.rfl
theorem sepOf_big {n : Y4} (h : 5 < n.Op) (k : Nat) : (sepOf n k).toNat = 44 ∨ (sepOf n k).toNat = 59 := by
 unfold sepOf
 rw [Vn]
 split <;> simp
theorem after_std {n : Y4} (h : 5 < n.Op) {k : Nat} : ∀ {us : List Tr} {j : Int}, Std t j (txs n (k + 1) us ++ [41]) → ∃ b, Yd t j = b ∧ (b = 44 ∨ b = 59 ∨ b = 41 ∨ b = 0)
 | [], j, hs => ⟨_, hs.1, by simp⟩
 | x :: us, j, hs => by
  rw [txs, Vn] at hs
  refine ⟨_, hs.1, ?_⟩
  rcases sepOf_big h (k + 1) with e | e <;> rw [e] <;> simp
theorem close_std {op : Int} {l : List Tr} (h : Yd t j = 41) : Y2z t op l j = .ok [.node ⟨op, 0⟩ l] (j + 1) := by rw [Y2z, if_pos h]
def isNum (x : Tr) : Prop := ∃ n : Int, 0 ≤ n ∧ n ≤ 99999 ∧ x = .node ⟨0, n⟩ []
theorem num_tx (n : Int) : (Tr.node ⟨0, n⟩ []).tx = digs 4 n.toNat := by rw [Tr.tx, if_pos rfl]
theorem num_ok {x : Tr} (h : isNum x) (hs : Std t i x.tx) (he : Stp (Yd t (i + (x.tx.length : Nat)))) : qNum t i = .ok x (i + (x.tx.length : Nat)) := by
 obtain ⟨n, h0, h1, rfl⟩ := h
 rw [num_tx] at hs he ⊢
 exact (num_std h0 h1 hs he.1).1
theorem stp_of {b : Int} (h : b = 44 ∨ b = 59 ∨ b = 41 ∨ b = 0) : Stp b := by unfold Stp; omega
theorem sumL_std {n : Y4} (hn : n.Op = 12) (h2 : 2 ≤ n.N) {z : Tr} (hz : isNum z) : ∀ (xs l : List Tr) (f : Nat) (j : Int), (∀ x ∈ xs, isNum x) → 1 ≤ l.length → (l.length : Int) + (xs.length : Nat) = n.N → xs.length ≤ f →
  Std t j (txs n l.length (xs ++ [z]) ++ [41]) → ((qSumL t f l j).bind fun l j => qSumR t l j) = .ok (.node ⟨12, n.N⟩ (l ++ xs ++ [z])) (j + ((txs n l.length (xs ++ [z])).length : Nat) + 1)
 | [], l, f, j, _, hl, hN, _, hs => by
  obtain ⟨k, hk⟩ : ∃ k, l.length = k + 1 := ⟨l.length - 1, by omega⟩
  have esep : sepOf n l.length = 59 := by unfold sepOf; rw [Vn, if_pos (.inl ⟨hn, by simpa using hN⟩)]
  have etx : txs n l.length ([] ++ [z]) = 59 :: z.tx := by
   rw [X0a, txs, Vn, esep, txs, X0e]; rfl
  rw [etx] at hs ⊢
  rw [X03, Std.cons] at hs
  obtain ⟨a1, a2⟩ := hs
  obtain ⟨a3, a4⟩ := Std.app.1 a2
  have e0 : qSumL t f l j = .ok l j := by
   cases f with
   | zero => rfl
   | succ f => rw [qSumL, if_neg (by rw [a1]; decide)]
  have hp := a4.1
  rw [e0, Lf.bind, qSumR, if_neg (by simp at hN; omega), qWant, if_pos (by rw [a1]; rfl), Lf.bind, num_ok hz a3 (by rw [hp]; exact stp_of (by simp)), Lf.bind, qWant, if_pos (by rw [hp]; rfl), Lf.bind]
  simp only [X0e, Xb]
  rw [show (n.N : Int) = (l.length : Int) by simpa using hN.symm]
  congr 1
  push_cast
  omega
 | x :: xs, l, f, j, hx, hl, hN, hf, hs => by
  obtain ⟨f, rfl⟩ : ∃ m, f = m + 1 := ⟨f - 1, by simp at hf; omega⟩
  have esep : sepOf n l.length = 44 := by
   unfold sepOf
   rw [Vn, if_neg]
   rintro (h | h)
   ·simp only [Xb] at hN; push_cast at hN; omega
   ·omega
  have etx : txs n l.length (x :: xs ++ [z]) = 44 :: (x.tx ++ txs n (l.length + 1) (xs ++ [z])) := by
   rw [X03, txs, Vn, esep]; rfl
  rw [etx] at hs ⊢
  rw [X03, Std.cons, Xs] at hs
  obtain ⟨a1, a2⟩ := hs
  obtain ⟨a3, a4⟩ := Std.app.1 a2
  obtain ⟨b, b1, b2⟩ := after_std (by omega) a4
  have ih := sumL_std hn h2 hz xs (l ++ [x]) f (j + 1 + (x.tx.length : Nat)) (fun y hy => hx y (by simp [hy])) (by simp) (by simp only [X4, Xb, Xj] at hN ⊢; push_cast at hN ⊢; omega) (by simpa using hf) (by simpa using a4)
  rw [qSumL, if_pos (by rw [a1]; rfl), num_ok (hx x (by simp)) a3 (by rw [b1]; exact stp_of b2)]
  show ((qSumL t f (l ++ [x]) (j + 1 + (x.tx.length : Nat))).bind fun l j => qSumR t l j) = _
  rw [ih]
  simp only [Xs, X03, X0a, X4, Xb, Xj]
  congr 1
  push_cast
  omega
theorem mat_std {n : Y4} (hn : n.Op = 13) {R C : Int} (hR : 1 ≤ R ∧ R ≤ 4) (hC : 1 ≤ C ∧ C ≤ 4) (hN : n.N = 8 * R + C) : ∀ (ks l : List Tr) (r e j : Int), (∀ x ∈ ks, Rds t x) → (l.length : Int) = C * r + e + 1 → 0 ≤ e → e < C → 0 ≤ r → (l.length : Int) + (ks.length : Nat) = R * C →
  Std t j (txs n l.length ks ++ [41]) → Ev t (.M l (if r = 0 then 0 else C) r e j) (.ok [.node n (l ++ ks)] (j + ((txs n l.length ks).length : Nat) + 1))
 | [], l, r, e, j, _, h1, h2, h3, h4, h5, hs => by
  rw [txs, X0a] at hs
  have hp := hs.1
  have hre : r + 1 = R ∧ e + 1 = C := by
   simp only [Xj] at h5
   have hC' : C = 1 ∨ C = 2 ∨ C = 3 ∨ C = 4 := by omega
   rcases hC' with rfl | rfl | rfl | rfl <;> omega
  refine Ev.st (by intro e; cases e) (k := 0) ?_
  simp only [stp]
  have p41 : Yd t j = 41 := by rw [hp]; rfl
  rw [Vn, Vn, if_pos ⟨p41, by split <;> omega⟩]
  rw [txs, X0e, hre.1, hre.2, ← hN, ← hn]
  simp
 | x :: ks, l, r, e, j, hx, h1, h2, h3, h4, h5, hs => by
  obtain ⟨k, hk⟩ : ∃ k, l.length = k + 1 := by
   refine ⟨l.length - 1, ?_⟩
   have := Int.mul_nonneg (by omega : 0 ≤ C) h4
   omega
  have etx : txs n l.length (x :: ks) = sepOf n l.length :: (x.tx ++ txs n (l.length + 1) ks) := by
   rw [txs, Vn]; rfl
  rw [etx] at hs ⊢
  rw [X03, Std.cons, Xs] at hs
  obtain ⟨a1, a2⟩ := hs
  obtain ⟨a3, a4⟩ := Std.app.1 a2
  obtain ⟨b, b1, b2⟩ := after_std (by omega) a4
  have hE := (hx x (by simp)).operand a3 b1 b2
  obtain ⟨m1, hm1⟩ := hE.ge
  have em : n.N % 8 = C := by omega
  have nxt : ∀ r' e' : Int, ((l ++ [x]).length : Int) = C * r' + e' + 1 → 0 ≤ e' → e' < C → 0 ≤ r' → Ev t (.M (l ++ [x]) (if r' = 0 then 0 else C) r' e' (j + 1 + (x.tx.length : Nat))) (.ok [.node n (l ++ x :: ks)] (j + ((sepOf n l.length :: (x.tx ++ txs n (l.length + 1) ks)).length : Nat) + 1)) := fun r' e' g1 g2 g3 g4 => by
   have ih := mat_std hn hR hC hN ks (l ++ [x]) r' e' (j + 1 + (x.tx.length : Nat)) (fun y hy => hx y (by simp [hy])) g1 g2 g3 g4 (by simp only [X4, Xb, Xj] at h5 ⊢; push_cast at h5 ⊢; omega) (by simpa using a4)
   simp only [Xs, X03, X0a, X4, Xb, Xj] at ih ⊢
   rw [show j + ((x.tx.length + (txs n (l.length + 1) ks).length + 1 : Nat) : Int) + 1 = j + 1 + (x.tx.length : Nat) + ((txs n (l.length + 1) ks).length : Nat) + 1 by push_cast; omega]
   exact ih
  have hCs : C = 1 ∨ C = 2 ∨ C = 3 ∨ C = 4 := by omega
  by_cases hl : e + 1 = C
  ·have esep : sepOf n l.length = 59 := by
    unfold sepOf
    rw [Vn, if_pos (.inr ⟨hn, by rw [em, h1]; rcases hCs with rfl | rfl | rfl | rfl <;> omega⟩)]
   have p59 : Yd t j = 59 := by rw [a1, esep]; rfl
   have hr : r + 1 < 4 := by
    simp only [Xb] at h5
    rcases hCs with rfl | rfl | rfl | rfl <;> omega
   obtain ⟨m2, hm2⟩ := (nxt (r + 1) 0 (by simp only [X4, Xb, Xj]; push_cast; rw [h1]; rcases hCs with rfl | rfl | rfl | rfl <;> omega) (by omega) (by omega) (by omega)).ge
   refine Ev.st (by intro e; cases e) (k := m1 + m2) ?_
   simp only [stp]
   rw [Vn, if_pos ⟨p59, by split <;> omega, hr⟩, hm1 _ (by omega), Rr.bind]
   have := hm2 (m1 + m2) (by omega)
   rw [Vn] at this
   rw [hl]
   exact this
  ·have esep : sepOf n l.length = 44 := by
    unfold sepOf
    rw [Vn, if_neg]
    rintro (h | h)
    ·omega
    ·have := h.2
     rw [em, h1] at this
     rcases hCs with rfl | rfl | rfl | rfl <;> omega
   have p44 : Yd t j = 44 := by rw [a1, esep]; rfl
   obtain ⟨m2, hm2⟩ := (nxt r (e + 1) (by simp only [X4, Xb, Xj]; push_cast; rw [h1]; omega) (by omega) (by omega) (by omega)).ge
   refine Ev.st (by intro e; cases e) (k := m1 + m2) ?_
   simp only [stp]
   rw [if_pos ⟨p44, by (repeat' split) <;> omega⟩, hm1 _ (by omega), Rr.bind]
   exact hm2 (m1 + m2) (by omega)
theorem std_name {op : Int} {l : List UInt8} : Std t i (nameL op ++ 40 :: l) ↔ Std t i (nameL op ++ [40]) ∧ Std t (i + ((nameL op ++ [40]).length : Nat)) l := by
 rw [← Std.app, Xs]; rfl
theorem A_name {op : Int} (ho : op ∈ opsW) {l : List UInt8} (h : Std t i (nameL op ++ 40 :: l)) {r : Rr} (hr : r ≠ .out) {k : Nat}
  (h2 : (if op = 12 then ofLf (qSum t (i + ((nameL op ++ [40]).length : Nat))) else (rd t k (.E 1 (i + ((nameL op ++ [40]).length : Nat)))).bind fun l j =>
     if op = 13 then rd t k (.M l 0 0 0 j)
     else if pNeed op = 2 then (if Yd t j = 44 then (rd t k (.E 1 (j + 1))).bind fun l2 j => Y2z t op (l ++ l2) j else .err j)
     else Y2z t op l j) = r) : Ev t (.A i) r := by
 obtain ⟨w1, w2, w3⟩ := word_std ho (std_name.1 h).1
 refine Ev.st hr (k := k) ?_
 simp only [stp]
 rw [Vn, Vn, if_pos ⟨w2, w3⟩, w1]
 simp only
 rw [if_neg (by intro e; subst e; revert ho; decide)]
 exact h2
theorem rds_all (t : ByteArray) : ∀ (d : Nat) (T : Tr), Y2o d T → Rds t T
 | 0, T, h => by cases T; exact h.elim
 | d + 1, .node n ks, h => by
  obtain ⟨h1, h2, h3⟩ := h
  have hk : ∀ x ∈ ks, Rds t x := fun x hx => rds_all t d x (goodL_iff.1 h2 x hx)
  have hc := ar_cases h1
  obtain ⟨o, N⟩ := n
  simp only at hc
  have one : ∀ {l : List Tr}, l.length = 1 → ∃ x, l = [x] := fun {l} h => by
   cases l with
   | nil => simp at h
   | cons x l => cases l with
    | nil => exact ⟨x, rfl⟩
    | cons y l => simp at h
  have two : ∀ {l : List Tr}, l.length = 2 → ∃ x y, l = [x, y] := fun {l} h => by
   cases l with
   | nil => simp at h
   | cons x l =>
    obtain ⟨y, rfl⟩ := one (l := l) (by simpa using h)
    exact ⟨x, y, rfl⟩
  have bin : (o = 2 ∨ o = 3 ∨ o = 4 ∨ o = 5) → Rds t (.node ⟨o, N⟩ ks) := fun ho => by
   unfold ar at h1
   simp only at h1
   rw [Vn, Vn, Vp] at h1
   split at h1
   ·next hN =>
    subst hN
    obtain ⟨a, b, rfl⟩ := two (l := ks) (by simpa using h1.symm)
    have ad0 := h3 0 a rfl
    have ad1 := h3 1 b rfl
    unfold adm at ad0 ad1
    rw [if_pos (by simp only; omega), if_pos rfl, hd_flat, pr_eq, pr_eq] at ad0
    rw [if_pos (by simp only; omega), if_neg (by decide), hd_flat, pr_eq, pr_eq] at ad1
    have ad0 := of_decide_eq_true ad0
    have ad1 := of_decide_eq_true ad1
    simp only at ad0 ad1
    have etx : (Tr.node ⟨o, 0⟩ [a, b]).tx = a.tx ++ sgnC o :: b.tx := by
     rw [Tr.tx, if_neg (by simp only; omega), if_neg (by simp only; omega), wrapT, if_pos (by simp only; omega), txs, txs, txs, if_pos rfl, Vn, sepOf, if_pos (by simp only; omega)]
     simp
    have es : opOf ((sgnC o).toNat : Nat) = some o ∧ Stp ((sgnC o).toNat : Nat) := by
     rcases ho with rfl | rfl | rfl | rfl <;> (unfold Stp; decide)
    intro p i r hp hs hf hL
    rw [etx] at hs hf hL
    have eop : (Tr.node ⟨o, 0⟩ [a, b]).op = o := rfl
    rw [eop] at hp hf
    obtain ⟨s1, s2⟩ := Std.app.1 hs
    rw [Std.cons] at s2
    obtain ⟨s2, s3⟩ := s2
    have ej : i + ((a.tx ++ sgnC o :: b.tx).length : Nat) = i + (a.tx.length : Nat) + 1 + (b.tx.length : Nat) := by
     simp only [X4, Xb]; push_cast; omega
    rw [ej] at hf hL
    refine hk a (by simp) p i r (by omega) s1 ⟨by rw [s2]; exact es.2, fun o' ho' => by rw [s2, es.1] at ho'; cases ho'; exact ad0⟩ ?_
    have hb : Ev t (.E (prec o + 1) (i + (a.tx.length : Nat) + 1)) (.ok [b] (i + (a.tx.length : Nat) + 1 + (b.tx.length : Nat))) :=
     hk b (by simp) (prec o + 1) _ _ (by omega) s3 ⟨hf.1, fun o' ho' => by have := hf.2 o' ho'; omega⟩ (Ev.stop fun o' ho' => by have := hf.2 o' ho'; omega)
    obtain ⟨m1, hm1⟩ := hb.ge
    obtain ⟨m2, hm2⟩ := hL.ge
    refine Ev.st hL.1 (k := m1 + m2) ?_
    simp only [stp]
    rw [s2, es.1]
    simp only
    rw [if_pos hp, hm1 _ (by omega), Rr.bind]
    exact hm2 _ (by omega)
   ·cases h1
  have uno : (o = 9 ∨ o = 11) → Rds t (.node ⟨o, N⟩ ks) := fun ho => Rds.ofA fun i hs _ => by
   unfold ar at h1
   simp only at h1
   rw [Vn, Vn, Vn, Vp] at h1
   split at h1
   ·next hN =>
    subst hN
    obtain ⟨a, rfl⟩ := one (l := ks) (by simpa using h1.symm)
    have etx : (Tr.node ⟨o, 0⟩ [a]).tx = nameL o ++ 40 :: (a.tx ++ [41]) := by
     rw [Tr.tx, if_neg (by simp only; omega), if_neg (by simp only; omega), wrapT, if_neg (by simp only; omega), if_neg (by simp only; omega), txs, txs, if_pos rfl]
     simp
    rw [etx] at hs ⊢
    obtain ⟨s1, s2⟩ := Std.app.1 (std_name.1 hs).2
    have hp := s2.1
    have hE := (hk a (by simp)).operand s1 hp (by simp)
    obtain ⟨m1, hm1⟩ := hE.ge
    have mem : o ∈ opsW := by rcases ho with rfl | rfl <;> decide
    refine A_name mem hs (by intro e; cases e) (k := m1) ?_
    rw [Vn, hm1 _ (by omega), Rr.bind, Vn, if_neg (by rcases ho with rfl | rfl <;> decide), close_std (by rw [hp]; rfl)]
    simp only [X4, Xb, Xj]
    congr 1
    push_cast
    omega
   ·cases h1
  have duo : (o = 6 ∨ o = 7 ∨ o = 8) → Rds t (.node ⟨o, N⟩ ks) := fun ho => Rds.ofA fun i hs _ => by
   unfold ar at h1
   simp only at h1
   rw [Vn, Vn, Vp] at h1
   split at h1
   ·next hN =>
    subst hN
    obtain ⟨a, b, rfl⟩ := two (l := ks) (by simpa using h1.symm)
    have esep : sepOf ⟨o, 0⟩ 1 = 44 := by
     unfold sepOf
     rw [if_neg (by simp only; omega), if_neg (by simp only; omega)]
    have etx : (Tr.node ⟨o, 0⟩ [a, b]).tx = nameL o ++ 40 :: (a.tx ++ 44 :: (b.tx ++ [41])) := by
     rw [Tr.tx, if_neg (by simp only; omega), if_neg (by simp only; omega), wrapT, if_neg (by simp only; omega), if_neg (by simp only; omega), txs, txs, txs, if_pos rfl, Vn, esep]
     simp
    rw [etx] at hs ⊢
    obtain ⟨s1, s2⟩ := Std.app.1 (std_name.1 hs).2
    rw [Std.cons] at s2
    obtain ⟨s2, s3⟩ := s2
    obtain ⟨s3, s4⟩ := Std.app.1 s3
    have hp := s4.1
    obtain ⟨m1, hm1⟩ := ((hk a (by simp)).operand s1 s2 (by simp)).ge
    obtain ⟨m2, hm2⟩ := ((hk b (by simp)).operand s3 hp (by simp)).ge
    have mem : o ∈ opsW := by rcases ho with rfl | rfl | rfl <;> decide
    refine A_name mem hs (by intro e; cases e) (k := m1 + m2) ?_
    rw [Vn, hm1 _ (by omega), Rr.bind, Vn, if_pos (by rcases ho with rfl | rfl | rfl <;> decide), if_pos (by rw [s2]; rfl), hm2 _ (by omega), Rr.bind, close_std (by rw [hp]; rfl)]
    simp only [X4, Xb, Xj]
    congr 1
    push_cast
    omega
   ·cases h1
  rcases hc with rfl | rfl | rfl | rfl | rfl | rfl | rfl | rfl | rfl | rfl | rfl | rfl | rfl | rfl
  ·refine Rds.ofA fun i hs hf => ?_
   unfold ar at h1
   rw [if_pos rfl] at h1
   split at h1
   ·next hN =>
    have : ks = [] := Xn (by simpa using h1.symm)
    subst this
    rw [num_tx] at hs hf ⊢
    obtain ⟨n1, n2, n3⟩ := num_std hN.1 hN.2 hs hf.1.1
    refine Ev.st (by intro e; cases e) (k := 0) ?_
    simp only [stp]
    rw [if_pos ⟨n2, n3⟩, n1]
    rfl
   ·cases h1
  ·refine Rds.ofA fun i hs hf => ?_
   unfold ar at h1
   rw [if_neg (by simp), if_pos rfl] at h1
   split at h1
   ·next hN =>
    simp only at hN
    have : ks = [] := Xn (by simpa using h1.symm)
    subst this
    have etx : (Tr.node ⟨1, N⟩ []).tx = [UInt8.ofNat (97 + N.toNat)] := by rw [Tr.tx, if_neg (by simp), if_pos rfl]
    rw [etx] at hs hf ⊢
    have hp := hs.1
    rw [Y50 (by omega)] at hp
    have hw : qWord t i = .ok 1 (i + 1) := letter_std hf.1 opsW fun _ h => h
    refine Ev.st (by intro e; cases e) (k := 0) ?_
    simp only [stp]
    rw [Vn, Vn, Vp, hw]
    show (if (1 : Int) = 1 then Rr.ok [.node ⟨1, Yd t i - 97⟩ []] (i + 1) else _) = _
    rw [if_pos rfl, show Yd t i - 97 = N by omega]
    rfl
   ·cases h1
  ·exact bin (by simp)
  ·exact bin (by simp)
  ·exact bin (by simp)
  ·exact bin (by simp)
  ·exact duo (by simp)
  ·exact duo (by simp)
  ·exact duo (by simp)
  ·exact uno (by simp)
  ·refine Rds.ofA fun i hs _ => ?_
   unfold ar at h1
   rw [if_neg (by simp), if_neg (by simp), if_neg (by simp), if_pos (by simp)] at h1
   split at h1
   ·next hN =>
    simp only at hN
    subst hN
    obtain ⟨a, rfl⟩ := one (l := ks) (by simpa using h1.symm)
    have etx : (Tr.node ⟨10, 0⟩ [a]).tx = 40 :: (a.tx ++ [41]) := by
     rw [Tr.tx, if_neg (by simp), if_neg (by simp), wrapT, if_neg (by simp), if_pos rfl, txs, txs, if_pos rfl]
     simp
    rw [etx] at hs ⊢
    rw [Std.cons] at hs
    obtain ⟨s0, s1⟩ := hs
    obtain ⟨s1, s2⟩ := Std.app.1 s1
    have hp := s2.1
    obtain ⟨m1, hm1⟩ := ((hk a (by simp)).operand s1 hp (by simp)).ge
    have s0 : Yd t i = 40 := by rw [s0]; rfl
    refine Ev.st (by intro e; cases e) (k := m1) ?_
    simp only [stp]
    rw [Vn, if_pos s0, hm1 _ (by omega), Rr.bind, close_std (by rw [hp]; rfl)]
    simp only [X4, Xb, Xj]
    congr 1
    push_cast
    omega
   ·cases h1
  ·exact uno (by simp)
  ·refine Rds.ofA fun i hs _ => ?_
   unfold ar at h1
   rw [if_neg (by simp), if_neg (by simp), if_neg (by simp), if_neg (by simp), if_pos rfl] at h1
   split at h1
   ·next hN =>
    simp only at hN
    have hl : ks.length = N.toNat + 1 := by simpa using h1.symm
    have nums : ∀ x ∈ ks, isNum x := fun x hx => by
     obtain ⟨m, hm⟩ := List.mem_iff_getElem?.1 hx
     have ad := h3 m x hm
     unfold adm at ad
     rw [if_neg (by simp only; omega), if_pos rfl, hd_flat] at ad
     have ad := of_decide_eq_true ad
     have g := goodL_iff.1 h2 x hx
     cases d with
     | zero => cases x; exact g.elim
     | succ d =>
      obtain ⟨⟨o', N'⟩, ks'⟩ := x
      obtain ⟨g1, _, _⟩ := g
      have ad : o' = 0 := ad
      subst ad
      unfold ar at g1
      rw [if_pos rfl] at g1
      split at g1
      ·next hN' =>
       have : ks' = [] := Xn (by simpa using g1.symm)
       subst this
       exact ⟨N', hN'.1, hN'.2, rfl⟩
      ·cases g1
    obtain ⟨x, us, rfl⟩ : ∃ x us, ks = x :: us := by
     cases ks with
     | nil => simp at hl
     | cons x us => exact ⟨x, us, rfl⟩
    have hus : us ≠ [] := by intro e; subst e; simp at hl; omega
    obtain ⟨xs, z, rfl⟩ : ∃ xs z, us = xs ++ [z] := ⟨us.dropLast, us.getLast hus, (List.dropLast_concat_getLast hus).symm⟩
    have etx : (Tr.node ⟨12, N⟩ (x :: (xs ++ [z]))).tx = nameL 12 ++ 40 :: (x.tx ++ (txs ⟨12, N⟩ 1 (xs ++ [z]) ++ [41])) := by
     rw [Tr.tx, if_neg (by simp), if_neg (by simp), wrapT, if_neg (by simp), if_neg (by simp), txs, if_pos rfl]
     simp
    rw [etx] at hs ⊢
    obtain ⟨s1, s2⟩ := Std.app.1 (std_name.1 hs).2
    obtain ⟨b, b1, b2⟩ := after_std (n := ⟨12, N⟩) (by simp) s2
    have hS := sumL_std (t := t) (n := ⟨12, N⟩) rfl hN.1 (nums z (by simp)) xs [x] 4 _ (fun y hy => nums y (by simp [hy])) (by simp) (by simp at hl ⊢; omega) (by simp at hl; omega) s2
    refine A_name (by decide) hs (by intro e; cases e) (k := 0) ?_
    rw [if_pos rfl, qSum, num_ok (nums x (by simp)) s1 (by rw [b1]; exact stp_of b2)]
    show ofLf ((qSumL t 4 [x] _).bind fun l j => qSumR t l j) = _
    rw [hS]
    simp only [ofLf, X4, Xb, Xj, X03, X0a]
    congr 1
    push_cast
    omega
   ·cases h1
  ·refine Rds.ofA fun i hs _ => ?_
   unfold ar at h1
   rw [if_neg (by simp), if_neg (by simp), if_neg (by simp), if_neg (by simp), if_neg (by simp), if_pos rfl] at h1
   split at h1
   ·next hN =>
    simp only at hN
    have hl : ((ks.length : Nat) : Int) = N / 8 * (N % 8) := by
     have e : ks.length = (N / 8 * (N % 8)).toNat := by simpa using h1.symm
     have := mat_mul hN
     omega
    obtain ⟨x, us, rfl⟩ : ∃ x us, ks = x :: us := by
     cases ks with
     | nil =>
      exfalso
      have h8 : N / 8 = 1 ∨ N / 8 = 2 ∨ N / 8 = 3 ∨ N / 8 = 4 := by omega
      rcases h8 with e | e | e | e <;> rw [e] at hl <;> simp at hl <;> omega
     | cons x us => exact ⟨x, us, rfl⟩
    have etx : (Tr.node ⟨13, N⟩ (x :: us)).tx = nameL 13 ++ 40 :: (x.tx ++ (txs ⟨13, N⟩ 1 us ++ [41])) := by
     rw [Tr.tx, if_neg (by simp), if_neg (by simp), wrapT, if_neg (by simp), if_neg (by simp), txs, if_pos rfl]
     simp
    rw [etx] at hs ⊢
    obtain ⟨s1, s2⟩ := Std.app.1 (std_name.1 hs).2
    obtain ⟨b, b1, b2⟩ := after_std (n := ⟨13, N⟩) (by simp) s2
    obtain ⟨m1, hm1⟩ := ((hk x (by simp)).operand s1 b1 b2).ge
    have hM := mat_std (t := t) (n := ⟨13, N⟩) rfl (R := N / 8) (C := N % 8) (by omega) (by omega) (by simp only; omega) us [x] 0 0 _ (fun y hy => hk y (by simp [hy])) (by simp) (by omega) (by omega) (by omega) (by simp only [Xb, Xj] at hl ⊢; push_cast at hl ⊢; omega) s2
    obtain ⟨m2, hm2⟩ := hM.ge
    refine A_name (by decide) hs (by intro e; cases e) (k := m1 + m2) ?_
    rw [if_neg (by simp), hm1 _ (by omega), Rr.bind, if_pos rfl]
    have := hm2 (m1 + m2) (by omega)
    rw [if_pos rfl] at this
    rw [this]
    simp only [X4, Xb, Xj, X03, X0a]
    congr 1
    push_cast
    omega
   ·cases h1
theorem B_peek (l : List UInt8) (k : Nat) (h : k < l.length) : Yd ⟨l.toArray⟩ (k : Int) = (((l.getD k 0).toNat : Nat) : Int) := by
 have hs : (⟨l.toArray⟩ : ByteArray).size = l.length := rfl
 rw [Yd, if_pos (by rw [hs]; omega)]
 rfl
theorem std_self : ∀ (l pre : List UInt8), Std ⟨(pre ++ l).toArray⟩ (pre.length : Nat) l
 | [], pre => trivial
 | c :: l, pre => by
  refine ⟨?_, ?_⟩
  ·rw [B_peek _ _ (by simp)]
   rw [X8, X04 (by omega)]
   simp
  ·have := std_self l (pre ++ [c])
   rw [Xs] at this
   simpa using this
theorem peek_end (l : List UInt8) : Yd ⟨l.toArray⟩ (l.length : Nat) = 0 := by
 have hs : (⟨l.toArray⟩ : ByteArray).size = l.length := rfl
 rw [Yd, if_neg (by rw [hs]; omega)]
theorem rdF_tx {d : Nat} {T : Tr} (h : Y2o d T) : rdF ⟨T.tx.toArray⟩ = .ok [T] (T.tx.length : Nat) := by
 refine rdF_ev ?_
 have hs := std_self T.tx []
 have := (rds_all ⟨T.tx.toArray⟩ d T h).operand (i := 0) hs (b := 0) (by rw [Int.zero_add]; exact peek_end _) (by simp)
 rwa [Int.zero_add] at this
end
open Go.Abs
theorem digs_len (k n : Nat) : (digs k n).length ≤ k + 1 := by
 induction k generalizing n with
 | zero => simp [digs]
 | succ k ih =>
  rw [digs]
  split
  ·simp
  ·have := ih (n / 10); simp; omega
theorem nameB_len (op : Int) : (Y0q op).size ≤ 6 := by
 unfold Y0q
 repeat' split
 all_goals decide
theorem nameL_len (op : Int) : (nameL op).length ≤ 6 := by
 have := nameB_len op
 rw [nameL, X0h]
 exact this
mutual
theorem tx_len : ∀ T : Tr, T.tx.length + 1 ≤ 10 * T.flat.length
 | .node n ks => by
  have h := txs_len n 0 ks
  rw [Tr.tx, Tr.flat]
  simp only [Xb]
  split
  ·have := digs_len 4 n.N.toNat; omega
  ·split
   ·simp; omega
   ·unfold wrapT
    split
    ·omega
    ·have := nameL_len n.Op
     split <;> simp <;> omega
theorem txs_len : ∀ (n : Y4) (k : Nat) (ks : List Tr), (txs n k ks).length ≤ 10 * (flatL ks).length
 | n, k, [] => by simp [txs]
 | n, k, x :: xs => by
  have h1 := tx_len x
  have h2 := txs_len n (k + 1) xs
  rw [txs, flatL]
  simp only [X4]
  split <;> simp <;> omega
end
theorem strOf_one {c : Int} (h : 0 ≤ c ∧ c ≤ 255) : strOf [IntKind.wrap .u8 c] = B [UInt8.ofNat c.toNat] := by
 rw [wrap_u8' h, strOf_B]; rfl
theorem tdiv10 (n : Nat) : Int.tdiv (n : Int) 10 = ((n / 10 : Nat) : Int) := by rw [Int.tdiv_eq_ediv_of_nonneg (by omega)]; rfl
theorem tmod10 (n : Nat) : Int.tmod (n : Int) 10 = ((n % 10 : Nat) : Int) := by rw [X0r (by omega)]; rfl
theorem digits_ok : ∀ (k n m : Nat), k ≤ 100 → n < 10 ^ (k + 1) → n ≤ 100000 → Y2v (m + k + 1) (n : Int) = some (B (digs k n))
 | 0, n, m, _, h, _ => by
  rw [Y2v]
  unfold Y3o
  rw [Y3b (by omega), Y3h (by omega), strOf_one (by omega)]
  rw [show (48 + (n : Int)).toNat = 48 + n by omega]
  rfl
 | k + 1, n, m, hk, h, hn => by
  rw [Y2v]
  unfold Y3o
  by_cases h1 : n < 10
  ·rw [Y3b (by omega), Y3h (by omega), strOf_one (by omega), digs, if_pos h1]
   rw [show (48 + (n : Int)).toNat = 48 + n by omega]
  ·have e := digits_ok k (n / 10) m (by omega) (by rw [Nat.pow_succ] at h; omega) (by omega)
   rw [Y2x (by omega), tdiv10, tmod10, Y3h (by omega), show m + (k + 1) = m + k + 1 by omega, e, X9, Y3h (by omega), strOf_one (by omega), Y2q (by
    rw [B_size, B_size]
    have := digs_len k (n / 10)
    simp only [Xb, Xj]
    omega), B_app, digs, if_neg h1]
   rw [show (48 + ((n % 10 : Nat) : Int)).toNat = 48 + n % 10 by omega]
theorem R09_Digits_ok {n : Int} (h0 : 0 ≤ n) (h1 : n ≤ 99999) : f_R09_Digits n = some (B (digs 4 n.toNat)) := by
 have := digits_ok 4 n.toNat 999995 (by omega) (by omega) (by omega)
 rw [show ((n.toNat : Nat) : Int) = n by omega] at this
 exact this
theorem R09_name_ok {o : Int} (h : o = 6 ∨ o = 7 ∨ o = 8 ∨ o = 9 ∨ o = 10 ∨ o = 11 ∨ o = 12 ∨ o = 13) : f_R09_name o = some (B (if o = 10 then [] else nameL o)) := by
 rcases h with rfl | rfl | rfl | rfl | rfl | rfl | rfl | rfl <;> rfl
abbrev fls (ks : List Tr) : List (List Y4) := ks.map Tr.flat
def TxOk (f : List Y4) (rc : List Y4 → Int → Option ByteArray) (T : Tr) : Prop := ∀ pre post : List Y4, f = pre ++ T.flat ++ post → rc f (pre.length : Int) = some (B T.tx)
def txB (f : List Y4) (i : Int) (l : List Int) (rc : List Y4 → Int → Option ByteArray) : (ByteArray × Int → Option ByteArray) → ByteArray × Int → Option ByteArray := fun loop s => Y2k rc f i l loop s.1 s.2
theorem tmod_nat (a b : Int) (h : 0 ≤ a) : Int.tmod a b = a % b := X0r h
theorem bsz {a b : List UInt8} (h : a.length + b.length ≤ 9000000000) : (B a).size + (B b).size ≤ 9223372036854775807 := by rw [B_size, B_size]; omega
theorem tx_run {f pre post : List Y4} {n : Y4} {ks : List Tr} {rc : List Y4 → Int → Option ByteArray} (hf : f = pre ++ (n :: (fls ks).flatten) ++ post) (hl : f.length ≤ 100000) (hn : 6 ≤ n.Op) (ha : ar n = some ks.length)
  (hk : ∀ x ∈ ks, TxOk f rc x) : ∀ (ls done : List Tr) (acc : List UInt8) (m : Nat), ks = done ++ ls → acc.length ≤ 10 + 10 * (flatL done).length →
  iter (txB f (pre.length : Int) (offs (pre.length + 1) (fls ks)) rc) (m + 1 + ls.length) (B acc, (done.length : Int)) = some (B (acc ++ txs n done.length ls ++ [41])) := by
 have hg : f.getD ((pre.length : Nat) : Int).toNat Yf = n := by rw [hf, Xs]; exact getD_mid _ _ _
 have h16 := ar_le ha
 have tot : (flatL ks).length ≤ 100000 := by
  rw [flatL_map]
  show (fls ks).flatten.length ≤ _
  rw [hf] at hl
  simp only [X4, Xb] at hl
  omega
 intro ls
 induction ls with
 | nil =>
  intro done acc m he hacc
  have hd : done = ks := by simpa using he.symm
  subst hd
  rw [show m + 1 + ([] : List Tr).length = m + 1 by simp, Y0r]
  unfold txB Y2k
  simp only
  rw [Y2x (by rw [Y4y, X02]; omega), show (⟨#[41]⟩ : ByteArray) = B [41] from rfl, Y2q (bsz (by simp only [Xb, Xj]; omega)), B_app, txs, X0e]
 | cons x ls ih =>
  intro done acc m he hacc
  have hdl : done.length < (fls ks).length := by rw [X02, he]; simp
  have hdk : done.length < ks.length := by rw [he]; simp
  have hx : x ∈ ks := by rw [he]; simp
  have fd : (flatL done).length + x.flat.length ≤ (flatL ks).length := by
   rw [flatL_map, flatL_map, he]; simp only [X0v, Xp, X17, X0j, X4]; omega
  have tl := tx_len x
  have epos : (offs (pre.length + 1) (fls ks)).getD ((done.length : Nat) : Int).toNat 0 = ((pre.length + 1 + (fls done).flatten.length : Nat) : Int) := by
   rw [X06, offs_get _ _ _ hdl]
   have : (fls ks).take done.length = fls done := by rw [he]; simp
   rw [this]
  have hrec : rc f (((pre.length + 1 + (fls done).flatten.length : Nat) : Int)) = some (B x.tx) := by
   have := hk x hx (pre ++ n :: (fls done).flatten) ((fls ls).flatten ++ post) (by rw [hf, he]; simp)
   rw [show (pre ++ n :: (fls done).flatten).length = pre.length + 1 + (fls done).flatten.length by simp only [X4, Xb]; omega] at this
   exact this
  have nx := fun (a2 : List UInt8) (h2 : a2.length ≤ 10 + 10 * (flatL (done ++ [x])).length) => ih (done ++ [x]) a2 m (by rw [he]; simp) h2
  rw [show m + 1 + (x :: ls).length = (m + 1 + ls.length) + 1 by simp only [Xb]; omega, Y0r]
  generalize iter (txB f (pre.length : Int) (offs (pre.length + 1) (fls ks)) rc) (m + 1 + ls.length) = L at nx ⊢
  have step : ∀ a : List UInt8, a.length ≤ acc.length + 1 → Y2j rc f (offs (pre.length + 1) (fls ks)) L (done.length : Int) (B a) = some (B (a ++ (x.tx ++ txs n (done.length + 1) ls) ++ [41])) := fun a ha2 => by
   unfold Y2j Y4h
   rw [Y2q (by rw [Y4y]; omega), epos, hrec, X9, Y2q (bsz (by omega)), B_app, Y3h (by omega)]
   have := nx (a ++ x.tx) (by
    rw [flatL_map] at hacc ⊢
    simp only [X0v, Xp, X0q, X17, X0j, List.flatten_nil, X4, Xj]
    omega)
   rw [show ((done ++ [x]).length : Int) = (done.length : Int) + 1 by simp] at this
   rw [this]
   simp
  unfold txB Y2k
  simp only
  rw [Y3b (by rw [Y4y]; omega)]
  by_cases h0 : done.length = 0
  ·rw [Y2x (by omega)]
   have := step acc (by omega)
   refine Eq.trans this ?_
   rw [txs, if_pos h0]
   simp
  ·rw [Y3b (by omega), hg, Y4y, Y2q (by intro _; have : (fls ks).length = ks.length := X02 _; unfold inR; omega)]
   have k3 : ∀ c : UInt8, Y2i rc f (offs (pre.length + 1) (fls ks)) L (B acc) (done.length : Int) (B [c]) = some (B (acc ++ c :: (x.tx ++ txs n (done.length + 1) ls) ++ [41])) := fun c => by
    unfold Y2i
    rw [Y2q (bsz (by simp only [Xb, Xj]; omega)), B_app]
    have := step (acc ++ [c]) (by simp)
    refine Eq.trans this ?_
    simp
   have hN8 : n.Op = 13 → 1 ≤ n.N % 8 ∧ 0 ≤ n.N := fun h13 => by
    unfold ar at ha
    rw [Vn, Vn, Vn, Vn, Vn, if_pos h13] at ha
    split at ha
    ·next h => omega
    ·cases ha
   have hN12 : n.Op = 12 → (ks.length : Int) = n.N + 1 := fun h12 => by
    unfold ar at ha
    rw [Vn, Vn, Vn, Vn, if_pos h12] at ha
    split at ha
    ·next h =>
     have : n.N.toNat + 1 = ks.length := by simpa using ha
     omega
    ·cases ha
   rw [Y2q (by
    intro hh
    simp only [X3, beq_iff_eq] at hh
    obtain ⟨g1, g2⟩ := hN8 hh.2
    rw [tmod_nat _ _ g2]
    omega)]
   have esep : (cond (cond (n.Op == 12) ((done.length : Int) == ((fls ks).length : Int) - 1) false) true (cond (n.Op == 13) (Int.tmod (done.length : Int) (Int.tmod n.N 8) == 0) false)) = decide (n.Op = 12 ∧ (done.length : Int) = n.N ∨ n.Op = 13 ∧ (done.length : Int) % (n.N % 8) = 0) := by
    by_cases h12 : n.Op = 12
    ·have := hN12 h12
     rw [h12, X02]
     simp only [beq_self_eq_true, cond_true, true_and]
     by_cases hd : (done.length : Int) = n.N
     ·rw [show ((done.length : Int) == (ks.length : Int) - 1) = true by rw [beq_iff_eq]; omega, decide_eq_true (.inl hd)]; rfl
     ·rw [show ((done.length : Int) == (ks.length : Int) - 1) = false by rw [beq_eq_false_iff_ne]; omega, decide_eq_false (by rintro (h | h); exact hd h; exact absurd h.1 (by decide))]; rfl
    ·rw [show (n.Op == 12) = false by rw [beq_eq_false_iff_ne]; exact h12]
     simp only [cond_false]
     by_cases h13 : n.Op = 13
     ·obtain ⟨g1, g2⟩ := hN8 h13
      rw [tmod_nat _ _ g2, tmod_nat _ _ (by omega : (0 : Int) ≤ (done.length : Nat)), h13]
      simp only [beq_self_eq_true, cond_true, true_and]
      rw [Bool.eq_iff_iff]
      simp
     ·rw [show (n.Op == 13) = false by rw [beq_eq_false_iff_ne]; exact h13, decide_eq_false (by rintro (h | h); exact h12 h.1; exact h13 h.1)]; rfl
   rw [esep]
   by_cases hs : n.Op = 12 ∧ (done.length : Int) = n.N ∨ n.Op = 13 ∧ (done.length : Int) % (n.N % 8) = 0
   ·rw [Y3b hs]
    rw [show (⟨#[59]⟩ : ByteArray) = B [59] from rfl]
    refine Eq.trans (k3 59) ?_
    rw [txs, if_neg h0, sepOf, Vn, if_pos hs]
    simp
   ·rw [Y2x hs]
    rw [show (⟨#[44]⟩ : ByteArray) = B [44] from rfl]
    refine Eq.trans (k3 44) ?_
    rw [txs, if_neg h0, sepOf, Vn, if_neg hs]
    simp
theorem text_all {f : List Y4} (hl : f.length ≤ 100000) : ∀ (d : Nat) (T : Tr) (m : Nat), Y2o d T → TxOk f (Y24 (m + d)) T
 | 0, T, m, h => by cases T; exact h.elim
 | d + 1, .node n ks, m, h => by
  obtain ⟨h1, h2, h3⟩ := h
  have hk : ∀ x ∈ ks, TxOk f (Y24 (m + d)) x := fun x hx => text_all hl d x m (goodL_iff.1 h2 x hx)
  have hT : ∀ k ∈ fls ks, IsT d k := fun k hk => by
   obtain ⟨T, hT, rfl⟩ := X01.1 hk
   exact good_IsT d T (goodL_iff.1 h2 T hT)
  intro pre post hf
  rw [Tr.flat, flatL_map] at hf
  have ha : ar n = some (fls ks).length := by rw [X02]; exact h1
  have hO := Operands_ok hf hl ha hT
  have hlt : pre.length < f.length := by rw [hf]; simp
  have hg : f.getD ((pre.length : Nat) : Int).toNat Yf = n := by rw [hf, Xs]; exact getD_mid _ _ _
  have h16 := ar_le h1
  have tot : (flatL ks).length ≤ 100000 := by
   rw [flatL_map]
   rw [hf] at hl
   simp only [X4, Xb] at hl
   exact X0g (by omega) hl
  rw [show m + (d + 1) = (m + d) + 1 by omega, Y24]
  unfold f_R09_text_body
  rw [hO, X9, Y2q (by omega), hg]
  have big : 6 ≤ n.Op → Y39 (Y24 (m + d)) f (pre.length : Int) (offs (pre.length + 1) (fls ks)) = some (B (Tr.node n ks).tx) := fun hn => by
   have hc := ar_cases h1
   unfold Y39
   rw [hg, R09_name_ok (by omega), X9, show (⟨#[40]⟩ : ByteArray) = B [40] from rfl]
   have nl : (if n.Op = 10 then [] else nameL n.Op).length ≤ 6 := by
    have := nameL_len n.Op
    split <;> simp <;> omega
   rw [Y2q (bsz (by simp only [Xb, Xj]; omega)), B_app]
   have := tx_run hf hl hn h1 hk ks [] ((if n.Op = 10 then [] else nameL n.Op) ++ [40]) (999999 - ks.length) rfl (by simp only [X4, Xb, Xj]; omega)
   rw [show 999999 - ks.length + 1 + ks.length = 1000000 by omega] at this
   have etx : (Tr.node n ks).tx = (if n.Op = 10 then [] else nameL n.Op) ++ 40 :: (txs n 0 ks ++ [41]) := by
    rw [Tr.tx, Vn, Vn, wrapT, if_neg (show ¬ n.Op ≤ 5 by omega)]
   rw [etx]
   refine Eq.trans this ?_
   simp
  have bin : (n.Op = 2 ∨ n.Op = 3 ∨ n.Op = 4 ∨ n.Op = 5) → Y0z (Y24 (m + d)) f (pre.length : Int) (offs (pre.length + 1) (fls ks)) true = some (B (Tr.node n ks).tx) := fun hn => by
   have e2 : ks.length = 2 := by
    unfold ar at h1
    rw [Vn, Vn, Vp] at h1
    split at h1
    ·simpa using h1.symm
    ·cases h1
   obtain ⟨a, b, rfl⟩ : ∃ a b, ks = [a, b] := by
    cases ks with
    | nil => simp at e2
    | cons a ks => cases ks with
     | nil => simp at e2
     | cons b ks => cases ks with
      | nil => exact ⟨a, b, rfl⟩
      | cons c ks => simp at e2
   have hra := hk a (by simp) (pre ++ [n]) (b.flat ++ post) (by rw [hf]; simp)
   have hrb := hk b (by simp) (pre ++ n :: a.flat) post (by rw [hf]; simp)
   have la := tx_len a
   have lb := tx_len b
   simp only [flatL, X4, X0e] at tot
   unfold Y0z
   have eo : offs (pre.length + 1) (fls [a, b]) = [((pre ++ [n]).length : Int), ((pre ++ n :: a.flat).length : Int)] := by
    have e1 : (pre ++ [n]).length = pre.length + 1 := by simp
    have e3 : (pre ++ n :: a.flat).length = pre.length + 1 + a.flat.length := by simp only [X4, Xb]; omega
    rw [e1, e3]; rfl
   have es : ([(⟨#[]⟩ : ByteArray), (⟨#[]⟩ : ByteArray), (⟨#[43]⟩ : ByteArray), (⟨#[45]⟩ : ByteArray), (⟨#[42]⟩ : ByteArray), (⟨#[61]⟩ : ByteArray)].getD n.Op.toNat ByteArray.empty) = B [sgnC n.Op] := by
    rcases hn with e | e | e | e <;> rw [e] <;> rfl
   rw [cond_true, eo, hg, es, Y2q (by
    simp only [Xb, Xj]; omega), Y2q (by simp only [Xb, Xj]; omega)]
   rw [show ([((pre ++ [n]).length : Int), ((pre ++ n :: a.flat).length : Int)].getD (0 : Int).toNat 0) = ((pre ++ [n]).length : Int) from rfl, hra, X9, Y2q (bsz (by simp only [Xb, Xj]; omega)), Y2q (by simp only [Xb, Xj]; omega)]
   rw [show ([((pre ++ [n]).length : Int), ((pre ++ n :: a.flat).length : Int)].getD (1 : Int).toNat 0) = ((pre ++ n :: a.flat).length : Int) from rfl, hrb, X9, B_app, Y2q (bsz (by simp only [X4, Xb, Xj]; omega)), B_app]
   rw [Tr.tx, Vn, Vn, wrapT, Vp, txs, txs, txs, if_pos rfl, Vn, sepOf, Vp]
   simp
  have k4' : 6 ≤ n.Op → Y0z (Y24 (m + d)) f (pre.length : Int) (offs (pre.length + 1) (fls ks)) false = some (B (Tr.node n ks).tx) := fun hn => by
   unfold Y0z
   rw [cond_false]
   exact big hn
  have hc := ar_cases h1
  have h1' := h1
  by_cases h0 : n.Op = 0
  ·unfold ar at h1'
   rw [if_pos h0] at h1'
   split at h1'
   ·next hN =>
    rw [show (n.Op == 0) = true by rw [beq_iff_eq]; exact h0, cond_true, R09_Digits_ok hN.1 hN.2, X9, Tr.tx, if_pos h0]
   ·cases h1'
  ·rw [show (n.Op == 0) = false by rw [beq_eq_false_iff_ne]; exact h0, cond_false]
   by_cases h1o : n.Op = 1
   ·unfold ar at h1'
    rw [if_neg h0, if_pos h1o] at h1'
    split at h1'
    ·next hN =>
     rw [show (n.Op == 1) = true by rw [beq_iff_eq]; exact h1o, cond_true, Y3h (by omega), strOf_one (by omega), Tr.tx, if_neg h0, if_pos h1o, show ((97 : Int) + n.N).toNat = 97 + n.N.toNat by omega]
    ·cases h1'
   ·rw [show (n.Op == 1) = false by rw [beq_eq_false_iff_ne]; exact h1o, cond_false]
    by_cases h2o : n.Op = 2
    ·rw [show (n.Op == 2) = true by rw [beq_iff_eq]; exact h2o, cond_true]; exact bin (by omega)
    ·rw [show (n.Op == 2) = false by rw [beq_eq_false_iff_ne]; exact h2o, cond_false]
     by_cases h3o : n.Op = 3
     ·rw [show (n.Op == 3) = true by rw [beq_iff_eq]; exact h3o, cond_true]; exact bin (by omega)
     ·rw [show (n.Op == 3) = false by rw [beq_eq_false_iff_ne]; exact h3o, cond_false]
      by_cases h4o : n.Op = 4
      ·rw [show (n.Op == 4) = true by rw [beq_iff_eq]; exact h4o, cond_true]; exact bin (by omega)
      ·rw [show (n.Op == 4) = false by rw [beq_eq_false_iff_ne]; exact h4o, cond_false]
       by_cases h5o : n.Op = 5
       ·rw [show (n.Op == 5) = true by rw [beq_iff_eq]; exact h5o]; exact bin (by omega)
       ·rw [show (n.Op == 5) = false by rw [beq_eq_false_iff_ne]; exact h5o]; exact k4' (by omega)
theorem R09_Text_ok {d : Nat} {T : Tr} (hd : d ≤ 100) (h : Y2o d T) (hl : T.flat.length ≤ 100000) : f_R09_Text T.flat = some (B T.tx) := by
 have := text_all hl d T (1000000 - d) h [] [] (by simp)
 rw [show 1000000 - d + d = 1000000 by omega] at this
 unfold f_R09_Text f_R09_text
 have e : Y24 1000000 T.flat 0 = some (B T.tx) := this
 rw [e, X9]
theorem R09_Print_ok {d : Nat} {T : Tr} (hd : d ≤ 8) (h : Y2o d T) (hl : T.flat.length ≤ 60) : f_R09_Print T.flat = some (B T.tx) := by
 unfold f_R09_Print
 rw [R09_Valid_ok (good_IsT d T h) hd (by omega), X9, decide_eq_true hl, Bool.not_true, cond_false, R09_Text_ok (by omega) h (by omega), X9]
theorem parse_read {t : ByteArray} (hs : t.size ≤ 1000000) {x : Tr} (h : rdF t = .ok [x] (t.size : Nat)) : Y31 t = some (if 60 < (x.flat.length : Int) ∨ 8 < x.dep then ([], 0, 2) else (x.flat, ((t.size : Nat) : Int), 0)) := by
 obtain ⟨y, e, h2⟩ := parse_ok hs h (by omega)
 cases e
 exact h2
theorem rdF_text {d : Nat} {T : Tr} (h : Y2o d T) : rdF (B T.tx) = .ok [T] ((B T.tx).size : Nat) := rdF_tx h
theorem depL_le (d : Int) : ∀ (ks : List Tr) (v : Int), v ≤ d → (∀ k ∈ ks, k.dep + 1 ≤ d) → depL v ks ≤ d
 | [], v, h, _ => h
 | k :: ks, v, h, hk => by
  rw [depL]
  refine depL_le d ks _ ?_ fun x hx => hk x (by simp [hx])
  have := hk k (by simp)
  split <;> omega
theorem good_dep_le : ∀ (d : Nat) (T : Tr), Y2o d T → T.dep ≤ d
 | 0, T, h => by cases T; exact h.elim
 | d + 1, .node n ks, h => by
  rw [Tr.dep]
  exact depL_le _ _ _ (by omega) fun k hk => by have := good_dep_le d k (goodL_iff.1 h.2.1 k hk); omega
theorem depL_mem : ∀ (ks : List Tr) (v : Int), ∀ k ∈ ks, k.dep + 1 ≤ depL v ks
 | x :: ks, v, k, hk => by
  rw [depL]
  rcases X00.1 hk with rfl | hk
  ·have := depL_ge ks (if k.dep + 1 > v then k.dep + 1 else v)
   split at this <;> split <;> omega
  ·exact depL_mem ks _ k hk
theorem good_at : ∀ (d : Nat) (T : Tr), Y2o d T → ∀ e : Nat, T.dep ≤ e → Y2o e T
 | 0, T, h, _, _ => by cases T; exact h.elim
 | d + 1, .node n ks, h, e, he => by
  have hp := dep_pos (.node n ks)
  obtain ⟨e, rfl⟩ : ∃ m, e = m + 1 := ⟨e - 1, by omega⟩
  refine ⟨h.1, goodL_iff.2 fun k hk => good_at d k (goodL_iff.1 h.2.1 k hk) e ?_, h.2.2⟩
  rw [Tr.dep] at he
  have := depL_mem ks 1 k hk
  push_cast at he
  omega
theorem tx_inj {d e : Nat} {T U : Tr} (h : Y2o d T) (g : Y2o e U) (he : T.tx = U.tx) : T = U := by
 have h1 := rdF_text h
 rw [he, rdF_text g] at h1
 cases h1
 rfl
theorem flat_inj {d e : Nat} {T U : Tr} (hd : d ≤ 100) (he : e ≤ 100) (h : Y2o d T) (g : Y2o e U) (hf : T.flat = U.flat) (hl : T.flat.length ≤ 100000) : T = U := by
 have h1 := R09_Text_ok hd h hl
 rw [hf, R09_Text_ok he g (by rw [← hf]; exact hl)] at h1
 exact tx_inj h g (B_inj (X7 h1).symm)
theorem R09_Depth_ok {d : Nat} {T : Tr} (hd : d ≤ 100) (h : Y2o d T) (hl : T.flat.length ≤ 100000) : Y4o T.flat = some T.dep := by
 have hp := dep_pos T
 have hle := good_dep_le d T h
 have hg := good_at d T h T.dep.toNat (by omega)
 obtain ⟨v, v1, v2, v4, v3⟩ := depth_ok (A := adm) hl T.dep.toNat T.flat [] [] (1000000 - T.dep.toNat) (by omega) (good_IsT _ _ hg) (by simp)
 obtain ⟨U, u1, u2⟩ := IsT_good v T.flat v4
 have e := flat_inj (by omega) hd u2 h u1 (by rw [u1]; exact hl)
 subst e
 have := good_dep_le v U u2
 rw [show 1000000 - U.dep.toNat + U.dep.toNat = 1000000 by omega] at v3
 unfold Y4o f_R09_depth
 have v3' : Y1i 1000000 U.flat 0 = some (v : Int) := v3
 rw [v3', X9, show (v : Int) = U.dep by omega]
end Go.Proofs.YtkgfbpbndmklnaaDoor
