/- Own work. -/
import Derived.Test.YtkgfbpbndmklnaaDoorQuA
set_option linter.unusedSimpArgs false
set_option linter.unusedVariables false
namespace Go.Proofs.YtkgfbpbndmklnaaDoor
open Go.Abs
def stp (t : ByteArray) (R : Tk → Rr) : Tk → Rr
 | .E p i => (R (.A i)).bind fun l j => R (.L p l j)
 | .L p l j =>
  match opOf (Yd t j) with
  | some o => if p ≤ prec o then (R (.E (prec o + 1) (j + 1))).bind fun l2 j2 => R (.L p [.node ⟨o, 0⟩ (l ++ l2)] j2) else .ok l j
  | none => .ok l j
 | .A i =>
  if 48 ≤ Yd t i ∧ Yd t i ≤ 57 then ofLf (qNum t i)
  else if Yd t i = 40 then (R (.E 1 (i + 1))).bind fun l j => Y2z t 10 l j
  else if 97 ≤ Yd t i ∧ Yd t i ≤ 122 then
   match qWord t i with
   | .bad j => .err j
   | .ok op j =>
    if op = 1 then .ok [.node ⟨1, Yd t i - 97⟩ []] j else if op = 12 then ofLf (qSum t j)
    else (R (.E 1 j)).bind fun l j =>
     if op = 13 then R (.M l 0 0 0 j)
     else if pNeed op = 2 then (if Yd t j = 44 then (R (.E 1 (j + 1))).bind fun l2 j => Y2z t op (l ++ l2) j else .err j)
     else Y2z t op l j
  else .err i
 | .M l c r e j =>
  if Yd t j = 44 ∧ e + 1 < (if c = 0 then 4 else c) then (R (.E 1 (j + 1))).bind fun l2 j => R (.M (l ++ l2) c r (e + 1) j)
  else if Yd t j = 59 ∧ (c = 0 ∨ e + 1 = c) ∧ r + 1 < 4 then (R (.E 1 (j + 1))).bind fun l2 j => R (.M (l ++ l2) (e + 1) (r + 1) 0 j)
  else if Yd t j = 41 ∧ (c = 0 ∨ e + 1 = c) then .ok [.node ⟨13, 8 * (r + 1) + (e + 1)⟩ l] (j + 1)
  else .err j
theorem rd_stp (t : ByteArray) (k : Nat) (T : Tk) : rd t (k + 1) T = stp t (rd t k) T := by
 cases T <;> rw [rd] <;> rfl
theorem bind_mono {x x' : Rr} {K K' : List Tr → Int → Rr} (hx : x ≠ .out → x' = x) (hK : ∀ l j, K l j ≠ .out → K' l j = K l j) (h : x.bind K ≠ .out) : x'.bind K' = x.bind K := by
 cases x with
 | out => exact absurd rfl h
 | err n => rw [hx (by intro e; cases e)]; rfl
 | ok l j => rw [hx (by intro e; cases e)]; exact hK l j h
theorem stp_mono {t : ByteArray} {R R' : Tk → Rr} (hR : ∀ T, R T ≠ .out → R' T = R T) (T : Tk) : stp t R T ≠ .out → stp t R' T = stp t R T := by
 cases T with
 | E p i => exact bind_mono (hR _) fun l j => hR _
 | L p l j =>
  simp only [stp]
  split
  ·split
   ·exact bind_mono (hR _) fun l j => hR _
   ·exact fun _ => rfl
  ·exact fun _ => rfl
 | A i =>
  simp only [stp]
  split
  ·exact fun _ => rfl
  ·split
   ·exact bind_mono (hR _) fun l j _ => rfl
   ·split
    ·split
     ·exact fun _ => rfl
     ·split
      ·exact fun _ => rfl
      ·split
       ·exact fun _ => rfl
       ·refine bind_mono (hR _) fun l j => ?_
        split
        ·exact hR _
        ·split
         ·split
          ·exact bind_mono (hR _) fun l j _ => rfl
          ·exact fun _ => rfl
         ·exact fun _ => rfl
    ·exact fun _ => rfl
 | M l c r e j =>
  simp only [stp]
  by_cases a1 : Yd t j = 44 ∧ e + 1 < (if c = 0 then 4 else c)
  ·rw [if_pos a1, if_pos a1]
   exact bind_mono (hR _) fun l j => hR _
  ·rw [if_neg a1, if_neg a1]
   by_cases a2 : Yd t j = 59 ∧ (c = 0 ∨ e + 1 = c) ∧ r + 1 < 4
   ·rw [if_pos a2, if_pos a2]
    exact bind_mono (hR _) fun l j => hR _
   ·rw [if_neg a2, if_neg a2]
    exact fun _ => rfl
theorem rd_mono (t : ByteArray) : ∀ (k : Nat) (T : Tk), rd t k T ≠ .out → rd t (k + 1) T = rd t k T
 | 0, T, h => absurd rfl (by rw [rd] at h; exact h)
 | k + 1, T, h => by
  rw [rd_stp t k T] at h ⊢
  rw [rd_stp]
  exact stp_mono (rd_mono t k) T h
theorem rd_add {t : ByteArray} {k : Nat} {T : Tk} (h : rd t k T ≠ .out) : ∀ m, rd t (k + m) T = rd t k T
 | 0 => rfl
 | m + 1 => by
  have e := rd_add h m
  rw [show k + (m + 1) = (k + m) + 1 by omega, rd_mono t _ _ (by rw [e]; exact h), e]
def Ev (t : ByteArray) (T : Tk) (r : Rr) : Prop := r ≠ .out ∧ ∃ k, rd t k T = r
theorem Ev.ge {t : ByteArray} {T : Tk} {r : Rr} (h : Ev t T r) : ∃ k0, ∀ k, k0 ≤ k → rd t k T = r := by
 obtain ⟨h1, k, h2⟩ := h
 exact ⟨k, fun k' hk => by rw [show k' = k + (k' - k) by omega, rd_add (by rw [h2]; exact h1), h2]⟩
theorem Ev.eq {t : ByteArray} {T : Tk} {r : Rr} {k : Nat} (h : Ev t T r) (hk : rd t k T ≠ .out) : rd t k T = r := by
 obtain ⟨k0, h2⟩ := h.ge
 rw [← rd_add hk k0]
 exact h2 _ (by omega)
theorem Ev.st {t : ByteArray} {T : Tk} {r : Rr} (h1 : r ≠ .out) {k : Nat} (h2 : stp t (rd t k) T = r) : Ev t T r := ⟨h1, k + 1, by rw [rd_stp]; exact h2⟩
def Ag (t t' : ByteArray) (m : Int) : Prop := ∀ j, 0 ≤ j → j ≤ m → Yd t' j = Yd t j
theorem Ag.le {t t' : ByteArray} {m n : Int} (h : Ag t t' m) (hn : n ≤ m) : Ag t t' n := fun j h0 hj => h j h0 (by omega)
theorem Y3t {t : ByteArray} {i : Int} (h : Yd t i ≠ 0) : i < (t.size : Nat) := by
 unfold Yd at h
 split at h
 ·assumption
 ·exact absurd rfl h
def LI {α : Type} (t t' : ByteArray) (i c b : Int) : Lf α → Lf α → Prop
 | .ok a j, x' => i + c ≤ j ∧ j ≤ (t.size : Nat) ∧ (Ag t t' j → x' = .ok a j)
 | .bad n, x' => i + b ≤ n ∧ n ≤ (t.size : Nat) ∧ (Ag t t' n → x' = .bad n)
section
variable {t t' : ByteArray} {i : Int}
theorem LI.bind {α β : Type} {x x' : Lf α} {K K' : α → Int → Lf β} {c b c' b' c'' b'' : Int} (h : LI t t' i c b x x') (hK : ∀ a j, x = .ok a j → LI t t' j c' b' (K a j) (K' a j)) (h1 : c'' ≤ c + c') (h2 : b'' ≤ b) (h3 : b'' ≤ c + b') (h4 : 0 ≤ c') (h5 : 0 ≤ b') : LI t t' i c'' b'' (x.bind K) (x'.bind K') := by
 cases x with
 | bad n => exact ⟨by have := h.1; omega, h.2.1, fun g => by rw [h.2.2 g]; rfl⟩
 | ok a j =>
  have k := hK a j rfl
  obtain ⟨a1, a2, a3⟩ := h
  show LI t t' i c'' b'' (K a j) _
  cases hk : K a j with
  | bad n => rw [hk] at k; exact ⟨by have := k.1; omega, k.2.1, fun g => by rw [a3 (g.le (by have := k.1; omega))]; exact k.2.2 g⟩
  | ok a' j' => rw [hk] at k; exact ⟨by have := k.1; omega, k.2.1, fun g => by rw [a3 (g.le (by have := k.1; omega))]; exact k.2.2 g⟩
theorem LI.mono {α : Type} {x x' : Lf α} {c b c' b' : Int} (h : LI t t' i c b x x') (h1 : c' ≤ c) (h2 : b' ≤ b) : LI t t' i c' b' x x' := by
 cases x with
 | bad n => exact ⟨by have := h.1; omega, h.2⟩
 | ok a j => exact ⟨by have := h.1; omega, h.2⟩
theorem want_LI (h0 : 0 ≤ i) (hi : i ≤ (t.size : Nat)) {b : Int} (hb : b ≠ 0) : LI t t' i 1 0 (qWant t b i) (qWant t' b i) := by
 unfold qWant
 split
 ·next h => exact ⟨by omega, by have := Y3t (t := t) (i := i) (by omega); omega, fun g => by rw [g i h0 (by omega), if_pos h]⟩
 ·next h => exact ⟨by omega, hi, fun g => by rw [g i h0 (by omega), if_neg h]⟩
theorem dg_LI : ∀ (k : Nat) (n d i : Int), 0 ≤ i → i ≤ (t.size : Nat) → 0 ≤ d → d ≤ (dg t k n d i).2.1 ∧ (dg t k n d i).2.2 = i + ((dg t k n d i).2.1 - d) ∧ (dg t k n d i).2.2 ≤ (t.size : Nat) ∧ (Ag t t' (dg t k n d i).2.2 → dg t' k n d i = dg t k n d i)
 | 0, n, d, i, h0, hi, hd => by
  refine ⟨?_, ?_, ?_, fun _ => rfl⟩
  ·show d ≤ d; omega
  ·show i = i + (d - d); omega
  ·exact hi
 | k + 1, n, d, i, h0, hi, hd => by
  rw [dg]
  split
  ·next h =>
   refine ⟨by show d ≤ d; omega, by show i = i + (d - d); omega, hi, fun g => ?_⟩
   rw [dg, g i h0 (by show i ≤ i; omega), if_pos h]
  ·next h =>
   have hlt := Y3t (t := t) (i := i) (by omega)
   obtain ⟨a1, a2, a3, a4⟩ := dg_LI k (10 * n + (Yd t i - 48)) (d + 1) (i + 1) (by omega) (by omega) (by omega)
   refine ⟨by omega, by omega, a3, fun g => ?_⟩
   rw [dg, g i h0 (by omega), if_neg h]
   exact a4 g
theorem num_LI (h0 : 0 ≤ i) (hi : i ≤ (t.size : Nat)) : LI t t' i 1 0 (qNum t i) (qNum t' i) := by
 obtain ⟨a1, a2, a3, a4⟩ := dg_LI (t := t) (t' := t') 5 0 0 i h0 hi (by omega)
 unfold qNum
 split
 ·next h => exact ⟨by omega, a3, fun g => by rw [a4 g, if_pos h]⟩
 ·next h => exact ⟨by omega, a3, fun g => by rw [a4 g, if_neg h]⟩
theorem sumL_LI : ∀ (k : Nat) (l : List Tr) (i : Int), 0 ≤ i → i ≤ (t.size : Nat) → LI t t' i 0 0 (qSumL t k l i) (qSumL t' k l i)
 | 0, l, i, h0, hi => ⟨by omega, hi, fun _ => rfl⟩
 | k + 1, l, i, h0, hi => by
  rw [qSumL]
  split
  ·next h =>
   have hlt := Y3t (t := t) (i := i) (by omega)
   have e : LI t t' (i + 1) 0 0 ((qNum t (i + 1)).bind fun x j => qSumL t k (l ++ [x]) j) ((qNum t' (i + 1)).bind fun x j => qSumL t' k (l ++ [x]) j) := by
    refine LI.bind (num_LI (by omega) (by omega)) (fun a j hj => sumL_LI k (l ++ [a]) j ?_ ?_) (c' := 0) (b' := 0) (by omega) (by omega) (by omega) (by omega) (by omega)
    ·have := num_LI (t := t) (t' := t') (i := i + 1) (by omega) (by omega); rw [hj] at this; have := this.1; omega
    ·have := num_LI (t := t) (t' := t') (i := i + 1) (by omega) (by omega); rw [hj] at this; exact this.2.1
   revert e
   rw [qSumL]
   cases ((qNum t (i + 1)).bind fun x j => qSumL t k (l ++ [x]) j) with
   | bad n => exact fun e => ⟨by have := e.1; omega, e.2.1, fun g => by rw [g i h0 (by have := e.1; omega), if_pos h]; exact e.2.2 g⟩
   | ok a j => exact fun e => ⟨by have := e.1; omega, e.2.1, fun g => by rw [g i h0 (by have := e.1; omega), if_pos h]; exact e.2.2 g⟩
  ·next h => exact ⟨by omega, hi, fun g => by rw [qSumL, g i h0 (by omega), if_neg h]⟩
theorem LI.ok {α : Type} {x x' : Lf α} {c b : Int} (h : LI t t' i c b x x') {a : α} {j : Int} (e : x = .ok a j) : i + c ≤ j ∧ j ≤ (t.size : Nat) := by
 subst e; exact ⟨h.1, h.2.1⟩
theorem sumR_LI (l : List Tr) (h0 : 0 ≤ i) (hi : i ≤ (t.size : Nat)) : LI t t' i 1 0 (qSumR t l i) (qSumR t' l i) := by
 unfold qSumR
 split
 ·exact ⟨by omega, hi, fun _ => rfl⟩
 ·have w := want_LI (t := t) (t' := t') h0 hi (b := 59) (by omega)
  refine LI.bind w (c' := 1) (b' := 0) (fun a j hj => ?_) (by omega) (by omega) (by omega) (by omega) (by omega)
  obtain ⟨p1, p2⟩ := w.ok hj
  have n := num_LI (t := t) (t' := t') (i := j) (by omega) p2
  refine LI.bind n (c' := 1) (b' := 0) (fun a2 j2 hj2 => ?_) (by omega) (by omega) (by omega) (by omega) (by omega)
  obtain ⟨p3, p4⟩ := n.ok hj2
  have w2 := want_LI (t := t) (t' := t') (i := j2) (by omega) p4 (b := 41) (by omega)
  refine LI.bind w2 (c' := 0) (b' := 0) (fun a3 j3 hj3 => ?_) (by omega) (by omega) (by omega) (by omega) (by omega)
  obtain ⟨p5, p6⟩ := w2.ok hj3
  exact ⟨by omega, p6, fun _ => rfl⟩
theorem sum_LI (h0 : 0 ≤ i) (hi : i ≤ (t.size : Nat)) : LI t t' i 1 0 (qSum t i) (qSum t' i) := by
 have n := num_LI (t := t) (t' := t') h0 hi
 refine LI.bind n (c' := 1) (b' := 0) (fun a j hj => ?_) (by omega) (by omega) (by omega) (by omega) (by omega)
 obtain ⟨p1, p2⟩ := n.ok hj
 have s := sumL_LI (t := t) (t' := t') 4 [a] j (by omega) p2
 refine LI.bind s (c' := 1) (b' := 0) (fun a2 j2 hj2 => ?_) (by omega) (by omega) (by omega) (by omega) (by omega)
 obtain ⟨p3, p4⟩ := s.ok hj2
 exact sumR_LI a2 (by omega) p4
theorem nameB_nz : ∀ op ∈ opsW, (∀ i : Nat, i < (Y0q op).size → Y1q (Y0q op) (i : Int) ≠ 0) := by
 intro op ho
 simp only [opsW, X00, X09, or_false] at ho
 rcases ho with rfl | rfl | rfl | rfl | rfl | rfl | rfl <;> decide
theorem name_LI {n : ByteArray} (hn : ∀ i : Nat, i < n.size → Y1q n (i : Int) ≠ 0) : ∀ (k : Nat) (i : Int), k ≤ n.size → 0 ≤ i → i ≤ (t.size : Nat) → LI t t' i k 0 (qName t n k i) (qName t' n k i)
 | 0, i, hk, h0, hi => ⟨by omega, hi, fun _ => rfl⟩
 | k + 1, i, hk, h0, hi => by
  have w := want_LI (t := t) (t' := t') h0 hi (b := Y1q n ((n.size - (k + 1) : Nat) : Int)) (hn _ (by omega))
  refine LI.bind w (c' := k) (b' := 0) (fun a j hj => ?_) (by push_cast; omega) (by omega) (by omega) (by omega) (by omega)
  obtain ⟨p1, p2⟩ := w.ok hj
  exact name_LI hn k j (by omega) (by omega) p2
theorem word_hit {op : Int} (ho : op ∈ opsW) {u : ByteArray} : (Yd u i = Y1q (Y0q op) 0 ∧ i + 1 < (u.size : Nat) ∧ Y1q u (i + 1) = Y1q (Y0q op) 1) ↔ (Yd u i = Y1q (Y0q op) 0 ∧ Yd u (i + 1) = Y1q (Y0q op) 1) := by
 have h1 : Y1q (Y0q op) 1 ≠ 0 := nameB_nz op ho 1 (by have := (nameB_size op ho).1; omega)
 constructor
 ·rintro ⟨a, b, c⟩; exact ⟨a, by unfold Yd; rw [if_pos b, c]⟩
 ·rintro ⟨a, b⟩
  have := Y3t (t := u) (i := i + 1) (by rw [b]; exact h1)
  unfold Yd at b
  rw [if_pos this] at b
  exact ⟨a, this, b⟩
theorem name_two {n : ByteArray} (h2 : 2 ≤ n.size) {u : ByteArray} (h : Yd u i = Y1q n 0) (h' : Yd u (i + 1) = Y1q n 1) : qName u n n.size i = qName u n (n.size - 2) (i + 2) := by
 obtain ⟨k, hk⟩ : ∃ k, n.size = k + 2 := ⟨n.size - 2, by omega⟩
 rw [hk, qName, hk]
 have e0 : ((k + 2 - (k + 1 + 1) : Nat) : Int) = 0 := by omega
 have e1 : ((k + 2 - (k + 1) : Nat) : Int) = 1 := by omega
 rw [e0, qWant, if_pos h]
 show qName u n (k + 1) (i + 1) = _
 rw [qName, hk, e1, qWant, if_pos h']
 show qName u n k (i + 1 + 1) = _
 rw [show k + 2 - 2 = k by omega, show i + 1 + 1 = i + 2 by omega]
theorem wordL_LI : ∀ (l : List Int) (i : Int), (∀ o ∈ l, o ∈ opsW) → 0 ≤ i → i + 1 ≤ (t.size : Nat) → LI t t' i 1 1 (Y54 t l i) (Y54 t' l i)
 | [], i, hl, h0, hi => ⟨by omega, hi, fun _ => rfl⟩
 | op :: l, i, hl, h0, hi => by
  have ho := hl op (by simp)
  rw [Y54, Y54]
  by_cases h : Yd t i = Y1q (Y0q op) 0 ∧ i + 1 < (t.size : Nat) ∧ Y1q t (i + 1) = Y1q (Y0q op) 1
  ·rw [if_pos h]
   obtain ⟨h1, h2⟩ := (word_hit ho).1 h
   obtain ⟨z2, z6⟩ := nameB_size op ho
   have nz := nameB_nz op ho
   rw [name_two z2 h1 h2]
   have N := name_LI (t := t) (t' := t') nz ((Y0q op).size - 2) (i + 2) (by omega) (by omega) (by have := h.2.1; omega)
   have B : LI t t' (i + 2) 1 0 ((qName t (Y0q op) ((Y0q op).size - 2) (i + 2)).bind fun _ j => (qWant t 40 j).bind fun _ j => .ok op j) ((qName t' (Y0q op) ((Y0q op).size - 2) (i + 2)).bind fun _ j => (qWant t' 40 j).bind fun _ j => .ok op j) := by
    refine LI.bind N (c' := 1) (b' := 0) (fun a j hj => ?_) (by omega) (by omega) (by omega) (by omega) (by omega)
    obtain ⟨p1, p2⟩ := N.ok hj
    have w := want_LI (t := t) (t' := t') (i := j) (by omega) p2 (b := 40) (by omega)
    refine LI.bind w (c' := 0) (b' := 0) (fun a2 j2 hj2 => ?_) (by omega) (by omega) (by omega) (by omega) (by omega)
    obtain ⟨p3, p4⟩ := w.ok hj2
    exact ⟨by omega, p4, fun _ => rfl⟩
   have fin : ∀ m, i + 2 ≤ m → Ag t t' m → (if Yd t' i = Y1q (Y0q op) 0 ∧ i + 1 < (t'.size : Nat) ∧ Y1q t' (i + 1) = Y1q (Y0q op) 1 then (qName t' (Y0q op) (Y0q op).size i).bind fun _ j => (qWant t' 40 j).bind fun _ j => .ok op j else Y54 t' l i) = ((qName t' (Y0q op) ((Y0q op).size - 2) (i + 2)).bind fun _ j => (qWant t' 40 j).bind fun _ j => .ok op j) := fun m hm g => by
    have e1 := g i h0 (by omega)
    have e2 := g (i + 1) (by omega) (by omega)
    rw [if_pos ((word_hit ho).2 ⟨by rw [e1]; exact h1, by rw [e2]; exact h2⟩), name_two z2 (by rw [e1]; exact h1) (by rw [e2]; exact h2)]
   revert B
   cases ((qName t (Y0q op) ((Y0q op).size - 2) (i + 2)).bind fun _ j => (qWant t 40 j).bind fun _ j => .ok op j) with
   | bad n => exact fun B => ⟨by have := B.1; omega, B.2.1, fun g => by rw [fin n (by have := B.1; omega) g]; exact B.2.2 g⟩
   | ok a j => exact fun B => ⟨by have := B.1; omega, B.2.1, fun g => by rw [fin j (by have := B.1; omega) g]; exact B.2.2 g⟩
  ·rw [if_neg h]
   have B := wordL_LI l i (fun o h => hl o (by simp [h])) h0 hi
   have fin : ∀ m, i + 1 ≤ m → Ag t t' m → (if Yd t' i = Y1q (Y0q op) 0 ∧ i + 1 < (t'.size : Nat) ∧ Y1q t' (i + 1) = Y1q (Y0q op) 1 then (qName t' (Y0q op) (Y0q op).size i).bind fun _ j => (qWant t' 40 j).bind fun _ j => .ok op j else Y54 t' l i) = Y54 t' l i := fun m hm g => by
    refine if_neg fun hh => h ((word_hit ho).2 ?_)
    obtain ⟨h1, h2⟩ := (word_hit ho).1 hh
    exact ⟨by rw [← g i h0 (by omega)]; exact h1, by rw [← g (i + 1) (by omega) (by omega)]; exact h2⟩
   revert B
   cases Y54 t l i with
   | bad n => exact fun B => ⟨B.1, B.2.1, fun g => by rw [fin n B.1 g]; exact B.2.2 g⟩
   | ok a j => exact fun B => ⟨B.1, B.2.1, fun g => by rw [fin j B.1 g]; exact B.2.2 g⟩
theorem word_LI (h0 : 0 ≤ i) (hi : i + 1 ≤ (t.size : Nat)) : LI t t' i 1 1 (qWord t i) (qWord t' i) := wordL_LI opsW i (fun _ h => h) h0 hi
end
def Tk.pos : Tk → Int
 | .E _ i => i
 | .L _ _ j => j
 | .A i => i
 | .M _ _ _ _ j => j
def Tk.one : Tk → Int
 | .L _ _ _ => 0
 | _ => 1
def LR (t t' : ByteArray) (i c : Int) : Rr → Rr → Prop
 | .out, _ => True
 | .ok l j, x' => i + c ≤ j ∧ j ≤ (t.size : Nat) ∧ (Ag t t' j → x' = .ok l j)
 | .err n, x' => i ≤ n ∧ n ≤ (t.size : Nat) ∧ (Ag t t' n → x' = .err n)
section
variable {t t' : ByteArray} {i : Int}
theorem LR.bind {x x' : Rr} {K K' : List Tr → Int → Rr} {c c' c'' : Int} (h : LR t t' i c x x') (hK : ∀ l j, i + c ≤ j → j ≤ (t.size : Nat) → LR t t' j c' (K l j) (K' l j)) (h1 : c'' ≤ c + c') (hc : 0 ≤ c) (h4 : 0 ≤ c') : LR t t' i c'' (x.bind K) (x'.bind K') := by
 cases x with
 | out => trivial
 | err n => exact ⟨h.1, h.2.1, fun g => by rw [h.2.2 g]; rfl⟩
 | ok a j =>
  obtain ⟨a1, a2, a3⟩ := h
  have k := hK a j a1 a2
  show LR t t' i c'' (K a j) _
  cases hk : K a j with
  | out => trivial
  | err n => rw [hk] at k; exact ⟨by have := k.1; omega, k.2.1, fun g => by rw [a3 (g.le (by have := k.1; omega))]; exact k.2.2 g⟩
  | ok a' j' => rw [hk] at k; exact ⟨by have := k.1; omega, k.2.1, fun g => by rw [a3 (g.le (by have := k.1; omega))]; exact k.2.2 g⟩
theorem LR.pre {x x' y' : Rr} {c d : Int} (h : LR t t' (i + d) c x x') (hd : 0 ≤ d) (hc : 0 ≤ c) (e : ∀ m, i ≤ m → Ag t t' m → y' = x') : LR t t' i (d + c) x y' := by
 cases x with
 | out => trivial
 | err n => exact ⟨by have := h.1; omega, h.2.1, fun g => by rw [e n (by have := h.1; omega) g]; exact h.2.2 g⟩
 | ok l j => exact ⟨by have := h.1; omega, h.2.1, fun g => by rw [e j (by have := h.1; omega) g]; exact h.2.2 g⟩
theorem LR.weak {c c' : Int} (hc : c' ≤ c) : ∀ {x x' : Rr}, LR t t' i c x x' → LR t t' i c' x x'
 | .out, _, _ => trivial
 | .err _, _, h => h
 | .ok _ _, _, h => ⟨by have := h.1; omega, h.2⟩
theorem LR.lf {x x' : Lf Tr} {c b : Int} (h : LI t t' i c b x x') (hb : 0 ≤ b) : LR t t' i c (ofLf x) (ofLf x') := by
 cases x with
 | bad n => exact ⟨by have := h.1; omega, h.2.1, fun g => by rw [h.2.2 g]; rfl⟩
 | ok l j => exact ⟨h.1, h.2.1, fun g => by rw [h.2.2 g]; rfl⟩
theorem close_LR (h0 : 0 ≤ i) (hi : i ≤ (t.size : Nat)) (op : Int) (l : List Tr) : LR t t' i 1 (Y2z t op l i) (Y2z t' op l i) := by
 unfold Y2z
 split
 ·next h => exact ⟨by omega, by have := Y3t (t := t) (i := i) (by omega); omega, fun g => by rw [g i h0 (by omega), if_pos h]⟩
 ·next h => exact ⟨by omega, hi, fun g => by rw [g i h0 (by omega), if_neg h]⟩
theorem rd_LR : ∀ (k : Nat) (T : Tk), 0 ≤ T.pos → T.pos ≤ (t.size : Nat) → LR t t' T.pos T.one (rd t k T) (rd t' k T)
 | 0, T, _, _ => trivial
 | k + 1, T, h0, hi => by
  have IH := fun T h0 hi => rd_LR k T h0 hi
  rw [rd_stp, rd_stp]
  cases T with
  | E p i =>
   simp only [Tk.pos] at h0 hi
   exact LR.bind (IH (.A i) h0 hi) (c' := 0) (fun l j h1 h2 => IH (.L p l j) (by simp only [Tk.pos, Tk.one] at h1 ⊢; omega) h2) (by simp [Tk.one]) (by simp [Tk.one]) (by omega)
  | L p l j =>
   simp only [Tk.pos, Tk.one] at h0 hi ⊢
   simp only [stp]
   cases hO : opOf (Yd t j) with
   | none => exact ⟨by omega, hi, fun g => by simp only [g j h0 (by omega), hO]⟩
   | some o =>
    simp only []
    have hlt := Y3t (t := t) (i := j) (by intro e; rw [e] at hO; cases hO)
    split
    ·next hp =>
     have E := IH (.E (prec o + 1) (j + 1)) (by simp only [Tk.pos]; omega) (by simp only [Tk.pos]; omega)
     have B := LR.bind (c'' := 0) E (c' := 0) (K := fun l2 j2 => rd t k (.L p [.node ⟨o, 0⟩ (l ++ l2)] j2)) (K' := fun l2 j2 => rd t' k (.L p [.node ⟨o, 0⟩ (l ++ l2)] j2)) (fun l2 j2 h1 h2 => IH (.L p _ j2) (by simp only [Tk.pos, Tk.one] at h1 ⊢; omega) h2) (by simp [Tk.one]) (by simp [Tk.one]) (by omega)
     have := LR.pre (d := 1) B (by omega) (by omega) (y' := match opOf (Yd t' j) with
      | some o => if p ≤ prec o then (rd t' k (.E (prec o + 1) (j + 1))).bind fun l2 j2 => rd t' k (.L p [.node ⟨o, 0⟩ (l ++ l2)] j2) else .ok l j
      | none => .ok l j) (fun m hm g => by rw [g j h0 hm, hO]; simp only []; rw [if_pos hp])
     revert this
     cases (rd t k (.E (prec o + 1) (j + 1))).bind fun l2 j2 => rd t k (.L p [.node ⟨o, 0⟩ (l ++ l2)] j2) with
     | out => exact id
     | err n => exact id
     | ok l j' => exact fun h => ⟨by have := h.1; omega, h.2⟩
    ·next hp => exact ⟨by omega, hi, fun g => by simp only [g j h0 (by omega), hO]; rw [if_neg hp]⟩
  | A i =>
   simp only [Tk.pos, Tk.one] at h0 hi ⊢
   simp only [stp]
   split
   ·next h =>
    have := LR.lf (num_LI (t := t) (t' := t') h0 hi) (by omega)
    exact LR.pre (i := i) (d := 0) (c := 1) (by rw [show i + 0 = i by omega]; exact this) (by omega) (by omega) (fun m hm g => by rw [g i h0 hm, if_pos h])
   ·next h =>
    split
    ·next h2 =>
     have hlt := Y3t (t := t) (i := i) (by omega)
     have E := IH (.E 1 (i + 1)) (by simp only [Tk.pos]; omega) (by simp only [Tk.pos]; omega)
     have B := LR.bind (c'' := 0) E (c' := 1) (K := fun l j => Y2z t 10 l j) (K' := fun l j => Y2z t' 10 l j) (fun l j h1 h3 => close_LR (by simp only [Tk.pos, Tk.one] at h1; omega) h3 _ _) (by simp [Tk.one]) (by simp [Tk.one]) (by omega)
     exact LR.pre (d := 1) B (by omega) (by omega) (fun m hm g => by rw [g i h0 hm, if_neg h, if_pos h2])
    ·next h2 =>
     split
     ·next h3 =>
      have hlt := Y3t (t := t) (i := i) (by omega)
      have Wd := word_LI (t := t) (t' := t') h0 (by omega)
      have tail : ∀ (op j : Int), 0 ≤ j → j ≤ (t.size : Nat) → ¬ op = 1 → ¬ op = 12 → LR t t' j 1 ((rd t k (.E 1 j)).bind fun l j =>
        if op = 13 then rd t k (.M l 0 0 0 j)
        else if pNeed op = 2 then (if Yd t j = 44 then (rd t k (.E 1 (j + 1))).bind fun l2 j => Y2z t op (l ++ l2) j else .err j)
        else Y2z t op l j) ((rd t' k (.E 1 j)).bind fun l j =>
        if op = 13 then rd t' k (.M l 0 0 0 j)
        else if pNeed op = 2 then (if Yd t' j = 44 then (rd t' k (.E 1 (j + 1))).bind fun l2 j => Y2z t' op (l ++ l2) j else .err j)
        else Y2z t' op l j) := fun op j j0 j1 o1 o12 => by
       refine LR.bind (IH (.E 1 j) j0 j1) (c' := 1) (fun l j2 q1 q2 => ?_) (by simp [Tk.one]) (by simp [Tk.one]) (by omega)
       simp only [Tk.pos, Tk.one] at q1
       split
       ·exact IH (.M l 0 0 0 j2) (by simp only [Tk.pos]; omega) q2
       ·split
        ·split
         ·next h44 =>
          have hlt := Y3t (t := t) (i := j2) (by omega)
          have B := LR.bind (c'' := 0) (IH (.E 1 (j2 + 1)) (by simp only [Tk.pos]; omega) (by simp only [Tk.pos]; omega)) (c' := 1) (K := fun l2 j => Y2z t op (l ++ l2) j) (K' := fun l2 j => Y2z t' op (l ++ l2) j) (fun l j h1 h3 => close_LR (by simp only [Tk.pos, Tk.one] at h1; omega) h3 _ _) (by simp [Tk.one]) (by simp [Tk.one]) (by omega)
          exact LR.pre (d := 1) B (by omega) (by omega) (fun m hm g => by rw [g j2 (by omega) hm, if_pos h44])
         ·next h44 => exact ⟨by omega, q2, fun g => by rw [g j2 (by omega) (by omega), if_neg h44]⟩
        ·exact close_LR (by omega) q2 _ _
      cases hW : qWord t i with
      | bad n =>
       rw [hW] at Wd
       exact ⟨by have := Wd.1; omega, Wd.2.1, fun g => by rw [g i h0 (by have := Wd.1; omega), if_neg h, if_neg h2, if_pos h3, Wd.2.2 g]⟩
      | ok op j =>
       rw [hW] at Wd
       obtain ⟨w1, w2, w3⟩ := Wd
       simp only []
       have fin : ∀ {x x' : Rr}, LR t t' j 0 x x' → (∀ m, j ≤ m → Ag t t' m → (if 48 ≤ Yd t' i ∧ Yd t' i ≤ 57 then ofLf (qNum t' i)
        else if Yd t' i = 40 then (rd t' k (.E 1 (i + 1))).bind fun l j => Y2z t' 10 l j
        else if 97 ≤ Yd t' i ∧ Yd t' i ≤ 122 then
         match qWord t' i with
         | .bad j => .err j
         | .ok op j =>
          if op = 1 then .ok [.node ⟨1, Yd t' i - 97⟩ []] j else if op = 12 then ofLf (qSum t' j)
          else (rd t' k (.E 1 j)).bind fun l j =>
           if op = 13 then rd t' k (.M l 0 0 0 j)
           else if pNeed op = 2 then (if Yd t' j = 44 then (rd t' k (.E 1 (j + 1))).bind fun l2 j => Y2z t' op (l ++ l2) j else .err j)
           else Y2z t' op l j
        else .err i) = x') → LR t t' i 1 x (if 48 ≤ Yd t' i ∧ Yd t' i ≤ 57 then ofLf (qNum t' i)
        else if Yd t' i = 40 then (rd t' k (.E 1 (i + 1))).bind fun l j => Y2z t' 10 l j
        else if 97 ≤ Yd t' i ∧ Yd t' i ≤ 122 then
         match qWord t' i with
         | .bad j => .err j
         | .ok op j =>
          if op = 1 then .ok [.node ⟨1, Yd t' i - 97⟩ []] j else if op = 12 then ofLf (qSum t' j)
          else (rd t' k (.E 1 j)).bind fun l j =>
           if op = 13 then rd t' k (.M l 0 0 0 j)
           else if pNeed op = 2 then (if Yd t' j = 44 then (rd t' k (.E 1 (j + 1))).bind fun l2 j => Y2z t' op (l ++ l2) j else .err j)
           else Y2z t' op l j
        else .err i) := fun {x x'} L e => by
         cases x with
         | out => trivial
         | err n => exact ⟨by have := L.1; omega, L.2.1, fun g => by rw [e n (by have := L.1; omega) g]; exact L.2.2 g⟩
         | ok l j' => exact ⟨by have := L.1; omega, L.2.1, fun g => by rw [e j' (by have := L.1; omega) g]; exact L.2.2 g⟩
       by_cases o1 : op = 1
       ·rw [if_pos o1]
        refine fin (x' := .ok [.node ⟨1, Yd t i - 97⟩ []] j) ⟨by omega, w2, fun _ => rfl⟩ fun m hm g => ?_
        rw [g i h0 (by omega), if_neg h, if_neg h2, if_pos h3, w3 (g.le hm)]
        simp only []
        rw [if_pos o1]
       ·rw [if_neg o1]
        by_cases o12 : op = 12
        ·rw [if_pos o12]
         have S := LR.lf ((sum_LI (t := t) (t' := t') (i := j) (by omega) w2).mono (c' := 0) (b' := 0) (by omega) (by omega)) (by omega)
         refine fin S fun m hm g => ?_
         rw [g i h0 (by omega), if_neg h, if_neg h2, if_pos h3, w3 (g.le hm)]
         simp only []
         rw [if_neg o1, if_pos o12]
        ·rw [if_neg o12]
         have S := tail op j (by omega) w2 o1 o12
         have S0 := LR.pre (i := j) (d := 0) (c := 1) (by rw [show j + 0 = j by omega]; exact S) (by omega) (by omega) (fun _ _ _ => rfl)
         refine fin (S0.weak (c' := 0) (by omega)) fun m hm g => ?_
         rw [g i h0 (by omega), if_neg h, if_neg h2, if_pos h3, w3 (g.le hm)]
         simp only []
         rw [if_neg o1, if_neg o12]
     ·next h3 => exact ⟨by omega, hi, fun g => by rw [g i h0 (by omega), if_neg h, if_neg h2, if_neg h3]⟩
  | M l c r e j =>
   simp only [Tk.pos, Tk.one] at h0 hi ⊢
   simp only [stp]
   have nxt : ∀ c2 r2 e2 : Int, j < (t.size : Nat) → LR t t' (j + 1) 1 ((rd t k (.E 1 (j + 1))).bind fun l2 j => rd t k (.M (l ++ l2) c2 r2 e2 j)) ((rd t' k (.E 1 (j + 1))).bind fun l2 j => rd t' k (.M (l ++ l2) c2 r2 e2 j)) := fun c2 r2 e2 hlt =>
    LR.bind (IH (.E 1 (j + 1)) (by simp only [Tk.pos]; omega) (by simp only [Tk.pos]; omega)) (c' := 1) (fun l2 j2 q1 q2 => IH (.M _ c2 r2 e2 j2) (by simp only [Tk.pos, Tk.one] at q1 ⊢; omega) q2) (by simp [Tk.one]) (by simp [Tk.one]) (by omega)
   have cut : ∀ {x x' : Rr}, LR t t' j (1 + 1) x x' → LR t t' j 1 x x' := fun {x x'} h => by
    cases x with
    | out => exact h
    | err n => exact h
    | ok l j' => exact ⟨by have := h.1; omega, h.2⟩
   by_cases h : Yd t j = 44 ∧ e + 1 < (if c = 0 then 4 else c)
   ·rw [if_pos h]
    exact cut (LR.pre (d := 1) (nxt _ _ _ (Y3t (by omega))) (by omega) (by omega) (fun m hm g => by rw [g j h0 hm, if_pos h]))
   ·rw [if_neg h]
    by_cases h2 : Yd t j = 59 ∧ (c = 0 ∨ e + 1 = c) ∧ r + 1 < 4
    ·rw [if_pos h2]
     exact cut (LR.pre (d := 1) (nxt _ _ _ (Y3t (by omega))) (by omega) (by omega) (fun m hm g => by rw [g j h0 hm, if_neg h, if_pos h2]))
    ·rw [if_neg h2]
     by_cases h3 : Yd t j = 41 ∧ (c = 0 ∨ e + 1 = c)
     ·rw [if_pos h3]
      exact ⟨by omega, by have := Y3t (t := t) (i := j) (by omega); omega, fun g => by rw [g j h0 (by omega), if_neg h, if_neg h2, if_pos h3]⟩
     ·rw [if_neg h3]
      exact ⟨by omega, hi, fun g => by rw [g j h0 (by omega), if_neg h, if_neg h2, if_neg h3]⟩
def Tk.wt (N : Int) : Tk → Int
 | .E _ i => 3 * (N - i) + 4
 | .L _ _ i => 3 * (N - i) + 3
 | .A i => 3 * (N - i) + 3
 | .M _ _ _ _ i => 3 * (N - i) + 3
theorem bind_out {x : Rr} {K : List Tr → Int → Rr} (hx : x ≠ .out) (hK : ∀ l j, x = .ok l j → K l j ≠ .out) : x.bind K ≠ .out := by
 cases x with
 | out => exact absurd rfl hx
 | err n => intro e; cases e
 | ok l j => exact hK l j rfl
theorem close_out (op : Int) (l : List Tr) (j : Int) : Y2z t op l j ≠ .out := by
 unfold Y2z
 split <;> intro e <;> cases e
theorem lf_out (x : Lf Tr) : ofLf x ≠ .out := by cases x <;> intro e <;> cases e
theorem rd_total : ∀ (k : Nat) (T : Tk), 0 ≤ T.pos → T.pos ≤ (t.size : Nat) → T.wt (t.size : Nat) ≤ k → rd t k T ≠ .out
 | 0, T, h0, h1, hk => by cases T <;> simp only [Tk.wt, Tk.pos] at * <;> omega
 | k + 1, T, h0, h1, hk => by
  have L := fun T h0 h1 => rd_LR (t := t) (t' := t) k T h0 h1
  have at1 : ∀ (T : Tk) {l : List Tr} {j : Int}, 0 ≤ T.pos → T.pos ≤ (t.size : Nat) → rd t k T = .ok l j → T.pos + T.one ≤ j ∧ j ≤ (t.size : Nat) := fun T l j h0 h1 e => by
   have := L T h0 h1
   rw [e] at this
   exact ⟨this.1, this.2.1⟩
  have IH := fun T h0 h1 hk => rd_total k T h0 h1 hk
  rw [rd_stp]
  cases T with
  | E p i =>
   simp only [Tk.pos, Tk.wt] at h0 h1 hk
   refine bind_out (IH (.A i) h0 h1 (by simp only [Tk.wt]; push_cast at hk; omega)) fun l j e => ?_
   obtain ⟨p1, p2⟩ := at1 (.A i) h0 h1 e
   simp only [Tk.pos, Tk.one] at p1
   exact IH (.L p l j) (by simp only [Tk.pos]; omega) p2 (by simp only [Tk.wt]; push_cast at hk; omega)
  | L p l j =>
   simp only [Tk.pos, Tk.wt] at h0 h1 hk
   simp only [stp]
   split
   ·next o ho =>
    have hlt := Y3t (t := t) (i := j) (by intro e; rw [e] at ho; cases ho)
    split
    ·refine bind_out (IH (.E _ (j + 1)) (by simp only [Tk.pos]; omega) (by simp only [Tk.pos]; omega) (by simp only [Tk.wt]; push_cast at hk; omega)) fun l2 j2 e => ?_
     obtain ⟨p1, p2⟩ := at1 (.E _ (j + 1)) (by simp only [Tk.pos]; omega) (by simp only [Tk.pos]; omega) e
     simp only [Tk.pos, Tk.one] at p1
     exact IH (.L p _ j2) (by simp only [Tk.pos]; omega) p2 (by simp only [Tk.wt]; push_cast at hk; omega)
    ·intro e; cases e
   ·intro e; cases e
  | A i =>
   simp only [Tk.pos, Tk.wt] at h0 h1 hk
   simp only [stp]
   split
   ·exact lf_out _
   ·split
    ·next h2 =>
     have hlt := Y3t (t := t) (i := i) (by omega)
     exact bind_out (IH (.E 1 (i + 1)) (by simp only [Tk.pos]; omega) (by simp only [Tk.pos]; omega) (by simp only [Tk.wt]; push_cast at hk; omega)) fun l j e => close_out _ _ _
    ·split
     ·next h3 =>
      have hlt := Y3t (t := t) (i := i) (by omega)
      have Wd := word_LI (t := t) (t' := t) h0 (by omega)
      cases hW : qWord t i with
      | bad n => intro e; cases e
      | ok op j =>
       rw [hW] at Wd
       obtain ⟨w1, w2, _⟩ := Wd
       simp only []
       split
       ·intro e; cases e
       ·split
        ·exact lf_out _
        ·refine bind_out (IH (.E 1 j) (by simp only [Tk.pos]; omega) w2 (by simp only [Tk.wt]; push_cast at hk; omega)) fun l j2 e => ?_
         obtain ⟨p1, p2⟩ := at1 (.E 1 j) (by simp only [Tk.pos]; omega) w2 e
         simp only [Tk.pos, Tk.one] at p1
         split
         ·exact IH (.M l 0 0 0 j2) (by simp only [Tk.pos]; omega) p2 (by simp only [Tk.wt]; push_cast at hk; omega)
         ·split
          ·split
           ·next h44 =>
            have hlt := Y3t (t := t) (i := j2) (by omega)
            exact bind_out (IH (.E 1 (j2 + 1)) (by simp only [Tk.pos]; omega) (by simp only [Tk.pos]; omega) (by simp only [Tk.wt]; push_cast at hk; omega)) fun l j e => close_out _ _ _
           ·intro e; cases e
          ·exact close_out _ _ _
     ·intro e; cases e
  | M l c r e j =>
   simp only [Tk.pos, Tk.wt] at h0 h1 hk
   simp only [stp]
   have nxt : ∀ c2 r2 e2 : Int, j < (t.size : Nat) → ((rd t k (.E 1 (j + 1))).bind fun l2 j => rd t k (.M (l ++ l2) c2 r2 e2 j)) ≠ .out := fun c2 r2 e2 hlt => by
    refine bind_out (IH (.E 1 (j + 1)) (by simp only [Tk.pos]; omega) (by simp only [Tk.pos]; omega) (by simp only [Tk.wt]; push_cast at hk; omega)) fun l2 j2 e => ?_
    obtain ⟨p1, p2⟩ := at1 (.E 1 (j + 1)) (by simp only [Tk.pos]; omega) (by simp only [Tk.pos]; omega) e
    simp only [Tk.pos, Tk.one] at p1
    exact IH (.M _ c2 r2 e2 j2) (by simp only [Tk.pos]; omega) p2 (by simp only [Tk.wt]; push_cast at hk; omega)
   by_cases a1 : Yd t j = 44 ∧ e + 1 < (if c = 0 then 4 else c)
   ·rw [if_pos a1]
    exact nxt _ _ _ (Y3t (by omega))
   ·rw [if_neg a1]
    by_cases a2 : Yd t j = 59 ∧ (c = 0 ∨ e + 1 = c) ∧ r + 1 < 4
    ·rw [if_pos a2]
     exact nxt _ _ _ (Y3t (by omega))
    ·rw [if_neg a2]
     by_cases a3 : Yd t j = 41 ∧ (c = 0 ∨ e + 1 = c)
     ·rw [if_pos a3]; intro e; cases e
     ·rw [if_neg a3]; intro e; cases e
end
def rdF (t : ByteArray) : Rr := rd t (3 * t.size + 4) (.E 1 0)
theorem rdF_out (t : ByteArray) : rdF t ≠ .out := rd_total _ _ (by simp [Tk.pos]) (by simp [Tk.pos]) (by simp [Tk.wt])
theorem rdF_ev {t : ByteArray} {r : Rr} (h : Ev t (.E 1 0) r) : rdF t = r := h.eq (rdF_out t)
theorem depL_ge : ∀ (ks : List Tr) (d : Int), d ≤ depL d ks
 | [], d => by rw [depL]; omega
 | k :: ks, d => by
  rw [depL]
  have := depL_ge ks (if k.dep + 1 > d then k.dep + 1 else d)
  split at this <;> split <;> omega
theorem dep_pos (x : Tr) : 1 ≤ x.dep := by cases x; rw [Tr.dep]; exact depL_ge _ _
theorem flat_two (n : Y4) (a b : Tr) : (Tr.node n [a, b]).flat.length = 1 + a.flat.length + b.flat.length := by simp [Tr.flat, flatL]; omega
theorem dep_two (n : Y4) (a b : Tr) : (Tr.node n [a, b]).dep = if b.dep > a.dep then b.dep + 1 else a.dep + 1 := by
 have := dep_pos a
 have e : (if a.dep + 1 > 1 then a.dep + 1 else 1) = a.dep + 1 := Vp
 rw [Tr.dep, depL, depL, depL, e]
 by_cases h : b.dep > a.dep
 ·rw [if_pos h, Vp]
 ·rw [if_neg h, Vn]
end Go.Proofs.YtkgfbpbndmklnaaDoor
