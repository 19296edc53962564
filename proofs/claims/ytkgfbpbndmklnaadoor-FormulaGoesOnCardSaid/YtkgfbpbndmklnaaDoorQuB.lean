/- Own work. -/
import Derived.Test.YtkgfbpbndmklnaaDoorQuA
set_option linter.unusedSimpArgs false
set_option linter.unusedVariables false
namespace Go.Proofs.YtkgfbpbndmklnaaDoor
open Go.Abs
def stp (t : ByteArray) (R : Tk → Rr) : Tk → Rr
 | .E p i => (R (.A i)).bind fun l j => R (.L p l j)
 | .L p l j =>
  match opOf (Yc t j) with
  | some o => if p ≤ prec o then (R (.E (prec o + 1) (j + 1))).bind fun l2 j2 => R (.L p [.node ⟨o, 0⟩ (l ++ l2)] j2) else .ok l j
  | none => .ok l j
 | .A i =>
  if 48 ≤ Yc t i ∧ Yc t i ≤ 57 then ofLf (qNum t i)
  else if Yc t i = 40 then (R (.E 1 (i + 1))).bind fun l j => Y1m t 10 l j
  else if 97 ≤ Yc t i ∧ Yc t i ≤ 122 then
   match qWord t i with
   | .bad j => .err j
   | .ok op j =>
    if op = 1 then .ok [.node ⟨1, Yc t i - 97⟩ []] j else if op = 12 then ofLf (qSum t j)
    else (R (.E 1 j)).bind fun l j =>
     if op = 13 then R (.M l 0 0 0 j)
     else if Y4h op = 2 then (if Yc t j = 44 then (R (.E 1 (j + 1))).bind fun l2 j => Y1m t op (l ++ l2) j else .err j)
     else Y1m t op l j
  else .err i
 | .M l c r e j =>
  if Yc t j = 44 ∧ e + 1 < (if c = 0 then 4 else c) then (R (.E 1 (j + 1))).bind fun l2 j => R (.M (l ++ l2) c r (e + 1) j)
  else if Yc t j = 59 ∧ (c = 0 ∨ e + 1 = c) ∧ r + 1 < 4 then (R (.E 1 (j + 1))).bind fun l2 j => R (.M (l ++ l2) (e + 1) (r + 1) 0 j)
  else if Yc t j = 41 ∧ (c = 0 ∨ e + 1 = c) then .ok [.node ⟨13, 8 * (r + 1) + (e + 1)⟩ l] (j + 1)
  else .err j
theorem rd_stp (t : ByteArray) (k : Nat) (T : Tk) : rd t (k + 1) T = stp t (rd t k) T := by
 cases T <;> rw [rd] <;> rfl
theorem bind_mono {x x' : Rr} {K K' : List Tr → Int → Rr} (hx : x ≠ .out → x' = x) (hK : ∀ l j, K l j ≠ .out → K' l j = K l j) (h : x.bind K ≠ .out) : x'.bind K' = x.bind K := by
 cases x with
 | out => exact absurd rfl h
 | err n => rw [hx (by intro e; cases e)]; rfl
 | ok l j => rw [hx (by intro e; cases e)]; exact hK l j h
theorem stp_mono {t : ByteArray} {R R' : Tk → Rr} (hR : ∀ T, R T ≠ .out → R' T = R T) (T : Tk) : stp t R T ≠ .out → stp t R' T = stp t R T := by
 cases T with
 | E p i => exact bind_mono (hR _) fun l j => hR _
 | L p l j =>
  simp only [stp]
  split
  ·split
   ·exact bind_mono (hR _) fun l j => hR _
   ·exact fun _ => rfl
  ·exact fun _ => rfl
 | A i =>
  simp only [stp]
  split
  ·exact fun _ => rfl
  ·split
   ·exact bind_mono (hR _) fun l j _ => rfl
   ·split
    ·split
     ·exact fun _ => rfl
     ·split
      ·exact fun _ => rfl
      ·split
       ·exact fun _ => rfl
       ·refine bind_mono (hR _) fun l j => ?_
        split
        ·exact hR _
        ·split
         ·split
          ·exact bind_mono (hR _) fun l j _ => rfl
          ·exact fun _ => rfl
         ·exact fun _ => rfl
    ·exact fun _ => rfl
 | M l c r e j =>
  simp only [stp]
  by_cases a1 : Yc t j = 44 ∧ e + 1 < (if c = 0 then 4 else c)
  ·rw [if_pos a1, if_pos a1]
   exact bind_mono (hR _) fun l j => hR _
  ·rw [if_neg a1, if_neg a1]
   by_cases a2 : Yc t j = 59 ∧ (c = 0 ∨ e + 1 = c) ∧ r + 1 < 4
   ·rw [if_pos a2, if_pos a2]
    exact bind_mono (hR _) fun l j => hR _
   ·rw [if_neg a2, if_neg a2]
    exact fun _ => rfl
theorem rd_mono (t : ByteArray) : ∀ (k : Nat) (T : Tk), rd t k T ≠ .out → rd t (k + 1) T = rd t k T
 | 0, T, h => absurd rfl (by rw [rd] at h; exact h)
 | k + 1, T, h => by
  rw [rd_stp t k T] at h ⊢
  rw [rd_stp]
  exact stp_mono (rd_mono t k) T h
theorem rd_add {t : ByteArray} {k : Nat} {T : Tk} (h : rd t k T ≠ .out) : ∀ m, rd t (k + m) T = rd t k T
 | 0 => rfl
 | m + 1 => by
  have e := rd_add h m
  rw [show k + (m + 1) = (k + m) + 1 by omega, rd_mono t _ _ (by rw [e]; exact h), e]
def Ev (t : ByteArray) (T : Tk) (r : Rr) : Prop := r ≠ .out ∧ ∃ k, rd t k T = r
theorem Ev.ge {t : ByteArray} {T : Tk} {r : Rr} (h : Ev t T r) : ∃ k0, ∀ k, k0 ≤ k → rd t k T = r := by
 obtain ⟨h1, k, h2⟩ := h
 exact ⟨k, fun k' hk => by rw [show k' = k + (k' - k) by omega, rd_add (by rw [h2]; exact h1), h2]⟩
theorem Ev.eq {t : ByteArray} {T : Tk} {r : Rr} {k : Nat} (h : Ev t T r) (hk : rd t k T ≠ .out) : rd t k T = r := by
 obtain ⟨k0, h2⟩ := h.ge
 rw [← rd_add hk k0]
 exact h2 _ (by omega)
theorem Ev.st {t : ByteArray} {T : Tk} {r : Rr} (h1 : r ≠ .out) {k : Nat} (h2 : stp t (rd t k) T = r) : Ev t T r := ⟨h1, k + 1, by rw [rd_stp]; exact h2⟩
def Ag (t t' : ByteArray) (m : Int) : Prop := ∀ j, 0 ≤ j → j ≤ m → Yc t' j = Yc t j
theorem Ag.le {t t' : ByteArray} {m n : Int} (h : Ag t t' m) (hn : n ≤ m) : Ag t t' n := fun j h0 hj => h j h0 (by omega)
theorem Y2d {t : ByteArray} {i : Int} (h : Yc t i ≠ 0) : i < (t.size : Nat) := by
 unfold Yc at h
 split at h
 ·assumption
 ·exact absurd rfl h
def LI {α : Type} (t t' : ByteArray) (i c b : Int) : Lf α → Lf α → Prop
 | .ok a j, x' => i + c ≤ j ∧ j ≤ (t.size : Nat) ∧ (Ag t t' j → x' = .ok a j)
 | .bad n, x' => i + b ≤ n ∧ n ≤ (t.size : Nat) ∧ (Ag t t' n → x' = .bad n)
section
variable {t t' : ByteArray} {i : Int}
theorem LI.bind {α β : Type} {x x' : Lf α} {K K' : α → Int → Lf β} {c b c' b' c'' b'' : Int} (h : LI t t' i c b x x') (hK : ∀ a j, x = .ok a j → LI t t' j c' b' (K a j) (K' a j)) (h1 : c'' ≤ c + c') (h2 : b'' ≤ b) (h3 : b'' ≤ c + b') (h4 : 0 ≤ c') (h5 : 0 ≤ b') : LI t t' i c'' b'' (x.bind K) (x'.bind K') := by
 cases x with
 | bad n => exact ⟨by have := h.1; omega, h.2.1, fun g => by rw [h.2.2 g]; rfl⟩
 | ok a j =>
  have k := hK a j rfl
  obtain ⟨a1, a2, a3⟩ := h
  show LI t t' i c'' b'' (K a j) _
  cases hk : K a j with
  | bad n => rw [hk] at k; exact ⟨by have := k.1; omega, k.2.1, fun g => by rw [a3 (g.le (by have := k.1; omega))]; exact k.2.2 g⟩
  | ok a' j' => rw [hk] at k; exact ⟨by have := k.1; omega, k.2.1, fun g => by rw [a3 (g.le (by have := k.1; omega))]; exact k.2.2 g⟩
theorem LI.mono {α : Type} {x x' : Lf α} {c b c' b' : Int} (h : LI t t' i c b x x') (h1 : c' ≤ c) (h2 : b' ≤ b) : LI t t' i c' b' x x' := by
 cases x with
 | bad n => exact ⟨by have := h.1; omega, h.2⟩
 | ok a j => exact ⟨by have := h.1; omega, h.2⟩
theorem want_LI (h0 : 0 ≤ i) (hi : i ≤ (t.size : Nat)) {b : Int} (hb : b ≠ 0) : LI t t' i 1 0 (Y42 t b i) (Y42 t' b i) := by
 unfold Y42
 split
 ·next h => exact ⟨by omega, by have := Y2d (t := t) (i := i) (by omega); omega, fun g => by rw [g i h0 (by omega), if_pos h]⟩
 ·next h => exact ⟨by omega, hi, fun g => by rw [g i h0 (by omega), if_neg h]⟩
theorem dg_LI : ∀ (k : Nat) (n d i : Int), 0 ≤ i → i ≤ (t.size : Nat) → 0 ≤ d → d ≤ (dg t k n d i).2.1 ∧ (dg t k n d i).2.2 = i + ((dg t k n d i).2.1 - d) ∧ (dg t k n d i).2.2 ≤ (t.size : Nat) ∧ (Ag t t' (dg t k n d i).2.2 → dg t' k n d i = dg t k n d i)
 | 0, n, d, i, h0, hi, hd => by
  refine ⟨?_, ?_, ?_, fun _ => rfl⟩
  ·show d ≤ d; omega
  ·show i = i + (d - d); omega
  ·exact hi
 | k + 1, n, d, i, h0, hi, hd => by
  rw [dg]
  split
  ·next h =>
   refine ⟨by show d ≤ d; omega, by show i = i + (d - d); omega, hi, fun g => ?_⟩
   rw [dg, g i h0 (by show i ≤ i; omega), if_pos h]
  ·next h =>
   have hlt := Y2d (t := t) (i := i) (by omega)
   obtain ⟨a1, a2, a3, a4⟩ := dg_LI k (10 * n + (Yc t i - 48)) (d + 1) (i + 1) (by omega) (by omega) (by omega)
   refine ⟨by omega, by omega, a3, fun g => ?_⟩
   rw [dg, g i h0 (by omega), if_neg h]
   exact a4 g
theorem num_LI (h0 : 0 ≤ i) (hi : i ≤ (t.size : Nat)) : LI t t' i 1 0 (qNum t i) (qNum t' i) := by
 obtain ⟨a1, a2, a3, a4⟩ := dg_LI (t := t) (t' := t') 5 0 0 i h0 hi (by omega)
 unfold qNum
 split
 ·next h => exact ⟨by omega, a3, fun g => by rw [a4 g, if_pos h]⟩
 ·next h => exact ⟨by omega, a3, fun g => by rw [a4 g, if_neg h]⟩
theorem sumL_LI : ∀ (k : Nat) (l : List Tr) (i : Int), 0 ≤ i → i ≤ (t.size : Nat) → LI t t' i 0 0 (qSumL t k l i) (qSumL t' k l i)
 | 0, l, i, h0, hi => ⟨by omega, hi, fun _ => rfl⟩
 | k + 1, l, i, h0, hi => by
  rw [qSumL]
  split
  ·next h =>
   have hlt := Y2d (t := t) (i := i) (by omega)
   have e : LI t t' (i + 1) 0 0 ((qNum t (i + 1)).bind fun x j => qSumL t k (l ++ [x]) j) ((qNum t' (i + 1)).bind fun x j => qSumL t' k (l ++ [x]) j) := by
    refine LI.bind (num_LI (by omega) (by omega)) (fun a j hj => sumL_LI k (l ++ [a]) j ?_ ?_) (c' := 0) (b' := 0) (by omega) (by omega) (by omega) (by omega) (by omega)
    ·have := num_LI (t := t) (t' := t') (i := i + 1) (by omega) (by omega); rw [hj] at this; have := this.1; omega
    ·have := num_LI (t := t) (t' := t') (i := i + 1) (by omega) (by omega); rw [hj] at this; exact this.2.1
   revert e
   rw [qSumL]
   cases ((qNum t (i + 1)).bind fun x j => qSumL t k (l ++ [x]) j) with
   | bad n => exact fun e => ⟨by have := e.1; omega, e.2.1, fun g => by rw [g i h0 (by have := e.1; omega), if_pos h]; exact e.2.2 g⟩
   | ok a j => exact fun e => ⟨by have := e.1; omega, e.2.1, fun g => by rw [g i h0 (by have := e.1; omega), if_pos h]; exact e.2.2 g⟩
  ·next h => exact ⟨by omega, hi, fun g => by rw [qSumL, g i h0 (by omega), if_neg h]⟩
theorem LI.ok {α : Type} {x x' : Lf α} {c b : Int} (h : LI t t' i c b x x') {a : α} {j : Int} (e : x = .ok a j) : i + c ≤ j ∧ j ≤ (t.size : Nat) := by
 subst e; exact ⟨h.1, h.2.1⟩
theorem sumR_LI (l : List Tr) (h0 : 0 ≤ i) (hi : i ≤ (t.size : Nat)) : LI t t' i 1 0 (qSumR t l i) (qSumR t' l i) := by
 unfold qSumR
 split
 ·exact ⟨by omega, hi, fun _ => rfl⟩
 ·have w := want_LI (t := t) (t' := t') h0 hi (b := 59) (by omega)
  refine LI.bind w (c' := 1) (b' := 0) (fun a j hj => ?_) (by omega) (by omega) (by omega) (by omega) (by omega)
  obtain ⟨p1, p2⟩ := w.ok hj
  have n := num_LI (t := t) (t' := t') (i := j) (by omega) p2
  refine LI.bind n (c' := 1) (b' := 0) (fun a2 j2 hj2 => ?_) (by omega) (by omega) (by omega) (by omega) (by omega)
  obtain ⟨p3, p4⟩ := n.ok hj2
  have w2 := want_LI (t := t) (t' := t') (i := j2) (by omega) p4 (b := 41) (by omega)
  refine LI.bind w2 (c' := 0) (b' := 0) (fun a3 j3 hj3 => ?_) (by omega) (by omega) (by omega) (by omega) (by omega)
  obtain ⟨p5, p6⟩ := w2.ok hj3
  exact ⟨by omega, p6, fun _ => rfl⟩
theorem sum_LI (h0 : 0 ≤ i) (hi : i ≤ (t.size : Nat)) : LI t t' i 1 0 (qSum t i) (qSum t' i) := by
 have n := num_LI (t := t) (t' := t') h0 hi
 refine LI.bind n (c' := 1) (b' := 0) (fun a j hj => ?_) (by omega) (by omega) (by omega) (by omega) (by omega)
 obtain ⟨p1, p2⟩ := n.ok hj
 have s := sumL_LI (t := t) (t' := t') 4 [a] j (by omega) p2
 refine LI.bind s (c' := 1) (b' := 0) (fun a2 j2 hj2 => ?_) (by omega) (by omega) (by omega) (by omega) (by omega)
 obtain ⟨p3, p4⟩ := s.ok hj2
 exact sumR_LI a2 (by omega) p4
theorem nameB_nz : ∀ op ∈ opsW, (∀ i : Nat, i < (Y0j op).size → Y1b (Y0j op) (i : Int) ≠ 0) := by
 intro op ho
 simp only [opsW, X02, X09, or_false] at ho
 rcases ho with rfl | rfl | rfl | rfl | rfl | rfl | rfl <;> decide
theorem name_LI {n : ByteArray} (hn : ∀ i : Nat, i < n.size → Y1b n (i : Int) ≠ 0) : ∀ (k : Nat) (i : Int), k ≤ n.size → 0 ≤ i → i ≤ (t.size : Nat) → LI t t' i k 0 (qName t n k i) (qName t' n k i)
 | 0, i, hk, h0, hi => ⟨by omega, hi, fun _ => rfl⟩
 | k + 1, i, hk, h0, hi => by
  have w := want_LI (t := t) (t' := t') h0 hi (b := Y1b n ((n.size - (k + 1) : Nat) : Int)) (hn _ (by omega))
  refine LI.bind w (c' := k) (b' := 0) (fun a j hj => ?_) (by push_cast; omega) (by omega) (by omega) (by omega) (by omega)
  obtain ⟨p1, p2⟩ := w.ok hj
  exact name_LI hn k j (by omega) (by omega) p2
theorem word_hit {op : Int} (ho : op ∈ opsW) {u : ByteArray} : (Yc u i = Y1b (Y0j op) 0 ∧ i + 1 < (u.size : Nat) ∧ Y1b u (i + 1) = Y1b (Y0j op) 1) ↔ (Yc u i = Y1b (Y0j op) 0 ∧ Yc u (i + 1) = Y1b (Y0j op) 1) := by
 have h1 : Y1b (Y0j op) 1 ≠ 0 := nameB_nz op ho 1 (by have := (nameB_size op ho).1; omega)
 constructor
 ·rintro ⟨a, b, c⟩; exact ⟨a, by unfold Yc; rw [if_pos b, c]⟩
 ·rintro ⟨a, b⟩
  have := Y2d (t := u) (i := i + 1) (by rw [b]; exact h1)
  unfold Yc at b
  rw [if_pos this] at b
  exact ⟨a, this, b⟩
theorem name_two {n : ByteArray} (h2 : 2 ≤ n.size) {u : ByteArray} (h : Yc u i = Y1b n 0) (h' : Yc u (i + 1) = Y1b n 1) : qName u n n.size i = qName u n (n.size - 2) (i + 2) := by
 obtain ⟨k, hk⟩ : ∃ k, n.size = k + 2 := ⟨n.size - 2, by omega⟩
 rw [hk, qName, hk]
 have e0 : ((k + 2 - (k + 1 + 1) : Nat) : Int) = 0 := by omega
 have e1 : ((k + 2 - (k + 1) : Nat) : Int) = 1 := by omega
 rw [e0, Y42, if_pos h]
 show qName u n (k + 1) (i + 1) = _
 rw [qName, hk, e1, Y42, if_pos h']
 show qName u n k (i + 1 + 1) = _
 rw [show k + 2 - 2 = k by omega, show i + 1 + 1 = i + 2 by omega]
theorem wordL_LI : ∀ (l : List Int) (i : Int), (∀ o ∈ l, o ∈ opsW) → 0 ≤ i → i + 1 ≤ (t.size : Nat) → LI t t' i 1 1 (Y4d t l i) (Y4d t' l i)
 | [], i, hl, h0, hi => ⟨by omega, hi, fun _ => rfl⟩
 | op :: l, i, hl, h0, hi => by
  have ho := hl op (by simp)
  rw [Y4d, Y4d]
  by_cases h : Yc t i = Y1b (Y0j op) 0 ∧ i + 1 < (t.size : Nat) ∧ Y1b t (i + 1) = Y1b (Y0j op) 1
  ·rw [if_pos h]
   obtain ⟨h1, h2⟩ := (word_hit ho).1 h
   obtain ⟨z2, z6⟩ := nameB_size op ho
   have nz := nameB_nz op ho
   rw [name_two z2 h1 h2]
   have N := name_LI (t := t) (t' := t') nz ((Y0j op).size - 2) (i + 2) (by omega) (by omega) (by have := h.2.1; omega)
   have B : LI t t' (i + 2) 1 0 ((qName t (Y0j op) ((Y0j op).size - 2) (i + 2)).bind fun _ j => (Y42 t 40 j).bind fun _ j => .ok op j) ((qName t' (Y0j op) ((Y0j op).size - 2) (i + 2)).bind fun _ j => (Y42 t' 40 j).bind fun _ j => .ok op j) := by
    refine LI.bind N (c' := 1) (b' := 0) (fun a j hj => ?_) (by omega) (by omega) (by omega) (by omega) (by omega)
    obtain ⟨p1, p2⟩ := N.ok hj
    have w := want_LI (t := t) (t' := t') (i := j) (by omega) p2 (b := 40) (by omega)
    refine LI.bind w (c' := 0) (b' := 0) (fun a2 j2 hj2 => ?_) (by omega) (by omega) (by omega) (by omega) (by omega)
    obtain ⟨p3, p4⟩ := w.ok hj2
    exact ⟨by omega, p4, fun _ => rfl⟩
   have fin : ∀ m, i + 2 ≤ m → Ag t t' m → (if Yc t' i = Y1b (Y0j op) 0 ∧ i + 1 < (t'.size : Nat) ∧ Y1b t' (i + 1) = Y1b (Y0j op) 1 then (qName t' (Y0j op) (Y0j op).size i).bind fun _ j => (Y42 t' 40 j).bind fun _ j => .ok op j else Y4d t' l i) = ((qName t' (Y0j op) ((Y0j op).size - 2) (i + 2)).bind fun _ j => (Y42 t' 40 j).bind fun _ j => .ok op j) := fun m hm g => by
    have e1 := g i h0 (by omega)
    have e2 := g (i + 1) (by omega) (by omega)
    rw [if_pos ((word_hit ho).2 ⟨by rw [e1]; exact h1, by rw [e2]; exact h2⟩), name_two z2 (by rw [e1]; exact h1) (by rw [e2]; exact h2)]
   revert B
   cases ((qName t (Y0j op) ((Y0j op).size - 2) (i + 2)).bind fun _ j => (Y42 t 40 j).bind fun _ j => .ok op j) with
   | bad n => exact fun B => ⟨by have := B.1; omega, B.2.1, fun g => by rw [fin n (by have := B.1; omega) g]; exact B.2.2 g⟩
   | ok a j => exact fun B => ⟨by have := B.1; omega, B.2.1, fun g => by rw [fin j (by have := B.1; omega) g]; exact B.2.2 g⟩
  ·rw [if_neg h]
   have B := wordL_LI l i (fun o h => hl o (by simp [h])) h0 hi
   have fin : ∀ m, i + 1 ≤ m → Ag t t' m → (if Yc t' i = Y1b (Y0j op) 0 ∧ i + 1 < (t'.size : Nat) ∧ Y1b t' (i + 1) = Y1b (Y0j op) 1 then (qName t' (Y0j op) (Y0j op).size i).bind fun _ j => (Y42 t' 40 j).bind fun _ j => .ok op j else Y4d t' l i) = Y4d t' l i := fun m hm g => by
    refine if_neg fun hh => h ((word_hit ho).2 ?_)
    obtain ⟨h1, h2⟩ := (word_hit ho).1 hh
    exact ⟨by rw [← g i h0 (by omega)]; exact h1, by rw [← g (i + 1) (by omega) (by omega)]; exact h2⟩
   revert B
   cases Y4d t l i with
   | bad n => exact fun B => ⟨B.1, B.2.1, fun g => by rw [fin n B.1 g]; exact B.2.2 g⟩
   | ok a j => exact fun B => ⟨B.1, B.2.1, fun g => by rw [fin j B.1 g]; exact B.2.2 g⟩
theorem word_LI (h0 : 0 ≤ i) (hi : i + 1 ≤ (t.size : Nat)) : LI t t' i 1 1 (qWord t i) (qWord t' i) := wordL_LI opsW i (fun _ h => h) h0 hi
end
def Tk.pos : Tk → Int
 | .E _ i => i
 | .L _ _ j => j
 | .A i => i
 | .M _ _ _ _ j => j
def Tk.one : Tk → Int
 | .L _ _ _ => 0
 | _ => 1
def LR (t t' : ByteArray) (i c : Int) : Rr → Rr → Prop
 | .out, _ => True
 | .ok l j, x' => i + c ≤ j ∧ j ≤ (t.size : Nat) ∧ (Ag t t' j → x' = .ok l j)
 | .err n, x' => i ≤ n ∧ n ≤ (t.size : Nat) ∧ (Ag t t' n → x' = .err n)
section
variable {t t' : ByteArray} {i : Int}
theorem LR.bind {x x' : Rr} {K K' : List Tr → Int → Rr} {c c' c'' : Int} (h : LR t t' i c x x') (hK : ∀ l j, i + c ≤ j → j ≤ (t.size : Nat) → LR t t' j c' (K l j) (K' l j)) (h1 : c'' ≤ c + c') (hc : 0 ≤ c) (h4 : 0 ≤ c') : LR t t' i c'' (x.bind K) (x'.bind K') := by
 cases x with
 | out => trivial
 | err n => exact ⟨h.1, h.2.1, fun g => by rw [h.2.2 g]; rfl⟩
 | ok a j =>
  obtain ⟨a1, a2, a3⟩ := h
  have k := hK a j a1 a2
  show LR t t' i c'' (K a j) _
  cases hk : K a j with
  | out => trivial
  | err n => rw [hk] at k; exact ⟨by have := k.1; omega, k.2.1, fun g => by rw [a3 (g.le (by have := k.1; omega))]; exact k.2.2 g⟩
  | ok a' j' => rw [hk] at k; exact ⟨by have := k.1; omega, k.2.1, fun g => by rw [a3 (g.le (by have := k.1; omega))]; exact k.2.2 g⟩
theorem LR.pre {x x' y' : Rr} {c d : Int} (h : LR t t' (i + d) c x x') (hd : 0 ≤ d) (hc : 0 ≤ c) (e : ∀ m, i ≤ m → Ag t t' m → y' = x') : LR t t' i (d + c) x y' := by
 cases x with
 | out => trivial
 | err n => exact ⟨by have := h.1; omega, h.2.1, fun g => by rw [e n (by have := h.1; omega) g]; exact h.2.2 g⟩
 | ok l j => exact ⟨by have := h.1; omega, h.2.1, fun g => by rw [e j (by have := h.1; omega) g]; exact h.2.2 g⟩
theorem LR.weak {c c' : Int} (hc : c' ≤ c) : ∀ {x x' : Rr}, LR t t' i c x x' → LR t t' i c' x x'
 | .out, _, _ => trivial
 | .err _, _, h => h
 | .ok _ _, _, h => ⟨by have := h.1; omega, h.2⟩
theorem LR.lf {x x' : Lf Tr} {c b : Int} (h : LI t t' i c b x x') (hb : 0 ≤ b) : LR t t' i c (ofLf x) (ofLf x') := by
 cases x with
 | bad n => exact ⟨by have := h.1; omega, h.2.1, fun g => by rw [h.2.2 g]; rfl⟩
 | ok l j => exact ⟨h.1, h.2.1, fun g => by rw [h.2.2 g]; rfl⟩
theorem close_LR (h0 : 0 ≤ i) (hi : i ≤ (t.size : Nat)) (op : Int) (l : List Tr) : LR t t' i 1 (Y1m t op l i) (Y1m t' op l i) := by
 unfold Y1m
 split
 ·next h => exact ⟨by omega, by have := Y2d (t := t) (i := i) (by omega); omega, fun g => by rw [g i h0 (by omega), if_pos h]⟩
 ·next h => exact ⟨by omega, hi, fun g => by rw [g i h0 (by omega), if_neg h]⟩
theorem rd_LR : ∀ (k : Nat) (T : Tk), 0 ≤ T.pos → T.pos ≤ (t.size : Nat) → LR t t' T.pos T.one (rd t k T) (rd t' k T)
 | 0, T, _, _ => trivial
 | k + 1, T, h0, hi => by
  have IH := fun T h0 hi => rd_LR k T h0 hi
  rw [rd_stp, rd_stp]
  cases T with
  | E p i =>
   simp only [Tk.pos] at h0 hi
   exact LR.bind (IH (.A i) h0 hi) (c' := 0) (fun l j h1 h2 => IH (.L p l j) (by simp only [Tk.pos, Tk.one] at h1 ⊢; omega) h2) (by simp [Tk.one]) (by simp [Tk.one]) (by omega)
  | L p l j =>
   simp only [Tk.pos, Tk.one] at h0 hi ⊢
   simp only [stp]
   cases hO : opOf (Yc t j) with
   | none => exact ⟨by omega, hi, fun g => by simp only [g j h0 (by omega), hO]⟩
   | some o =>
    simp only []
    have hlt := Y2d (t := t) (i := j) (by intro e; rw [e] at hO; cases hO)
    split
    ·next hp =>
     have E := IH (.E (prec o + 1) (j + 1)) (by simp only [Tk.pos]; omega) (by simp only [Tk.pos]; omega)
     have B := LR.bind (c'' := 0) E (c' := 0) (K := fun l2 j2 => rd t k (.L p [.node ⟨o, 0⟩ (l ++ l2)] j2)) (K' := fun l2 j2 => rd t' k (.L p [.node ⟨o, 0⟩ (l ++ l2)] j2)) (fun l2 j2 h1 h2 => IH (.L p _ j2) (by simp only [Tk.pos, Tk.one] at h1 ⊢; omega) h2) (by simp [Tk.one]) (by simp [Tk.one]) (by omega)
     have := LR.pre (d := 1) B (by omega) (by omega) (y' := match opOf (Yc t' j) with
      | some o => if p ≤ prec o then (rd t' k (.E (prec o + 1) (j + 1))).bind fun l2 j2 => rd t' k (.L p [.node ⟨o, 0⟩ (l ++ l2)] j2) else .ok l j
      | none => .ok l j) (fun m hm g => by rw [g j h0 hm, hO]; simp only []; rw [if_pos hp])
     revert this
     cases (rd t k (.E (prec o + 1) (j + 1))).bind fun l2 j2 => rd t k (.L p [.node ⟨o, 0⟩ (l ++ l2)] j2) with
     | out => exact id
     | err n => exact id
     | ok l j' => exact fun h => ⟨by have := h.1; omega, h.2⟩
    ·next hp => exact ⟨by omega, hi, fun g => by simp only [g j h0 (by omega), hO]; rw [if_neg hp]⟩
  | A i =>
   simp only [Tk.pos, Tk.one] at h0 hi ⊢
   simp only [stp]
   split
   ·next h =>
    have := LR.lf (num_LI (t := t) (t' := t') h0 hi) (by omega)
    exact LR.pre (i := i) (d := 0) (c := 1) (by rw [show i + 0 = i by omega]; exact this) (by omega) (by omega) (fun m hm g => by rw [g i h0 hm, if_pos h])
   ·next h =>
    split
    ·next h2 =>
     have hlt := Y2d (t := t) (i := i) (by omega)
     have E := IH (.E 1 (i + 1)) (by simp only [Tk.pos]; omega) (by simp only [Tk.pos]; omega)
     have B := LR.bind (c'' := 0) E (c' := 1) (K := fun l j => Y1m t 10 l j) (K' := fun l j => Y1m t' 10 l j) (fun l j h1 h3 => close_LR (by simp only [Tk.pos, Tk.one] at h1; omega) h3 _ _) (by simp [Tk.one]) (by simp [Tk.one]) (by omega)
     exact LR.pre (d := 1) B (by omega) (by omega) (fun m hm g => by rw [g i h0 hm, if_neg h, if_pos h2])
    ·next h2 =>
     split
     ·next h3 =>
      have hlt := Y2d (t := t) (i := i) (by omega)
      have Wd := word_LI (t := t) (t' := t') h0 (by omega)
      have tail : ∀ (op j : Int), 0 ≤ j → j ≤ (t.size : Nat) → ¬ op = 1 → ¬ op = 12 → LR t t' j 1 ((rd t k (.E 1 j)).bind fun l j =>
        if op = 13 then rd t k (.M l 0 0 0 j)
        else if Y4h op = 2 then (if Yc t j = 44 then (rd t k (.E 1 (j + 1))).bind fun l2 j => Y1m t op (l ++ l2) j else .err j)
        else Y1m t op l j) ((rd t' k (.E 1 j)).bind fun l j =>
        if op = 13 then rd t' k (.M l 0 0 0 j)
        else if Y4h op = 2 then (if Yc t' j = 44 then (rd t' k (.E 1 (j + 1))).bind fun l2 j => Y1m t' op (l ++ l2) j else .err j)
        else Y1m t' op l j) := fun op j j0 j1 o1 o12 => by
       refine LR.bind (IH (.E 1 j) j0 j1) (c' := 1) (fun l j2 q1 q2 => ?_) (by simp [Tk.one]) (by simp [Tk.one]) (by omega)
       simp only [Tk.pos, Tk.one] at q1
       split
       ·exact IH (.M l 0 0 0 j2) (by simp only [Tk.pos]; omega) q2
       ·split
        ·split
         ·next h44 =>
          have hlt := Y2d (t := t) (i := j2) (by omega)
          have B := LR.bind (c'' := 0) (IH (.E 1 (j2 + 1)) (by simp only [Tk.pos]; omega) (by simp only [Tk.pos]; omega)) (c' := 1) (K := fun l2 j => Y1m t op (l ++ l2) j) (K' := fun l2 j => Y1m t' op (l ++ l2) j) (fun l j h1 h3 => close_LR (by simp only [Tk.pos, Tk.one] at h1; omega) h3 _ _) (by simp [Tk.one]) (by simp [Tk.one]) (by omega)
          exact LR.pre (d := 1) B (by omega) (by omega) (fun m hm g => by rw [g j2 (by omega) hm, if_pos h44])
         ·next h44 => exact ⟨by omega, q2, fun g => by rw [g j2 (by omega) (by omega), if_neg h44]⟩
        ·exact close_LR (by omega) q2 _ _
      cases hW : qWord t i with
      | bad n =>
       rw [hW] at Wd
       exact ⟨by have := Wd.1; omega, Wd.2.1, fun g => by rw [g i h0 (by have := Wd.1; omega), if_neg h, if_neg h2, if_pos h3, Wd.2.2 g]⟩
      | ok op j =>
       rw [hW] at Wd
       obtain ⟨w1, w2, w3⟩ := Wd
       simp only []
       have fin : ∀ {x x' : Rr}, LR t t' j 0 x x' → (∀ m, j ≤ m → Ag t t' m → (if 48 ≤ Yc t' i ∧ Yc t' i ≤ 57 then ofLf (qNum t' i)
        else if Yc t' i = 40 then (rd t' k (.E 1 (i + 1))).bind fun l j => Y1m t' 10 l j
        else if 97 ≤ Yc t' i ∧ Yc t' i ≤ 122 then
         match qWord t' i with
         | .bad j => .err j
         | .ok op j =>
          if op = 1 then .ok [.node ⟨1, Yc t' i - 97⟩ []] j else if op = 12 then ofLf (qSum t' j)
          else (rd t' k (.E 1 j)).bind fun l j =>
           if op = 13 then rd t' k (.M l 0 0 0 j)
           else if Y4h op = 2 then (if Yc t' j = 44 then (rd t' k (.E 1 (j + 1))).bind fun l2 j => Y1m t' op (l ++ l2) j else .err j)
           else Y1m t' op l j
        else .err i) = x') → LR t t' i 1 x (if 48 ≤ Yc t' i ∧ Yc t' i ≤ 57 then ofLf (qNum t' i)
        else if Yc t' i = 40 then (rd t' k (.E 1 (i + 1))).bind fun l j => Y1m t' 10 l j
        else if 97 ≤ Yc t' i ∧ Yc t' i ≤ 122 then
         match qWord t' i with
         | .bad j => .err j
         | .ok op j =>
          if op = 1 then .ok [.node ⟨1, Yc t' i - 97⟩ []] j else if op = 12 then ofLf (qSum t' j)
          else (rd t' k (.E 1 j)).bind fun l j =>
           if op = 13 then rd t' k (.M l 0 0 0 j)
           else if Y4h op = 2 then (if Yc t' j = 44 then (rd t' k (.E 1 (j + 1))).bind fun l2 j => Y1m t' op (l ++ l2) j else .err j)
           else Y1m t' op l j
        else .err i) := fun {x x'} L e => by
         cases x with
         | out => trivial
         | err n => exact ⟨by have := L.1; omega, L.2.1, fun g => by rw [e n (by have := L.1; omega) g]; exact L.2.2 g⟩
         | ok l j' => exact ⟨by have := L.1; omega, L.2.1, fun g => by rw [e j' (by have := L.1; omega) g]; exact L.2.2 g⟩
       by_cases o1 : op = 1
       ·rw [if_pos o1]
        refine fin (x' := .ok [.node ⟨1, Yc t i - 97⟩ []] j) ⟨by omega, w2, fun _ => rfl⟩ fun m hm g => ?_
        rw [g i h0 (by omega), if_neg h, if_neg h2, if_pos h3, w3 (g.le hm)]
        simp only []
        rw [if_pos o1]
       ·rw [if_neg o1]
        by_cases o12 : op = 12
        ·rw [if_pos o12]
         have S := LR.lf ((sum_LI (t := t) (t' := t') (i := j) (by omega) w2).mono (c' := 0) (b' := 0) (by omega) (by omega)) (by omega)
         refine fin S fun m hm g => ?_
         rw [g i h0 (by omega), if_neg h, if_neg h2, if_pos h3, w3 (g.le hm)]
         simp only []
         rw [if_neg o1, if_pos o12]
        ·rw [if_neg o12]
         have S := tail op j (by omega) w2 o1 o12
         have S0 := LR.pre (i := j) (d := 0) (c := 1) (by rw [show j + 0 = j by omega]; exact S) (by omega) (by omega) (fun _ _ _ => rfl)
         refine fin (S0.weak (c' := 0) (by omega)) fun m hm g => ?_
         rw [g i h0 (by omega), if_neg h, if_neg h2, if_pos h3, w3 (g.le hm)]
         simp only []
         rw [if_neg o1, if_neg o12]
     ·next h3 => exact ⟨by omega, hi, fun g => by rw [g i h0 (by omega), if_neg h, if_neg h2, if_neg h3]⟩
  | M l c r e j =>
   simp only [Tk.pos, Tk.one] at h0 hi ⊢
   simp only [stp]
   have nxt : ∀ c2 r2 e2 : Int, j < (t.size : Nat) → LR t t' (j + 1) 1 ((rd t k (.E 1 (j + 1))).bind fun l2 j => rd t k (.M (l ++ l2) c2 r2 e2 j)) ((rd t' k (.E 1 (j + 1))).bind fun l2 j => rd t' k (.M (l ++ l2) c2 r2 e2 j)) := fun c2 r2 e2 hlt =>
    LR.bind (IH (.E 1 (j + 1)) (by simp only [Tk.pos]; omega) (by simp only [Tk.pos]; omega)) (c' := 1) (fun l2 j2 q1 q2 => IH (.M _ c2 r2 e2 j2) (by simp only [Tk.pos, Tk.one] at q1 ⊢; omega) q2) (by simp [Tk.one]) (by simp [Tk.one]) (by omega)
   have cut : ∀ {x x' : Rr}, LR t t' j (1 + 1) x x' → LR t t' j 1 x x' := fun {x x'} h => by
    cases x with
    | out => exact h
    | err n => exact h
    | ok l j' => exact ⟨by have := h.1; omega, h.2⟩
   by_cases h : Yc t j = 44 ∧ e + 1 < (if c = 0 then 4 else c)
   ·rw [if_pos h]
    exact cut (LR.pre (d := 1) (nxt _ _ _ (Y2d (by omega))) (by omega) (by omega) (fun m hm g => by rw [g j h0 hm, if_pos h]))
   ·rw [if_neg h]
    by_cases h2 : Yc t j = 59 ∧ (c = 0 ∨ e + 1 = c) ∧ r + 1 < 4
    ·rw [if_pos h2]
     exact cut (LR.pre (d := 1) (nxt _ _ _ (Y2d (by omega))) (by omega) (by omega) (fun m hm g => by rw [g j h0 hm, if_neg h, if_pos h2]))
    ·rw [if_neg h2]
     by_cases h3 : Yc t j = 41 ∧ (c = 0 ∨ e + 1 = c)
     ·rw [if_pos h3]
      exact ⟨by omega, by have := Y2d (t := t) (i := j) (by omega); omega, fun g => by rw [g j h0 (by omega), if_neg h, if_neg h2, if_pos h3]⟩
     ·rw [if_neg h3]
      exact ⟨by omega, hi, fun g => by rw [g j h0 (by omega), if_neg h, if_neg h2, if_neg h3]⟩
def Tk.wt (N : Int) : Tk → Int
 | .E _ i => 3 * (N - i) + 4
 | .L _ _ i => 3 * (N - i) + 3
 | .A i => 3 * (N - i) + 3
 | .M _ _ _ _ i => 3 * (N - i) + 3
theorem bind_out {x : Rr} {K : List Tr → Int → Rr} (hx : x ≠ .out) (hK : ∀ l j, x = .ok l j → K l j ≠ .out) : x.bind K ≠ .out := by
 cases x with
 | out => exact absurd rfl hx
 | err n => intro e; cases e
 | ok l j => exact hK l j rfl
theorem close_out (op : Int) (l : List Tr) (j : Int) : Y1m t op l j ≠ .out := by
 unfold Y1m
 split <;> intro e <;> cases e
theorem lf_out (x : Lf Tr) : ofLf x ≠ .out := by cases x <;> intro e <;> cases e
theorem rd_total : ∀ (k : Nat) (T : Tk), 0 ≤ T.pos → T.pos ≤ (t.size : Nat) → T.wt (t.size : Nat) ≤ k → rd t k T ≠ .out
 | 0, T, h0, h1, hk => by cases T <;> simp only [Tk.wt, Tk.pos] at * <;> omega
 | k + 1, T, h0, h1, hk => by
  have L := fun T h0 h1 => rd_LR (t := t) (t' := t) k T h0 h1
  have at1 : ∀ (T : Tk) {l : List Tr} {j : Int}, 0 ≤ T.pos → T.pos ≤ (t.size : Nat) → rd t k T = .ok l j → T.pos + T.one ≤ j ∧ j ≤ (t.size : Nat) := fun T l j h0 h1 e => by
   have := L T h0 h1
   rw [e] at this
   exact ⟨this.1, this.2.1⟩
  have IH := fun T h0 h1 hk => rd_total k T h0 h1 hk
  rw [rd_stp]
  cases T with
  | E p i =>
   simp only [Tk.pos, Tk.wt] at h0 h1 hk
   refine bind_out (IH (.A i) h0 h1 (by simp only [Tk.wt]; push_cast at hk; omega)) fun l j e => ?_
   obtain ⟨p1, p2⟩ := at1 (.A i) h0 h1 e
   simp only [Tk.pos, Tk.one] at p1
   exact IH (.L p l j) (by simp only [Tk.pos]; omega) p2 (by simp only [Tk.wt]; push_cast at hk; omega)
  | L p l j =>
   simp only [Tk.pos, Tk.wt] at h0 h1 hk
   simp only [stp]
   split
   ·next o ho =>
    have hlt := Y2d (t := t) (i := j) (by intro e; rw [e] at ho; cases ho)
    split
    ·refine bind_out (IH (.E _ (j + 1)) (by simp only [Tk.pos]; omega) (by simp only [Tk.pos]; omega) (by simp only [Tk.wt]; push_cast at hk; omega)) fun l2 j2 e => ?_
     obtain ⟨p1, p2⟩ := at1 (.E _ (j + 1)) (by simp only [Tk.pos]; omega) (by simp only [Tk.pos]; omega) e
     simp only [Tk.pos, Tk.one] at p1
     exact IH (.L p _ j2) (by simp only [Tk.pos]; omega) p2 (by simp only [Tk.wt]; push_cast at hk; omega)
    ·intro e; cases e
   ·intro e; cases e
  | A i =>
   simp only [Tk.pos, Tk.wt] at h0 h1 hk
   simp only [stp]
   split
   ·exact lf_out _
   ·split
    ·next h2 =>
     have hlt := Y2d (t := t) (i := i) (by omega)
     exact bind_out (IH (.E 1 (i + 1)) (by simp only [Tk.pos]; omega) (by simp only [Tk.pos]; omega) (by simp only [Tk.wt]; push_cast at hk; omega)) fun l j e => close_out _ _ _
    ·split
     ·next h3 =>
      have hlt := Y2d (t := t) (i := i) (by omega)
      have Wd := word_LI (t := t) (t' := t) h0 (by omega)
      cases hW : qWord t i with
      | bad n => intro e; cases e
      | ok op j =>
       rw [hW] at Wd
       obtain ⟨w1, w2, _⟩ := Wd
       simp only []
       split
       ·intro e; cases e
       ·split
        ·exact lf_out _
        ·refine bind_out (IH (.E 1 j) (by simp only [Tk.pos]; omega) w2 (by simp only [Tk.wt]; push_cast at hk; omega)) fun l j2 e => ?_
         obtain ⟨p1, p2⟩ := at1 (.E 1 j) (by simp only [Tk.pos]; omega) w2 e
         simp only [Tk.pos, Tk.one] at p1
         split
         ·exact IH (.M l 0 0 0 j2) (by simp only [Tk.pos]; omega) p2 (by simp only [Tk.wt]; push_cast at hk; omega)
         ·split
          ·split
           ·next h44 =>
            have hlt := Y2d (t := t) (i := j2) (by omega)
            exact bind_out (IH (.E 1 (j2 + 1)) (by simp only [Tk.pos]; omega) (by simp only [Tk.pos]; omega) (by simp only [Tk.wt]; push_cast at hk; omega)) fun l j e => close_out _ _ _
           ·intro e; cases e
          ·exact close_out _ _ _
     ·intro e; cases e
  | M l c r e j =>
   simp only [Tk.pos, Tk.wt] at h0 h1 hk
   simp only [stp]
   have nxt : ∀ c2 r2 e2 : Int, j < (t.size : Nat) → ((rd t k (.E 1 (j + 1))).bind fun l2 j => rd t k (.M (l ++ l2) c2 r2 e2 j)) ≠ .out := fun c2 r2 e2 hlt => by
    refine bind_out (IH (.E 1 (j + 1)) (by simp only [Tk.pos]; omega) (by simp only [Tk.pos]; omega) (by simp only [Tk.wt]; push_cast at hk; omega)) fun l2 j2 e => ?_
    obtain ⟨p1, p2⟩ := at1 (.E 1 (j + 1)) (by simp only [Tk.pos]; omega) (by simp only [Tk.pos]; omega) e
    simp only [Tk.pos, Tk.one] at p1
    exact IH (.M _ c2 r2 e2 j2) (by simp only [Tk.pos]; omega) p2 (by simp only [Tk.wt]; push_cast at hk; omega)
   by_cases a1 : Yc t j = 44 ∧ e + 1 < (if c = 0 then 4 else c)
   ·rw [if_pos a1]
    exact nxt _ _ _ (Y2d (by omega))
   ·rw [if_neg a1]
    by_cases a2 : Yc t j = 59 ∧ (c = 0 ∨ e + 1 = c) ∧ r + 1 < 4
    ·rw [if_pos a2]
     exact nxt _ _ _ (Y2d (by omega))
    ·rw [if_neg a2]
     by_cases a3 : Yc t j = 41 ∧ (c = 0 ∨ e + 1 = c)
     ·rw [if_pos a3]; intro e; cases e
     ·rw [if_neg a3]; intro e; cases e
end
def rdF (t : ByteArray) : Rr := rd t (3 * t.size + 4) (.E 1 0)
theorem rdF_out (t : ByteArray) : rdF t ≠ .out := rd_total _ _ (by simp [Tk.pos]) (by simp [Tk.pos]) (by simp [Tk.wt])
theorem rdF_ev {t : ByteArray} {r : Rr} (h : Ev t (.E 1 0) r) : rdF t = r := h.eq (rdF_out t)
theorem rdF_loc {t t' : ByteArray} {r : Rr} (h : rdF t = r) : (∀ n, r = .err n → 0 ≤ n ∧ n ≤ (t.size : Nat) ∧ (Ag t t' n → rdF t' = r)) ∧ (∀ l j, r = .ok l j → 0 < j ∧ j ≤ (t.size : Nat) ∧ (Ag t t' j → rdF t' = r)) := by
 have L := rd_LR (t := t) (t' := t') (3 * t.size + 4) (.E 1 0) (by simp [Tk.pos]) (by simp [Tk.pos])
 rw [show rd t (3 * t.size + 4) (.E 1 0) = r from h] at L
 refine ⟨fun n e => ?_, fun l j e => ?_⟩
 ·subst e
  exact ⟨L.1, L.2.1, fun g => rdF_ev ⟨(by intro e; cases e), _, L.2.2 g⟩⟩
 ·subst e
  exact ⟨by have := L.1; simp only [Tk.pos, Tk.one] at this; omega, L.2.1, fun g => rdF_ev ⟨(by intro e; cases e), _, L.2.2 g⟩⟩
theorem depL_ge : ∀ (ks : List Tr) (d : Int), d ≤ depL d ks
 | [], d => by rw [depL]; omega
 | k :: ks, d => by
  rw [depL]
  have := depL_ge ks (if k.dep + 1 > d then k.dep + 1 else d)
  split at this <;> split <;> omega
theorem dep_pos (x : Tr) : 1 ≤ x.dep := by cases x; rw [Tr.dep]; exact depL_ge _ _
theorem flat_pos (x : Tr) : 1 ≤ x.flat.length := by cases x; rw [Tr.flat]; simp
def leT (x y : Tr) : Prop := x.flat.length ≤ y.flat.length ∧ x.dep ≤ y.dep
theorem leT.refl (x : Tr) : leT x x := ⟨Xf _, by omega⟩
theorem leT.trans {x y z : Tr} (a : leT x y) (b : leT y z) : leT x z := ⟨by have := a.1; have := b.1; omega, by have := a.2; have := b.2; omega⟩
theorem leT_leaf (n : Y4) (y : Tr) : leT (.node n []) y := ⟨by have := flat_pos y; simpa [Tr.flat, flatL] using this, by have := dep_pos y; rw [Tr.dep, depL]; exact this⟩
theorem flat_two (n : Y4) (a b : Tr) : (Tr.node n [a, b]).flat.length = 1 + a.flat.length + b.flat.length := by simp [Tr.flat, flatL]; omega
theorem dep_two (n : Y4) (a b : Tr) : (Tr.node n [a, b]).dep = if b.dep > a.dep then b.dep + 1 else a.dep + 1 := by
 have := dep_pos a
 have e : (if a.dep + 1 > 1 then a.dep + 1 else 1) = a.dep + 1 := Vp
 rw [Tr.dep, depL, depL, depL, e]
 by_cases h : b.dep > a.dep
 ·rw [if_pos h, Vp]
 ·rw [if_neg h, Vn]
theorem leT_two {n n' : Y4} {a b a' b' : Tr} (h1 : leT a a') (h2 : leT b b') : leT (.node n [a, b]) (.node n' [a', b']) := by
 refine ⟨?_, ?_⟩
 ·rw [flat_two, flat_two]; have := h1.1; have := h2.1; omega
 ·rw [dep_two, dep_two]; have := h1.2; have := h2.2; split <;> split <;> omega
theorem leT_left (n : Y4) (a b : Tr) : leT a (.node n [a, b]) := by
 refine ⟨?_, ?_⟩
 ·rw [flat_two]; omega
 ·rw [dep_two]; split <;> omega
theorem close_one {t : ByteArray} {op : Int} {l l' : List Tr} {i j : Int} (h : Y1m t op l i = .ok l' j) : l'.length = 1 ∧ j = i + 1 := by
 unfold Y1m at h
 split at h
 ·cases h; exact ⟨rfl, rfl⟩
 ·cases h
theorem lf_one {x : Lf Tr} {l : List Tr} {j : Int} (h : ofLf x = .ok l j) : l.length = 1 := by
 cases x with
 | bad n => cases h
 | ok a j => cases h; rfl
theorem Y31 {x : Rr} {K : List Tr → Int → Rr} {l : List Tr} {j : Int} (h : x.bind K = .ok l j) : ∃ l1 j1, x = .ok l1 j1 ∧ K l1 j1 = .ok l j := by
 cases x with
 | out => cases h
 | err n => cases h
 | ok l1 j1 => exact ⟨l1, j1, rfl, h⟩
def Tk.sgl : Tk → Prop
 | .L _ l _ => l.length = 1
 | _ => True
theorem rd_one {t : ByteArray} : ∀ (k : Nat) (T : Tk) (l : List Tr) (j : Int), T.sgl → rd t k T = .ok l j → l.length = 1
 | 0, T, l, j, hs, h => by rw [rd] at h; cases h
 | k + 1, T, l, j, hs, h => by
  rw [rd_stp] at h
  cases T with
  | E p i =>
   obtain ⟨l1, j1, e1, e2⟩ := Y31 h
   exact rd_one k (.L p l1 j1) _ _ (rd_one k (.A i) _ _ trivial e1) e2
  | L p l0 i =>
   simp only [stp] at h
   split at h
   ·split at h
    ·obtain ⟨l1, j1, e1, e2⟩ := Y31 h
     exact rd_one k (.L p _ j1) _ _ (by simp [Tk.sgl]) e2
    ·cases h; exact hs
   ·cases h; exact hs
  | A i =>
   simp only [stp] at h
   split at h
   ·exact lf_one h
   ·split at h
    ·obtain ⟨l1, j1, e1, e2⟩ := Y31 h
     exact (close_one e2).1
    ·split at h
     ·split at h
      ·cases h
      ·split at h
       ·cases h; rfl
       ·split at h
        ·exact lf_one h
        ·obtain ⟨l1, j1, e1, e2⟩ := Y31 h
         split at e2
         ·exact rd_one k (.M _ _ _ _ _) _ _ trivial e2
         ·split at e2
          ·split at e2
           ·obtain ⟨l3, j3, e3, e4⟩ := Y31 e2
            exact (close_one e4).1
           ·cases e2
          ·exact (close_one e2).1
     ·cases h
  | M l0 c r e i =>
   simp only [stp] at h
   by_cases a1 : Yc t i = 44 ∧ e + 1 < (if c = 0 then 4 else c)
   ·rw [if_pos a1] at h
    obtain ⟨l1, j1, e1, e2⟩ := Y31 h
    exact rd_one k (.M _ _ _ _ _) _ _ trivial e2
   ·rw [if_neg a1] at h
    split at h
    ·obtain ⟨l1, j1, e1, e2⟩ := Y31 h
     exact rd_one k (.M _ _ _ _ _) _ _ trivial e2
    ·split at h
     ·cases h; rfl
     ·cases h
theorem len_one {l : List Tr} (h : l.length = 1) : ∃ x, l = [x] := by
 cases l with
 | nil => simp at h
 | cons x l => cases l with
  | nil => exact ⟨x, rfl⟩
  | cons y l => simp at h
theorem grow_L {t : ByteArray} : ∀ (k : Nat) (p : Int) (w y : Tr) (i j : Int), rd t k (.L p [w] i) = .ok [y] j → leT w y
 | 0, p, w, y, i, j, h => by rw [rd] at h; cases h
 | k + 1, p, w, y, i, j, h => by
  rw [rd_stp] at h
  simp only [stp] at h
  split at h
  ·split at h
   ·obtain ⟨l1, j1, e1, e2⟩ := Y31 h
    obtain ⟨x, rfl⟩ := len_one (rd_one k (.E _ _) _ _ trivial e1)
    exact (leT_left _ _ _).trans (grow_L k p _ y j1 j e2)
   ·cases h; exact leT.refl _
  ·cases h; exact leT.refl _
section
variable {t t' : ByteArray}
theorem sum_strict {i m : Int} {x : Tr} (h0 : 0 ≤ i) (hi : i ≤ (t.size : Nat)) (h : qSum t i = .ok x m) (g : Ag t t' (m - 1)) : qSum t' i = .ok x m := by
 unfold qSum at h ⊢
 have N := num_LI (t := t) (t' := t') h0 hi
 cases h1 : qNum t i with
 | bad n => rw [h1] at h; cases h
 | ok x1 j1 =>
  rw [h1] at h N
  have h : (qSumL t 4 [x1] j1).bind (fun l j => qSumR t l j) = .ok x m := h
  obtain ⟨n1, n2, n3⟩ := N
  have L := sumL_LI (t := t) (t' := t') 4 [x1] j1 (by omega) n2
  cases h2 : qSumL t 4 [x1] j1 with
  | bad n => rw [h2] at h; cases h
  | ok l j2 =>
   rw [h2] at h L
   obtain ⟨l1, l2, l3⟩ := L
   have h : qSumR t l j2 = .ok x m := h
   unfold qSumR at h
   split at h
   ·cases h
   ·next hl =>
    have W1 := want_LI (t := t) (t' := t') (i := j2) (by omega) l2 (b := 59) (by omega)
    cases h3 : Y42 t 59 j2 with
    | bad n => rw [h3] at h; cases h
    | ok u j3 =>
     rw [h3] at h W1
     obtain ⟨w1, w2, w3⟩ := W1
     have h : ((qNum t j3).bind fun x j => (Y42 t 41 j).bind fun _ j => .ok (.node ⟨12, (l.length : Nat)⟩ (l ++ [x])) j) = .ok x m := h
     have N2 := num_LI (t := t) (t' := t') (i := j3) (by omega) w2
     cases h4 : qNum t j3 with
     | bad n => rw [h4] at h; cases h
     | ok x2 j4 =>
      rw [h4] at h N2
      obtain ⟨m1, m2, m3⟩ := N2
      have h : ((Y42 t 41 j4).bind fun _ j => .ok (.node ⟨12, (l.length : Nat)⟩ (l ++ [x2])) j) = .ok x m := h
      unfold Y42 at h
      split at h
      ·next h41 =>
       have hm : j4 + 1 = m := by cases h; rfl
       rw [n3 (g.le (by omega))]
       show (qSumL t' 4 [x1] j1).bind _ = _
       rw [l3 (g.le (by omega))]
       show qSumR t' l j2 = _
       unfold qSumR
       rw [if_neg hl, w3 (g.le (by omega))]
       show (qNum t' j3).bind _ = _
       rw [m3 (g.le (by omega))]
       show (Y42 t' 41 j4).bind _ = _
       unfold Y42
       rw [g j4 (by omega) (by omega), if_pos h41]
       exact h
      ·cases h
theorem rd_loc {k : Nat} {T : Tk} {l : List Tr} {j : Int} (h0 : 0 ≤ T.pos) (hi : T.pos ≤ (t.size : Nat)) (h : rd t k T = .ok l j) : T.pos + T.one ≤ j ∧ j ≤ (t.size : Nat) ∧ (Ag t t' j → rd t' k T = .ok l j) := by
 have := rd_LR (t := t) (t' := t') k T h0 hi
 rw [h] at this
 exact this
theorem close_strict {op : Int} {l l' : List Tr} {i m : Int} (h0 : 0 ≤ i) (h : Y1m t op l i = .ok l' m) (g : Ag t t' (m - 1)) : Y1m t' op l i = .ok l' m := by
 unfold Y1m at h ⊢
 split at h
 ·next hp => cases h; rw [g i h0 (by omega), if_pos hp]
 ·cases h
theorem M_strict : ∀ (k : Nat) (l : List Tr) (c r e i : Int) (l' : List Tr) (m : Int), 0 ≤ i → i ≤ (t.size : Nat) → rd t k (.M l c r e i) = .ok l' m → Ag t t' (m - 1) → i < m ∧ rd t' k (.M l c r e i) = .ok l' m
 | 0, _, _, _, _, _, _, _, _, _, h, _ => by rw [rd] at h; cases h
 | k + 1, l, c, r, e, i, l', m, h0, hi, h, g => by
  rw [rd_stp] at h ⊢
  simp only [stp] at h ⊢
  have nxt : ∀ c2 r2 e2, i < (t.size : Nat) → ((rd t k (.E 1 (i + 1))).bind fun l2 j => rd t k (.M (l ++ l2) c2 r2 e2 j)) = .ok l' m → i < m ∧ ((rd t' k (.E 1 (i + 1))).bind fun l2 j => rd t' k (.M (l ++ l2) c2 r2 e2 j)) = .ok l' m := fun c2 r2 e2 hlt h => by
   obtain ⟨l1, j1, e1, e2⟩ := Y31 h
   obtain ⟨p1, p2, p3⟩ := rd_loc (t' := t') (T := .E 1 (i + 1)) (by simp only [Tk.pos]; omega) (by simp only [Tk.pos]; omega) e1
   simp only [Tk.pos, Tk.one] at p1
   obtain ⟨q1, q2⟩ := M_strict k _ _ _ _ j1 l' m (by omega) p2 e2 g
   exact ⟨by omega, by rw [p3 (g.le (by omega))]; exact q2⟩
  by_cases hc : Yc t i = 44 ∧ e + 1 < (if c = 0 then 4 else c)
  ·rw [if_pos hc] at h
   obtain ⟨a, b⟩ := nxt _ _ _ (Y2d (by omega)) h
   rw [g i h0 (by omega), if_pos hc]
   exact ⟨a, b⟩
  ·rw [if_neg hc] at h
   split at h
   ·next hc2 =>
    obtain ⟨a, b⟩ := nxt _ _ _ (Y2d (by omega)) h
    rw [g i h0 (by omega), if_neg hc, if_pos hc2]
    exact ⟨a, b⟩
   ·next hc2 =>
    split at h
    ·next hc3 =>
     cases h
     rw [g i h0 (by omega), if_neg hc, if_neg hc2, if_pos hc3]
     exact ⟨by omega, rfl⟩
    ·cases h
theorem A_strict {k : Nat} {i m : Int} {x : Tr} (h0 : 0 ≤ i) (hi : i ≤ (t.size : Nat)) (h : rd t k (.A i) = .ok [x] m) (g : Ag t t' (m - 1)) : i < m ∧ ((∃ n, x = .node n []) ∨ rd t' k (.A i) = .ok [x] m) := by
 have lt := (rd_loc (t' := t') (T := .A i) h0 hi h).1
 simp only [Tk.pos, Tk.one] at lt
 refine ⟨by omega, ?_⟩
 cases k with
 | zero => rw [rd] at h; cases h
 | succ k =>
  rw [rd_stp] at h ⊢
  simp only [stp] at h ⊢
  rw [g i h0 (by omega)]
  split at h
  ·next hd =>
   left
   unfold qNum at h
   split at h
   ·cases h
   ·cases h; exact ⟨_, rfl⟩
  ·next hd =>
   rw [if_neg hd]
   split at h
   ·next h40 =>
    rw [if_pos h40]
    have hlt := Y2d (t := t) (i := i) (by omega)
    obtain ⟨l1, j1, e1, e2⟩ := Y31 h
    obtain ⟨p1, p2, p3⟩ := rd_loc (t' := t') (T := .E 1 (i + 1)) (by simp only [Tk.pos]; omega) (by simp only [Tk.pos]; omega) e1
    simp only [Tk.pos, Tk.one] at p1
    have hm := (close_one e2).2
    right
    rw [p3 (g.le (by omega))]
    exact close_strict (by omega) e2 g
   ·next h40 =>
    rw [if_neg h40]
    split at h
    ·next hz =>
     rw [if_pos hz]
     have hlt := Y2d (t := t) (i := i) (by omega)
     have Wd := word_LI (t := t) (t' := t') h0 (by omega)
     cases hW : qWord t i with
     | bad n => rw [hW] at h; cases h
     | ok op j =>
      rw [hW] at h Wd
      obtain ⟨w1, w2, w3⟩ := Wd
      simp only [] at h
      split at h
      ·cases h; exact .inl ⟨_, rfl⟩
      ·next o1 =>
       right
       split at h
       ·next o12 =>
        cases hS : qSum t j with
        | bad n => rw [hS] at h; cases h
        | ok y j2 =>
         rw [hS] at h
         have S := (sum_LI (t := t) (t' := t') (i := j) (by omega) w2).ok hS
         have em : j2 = m := by cases h; rfl
         subst em
         rw [w3 (g.le (by omega))]
         simp only []
         rw [if_neg o1, if_pos o12, sum_strict (by omega) w2 hS g]
         exact h
       ·next o12 =>
        obtain ⟨l1, j1, e1, e2⟩ := Y31 h
        obtain ⟨p1, p2, p3⟩ := rd_loc (t' := t') (T := .E 1 j) (by simp only [Tk.pos]; omega) w2 e1
        simp only [Tk.pos, Tk.one] at p1
        have fin : j1 < m → (if op = 13 then rd t' k (.M l1 0 0 0 j1)
          else if Y4h op = 2 then (if Yc t' j1 = 44 then (rd t' k (.E 1 (j1 + 1))).bind fun l2 j => Y1m t' op (l1 ++ l2) j else Rr.err j1)
          else Y1m t' op l1 j1) = Rr.ok [x] m → (match qWord t' i with
           | .bad j => Rr.err j
           | .ok op j =>
            if op = 1 then Rr.ok [.node ⟨1, Yc t i - 97⟩ []] j else if op = 12 then ofLf (qSum t' j)
            else (rd t' k (.E 1 j)).bind fun l j =>
             if op = 13 then rd t' k (.M l 0 0 0 j)
             else if Y4h op = 2 then (if Yc t' j = 44 then (rd t' k (.E 1 (j + 1))).bind fun l2 j => Y1m t' op (l ++ l2) j else .err j)
             else Y1m t' op l j) = .ok [x] m := fun hlt e => by
         rw [w3 (g.le (by omega))]
         simp only []
         rw [if_neg o1, if_neg o12, p3 (g.le (by omega))]
         exact e
        split at e2
        ·next o13 =>
         obtain ⟨a, b⟩ := M_strict k l1 0 0 0 j1 _ m (by omega) p2 e2 g
         exact fin a (by rw [if_pos o13]; exact b)
        ·next o13 =>
         split at e2
         ·next o2 =>
          split at e2
          ·next h44 =>
           have hlt2 := Y2d (t := t) (i := j1) (by omega)
           obtain ⟨l3, j3, e3, e4⟩ := Y31 e2
           obtain ⟨q1, q2, q3⟩ := rd_loc (t' := t') (T := .E 1 (j1 + 1)) (by simp only [Tk.pos]; omega) (by simp only [Tk.pos]; omega) e3
           simp only [Tk.pos, Tk.one] at q1
           have hm := (close_one e4).2
           refine fin (by omega) ?_
           rw [if_neg o13, if_pos o2, g j1 (by omega) (by omega), if_pos h44, q3 (g.le (by omega))]
           exact close_strict (by omega) e4 g
          ·cases e2
         ·next o2 =>
          have hm := (close_one e2).2
          refine fin (by omega) ?_
          rw [if_neg o13, if_neg o2]
          exact close_strict (by omega) e2 g
    ·cases h
theorem begin_E {u s : ByteArray} (g : Ag u s ((u.size : Nat) - 1)) : ∀ (k : Nat),
  (∀ (p i j' : Int) (x y : Tr), 0 ≤ i → i ≤ (u.size : Nat) → rd u k (.E p i) = .ok [x] (u.size : Nat) → rd s k (.E p i) = .ok [y] j' → leT x y) ∧
  (∀ (p i j' : Int) (z z' x y : Tr), 0 ≤ i → i ≤ (u.size : Nat) → leT z z' → rd u k (.L p [z] i) = .ok [x] (u.size : Nat) → rd s k (.L p [z'] i) = .ok [y] j' → leT x y)
 | 0 => ⟨fun _ _ _ _ _ _ _ h => (by rw [rd] at h; cases h), fun _ _ _ _ _ _ _ _ _ _ h => (by rw [rd] at h; cases h)⟩
 | k + 1 => by
  obtain ⟨IE, IL⟩ := begin_E g k
  refine ⟨fun p i j' x y h0 hi h h' => ?_, fun p i j' z z' x y h0 hi hz h h' => ?_⟩
  ·rw [rd_stp] at h h'
   obtain ⟨l1, j1, e1, e2⟩ := Y31 h
   obtain ⟨l2, j2, e3, e4⟩ := Y31 h'
   obtain ⟨a, rfl⟩ := len_one (rd_one k (.A _) _ _ trivial e1)
   obtain ⟨b, rfl⟩ := len_one (rd_one k (.A _) _ _ trivial e3)
   obtain ⟨p1, p2, p3⟩ := rd_loc (t' := s) (T := .A i) h0 hi e1
   simp only [Tk.pos, Tk.one] at p1
   by_cases hj : j1 < (u.size : Nat)
   ·rw [p3 (g.le (by omega))] at e3
    cases e3
    exact IL p j1 j' a a x y (by omega) p2 (leT.refl a) e2 e4
   ·have ej : j1 = (u.size : Nat) := by omega
    subst ej
    have exa : x = a := by
     cases k with
     | zero => rw [rd] at e2; cases e2
     | succ k =>
      rw [rd_stp] at e2
      have pk : Yc u ((u.size : Nat) : Int) = 0 := by unfold Yc; rw [Vn]
      simp only [stp, pk, opOf] at e2
      cases e2; rfl
    subst exa
    refine leT.trans ?_ (grow_L k p b y j2 j' e4)
    obtain ⟨_, ⟨n, rfl⟩ | q⟩ := A_strict (t' := s) h0 hi e1 g
    ·exact leT_leaf n b
    ·rw [q] at e3; cases e3; exact leT.refl _
  ·by_cases hj : i < (u.size : Nat)
   ·rw [rd_stp] at h h'
    simp only [stp] at h h'
    rw [g i h0 (by omega)] at h'
    cases hO : opOf (Yc u i) with
    | none => rw [hO] at h; cases h; omega
    | some o =>
     rw [hO] at h h'
     simp only [] at h h'
     by_cases hp : p ≤ prec o
     ·rw [if_pos hp] at h h'
      obtain ⟨l1, j1, e1, e2⟩ := Y31 h
      obtain ⟨l2, j2, e3, e4⟩ := Y31 h'
      obtain ⟨a, rfl⟩ := len_one (rd_one k (.E _ _) _ _ trivial e1)
      obtain ⟨b, rfl⟩ := len_one (rd_one k (.E _ _) _ _ trivial e3)
      obtain ⟨p1, p2, p3⟩ := rd_loc (t' := s) (T := .E (prec o + 1) (i + 1)) (by simp only [Tk.pos]; omega) (by simp only [Tk.pos]; omega) e1
      simp only [Tk.pos, Tk.one] at p1
      have e2 : rd u k (.L p [.node ⟨o, 0⟩ [z, a]] j1) = .ok [x] (u.size : Nat) := e2
      have e4 : rd s k (.L p [.node ⟨o, 0⟩ [z', b]] j2) = .ok [y] j' := e4
      by_cases hj1 : j1 < (u.size : Nat)
      ·rw [p3 (g.le (by omega))] at e3
       cases e3
       exact IL p j1 j' _ _ x y (by omega) p2 (leT_two hz (leT.refl a)) e2 e4
      ·have ej : j1 = (u.size : Nat) := by omega
       subst ej
       have exa : x = .node ⟨o, 0⟩ [z, a] := by
        cases k with
        | zero => rw [rd] at e2; cases e2
        | succ k =>
         rw [rd_stp] at e2
         have pk : Yc u ((u.size : Nat) : Int) = 0 := by unfold Yc; rw [Vn]
         simp only [stp, pk, opOf] at e2
         cases e2; rfl
       subst exa
       exact (leT_two hz (IE _ _ _ a b (by omega) (by omega) e1 e3)).trans (grow_L k p _ y j2 j' e4)
     ·rw [if_neg hp] at h; cases h; omega
   ·have ei : i = (u.size : Nat) := by omega
    subst ei
    have exa : x = z := by
     rw [rd_stp] at h
     have pk : Yc u ((u.size : Nat) : Int) = 0 := by unfold Yc; rw [Vn]
     simp only [stp, pk, opOf] at h
     cases h; rfl
    subst exa
    exact hz.trans (grow_L (k + 1) p z' y _ j' h')
end
theorem rdF_prefix {u s : ByteArray} (g : Ag u s ((u.size : Nat) - 1)) (hle : u.size ≤ s.size) {x : Tr} (h : rdF s = .ok [x] (s.size : Nat)) : (∃ y, rdF u = .ok [y] (u.size : Nat) ∧ leT y x) ∨ rdF u = .err (u.size : Nat) := by
 cases hu : rdF u with
 | out => exact absurd hu (rdF_out u)
 | err n =>
  have := (rdF_loc (t' := s) hu).1 n rfl
  by_cases hn : n < (u.size : Nat)
  ·have := this.2.2 (g.le (by omega))
   rw [h] at this; cases this
  ·have : n = (u.size : Nat) := by omega
   rw [this]; exact .inr rfl
 | ok l j =>
  have L := (rdF_loc (t' := s) hu).2 l j rfl
  by_cases hn : j < (u.size : Nat)
  ·have := L.2.2 (g.le (by omega))
   rw [h] at this
   cases this
   omega
  ·have ej : j = (u.size : Nat) := by omega
   subst ej
   obtain ⟨y, rfl⟩ := len_one (rd_one _ (.E _ _) _ _ trivial hu)
   refine .inl ⟨y, rfl, ?_⟩
   have hu' : rd u (3 * s.size + 4) (.E 1 0) = .ok [y] (u.size : Nat) := by
    have := rd_add (t := u) (k := 3 * u.size + 4) (T := .E 1 0) (rdF_out u) (3 * (s.size - u.size))
    rw [show 3 * u.size + 4 + 3 * (s.size - u.size) = 3 * s.size + 4 by omega] at this
    rw [this]; exact hu
   exact (begin_E g _).1 1 0 _ y x (by omega) (by omega) hu' h
end Go.Proofs.YtkgfbpbndmklnaaDoor
