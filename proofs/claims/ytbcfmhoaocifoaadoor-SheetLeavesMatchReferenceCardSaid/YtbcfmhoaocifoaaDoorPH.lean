/- Own work. -/
import Derived.Test.YtbcfmhoaocifoaaDoorPl2
import Derived.Test.YtbcfmhoaocifoaaDoorW12
import Derived.Test.YtbcfmhoaocifoaaDoorSh
set_option maxRecDepth 100000
set_option linter.unusedSimpArgs false
set_option linter.unusedVariables false
namespace Go.Proofs.YtbcfmhoaocifoaaDoor
open Go.Abs
theorem wrap_u8 {n : Int} (h : 0 ≤ n ∧ n ≤ 255) : IntKind.wrap .u8 n = n := by
 unfold IntKind.wrap; simp [IntKind.bits, IntKind.signed] <;> omega
theorem same_loop (t0 t1 : List Int) (hl : t0.length = t1.length) (hb : t0.length < 1000000000) : ∀ (n i : Nat), t0.length < n + i → i ≤ t0.length →
  iter (fun loop (s : Int) => Y3b t0 t1 loop s) n (i : Int) = some (decide (t0.drop i = t1.drop i))
 | 0, i, h1, h2 => by omega
 | n + 1, i, h1, h2 => by
  rw [Y0r]
  rw [Y3b]
  by_cases h : i < t0.length
  ·have ih := same_loop t0 t1 hl hb n (i + 1) (by omega) (by omega)
   rw [Y03 (by simpa using h), Yw (by omega), Yw (by omega), Yx (by omega)]
   rw [getD_drop t0 i 0 h, getD_drop t1 i 0 (by omega)]
   simp only [X5]
   by_cases he : t0.getD i 0 = t1.getD i 0
   ·rw [Y00 (by rw [he]; exact bne_self_eq_false _)]
    rw [show ((i : Int) + 1) = ((i + 1 : Nat) : Int) from by omega, ih]
    simp only [he, List.cons.injEq, true_and]
   ·rw [Y03 (bne_iff_ne.2 he)]
    have : ¬ (t0.getD i 0 :: t0.drop (i + 1) = t1.getD i 0 :: t1.drop (i + 1)) := fun e => he (List.cons.inj e).1
    rw [decide_eq_false this]
  ·rw [Y00 (by simpa using h)]
   have e : i = t0.length := by omega
   rw [X0f (by omega), X0f (by omega)]
   simp
theorem f_same (t0 t1 : List Int) (hb : t0.length < 900000) : Y3r t0 t1 = some (decide (t0 = t1)) := by
 unfold Y3r
 by_cases hl : t0.length = t1.length
 ·rw [Y00 (by simp [hl])]
  have := same_loop t0 t1 hl (by omega) 1000000 0 (by omega) (by omega)
  simpa using this
 ·rw [Y03 (by simp; omega)]
  have : ¬ t0 = t1 := fun e => hl (by rw [e])
  simp [this]
def dg (d : Nat) : Int := Yi.getD d 0
def wr (n : Nat) : List Int := 60 :: (decs 5 n).map fun x => dg (x - 48).toNat
theorem decs_in : ∀ (k n : Nat) (x : Int), x ∈ decs k n → 48 ≤ x ∧ x ≤ 57
 | 0, n, x, h => by simp [decs] at h
 | k + 1, n, x, h => by
  rw [decs] at h
  split at h
  ·simp at h; omega
  ·rcases X0p.1 h with h | h
   ·exact decs_in k _ x h
   ·simp at h; omega
theorem decs_len : ∀ (k n : Nat), (decs k n).length ≤ k
 | 0, n => by simp [decs]
 | k + 1, n => by
  rw [decs]
  split
  ·simp
  ·have := decs_len k (n / 10); simp; omega
theorem bytes_strOf (l : List Int) (h : ∀ x ∈ l, 0 ≤ x ∧ x ≤ 255) : Y2a (strOf l) = l := by
 unfold Y2a
 rw [strOf_data, List.map_map]
 conv => rhs; rw [← List.map_id l]
 refine X1g fun x hx => ?_
 have := h x hx
 simp only [Function.comp, id]
 rw [UInt8.toNat_ofNat']
 omega
theorem take_stepI (l : List Int) (i : Nat) (h : i < l.length) : l.take (i + 1) = l.take i ++ [l.getD i 0] := by
 rw [List.take_add_one, X4 h, Xc, X4 h]
 rfl
theorem getD_mem (l : List Int) (i : Nat) (h : i < l.length) : l.getD i 0 ∈ l := by
 rw [Xc, X4 h]
 exact List.getElem_mem h
theorem write_loop (b : ByteArray) (l : List Int) (hb : Y2a b = l) (h : ∀ x ∈ l, 48 ≤ x ∧ x ≤ 57) (hl : l.length ≤ 5) : ∀ (n i : Nat), l.length < n + i → i ≤ l.length →
  iter (fun loop (s : (List Int) × Int) => Y2t b loop s.1 s.2) n (60 :: (l.take i).map (fun x => dg (x - 48).toNat), (i : Int)) = some (60 :: l.map (fun x => dg (x - 48).toNat), 0)
 | 0, i, h1, h2 => by omega
 | n + 1, i, h1, h2 => by
  rw [Y0r, Y2t, hb]
  dsimp only
  by_cases hi : i < l.length
  ·have ih := write_loop b l hb h hl n (i + 1) (by omega) (by omega)
   have hm := h _ (getD_mem l i hi)
   rw [take_stepI l i hi, X0w, List.map_singleton] at ih
   rw [Y03 (by simpa using hi), Yw (by omega), X5]
   generalize l.getD i 0 = x at hm ih ⊢
   rw [wrap_u8 (by omega), Yw (by omega), Y4s (by simp; omega), Yx (by omega), show (i : Int) + 1 = ((i + 1 : Nat) : Int) from by omega]
   exact ih
  ·rw [Y00 (by simpa using hi), Xx (by omega)]
theorem f_write (n : Nat) (hn : n ≤ 99999) : Y14 n = some (wr n, 0) := by
 unfold Y14
 rw [Y00 (b := cond _ _ _) (by simp; omega)]
 have h1 : Y4u n = some (strOf (decs 5 n)) := by
  unfold Y4u
  rw [Yw (by omega), X5]
 rw [Yv h1]
 exact write_loop _ (decs 5 n) (bytes_strOf _ fun x hx => by have := decs_in 5 n x hx; omega) (fun x hx => decs_in 5 n x hx) (decs_len 5 n) 1000000 0 (by have := decs_len 5 n; omega) (by omega)
theorem f_write_bad (n : Int) (hn : n < 0 ∨ 99999 < n) : Y14 n = some ([], 190) := by
 unfold Y14
 rw [Y03 (b := cond _ _ _) (by rcases hn with h | h <;> simp [h])]
theorem all_of {n : Nat} {p : Nat → Bool} (h : (List.range n).all p = true) (k : Nat) (hk : k < n) : p k = true := X7.1 h k (Xe.2 hk)
theorem decs_val : ∀ (k n : Nat), n < 10 ^ k → 0 < k → (decs k n).foldl (fun a x => 10 * a + (x - 48)) 0 = (n : Int)
 | 0, n, h, h0 => by omega
 | k + 1, n, h, _ => by
  rw [decs]
  by_cases hn : n < 10
  ·rw [if_pos hn]; simp; omega
  ·rw [if_neg hn]
   have hk : 0 < k := by
    rcases Nat.eq_zero_or_pos k with e | e
    ·subst e; simp at h; omega
    ·exact e
   have h1 : n / 10 < 10 ^ k := by rw [Nat.div_lt_iff_lt_mul (by omega)]; rw [Nat.pow_succ] at h; exact h
   rw [List.foldl_append, decs_val k (n / 10) h1 hk]
   simp only [List.foldl_cons, List.foldl_nil]
   omega
def inv (c : Int) : Int := 48 + ((Yi.idxOf c : Nat) : Int)
theorem inv_dg (d : Nat) (h : d < 10) : inv (dg d) = 48 + (d : Int) ∧ dg d ≠ 48 ∧ dg d ≠ 0 ∧ dg d ≠ 60 ∧ 0 ≤ dg d ∧ dg d < 64 := by
 have := all_of (n := 10) (p := fun d => decide (inv (dg d) = 48 + (d : Int) ∧ dg d ≠ 48 ∧ dg d ≠ 0 ∧ dg d ≠ 60 ∧ 0 ≤ dg d ∧ dg d < 64)) (by kernel_rfl) d h
 simpa using this
theorem wr_inv (n : Nat) : (wr n).tail.map inv = decs 5 n := by
 unfold wr
 rw [List.tail_cons, List.map_map]
 conv => rhs; rw [← List.map_id (decs 5 n)]
 refine X1g fun x hx => ?_
 have h := decs_in 5 n x hx
 simp only [Function.comp, id]
 rw [(inv_dg (x - 48).toNat (by omega)).1]
 omega
theorem wr_inj (a b : Nat) (ha : a ≤ 99999) (hb : b ≤ 99999) (h : wr a = wr b) : a = b := by
 have h1 : decs 5 a = decs 5 b := by rw [← wr_inv, ← wr_inv, h]
 have h2 := decs_val 5 a (by omega) (by omega)
 rw [h1, decs_val 5 b (by omega) (by omega)] at h2
 omega
theorem wr_cells (n : Nat) (c : Int) (h : c ∈ wr n) : c ≠ 48 ∧ c ≠ 0 ∧ 0 ≤ c ∧ c < 64 := by
 unfold wr at h
 rcases X0n.1 h with rfl | h
 ·decide
 ·obtain ⟨x, hx, rfl⟩ := X06.1 h
  have := decs_in 5 n x hx
  have := inv_dg (x - 48).toNat (by omega)
  exact ⟨this.2.1, this.2.2.1, this.2.2.2.2.1, this.2.2.2.2.2⟩
theorem wr_len (n : Nat) : 2 ≤ (wr n).length ∧ (wr n).length ≤ 6 := by
 unfold wr
 have := decs_len 5 n
 have h1 : 1 ≤ (decs 5 n).length := by
  rw [decs]; split <;> simp
 simp
 omega
def mk (k : Nat) : List Int := if k = 0 then [] else [48, Y7.getD (k - 1) 0]
def pg (n k : Nat) (back : Bool) : List Int := wr (if back then 2 * n else 2 * n - 1) ++ mk k
theorem f_page (n k : Nat) (back : Bool) (h1 : 1 ≤ n) (h2 : n ≤ 9999) (h3 : k ≤ 2) : Y38 ⟨n, k⟩ back = some (pg n k back, 0) := by
 unfold Y38
 rw [Y00 (b := cond _ _ _) (by simp; omega), Yx (by show _ ∧ _; simp; omega)]
 have key : ∀ m : Nat, m ≤ 99999 → Y2e ⟨n, k⟩ (m : Int) = some (wr m ++ mk k, 0) := by
  intro m hm
  have hlen := wr_len m
  unfold Y2e
  rw [Yv (f_write m hm)]
  dsimp only
  by_cases hk : k = 0
  ·subst hk
   rw [Y00 (b := cond _ _ _) (by simp)]
   unfold Y2f mk
   simp
  ·rw [Y03 (b := cond _ _ _) (by simp; omega), Yx (by omega), Yw (by omega), Y4s (by omega)]
   unfold Y2f mk
   rw [if_neg hk, show ((k : Int) - 1).toNat = k - 1 from by omega]
 cases back
 ·rw [Y03 (b := !false) rfl, Yx (by show _ ∧ _; simp; omega)]
  have := key (2 * n - 1) (by omega)
  rw [show ((2 * n - 1 : Nat) : Int) = 2 * (n : Int) - 1 from by omega] at this
  exact this
 ·rw [Y00 (b := !true) rfl]
  have := key (2 * n) (by omega)
  rw [show ((2 * n : Nat) : Int) = 2 * (n : Int) from by omega] at this
  exact this
theorem tmodM {x : Int} {m : Nat} (h : 0 ≤ x) (hm : 0 < m) : ∃ c : Nat, c < m ∧ Int.tmod x m = (c : Int) := by
 rw [Xr h]
 have a1 := Int.emod_nonneg x (b := (m : Int)) (by omega)
 have a2 := Int.emod_lt_of_pos x (b := (m : Int)) (by omega)
 exact ⟨(x % (m : Int)).toNat, by omega, by omega⟩
theorem f_made (t0 : S_Raw') (h : okS_Raw' t0) : ∃ W n k ink part : Nat, 24 ≤ W ∧ W ≤ 60 ∧ 1 ≤ n ∧ n ≤ 9999 ∧ k ≤ 2 ∧ ink ≤ 9999 ∧ part ≤ 26 ∧ (ink = 0 → part = 0) ∧ f_R19_Made t0 = some ⟨W, ⟨n, k⟩, t0.Back, ink, part⟩ := by
 obtain ⟨⟨w1, w2⟩, ⟨n1, n2⟩, ⟨k1, k2⟩, _, ⟨i1, i2⟩, ⟨p1, p2⟩⟩ := h
 obtain ⟨w, hw, ew⟩ := tmodM (m := 37) w1 (by omega)
 obtain ⟨n, hn, en⟩ := tmodM (m := 9999) n1 (by omega)
 obtain ⟨k, hk, ek⟩ := tmodM (m := 3) k1 (by omega)
 obtain ⟨i, hi, ei⟩ := tmodM (m := 10000) i1 (by omega)
 obtain ⟨p, hp, ep⟩ := tmodM (m := 27) p1 (by omega)
 have ew' : Int.tmod t0.Width 37 = (w : Int) := ew
 have en' : Int.tmod t0.N 9999 = (n : Int) := en
 have ek' : Int.tmod t0.K 3 = (k : Int) := ek
 have ei' : Int.tmod t0.Ink 10000 = (i : Int) := ei
 have ep' : Int.tmod t0.Part 27 = (p : Int) := ep
 refine ⟨24 + w, 1 + n, k, i, if i = 0 then 0 else p, by omega, by omega, by omega, by omega, by omega, by omega, by split <;> omega, fun h => if_pos h, ?_⟩
 unfold f_R19_Made
 rw [Y2g (n := t0.N) (by omega), ew', en', ek', ei', ep', Y2g (n := (w : Int)) (by omega), Y2g (n := (k : Int)) (by omega), Y2g (n := (i : Int)) (by omega), Y2g (n := (p : Int)) (by omega), Yx (by omega), Yx (by omega)]
 by_cases h0 : i = 0
 ·rw [Y00 (by simp; omega), if_pos h0, h0]
  unfold Y3a
  simp
 ·rw [Y03 (by simp; omega), if_neg h0]
  unfold Y3a
  simp
theorem mk_form (k : Nat) : mk k = [] ∨ ∃ r, mk k = 48 :: r := by
 unfold mk; split
 ·exact .inl rfl
 ·exact .inr ⟨_, rfl⟩
theorem pg_len (n k : Nat) (b : Bool) : (pg n k b).length ≤ 8 := by
 unfold pg
 have h1 := wr_len (if b then 2 * n else 2 * n - 1)
 have h2 : (mk k).length ≤ 2 := by unfold mk; split <;> simp
 rw [Xu]
 omega
theorem decs_fuel : ∀ (k n : Nat), n < 10 ^ k → 0 < k → decs (k + 1) n = decs k n
 | 0, n, h, h0 => by omega
 | k + 1, n, h, _ => by
  have e1 : ∀ k, decs (k + 1) n = if n < 10 then [48 + (n : Int)] else decs k (n / 10) ++ [48 + ((n % 10 : Nat) : Int)] := fun k => by rw [decs]
  rw [e1, e1]
  by_cases hn : n < 10
  ·rw [if_pos hn, if_pos hn]
  ·have hk : 0 < k := by
    rcases Nat.eq_zero_or_pos k with e | e
    ·subst e; simp at h; omega
    ·exact e
   have h1 : n / 10 < 10 ^ k := by rw [Nat.div_lt_iff_lt_mul (by omega)]; rw [Nat.pow_succ] at h; exact h
   rw [if_neg hn, if_neg hn, decs_fuel k (n / 10) h1 hk]
theorem decs_ten (n : Nat) (h : 10 ≤ n) (h1 : n < 100000) : decs 5 n = decs 5 (n / 10) ++ [48 + ((n % 10 : Nat) : Int)] := by
 rw [decs, if_neg (by omega), decs_fuel 4 (n / 10) (by omega) (by omega)]
theorem decs_one (n : Nat) (h : n < 10) : decs 5 n = [48 + (n : Int)] := by rw [decs, if_pos h]
theorem f_digit (d : Nat) (h : d < 10) : Y5j d = some (dg d) := by
 have := all_of (n := 10) (p := fun d => decide (Y5j d = some (dg d))) (by kernel_rfl) d h
 simpa using this
theorem refWrite_step (n p : Nat) (v : List Int) (loop : (List Int) × Int → Option ((List Int) × Int)) (hp : 0 < p) (hp2 : p ≤ 10000) (hn : n ≤ 99999) (hv : v.length ≤ 10) :
  Y22 n loop v (p : Int) = if 1 ≤ n / p ∨ p = 1 then loop (v ++ [dg (n / p % 10)], ((p / 10 : Nat) : Int)) else loop (v, ((p / 10 : Nat) : Int)) := by
 unfold Y22
 have e1 : Int.tdiv (p : Int) 10 = ((p / 10 : Nat) : Int) := by rw [Xp (by omega)]; rfl
 have e2 : Int.tdiv (n : Int) (p : Int) = ((n / p : Nat) : Int) := by rw [Xp (by omega)]; rfl
 have hq0 : (0 : Int) ≤ ((n / p : Nat) : Int) := Int.natCast_nonneg _
 have e3 : Int.tmod ((n / p : Nat) : Int) 10 = ((n / p % 10 : Nat) : Int) := by rw [Xr hq0]; rfl
 have hle : n / p ≤ n := Nat.div_le_self n p
 have hiff : 1 ≤ n / p ↔ p ≤ n := by rw [Nat.le_div_iff_mul_le hp]; omega
 have hk : ∀ x, Y3q loop (p : Int) x = loop (x, ((p / 10 : Nat) : Int)) := fun x => by
  unfold Y3q
  rw [e1, Yx (by omega)]
 rw [Y03 (by simp; omega), hk, e2, e3]
 by_cases h : 1 ≤ n / p ∨ p = 1
 ·rw [if_pos h, Y03 (b := cond _ _ _) (by rw [hiff] at h; rcases h with h | h <;> simp [h]), Yw (by omega), Yx (by generalize n / p = q at hle hq0 ⊢; omega), Yv (f_digit _ (by omega)), Y4s (by omega), hk]
 ·rw [if_neg h, Y00 (b := cond _ _ _) (by rw [hiff] at h; simp; omega)]
def wz (m : Nat) : List Int := if m = 0 then [] else (decs 5 m).map fun x => dg (x - 48).toNat
theorem wz_step (m : Nat) (h : 1 ≤ m) (h1 : m < 100000) : wz (m / 10) ++ [dg (m % 10)] = wz m := by
 unfold wz
 rw [if_neg (show ¬ m = 0 by omega)]
 by_cases hm : m < 10
 ·rw [if_pos (by omega), decs_one m hm]
  simp
  rw [show ((48 : Int) + (m : Int) - 48).toNat = m from by omega, Nat.mod_eq_of_lt hm]
 ·rw [if_neg (by omega), decs_ten m (by omega) h1, X0w]
  simp only [X00, X0q]
  rw [show ((48 : Int) + ((m % 10 : Nat) : Int) - 48).toNat = m % 10 from by omega]
theorem f_refWrite (n : Nat) (hn : n ≤ 99999) : Y1v n = some (wr n, 0) := by
 have step : ∀ (f p : Nat), 0 < p → p ≤ 10000 → ∀ q, q = p / 10 → (p = 1 ∨ n / p / 10 = n / (p * 10)) →
   (p ≠ 1 → iter (fun loop (s : (List Int) × Int) => Y22 n loop s.1 s.2) (f + 1) (60 :: wz (n / (p * 10)), (p : Int)) = iter (fun loop (s : (List Int) × Int) => Y22 n loop s.1 s.2) f (60 :: wz (n / p), (q : Int))) := by
  intro f p hp hp2 q hq hdd hne
  rw [Y0r]
  dsimp only
  have hle : n / p ≤ n := Nat.div_le_self n p
  have hlen : (wz (n / (p * 10))).length ≤ 5 := by
   unfold wz; split
   ·simp
   ·have := decs_len 5 (n / (p * 10)); simpa using this
  rw [refWrite_step n p _ _ hp hp2 hn (by simp; omega), hq]
  have hd : n / (p * 10) = n / p / 10 := (Nat.div_div_eq_div_mul n p 10).symm
  by_cases h : 1 ≤ n / p
  ·rw [if_pos (.inl h), hd, X0a, wz_step (n / p) h (by omega)]
  ·have hz : n / p = 0 := by generalize n / p = q at h; omega
   rw [if_neg (fun x => x.elim h hne), hd, hz]
 unfold Y1v
 rw [Y00 (b := cond _ _ _) (by simp; omega)]
 have h0 : wz (n / (10000 * 10)) = [] := by rw [show n / (10000 * 10) = 0 from by omega]; rfl
 have s1 := step 999999 10000 (by omega) (by omega) 1000 rfl (.inr (by omega)) (by omega)
 have s2 := step 999998 1000 (by omega) (by omega) 100 rfl (.inr (by omega)) (by omega)
 have s3 := step 999997 100 (by omega) (by omega) 10 rfl (.inr (by omega)) (by omega)
 have s4 := step 999996 10 (by omega) (by omega) 1 rfl (.inr (by omega)) (by omega)
 rw [h0] at s1
 rw [show (1000 : Nat) * 10 = 10000 from rfl] at s2
 rw [show (100 : Nat) * 10 = 1000 from rfl] at s3
 rw [show (10 : Nat) * 10 = 100 from rfl] at s4
 refine s1.trans (s2.trans (s3.trans (s4.trans ?_)))
 rw [Y0r]
 dsimp only
 have hlen : (wz (n / 10)).length ≤ 5 := by
  unfold wz; split
  ·simp
  ·have := decs_len 5 (n / 10); simpa using this
 rw [refWrite_step n 1 _ _ (by omega) (by omega) hn (by simp; omega), if_pos (.inr rfl), Nat.div_one, Y0r, Y22]
 dsimp only
 rw [Y00 (by rfl)]
 congr 2
 unfold wr
 rw [X0a]
 congr 1
 by_cases h : 1 ≤ n
 ·rw [wz_step n h (by omega)]
  unfold wz
  rw [if_neg (by omega)]
 ·rw [show n = 0 from by omega]; kernel_rfl
theorem f_refWrite_bad (n : Int) (hn : n < 0 ∨ 99999 < n) : Y1v n = some ([], 190) := by
 unfold Y1v
 rw [Y03 (b := cond _ _ _) (by rcases hn with h | h <;> simp [h])]
def dv (c : Int) : Nat := Yi.idxOf c
theorem dv_le (c : Int) : dv c ≤ 10 := by
 have h : dv c ≤ Yi.length := List.idxOf_le_length
 exact h
theorem dg_dv (c : Int) (h : dv c < 10) : dg (dv c) = c := by
 have h' : Yi.idxOf c < Yi.length := h
 have e : Yi[Yi.idxOf c] = c := List.getElem_idxOf h'
 unfold dg dv
 rw [Xc, X4 h', e]
 rfl
theorem dv_dg (d : Nat) (h : d < 10) : dv (dg d) = d := by
 have := (inv_dg d h).1
 unfold inv at this
 unfold dv
 omega
theorem dg_eq {c : Int} {j : Nat} (hj : j < 10) : dg j = c ↔ dv c = j := by
 constructor
 ·intro h; rw [← h, dv_dg j hj]
 ·intro h; rw [← h, dg_dv c (by omega)]
theorem read_inner (t0 : List Int) (c : Int) (k : Nat) (hk : k < t0.length) (hc : t0.getD k 0 = c) (v : Nat) (hv : v < 1000000000) (hk2 : k < 1000000000) (loop9 : Int × Int → Option (Int × Int × Int)) : ∀ n j : Nat, 10 < n + j → j ≤ dv c →
  iter (fun loop (s : Int × Int × Int) => Y3g t0 loop9 loop s.1 s.2.1 s.2.2) n ((v : Int), (k : Int), (j : Int)) = if dv c < 10 then (if 5 < k then some (0, 0, 190) else loop9 (((10 * v + dv c : Nat) : Int), ((k + 1 : Nat) : Int))) else Y0t t0 v k
 | 0, j, h1, h2 => by have := dv_le c; omega
 | n + 1, j, h1, h2 => by
  rw [Y0r, Y3g]
  dsimp only
  have hle := dv_le c
  by_cases hj : j < 10
  ·have ih := read_inner t0 c k hk hc v hv hk2 loop9 n (j + 1) (by omega)
   rw [Y09 (by omega), Yw (by omega), Yw (by rfl), Yw (by omega), X5, X5, hc]
   by_cases he : dv c = j
   ·have e1 : Yi.getD j 0 = c := (dg_eq hj).2 he
    rw [Y03 (by rw [e1]; exact beq_self_eq_true c), if_pos (by omega)]
    by_cases h5 : 5 < k
    ·rw [Y03 (by simp; omega), if_pos h5]
    ·rw [Y00 (by simp; omega), if_neg h5, Yx (by omega), Yx (by omega), Yx (by omega)]
     congr 2
     omega
   ·have e1 : ¬ Yi.getD j 0 = c := fun h => he ((dg_eq hj).1 h)
    rw [Y00 (beq_eq_false_iff_ne.2 e1), Yx (by omega)]
    exact ih (by omega)
  ·rw [Y0b (by omega), if_neg (by omega)]
def dgs (l : List Int) : List Int := l.takeWhile fun c => decide (dv c < 10)
def vl (v : Nat) (l : List Int) : Nat := l.foldl (fun a c => 10 * a + dv c) v
theorem vl_le : ∀ (l : List Int) (v : Nat), (∀ c ∈ l, dv c < 10) → vl v l < (v + 1) * 10 ^ l.length
 | [], v, h => by simp [vl]
 | c :: l, v, h => by
  have h1 := h c (X17 ..)
  have := vl_le l (10 * v + dv c) fun d hd => h d (X1d _ hd)
  have e : vl v (c :: l) = vl (10 * v + dv c) l := rfl
  rw [e, Xw, Nat.pow_succ]
  refine X0r this ?_
  rw [← Nat.mul_assoc, Nat.mul_right_comm]
  exact X0t _ (by omega)
def rerr : Int × Int × Int := (0, 0, 190)
theorem read_outer (t0 : List Int) : ∀ (n k v : Nat), t0.length < n + k → 1 ≤ k → k ≤ t0.length → k ≤ 6 → v < 10 ^ (k - 1) →
  iter (fun loop (s : Int × Int) => Y2d t0 loop s.1 s.2) n ((v : Int), (k : Int)) = if 6 < k + (dgs (t0.drop k)).length then some rerr else Y0t t0 ((vl v (dgs (t0.drop k)) : Nat) : Int) ((k + (dgs (t0.drop k)).length : Nat) : Int)
 | 0, k, v, h1, h2, h3, h4, h5 => by omega
 | n + 1, k, v, h1, h2, h3, h4, h5 => by
  rw [Y0r, Y2d]
  dsimp only
  have hv : v < 1000000000 := by
   have : 10 ^ (k - 1) ≤ 10 ^ 6 := Nat.pow_le_pow_right (by omega) (by omega)
   omega
  by_cases hk : k < t0.length
  ·have ed : t0.drop k = t0.getD k 0 :: t0.drop (k + 1) := getD_drop t0 k 0 hk
   rw [Y03 (by simpa using hk)]
   have hin := read_inner t0 (t0.getD k 0) k hk rfl v hv (by omega) (fun s => iter (fun loop (s : Int × Int) => Y2d t0 loop s.1 s.2) n s) 1000000 0 (by omega) (by omega)
   refine Eq.trans hin ?_
   generalize hc : t0.getD k 0 = c at ed
   by_cases hd : dv c < 10
   ·have ed2 : dgs (t0.drop k) = c :: dgs (t0.drop (k + 1)) := by
     rw [ed]; unfold dgs
     rw [X1b (by simpa using hd)]
    rw [if_pos hd, ed2]
    by_cases h6 : 5 < k
    ·rw [if_pos h6, if_pos (by rw [Xw]; omega)]; rfl
    ·have ih := read_outer t0 n (k + 1) (10 * v + dv c) (by omega) (by omega) (by omega) (by omega) (by
      have e : 10 ^ (k + 1 - 1) = 10 ^ (k - 1) * 10 := by rw [← Nat.pow_succ]; congr 1; omega
      rw [e]; omega)
     rw [if_neg h6]
     refine Eq.trans ih ?_
     have el : k + 1 + (dgs (t0.drop (k + 1))).length = k + (c :: dgs (t0.drop (k + 1))).length := by rw [Xw]; omega
     rw [el]
     rfl
   ·have ed2 : dgs (t0.drop k) = [] := by
     rw [ed]; unfold dgs
     rw [X1c (by simpa using hd)]
    rw [if_neg hd, ed2, if_neg (by simp; omega)]
    rfl
  ·have ed2 : dgs (t0.drop k) = [] := by
    rw [X0f (by omega)]; rfl
   rw [Y00 (by simpa using hk), ed2, if_neg (by simp; omega)]
   rfl
def nd (l : List Int) : Prop := ∀ c r, l = c :: r → ¬ dv c < 10
def Dec (l : List Int) (n : Nat) (r : List Int) : Prop := l = wr n ++ r ∧ n ≤ 99999 ∧ nd r
theorem wr_digits (n : Nat) (c : Int) (h : c ∈ (wr n).tail) : dv c < 10 := by
 unfold wr at h
 rw [List.tail_cons] at h
 obtain ⟨x, hx, rfl⟩ := X06.1 h
 have := decs_in 5 n x hx
 rw [dv_dg _ (by omega)]
 omega
theorem takeWhile_app {α : Type} (p : α → Bool) (a b : List α) (ha : ∀ x ∈ a, p x = true) (hb : ∀ c r, b = c :: r → p c = false) : (a ++ b).takeWhile p = a := by
 rw [List.takeWhile_append_of_pos ha]
 match b, hb with
 | [], _ => simp
 | c :: r, hb => rw [X1c (by rw [hb c r rfl]; simp)]; simp
theorem wr_cons (n : Nat) : wr n = 60 :: (wr n).tail := by unfold wr; rfl
theorem Dec.dgs {l : List Int} {n : Nat} {r : List Int} (h : Dec l n r) : l = 60 :: ((wr n).tail ++ r) ∧ dgs (l.drop 1) = (wr n).tail := by
 obtain ⟨h1, h2, h3⟩ := h
 have e : l = 60 :: ((wr n).tail ++ r) := by
  rw [h1]; conv => lhs; rw [wr_cons]
  rfl
 refine ⟨e, ?_⟩
 rw [e]
 exact takeWhile_app _ _ _ (fun c hc => decide_eq_true (wr_digits n c hc)) (fun c r' hr => decide_eq_false (h3 c r' hr))
theorem Dec.unique {l : List Int} {n m : Nat} {r s : List Int} (h : Dec l n r) (h' : Dec l m s) : n = m ∧ r = s := by
 have e1 := h.dgs.2
 rw [h'.dgs.2] at e1
 have e2 : wr n = wr m := by rw [wr_cons n, wr_cons m, e1]
 have e3 := wr_inj n m h.2.1 h'.2.1 e2
 subst e3
 exact ⟨rfl, List.append_cancel_left (h.1.symm.trans h'.1)⟩
theorem vl_append (v : Nat) (a : List Int) (c : Int) : vl v (a ++ [c]) = 10 * vl v a + dv c := by
 unfold vl; rw [List.foldl_append]; rfl
theorem vl_pos : ∀ (l : List Int) (v : Nat), 0 < v → 0 < vl v l
 | [], v, h => h
 | c :: l, v, h => vl_pos l (10 * v + dv c) (by omega)
theorem decs_of_digits : ∀ (m : Nat) (l : List Int), l.length = m + 1 → (∀ c ∈ l, dv c < 10) → (m = 0 ∨ ∃ c r, l = c :: r ∧ 0 < dv c) → ∀ k, m + 1 ≤ k → decs k (vl 0 l) = l.map fun c => 48 + (dv c : Int)
 | 0, l, hl, hd, h0, k, hk => by
  match l, hl with
  | [c], _ =>
   have := hd c (X17 ..)
   obtain ⟨k, rfl⟩ : ∃ j, k = j + 1 := ⟨k - 1, by omega⟩
   have e : vl 0 [c] = dv c := by simp [vl]
   rw [e, decs, if_pos this]
   rfl
 | m + 1, l, hl, hd, h0, k, hk => by
  obtain ⟨a, c, rfl⟩ : ∃ a c, l = a ++ [c] := ⟨l.dropLast, l.getLast (by intro e; rw [e] at hl; simp at hl), (List.dropLast_concat_getLast _).symm⟩
  have hla : a.length = m + 1 := by simp at hl; omega
  have hc := hd c (by simp)
  obtain ⟨k, rfl⟩ : ∃ j, k = j + 1 := ⟨k - 1, by omega⟩
  have h0' : ∃ c' r, a = c' :: r ∧ 0 < dv c' := by
   rcases h0 with h0 | ⟨x, r, e, hx⟩
   ·omega
   ·match a, hla with
    | y :: a', _ => 
     rw [X0a] at e
     obtain ⟨e1, e2⟩ := List.cons.inj e
     exact ⟨y, a', rfl, by rw [e1]; exact hx⟩
  have hp : 0 < vl 0 a := by
   obtain ⟨c', r, e, hx⟩ := h0'
   rw [e]
   exact vl_pos r (10 * 0 + dv c') (by omega)
  have ih := decs_of_digits m a hla (fun x hx => hd x (by simp [hx])) (.inr h0') k (by omega)
  rw [vl_append, decs, if_neg (by omega), show (10 * vl 0 a + dv c) / 10 = vl 0 a from by omega, show (10 * vl 0 a + dv c) % 10 = dv c from by omega, ih, X0w]
  rfl
theorem wr_of_digits (l : List Int) (h1 : 1 ≤ l.length) (h2 : l.length ≤ 5) (hd : ∀ c ∈ l, dv c < 10) (h0 : l.length = 1 ∨ ∃ c r, l = c :: r ∧ 0 < dv c) : wr (vl 0 l) = 60 :: l := by
 have := decs_of_digits (l.length - 1) l (by omega) hd (by rcases h0 with h | h; exact .inl (by omega); exact .inr h) 5 (by omega)
 unfold wr
 rw [this, List.map_map]
 congr 1
 conv => rhs; rw [← List.map_id l]
 refine X1g fun c hc => ?_
 simp only [Function.comp, id]
 rw [show ((48 : Int) + (dv c : Int) - 48).toNat = dv c from by omega, dg_dv c (hd c hc)]
theorem wr_lead (n : Nat) (hn : n ≤ 99999) : (wr n).tail.length = 1 ∨ ∃ c r, (wr n).tail = c :: r ∧ 0 < dv c := by
 have key : ∀ (k m : Nat), m < 10 ^ k → 0 < k → (decs k m).length = 1 ∨ ∃ c r, decs k m = c :: r ∧ 48 < c := by
  intro k
  induction k with
  | zero => intro m _ h; omega
  | succ k ih =>
   intro m hm _
   rw [decs]
   by_cases h : m < 10
   ·rw [if_pos h]; exact .inl rfl
   ·rw [if_neg h]
    have hk : 0 < k := by
     rcases Nat.eq_zero_or_pos k with e | e
     ·subst e; simp at hm; omega
     ·exact e
    have h1 : m / 10 < 10 ^ k := by rw [Nat.div_lt_iff_lt_mul (by omega)]; rw [Nat.pow_succ] at hm; exact hm
    right
    rcases ih (m / 10) h1 hk with e | ⟨c, r, e, hc⟩
    ·obtain ⟨k, rfl⟩ : ∃ j, k = j + 1 := ⟨k - 1, by omega⟩
     rw [decs] at e ⊢
     by_cases h10 : m / 10 < 10
     ·rw [if_pos h10]; exact ⟨_, _, rfl, by omega⟩
     ·rw [if_neg h10] at e
      have : 1 ≤ (decs k (m / 10 / 10)).length := by
       match k, h1, h10 with
       | 0, h1, h10 => simp at h1; omega
       | k + 1, _, _ => rw [decs]; split <;> simp
      simp at e
      rw [e] at this
      simp at this
    ·rw [e]; exact ⟨c, _, rfl, hc⟩
 have e : (wr n).tail = (decs 5 n).map fun x => dg (x - 48).toNat := by unfold wr; rfl
 rw [e]
 rcases key 5 n (by omega) (by omega) with h | ⟨c, r, h, hc⟩
 ·left; simpa using h
 ·right
  rw [h]
  have := decs_in 5 n c (by rw [h]; simp)
  refine ⟨_, _, rfl, ?_⟩
  rw [dv_dg _ (by omega)]
  omega
def goodD (ds : List Int) : Prop := 1 ≤ ds.length ∧ ds.length ≤ 5 ∧ (ds.length = 1 ∨ ∃ c r, ds = c :: r ∧ 0 < dv c)
theorem dgs_digits (l : List Int) : ∀ c ∈ dgs l, dv c < 10 := fun c hc => by
 have h : (dgs l).all (fun c => decide (dv c < 10)) = true := List.all_takeWhile
 have := X7.1 h c hc
 simpa using this
theorem vl_bound (ds : List Int) (hd : ∀ c ∈ ds, dv c < 10) (h : ds.length ≤ 5) : vl 0 ds ≤ 99999 := by
 have := vl_le ds 0 hd
 have h2 : 10 ^ ds.length ≤ 10 ^ 5 := Nat.pow_le_pow_right (by omega) h
 omega
theorem dec_of (cs : List Int) (h : goodD (dgs cs)) : Dec (60 :: cs) (vl 0 (dgs cs)) (cs.dropWhile fun c => decide (dv c < 10)) ∧ (wr (vl 0 (dgs cs))).length = 1 + (dgs cs).length := by
 have hw := wr_of_digits (dgs cs) h.1 h.2.1 (dgs_digits cs) h.2.2
 refine ⟨⟨?_, vl_bound _ (dgs_digits cs) h.2.1, ?_⟩, ?_⟩
 ·rw [hw, X0a]
  congr 1
  exact (X07).symm
 ·intro c r e hlt
  have h1 := List.head?_dropWhile_not (p := fun c => decide (dv c < 10)) (l := cs)
  rw [e] at h1
  simp at h1
  omega
 ·rw [hw, Xw]; omega
theorem dec_good {cs : List Int} {n : Nat} {r : List Int} (h : Dec (60 :: cs) n r) : goodD (dgs cs) := by
 have e := h.dgs.2
 rw [X0x, X15] at e
 rw [e]
 have h1 := wr_len n
 have h2 := wr_lead n h.2.1
 rw [wr_cons n, Xw] at h1
 exact ⟨by omega, by omega, h2⟩
def RS (f : List Int → Option (Int × Int × Int)) : Prop := ∀ l, l.length < 900000 →
 (f l = some (0, 0, 190) ∧ ∀ n r, ¬ Dec l n r) ∨ ∃ n r, Dec l n r ∧ f l = some ((n : Int), ((wr n).length : Int), 0)
theorem rs_of (f : List Int → Option (Int × Int × Int)) (h0 : f [] = some (0, 0, 190)) (h1 : ∀ c cs, c ≠ 60 → f (c :: cs) = some (0, 0, 190))
  (h2 : ∀ cs, cs.length < 900000 → goodD (dgs cs) → f (60 :: cs) = some ((vl 0 (dgs cs) : Int), ((1 + (dgs cs).length : Nat) : Int), 0))
  (h3 : ∀ cs, cs.length < 900000 → ¬ goodD (dgs cs) → f (60 :: cs) = some (0, 0, 190)) : RS f := by
 intro l hl
 match l with
 | [] => exact .inl ⟨h0, fun n r h => by have := h.dgs.1; simp at this⟩
 | c :: cs =>
  by_cases hc : c = 60
  ·subst hc
   by_cases hg : goodD (dgs cs)
   ·obtain ⟨a, b⟩ := dec_of cs hg
    exact .inr ⟨_, _, a, by rw [b]; exact h2 cs (by simp at hl; omega) hg⟩
   ·exact .inl ⟨h3 cs (by simp at hl; omega) hg, fun n r h => hg (dec_good h)⟩
  ·exact .inl ⟨h1 c cs hc, fun n r h => by have := h.dgs.1; simp at this; exact hc this.1⟩
theorem rs_eq {f g : List Int → Option (Int × Int × Int)} (hf : RS f) (hg : RS g) (l : List Int) (hl : l.length < 900000) : ∃ x, f l = some x ∧ g l = some x := by
 rcases hf l hl with ⟨a, b⟩ | ⟨n, r, a, b⟩
 ·rcases hg l hl with ⟨c, d⟩ | ⟨m, s, c, d⟩
  ·exact ⟨_, a, c⟩
  ·exact absurd c (b m s)
 ·rcases hg l hl with ⟨c, d⟩ | ⟨m, s, c, d⟩
  ·exact absurd a (d n r)
  ·obtain ⟨rfl, rfl⟩ := a.unique c
   exact ⟨_, b, d⟩
theorem goodD_lead {ds : List Int} (h1 : 1 ≤ ds.length) (h5 : ds.length ≤ 5) : goodD ds ↔ (ds.length = 1 ∨ dv (ds.getD 0 0) ≠ 0) := by
 match ds, h1 with
 | c :: r, _ =>
  constructor
  ·rintro ⟨_, _, h | ⟨c', r', e, h⟩⟩
   ·exact .inl h
   ·right; simp at e ⊢; rw [e.1]; omega
  ·rintro (h | h)
   ·exact ⟨by omega, h5, .inl h⟩
   ·exact ⟨by simp, h5, .inr ⟨c, r, rfl, by simp at h; omega⟩⟩
theorem dgs_head (cs : List Int) (h : 1 ≤ (dgs cs).length) : (dgs cs).getD 0 0 = cs.getD 0 0 := by
 match cs with
 | [] => simp [dgs] at h
 | c :: cs =>
  unfold dgs at h ⊢
  by_cases hd : dv c < 10
  ·rw [X1b (by simpa using hd)]; rfl
  ·rw [X1c (by simpa using hd)] at h; simp at h
theorem dgs_le (cs : List Int) : (dgs cs).length ≤ cs.length := by
 have h : (cs.takeWhile fun c => decide (dv c < 10)).length + (cs.dropWhile fun c => decide (dv c < 10)).length = cs.length := by
  rw [← Xu, X07]
 unfold dgs; omega
theorem dv_zero (c : Int) : dv c = 0 ↔ c = 26 := by
 constructor
 ·intro h
  have := dg_dv c (by omega)
  rw [h] at this
  exact this.symm
 ·rintro rfl; rfl
theorem read_k3 (cs : List Int) (v k : Nat) (hk : k = 1 + (dgs cs).length) (h5 : (dgs cs).length ≤ 5) : Y0t (60 :: cs) v k = if (dgs cs).length = 0 ∨ (2 ≤ (dgs cs).length ∧ dv ((dgs cs).getD 0 0) = 0) then some (0, 0, 190) else some ((v : Int), (k : Int), 0) := by
 unfold Y0t
 have hle := dgs_le cs
 rw [Yw (by
  intro h
  simp at h
  simp
  omega)]
 have e : (60 :: cs).getD (1 : Int).toNat 0 = cs.getD 0 0 := rfl
 have e2 : Yi.getD (0 : Int).toNat 0 = 26 := rfl
 rw [e, e2]
 by_cases h : (dgs cs).length = 0 ∨ (2 ≤ (dgs cs).length ∧ dv ((dgs cs).getD 0 0) = 0)
 ·rw [if_pos h, Y03]
  rcases h with h | ⟨h, h'⟩
  ·have : k = 1 := by omega
   subst this; rfl
  ·rw [dgs_head cs (by omega), dv_zero] at h'
   rw [h', or_tt, and_tt]
   simp
   omega
 ·rw [if_neg h, Y00]
  rw [or_tt, and_tt]
  simp only [Bool.or_eq_false_iff, Bool.and_eq_false_iff, beq_eq_false_iff_ne, decide_eq_false_iff_not]
  refine ⟨by omega, ?_⟩
  by_cases h2 : 2 ≤ (dgs cs).length
  ·right
   intro e
   rw [← dv_zero, ← dgs_head cs (by omega)] at e
   exact h (.inr ⟨h2, e⟩)
  ·left; omega
theorem number_rs : RS Y1h := by
 have start : ∀ cs : List Int, cs.length < 900000 → Y1h (60 :: cs) = if 6 < 1 + (dgs cs).length then some rerr else Y0t (60 :: cs) ((vl 0 (dgs cs) : Nat) : Int) ((1 + (dgs cs).length : Nat) : Int) := by
  intro cs hl
  unfold Y1h
  rw [Yw (by simp), Y00 (by simp; omega)]
  exact read_outer (60 :: cs) 1000000 1 0 (by simp; omega) (by omega) (by simp) (by omega) (by simp)
 refine rs_of _ (by kernel_rfl) ?_ ?_ ?_
 ·intro c cs hc
  unfold Y1h
  rw [Yw (by simp), Y03 (by simp [hc])]
 ·intro cs hl hg
  rw [start cs hl, if_neg (by have := hg.2.1; omega), read_k3 cs _ _ rfl hg.2.1, if_neg]
  ·have := hg.1
   rw [goodD_lead hg.1 hg.2.1] at hg
   omega
 ·intro cs hl hg
  rw [start cs hl]
  by_cases h6 : 6 < 1 + (dgs cs).length
  ·rw [if_pos h6]; rfl
  ·rw [if_neg h6, read_k3 cs _ _ rfl (by omega), if_pos]
   by_cases h0 : (dgs cs).length = 0
   ·exact .inl h0
   ·rw [goodD_lead (by omega) (by omega)] at hg
    omega
theorem isDigit_loop (c : Int) : ∀ n j : Nat, 10 < n + j → j ≤ dv c → iter (fun loop (s : Int) => Y3i c loop s) n (j : Int) = some (decide (dv c < 10))
 | 0, j, h1, h2 => by have := dv_le c; omega
 | n + 1, j, h1, h2 => by
  rw [Y0r, Y3i]
  have hle := dv_le c
  by_cases hj : j < 10
  ·rw [Y09 (by omega), Yv (f_digit j hj)]
   by_cases he : dv c = j
   ·rw [cb_pos ((dg_eq hj).2 he), decide_eq_true (by omega)]
   ·rw [cb_neg (fun e => he ((dg_eq hj).1 e)), Yx (by omega)]
    exact isDigit_loop c n (j + 1) (by omega) (by omega)
  ·rw [Y0b (by omega), decide_eq_false (by omega)]
theorem f_isDigit (c : Int) : f_R19_IsDigit c = some (decide (dv c < 10)) := isDigit_loop c 1000000 0 (by omega) (by omega)
theorem refRead_inner (t0 : List Int) (c : Int) (k : Nat) (hk : k < t0.length) (hc : t0.getD k 0 = c) (hd : dv c < 10) (v : Nat) (hv : v < 1000000000) (hk2 : k < 1000000000) (loop5 : Int × Int → Option (Int × Int × Int)) : ∀ n j : Nat, 10 < n + j → j ≤ 10 →
  iter (fun loop (s : Int × Int) => f_R19_Read_b1 t0 loop5 (k : Int) loop s.1 s.2) n (((if j ≤ dv c then v else 10 * v + dv c : Nat) : Int), (j : Int)) = loop5 (((k + 1 : Nat) : Int), ((10 * v + dv c : Nat) : Int))
 | 0, j, h1, h2 => by omega
 | n + 1, j, h1, h2 => by
  rw [Y0r, f_R19_Read_b1]
  dsimp only
  by_cases hj : j < 10
  ·have ih := refRead_inner t0 c k hk hc hd v hv hk2 loop5 n (j + 1) (by omega) (by omega)
   rw [Y09 (by omega), Yv (f_digit j hj), Yw (by omega), X5, hc]
   by_cases he : dv c = j
   ·rw [cb_pos ((dg_eq hj).2 he), if_pos (by omega), Yx (by omega), Yx (by omega)]
    unfold Y4j
    rw [Yx (by omega)]
    rw [if_neg (by omega)] at ih
    rw [show (10 : Int) * (v : Int) + (j : Int) = ((10 * v + dv c : Nat) : Int) from by omega]
    exact ih
   ·rw [cb_neg (fun e => he ((dg_eq hj).1 e))]
    unfold Y4j
    rw [Yx (by omega)]
    have e : (if j + 1 ≤ dv c then v else 10 * v + dv c) = if j ≤ dv c then v else 10 * v + dv c := by
     by_cases h : j + 1 ≤ dv c
     ·rw [if_pos h, if_pos (by omega)]
     ·rw [if_neg h, if_neg (by omega)]
    rw [e] at ih
    exact ih
  ·rw [Y0b (by omega), Yx (by omega), if_neg (by omega)]
   congr 2
def refEnd (t0 : List Int) (k v : Nat) : Option (Int × Int × Int) :=
 if 99999 < v ∨ k = 1 ∨ 6 < k ∨ wr v ≠ t0.take k then some (0, 0, 190) else some ((v : Int), (k : Int), 0)
theorem refRead_outer (t0 : List Int) (ht : t0.length < 1000000) : ∀ (n k v : Nat), t0.length < n + k → 1 ≤ k → k ≤ t0.length → k ≤ 7 → v < 10 ^ (k - 1) →
  iter (fun loop (s : Int × Int) => Y4k t0 loop s.1 s.2) n ((k : Int), (v : Int)) = refEnd t0 (k + ((dgs (t0.drop k)).take (7 - k)).length) (vl v ((dgs (t0.drop k)).take (7 - k)))
 | 0, k, v, h1, h2, h3, h4, h5 => by omega
 | n + 1, k, v, h1, h2, h3, h4, h5 => by
  rw [Y0r, Y4k]
  dsimp only
  have hv : v < 1000000000 := by
   have : 10 ^ (k - 1) ≤ 10 ^ 7 := Nat.pow_le_pow_right (by omega) (by omega)
   omega
  rw [Yw (fun h => by simp at h; omega)]
  have fin : (Y1v (v : Int)).bind (fun x21 =>
    G ((!(cond (cond (x21.2 != (0 : Int)) true ((k : Int) == (1 : Int))) true (decide ((6 : Int) < (k : Int))))) = true → (0 ≤ (k : Int) ∧ (k : Int) ≤ (t0.length : Int))) <|
    (cond (!(cond (cond (x21.2 != (0 : Int)) true ((k : Int) == (1 : Int))) true (decide ((6 : Int) < (k : Int))))) (Y3r x21.1 (t0.take (k : Int).toNat)) (some false)).bind fun x23 =>
    cond (cond (cond (cond (x21.2 != (0 : Int)) true ((k : Int) == (1 : Int))) true (decide ((6 : Int) < (k : Int)))) true (!x23)) (
     some ((0 : Int), (0 : Int), (190 : Int))) (
     some ((v : Int), (k : Int), (0 : Int)))) = refEnd t0 k v := by
   unfold refEnd
   by_cases hb : 99999 < v
   ·rw [Yv (f_refWrite_bad v (by omega)), if_pos (.inl hb)]
    rw [Yw (fun _ => by omega)]
    rfl
   ·rw [Yv (f_refWrite v (by omega)), Yw (fun _ => by omega)]
    dsimp only
    by_cases h1 : k = 1
    ·subst h1; rw [if_pos (by omega)]; rfl
    ·by_cases h6 : 6 < k
     ·rw [if_pos (by omega)]
      have : k = 7 := by omega
      subst this; rfl
     ·have e1 : (cond (cond ((0 : Int) != (0 : Int)) true ((k : Int) == (1 : Int))) true (decide ((6 : Int) < (k : Int)))) = false := by
       rw [or_tt, or_tt]; simp; omega
      rw [e1]
      have hs := f_same (wr v) (t0.take k) (by have := wr_len v; omega)
      rw [X5]
      rw [Yv (by exact hs)]
      by_cases hw : wr v = t0.take k
      ·rw [decide_eq_true hw, if_neg (by
        rintro (h | h | h | h)
        ·exact hb h
        ·exact h1 h
        ·exact h6 h
        ·exact h hw)]
       rfl
      ·rw [decide_eq_false hw, if_pos (.inr (.inr (.inr hw)))]
       rfl
  by_cases hk : k < t0.length
  ·have ed : t0.drop k = t0.getD k 0 :: t0.drop (k + 1) := getD_drop t0 k 0 hk
   rw [Y09 (by omega), X5, Yv (f_isDigit _)]
   generalize hc : t0.getD k 0 = c at ed
   rw [Y09 (by omega)]
   by_cases hd : dv c < 10
   ·have ed2 : dgs (t0.drop k) = c :: dgs (t0.drop (k + 1)) := by
     rw [ed]; unfold dgs
     rw [X1b (by simpa using hd)]
    rw [decide_eq_true hd]
    by_cases h7 : k < 7
    ·rw [Y03 (by simp; omega)]
     have hin := refRead_inner t0 c k hk hc hd v hv (by omega) (fun s => iter (fun loop (s : Int × Int) => Y4k t0 loop s.1 s.2) n s) 1000000 0 (by omega) (by omega)
     rw [if_pos (by omega)] at hin
     refine Eq.trans hin ?_
     have ih := refRead_outer t0 ht n (k + 1) (10 * v + dv c) (by omega) (by omega) (by omega) (by omega) (by
      have e : 10 ^ (k + 1 - 1) = 10 ^ (k - 1) * 10 := by rw [← Nat.pow_succ]; congr 1; omega
      rw [e]; omega)
     refine Eq.trans ih ?_
     rw [ed2, show 7 - k = (7 - (k + 1)) + 1 from by omega, X08, Xw]
     rw [show k + 1 + ((dgs (t0.drop (k + 1))).take (7 - (k + 1))).length = k + (((dgs (t0.drop (k + 1))).take (7 - (k + 1))).length + 1) from by omega]
     rfl
    ·rw [Y00 (b := cond true _ _) (by simp; omega)]
     rw [show 7 - k = 0 from by omega, List.take_zero]
     exact fin
   ·have ed2 : dgs (t0.drop k) = [] := by
     rw [ed]; unfold dgs
     rw [X1c (by simpa using hd)]
    rw [decide_eq_false hd, ed2, List.take_nil]
    exact fin
  ·have ed2 : dgs (t0.drop k) = [] := by
    rw [X0f (by omega)]; rfl
   rw [Y0b (by omega), ed2, List.take_nil]
   rw [X8, Y0b (by omega)]
   exact fin
theorem ref_rs : RS Y4l := by
 have start : ∀ cs : List Int, cs.length < 900000 → cs ≠ [] → Y4l (60 :: cs) = refEnd (60 :: cs) (1 + ((dgs cs).take 6).length) (vl 0 ((dgs cs).take 6)) := by
  intro cs hl hne
  have : 0 < cs.length := by rcases cs with _ | _ <;> simp at hne ⊢
  unfold Y4l
  rw [Yw (by simp), Y00 (by simp; omega)]
  exact refRead_outer (60 :: cs) (by simp; omega) 1000000 1 0 (by simp; omega) (by omega) (by simp) (by omega) (by simp)
 refine rs_of _ (by kernel_rfl) ?_ ?_ ?_
 ·intro c cs hc
  unfold Y4l
  rw [Yw (by simp), Y03 (by simp [hc])]
 ·intro cs hl hg
  have h1 := hg.1
  have h5 := hg.2.1
  have hle := dgs_le cs
  rw [start cs hl (by intro e; subst e; have e0 : (dgs []).length = 0 := rfl; omega), Xx (by omega)]
  unfold refEnd
  have hw := wr_of_digits (dgs cs) h1 h5 (dgs_digits cs) hg.2.2
  have hb := vl_bound (dgs cs) (dgs_digits cs) h5
  rw [if_neg]
  rintro (h | h | h | h)
  ·omega
  ·omega
  ·omega
  ·apply h
   rw [hw, Nat.add_comm, X08]
   congr 1
   have : dgs cs ++ cs.dropWhile (fun c => decide (dv c < 10)) = cs := X07
   conv => rhs; rw [← this]
   rw [List.take_left']
   rw [this]
 ·intro cs hl hg
  by_cases hne : cs = []
  ·subst hne; kernel_rfl
  ·rw [start cs hl hne]
   unfold refEnd
   rw [if_pos]
   by_cases h0 : (dgs cs).length = 0
   ·right; left; rw [Xq]; omega
   ·by_cases h6 : 6 ≤ (dgs cs).length
    ·right; right; left; rw [Xq]; omega
    ·rw [Xx (by omega)]
     right; right; right
     intro e
     apply hg
     refine ⟨by omega, by omega, ?_⟩
     have hb := vl_bound (dgs cs) (dgs_digits cs) (by omega)
     have hl := wr_lead _ hb
     have et : (wr (vl 0 (dgs cs))).tail = dgs cs := by
      rw [e, Nat.add_comm, X08, List.tail_cons]
      have : dgs cs ++ cs.dropWhile (fun c => decide (dv c < 10)) = cs := X07
      conv => lhs; rw [← this]
      rw [List.take_left']
      rw [this]
     rw [et] at hl
     exact hl
def writeS (n : Int) : List Int × Int := if 0 ≤ n ∧ n ≤ 99999 then (wr n.toNat, 0) else ([], 190)
theorem writeS_pos {n : Int} (h : 0 ≤ n ∧ n ≤ 99999) : writeS n = (wr n.toNat, 0) := if_pos h
theorem writeS_neg {n : Int} (h : ¬ (0 ≤ n ∧ n ≤ 99999)) : writeS n = ([], 190) := if_neg h
theorem n_write (n : Int) : Y14 n = some (writeS n) := by
 by_cases h : 0 ≤ n ∧ n ≤ 99999
 ·rw [writeS_pos h]
  have := f_write n.toNat (by omega)
  rw [show ((n.toNat : Nat) : Int) = n from by omega] at this
  exact this
 ·rw [writeS_neg h, f_write_bad n (by omega)]
theorem r_write (n : Int) : Y1v n = some (writeS n) := by
 by_cases h : 0 ≤ n ∧ n ≤ 99999
 ·rw [writeS_pos h]
  have := f_refWrite n.toNat (by omega)
  rw [show ((n.toNat : Nat) : Int) = n from by omega] at this
  exact this
 ·rw [writeS_neg h, f_refWrite_bad n (by omega)]
def okL (n k : Int) : Prop := 1 ≤ n ∧ n ≤ 9999 ∧ 0 ≤ k ∧ k ≤ 2
instance (n k : Int) : Decidable (okL n k) := by unfold okL; infer_instance
def pageS (n k : Int) (b : Bool) : List Int × Int := if okL n k then (pg n.toNat k.toNat b, 0) else ([], 190)
theorem n_page (n k : Int) (b : Bool) : Y38 ⟨n, k⟩ b = some (pageS n k b) := by
 unfold pageS
 by_cases h : okL n k
 ·rw [if_pos h]
  have hh := h
  unfold okL at hh
  have := f_page n.toNat k.toNat b (by omega) (by omega) (by omega)
  rw [show ((n.toNat : Nat) : Int) = n from by omega, show ((k.toNat : Nat) : Int) = k from by omega] at this
  exact this
 ·rw [if_neg h]
  unfold okL at h
  unfold Y38
  rw [Y03 (b := cond _ _ _) (by simp only [or_tt]; simp; omega)]
theorem letters_eq : Y2n = some Y7 := by kernel_rfl
theorem r_page (n k : Int) (b : Bool) : f_R19_Page ⟨n, k⟩ b = some (pageS n k b) := by
 unfold pageS f_R19_Page
 by_cases h : okL n k
 ·have hh := h
  unfold okL at hh
  have hv : Y1w ⟨n, k⟩ = some true := by
   unfold Y1w
   simp only [and_tt]
   congr 1
   simp; omega
  have key : ∀ m : Int, 0 ≤ m → m ≤ 99999 → Y4m ⟨n, k⟩ m = some (wr m.toNat ++ mk k.toNat, 0) := by
   intro m h0 h1
   unfold Y4m
   rw [Yv (r_write m), writeS_pos ⟨h0, h1⟩]
   have hl := wr_len m.toNat
   dsimp only
   by_cases hk : k = 0
   ·subst hk
    rw [Y0b (by omega)]
    unfold Y4n mk
    simp
   ·rw [Y09 (by omega), Yv letters_eq, Yx (by omega), Yw (by have : Y7.length = 26 := rfl; omega), Y4s (by simp; omega)]
    unfold Y4n mk
    rw [if_neg (by omega), show (k - 1).toNat = k.toNat - 1 from by omega]
  rw [if_pos h, Yv hv, Y00 (b := !true) rfl, Yx (by show _ ∧ _; dsimp only; omega), Yx (by show _ ∧ _; dsimp only; omega)]
  cases b
  ·rw [Y00 rfl, key _ (by dsimp only; omega) (by dsimp only; omega)]
   unfold pg
   rw [show ((2 : Int) * n - 1).toNat = 2 * n.toNat - 1 from by omega]
   rfl
  ·rw [Y03 rfl, key _ (by dsimp only; omega) (by dsimp only; omega)]
   unfold pg
   rw [show ((2 : Int) * n).toNat = 2 * n.toNat from by omega]
   rfl
 ·rw [if_neg h]
  unfold okL at h
  have hv : Y1w ⟨n, k⟩ = some false := by
   unfold Y1w
   simp only [and_tt]
   congr 1
   simp; omega
  rw [Yv hv, Y03 (b := !false) rfl]
def ik (n p : Nat) : List Int := mk p ++ wr n
def okI (n p : Int) : Prop := 1 ≤ n ∧ n ≤ 9999 ∧ 0 ≤ p ∧ p ≤ 26
instance (n k : Int) : Decidable (okI n k) := by unfold okI; infer_instance
def inkS (n p : Int) : List Int × Int := if okI n p then (ik n.toNat p.toNat, 0) else ([], 190)
theorem n_ink (n p : Int) : f_number_Ink n p = some (inkS n p) := by
 unfold inkS f_number_Ink
 by_cases h : okI n p
 ·have hh := h
  unfold okI at hh
  have hl := wr_len n.toNat
  rw [if_pos h, Y00 (b := cond _ _ _) (by simp only [or_tt]; simp; omega), Yv (n_write n), writeS_pos (by omega)]
  dsimp only
  by_cases hp : p = 0
  ·subst hp
   rw [Y00 (b := cond _ _ _) (by simp)]
   unfold Y2u ik mk
   simp
  ·rw [Y03 (b := cond _ _ _) (by rw [and_tt]; simp; omega), Yx (by omega), Yw (by omega), Y4s (by simp; omega)]
   unfold Y2u ik mk
   rw [if_neg (by omega), show (p - 1).toNat = p.toNat - 1 from by omega]
 ·rw [if_neg h]
  unfold okI at h
  rw [Y03 (b := cond _ _ _) (by simp only [or_tt]; simp; omega)]
theorem r_ink (n p : Int) : f_R19_Ink n p = some (inkS n p) := by
 unfold inkS f_R19_Ink
 by_cases h : okI n p
 ·have hh := h
  unfold okI at hh
  have hl := wr_len n.toNat
  rw [if_pos h, Y00 (b := cond _ _ _) (by simp only [or_tt]; simp; omega), Yv (r_write n), writeS_pos (by omega)]
  dsimp only
  by_cases hp : p = 0
  ·subst hp
   rw [cb_pos rfl]
   unfold ik mk
   simp
  ·rw [cb_neg hp, Yv letters_eq, Yx (by omega), Yw (by have : Y7.length = 26 := rfl; omega), Y4s (by simp; omega)]
   unfold ik mk
   rw [if_neg (by omega), show (p - 1).toNat = p.toNat - 1 from by omega]
 ·rw [if_neg h]
  unfold okI at h
  rw [Y03 (b := cond _ _ _) (by simp only [or_tt]; simp; omega)]
theorem ik_len (n p : Nat) : (ik n p).length ≤ 8 := by
 unfold ik
 have h1 := wr_len n
 have h2 : (mk p).length ≤ 2 := by unfold mk; split <;> simp
 rw [Xu]
 omega
theorem drop_stepL {α : Type} (t : List (List α)) (i : Nat) (h : i < t.length) : t.drop i = t.getD i [] :: t.drop (i + 1) := by
 rw [X11 h]
 simp [Xc, X4 h]
theorem concat_loop1 (t : List (List Int)) (ht : t.length < 1000) : ∀ (n i : Nat) (acc : List Int), t.length < n + i → i ≤ t.length → acc.length + (t.drop i).flatten.length < 1000000 →
  iter (fun loop (s : (List Int) × Int) => Y05 t loop s.1 s.2) n (acc, (i : Int)) = some (acc ++ (t.drop i).flatten)
 | 0, i, acc, h1, h2, h3 => by omega
 | n + 1, i, acc, h1, h2, h3 => by
  rw [Y0r, Y05]
  dsimp only
  by_cases hi : i < t.length
  ·have e := drop_stepL t i hi
   rw [e, X1a, Xu] at h3
   have ih := concat_loop1 t ht n (i + 1) (acc ++ t.getD i []) (by omega) (by omega) (by rw [Xu]; omega)
   rw [Y09 (by omega), Yw (by omega), X5, Y4s (by omega), Yx (by omega)]
   refine Eq.trans ih ?_
   rw [e, X1a, X03]
  ·rw [Y0b (by omega), X0f (by omega)]
   simp
theorem f_grow (n : Nat) (h : n < 1000000) : Y0l (n : Int) = some [] := by
 unfold Y0l
 rw [Y0b (by omega), Yx (by omega), Yx (by omega)]
 by_cases h0 : 0 < n
 ·rw [Y09 (by omega), Yw (by omega), Y4s (by omega), Yw (by omega)]; rfl
 ·rw [Y0b (by omega)]; rfl
theorem concat_loop2 (t : List (List Int)) (ht : t.length < 1000) : ∀ (n i v : Nat), t.length < n + i → i ≤ t.length → v + (t.drop i).flatten.length < 1000000 →
  iter (fun loop (s : Int × Int) => Y0d t loop s.1 s.2) n ((v : Int), (i : Int)) = (Y0l ((v + (t.drop i).flatten.length : Nat) : Int)).bind fun x9 => iter (fun loop (s : (List Int) × Int) => Y05 t loop s.1 s.2) 1000000 (x9, (0 : Int))
 | 0, i, v, h1, h2, h3 => by omega
 | n + 1, i, v, h1, h2, h3 => by
  rw [Y0r, Y0d]
  dsimp only
  by_cases hi : i < t.length
  ·have e := drop_stepL t i hi
   rw [e, X1a, Xu] at h3
   have ih := concat_loop2 t ht n (i + 1) (v + (t.getD i []).length) (by omega) (by omega) (by omega)
   rw [Y09 (by omega), Yw (by omega), X5, Yx (by omega), Y0b (by omega), Yx (by omega)]
   refine Eq.trans ?_ (ih.trans ?_)
   ·congr 1
   ·rw [e, X1a, Xu, Nat.add_assoc]
  ·rw [Y0b (by omega), X0f (by omega)]
   rfl
theorem f_concat (t : List (List Int)) (ht : t.length < 1000) (hl : t.flatten.length < 1000000) : Y0v t = some t.flatten := by
 have := concat_loop2 t ht 1000000 0 0 (by omega) (by omega) (by rw [X15]; omega)
 unfold Y0v
 refine Eq.trans this ?_
 rw [Yv (f_grow _ (by rw [X15]; omega))]
 have h2 := concat_loop1 t ht 1000000 0 [] (by omega) (by omega) (by rw [X15]; simp only [X1j]; omega)
 rw [X15, X18] at h2
 exact h2
theorem f_join (a b c : List Int) (h : a.length + b.length + c.length < 1000000) : f_number_join [a, b, c] = some (a ++ b ++ c) := by
 unfold f_number_join
 rw [Yv (f_concat _ (by simp) (by simp; omega))]
 simp
def hl (ink part : Int) : List Int := if ink = 0 ∧ part = 0 then [] else ik ink.toNat part.toNat
def okH (h : Y3) : Prop := (24 ≤ h.Width ∧ h.Width ≤ 60) ∧ okL h.Label.N h.Label.K ∧ ((h.Ink = 0 ∧ h.Part = 0) ∨ okI h.Ink h.Part)
instance (h : Y3) : Decidable (okH h) := by unfold okH; infer_instance
def pgh (h : Y3) : List Int := pg h.Label.N.toNat h.Label.K.toNat h.Back
def hd (h : Y3) : List Int := hl h.Ink h.Part ++ (List.replicate (h.Width.toNat - (hl h.Ink h.Part).length - (pgh h).length) 0 ++ pgh h)
def headerS (h : Y3) : List Int × Int := if okH h then (hd h, 0) else if 24 ≤ h.Width ∧ h.Width ≤ 60 then ([], 190) else ([], 1)
theorem hl_len (i p : Int) : (hl i p).length ≤ 8 := by
 unfold hl; split
 ·simp
 ·exact ik_len _ _
theorem pgh_len (h : Y3) : (pgh h).length ≤ 8 := pg_len _ _ _
theorem header_k1 (h : Y3) (l : List Int) (hw : 24 ≤ h.Width ∧ h.Width ≤ 60) (hl8 : l.length ≤ 8) : Y1q h l = some (if okL h.Label.N h.Label.K then (l ++ (List.replicate (h.Width.toNat - l.length - (pgh h).length) 0 ++ pgh h), 0) else ([], 190)) := by
 unfold Y1q
 obtain ⟨W, ⟨N, K⟩, B, I, P⟩ := h
 dsimp only at hw ⊢
 rw [Yv (n_page N K B)]
 unfold pageS pgh
 dsimp only
 by_cases hok : okL N K
 ·rw [if_pos hok, if_pos hok]
  dsimp only
  have hp := pg_len N.toNat K.toNat B
  generalize pg N.toNat K.toNat B = q at hp
  rw [cn_neg rfl, Yx (by omega), Yx (by omega), Yw (by omega)]
  rw [Yv (f_join _ _ _ (by rw [Xn]; omega))]
  rw [X03, show (W - (l.length : Int) - (q.length : Int)).toNat = W.toNat - l.length - q.length from by omega]
 ·rw [if_neg hok, if_neg hok]
  rfl
theorem n_header (h : Y3) : Y44 h = some (headerS h) := by
 unfold Y44 headerS
 by_cases hw : 24 ≤ h.Width ∧ h.Width ≤ 60
 ·rw [Y00 (b := cond _ _ _) (by rw [or_tt]; simp; omega), if_pos hw]
  by_cases h0 : h.Ink = 0 ∧ h.Part = 0
  ·rw [Y00 (b := cond _ _ _) (by rw [or_tt, h0.1, h0.2]; rfl), header_k1 h [] hw (by simp)]
   have e : hl h.Ink h.Part = [] := if_pos h0
   by_cases hok : okL h.Label.N h.Label.K
   ·rw [if_pos hok, if_pos ⟨hw, hok, .inl h0⟩]
    unfold hd
    rw [e]
   ·rw [if_neg hok, if_neg (fun x => hok x.2.1)]
  ·rw [Y03 (b := cond _ _ _) (by rw [or_tt]; simp; omega), Yv (n_ink _ _)]
   unfold inkS
   by_cases hi : okI h.Ink h.Part
   ·rw [if_pos hi]
    dsimp only
    have e : hl h.Ink h.Part = ik h.Ink.toNat h.Part.toNat := if_neg h0
    rw [cn_neg rfl, header_k1 h _ hw (ik_len _ _)]
    by_cases hok : okL h.Label.N h.Label.K
    ·rw [if_pos hok, if_pos ⟨hw, hok, .inr hi⟩]
     unfold hd
     rw [e]
    ·rw [if_neg hok, if_neg (fun x => hok x.2.1)]
   ·rw [if_neg hi, if_neg (fun x => x.2.2.elim h0 hi)]
    rfl
 ·rw [Y03 (b := cond _ _ _) (by rw [or_tt]; simp; omega), if_neg hw, if_neg (fun x => hw x.1)]
theorem rheader_loop (h : Y3) (q : List Int) (e : Int) (hw : 24 ≤ h.Width ∧ h.Width ≤ 60) (hq : q.length ≤ 8) (l : List Int) (hl8 : l.length ≤ 8) : ∀ n i : Nat, 60 < n + i → i ≤ h.Width.toNat - l.length - q.length →
  iter (fun loop (s : Y3 × (List Int)) => Y4a (q, e) loop s.1 s.2) n (h, l ++ List.replicate i 0) = some (l ++ (List.replicate (h.Width.toNat - l.length - q.length) 0 ++ q), 0)
 | 0, i, h1, h2 => by omega
 | n + 1, i, h1, h2 => by
  rw [Y0r, Y4a]
  dsimp only
  have el : (l ++ List.replicate i (0 : Int)).length = l.length + i := by simp
  rw [el, Yx (by omega)]
  by_cases hi : i < h.Width.toNat - l.length - q.length
  ·have ih := rheader_loop h q e hw hq l hl8 n (i + 1) (by omega) (by omega)
   rw [Y09 (by omega), Y4s (by omega), X03, ← List.replicate_succ']
   exact ih
  ·rw [Y0b (by omega), Y4s (by omega), X03, show i = h.Width.toNat - l.length - q.length from by omega]
theorem rheader_k1 (h : Y3) (l : List Int) (e : Int) (hw : 24 ≤ h.Width ∧ h.Width ≤ 60) (hl8 : l.length ≤ 8) : Y2w h (pageS h.Label.N h.Label.K h.Back) l e = some (if okL h.Label.N h.Label.K ∧ e = 0 then (l ++ (List.replicate (h.Width.toNat - l.length - (pgh h).length) 0 ++ pgh h), 0) else ([], 190)) := by
 unfold Y2w pageS
 by_cases hok : okL h.Label.N h.Label.K
 ·rw [if_pos hok]
  dsimp only
  by_cases he : e = 0
  ·subst he
   rw [if_pos ⟨hok, rfl⟩, Y00 (b := cond _ _ _) rfl, Y4s (by simp; omega), X18]
   have := rheader_loop h (pgh h) 0 hw (pgh_len h) l hl8 1000000 0 (by omega) (by omega)
   rw [List.replicate_zero, X0y] at this
   exact this
  ·rw [if_neg (fun x => he x.2), Y03 (b := cond _ _ _) (by rw [or_tt]; simp [he])]
 ·rw [if_neg hok, if_neg (fun x => hok x.1)]
  rfl
theorem r_header (h : Y3) : Y4b h = some (headerS h) := by
 unfold Y4b headerS
 by_cases hw : 24 ≤ h.Width ∧ h.Width ≤ 60
 ·have hp : f_R19_Page h.Label h.Back = some (pageS h.Label.N h.Label.K h.Back) := r_page _ _ _
  rw [Y00 (b := cond _ _ _) (by rw [or_tt]; simp; omega), if_pos hw, Yv hp]
  by_cases h0 : h.Ink = 0 ∧ h.Part = 0
  ·rw [Y00 (b := cond _ _ _) (by rw [or_tt, h0.1, h0.2]; rfl), rheader_k1 h [] 0 hw (by simp)]
   have e : hl h.Ink h.Part = [] := if_pos h0
   by_cases hok : okL h.Label.N h.Label.K
   ·rw [if_pos ⟨hok, rfl⟩, if_pos ⟨hw, hok, .inl h0⟩]
    unfold hd
    rw [e]
   ·rw [if_neg (fun x => hok x.1), if_neg (fun x => hok x.2.1)]
  ·rw [Y03 (b := cond _ _ _) (by rw [or_tt]; simp; omega), Yv (r_ink _ _)]
   unfold inkS
   by_cases hi : okI h.Ink h.Part
   ·rw [if_pos hi]
    dsimp only
    have e : hl h.Ink h.Part = ik h.Ink.toNat h.Part.toNat := if_neg h0
    rw [rheader_k1 h _ 0 hw (ik_len _ _)]
    by_cases hok : okL h.Label.N h.Label.K
    ·rw [if_pos ⟨hok, rfl⟩, if_pos ⟨hw, hok, .inr hi⟩]
     unfold hd
     rw [e]
    ·rw [if_neg (fun x => hok x.1), if_neg (fun x => hok x.2.1)]
   ·rw [if_neg hi, if_neg (fun x => x.2.2.elim h0 hi)]
    dsimp only
    rw [rheader_k1 h _ 190 hw (by simp), if_neg (by simp)]
 ·rw [Y03 (b := cond _ _ _) (by rw [or_tt]; simp; omega), if_neg hw, if_neg (fun x => hw x.1)]
theorem hd_len (h : Y3) (hk : okH h) : (hd h).length = h.Width.toNat := by
 unfold hd
 have := hl_len h.Ink h.Part
 have := pgh_len h
 have := hk.1
 simp
 omega
def lt (c : Int) : Int := if Y7.idxOf c < 26 then ((Y7.idxOf c + 1 : Nat) : Int) else 0
theorem letters_nodup (j : Nat) (h : j < 26) : Y7.idxOf (Y7.getD j 0) = j ∧ Y7.getD j 0 ≠ 0 := by
 have := all_of (n := 26) (p := fun j => decide (Y7.idxOf (Y7.getD j 0) = j ∧ Y7.getD j 0 ≠ 0)) (by kernel_rfl) j h
 simpa using this
theorem letter_eq {c : Int} {j : Nat} (h : j < 26) : Y7.getD j 0 = c ↔ Y7.idxOf c = j := by
 constructor
 ·intro e; rw [← e]; exact (letters_nodup j h).1
 ·intro e
  have h' : Y7.idxOf c < Y7.length := by rw [e]; exact h
  have e2 : Y7[Y7.idxOf c] = c := List.getElem_idxOf h'
  rw [← e, Xc, X4 h', e2]
  rfl
theorem letter_loop (c : Int) : ∀ n j : Nat, 26 < n + j → j ≤ Y7.idxOf c → iter (fun loop (s : Int) => Y2j c loop s) n (j : Int) = some (lt c)
 | 0, j, h1, h2 => by have : Y7.idxOf c ≤ Y7.length := List.idxOf_le_length; have : Y7.length = 26 := rfl; omega
 | n + 1, j, h1, h2 => by
  rw [Y0r, Y2j]
  have hle : Y7.idxOf c ≤ 26 := List.idxOf_le_length
  by_cases hj : j < 26
  ·rw [Y09 (by omega), Yw (by omega), Yw (by rfl), X5]
   by_cases he : Y7.idxOf c = j
   ·rw [cb_pos ((letter_eq hj).2 he), Yx (by omega)]
    unfold lt
    rw [if_pos (by omega), he]
    rfl
   ·rw [cb_neg (fun e => he ((letter_eq hj).1 e)), Yx (by omega)]
    exact letter_loop c n (j + 1) (by omega) (by omega)
  ·rw [Y0b (by omega)]
   unfold lt
   rw [if_neg (by omega)]
theorem f_letter (c : Int) : Y43 c = some (lt c) := letter_loop c 1000000 0 (by omega) (by omega)
theorem lt_mk (k : Nat) (h1 : 1 ≤ k) (h2 : k ≤ 26) : lt (Y7.getD (k - 1) 0) = (k : Int) := by
 unfold lt
 rw [(letters_nodup (k - 1) (by omega)).1, if_pos (by omega)]
 omega
def lft (l : List Int) : List Int := l.takeWhile fun c => decide (c ≠ 0)
def rgt (l : List Int) : List Int := (l.reverse.takeWhile fun c => decide (c ≠ 0)).reverse
theorem lft_take (l : List Int) : l.take (lft l).length = lft l := by
 have : lft l ++ l.dropWhile (fun c => decide (c ≠ 0)) = l := X07
 conv => lhs; rw [← this]
 exact List.take_left' (by rw [this])
theorem rgt_app (l : List Int) : (l.reverse.dropWhile fun c => decide (c ≠ 0)).reverse ++ rgt l = l := by
 unfold rgt
 rw [← List.reverse_append, X07, List.reverse_reverse]
theorem rgt_drop (l : List Int) : l.drop (l.length - (rgt l).length) = rgt l ∧ (rgt l).length ≤ l.length := by
 have h := rgt_app l
 have hl : (l.reverse.dropWhile fun c => decide (c ≠ 0)).reverse.length + (rgt l).length = l.length := by
  rw [← Xu, h]
 refine ⟨?_, by omega⟩
 have e : l.length - (rgt l).length = (l.reverse.dropWhile fun c => decide (c ≠ 0)).reverse.length := by omega
 rw [e]
 conv => lhs; arg 2; rw [← h]
 exact List.drop_left' rfl
theorem lft_le (l : List Int) : (lft l).length ≤ l.length := by
 have : (lft l).length + (l.dropWhile (fun c => decide (c ≠ 0))).length = l.length := by
  unfold lft; rw [← Xu, X07]
 omega
theorem lft_step (l : List Int) (i : Nat) (hi : i < l.length) (hle : i ≤ (lft l).length) : l.getD i 0 ≠ 0 ↔ i < (lft l).length := by
 constructor
 ·intro h
  refine Decidable.byContradiction fun hn => ?_
  have e : i = (lft l).length := by omega
  have h1 : lft l ++ l.dropWhile (fun c => decide (c ≠ 0)) = l := X07
  have h2 := List.head?_dropWhile_not (p := fun c : Int => decide (c ≠ 0)) (l := l)
  have e3 : l.drop i = l.dropWhile (fun c => decide (c ≠ 0)) := by
   conv => lhs; rw [← h1]
   exact List.drop_left' e.symm
  rw [getD_drop l i 0 hi] at e3
  rw [← e3] at h2
  simp at h2
  exact h (by simpa using h2)
 ·intro h
  have hm : (lft l).getD i 0 ∈ lft l := getD_mem (lft l) i h
  have e : (lft l).getD i 0 = l.getD i 0 := by
   rw [← lft_take l, Xc, Xc, Xa, if_pos h]
  have h2 : (lft l).all (fun c => decide (c ≠ 0)) = true := List.all_takeWhile
  have := X7.1 h2 _ hm
  rw [e] at this
  simpa using this
theorem rgt_step (l : List Int) (k : Nat) (hk : k < l.length) (hle : k + 1 + (rgt l).length ≥ l.length) : l.getD k 0 ≠ 0 ↔ l.length < k + 1 + (rgt l).length := by
 have h := lft_step l.reverse (l.length - 1 - k) (by rw [Xt]; omega) (by
  have : (lft l.reverse).length = (rgt l).length := by unfold rgt lft; rw [Xt]
  omega)
 have e : l.reverse.getD (l.length - 1 - k) 0 = l.getD k 0 := by
  rw [Xc, Xc, List.getElem?_reverse (by omega), show l.length - 1 - (l.length - 1 - k) = k from by omega]
 have e2 : (lft l.reverse).length = (rgt l).length := by unfold rgt lft; rw [Xt]
 rw [e, e2] at h
 rw [h]
 omega
def rdv (l : List Int) : Int × Int × Int := (Y1h l).getD (0, 0, 0)
theorem n_rdv (l : List Int) (h : l.length < 900000) : Y1h l = some (rdv l) ∧ Y4l l = some (rdv l) := by
 obtain ⟨x, e1, e2⟩ := rs_eq number_rs ref_rs l h
 unfold rdv
 rw [e1, e2]
 exact ⟨rfl, rfl⟩
theorem rdv_bounds (l : List Int) (h : l.length < 900000) : 0 ≤ (rdv l).1 ∧ (rdv l).1 ≤ 99999 ∧ 0 ≤ (rdv l).2.1 ∧ (rdv l).2.1 ≤ (l.length : Int) := by
 unfold rdv
 rcases number_rs l h with ⟨e, _⟩ | ⟨n, r, d, e⟩
 ·rw [e]; simp
 ·rw [e]
  have := d.2.1
  have h2 : l.length = (wr n).length + r.length := by rw [d.1, Xu]
  dsimp only [Option.getD_some]
  omega
theorem rdv_wr (n : Nat) (hn : n ≤ 99999) (r : List Int) (hr : nd r) (hl : r.length < 800000) : rdv (wr n ++ r) = ((n : Int), ((wr n).length : Int), 0) := by
 unfold rdv
 have hw := wr_len n
 have d : Dec (wr n ++ r) n r := ⟨rfl, hn, hr⟩
 rcases number_rs (wr n ++ r) (by rw [Xu]; omega) with ⟨e, h⟩ | ⟨m, s, d', e⟩
 ·exact absurd d (h n r)
 ·obtain ⟨rfl, rfl⟩ := d.unique d'
  rw [e]; rfl
def zeroH : Y3 := ⟨0, ⟨0, 0⟩, false, 0, 0⟩
def cL (l : List Int) : Int × Int :=
 if (lft l).length = 0 then (0, 0) else if 2 < (lft l).length ∧ (lft l).getD 0 0 = 48 then ((rdv ((lft l).drop 2)).1, lt ((lft l).getD 1 0)) else ((rdv (lft l)).1, 0)
def candN (l : List Int) : Y3 :=
 let x := rdv (rgt l)
 ⟨l.length, ⟨Int.tdiv (x.1 + 1) 2, if ((rgt l).drop x.2.1.toNat).length = 2 then lt (((rgt l).drop x.2.1.toNat).getD 1 0) else 0⟩, Int.tmod x.1 2 == 0, (cL l).1, (cL l).2⟩
def answer (l : List Int) (h : Y3) : Y3 × Int := if okH h ∧ hd h = l then (h, 0) else (zeroH, 190)
theorem f_equal (t0 t1 : List Int) (hb : t0.length < 900000) : Y1y t0 t1 = some (decide (t0 = t1)) := f_same t0 t1 hb
theorem headerS_len (h : Y3) : (headerS h).1.length ≤ 60 := by
 unfold headerS
 split
 ·next hk => have := hd_len h hk; have := hk.1; dsimp only; omega
 ·split <;> simp
theorem rh_k1 (l : List Int) (v h : Y3) : Y0o l v h = some (answer l h) := by
 unfold Y0o answer
 rw [Yv (n_header h)]
 have hlen := headerS_len h
 unfold headerS at hlen ⊢
 by_cases hk : okH h
 ·rw [if_pos hk] at hlen ⊢
  dsimp only at hlen ⊢
  have he := f_equal (hd h) l (by omega)
  rw [show (!((0 : Int) != 0)) = true from rfl, cond_true, Yv he]
  by_cases e : hd h = l
  ·rw [decide_eq_true e, if_pos ⟨hk, e⟩]; rfl
  ·rw [decide_eq_false e, if_neg (fun x => e x.2)]; rfl
 ·rw [if_neg hk, if_neg (fun x : okH h ∧ hd h = l => hk x.1)]
  split <;> rfl
theorem rrh_k1 (l : List Int) (v h : Y3) : Y1f l v h = some (answer l h) := by
 unfold Y1f answer
 rw [Yv (r_header h)]
 have hlen := headerS_len h
 unfold headerS at hlen ⊢
 by_cases hk : okH h
 ·rw [if_pos hk] at hlen ⊢
  dsimp only at hlen ⊢
  have he := f_same (hd h) l (by omega)
  rw [show (!((0 : Int) != 0)) = true from rfl, cond_true, Yv he]
  by_cases e : hd h = l
  ·rw [decide_eq_true e, if_pos ⟨hk, e⟩]; rfl
  ·rw [decide_eq_false e, if_neg (fun x => e x.2)]; rfl
 ·rw [if_neg hk, if_neg (fun x : okH h ∧ hd h = l => hk x.1)]
  split <;> rfl
theorem index_loop (t : List Int) (ht : t.length < 900000) : ∀ n i : Nat, t.length < n + i → i ≤ (lft t).length → iter (fun loop (s : Int) => Y0j t 0 loop s) n (i : Int) = some (if (lft t).length < t.length then ((lft t).length : Int) else -1)
 | 0, i, h1, h2 => by have := lft_le t; omega
 | n + 1, i, h1, h2 => by
  rw [Y0r, Y0j]
  have hle := lft_le t
  by_cases hi : i < t.length
  ·have hs := lft_step t i hi h2
   rw [Y09 (by omega), Yw (by omega), X5]
   by_cases h0 : t.getD i 0 = 0
   ·have : ¬ i < (lft t).length := fun x => hs.2 x h0
    rw [cb_pos h0.symm, if_pos (by omega), show i = (lft t).length from by omega]
   ·have := hs.1 h0
    rw [cb_neg (fun e => h0 e.symm), Yx (by omega)]
    exact index_loop t ht n (i + 1) (by omega) (by omega)
  ·rw [Y0b (by omega), if_neg (by omega)]
theorem rh_k2 (l : List Int) (hl : l.length < 900000) (hlt : (rgt l).length < l.length) (v : Y3) (I P : Int) : Y0n l ((l.length - 1 - (rgt l).length : Nat) : Int) v ⟨(l.length : Int), ⟨0, 0⟩, false, I, P⟩ = some (answer l ⟨l.length, (candN l).Label, (candN l).Back, I, P⟩) := by
 unfold Y0n
 have hd := (rgt_drop l).1
 rw [Yx (by omega), Yw (by omega), show (((l.length - 1 - (rgt l).length : Nat) : Int) + 1).toNat = l.length - (rgt l).length from by omega, hd]
 have hb := rdv_bounds (rgt l) (by omega)
 rw [Yv (n_rdv (rgt l) (by omega)).1]
 have ht : Int.tdiv ((rdv (rgt l)).1 + 1) 2 = ((rdv (rgt l)).1 + 1) / 2 := Xp (by omega)
 rw [Yx (by omega), Yx (by rw [ht]; omega), Yw (by omega)]
 by_cases h2 : ((rgt l).drop (rdv (rgt l)).2.1.toNat).length = 2
 ·rw [cb_pos (by omega), Yw (by omega), Yv (f_letter _), rh_k1]
  unfold candN
  dsimp only
  rw [if_pos h2]
  rfl
 ·rw [cb_neg (by omega), rh_k1]
  unfold candN
  dsimp only
  rw [if_neg h2]
theorem rh_k3 (l : List Int) (hl : l.length < 900000) (hlt : (rgt l).length < l.length) (v : Y3) (P : Int) (x : List Int) (hx : x.length < 900000) : Y0m l ((l.length - 1 - (rgt l).length : Nat) : Int) v ⟨(l.length : Int), ⟨0, 0⟩, false, 0, P⟩ x = some (answer l ⟨l.length, (candN l).Label, (candN l).Back, (rdv x).1, P⟩) := by
 unfold Y0m
 rw [Yv (n_rdv x hx).1]
 exact rh_k2 l hl hlt v _ _
theorem rh_loop (l : List Int) (hl : l.length < 900000) (hlt : (lft l).length < l.length) (hr : (rgt l).length < l.length) : ∀ n k : Nat, k < n → k < l.length → l.length ≤ k + 1 + (rgt l).length →
  iter (fun loop (s : Int) => Y1a l ((lft l).length : Int) loop s) n (k : Int) = some (answer l (candN l))
 | 0, k, h1, h2, h3 => by omega
 | n + 1, k, h1, h2, h3 => by
  rw [Y0r, Y1a]
  have hs := rgt_step l k h2 h3
  rw [Yw (by omega), X5]
  by_cases h0 : l.getD k 0 = 0
  ·have hk : k = l.length - 1 - (rgt l).length := by
    have : ¬ l.length < k + 1 + (rgt l).length := fun x => hs.2 x h0
    omega
   rw [cn_neg h0, Yw (by omega), hk, X5, lft_take]
   have hc : candN l = ⟨l.length, (candN l).Label, (candN l).Back, (cL l).1, (cL l).2⟩ := rfl
   rw [hc]
   unfold cL
   by_cases he : (lft l).length = 0
   ·rw [Y0b (by omega), if_pos he]
    exact rh_k2 l hl hr _ 0 0
   ·rw [Y09 (by omega), if_neg he, Yw (fun _ => by omega)]
    by_cases hm : 2 < (lft l).length ∧ (lft l).getD 0 0 = 48
    ·rw [Y03 (b := cond _ _ _) (by rw [and_tt]; simp; exact ⟨by omega, by simpa using hm.2⟩), if_pos hm, Yw (by omega), Yv (f_letter _), Yw (by omega)]
     exact rh_k3 l hl hr _ _ _ (by simp; omega)
    ·rw [Y00 (b := cond _ _ _) (by
      rw [and_tt]
      refine Bool.and_eq_false_iff.2 ?_
      by_cases h1 : 2 < (lft l).length
      ·right; exact beq_eq_false_iff_ne.2 fun e => hm ⟨h1, e⟩
      ·left; exact decide_eq_false (by omega)), if_neg hm]
     exact rh_k3 l hl hr _ _ _ (by omega)
  ·have := hs.1 h0
   rw [cn_pos h0, Yx (by omega), show (k : Int) - 1 = ((k - 1 : Nat) : Int) from by omega]
   exact rh_loop l hl hlt hr n (k - 1) (by omega) (by omega) (by omega)
theorem rgt_lt (l : List Int) : (lft l).length < l.length ↔ (rgt l).length < l.length := by
 have key : ∀ l : List Int, (lft l).length < l.length ↔ 0 ∈ l := by
  intro l
  induction l with
  | nil => simp [lft]
  | cons c l ih =>
   unfold lft at ih ⊢
   by_cases hc : c = 0
   ·subst hc; simp
   ·rw [X1b (by simpa using hc)]
    simp only [Xw, X0n]
    constructor
    ·intro h; exact .inr (ih.1 (by omega))
    ·rintro (h | h)
     ·exact absurd h.symm hc
     ·have := ih.2 h; omega
 have e2 : (lft l.reverse).length = (rgt l).length := by unfold rgt lft; rw [Xt]
 rw [key l, ← e2]
 have := key l.reverse
 rw [Xt, List.mem_reverse] at this
 exact this.symm
theorem n_readHeader (l : List Int) (hl : l.length < 900000) : Y07 l = some (if (lft l).length < l.length then answer l (candN l) else (zeroH, 190)) := by
 unfold Y07
 have hi := index_loop l hl 1000000 0 (by omega) (by omega)
 rw [Yv (by exact hi)]
 by_cases h : (lft l).length < l.length
 ·rw [if_pos h, if_pos h, Y0b (by omega), Yx (by omega)]
  have := rh_loop l hl h ((rgt_lt l).1 h) 1000000 (l.length - 1) (by omega) (by omega) (by omega)
  rw [show ((l.length - 1 : Nat) : Int) = (l.length : Int) - 1 from by omega] at this
  exact this
 ·rw [if_neg h, if_neg h, Y09 (by omega)]
  rfl
theorem split_loop2 (t : List Int) (ht : t.length < 900000) (v : Nat) (hv : v ≤ t.length) : ∀ n k : Nat, k < n → k ≤ t.length → t.length ≤ k + (rgt t).length → iter (fun loop (s : Int) => Y3p t (v : Int) loop s) n (k : Int) = some (t.take v, rgt t)
 | 0, k, h1, h2, h3 => by omega
 | n + 1, k, h1, h2, h3 => by
  rw [Y0r, Y3p]
  rw [Yw (fun h => inR_of (by omega)), Yw (fun h => by simp at h; omega)]
  have hd := rgt_drop t
  by_cases h0 : 0 < k
  ·have hs := rgt_step t (k - 1) (by omega) (by omega)
   rw [show ((k : Int) - 1).toNat = k - 1 from by omega]
   by_cases hc : t.getD (k - 1) 0 = 0
   ·have : ¬ t.length < k - 1 + 1 + (rgt t).length := fun x => hs.2 x hc
    rw [Y00 (b := cond _ _ _) (by rw [and_tt, hc]; simp), Yw (by omega), Yw (by omega), X5, X5, show k = t.length - (rgt t).length from by omega, hd.1]
   ·have := hs.1 hc
    rw [Y03 (b := cond _ _ _) (by rw [and_tt]; simp; exact ⟨h0, by simpa using hc⟩), Yx (by omega), show (k : Int) - 1 = ((k - 1 : Nat) : Int) from by omega]
    exact split_loop2 t ht v hv n (k - 1) (by omega) (by omega) (by omega)
  ·rw [Y00 (b := cond _ _ _) (by rw [and_tt]; simp; omega), Yw (by omega), Yw (by omega), X5, X5, show k = t.length - (rgt t).length from by omega, hd.1]
theorem split_loop1 (t : List Int) (ht : t.length < 900000) : ∀ n i : Nat, t.length < n + i → i ≤ (lft t).length → iter (fun loop (s : Int) => Y53 t loop s) n (i : Int) = some (lft t, rgt t)
 | 0, i, h1, h2 => by have := lft_le t; omega
 | n + 1, i, h1, h2 => by
  rw [Y0r, Y53]
  have hle := lft_le t
  rw [Yw (fun h => by simp at h; omega), X5]
  have fin : i = (lft t).length → iter (fun loop (s : Int) => Y3p t (i : Int) loop s) 1000000 (t.length : Int) = some (lft t, rgt t) := by
   intro e
   rw [split_loop2 t ht i (by omega) 1000000 t.length (by omega) (by omega) (by omega), e, lft_take]
  by_cases hi : i < t.length
  ·have hs := lft_step t i hi h2
   by_cases h0 : t.getD i 0 = 0
   ·have : ¬ i < (lft t).length := fun x => hs.2 x h0
    rw [Y00 (b := cond _ _ _) (by rw [and_tt, h0]; simp)]
    exact fin (by omega)
   ·have := hs.1 h0
    rw [Y03 (b := cond _ _ _) (by rw [and_tt]; simp; exact ⟨by omega, by simpa using h0⟩), Yx (by omega)]
    exact split_loop1 t ht n (i + 1) (by omega) (by omega)
  ·rw [Y00 (b := cond _ _ _) (by rw [and_tt]; simp; omega)]
   exact fin (by omega)
theorem f_split (t : List Int) (ht : t.length < 900000) : f_R19_split t = some (lft t, rgt t) := split_loop1 t ht 1000000 0 (by omega) (by omega)
def kR (c : Int) : Int := if c = Y7.getD 1 0 then 2 else if c = Y7.getD 0 0 then 1 else 0
def cLR (l : List Int) : Int × Int :=
 if 2 < (lft l).length ∧ (lft l).getD 0 0 = 48 then ((rdv ((lft l).drop 2)).1, lt ((lft l).getD 1 0)) else if (lft l).length = 0 then (0, 0) else ((rdv (lft l)).1, 0)
theorem cLR_eq (l : List Int) : cLR l = cL l := by
 unfold cLR cL
 by_cases h : 2 < (lft l).length ∧ (lft l).getD 0 0 = 48
 ·rw [if_pos h, if_neg (by omega), if_pos h]
 ·rw [if_neg h]
  by_cases h0 : (lft l).length = 0
  ·rw [if_pos h0, if_pos h0]
  ·rw [if_neg h0, if_neg h0, if_neg h]
def candR (l : List Int) : Y3 :=
 let x := rdv (rgt l)
 ⟨l.length, ⟨Int.tdiv (x.1 + 1) 2, if x.2.1 < ((rgt l).length : Int) then kR ((rgt l).getD ((rgt l).length - 1) 0) else 0⟩, Int.tmod x.1 2 == 0, (cL l).1, (cL l).2⟩
theorem rrh_k2 (l : List Int) (v : Y3) (x : List Int) (hx : x.length < 900000) (W : Int) (L : Yu) (B : Bool) (P : Int) : Y1e l v x ⟨W, L, B, 0, P⟩ = some (answer l ⟨W, L, B, if x.length = 0 then 0 else (rdv x).1, P⟩) := by
 unfold Y1e
 by_cases h : x.length = 0
 ·rw [Y0b (by omega), if_pos h, rrh_k1]
 ·rw [Y09 (by omega), if_neg h, Yv (n_rdv x hx).2, rrh_k1]
theorem rrh_loop1 (l : List Int) (r : List Int) (hl : (lft l).length < 900000) (h2 : 2 < (lft l).length) (v : Y3) (W : Int) (L : Yu) (B : Bool) : ∀ n j : Nat, 27 < n + j → 1 ≤ j → j ≤ 27 →
  iter (fun loop (s : Y3 × Y3 × Int) => Y29 l (lft l, r) loop s.1 s.2.1 s.2.2) n (v, ⟨W, L, B, 0, if lt ((lft l).getD 1 0) < (j : Int) then lt ((lft l).getD 1 0) else 0⟩, (j : Int)) = some (answer l ⟨W, L, B, (rdv ((lft l).drop 2)).1, lt ((lft l).getD 1 0)⟩)
 | 0, j, h1, h3, h4 => by omega
 | n + 1, j, h1, h3, h4 => by
  rw [Y0r, Y29]
  dsimp only
  have e1 : (1 : Int).toNat = 1 := rfl
  have hlt : 0 ≤ lt ((lft l).getD 1 0) ∧ lt ((lft l).getD 1 0) ≤ 26 := by unfold lt; split <;> omega
  by_cases hj : j ≤ 26
  ·have ih := rrh_loop1 l r hl h2 v W L B n (j + 1) (by omega) (by omega) (by omega)
   rw [Y09 (by omega), Yw (by omega), Yv letters_eq, Yx (by omega), Yw (by have : Y7.length = 26 := rfl; omega), e1, show ((j : Int) - 1).toNat = j - 1 from by omega]
   by_cases hc : Y7.idxOf ((lft l).getD 1 0) = j - 1
   ·have el : lt ((lft l).getD 1 0) = (j : Int) := by
     unfold lt; rw [hc, if_pos (by omega)]; omega
    rw [cb_pos ((letter_eq (by omega)).2 hc).symm]
    unfold Y1d
    rw [Yx (by omega)]
    rw [if_pos (by omega)] at ih
    rw [el] at ih ⊢
    exact ih
   ·rw [cb_neg (fun e => hc ((letter_eq (by omega)).1 e.symm))]
    unfold Y1d
    rw [Yx (by omega)]
    have el : lt ((lft l).getD 1 0) ≠ (j : Int) := by
     unfold lt; split <;> omega
    have e : (if lt ((lft l).getD 1 0) < ((j + 1 : Nat) : Int) then lt ((lft l).getD 1 0) else 0) = if lt ((lft l).getD 1 0) < (j : Int) then lt ((lft l).getD 1 0) else 0 := by
     by_cases h : lt ((lft l).getD 1 0) < (j : Int)
     ·rw [if_pos h, if_pos (by omega)]
     ·rw [if_neg h, if_neg (by omega)]
    rw [e] at ih
    exact ih
  ·rw [Y0b (by omega), Yw (by omega), rrh_k2 l _ _ (by simp; omega), if_pos (show lt ((lft l).getD 1 0) < (j : Int) by omega)]
   rw [if_neg (by simp; omega)]
   rfl
theorem rrh_k4 (l : List Int) (r : List Int) (hl : (lft l).length < 900000) (v : Y3) (W : Int) (L : Yu) (B : Bool) : Y1c l (lft l, r) v ⟨W, L, B, 0, 0⟩ = some (answer l ⟨W, L, B, (cL l).1, (cL l).2⟩) := by
 unfold Y1c
 dsimp only
 rw [← cLR_eq]
 unfold cLR
 rw [Yw (fun h => by simp at h; omega)]
 by_cases hm : 2 < (lft l).length ∧ (lft l).getD 0 0 = 48
 ·rw [Y03 (b := cond _ _ _) (by rw [and_tt]; simp; exact ⟨by omega, by simpa using hm.2⟩), if_pos hm]
  have := rrh_loop1 l r hl hm.1 v W L B 1000000 1 (by omega) (by omega) (by omega)
  have e : (if lt ((lft l).getD 1 0) < ((1 : Nat) : Int) then lt ((lft l).getD 1 0) else 0) = 0 := by
   have hlt : 0 ≤ lt ((lft l).getD 1 0) ∧ lt ((lft l).getD 1 0) ≤ 26 := by unfold lt; split <;> omega
   split <;> omega
  rw [e] at this
  exact this
 ·rw [Y00 (b := cond _ _ _) (by
   rw [and_tt]
   refine Bool.and_eq_false_iff.2 ?_
   by_cases h1 : 2 < (lft l).length
   ·right; exact beq_eq_false_iff_ne.2 fun e => hm ⟨h1, e⟩
   ·left; exact decide_eq_false (by omega)), if_neg hm, rrh_k2 l _ _ hl]
  by_cases h0 : (lft l).length = 0
  ·rw [if_pos h0, if_pos h0]
  ·rw [if_neg h0, if_neg h0]
theorem rrh_loop2 (l : List Int) (hl : l.length < 900000) (h0 : 0 < (rgt l).length) (v : Y3) (W N : Int) (B : Bool) : 
  iter (fun loop (s : Y3 × Y3 × Int) => Y0g l (lft l, rgt l) loop s.1 s.2.1 s.2.2) 1000000 (v, ⟨W, ⟨N, 0⟩, B, 0, 0⟩, 1) = some (answer l ⟨W, ⟨N, kR ((rgt l).getD ((rgt l).length - 1) 0)⟩, B, (cL l).1, (cL l).2⟩) := by
 have hle := lft_le l
 have hlr := (rgt_drop l).2
 have step : ∀ (n : Nat) (j K : Int) (v : Y3), 1 ≤ j → j ≤ 2 → iter (fun loop (s : Y3 × Y3 × Int) => Y0g l (lft l, rgt l) loop s.1 s.2.1 s.2.2) (n + 1) (v, ⟨W, ⟨N, K⟩, B, 0, 0⟩, j) = iter (fun loop (s : Y3 × Y3 × Int) => Y0g l (lft l, rgt l) loop s.1 s.2.1 s.2.2) n (v, ⟨W, ⟨N, if (rgt l).getD ((rgt l).length - 1) 0 = Y7.getD (j - 1).toNat 0 then j else K⟩, B, 0, 0⟩, j + 1) := by
  intro n j K v h1 h2
  rw [Y0r, Y0g]
  dsimp only
  rw [Y09 (by omega), Yx (by omega), Yw (by omega), Yv letters_eq, Yx (by omega), Yw (by have : Y7.length = 26 := rfl; omega), show (((rgt l).length : Int) - 1).toNat = (rgt l).length - 1 from by omega]
  unfold Y28
  by_cases h : (rgt l).getD ((rgt l).length - 1) 0 = Y7.getD (j - 1).toNat 0
  ·rw [cb_pos h, if_pos h, Yx (by omega)]
  ·rw [cb_neg h, if_neg h, Yx (by omega)]
 rw [show (1000000 : Nat) = 999997 + 1 + 1 + 1 from rfl, step _ 1 0 v (by omega) (by omega), show (1 : Int) + 1 = 2 from rfl, step _ 2 _ v (by omega) (by omega)]
 rw [Y0r, Y0g]
 dsimp only
 rw [Y0b (by omega), rrh_k4 l _ (by omega)]
 rfl
theorem r_readHeader (l : List Int) (hl : l.length < 900000) : Y16 l = some (if (rdv (rgt l)).2.2 = 0 ∧ (rdv (rgt l)).1 ≠ 0 then answer l (candR l) else (zeroH, 190)) := by
 unfold Y16
 have hlr := (rgt_drop l).2
 have hb := rdv_bounds (rgt l) (by omega)
 rw [Yv (f_split l hl)]
 dsimp only
 rw [Yv (n_rdv (rgt l) (by omega)).2]
 by_cases h : (rdv (rgt l)).2.2 = 0 ∧ (rdv (rgt l)).1 ≠ 0
 ·have ht : Int.tdiv ((rdv (rgt l)).1 + 1) 2 = ((rdv (rgt l)).1 + 1) / 2 := Xp (by omega)
  rw [Y00 (b := cond _ _ _) (by rw [or_tt, h.1]; simp [h.2]), if_pos h, Yx (by omega), Yx (by rw [ht]; omega)]
  unfold candR
  dsimp only
  by_cases hk : (rdv (rgt l)).2.1 < ((rgt l).length : Int)
  ·rw [Y09 hk, if_pos hk]
   exact rrh_loop2 l hl (by omega) _ _ _ _
  ·rw [Y0b hk, if_neg hk]
   exact rrh_k4 l _ (by have := lft_le l; omega) _ _ _ _
 ·rw [if_neg h, Y03 (b := cond _ _ _) (by
   rw [or_tt]
   refine Bool.or_eq_true_iff.2 ?_
   by_cases h1 : (rdv (rgt l)).2.2 = 0
   ·right; exact beq_iff_eq.2 (Decidable.byContradiction fun e => h ⟨h1, e⟩)
   ·left; exact bne_iff_ne.2 h1)]
  rfl
theorem mk_nz (k : Nat) (h : k ≤ 26) (c : Int) (hc : c ∈ mk k) : c ≠ 0 := by
 unfold mk at hc
 split at hc
 ·simp at hc
 ·simp only [X0n, List.not_mem_nil, or_false] at hc
  rcases hc with rfl | rfl
  ·decide
  ·exact (letters_nodup (k - 1) (by omega)).2
theorem hl_nz (h : Y3) (hk : okH h) (c : Int) (hc : c ∈ hl h.Ink h.Part) : c ≠ 0 := by
 unfold hl at hc
 split at hc
 ·simp at hc
 ·next hn =>
  have hi : okI h.Ink h.Part := hk.2.2.resolve_left hn
  unfold okI at hi
  unfold ik at hc
  rcases X0p.1 hc with hc | hc
  ·exact mk_nz _ (by omega) c hc
  ·exact (wr_cells _ c hc).2.1
theorem pgh_nz (h : Y3) (hk : okH h) (c : Int) (hc : c ∈ pgh h) : c ≠ 0 := by
 have hi := hk.2.1
 unfold okL at hi
 unfold pgh pg at hc
 rcases X0p.1 hc with hc | hc
 ·exact (wr_cells _ c hc).2.1
 ·exact mk_nz _ (by omega) c hc
theorem hd_gap (h : Y3) (hk : okH h) : ∃ m, hd h = hl h.Ink h.Part ++ (0 :: (List.replicate m 0 ++ pgh h)) ∧ hd h = hl h.Ink h.Part ++ List.replicate m 0 ++ 0 :: pgh h := by
 have h1 := hl_len h.Ink h.Part
 have h2 := pgh_len h
 have h3 := hk.1
 refine ⟨h.Width.toNat - (hl h.Ink h.Part).length - (pgh h).length - 1, ?_, ?_⟩
 ·unfold hd
  rw [show h.Width.toNat - (hl h.Ink h.Part).length - (pgh h).length = (h.Width.toNat - (hl h.Ink h.Part).length - (pgh h).length - 1) + 1 from by omega, X13]
  rfl
 ·unfold hd
  conv => lhs; rw [show h.Width.toNat - (hl h.Ink h.Part).length - (pgh h).length = (h.Width.toNat - (hl h.Ink h.Part).length - (pgh h).length - 1) + 1 from by omega, List.replicate_succ']
  simp
theorem hd_lft (h : Y3) (hk : okH h) : lft (hd h) = hl h.Ink h.Part := by
 obtain ⟨m, e, _⟩ := hd_gap h hk
 rw [e]
 exact takeWhile_app _ _ _ (fun c hc => decide_eq_true (hl_nz h hk c hc)) (fun c r he => by rw [← (List.cons.inj he).1]; rfl)
theorem hd_rgt (h : Y3) (hk : okH h) : rgt (hd h) = pgh h := by
 obtain ⟨m, _, e⟩ := hd_gap h hk
 unfold rgt
 rw [e, List.reverse_append, List.reverse_cons, X03]
 rw [takeWhile_app _ _ _ (fun c hc => decide_eq_true (pgh_nz h hk c (List.mem_reverse.1 hc))) (fun c r he => by rw [← (List.cons.inj he).1]; rfl), List.reverse_reverse]
theorem nd_mk (k : Nat) : nd (mk k) := by
 intro c r e
 rcases mk_form k with h | ⟨s, h⟩
 ·rw [h] at e; simp at e
 ·rw [h] at e
  rw [← (List.cons.inj e).1]
  decide
theorem nd_nil : nd [] := fun c r e => by simp at e
theorem rdv_self (n : Nat) (hn : n ≤ 99999) : rdv (wr n) = ((n : Int), ((wr n).length : Int), 0) := by
 have := rdv_wr n hn [] nd_nil (by simp)
 rw [X0y] at this
 exact this
theorem hd_cL (h : Y3) (hk : okH h) : cL (hd h) = (h.Ink, h.Part) := by
 unfold cL
 rw [hd_lft h hk]
 unfold hl
 by_cases h0 : h.Ink = 0 ∧ h.Part = 0
 ·rw [if_pos h0, if_pos (by rfl), h0.1, h0.2]
 ·rw [if_neg h0]
  have hi : okI h.Ink h.Part := hk.2.2.resolve_left h0
  unfold okI at hi
  have hw := wr_len h.Ink.toNat
  unfold ik
  by_cases hp : h.Part = 0
  ·have e : mk h.Part.toNat = [] := by unfold mk; rw [if_pos (by omega)]
   rw [e, X18, if_neg (by omega), if_neg (by rw [wr_cons]; intro x; exact absurd x.2 (show ¬ (60 : Int) = 48 by decide)), rdv_self _ (by omega), hp]
   dsimp only
   rw [show ((h.Ink.toNat : Nat) : Int) = h.Ink from by omega]
  ·have e : mk h.Part.toNat = [48, Y7.getD (h.Part.toNat - 1) 0] := by unfold mk; rw [if_neg (by omega)]
   rw [e, if_neg (by simp), if_pos (by simp; omega)]
   have e2 : ([48, Y7.getD (h.Part.toNat - 1) 0] ++ wr h.Ink.toNat).drop 2 = wr h.Ink.toNat := rfl
   have e3 : ([48, Y7.getD (h.Part.toNat - 1) 0] ++ wr h.Ink.toNat).getD 1 0 = Y7.getD (h.Part.toNat - 1) 0 := rfl
   rw [e2, e3, rdv_self _ (by omega), lt_mk _ (by omega) (by omega)]
   dsimp only
   rw [show ((h.Ink.toNat : Nat) : Int) = h.Ink from by omega, show ((h.Part.toNat : Nat) : Int) = h.Part from by omega]
def pn (h : Y3) : Nat := if h.Back then 2 * h.Label.N.toNat else 2 * h.Label.N.toNat - 1
theorem hd_rdv (h : Y3) (hk : okH h) : rdv (rgt (hd h)) = ((pn h : Int), ((wr (pn h)).length : Int), 0) ∧ pgh h = wr (pn h) ++ mk h.Label.K.toNat := by
 rw [hd_rgt h hk]
 have hi := hk.2.1
 unfold okL at hi
 have e : pgh h = wr (pn h) ++ mk h.Label.K.toNat := rfl
 refine ⟨?_, e⟩
 rw [e]
 exact rdv_wr _ (by unfold pn; split <;> omega) _ (nd_mk _) (by unfold mk; split <;> simp)
theorem pn_back (h : Y3) (hk : okH h) : Int.tdiv ((pn h : Int) + 1) 2 = h.Label.N ∧ (Int.tmod (pn h : Int) 2 == 0) = h.Back ∧ pn h ≠ 0 := by
 have hi := hk.2.1
 unfold okL at hi
 rw [Xp (by omega), Xr (by omega)]
 unfold pn
 cases hb : h.Back
 ·simp only [Bool.false_eq_true, if_false]
  refine ⟨by omega, ?_, by omega⟩
  exact beq_eq_false_iff_ne.2 (by omega)
 ·simp only [if_true]
  refine ⟨by omega, ?_, by omega⟩
  exact beq_iff_eq.2 (by omega)
theorem hd_candN (h : Y3) (hk : okH h) : candN (hd h) = h := by
 unfold candN
 obtain ⟨e1, e2⟩ := hd_rdv h hk
 obtain ⟨p1, p2, p3⟩ := pn_back h hk
 have hi := hk.2.1
 unfold okL at hi
 have hw := hk.1
 dsimp only
 rw [e1, hd_cL h hk, hd_len h hk, hd_rgt h hk]
 dsimp only
 rw [p1, p2, X5, e2, List.drop_left' rfl]
 have ek : (if (mk h.Label.K.toNat).length = 2 then lt ((mk h.Label.K.toNat).getD 1 0) else 0) = h.Label.K := by
  by_cases hk0 : h.Label.K = 0
  ·have e : mk h.Label.K.toNat = [] := by unfold mk; rw [if_pos (by omega)]
   rw [e, if_neg (by simp), hk0]
  ·have e : mk h.Label.K.toNat = [48, Y7.getD (h.Label.K.toNat - 1) 0] := by unfold mk; rw [if_neg (by omega)]
   rw [e, if_pos (by rfl)]
   have := lt_mk h.Label.K.toNat (by omega) (by omega)
   refine Eq.trans this ?_
   omega
 rw [ek, show ((h.Width.toNat : Nat) : Int) = h.Width from by omega]
theorem hd_candR (h : Y3) (hk : okH h) : candR (hd h) = h := by
 unfold candR
 obtain ⟨e1, e2⟩ := hd_rdv h hk
 obtain ⟨p1, p2, p3⟩ := pn_back h hk
 have hi := hk.2.1
 unfold okL at hi
 have hw := hk.1
 dsimp only
 rw [e1, hd_cL h hk, hd_len h hk, hd_rgt h hk]
 dsimp only
 rw [p1, p2, e2]
 have ek : (if ((wr (pn h)).length : Int) < ((wr (pn h) ++ mk h.Label.K.toNat).length : Int) then kR ((wr (pn h) ++ mk h.Label.K.toNat).getD ((wr (pn h) ++ mk h.Label.K.toNat).length - 1) 0) else 0) = h.Label.K := by
  by_cases hk0 : h.Label.K = 0
  ·have e : mk h.Label.K.toNat = [] := by unfold mk; rw [if_pos (by omega)]
   rw [e, X0y, if_neg (by omega), hk0]
  ·have e : mk h.Label.K.toNat = [48, Y7.getD (h.Label.K.toNat - 1) 0] := by unfold mk; rw [if_neg (by omega)]
   rw [e, Xu, if_pos (by simp only [Xw, X1j]; omega)]
   rw [Xc, X09 (by simp)]
   rw [show (wr (pn h)).length + [48, Y7.getD (h.Label.K.toNat - 1) 0].length - 1 - (wr (pn h)).length = 1 from by simp only [Xw, X1j]; omega]
   have h12 : h.Label.K = 1 ∨ h.Label.K = 2 := by omega
   rcases h12 with h12 | h12 <;> rw [h12] <;> rfl
 rw [ek, show ((h.Width.toNat : Nat) : Int) = h.Width from by omega]
def HS (f : List Int → Option (Y3 × Int)) : Prop := ∀ l, l.length < 900000 → (∃ h, okH h ∧ hd h = l ∧ f l = some (h, 0)) ∨ (f l = some (zeroH, 190) ∧ ∀ h, okH h → hd h ≠ l)
theorem answer_cases (l : List Int) (h' : Y3) (hb : ∀ h, okH h → hd h = l → h' = h) : (∃ h, okH h ∧ hd h = l ∧ answer l h' = (h, 0)) ∨ (answer l h' = (zeroH, 190) ∧ ∀ h, okH h → hd h ≠ l) := by
 unfold answer
 by_cases hc : okH h' ∧ hd h' = l
 ·rw [if_pos hc]; exact .inl ⟨h', hc.1, hc.2, rfl⟩
 ·rw [if_neg hc]
  exact .inr ⟨rfl, fun h hk e => hc (by rw [hb h hk e]; exact ⟨hk, e⟩)⟩
theorem n_hs : HS Y07 := by
 intro l hl
 rw [n_readHeader l hl]
 by_cases h : (lft l).length < l.length
 ·rw [if_pos h]
  rcases answer_cases l (candN l) (fun h hk e => by rw [← e, hd_candN h hk]) with ⟨h, a, b, c⟩ | ⟨a, b⟩
  ·rw [c]; exact .inl ⟨h, a, b, rfl⟩
  ·rw [a]; exact .inr ⟨rfl, b⟩
 ·rw [if_neg h]
  refine .inr ⟨rfl, fun h' hk e => h ?_⟩
  subst e
  rw [hd_lft h' hk, hd_len h' hk]
  have := hl_len h'.Ink h'.Part
  have := hk.1
  omega
theorem r_hs : HS Y16 := by
 intro l hl
 rw [r_readHeader l hl]
 by_cases h : (rdv (rgt l)).2.2 = 0 ∧ (rdv (rgt l)).1 ≠ 0
 ·rw [if_pos h]
  rcases answer_cases l (candR l) (fun h hk e => by rw [← e, hd_candR h hk]) with ⟨h, a, b, c⟩ | ⟨a, b⟩
  ·rw [c]; exact .inl ⟨h, a, b, rfl⟩
  ·rw [a]; exact .inr ⟨rfl, b⟩
 ·rw [if_neg h]
  refine .inr ⟨rfl, fun h' hk e => h ?_⟩
  subst e
  rw [(hd_rdv h' hk).1]
  have := (pn_back h' hk).2.2
  exact ⟨rfl, by dsimp only; omega⟩
theorem hd_inj (h h' : Y3) (hk : okH h) (hk' : okH h') (e : hd h = hd h') : h = h' := by
 rw [← hd_candN h hk, e, hd_candN h' hk']
theorem hs_eq (l : List Int) (hl : l.length < 900000) : ∃ x, Y07 l = some x ∧ Y16 l = some x := by
 rcases n_hs l hl with ⟨h, a, b, c⟩ | ⟨a, b⟩
 ·rcases r_hs l hl with ⟨h', a', b', c'⟩ | ⟨a', b'⟩
  ·have := hd_inj h h' a a' (b.trans b'.symm)
   subst this
   exact ⟨_, c, c'⟩
  ·exact absurd b (b' h a)
 ·rcases r_hs l hl with ⟨h', a', b', c'⟩ | ⟨a', b'⟩
  ·exact absurd b' (b h' a')
  ·exact ⟨_, a, a'⟩
theorem made_ok (t0 : S_Raw') (h : okS_Raw' t0) : ∃ x, f_R19_Made t0 = some x ∧ okH x := by
 obtain ⟨W, n, k, ink, part, a1, a2, a3, a4, a5, a6, a7, a8, e⟩ := f_made t0 h
 refine ⟨_, e, ⟨by dsimp only; omega, ?_, ?_⟩⟩
 ·unfold okL; dsimp only; omega
 ·unfold okI; dsimp only
  by_cases h0 : ink = 0
  ·left; have := a8 h0; omega
  ·right; omega
end Go.Proofs.YtbcfmhoaocifoaaDoor
