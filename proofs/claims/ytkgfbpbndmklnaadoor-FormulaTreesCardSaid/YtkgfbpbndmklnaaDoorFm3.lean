/- Own work. -/
import Derived.Test.YtkgfbpbndmklnaaDoorFm2
set_option linter.unusedSimpArgs false
set_option linter.unusedVariables false
namespace Go.Proofs.YtkgfbpbndmklnaaDoor
open Go.Abs
def OkM (s : Y4) : Prop := (∀ i : Nat, 0 ≤ s.B.getD i 0 ∧ s.B.getD i 0 ≤ 255) ∧ s.B.length ≤ 40 ∧ 0 ≤ s.At ∧ s.At ≤ s.B.length
theorem take_ok {s : Y4} (h : OkM s) : ∃ (v : Int) (s' : Y4), Y01 s = some (v, s') ∧ 0 ≤ v ∧ v ≤ 255 ∧ OkM s' := by
  obtain ⟨h1, h2, h3, h4⟩ := h
  unfold Y01
  by_cases hc : (s.B.length : Int) ≤ s.At
  · exact ⟨0, s, by rw [Y3c hc], by omega, by omega, h1, h2, h3, h4⟩
  · have hb := h1 ((s.At + 1) - 1).toNat
    refine ⟨_, ⟨s.B, s.At + 1⟩, by rw [Y28 hc, Y32 (by omega), Y32 (by omega), Y2y (by omega), wrap_i64 (by omega)], hb.1, hb.2, h1, h2, by simp only; omega, by simp only; omega⟩
theorem number_ok {s : Y4} (h : OkM s) : ∃ (n : Y2) (s' : Y4), Y0t s = some ([n], s') ∧ n.Op = 0 ∧ 0 ≤ n.N ∧ n.N ≤ 99999 ∧ OkM s' := by
  obtain ⟨v, s1, e1, v0, v1, h1⟩ := take_ok h
  obtain ⟨w, s2, e2, w0, w1, h2⟩ := take_ok h1
  have hm : 0 ≤ w % 3 ∧ w % 3 ≤ 2 := by omega
  have hp : 0 ≤ v * (1 + w % 3) ∧ v * (1 + w % 3) ≤ 255 * 3 := ⟨Int.mul_nonneg v0 (by omega), Int.mul_le_mul v1 (by omega) (by omega) (by omega)⟩
  refine ⟨⟨0, v * (1 + w % 3)⟩, s2, ?_, rfl, hp.1, by simp only; omega, h2⟩
  unfold Y0t
  rw [e1, X8, e2, X8]
  simp only [tmod_n w0]
  rw [Y32 (by omega), Y32 (by omega)]
def jnB (l : List (List Y2)) : (List Y2 × Int → Option (List Y2)) → List Y2 × Int → Option (List Y2) := fun loop s => Y20 l loop s.1 s.2
theorem flat_len {L : Nat} : ∀ (ks : List (List Y2)), (∀ k ∈ ks, k.length ≤ L) → ks.flatten.length ≤ ks.length * L
  | [], _ => by simp
  | k :: ks, h => by
    have := flat_len ks (fun x hx => h x (by simp [hx]))
    have h0 := h k (by simp)
    simp only [X01, Xa, Xx, X0d]
    omega
theorem joined_ok {n : Y2} {ks : List (List Y2)} (h1 : ks.length ≤ 16) (h2 : ∀ k ∈ ks, k.length ≤ 100000) : Y10 n ks = some (n :: ks.flatten) := by
  have run : ∀ (ls done : List (List Y2)) (m : Nat), ks = done ++ ls → iter (jnB ks) (m + 1 + ls.length) (n :: done.flatten, (done.length : Int)) = some (n :: ks.flatten) := by
    intro ls
    induction ls with
    | nil =>
      intro done m he
      have hd : done = ks := by simpa using he.symm
      subst hd
      rw [show m + 1 + ([] : List (List Y2)).length = m + 1 by simp, Y05]
      unfold jnB Y20
      rw [Y28 (by omega)]
    | cons k ls ih =>
      intro done m he
      rw [show m + 1 + (k :: ls).length = (m + 1 + ls.length) + 1 by simp; omega, Y05]
      have hkl : ks.length = done.length + (ls.length + 1) := by rw [he]; simp
      have hg : ks.getD done.length [] = k := by rw [he]; simp [List.getD]
      have hk := h2 k (by rw [he]; simp)
      have hfl := flat_len done (L := 100000) (fun x hx => h2 x (by rw [he]; simp [hx]))
      have hfl2 : done.flatten.length ≤ 1600000 := X0a hfl (by have : done.length ≤ 16 := (by omega); omega)
      have e : jnB ks (iter (jnB ks) (m + 1 + ls.length)) (n :: done.flatten, (done.length : Int)) = iter (jnB ks) (m + 1 + ls.length) ((n :: done.flatten) ++ k, (done.length : Int) + 1) := by
        show Y20 _ _ _ _ = _
        unfold Y20
        rw [Y3c (by omega), Y2y (by omega), Xt, hg, G_room (by simp only [Xx]; omega), Y32 (by omega)]
      rw [e]
      have e2 := ih (done ++ [k]) m (by rw [he]; simp)
      rw [← e2]
      congr 2
      · simp
      · simp
  unfold Y10
  have e := run ks [] (999999 - ks.length) rfl
  rw [show 999999 - ks.length + 1 + ks.length = 1000000 by omega] at e
  exact e
def Pt (m : Nat) (least : Int) (t : List Y2) : Prop := IsT m t ∧ least ≤ pr (hd t).Op ∧ 3 * t.length + 1 ≤ 4 ^ m
theorem four_pos (m : Nat) : 1 ≤ 4 ^ m := Nat.one_le_two_pow (n := 2 * m) |> fun h => by rwa [Nat.pow_mul] at h
theorem four_le {m : Nat} (h : m ≤ 5) : 4 ^ m ≤ 1024 := X0a (Nat.pow_le_pow_right (by omega) h) (by decide)
theorem mkT {n : Y2} {ks : List (List Y2)} {m : Nat} (hm : m ≤ 5) (ha : ar n = some ks.length) (h4 : ks.length ≤ 4) (hks : ∀ k ∈ ks, IsT m k ∧ 3 * k.length + 1 ≤ 4 ^ m)
    (had : ∀ (i : Nat) (k : List Y2), ks[i]? = some k → adm n i (hd k) = true) : Y10 n ks = some (n :: ks.flatten) ∧ IsT (m + 1) (n :: ks.flatten) ∧ 3 * (n :: ks.flatten).length + 1 ≤ 4 ^ (m + 1) := by
  have p1 := four_pos m
  have p2 := four_le hm
  refine ⟨joined_ok (by omega) (fun k hk => ?_), ⟨n, ks, rfl, ha, fun k hk => (hks k hk).1, had⟩, ?_⟩
  · have := (hks k hk).2; omega
  · have hf := flat_len ks (L := (4 ^ m - 1) / 3) (fun k hk => by have := (hks k hk).2; omega)
    rw [Nat.pow_succ, Xx]
    have : ks.length * ((4 ^ m - 1) / 3) ≤ 4 * ((4 ^ m - 1) / 3) := X0e _ h4
    omega
theorem Pt.up {m : Nat} {t : List Y2} {l : Int} (h : Pt m l t) : IsT m t ∧ 3 * t.length + 1 ≤ 4 ^ m := ⟨h.1, h.2.2⟩
theorem leafT {n : Y2} (ha : ar n = some 0) (hp : pr n.Op = 4) {m : Nat} (hm : 1 ≤ m) {least : Int} (hl : least ≤ 4) : Pt m least [n] := by
  refine ⟨IsT.le (d := 1) ⟨n, [], rfl, ha, fun k hk => by simp at hk, fun i k hk => by simp at hk⟩ hm, ?_, ?_⟩
  · show least ≤ pr n.Op; omega
  · have : 4 ^ 1 ≤ 4 ^ m := Nat.pow_le_pow_right (by omega) hm
    simp only [Xx, X0m]
    omega
def TOk (T : Y4 → Int → Int → Option (List Y2 × Y4)) (m : Nat) : Prop := ∀ (s : Y4) (least : Int), OkM s → 1 ≤ least → least ≤ 4 → ∃ t s', T s (m : Int) least = some (t, s') ∧ Pt m least t ∧ OkM s'
def SOk (S : Y4 → Int → Int → Option (List (List Y2) × Y4)) (m : Nat) : Prop := ∀ (s : Y4) (c : Nat), c ≤ 4 → OkM s → ∃ ks s', S s (c : Int) (m : Int) = some (ks, s') ∧ ks.length = c ∧ (∀ k ∈ ks, Pt m 1 k) ∧ OkM s'
def numB (x1 x36 : Int × Y4) : (Y4 × List (List Y2) × Int → Option (List Y2 × Y4)) → Y4 × List (List Y2) × Int → Option (List Y2 × Y4) := fun loop s => Yu x1 x36 loop s.1 s.2.1 s.2.2
theorem num_run (x1 x36 : Int × Y4) (c : Nat) (hc : (2 : Int) + Int.tmod x36.1 2 = (c : Int)) (hc3 : c ≤ 3) : ∀ (j m : Nat) (s : Y4) (ks : List (List Y2)), ks.length + j = c + 1 → OkM s → (∀ k ∈ ks, ∃ n : Y2, k = [n] ∧ n.Op = 0 ∧ 0 ≤ n.N ∧ n.N ≤ 99999) →
    ∃ (ks' : List (List Y2)) (s' : Y4), iter (numB x1 x36) (m + 1 + j) (s, ks, (ks.length : Int)) = (Y10 ⟨Int.tmod x1.1 14, (c : Int)⟩ ks').bind (fun x46 => some (x46, s')) ∧ ks'.length = c + 1 ∧ OkM s' ∧ (∀ k ∈ ks', ∃ n : Y2, k = [n] ∧ n.Op = 0 ∧ 0 ≤ n.N ∧ n.N ≤ 99999)
  | 0, m, s, ks, hl, hs, hk => by
    refine ⟨ks, s, ?_, by omega, hs, hk⟩
    rw [X05, Y05]
    show Yu x1 x36 _ s ks (ks.length : Int) = _
    unfold Yu
    rw [hc, Y28 (by omega)]
    rfl
  | j + 1, m, s, ks, hl, hs, hk => by
    obtain ⟨n, s1, e1, n0, n1, n2, h1⟩ := number_ok hs
    obtain ⟨ks', s', r1, r2⟩ := num_run x1 x36 c hc hc3 j m s1 (ks ++ [[n]]) (by simp; omega) h1 (fun k hk' => by
      rcases Xz.1 hk' with h | h
      · exact hk k h
      · exact ⟨n, by simpa using h, n0, n1, n2⟩)
    refine ⟨ks', s', ?_, r2⟩
    rw [← r1, show m + 1 + (j + 1) = (m + 1 + j) + 1 by omega, Y05]
    show Yu x1 x36 _ s ks (ks.length : Int) = _
    unfold Yu
    rw [hc, Y3c (by omega), e1, X8, G_room (by omega), Y32 (by omega)]
    rw [show ((ks ++ [[n]]).length : Int) = (ks.length : Int) + 1 by simp]
theorem two_ok {S : Y4 → Int → Int → Option (List (List Y2) × Y4)} {m : Nat} (hm : 1 ≤ m) (h5 : m ≤ 4) (hS : SOk S m) {s : Y4} (hs : OkM s) {n : Y2} {c : Nat} (hc : c ≤ 4) (ha : ar n = some c) (hp : pr n.Op = 4) (hb : ¬ (2 ≤ n.Op ∧ n.Op ≤ 5)) (hb2 : n.Op ≠ 12) {least : Int} (hl : least ≤ 4) :
    ∃ t s', ((S s (c : Int) (m : Int)).bind fun x33 => (Y10 n x33.1).bind fun x34 => some (x34, x33.2)) = some (t, s') ∧ Pt (m + 1) least t ∧ OkM s' := by
  obtain ⟨ks, s', e, k1, k2, k3⟩ := hS s c hc hs
  obtain ⟨j1, j2, j3⟩ := mkT (n := n) (ks := ks) (m := m) (by omega) (by rw [k1]; exact ha) (by omega) (fun k hk => (k2 k hk).up) (fun i k _ => by
    unfold adm
    rw [if_neg hb, if_neg hb2])
  refine ⟨_, s', by rw [e, X8]; simp only; rw [j1, X8], ⟨j2, ?_, j3⟩, k3⟩
  show least ≤ pr n.Op
  omega
theorem k2_ok {S : Y4 → Int → Int → Option (List (List Y2) × Y4)} {m : Nat} (hm : 1 ≤ m) (h5 : m ≤ 4) (hS : SOk S m) {s : Y4} (hs : OkM s) (x1 : Int × Y4) {kd : Int} (hk : Int.tmod x1.1 14 = kd) (h9 : 9 ≤ kd) (h13 : kd ≤ 13) {least : Int} (hl : least ≤ 4) :
    ∃ t s', Y08 S ((m + 1 : Nat) : Int) x1 s (decide (kd ≤ 11)) = some (t, s') ∧ Pt (m + 1) least t ∧ OkM s' := by
  unfold Y08 Yi
  rw [hk]
  have hm1 : ((m + 1 : Nat) : Int) - 1 = (m : Int) := by omega
  by_cases h11 : kd ≤ 11
  · rw [Y3c h11, Y32 (by omega), hm1]
    have := two_ok hm h5 hS hs (n := ⟨kd, 0⟩) (c := 1) (by omega) (by
      unfold ar; simp only
      rw [if_neg (by omega), if_neg (by omega), if_neg (by omega), if_pos (by omega)]; rfl) (by
      unfold pr; simp only
      rw [if_neg (by omega), if_neg (by omega), if_neg (by omega)]) (by simp only; omega) (by simp only; omega) hl
    exact this
  · rw [Y28 h11]
    by_cases h12 : kd = 12
    · rw [cb_pos h12]
      obtain ⟨v, s1, e1, v0, v1, h1⟩ := take_ok hs
      rw [e1, X8]
      have hv : Int.tmod v 2 = v % 2 := tmod_n v0 2
      obtain ⟨c, hc⟩ : ∃ c : Nat, (2 : Int) + v % 2 = (c : Int) := ⟨(2 + v % 2).toNat, by omega⟩
      rw [Y32 (by simp only [hv]; omega)]
      obtain ⟨ks, s', r1, r2, r3, r4⟩ := num_run x1 (v, s1) c (by simp only [hv]; exact hc) (by omega) (c + 1) (999999 - (c + 1)) s1 [] (by simp) h1 (by simp)
      rw [show 999999 - (c + 1) + 1 + (c + 1) = 1000000 by omega, hk] at r1
      obtain ⟨j1, j2, j3⟩ := mkT (n := ⟨kd, (c : Int)⟩) (ks := ks) (m := m) (by omega) (by
        unfold ar; simp only
        rw [if_neg (by omega), if_neg (by omega), if_neg (by omega), if_neg (by omega), if_pos h12, if_pos (by omega), r2]
        simp) (by omega) (fun k hk' => by
          obtain ⟨n, rfl, n0, n1, n2⟩ := r4 k hk'
          have := leafT (n := n) (by unfold ar; rw [if_pos n0, if_pos ⟨n1, n2⟩]) (by rw [n0]; rfl) hm (least := 1) (by omega)
          exact this.up) (fun i k hk' => by
          obtain ⟨n, rfl, n0, n1, n2⟩ := r4 k (X0f hk')
          unfold adm
          simp only
          rw [if_neg (by omega), if_pos h12]
          exact decide_eq_true n0)
      rw [j1] at r1
      refine ⟨_, s', r1, ⟨j2, ?_, j3⟩, r3⟩
      show least ≤ pr kd
      rw [h12]
      exact hl
    · rw [cb_neg h12]
      have h13' : kd = 13 := by omega
      obtain ⟨v, s1, e1, v0, v1, h1⟩ := take_ok hs
      obtain ⟨w, s2, e2, w0, w1, h2⟩ := take_ok h1
      rw [e1, X8]
      have hv : Int.tmod v 2 = v % 2 := tmod_n v0 2
      have hw : Int.tmod w 2 = w % 2 := tmod_n w0 2
      simp only [hv]
      rw [Y32 (by omega), e2, X8]
      simp only [hw]
      rw [Y32 (by omega), Y32 (by omega), Y32 (by omega)]
      have cs : ∃ (a b : Int) (c : Nat), 1 + v % 2 = a ∧ 1 + w % 2 = b ∧ a * b = (c : Int) ∧ c ≤ 4 ∧ ar ⟨kd, 8 * a + b⟩ = some c := by
        have ha : v % 2 = 0 ∨ v % 2 = 1 := by omega
        have hb : w % 2 = 0 ∨ w % 2 = 1 := by omega
        subst h13'
        rcases ha with ha | ha <;> rcases hb with hb | hb <;> rw [ha, hb]
        · exact ⟨1, 1, 1, rfl, rfl, rfl, by omega, rfl⟩
        · exact ⟨1, 2, 2, rfl, rfl, rfl, by omega, rfl⟩
        · exact ⟨2, 1, 2, rfl, rfl, rfl, by omega, rfl⟩
        · exact ⟨2, 2, 4, rfl, rfl, rfl, by omega, rfl⟩
      obtain ⟨a, b, c, ea, eb, ec, hc, har⟩ := cs
      rw [ea, eb, ec, Y32 (by omega), Y32 (by omega), hm1]
      exact two_ok hm h5 hS h2 (n := ⟨kd, 8 * a + b⟩) hc har (by rw [h13']; rfl) (by simp only; omega) (by simp only; omega) hl
theorem k3_ok {S : Y4 → Int → Int → Option (List (List Y2) × Y4)} {m : Nat} (hm : 1 ≤ m) (h5 : m ≤ 4) (hS : SOk S m) {s : Y4} (hs : OkM s) (x1 : Int × Y4) {kd : Int} (hk : Int.tmod x1.1 14 = kd) (h9 : 6 ≤ kd) (h13 : kd ≤ 13) {least : Int} (hl : least ≤ 4) :
    ∃ t s', Y07 S ((m + 1 : Nat) : Int) x1 s (decide (kd ≤ 8)) = some (t, s') ∧ Pt (m + 1) least t ∧ OkM s' := by
  unfold Y07
  rw [hk]
  have hm1 : ((m + 1 : Nat) : Int) - 1 = (m : Int) := by omega
  by_cases h8 : kd ≤ 8
  · rw [Y3c h8, Y32 (by omega), hm1]
    have := two_ok hm h5 hS hs (n := ⟨kd, 0⟩) (c := 2) (by omega) (by
      unfold ar; simp only
      rw [if_neg (by omega), if_neg (by omega), if_pos (by omega)]; rfl) (by
      unfold pr; simp only
      rw [if_neg (by omega), if_neg (by omega), if_neg (by omega)]) (by simp only; omega) (by simp only; omega) hl
    exact this
  · rw [Y28 h8]
    have := k2_ok hm h5 hS hs x1 hk (by omega) h13 hl
    by_cases h9' : kd = 9
    · rw [cb_pos h9', beq_iff_eq.2 h9']
      rwa [decide_eq_true (by omega : kd ≤ 11)] at this
    · rw [cb_neg h9']
      by_cases h10 : kd = 10
      · rw [cb_pos h10, beq_iff_eq.2 h10]
        rwa [decide_eq_true (by omega : kd ≤ 11)] at this
      · rw [cb_neg h10]
        rwa [show (kd == 11) = decide (kd ≤ 11) by
          by_cases h : kd = 11
          · rw [beq_iff_eq.2 h, decide_eq_true (by omega)]
          · rw [beq_eq_false_iff_ne.2 h, decide_eq_false (by omega)]]
theorem k4_ok {T : Y4 → Int → Int → Option (List Y2 × Y4)} {S : Y4 → Int → Int → Option (List (List Y2) × Y4)} {m : Nat} (hm : 1 ≤ m) (h5 : m ≤ 4) (hT : 2 ≤ m → TOk T (m - 1)) (hS : SOk S m) {s : Y4} (hs : OkM s) (x1 : Int × Y4) {kd : Int} (hk : Int.tmod x1.1 14 = kd) (h9 : 2 ≤ kd) (h13 : kd ≤ 13) (h2m : kd ≤ 5 → 2 ≤ m) {least : Int} (hl0 : 1 ≤ least) (hl : least ≤ 4) :
    ∃ t s', Yt T S ((m + 1 : Nat) : Int) least x1 s (decide (kd ≤ 5)) = some (t, s') ∧ Pt (m + 1) least t ∧ OkM s' := by
  unfold Yt Yi
  rw [hk]
  by_cases h8 : kd ≤ 5
  · have hm2 := h2m h8
    have hm1 : ((m + 1 : Nat) : Int) - 2 = ((m - 1 : Nat) : Int) := by omega
    have hp : 1 ≤ pr kd ∧ pr kd ≤ 3 := by
      unfold pr
      split
      · omega
      · split
        · omega
        · rw [if_pos (by omega)]; omega
    rw [Y3c h8, R09_prec, X8, Y32 (by omega), hm1]
    obtain ⟨a, s1, e1, a1, h1⟩ := hT hm2 s (pr kd) hs hp.1 (by omega)
    rw [e1, X8, Y32 (by omega)]
    obtain ⟨b, s2, e2, b1, h2⟩ := hT hm2 s1 (pr kd + 1) h1 (by omega) (by omega)
    simp only
    rw [e2, X8]
    obtain ⟨m', rfl⟩ : ∃ m', m = m' + 1 := ⟨m - 1, by omega⟩
    rw [Nat.add_sub_cancel] at a1 b1
    obtain ⟨j1, j2, j3⟩ := mkT (n := ⟨kd, 0⟩) (ks := [a, b]) (m := m') (by omega) (by
      unfold ar; simp only
      rw [if_neg (by omega), if_neg (by omega), if_pos (by omega)]; rfl) (by simp) (fun k hk' => by
        simp only [X5, X4, or_false] at hk'
        rcases hk' with rfl | rfl
        · exact a1.up
        · exact b1.up) (fun i k hk' => by
        unfold adm
        simp only
        rw [if_pos (by omega)]
        match i, hk' with
        | 0, hk' =>
          obtain rfl : a = k := by simpa using hk'
          rw [if_pos rfl]
          exact decide_eq_true a1.2.1
        | 1, hk' =>
          obtain rfl : b = k := by simpa using hk'
          rw [if_neg (by omega)]
          exact decide_eq_true (by have := b1.2.1; omega))
    simp only
    rw [j1, X8]
    by_cases hlt : pr kd < least
    · rw [Y3c hlt]
      obtain ⟨q1, q2, q3⟩ := mkT (n := ⟨10, 0⟩) (ks := [(⟨kd, 0⟩ : Y2) :: [a, b].flatten]) (m := m' + 1) (by omega) rfl (by simp) (fun k hk' => by
        simp only [X5, X4, or_false] at hk'
        subst hk'
        exact ⟨j2, j3⟩) (fun i k hk' => rfl)
      rw [q1, X8]
      exact ⟨_, _, rfl, ⟨q2, hl, q3⟩, h2⟩
    · rw [Y28 hlt]
      refine ⟨_, _, rfl, ⟨j2.mono, ?_, ?_⟩, h2⟩
      · show least ≤ pr kd; omega
      · have : 4 ^ (m' + 1) ≤ 4 ^ (m' + 1 + 1) := Nat.pow_le_pow_right (by omega) (by omega)
        omega
  · rw [Y28 h8]
    have := k3_ok hm h5 hS hs x1 hk (by omega) h13 hl
    by_cases h6 : kd = 6
    · rw [cb_pos h6, beq_iff_eq.2 h6]
      rwa [decide_eq_true (by omega : kd ≤ 8)] at this
    · rw [cb_neg h6]
      by_cases h7 : kd = 7
      · rw [cb_pos h7, beq_iff_eq.2 h7]
        rwa [decide_eq_true (by omega : kd ≤ 8)] at this
      · rw [cb_neg h7]
        rwa [show (kd == 8) = decide (kd ≤ 8) by
          by_cases h : kd = 8
          · rw [beq_iff_eq.2 h, decide_eq_true (by omega)]
          · rw [beq_eq_false_iff_ne.2 h, decide_eq_false (by omega)]]
theorem tree_body_ok {T : Y4 → Int → Int → Option (List Y2 × Y4)} {S : Y4 → Int → Int → Option (List (List Y2) × Y4)} {m : Nat} (h5 : m ≤ 4) (hT : 2 ≤ m → TOk T (m - 1)) (hS : 1 ≤ m → SOk S m) {s : Y4} (hs : OkM s) {least : Int} (hl0 : 1 ≤ least) (hl : least ≤ 4) :
    ∃ t s', Y1m T S s ((m + 1 : Nat) : Int) least = some (t, s') ∧ Pt (m + 1) least t ∧ OkM s' := by
  unfold Y1m
  obtain ⟨v, s1, e1, v0, v1, h1⟩ := take_ok hs
  rw [e1, X8]
  obtain ⟨kd, hk⟩ : ∃ kd, Int.tmod v 14 = kd := ⟨_, rfl⟩
  have hkd : 0 ≤ kd ∧ kd ≤ 13 := by rw [← hk, tmod_n v0]; omega
  have hk' : Int.tmod (v, s1).1 14 = kd := hk
  simp only [hk]
  have nl : ∃ t s', ((Y0t s1).bind fun x9 => some (x9.1, x9.2)) = some (t, s') ∧ Pt (m + 1) least t ∧ OkM s' := by
    obtain ⟨n, s2, e2, n0, n1, n2, h2⟩ := number_ok h1
    refine ⟨[n], s2, by rw [e2, X8], leafT (by unfold ar; rw [if_pos n0, if_pos ⟨n1, n2⟩]) (by rw [n0]; rfl) (by omega) hl, h2⟩
  have vl : ∃ t s', ((Y01 s1).bind fun x4 => some ([(⟨(1 : Int), Int.tmod x4.1 (26 : Int)⟩ : Y2)], x4.2)) = some (t, s') ∧ Pt (m + 1) least t ∧ OkM s' := by
    obtain ⟨w, s2, e2, w0, w1, h2⟩ := take_ok h1
    refine ⟨[⟨1, w % 26⟩], s2, by rw [e2, X8]; simp only [tmod_n w0], leafT (by unfold ar; rw [if_neg (show ¬ (1 : Int) = 0 by omega), if_pos rfl, if_pos (show 0 ≤ w % 26 ∧ w % 26 ≤ 25 by omega)]) rfl (by omega) hl, h2⟩
  have hcond : (bif decide (((m + 1 : Nat) : Int) < 2) then true else bif bif decide (((m + 1 : Nat) : Int) < 3) then decide (kd < 6) else false then decide (1 < kd) else false) = decide (m = 0 ∨ (m = 1 ∧ kd < 6 ∧ 1 < kd)) := by
    by_cases h0 : m = 0
    · rw [decide_eq_true (by omega : ((m + 1 : Nat) : Int) < 2), decide_eq_true (Or.inl h0)]; rfl
    · rw [decide_eq_false (by omega : ¬ ((m + 1 : Nat) : Int) < 2)]
      by_cases h1 : m = 1
      · rw [decide_eq_true (by omega : ((m + 1 : Nat) : Int) < 3)]
        by_cases h6 : kd < 6
        · by_cases h1k : 1 < kd
          · rw [decide_eq_true h6, decide_eq_true h1k, decide_eq_true (Or.inr ⟨h1, h6, h1k⟩)]; rfl
          · rw [decide_eq_true h6, decide_eq_false h1k, decide_eq_false (by omega)]; rfl
        · rw [decide_eq_false h6, decide_eq_false (by omega : ¬ (m = 0 ∨ (m = 1 ∧ kd < 6 ∧ 1 < kd)))]; rfl
      · rw [decide_eq_false (by omega : ¬ ((m + 1 : Nat) : Int) < 3), decide_eq_false (by omega : ¬ (m = 0 ∨ (m = 1 ∧ kd < 6 ∧ 1 < kd)))]; rfl
  rw [hcond]
  by_cases hc : m = 0 ∨ (m = 1 ∧ kd < 6 ∧ 1 < kd)
  · rw [Y3c hc]
    by_cases hp : Int.tmod kd 2 = 1
    · rw [cb_pos hp]; exact vl
    · rw [cb_neg hp]; exact nl
  · rw [Y28 hc]
    by_cases h0 : kd = 0
    · rw [cb_pos h0]; exact nl
    rw [cb_neg h0]
    by_cases h1' : kd = 1
    · rw [cb_pos h1']; exact vl
    rw [cb_neg h1']
    have hm : 1 ≤ m := by omega
    have := k4_ok hm h5 hT (hS hm) h1 (v, s1) hk' (by omega) hkd.2 (by omega) hl0 hl
    by_cases h2 : kd = 2
    · rw [cb_pos h2, beq_iff_eq.2 h2]
      rwa [decide_eq_true (by omega : kd ≤ 5)] at this
    · rw [cb_neg h2]
      by_cases h3 : kd = 3
      · rw [cb_pos h3, beq_iff_eq.2 h3]
        rwa [decide_eq_true (by omega : kd ≤ 5)] at this
      · rw [cb_neg h3]
        by_cases h4 : kd = 4
        · rw [cb_pos h4, beq_iff_eq.2 h4]
          rwa [decide_eq_true (by omega : kd ≤ 5)] at this
        · rw [cb_neg h4]
          rwa [show (kd == 5) = decide (kd ≤ 5) by
            by_cases h : kd = 5
            · rw [beq_iff_eq.2 h, decide_eq_true (by omega)]
            · rw [beq_eq_false_iff_ne.2 h, decide_eq_false (by omega)]]
def smB (T : Y4 → Int → Int → Option (List Y2 × Y4)) (c m : Int) : (Y4 × List (List Y2) × Int → Option (List (List Y2) × Y4)) → Y4 × List (List Y2) × Int → Option (List (List Y2) × Y4) := fun loop s => Yv T c m loop s.1 s.2.1 s.2.2
theorem some_body_ok {T : Y4 → Int → Int → Option (List Y2 × Y4)} {m : Nat} (hT : TOk T m) (R : Y4 → Int → Int → Option (List (List Y2) × Y4)) {s : Y4} (hs : OkM s) {c : Nat} (hc : c ≤ 4) :
    ∃ ks s', Y27 T R s (c : Int) (m : Int) = some (ks, s') ∧ ks.length = c ∧ (∀ k ∈ ks, Pt m 1 k) ∧ OkM s' := by
  have run : ∀ (j q : Nat) (s : Y4) (ks : List (List Y2)), ks.length + j = c → OkM s → (∀ k ∈ ks, Pt m 1 k) → ∃ ks' s', iter (smB T (c : Int) (m : Int)) (q + 1 + j) (s, ks, (ks.length : Int)) = some (ks', s') ∧ ks'.length = c ∧ (∀ k ∈ ks', Pt m 1 k) ∧ OkM s' := by
    intro j
    induction j with
    | zero =>
      intro q s ks hl hs hk
      refine ⟨ks, s, ?_, by omega, hk, hs⟩
      rw [X05, Y05]
      show Yv T (c : Int) (m : Int) _ s ks (ks.length : Int) = _
      unfold Yv
      rw [Y28 (by omega)]
    | succ j ih =>
      intro q s ks hl hs hk
      obtain ⟨t, s1, e1, t1, h1⟩ := hT s 1 hs (by omega) (by omega)
      obtain ⟨ks', s', r⟩ := ih q s1 (ks ++ [t]) (by simp; omega) h1 (fun k hk' => by
        rcases Xz.1 hk' with h | h
        · exact hk k h
        · have : k = t := by simpa using h
          rw [this]; exact t1)
      refine ⟨ks', s', ?_, r.2⟩
      rw [← r.1, show q + 1 + (j + 1) = (q + 1 + j) + 1 by omega, Y05]
      show Yv T (c : Int) (m : Int) _ s ks (ks.length : Int) = _
      unfold Yv
      rw [Y3c (by omega), e1, X8, G_room (by omega), Y32 (by omega)]
      rw [show ((ks ++ [t]).length : Int) = (ks.length : Int) + 1 by simp]
  obtain ⟨ks', s', r⟩ := run c (999999 - c) s [] (by simp) hs (by simp)
  rw [show 999999 - c + 1 + c = 1000000 by omega] at r
  exact ⟨ks', s', r.1, r.2⟩
theorem maker_ok : ∀ (m e : Nat), m ≤ 4 → TOk (Y0f (2 * m + 1 + e)) (m + 1) ∧ SOk (Y1a (2 * m + 2 + e)) (m + 1) := by
  intro m
  induction m using Nat.strongRecOn with
  | ind m ih =>
    intro e hm
    have hT : ∀ e, TOk (Y0f (2 * m + 1 + e)) (m + 1) := by
      intro e s least hs h0 h4
      rw [show 2 * m + 1 + e = (2 * m + e) + 1 by omega, Y0f]
      refine tree_body_ok hm (fun h2 => ?_) (fun h1 => ?_) hs h0 h4
      · have := (ih (m - 2) (by omega) (3 + e) (by omega)).1
        rwa [show 2 * (m - 2) + 1 + (3 + e) = 2 * m + e by omega, show m - 2 + 1 = m - 1 by omega] at this
      · have := (ih (m - 1) (by omega) e (by omega)).2
        rwa [show 2 * (m - 1) + 2 + e = 2 * m + e by omega, show m - 1 + 1 = m by omega] at this
    refine ⟨hT e, fun s c hc hs => ?_⟩
    rw [show 2 * m + 2 + e = (2 * m + 1 + e) + 1 by omega, Y1a]
    exact some_body_ok (hT e) _ hs hc
theorem Made_tree {t0 : List Int} (h0 : okList (okInt .u8) t0) : ∃ f : List Y2, f_R09_Made t0 = some f ∧ IsT 5 f ∧ f.length ≤ 60 := by
  unfold f_R09_Made
  have hn : (0 : Int) ≤ (if (40 : Int) < (t0.length : Int) then (40 : Int) else (t0.length : Int)) ∧ (if (40 : Int) < (t0.length : Int) then (40 : Int) else (t0.length : Int)) ≤ (t0.length : Int) ∧ (if (40 : Int) < (t0.length : Int) then (40 : Int) else (t0.length : Int)) ≤ 40 := by split <;> omega
  rw [Y2y ⟨hn.1, hn.2.1⟩]
  have hs : OkM ⟨t0.take ((if (40 : Int) < (t0.length : Int) then (40 : Int) else (t0.length : Int)).toNat), 0⟩ := by
    refine ⟨fun i => ?_, ?_, by simp, by simp⟩
    · simp only [List.getD]
      cases h : (t0.take ((if (40 : Int) < (t0.length : Int) then (40 : Int) else (t0.length : Int)).toNat))[i]? with
      | none => simp
      | some x => exact h0.1 x (X0t (X0f h))
    · simp only [X0g]; omega
  obtain ⟨t, s', e1, t1, h1⟩ := (maker_ok 4 999991 (by omega)).1 _ 1 hs (by omega) (by omega)
  have e1' : f_R09_maker_tree (⟨t0.take ((if (40 : Int) < (t0.length : Int) then (40 : Int) else (t0.length : Int)).toNat), (0 : Int)⟩ : Y4) (5 : Int) (1 : Int) = some (t, s') := e1
  rw [e1', X8]
  have hb := t1.2.2
  have : (4 : Nat) ^ (4 + 1) = 1024 := by decide
  simp only
  rw [R09_Valid_ok t1.1 (by omega) (by omega), X8]
  by_cases h : t.length ≤ 60
  · rw [decide_eq_true h]
    exact ⟨t, rfl, t1.1, h⟩
  · rw [decide_eq_false h]
    exact ⟨_, rfl, IsT.le (d := 1) ⟨⟨1, 0⟩, [], rfl, rfl, fun k hk => by simp at hk, fun i k hk => by simp at hk⟩ (by omega), by simp⟩
end Go.Proofs.YtkgfbpbndmklnaaDoor
