/- Own work. -/
import Derived.Test.YtioockkejhpleaaDoorFm2
set_option linter.unusedSimpArgs false
set_option linter.unusedVariables false
namespace Go.Proofs.YtioockkejhpleaaDoor
open Go.Abs
def cl : Bool → List Int → Prop
  | z, [] => z = false
  | z, x :: r => 0 ≤ x ∧ x ≤ 62 ∧ (x = 0 → z = false) ∧ cl (decide (x = 0)) r
theorem cl_mono {o : List Int} (z : Bool) (h : cl true o) : cl z o := by
  cases o with
  | nil => cases h
  | cons x r => exact ⟨h.1, h.2.1, fun hx => absurd (h.2.2.1 hx) (by simp), h.2.2.2⟩
theorem cl_app {b : List Int} (hb : cl false b) : ∀ (a : List Int) (z : Bool), cl z a → cl z (a ++ b)
  | [], z, h => by
    have h' : z = false := h
    subst h'; exact hb
  | x :: r, z, h => ⟨h.1, h.2.1, h.2.2.1, cl_app hb r _ h.2.2.2⟩
theorem Y58 {a b : List Int} (ha : cl true a) (hb : cl true b) : cl true (a ++ b) := cl_app (cl_mono _ hb) a _ ha
theorem Y5b {x : Int} (h : 1 ≤ x ∧ x ≤ 62) : cl true [x] := ⟨by omega, h.2, fun hx => by omega, by
  show decide (x = 0) = false
  exact decide_eq_false (by omega)⟩
theorem cl_all : ∀ (l : List Int), l ≠ [] → (∀ x ∈ l, 1 ≤ x ∧ x ≤ 62) → cl true l
  | [], h, _ => absurd rfl h
  | [x], _, h => Y5b (h x (by simp))
  | x :: y :: r, _, h => Y58 (a := [x]) (Y5b (h x (by simp))) (cl_all (y :: r) (by simp) (fun z hz => h z (by simp [X03.1 hz])))
theorem cl_lv {a l : List Int} (ha : cl true a) (h : ∀ x ∈ l, 1 ≤ x ∧ x ≤ 62) : cl true (a ++ l) := by
  cases l with
  | nil => simpa using ha
  | cons x r => exact Y58 ha (cl_all _ (by simp) h)
theorem cl_eq {a b : List Int} (ha : cl true a) (hb : cl true b) : cl true (a ++ [0, 54, 0] ++ b) := by
  rw [Xb]
  refine cl_app ?_ a _ ha
  exact ⟨by omega, by omega, fun _ => rfl, by omega, by omega, fun h => by omega, by omega, by omega, fun _ => rfl, hb⟩
abbrev W (f : List Y4) (i : Nat) (l c : List Int) : Y5 := ⟨f, (i : Int), l, c, ()⟩
theorem Y4n {f : List Y4} {i : Nat} {l c x : List Int} (h : c.length + x.length ≤ 10000000) : Yv (W f i l c) x = some (W f i l (c ++ x)) := by
  unfold Yv
  rw [Y0e (by simp only; omega)]
theorem putl_ok {f : List Y4} {i : Nat} {l c : List Int} (h : c.length + l.length ≤ 10000000) : Y08 (W f i l c) = some (W f i l (c ++ l)) := by
  unfold Y08
  rw [Y0e (by simp only; omega)]
theorem let_ok {i : Int} (h : 0 ≤ i ∧ i < 26) : 1 ≤ Y9.getD i.toNat 0 ∧ Y9.getD i.toNat 0 ≤ 62 := by
  have h' : i.toNat < 26 := by omega
  have all : ∀ n : Nat, n < 26 → 1 ≤ Y9.getD n 0 ∧ Y9.getD n 0 ≤ 62 := by decide
  exact all _ h'
theorem num_ok {f : List Y4} {i : Nat} {l : List Int} : ∀ (k m : Nat) (n : Int) (c : List Int), 0 ≤ n → n < (10 : Int) ^ (k + 1) → n ≤ 99999 → c.length + (k + 1) ≤ 10000000 →
    ∃ out, Yq (m + (k + 1)) (W f i l c) n = some (W f i l (c ++ out)) ∧ cl true out ∧ out.length ≤ k + 1 := by
  have last : ∀ (n : Int) (c : List Int), 0 ≤ n → c.length + 1 ≤ 10000000 → ∃ x : Int, 1 ≤ x ∧ x ≤ 62 ∧ Y00 n (W f i l c) = some (W f i l (c ++ [x])) := by
    intro n c hn hc
    have h1 : Int.tmod n 10 = n % 10 := tmod_n hn 10
    have h2 : Int.tmod (n % 10 + 9) 10 = (n % 10 + 9) % 10 := tmod_n (by omega) 10
    have hl := let_ok (i := (n % 10 + 9) % 10) (by omega)
    refine ⟨_, hl.1, hl.2, ?_⟩
    unfold Y00
    rw [h1, h2, Y09 (by omega), Y01 (by omega)]
    rw [Y4n (by simp only [X7, X8]; omega), X0]
  intro k
  induction k with
  | zero =>
    intro m n c hn hlt h9 hc
    obtain ⟨x, x1, x2, e⟩ := last n c hn hc
    refine ⟨[x], ?_, Y5b ⟨x1, x2⟩, by simp⟩
    rw [show m + (0 + 1) = m + 1 by omega, Yq]
    unfold Y0j
    rw [Y07 (by simp at hlt; omega)]
    exact e
  | succ k ih =>
    intro m n c hn hlt h9 hc
    rw [show m + (k + 1 + 1) = (m + (k + 1)) + 1 by omega, Yq]
    unfold Y0j
    by_cases h10 : 10 ≤ n
    · have hd : Int.tdiv n 10 = n / 10 := X0c hn
      have hp : (10 : Int) ^ (k + 1 + 1) = 10 ^ (k + 1) * 10 := Int.pow_succ 10 (k + 1)
      rw [hp] at hlt
      generalize hP : (10 : Int) ^ (k + 1) = P at hlt ih
      rw [Y0b h10, hd, Y09 (by omega)]
      obtain ⟨out, e1, e2, e3⟩ := ih m (n / 10) c (by omega) (by omega) (by omega) (by omega)
      have e1' : Yq (m + (k + 1)) ⟨f, (i : Int), l, c, ()⟩ (n / 10) = _ := e1
      rw [e1', X0]
      obtain ⟨x, x1, x2, e⟩ := last n (c ++ out) hn (by simp only [X2]; omega)
      refine ⟨out ++ [x], ?_, Y58 e2 (Y5b ⟨x1, x2⟩), by simp; omega⟩
      rw [← Xb]
      exact e
    · rw [Y07 h10]
      obtain ⟨x, x1, x2, e⟩ := last n c hn (by omega)
      exact ⟨[x], e, Y5b ⟨x1, x2⟩, by simp⟩
def lvOk (l : List Int) : Prop := ∀ x ∈ l, x = 6 ∨ x = 24
theorem lvOk.cl {l : List Int} (h : lvOk l) : ∀ x ∈ l, 1 ≤ x ∧ x ≤ 62 := fun x hx => by have := h x hx; omega
def NodeOk (F : Y5 → Option Y5) (f : List Y4) (d : Nat) : Prop := ∀ (t pre post : List Y4) (l c : List Int), IsT d t → f = pre ++ t ++ post → lvOk l → c.length + 100 * t.length ≤ 1000000 → l.length + d ≤ 30 →
  ∃ out, F (W f pre.length l c) = some (W f (pre.length + t.length) l (c ++ out)) ∧ cl true out ∧ out.length ≤ 100 * t.length
def PowOk (F : Y5 → Int → Option Y5) (f : List Y4) (d : Nat) : Prop := ∀ (n : Y4) (a b pre post : List Y4) (l c : List Int), IsT d a → IsT d b → f = pre ++ (n :: (a ++ b)) ++ post → lvOk l → c.length + 100 * (1 + a.length + b.length) ≤ 1000000 → l.length + d + 1 ≤ 30 →
  ∃ out, F (W f (pre.length + 1) l c) n.Op = some (W f (pre.length + 1 + a.length + b.length) l (c ++ out)) ∧ cl true out ∧ out.length ≤ 100 * (1 + a.length + b.length)
theorem expo (o : Int) : ∃ x : Int, Y2c o = some x ∧ (x = 6 ∨ x = 24) := by
  unfold Y2c
  by_cases h : o = 7
  · rw [Yo h]; exact ⟨24, rfl, .inr rfl⟩
  · rw [Yi h]; exact ⟨6, rfl, .inl rfl⟩
theorem pow_k1 {F : Y5 → Option Y5} {f : List Y4} {d : Nat} (hF : NodeOk F f d) {o : Int} {t pre post : List Y4} {l c : List Int} (ht : IsT d t) (hf : f = pre ++ t ++ post) (hl : lvOk l) (hc : c.length + 100 * t.length + 64 ≤ 1000000) (h40 : l.length + d + 1 ≤ 30) :
    ∃ out, Y02 F o (W f pre.length l c) = some (W f (pre.length + t.length) l (c ++ out)) ∧ cl true out ∧ out.length ≤ 100 * t.length + 64 := by
  obtain ⟨x, e1, hx⟩ := expo o
  have hl2 : lvOk (l ++ [x]) := fun y hy => by
    rcases X07.1 hy with h | h
    · exact hl y h
    · have : y = x := by simpa using h
      omega
  have hll : (l ++ [x]).length = l.length + 1 := by simp
  obtain ⟨out, r1, r2, r3⟩ := hF t pre post (l ++ [x]) (c ++ [16] ++ (l ++ [x])) ht hf hl2 (by simp only [X2, X7, X8]; omega) (by omega)
  refine ⟨[16] ++ (l ++ [x]) ++ out ++ [16] ++ l, ?_, ?_, by simp only [X2, X7, X8]; omega⟩
  · unfold Y02
    rw [e1, X0, Y0e (by simp only [X7, X8]; omega)]
    simp only
    rw [Y4n (by simp only [X7, X8]; omega), X0]
    simp only
    rw [putl_ok (by simp only [X2, X7, X8]; omega), X0]
    simp only
    rw [r1, X0]
    simp only
    rw [hll, Y09 (by omega), Y01 (by omega)]
    rw [show (((l.length + 1 : Nat) : Int) - 1).toNat = l.length by omega, X12]
    rw [Y4n (by simp only [X2, X7, X8]; omega), X0]
    simp only
    rw [putl_ok (by simp only [X2, X7, X8]; omega), X0]
    simp only [Xb]
  · refine cl_lv (Y58 (Y58 (Y58 (Y5b ⟨by omega, by omega⟩) (cl_all _ (by simp) hl2.cl)) r2) (Y5b ⟨by omega, by omega⟩)) hl.cl
theorem simple_ok (o : Int) : ∃ b : Bool, Y41 o = some b := by
  unfold Y41 Y0s Y4o
  have kk : ∀ b : Bool, (∃ r : Bool, (bif b then some true else some false) = some r) := fun b => by cases b <;> exact ⟨_, rfl⟩
  by_cases h0 : o = 0
  · rw [Yo h0]; exact kk _
  rw [Yi h0]
  by_cases h0 : o = 1
  · rw [Yo h0]; exact kk _
  rw [Yi h0]
  by_cases h0 : o = 6
  · rw [Yo h0]; exact kk _
  rw [Yi h0]
  by_cases h0 : o = 9
  · rw [Yo h0]; exact kk _
  rw [Yi h0]
  by_cases h0 : o = 10
  · rw [Yo h0]; exact kk _
  rw [Yi h0]
  by_cases h0 : o = 11
  · rw [Yo h0]; exact kk _
  rw [Yi h0]
  by_cases h0 : o = 12
  · rw [Yo h0]; exact kk _
  rw [Yi h0]
  exact kk _
theorem power_body_ok {F : Y5 → Option Y5} {f : List Y4} {d : Nat} (hF : NodeOk F f d) (hl6 : f.length ≤ 100000) (P : Y5 → Int → Option Y5) (B : Y5 → Y4 → Int → Option Y5) : PowOk (Y0m F P B) f d := by
  intro n a b pre post l c ha hb hf hl hc h40
  have hlen : pre.length + 1 < f.length := by
    rw [hf]; have := ha.pos; simp; omega
  obtain ⟨s, hs⟩ := simple_ok (f.getD (pre.length + 1) Y7).Op
  have hpl : (pre ++ [n]).length = pre.length + 1 := by simp
  have hfa : f = (pre ++ [n]) ++ a ++ (b ++ post) := by rw [hf]; simp
  have hfb : f = (pre ++ n :: a) ++ b ++ post := by rw [hf]; simp
  have hpl2 : (pre ++ n :: a).length = pre.length + 1 + a.length := by simp; omega
  unfold Y0m
  simp only
  rw [Y01 (by omega), Xa, hs, X0]
  cases s with
  | true =>
    obtain ⟨o1, r1, r2, r3⟩ := hF a _ _ l c ha hfa hl (by omega) (by omega)
    rw [hpl] at r1
    obtain ⟨o2, q1, q2, q3⟩ := pow_k1 hF (o := n.Op) (c := c ++ o1) hb hfb hl (by simp only [X2]; omega) h40
    rw [hpl2] at q1
    refine ⟨o1 ++ o2, ?_, Y58 r2 q2, by simp only [X2]; omega⟩
    rw [cond_true, r1, X0, ← Xb]
    exact q1
  | false =>
    obtain ⟨o1, r1, r2, r3⟩ := hF a _ _ l (c ++ [35]) ha hfa hl (by simp only [X2, X7, X8]; omega) (by omega)
    rw [hpl] at r1
    obtain ⟨o2, q1, q2, q3⟩ := pow_k1 hF (o := n.Op) (c := c ++ [35] ++ o1 ++ [50]) hb hfb hl (by simp only [X2, X7, X8]; omega) h40
    rw [hpl2] at q1
    refine ⟨[35] ++ o1 ++ [50] ++ o2, ?_, Y58 (Y58 (Y58 (Y5b ⟨by omega, by omega⟩) r2) (Y5b ⟨by omega, by omega⟩)) q2, by simp only [X2, X7, X8]; omega⟩
    rw [cond_false, Y4n (by simp only [X7, X8]; omega), X0]
    simp only
    rw [r1, X0]
    simp only
    rw [Y4n (by simp only [X2, X7, X8]; omega), X0]
    simp only
    rw [q1]
    simp only [Xb]
def triOk (n : Y4) (k : Nat) : Prop := ∃ x y z : Int, Y26 Y8 n.Op = [x, y, z] ∧ (1 ≤ x ∧ x ≤ 62) ∧ (1 < k → 1 ≤ y ∧ y ≤ 62) ∧ (1 ≤ z ∧ z ≤ 62)
def BrkOk (F : Y5 → Y4 → Int → Option Y5) (f : List Y4) (d : Nat) : Prop := ∀ (n : Y4) (ks : List (List Y4)) (pre post : List Y4) (l c : List Int), (∀ k ∈ ks, IsT d k) → f = pre ++ (n :: ks.flatten) ++ post → ar n = some ks.length → triOk n ks.length → lvOk l → c.length + 100 * (1 + ks.flatten.length) ≤ 1000000 → l.length + d + 1 ≤ 30 →
  ∃ out, F (W f (pre.length + 1) l c) n (ks.length : Int) = some (W f (pre.length + 1 + ks.flatten.length) l (c ++ out)) ∧ cl true out ∧ out.length ≤ 100 * (1 + ks.flatten.length)
def bkB (F : Y5 → Option Y5) (k : Int) : (Y5 × Y4 × List Int × Int → Option Y5) → Y5 × Y4 × List Int × Int → Option Y5 := fun loop s => Yf F k loop s.1 s.2.1 s.2.2.1 s.2.2.2
theorem take_flat {ks : List (List Y4)} {i : Nat} (h : i < ks.length) : (ks.take (i + 1)).flatten.length = (ks.take i).flatten.length + ks[i].length := by
  rw [X1n h]
  simp only [X0b, Xr, X0e, X09, X2]
theorem brk_run {F : Y5 → Option Y5} {f : List Y4} {d : Nat} (hF : NodeOk F f d) (hl6 : f.length ≤ 100000) {n : Y4} {ks : List (List Y4)} {pre post : List Y4} {l : List Int} (hks : ∀ k ∈ ks, IsT d k) (hf : f = pre ++ (n :: ks.flatten) ++ post) (ha : ar n = some ks.length) {x y z : Int}
    (hy : 1 < ks.length → 1 ≤ y ∧ y ≤ 62) (hz : 1 ≤ z ∧ z ≤ 62) (hl : lvOk l) (h40 : l.length + d + 1 ≤ 30) :
    ∀ (j i m : Nat) (c : List Int), i + j = ks.length → c.length + 100 * (ks.flatten.length - (ks.take i).flatten.length) + j + 1 ≤ 1000000 →
      ∃ out, iter (bkB F (ks.length : Int)) (m + 1 + j) (W f (pre.length + 1 + (ks.take i).flatten.length) l c, n, [x, y, z], (i : Int)) = some (W f (pre.length + 1 + ks.flatten.length) l (c ++ out)) ∧ cl true out ∧ out.length ≤ 1 + j + 100 * (ks.flatten.length - (ks.take i).flatten.length) := by
  intro j
  induction j with
  | zero =>
    intro i m c hi hc
    refine ⟨[z], ?_, Y5b hz, by simp⟩
    rw [X0d, Yy]
    show Yf F (ks.length : Int) _ (W f (pre.length + 1 + (ks.take i).flatten.length) l c) n [x, y, z] (i : Int) = _
    unfold Yf
    rw [Y07 (by omega), show ([x, y, z] : List Int).getD 2 0 = z from rfl]
    rw [Y4n (by simp only [X7, X8]; omega), X0, Xu (by omega)]
  | succ j ih =>
    intro i m c hi hc
    have hik : i < ks.length := by omega
    have h16 := ar_le ha
    have kk := kid_at (i := i) (k := ks[i]) hf hks (X6 hik)
    have htf := take_flat hik
    have hle : (ks.take (i + 1)).flatten.length ≤ ks.flatten.length := by
      have := congrArg (fun q : List (List Y4) => q.flatten.length) (X0k (i + 1) ks)
      simp only [X0b, X2] at this
      omega
    -- the operand
    have op : ∀ (c : List Int), c.length + 100 * (ks.flatten.length - (ks.take i).flatten.length) + j + 1 ≤ 1000000 → ∃ o, Yn F (iter (bkB F (ks.length : Int)) (m + 1 + j)) (i : Int) (W f (pre.length + 1 + (ks.take i).flatten.length) l c) n [x, y, z] = some (W f (pre.length + 1 + ks.flatten.length) l (c ++ o)) ∧ cl true o ∧ o.length ≤ 1 + j + 100 * (ks.flatten.length - (ks.take i).flatten.length) := by
      intro c hc
      obtain ⟨o1, r1, r2, r3⟩ := hF ks[i] _ _ l c (hks _ (X18 hik)) kk.1 hl (by omega) (by omega)
      rw [kk.2.1] at r1
      obtain ⟨o2, q1, q2, q3⟩ := ih (i + 1) m (c ++ o1) (by omega) (by simp only [X2]; omega)
      rw [htf, ← X0h] at q1
      refine ⟨o1 ++ o2, ?_, Y58 r2 q2, by simp only [X2]; omega⟩
      unfold Yn Y0r
      simp only
      rw [r1, X0, Y09 (by omega), ← Xb, ← q1]
      rfl
    rw [show m + 1 + (j + 1) = (m + 1 + j) + 1 by omega, Yy]
    have sp : ∀ b : Bool, 1 < ks.length → ∃ out, Ym F (iter (bkB F (ks.length : Int)) (m + 1 + j)) n [x, y, z] (i : Int) (W f (pre.length + 1 + (ks.take i).flatten.length) l c) b = some (W f (pre.length + 1 + ks.flatten.length) l (c ++ out)) ∧ cl true out ∧ out.length ≤ 1 + (j + 1) + 100 * (ks.flatten.length - (ks.take i).flatten.length) := by
      intro b h1
      cases b with
      | true =>
        obtain ⟨o, e1, e2, e3⟩ := op (c ++ [51]) (by simp only [X2, X7, X8]; omega)
        refine ⟨[51] ++ o, ?_, Y58 (Y5b ⟨by omega, by omega⟩) e2, by simp only [X2, X7, X8]; omega⟩
        unfold Ym
        simp only
        rw [cond_true, Y4n (by simp only [X7, X8]; omega), X0, ← Xb]
        exact e1
      | false =>
        obtain ⟨o, e1, e2, e3⟩ := op (c ++ [y]) (by simp only [X2, X7, X8]; omega)
        refine ⟨[y] ++ o, ?_, Y58 (Y5b (hy h1)) e2, by simp only [X2, X7, X8]; omega⟩
        unfold Ym
        simp only
        rw [cond_false, show ([x, y, z] : List Int).getD 1 0 = y from rfl, Y4n (by simp only [X7, X8]; omega), X0, ← Xb]
        exact e1
    show ∃ out, Yf F (ks.length : Int) (iter (bkB F (ks.length : Int)) (m + 1 + j)) (W f (pre.length + 1 + (ks.take i).flatten.length) l c) n [x, y, z] (i : Int) = _ ∧ _
    unfold Yf
    simp only
    rw [Y0b (by omega)]
    by_cases h0 : (i : Int) = 0
    · rw [Yo h0]
      obtain ⟨o, e1, e2, e3⟩ := op c (by omega)
      exact ⟨o, e1, e2, by omega⟩
    · rw [Yi h0]
      have h1 : 1 < ks.length := by omega
      cases hcc : (bif n.Op == 12 then (i : Int) == n.N else false) with
      | true => rw [cond_true]; exact sp _ h1
      | false =>
        rw [cond_false, Y01 (fun h13 => ?_)]
        · exact sp _ h1
        · have h13 := beq_iff_eq.1 h13
          unfold ar at ha
          rw [if_neg (by omega), if_neg (by omega), if_neg (by omega), if_neg (by omega), if_neg (by omega), if_pos h13] at ha
          split at ha
          · rename_i hx
            rw [tmod8 (by omega)]; omega
          · cases ha
theorem brk_body_ok {F : Y5 → Option Y5} {f : List Y4} {d : Nat} (hF : NodeOk F f d) (hl6 : f.length ≤ 100000) (P : Y5 → Int → Option Y5) (B : Y5 → Y4 → Int → Option Y5) : BrkOk (Y06 F P B) f d := by
  intro n ks pre post l c hks hf ha ht hl hc h40
  obtain ⟨x, y, z, hm, hx, hy, hz⟩ := ht
  have h16 := ar_le ha
  obtain ⟨o, e1, e2, e3⟩ := brk_run hF hl6 hks hf ha (x := x) hy hz hl h40 ks.length 0 (999999 - ks.length) (c ++ [x]) (by omega) (by simp only [X2, X7, X8, List.take_zero, X0e]; omega)
  rw [show 999999 - ks.length + 1 + ks.length = 1000000 by omega] at e1
  simp only [List.take_zero, X0e, X8, X0d, Nat.sub_zero] at e1 e3
  refine ⟨[x] ++ o, ?_, Y58 (Y5b hx) e2, by simp only [X2, X7, X8]; omega⟩
  unfold Y06
  rw [hm]
  simp only
  rw [show ([x, y, z] : List Int).getD 0 0 = x from rfl, show ([x, y, z] : List Int).getD 1 0 = y from rfl, show ([x, y, z] : List Int).getD 2 0 = z from rfl]
  rw [Y4n (by simp only [X7, X8]; omega), X0, ← Xb]
  exact e1
theorem sign_ok {o : Int} {a b : List Int} (ha : cl true a) (hb : cl true b) : ∃ s, Y3m o = some s ∧ s.length ≤ 3 ∧ cl true (a ++ s ++ b) := by
  unfold Y3m
  by_cases h : o = 2
  · rw [Yo h]; exact ⟨_, rfl, by simp, Y58 (Y58 ha (Y5b ⟨by omega, by omega⟩)) hb⟩
  rw [Yi h]
  by_cases h : o = 3
  · rw [Yo h]; exact ⟨_, rfl, by simp, Y58 (Y58 ha (Y5b ⟨by omega, by omega⟩)) hb⟩
  rw [Yi h]
  by_cases h : o = 4
  · rw [Yo h]; exact ⟨_, rfl, by simp, Y58 (Y58 ha (Y5b ⟨by omega, by omega⟩)) hb⟩
  rw [Yi h]
  exact ⟨_, rfl, by simp, cl_eq ha hb⟩
theorem sign_some (o : Int) : ∃ s, Y3m o = some s := by
  obtain ⟨s, h, _⟩ := sign_ok (o := o) (a := [1]) (b := [1]) (Y5b ⟨by omega, by omega⟩) (Y5b ⟨by omega, by omega⟩)
  exact ⟨s, h⟩
theorem tri_ok {n : Y4} {k : Nat} (ha : ar n = some k) (h6 : n.Op = 6 ∨ 9 ≤ n.Op) : triOk n k := by
  unfold triOk
  have hc := ar_cases ha
  by_cases h : n.Op = 6
  · rw [h]; exact ⟨57, 12, 47, rfl, by omega, by omega, by omega⟩
  have one : n.Op ≤ 11 → k = 1 := fun h11 => by
    unfold ar at ha
    rw [if_neg (by omega), if_neg (by omega), if_neg (by omega), if_pos (by omega)] at ha
    split at ha
    · exact (X5 ha).symm
    · cases ha
  by_cases h : n.Op = 9
  · have := one (by omega)
    rw [h]; exact ⟨28, 0, 59, rfl, by omega, fun hk => by omega, by omega⟩
  by_cases h : n.Op = 10
  · have := one (by omega)
    rw [h]; exact ⟨55, 0, 62, rfl, by omega, fun hk => by omega, by omega⟩
  by_cases h : n.Op = 11
  · have := one (by omega)
    rw [h]; exact ⟨42, 0, 46, rfl, by omega, fun hk => by omega, by omega⟩
  by_cases h : n.Op = 12
  · rw [h]; exact ⟨56, 32, 34, rfl, by omega, by omega, by omega⟩
  have h : n.Op = 13 := by omega
  rw [h]; exact ⟨41, 32, 43, rfl, by omega, by omega, by omega⟩
end Go.Proofs.YtioockkejhpleaaDoor
