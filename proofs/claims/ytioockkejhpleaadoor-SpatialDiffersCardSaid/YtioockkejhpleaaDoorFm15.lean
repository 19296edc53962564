/- Own work. -/
import Derived.Test.YtioockkejhpleaaDoorFm14
set_option linter.unusedSimpArgs false
set_option linter.unusedVariables false
namespace Go.Proofs.YtioockkejhpleaaDoor
open Go.Abs
theorem cells_len {T : Tr} {d : Nat} {l : List Int} (ht : T.good d) (hf : T.flat.length ≤ 60) (hl : lvOk l) (h40 : l.length + d ≤ 30) : (T.cells l).length ≤ 6000 := by
  have := (node_okC (f := T.flat) (by omega) d 0 T [] [] l [] ht (by simp) hl (by simp; omega) h40).2
  omega
def RefC (R : List Y4 → Int → List Int → Option (List Int)) (f : List Y4) (d : Nat) : Prop := ∀ (T : Tr) (pre post : List Y4) (l : List Int), T.good d → f = pre ++ T.flat ++ post → lvOk l → l.length + d ≤ 30 → R f (pre.length : Int) l = some (T.cells l)
def KidsC (R : List Y4 → Int → List Int → Option (List Int)) (f : List Y4) (x2 : List Int) (d : Nat) (ks : List Tr) : Prop := x2.length = ks.length ∧ ∀ (i : Nat) (k : Tr) (l : List Int), ks[i]? = some k → lvOk l → l.length + d ≤ 30 → R f (x2.getD i 0) l = some (k.cells l) ∧ (k.cells l).length ≤ 6000 ∧ f.getD (x2.getD i 0).toNat Y7 = hd k.flat ∧ 0 ≤ x2.getD i 0 ∧ x2.getD i 0 < (f.length : Int)
theorem kids_ok {R : List Y4 → Int → List Int → Option (List Int)} {f pre post : List Y4} {n : Y4} {ks : List Tr} {d : Nat} (hR : RefC R f d) (h60 : f.length ≤ 60) (hf : f = pre ++ (n :: Y1o ks) ++ post) (hks : goodL d ks) : KidsC R f (offs (pre.length + 1) (ks.map Tr.flat)) d ks := by
  refine ⟨by rw [Y2y, Xh], fun i k l hk hl h40 => ?_⟩
  have hik := (Xo.1 hk).1
  have hf' : f = pre ++ (n :: (ks.map Tr.flat).flatten) ++ post := by rw [hf, Y3k]
  have hks' : ∀ q ∈ ks.map Tr.flat, IsT d q := fun q hq => by
    obtain ⟨T, hT, rfl⟩ := Xy.1 hq
    exact Y3u d T (Y2x.1 hks T hT)
  have kk := kid_at (i := i) (k := k.flat) hf' hks' (by rw [Xw, hk]; rfl)
  have hg := Y2x.1 hks k (X0x hk)
  have hr := hR k _ _ l hg kk.1 hl h40
  rw [kk.2.1] at hr
  have hle : k.flat.length ≤ 60 := by
    have := congrArg List.length kk.1
    simp only [X2] at this
    omega
  rw [offs_get _ _ i (by rw [Xh]; exact hik)]
  refine ⟨hr, cells_len hg hle hl h40, ?_, by omega, by omega⟩
  rw [Xa]
  exact kk.2.2.1
theorem ref_bin {R : List Y4 → Int → List Int → Option (List Int)} {f : List Y4} {x2 : List Int} {d : Nat} {n : Y4} {a b : Tr} {i : Nat} {l : List Int} (hg : f.getD i Y7 = n) (hk : KidsC R f x2 d [a, b]) (hl : lvOk l) (h40 : l.length + d ≤ 30) :
    Y13 R f (i : Int) l x2 true = some (binC l (signC n.Op) [a, b]) := by
  obtain ⟨hx, hk⟩ := hk
  have ka := hk 0 a l rfl hl h40
  have kb := hk 1 b l rfl hl h40
  have hx2 : x2.length = 2 := hx
  have hs3 : (signC n.Op).length ≤ 3 := by unfold signC; repeat' split
                                           all_goals simp
  have hop : f_R10_operator n.Op = some (signC n.Op) := by
    unfold f_R10_operator signC
    by_cases h2 : n.Op = 2
    · rw [Yo h2, if_pos h2]
    rw [Yi h2, if_neg h2]
    by_cases h3 : n.Op = 3
    · rw [Yo h3, if_pos h3]
    rw [Yi h3, if_neg h3]
    by_cases h4 : n.Op = 4
    · rw [Yo h4, if_pos h4]
    rw [Yi h4, if_neg h4]
  unfold Y13
  simp only [Xa, hg]
  rw [cond_true, Y01 (by omega), show (0 : Int).toNat = 0 from rfl, ka.1, X0, Y0e (by simp only [X8]; omega), hop, X0]
  rw [Y0e (by simp only [X02]; omega), Y01 (by omega), show (1 : Int).toNat = 1 from rfl, kb.1, X0]
  rw [Y0e (by simp only [X02, X2]; omega), binC_eq]
  rfl
theorem under_eq (l : List Int) (o : Int) (h : o = 7 ∨ o = 8) (hl : l.length ≤ 1000) : f_R10_under l o = some (l ++ [expC o]) := by
  unfold f_R10_under f_R10_under_k1
  rcases h with rfl | rfl
  · rw [Yi (by omega), Y0e (by simp only [X8]; omega), Y0e (by simp only [X02]; omega)]; rfl
  · rw [Yo rfl, Y0e (by simp only [X8]; omega), Y0e (by simp only [X02]; omega)]; rfl
theorem sign_eq (l : List Int) (hl : l.length ≤ 1000) : f_R10_sign l = some (16 :: l) := by
  unfold f_R10_sign
  rw [Y0e (by simp only [X7, X8]; omega)]; rfl
theorem ref_pow4 {R : List Y4 → Int → List Int → Option (List Int)} {f : List Y4} {x2 : List Int} {d : Nat} {n : Y4} {a b : Tr} {l v : List Int} (hk : KidsC R f x2 d [a, b]) (h78 : n.Op = 7 ∨ n.Op = 8) (hl : lvOk l) (h40 : l.length + d + 1 ≤ 30) (hv : v.length ≤ 10000) :
    Y4a R f l x2 n v = some (v ++ (16 :: (l ++ [expC n.Op])) ++ b.cells (l ++ [expC n.Op]) ++ (16 :: l)) := by
  obtain ⟨hx, hk⟩ := hk
  have hx2 : x2.length = 2 := hx
  have hll : (l ++ [expC n.Op]).length = l.length + 1 := by simp
  have kb := hk 1 b (l ++ [expC n.Op]) rfl (lvOk_snoc hl _) (by omega)
  unfold Y4a
  rw [under_eq l n.Op h78 (by omega), X0, sign_eq _ (by omega), X0]
  rw [Y0e (by simp only [X2, X7, X8]; omega), Y01 (by omega), X0]
  rw [show (1 : Int).toNat = 1 from rfl, kb.1, X0, Y0e (by simp only [X2, X7, X8]; omega), sign_eq l (by omega), X0, Y0e (by simp only [X2, X7, X8]; omega)]
theorem ref_pow {R : List Y4 → Int → List Int → Option (List Int)} {f : List Y4} {x2 : List Int} {d : Nat} {n : Y4} {a b : Tr} {i : Nat} {l : List Int} (hg : f.getD i Y7 = n) (hga : a.good d) (hk : KidsC R f x2 d [a, b]) (h78 : n.Op = 7 ∨ n.Op = 8) (hl : lvOk l) (h40 : l.length + d + 1 ≤ 30) :
    Y2d R f (i : Int) l x2 true = some (powC l (expC n.Op) [a, b]) := by
  have ka := hk.2 0 a l rfl hl (by omega)
  have hx2 : x2.length = 2 := hk.1
  have hs : f_R10_Simple (hd a.flat).Op = some (simpleO (hd a.flat).Op) := by
    have hc := good_head hga
    have hc' : (hd a.flat).Op = 0 ∨ (hd a.flat).Op = 1 ∨ (hd a.flat).Op = 2 ∨ (hd a.flat).Op = 3 ∨ (hd a.flat).Op = 4 ∨ (hd a.flat).Op = 5 ∨ (hd a.flat).Op = 6 ∨ (hd a.flat).Op = 7 ∨ (hd a.flat).Op = 8 ∨ (hd a.flat).Op = 9 ∨ (hd a.flat).Op = 10 ∨ (hd a.flat).Op = 11 ∨ (hd a.flat).Op = 12 ∨ (hd a.flat).Op = 13 := by omega
    rcases hc' with h | h | h | h | h | h | h | h | h | h | h | h | h | h <;> rw [h] <;> rfl
  rw [powC_eq]
  unfold Y2d
  simp only [Xa, hg]
  rw [cond_true, Y01 (by omega), show (0 : Int).toNat = 0 from rfl, ka.1, X0, Y01 ⟨ka.2.2.2.1, ka.2.2.2.2⟩, ka.2.2.1, hs, X0]
  cases hsi : simpleO (hd a.flat).Op with
  | true =>
    rw [cond_true, Y0e (by simp only [X8]; omega), X02, ref_pow4 hk h78 hl h40 (by omega), if_pos rfl]
  | false =>
    rw [cond_false, Y0e (by simp only [X8]; omega), Y0e (by simp only [X02, X7, X8]; omega), Y0e (by simp only [X02, X2, X7, X8]; omega), ref_pow4 hk h78 hl h40 (by simp only [X02, X2, X7, X8]; omega), if_neg (by simp)]
    simp only [X02, X06, Xb]
def rb1 (R : List Y4 → Int → List Int → Option (List Int)) (f : List Y4) (l x2 : List Int) : (List Int × List Int × Int → Option (List Int)) → List Int × List Int × Int → Option (List Int) := fun loop s => Y2i R f l x2 loop s.1 s.2.1 s.2.2
theorem ref_b1 {R : List Y4 → Int → List Int → Option (List Int)} {f : List Y4} {x2 : List Int} {d : Nat} {n : Y4} {ks : List Tr} {l : List Int} (hk : KidsC R f x2 d ks) (h16 : ks.length ≤ 16) (hl : lvOk l) (h40 : l.length + d ≤ 30) {x y z : Int} (hsep : ∀ i, 0 < i → i < ks.length → sepC n i = [y]) :
    ∀ (ls done : List Tr) (m : Nat) (v : List Int), ks = done ++ ls → v.length + 6001 * ls.length ≤ 200000 → iter (rb1 R f l x2) (m + 1 + ls.length) (v, [x, y, z], (done.length : Int)) = some (v ++ (Y1u l n done.length ls ++ [z])) := by
  intro ls
  induction ls with
  | nil =>
    intro done m v he hv
    have hd : done = ks := by simpa using he.symm
    subst hd
    rw [show m + 1 + ([] : List Tr).length = m + 1 by simp, Yy]
    show Y2i R f l x2 _ v [x, y, z] (done.length : Int) = _
    unfold Y2i
    rw [Y07 (by rw [hk.1]; omega), Y0e (by simp only [X8] at hv; omega), Y1u]
    rfl
  | cons k ls ih =>
    intro done m v he hv
    have hkl : ks.length = done.length + (ls.length + 1) := by rw [he]; simp
    have kk := hk.2 done.length k l (by rw [he]; simp) hl h40
    have hdl : (done ++ [k]).length = done.length + 1 := by simp
    have hlen : (k :: ls).length = ls.length + 1 := rfl
    rw [hlen] at hv ⊢
    have hv2 : v.length + 6001 * ls.length + 6001 ≤ 200000 := by rw [Nat.mul_succ, ← X0h] at hv; exact hv
    clear hv
    have nxt : ∀ w : List Int, w.length + 6001 * ls.length + 6000 ≤ 200000 → Y4b R f l x2 (iter (rb1 R f l x2) (m + 1 + ls.length)) (done.length : Int) w [x, y, z] = some (w ++ (k.cells l ++ Y1u l n (done.length + 1) ls ++ [z])) := by
      intro w hw
      have hx : (x2.length : Int) = (ks.length : Int) := by rw [hk.1]
      unfold Y4b f_R10_write_body_k1
      rw [Y01 (by omega), Xa, kk.1, X0, Y0e (by omega), Y09 (by omega)]
      have q := ih (done ++ [k]) m (w ++ k.cells l) (by rw [he]; simp) (by simp only [X2]; omega)
      rw [hdl] at q
      have e : w ++ (k.cells l ++ Y1u l n (done.length + 1) ls ++ [z]) = w ++ k.cells l ++ (Y1u l n (done.length + 1) ls ++ [z]) := by simp
      rw [e, ← q]
      rfl
    rw [show m + 1 + (ls.length + 1) = (m + 1 + ls.length) + 1 by omega, Yy, cellsL_cons]
    show Y2i R f l x2 (iter (rb1 R f l x2) (m + 1 + ls.length)) v [x, y, z] (done.length : Int) = _
    unfold Y2i
    rw [Y0b (by rw [hk.1]; omega)]
    by_cases h0 : done.length = 0
    · have hs : sepC n done.length = [] := by unfold sepC; rw [if_pos h0]
      rw [Y07 (by omega), hs]
      exact nxt v (by omega)
    · rw [Y0b (by omega), hsep done.length (by omega) (by omega), Y0e (by omega)]
      have q := nxt (v ++ [y]) (by simp only [X2, X7, X8]; omega)
      have e : v ++ ([y] ++ k.cells l ++ Y1u l n (done.length + 1) ls ++ [z]) = v ++ [y] ++ (k.cells l ++ Y1u l n (done.length + 1) ls ++ [z]) := by simp only [Xb]
      rw [e, ← q]
      rfl
def rb2 (R : List Y4 → Int → List Int → Option (List Int)) (f : List Y4) (l x2 : List Int) : (List Int × Int → Option (List Int)) → List Int × Int → Option (List Int) := fun loop s => Y2h R f l x2 loop s.1 s.2
theorem ref_b2 {R : List Y4 → Int → List Int → Option (List Int)} {f : List Y4} {x2 : List Int} {d : Nat} {n : Y4} {ks : List Tr} {l : List Int} (hk : KidsC R f x2 d ks) (h16 : ks.length ≤ 16) (hl : lvOk l) (h40 : l.length + d ≤ 30) (h12 : n.Op = 12) (hN : (ks.length : Int) = n.N + 1) (hN2 : 2 ≤ n.N) :
    ∀ (ls done : List Tr) (m : Nat) (v : List Int), ks = done ++ ls → v.length + 6001 * ls.length ≤ 200000 → iter (rb2 R f l x2) (m + 1 + ls.length) (v, (done.length : Int)) = some (v ++ (Y1u l n done.length ls ++ [34])) := by
  intro ls
  induction ls with
  | nil =>
    intro done m v he hv
    have hd : done = ks := by simpa using he.symm
    subst hd
    rw [show m + 1 + ([] : List Tr).length = m + 1 by simp, Yy]
    show Y2h R f l x2 _ v (done.length : Int) = _
    unfold Y2h
    rw [Y07 (by rw [hk.1]; omega), Y0e (by simp only [X8] at hv; omega), Y1u]
    rfl
  | cons k ls ih =>
    intro done m v he hv
    have hkl : ks.length = done.length + (ls.length + 1) := by rw [he]; simp
    have kk := hk.2 done.length k l (by rw [he]; simp) hl h40
    have hdl : (done ++ [k]).length = done.length + 1 := by simp
    have hlen : (k :: ls).length = ls.length + 1 := rfl
    rw [hlen] at hv ⊢
    have hv2 : v.length + 6001 * ls.length + 6001 ≤ 200000 := by rw [Nat.mul_succ, ← X0h] at hv; exact hv
    clear hv
    have hx : (x2.length : Int) = (ks.length : Int) := by rw [hk.1]
    have nxt : ∀ w : List Int, w.length + 6001 * ls.length + 6000 ≤ 200000 → Y2f R f l x2 (iter (rb2 R f l x2) (m + 1 + ls.length)) (done.length : Int) w = some (w ++ (k.cells l ++ Y1u l n (done.length + 1) ls ++ [34])) := by
      intro w hw
      unfold Y2f f_R10_write_body_k5
      rw [Y01 (by omega), Xa, kk.1, X0, Y0e (by omega), Y09 (by omega)]
      have q := ih (done ++ [k]) m (w ++ k.cells l) (by rw [he]; simp) (by simp only [X2]; omega)
      rw [hdl] at q
      have e : w ++ (k.cells l ++ Y1u l n (done.length + 1) ls ++ [34]) = w ++ k.cells l ++ (Y1u l n (done.length + 1) ls ++ [34]) := by simp only [Xb]
      rw [e, ← q]
      rfl
    have sp : ∀ y : Int, sepC n done.length = [y] → Y2f R f l x2 (iter (rb2 R f l x2) (m + 1 + ls.length)) (done.length : Int) (v ++ [y]) = some (v ++ (sepC n done.length ++ k.cells l ++ Y1u l n (done.length + 1) ls ++ [34])) := by
      intro y hy
      have q := nxt (v ++ [y]) (by simp only [X2, X7, X8]; omega)
      rw [hy, q]
      simp only [Xb]
    rw [show m + 1 + (ls.length + 1) = (m + 1 + ls.length) + 1 by omega, Yy, cellsL_cons]
    show Y2h R f l x2 (iter (rb2 R f l x2) (m + 1 + ls.length)) v (done.length : Int) = _
    unfold Y2h
    rw [Y0b (by omega), Y09 (by omega)]
    by_cases hlast : (done.length : Int) = (x2.length : Int) - 1
    · rw [Yo hlast, Y0e (by omega)]
      exact sp 51 (by unfold sepC; rw [if_neg (by omega), if_pos h12, if_pos (by omega)])
    · rw [Yi hlast]
      by_cases h0 : done.length = 0
      · have hs : sepC n done.length = [] := by unfold sepC; rw [if_pos h0]
        rw [Y07 (by omega), hs]
        exact nxt v (by omega)
      · rw [Y0b (by omega), Y0e (by omega)]
        exact sp 32 (by unfold sepC; rw [if_neg h0, if_pos h12, if_neg (by omega)])
def rb3 (R : List Y4 → Int → List Int → Option (List Int)) (f : List Y4) (l x2 : List Int) : (Y4 × List Int × Int → Option (List Int)) → Y4 × List Int × Int → Option (List Int) := fun loop s => Y2g R f l x2 loop s.1 s.2.1 s.2.2
theorem ref_b3 {R : List Y4 → Int → List Int → Option (List Int)} {f : List Y4} {x2 : List Int} {d : Nat} {n : Y4} {ks : List Tr} {l : List Int} (hk : KidsC R f x2 d ks) (h16 : ks.length ≤ 16) (hl : lvOk l) (h40 : l.length + d ≤ 30) (h13 : n.Op = 13) (hN : 0 < n.N % 8) (hN0 : 0 ≤ n.N) :
    ∀ (ls done : List Tr) (m : Nat) (v : List Int), ks = done ++ ls → v.length + 6001 * ls.length ≤ 200000 → iter (rb3 R f l x2) (m + 1 + ls.length) (n, v, (done.length : Int)) = some (v ++ (Y1u l n done.length ls ++ [43])) := by
  intro ls
  induction ls with
  | nil =>
    intro done m v he hv
    have hd : done = ks := by simpa using he.symm
    subst hd
    rw [show m + 1 + ([] : List Tr).length = m + 1 by simp, Yy]
    show Y2g R f l x2 _ n v (done.length : Int) = _
    unfold Y2g
    rw [Y07 (by rw [hk.1]; omega), Y0e (by simp only [X8] at hv; omega), Y1u]
    rfl
  | cons k ls ih =>
    intro done m v he hv
    have hkl : ks.length = done.length + (ls.length + 1) := by rw [he]; simp
    have kk := hk.2 done.length k l (by rw [he]; simp) hl h40
    have hdl : (done ++ [k]).length = done.length + 1 := by simp
    have hlen : (k :: ls).length = ls.length + 1 := rfl
    rw [hlen] at hv ⊢
    have hv2 : v.length + 6001 * ls.length + 6001 ≤ 200000 := by rw [Nat.mul_succ, ← X0h] at hv; exact hv
    clear hv
    have hx : (x2.length : Int) = (ks.length : Int) := by rw [hk.1]
    have nxt : ∀ w : List Int, w.length + 6001 * ls.length + 6000 ≤ 200000 → Y2e R f l x2 (iter (rb3 R f l x2) (m + 1 + ls.length)) (done.length : Int) n w = some (w ++ (k.cells l ++ Y1u l n (done.length + 1) ls ++ [43])) := by
      intro w hw
      unfold Y2e f_R10_write_body_k7
      rw [Y01 (by omega), Xa, kk.1, X0, Y0e (by omega), Y09 (by omega)]
      have q := ih (done ++ [k]) m (w ++ k.cells l) (by rw [he]; simp) (by simp only [X2]; omega)
      rw [hdl] at q
      have e : w ++ (k.cells l ++ Y1u l n (done.length + 1) ls ++ [43]) = w ++ k.cells l ++ (Y1u l n (done.length + 1) ls ++ [43]) := by simp only [Xb]
      rw [e, ← q]
      rfl
    have sp : ∀ y : Int, sepC n done.length = [y] → Y2e R f l x2 (iter (rb3 R f l x2) (m + 1 + ls.length)) (done.length : Int) n (v ++ [y]) = some (v ++ (sepC n done.length ++ k.cells l ++ Y1u l n (done.length + 1) ls ++ [43])) := by
      intro y hy
      have q := nxt (v ++ [y]) (by simp only [X2, X7, X8]; omega)
      rw [hy, q]
      simp only [Xb]
    rw [show m + 1 + (ls.length + 1) = (m + 1 + ls.length) + 1 by omega, Yy, cellsL_cons]
    show Y2g R f l x2 (iter (rb3 R f l x2) (m + 1 + ls.length)) n v (done.length : Int) = _
    unfold Y2g
    have t1 : Int.tmod n.N 8 = n.N % 8 := tmod8 hN0
    have t2 : Int.tmod (done.length : Int) (n.N % 8) = (done.length : Int) % (n.N % 8) := tmod_n (by omega) _
    rw [Y0b (by omega), t1, Y01 (fun _ => by omega), t2]
    by_cases h0 : done.length = 0
    · have hs : sepC n done.length = [] := by unfold sepC; rw [if_pos h0]
      have c0 : decide ((0 : Int) < (done.length : Int)) = false := decide_eq_false (by omega)
      rw [c0, cond_false, cond_false, cond_false, hs]
      exact nxt v (by omega)
    · have c0 : decide ((0 : Int) < (done.length : Int)) = true := decide_eq_true (by omega)
      rw [c0, cond_true, cond_true]
      by_cases hz : (done.length : Int) % (n.N % 8) = 0
      · rw [Yo hz, Y0e (by omega)]
        exact sp 51 (by unfold sepC; rw [if_neg h0, if_neg (by omega), if_pos h13, if_pos hz])
      · rw [Yi hz, Y0e (by omega)]
        exact sp 32 (by unfold sepC; rw [if_neg h0, if_neg (by omega), if_pos h13, if_neg hz])
theorem around_eq {o : Int} (h : o = 6 ∨ o = 9 ∨ o = 10 ∨ o = 11) : f_R10_around o = some [openC o, midC o, Y43 o] := by
  rcases h with rfl | rfl | rfl | rfl <;> rfl
theorem ref_body {R : List Y4 → Int → List Int → Option (List Int)} {f : List Y4} {d : Nat} (hR : RefC R f d) (h60 : f.length ≤ 60) : RefC (f_R10_write_body R) f (d + 1) := by
  intro T pre post l ht hf hl h40
  cases T with
  | node n ks =>
    obtain ⟨ha, hks, had⟩ := ht
    have efl : (Tr.node n ks).flat = n :: Y1o ks := by rw [Tr.flat]
    rw [efl] at hf
    have hg : f.getD pre.length Y7 = n := by rw [hf, Xb]; exact Y3v _ _ _
    have hlt : pre.length < f.length := by rw [hf]; simp
    have hk := kids_ok hR h60 hf hks
    have h16 := ar_le ha
    have hO : Y2q f (pre.length : Int) = some (offs (pre.length + 1) (ks.map Tr.flat)) := Operands_ok (A := adm) (d := d) (by rw [hf, Y3k]) (by omega) (by rw [Xh]; exact ha) (fun q hq => by
      obtain ⟨T, hT, rfl⟩ := Xy.1 hq
      exact Y3u d T (Y2x.1 hks T hT))
    generalize offs (pre.length + 1) (ks.map Tr.flat) = x2 at hk hO
    have hcs := ar_cases ha
    rw [cells_node]
    unfold f_R10_write_body
    simp only [Xa, hg]
    rw [Y01 (by omega), hO, X0]
    by_cases h0 : n.Op = 0
    · obtain ⟨_, n0, n1⟩ := ar_num ha h0
      rw [Yo h0, if_pos h0, R10_number_ok ⟨n0, n1⟩, X0]
    rw [Yi h0, if_neg h0]
    by_cases h1 : n.Op = 1
    · obtain ⟨_, n0, n1⟩ := ar_var ha h1
      rw [Yo h1, if_pos h1, R10_letter_ok (by omega), X0]
    rw [Yi h1, if_neg h1]
    have kk : Y13 R f (pre.length : Int) l x2 (decide (n.Op ≤ 5)) = some (if n.Op ≤ 5 then binC l (signC n.Op) ks else if n.Op = 7 ∨ n.Op = 8 then powC l (expC n.Op) ks else openC n.Op :: (Y1u l n 0 ks ++ [Y43 n.Op])) := by
      by_cases h5 : n.Op ≤ 5
      · rw [decide_eq_true h5, if_pos h5]
        obtain ⟨a, b, rfl⟩ := good_two (d := d) ha (by omega) (by omega)
        exact ref_bin hg hk hl (by omega)
      rw [decide_eq_false h5, if_neg h5]
      have k9 : Y2d R f (pre.length : Int) l x2 (decide (n.Op = 7 ∨ n.Op = 8)) = some (if n.Op = 7 ∨ n.Op = 8 then powC l (expC n.Op) ks else openC n.Op :: (Y1u l n 0 ks ++ [Y43 n.Op])) := by
        by_cases h78 : n.Op = 7 ∨ n.Op = 8
        · rw [decide_eq_true h78, if_pos h78]
          obtain ⟨a, b, rfl⟩ := good_two (d := d) ha (by omega) (by omega)
          exact ref_pow hg (Y2x.1 hks a (by simp)) hk h78 hl (by omega)
        rw [decide_eq_false h78, if_neg h78]
        have hb : ([56] : List Int).length + 6001 * ks.length ≤ 200000 := by simp only [X7, X8]; omega
        unfold Y2d
        simp only [Xa, hg]
        rw [cond_false]
        by_cases h12 : n.Op = 12
        · obtain ⟨hN, hN2, _⟩ := ar_tab ha h12
          rw [Yo h12, Y0e (by simp only [X8]; omega), h12]
          have q := ref_b2 hk h16 hl (by omega) h12 hN hN2 ks [] (999999 - ks.length) [56] rfl hb
          rw [show 999999 - ks.length + 1 + ks.length = 1000000 by omega] at q
          exact q
        rw [Yi h12]
        by_cases h13 : n.Op = 13
        · obtain ⟨hN, hN2, hN3, _⟩ := ar_mat ha h13
          have hN8 : n.N % 8 ≠ 0 := fun hz => by
            have := ar_mat ha h13
            unfold ar at ha
            rw [if_neg (by omega), if_neg (by omega), if_neg (by omega), if_neg (by omega), if_neg (by omega), if_pos h13] at ha
            split at ha
            · omega
            · cases ha
          rw [Yo h13, Y0e (by simp only [X8]; omega), h13]
          have q := ref_b3 hk h16 hl (by omega) h13 (by omega) (by omega) ks [] (999999 - ks.length) [41] rfl hb
          rw [show 999999 - ks.length + 1 + ks.length = 1000000 by omega] at q
          exact q
        rw [Yi h13]
        unfold f_R10_write_body_k3
        rw [around_eq (by omega), X0, Y0e (by simp only [X8]; omega)]
        have q := ref_b1 (n := n) (x := openC n.Op) (y := midC n.Op) (z := Y43 n.Op) hk h16 hl (by omega) (fun i hi hik => by
          have h6 : n.Op = 6 := by
            rcases (by omega : n.Op = 6 ∨ 9 ≤ n.Op) with h | h
            · exact h
            · have := ar_one ha h (by omega); omega
          unfold sepC
          rw [if_neg (by omega), if_neg h12, if_neg h13, h6]; rfl) ks [] (999999 - ks.length) [openC n.Op] rfl hb
        rw [show 999999 - ks.length + 1 + ks.length = 1000000 by omega] at q
        exact q
      unfold Y13
      simp only [Xa, hg]
      rw [cond_false]
      by_cases h7 : n.Op = 7
      · rw [Yo h7, beq_iff_eq.2 h7]
        rwa [decide_eq_true (Or.inl h7)] at k9
      · rw [Yi h7]
        rwa [show (n.Op == 8) = decide (n.Op = 7 ∨ n.Op = 8) by
          by_cases h : n.Op = 8
          · rw [beq_iff_eq.2 h, decide_eq_true (Or.inr h)]
          · rw [beq_eq_false_iff_ne.2 h, decide_eq_false (by omega)]]
    by_cases h2 : n.Op = 2
    · rw [Yo h2, beq_iff_eq.2 h2]
      rwa [decide_eq_true (by omega : n.Op ≤ 5)] at kk
    rw [Yi h2]
    by_cases h3 : n.Op = 3
    · rw [Yo h3, beq_iff_eq.2 h3]
      rwa [decide_eq_true (by omega : n.Op ≤ 5)] at kk
    rw [Yi h3]
    by_cases h4 : n.Op = 4
    · rw [Yo h4, beq_iff_eq.2 h4]
      rwa [decide_eq_true (by omega : n.Op ≤ 5)] at kk
    rw [Yi h4]
    rwa [show (n.Op == 5) = decide (n.Op ≤ 5) by
      by_cases h : n.Op = 5
      · rw [beq_iff_eq.2 h, decide_eq_true (by omega)]
      · rw [beq_eq_false_iff_ne.2 h, decide_eq_false (by omega)]]
theorem ref_ok {f : List Y4} (h60 : f.length ≤ 60) : ∀ (d e : Nat), RefC (f_R10_write_f (d + e)) f d
  | 0, e => fun T pre post l ht => by cases T; exact ht.elim
  | d + 1, e => by
    have := ref_body (ref_ok h60 d e) h60
    rw [show d + 1 + e = (d + e) + 1 by omega]
    exact fun T pre post l x1 x2 x3 x4 => by rw [f_R10_write_f]; exact this T pre post l x1 x2 x3 x4
theorem R10_Write_cells {T : Tr} {d : Nat} (ht : T.good d) (hd : d ≤ 8) (hl : T.flat.length ≤ 60) : f_R10_Write T.flat = some (T.cells [], 0) := by
  have e1 := ref_ok (f := T.flat) hl d (1000000 - d) T [] [] [] ht (by simp) (fun x hx => by simp at hx) (by simp; omega)
  rw [show d + (1000000 - d) = 1000000 by omega] at e1
  unfold f_R10_Write
  rw [R09_Valid_ok (Y3u d T ht) hd (by omega), X0, decide_eq_true hl, X17, cond_false]
  have e1' : f_R10_write T.flat 0 [] = some (T.cells []) := e1
  rw [e1', X0]
end Go.Proofs.YtioockkejhpleaaDoor
