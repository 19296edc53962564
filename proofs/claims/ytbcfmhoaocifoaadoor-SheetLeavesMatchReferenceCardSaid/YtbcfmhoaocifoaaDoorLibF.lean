/- Own work. -/
import Derived.Test.YtbcfmhoaocifoaaDoorLibE
set_option linter.unusedSimpArgs false
set_option linter.unusedVariables false
/-
 Own work. The generated walks, part 21: rules for slices of slices.
-/
namespace Go.Abs
open Go.RowKit
section
variable {P : Program} {N : Nat} {ops : Array Oper} {env : Env} {h : Hp}
def fmA {α : Type} (R : Nat) (e : TypeId) (k : Nat) (enc : α → List IV) (x : List (List α)) : Fm := ⟨R, e, k, x.map fun row => row.flatMap enc⟩
def nsA {α : Type} (ver : Nat) (t : TypeId) (R : Nat) (x : List (List α)) : Rt := ⟨ver, true, t, 1, Y4q R 0 (x.map List.length)⟩
theorem fmA_row {α : Type} {R : Nat} {e : TypeId} {k : Nat} {enc : α → List IV} {x : List (List α)} {i : Nat} (hi : i < x.length) : (fmA R e k enc x).rows[i]? = some ((x.getD i []).flatMap enc) := by
 simp only [fmA, X02, X4 hi, Xg, Xc, Xh]
theorem fmA_inv {α : Type} {R : Nat} {e : TypeId} {k : Nat} {enc : α → List IV} {x : List (List α)} {i : Nat} {row : List IV} (hr : (fmA R e k enc x).rows[i]? = some row) : i < x.length ∧ row = (x.getD i []).flatMap enc := by
 have hi : i < x.length := by
  have := (Xk.1 hr).1
  simpa [fmA] using this
 rw [fmA_row hi] at hr
 exact ⟨hi, (X1 hr).symm⟩
theorem Y5b {α : Type} {ver : Nat} {t : TypeId} {R : Nat} {x : List (List α)} {i : Nat} (hi : i < x.length) {off : Nat} (ho : off = i) : (nsA ver t R x).cs[off]? = some (.rsl (fid R i) 0 0 (x.getD i []).length) := by
 subst ho
 simp only [nsA, Y5m, X02, X4 hi, Xg, Xc, Xh, Xl]
theorem nsA_set {α : Type} {ver : Nat} {t : TypeId} {R : Nat} {x : List (List α)} {i j : Nat} {v : α} : nsA ver t R (x.set i ((x.getD i []).set j v)) = nsA ver t R x := by
 unfold nsA
 congr 2
 apply List.ext_getElem?
 intro q
 simp only [X02, List.getElem?_set]
 by_cases h : i = q
 ·subst h
  by_cases hi : i < x.length
  ·simp [hi, X4 hi, Xc]
  ·simp [hi]
 ·rw [if_neg h]
theorem row_f {α : Type} {hc : Hp} {fs : List Fm} {R : Nat} {e : TypeId} {k : Nat} {enc : α → List IV} {x : List (List α)} {i : Nat} (hok : (okF fs && okS hc) = true) (hf : Y3y fs R = some (fmA R e k enc x)) (hi : i < x.length) :
  Hp.at (hc ++ fmsH fs) (fid R i) = some (rtA 0 e k enc (x.getD i [])) := row_at (f := fmA R e k enc x) hok hf (fmA_row hi)
theorem own_eq {h h' : Hp} (he : ∀ t, h.at t = h'.at t) (B : Nat → Prop) (ι : Nat → Bk) : Own B h ι = Own B h' ι := by
 funext β
 simp only [Own, he]
theorem keep_eq {h h' : Hp} (he : ∀ t, h.at t = h'.at t) (B : Nat → Prop) (ι : Nat → Bk) (w : World) : Keep w h ι (Own B h ι) w h' ι (Own B h' ι) :=
 ⟨fun β _ hA => ⟨rfl, by rw [← own_eq he]; exact hA⟩, fun r rt hr => ⟨rt, by rw [← he]; exact hr, Xi _, fun _ => ⟨rfl, rfl⟩⟩⟩
theorem Hol.heapEq {X : Ctx} {h h' : Hp} {ι : Nat → Bk} {w : World} (he : ∀ t, h.at t = h'.at t) (H : Hol X h ι w) : Hol X h' ι w where
 roots r rt hr hl := by
  rw [← he] at hr
  rcases H.roots r rt hr hl with c | ⟨g, arr, c1, c2, c3, c4, c5, c6⟩
  ·exact .inl c
  ·exact .inr ⟨g, arr, c1, c2, c3, c4, VRL.keep (keep_eq he X.B ι w) _ _ c5, c6⟩
 inj r r' rt rt' g h1 h2 := H.inj r r' rt rt' g (by rw [he]; exact h1) (by rw [he]; exact h2)
 place r rt g h1 := H.place r rt g (by rw [he]; exact h1)
 os := H.os
 tape := H.tape
 output := H.output
 size := H.size
 frame := H.frame
 old := H.old
 glob := H.glob
 pin r b k hp := by
  obtain ⟨a, rt, c, d⟩ := H.pin r b k hp
  exact ⟨a, rt, by rw [← he]; exact c, d⟩
theorem OpsW.heapEq {h' : Hp} {l : List Oper} {K : Env → Hp → Prop} (he : ∀ t, h.at t = h'.at t) (hw : OpsW P N ops l env h' K) : OpsW P N ops l env h K :=
 fun X a w ι Q H S hQ => hw X a w ι Q (H.heapEq he) ⟨S.size, S.defers, fun i => VR.keep (keep_eq he X.B ι w) _ _ (S.at_ i)⟩ hQ
def fmRep : List Fm → Nat → Fm → List Fm
 | [], _, _ => []
 | f :: fs, R, g => if f.R = R then g :: fs else f :: fmRep fs R g
theorem fmFrom_set (R : Nat) (e : TypeId) (k : Nat) (hR : R < 100000) (row : List IV) : ∀ (rows : List (List IV)) (i j t : Nat), i < rows.length → (Y5o R e k j (rows.set i row)).at t = if fid R (j + i) = t then some (rowRt e k row) else (Y5o R e k j rows).at t
 | [], i, _, _, h => by simp at h
 | r :: rows, 0, j, t, h => by
  rw [List.set_cons_zero, Y5o, Y5o, Hp.at, Hp.at]
  by_cases h1 : fid R j = t
  ·rw [if_pos h1, if_pos (by rw [X0u]; exact h1)]
  ·rw [if_neg h1, if_neg (by rw [X0u]; exact h1), if_neg h1]
 | r :: rows, i + 1, j, t, h => by
  rw [List.set_cons_succ, Y5o, Y5o, Hp.at, Hp.at, fmFrom_set R e k hR row rows i (j + 1) t (by simpa using h), show j + 1 + i = j + (i + 1) by omega]
  by_cases h1 : fid R j = t
  ·have : ¬ fid R (j + (i + 1)) = t := fun h2 => by have := (fid_inj hR hR (h1.trans h2.symm)).2; omega
   rw [if_pos h1, if_neg this, if_pos h1]
  ·rw [if_neg h1, if_neg h1]
theorem fmsH_set : ∀ (fs : List Fm) (f : Fm) (i t : Nat) (row : List IV), okF fs = true → Y3y fs f.R = some f → i < f.rows.length → (fmsH (fmRep fs f.R { f with rows := f.rows.set i row })).at t = if fid f.R i = t then some (rowRt f.e f.k row) else (fmsH fs).at t
 | [], _, _, _, _, _, h, _ => by simp [Y3y] at h
 | g :: fs, f, i, t, row, ho, h, hi => by
  unfold okF at ho
  rw [X0i, X3, decide_eq_true_eq] at ho
  rw [Y3y] at h
  rw [fmRep]
  split at h
  ·rename_i he
   cases h
   rw [if_pos rfl, fmsH, fmsH, Y0s, Y0s, fmFrom_set g.R g.e g.k ho.1 row g.rows i 0 t hi, Xl]
   by_cases h1 : fid g.R i = t
   ·rw [if_pos h1, if_pos h1]
   ·rw [if_neg h1, if_neg h1]
  ·rename_i hne
   rw [if_neg hne, fmsH, fmsH, Y0s, Y0s, fmsH_set fs f i t row ho.2 h hi]
   by_cases h1 : fid f.R i = t
   ·rw [if_pos h1, if_pos h1]
    have hf : f.R < 100000 := by
     have : ∀ (l : List Fm), l.all (fun f => decide (f.R < 100000)) = true → Y3y l f.R = some f → f.R < 100000 := by
      intro l
      induction l with
      | nil => intro _ h; simp [Y3y] at h
      | cons x l ih =>
       intro ha hg
       rw [X0i, X3, decide_eq_true_eq] at ha
       rw [Y3y] at hg
       split at hg
       ·cases hg; exact ha.1
       ·exact ih ha.2 hg
     exact this fs ho.2 h
    have : (Y5o g.R g.e g.k 0 g.rows).at t = none := fmFrom_not _ _ _ _ _ _ fun j e => hne (fid_inj hf ho.1 (h1.trans e)).1.symm
    rw [this]
   ·rw [if_neg h1, if_neg h1]
theorem Y1x {o : Oper} {rest : List Oper} {K : Env → Hp → Prop} {t : TypeId} {x y : Operand} {α : Type} {enc : α → List IV} {hc hc' : Hp} {fs : List Fm} {R : Nat} {e : TypeId} {k : Nat} {xs : List (List α)} (d v : α) (cs : List IV) (i j off : Nat) (ho : o.op = .store t x y) (hgu : o.guard = none) (hdn : o.dst = none)
  (hx : st (rdo env x) = .ref (fid R i) 0 (j * k + off)) (hgx : gd (rdo env x)) (hgy : gd (rdo env y)) (hok : (okF fs && okS hc) = true) (hf : Y3y fs R = some (fmA R e k enc xs)) (hk : ∀ a, (enc a).length = k) (hy : Y2z (st (rdo env y)) = cs.map .im) (hsz : szt P t = some cs.length) (hokC : okC (hc ++ fmsH fs) (st (rdo env y)))
  (hi : i < xs.length) (hj : j < (xs.getD i []).length) (ho2 : off + cs.length ≤ k) (hp : putA (enc ((xs.getD i []).getD j d)) off cs = enc v) (hhc : hc' = hc)
  (hw : OpsW P N ops rest env (hc' ++ fmsH (fmRep fs R (fmA R e k enc (xs.set i ((xs.getD i []).set j v))))) K) : OpsW P N ops (o :: rest) env (hc ++ fmsH fs) K := by
 subst hhc
 refine OpsW.storeT (l := xs.getD i []) d v cs j off ho hgu hdn hx hgx hgy (row_f hok hf hi) hk hy hsz hokC hj ho2 hp ?_
 refine OpsW.heapEq (fun t => ?_) hw
 rw [X3] at hok
 have hrow : fmA R e k enc (xs.set i ((xs.getD i []).set j v)) = { fmA R e k enc xs with rows := (fmA R e k enc xs).rows.set i (((xs.getD i []).set j v).flatMap enc) } := by
  simp only [fmA, List.map_set]
 have hS := fmsH_set fs (fmA R e k enc xs) i t (((xs.getD i []).set j v).flatMap enc) hok.1 hf (by simpa [fmA] using hi)
 rw [← hrow] at hS
 rw [Hp.at, Y0s, Y0s]
 have hS' : (fmsH (fmRep fs R (fmA R e k enc (xs.set i ((xs.getD i []).set j v))))).at t = if fid R i = t then some (rowRt e k (((xs.getD i []).set j v).flatMap enc)) else (fmsH fs).at t := hS
 rw [hS']
 by_cases h1 : fid R i = t
 ·rw [if_pos h1, if_pos h1, ← h1, okS_none hok.2 (fid_big _ _)]
  rfl
 ·rw [if_neg h1, if_neg h1]
/- The cells of the slice of slices, told anew. -/
theorem CstL.get {h h' : Hp} {φ : Nat → Option Nat} : ∀ {xs ys : List AV}, xs.length = ys.length → (∀ (i : Nat) (x y : AV), xs[i]? = some x → ys[i]? = some y → Cst h h' φ x y) → CstL h h' φ xs ys
 | [], [], _, _ => .nil
 | [], _ :: _, hl, _ => by simp at hl
 | _ :: _, [], hl, _ => by simp at hl
 | x :: xs, y :: ys, hl, hg => .cons (hg 0 x y rfl rfl) (CstL.get (by simpa using hl) fun i a b ha hb => hg (i + 1) a b (by simpa using ha) (by simpa using hb))
section
variable {α : Type} {hc hc' : Hp} {fs fs' : List Fm} {l : List (Nat × Option Nat)} {m : List (Nat × FM)} {R R' : Nat} {e : TypeId} {k : Nat} {enc : α → List IV} {x : List (List α)}
theorem nsSame (hok : (okF fs && okS hc) = true) (hok' : (okF fs' && okS hc') = true) (hR : R' < 100000) (hf : Y3y fs R = some (fmA R e k enc x)) (hf' : Y3y fs' R' = some (fmA R' e k enc x)) (hm : fmLook m R' = some (.same R)) :
  CstL (hc ++ fmsH fs) (hc' ++ fmsH fs') (phF l m) (Y4q R 0 (x.map List.length)) (Y4q R' 0 (x.map List.length)) := by
 refine CstL.get (by rw [Y2r, Y2r]) fun i a b ha hb => ?_
 rw [Y5m, Xl] at ha hb
 obtain ⟨n, hn, rfl⟩ := X0k.1 ha
 rw [hn] at hb
 cases X1 hb
 have hi : i < x.length := by
  have := (Xk.1 hn).1
  simpa using this
 exact .rsl (row_f hok hf hi) (row_f hok' hf' hi) (phF_fid hR hm) rfl rfl rfl
theorem nsPut {q i off n : Nat} {row : List α} (hok : (okF fs && okS hc) = true) (hok' : (okF fs' && okS hc') = true) (hR : R' < 100000) (hf : Y3y fs R = some (fmA R e k enc x)) (hf' : Y3y fs' R' = some (fmA R' e k enc (x.set i row))) (hm : fmLook m R' = some (.put R i q))
  {h : Hp} (hh : h = hc ++ fmsH fs) (hq : h.at q = some (rtA 0 e k enc row)) (hi : i < x.length) (ho : off = i) (hn : n = row.length) :
  CstL h (hc' ++ fmsH fs') (phF l m) (putA (Y4q R 0 (x.map List.length)) off [.rsl q 0 0 n]) (Y4q R' 0 ((x.set i row).map List.length)) := by
 subst hh ho hn
 have hlen : (Y4q R 0 (x.map List.length)).length = x.length := by rw [Y2r, X01]
 refine CstL.get (by rw [Y2r]; simp [putA, hlen]; omega) fun j a b ha hb => ?_
 rw [Y5m, Xl] at hb
 obtain ⟨n, hn, rfl⟩ := X0k.1 hb
 rw [X02] at hn
 obtain ⟨rw', hrw, rfl⟩ := X0k.1 hn
 have hj : j < x.length := by
  have := (Xk.1 hrw).1
  simpa using this
 have h2 := row_f (i := j) hok' hf' (by simpa using hj)
 by_cases hji : j = off
 ·subst hji
  have ea : a = .rsl q 0 0 row.length := by
   unfold putA at ha
   rw [X03, X09 (by rw [Xq, hlen]; omega), Xq, hlen, X0v (by omega), Nat.sub_self] at ha
   simpa using ha.symm
  have er : rw' = row := by
   rw [List.getElem?_set_self (by omega)] at hrw
   exact (X1 hrw).symm
  subst ea er
  exact .rsl hq h2 (by rw [phF_fid hR hm]; simp [FM.to]) rfl rfl rfl
 ·have ea : a = .rsl (fid R j) 0 0 rw'.length := by
   have : (putA (Y4q R 0 (x.map List.length)) off [AV.rsl q 0 0 row.length])[j]? = (Y4q R 0 (x.map List.length))[j]? := by
    unfold putA
    rw [X03]
    rcases Nat.lt_or_ge j off with h | h
    ·rw [X0o (by rw [Xq, hlen]; omega), Xa, if_pos h]
    ·rw [X09 (by rw [Xq, hlen]; omega), Xq, hlen, X0v (by omega), X09 (by simp; omega), X0e]
     congr 1
     simp
     omega
   rw [this, Y5m, Xl, X02] at ha
   rw [List.getElem?_set_ne (fun e => hji e.symm)] at hrw
   rw [hrw] at ha
   simpa using ha.symm
  subst ea
  exact .rsl (row_f hok hf hj) h2 (by rw [phF_fid hR hm]; simp [FM.to, hji]) rfl rfl rfl
theorem nsSnoc {q n : Nat} {row : List α} {xl : Nat} (hok : (okF fs && okS hc) = true) (hok' : (okF fs' && okS hc') = true) (hR : R' < 100000) (hf : Y3y fs R = some (fmA R e k enc x)) (hf' : Y3y fs' R' = some (fmA R' e k enc (x ++ [row]))) (hm : fmLook m R' = some (.put R x.length q))
  {h : Hp} (hh : h = hc ++ fmsH fs) (hq : h.at q = some (rtA 0 e k enc row)) (hn : n = row.length) (hxl : xl = x.length) :
  CstL h (hc' ++ fmsH fs') (phF l m) ((Y4q R 0 (x.map List.length)).take (xl * 1) ++ [.rsl q 0 0 n]) (Y4q R' 0 ((x ++ [row]).map List.length)) := by
 subst hh hn hxl
 have hlen : (Y4q R 0 (x.map List.length)).length = x.length := by rw [Y2r, X01]
 rw [Nat.mul_one, Xx (by omega)]
 refine CstL.get (by rw [Y2r]; simp [hlen]) fun j a b ha hb => ?_
 rw [Y5m, Xl] at hb
 obtain ⟨n, hn, rfl⟩ := X0k.1 hb
 rw [X02] at hn
 obtain ⟨rw', hrw, rfl⟩ := X0k.1 hn
 have hj : j < x.length + 1 := by
  have := (Xk.1 hrw).1
  simpa using this
 have h2 := row_f (i := j) hok' hf' (by simpa using hj)
 by_cases hji : j = x.length
 ·subst hji
  have ea : a = .rsl q 0 0 row.length := by
   rw [X09 (by omega), hlen, Nat.sub_self] at ha
   simpa using ha.symm
  have er : rw' = row := by simpa using hrw.symm
  subst ea er
  exact .rsl hq h2 (by rw [phF_fid hR hm]; simp [FM.to]) rfl rfl rfl
 ·have hj2 : j < x.length := by omega
  have ea : a = .rsl (fid R j) 0 0 rw'.length := by
   rw [X0o (by omega), Y5m, Xl, X02] at ha
   rw [X0o hj2] at hrw
   rw [hrw] at ha
   simpa using ha.symm
  subst ea
  exact .rsl (row_f hok hf hj2) h2 (by rw [phF_fid hR hm]; simp [FM.to, hji]) rfl rfl rfl
theorem nsNil {n : Nat} {h : Hp} (hok' : (okF fs' && okS hc') = true) (hR : R' < 100000) (hf' : Y3y fs' R' = some (fmA R' e k enc (List.replicate n []))) (hm : fmLook m R' = some .nil) :
  CstL h (hc' ++ fmsH fs') (phF l m) (Y0u [.slice none 0 0] n) (Y4q R' 0 ((List.replicate n ([] : List α)).map List.length)) := by
 have e1 : Y0u [.slice none 0 0] n = List.replicate n (.im (.val (.slice none 0 0))) := by
  unfold Y0u
  induction n with
  | zero => rfl
  | succ n ih => simp [X13]
 rw [e1]
 refine CstL.get (by rw [Y2r]; simp) fun j a b ha hb => ?_
 rw [Y5m, Xl] at hb
 obtain ⟨q, hq, rfl⟩ := X0k.1 hb
 have hj : j < n := by
  have := (Xk.1 hq).1
  simpa using this
 have h2 := row_f (i := j) hok' hf' (by simpa using hj)
 have ea : a = .im (.val (.slice none 0 0)) := by
  have := X0j ha
  exact (List.mem_replicate.1 this).2
 have eq0 : q = 0 := by
  rw [X02, List.getElem?_replicate, if_pos hj] at hq
  simpa using hq.symm
 subst ea eq0
 exact .nilr h2 (by rw [phF_fid hR hm]; rfl) rfl
theorem Ym {h : Hp} (hf : Y3y fs R = some (fmA R e k enc x)) : FmC h fs (fmA R' e k enc x) (.same R) := ⟨_, hf, rfl, rfl, rfl, rfl⟩
theorem fmPut {h : Hp} {q i : Nat} {row : List α} (hf : Y3y fs R = some (fmA R e k enc x)) (hq : h.at q = some (rtA 0 e k enc row)) (hi : i < x.length) : FmC h fs (fmA R' e k enc (x.set i row)) (.put R i q) := by
 refine ⟨_, _, hf, rfl, rfl, rfl, hq, rfl, rfl, rfl, fun j r hr => ?_⟩
 obtain ⟨hj, rfl⟩ := fmA_inv hr
 have hj2 : j < x.length := by simpa using hj
 clear hj
 by_cases e : j = i
 ·subst e
  rw [if_pos rfl, Xc, List.getElem?_set_self hj2]
  rfl
 ·rw [if_neg e, fmA_row hj2, Xc, Xc, List.getElem?_set_ne (fun h => e h.symm)]
theorem fmSnoc {h : Hp} {q : Nat} {row : List α} (hf : Y3y fs R = some (fmA R e k enc x)) (hq : h.at q = some (rtA 0 e k enc row)) : FmC h fs (fmA R' e k enc (x ++ [row])) (.put R x.length q) := by
 refine ⟨_, _, hf, rfl, rfl, rfl, hq, rfl, rfl, rfl, fun j r hr => ?_⟩
 obtain ⟨hj, rfl⟩ := fmA_inv hr
 have hj : j < x.length + 1 := by simpa using hj
 by_cases e : j = x.length
 ·subst e
  rw [if_pos rfl, Xc, X09 (Xi _), Nat.sub_self]
  rfl
 ·rw [if_neg e, fmA_row (by omega), Xc, Xc, X0o (by omega)]
theorem fmNil {h : Hp} {n : Nat} : FmC h fs (fmA R' e k enc (List.replicate n [])) .nil := by
 intro row hr
 obtain ⟨a, ha, rfl⟩ := X06.1 hr
 rw [(List.mem_replicate.1 ha).2]
 rfl
end
end
end Go.Abs
/-
 Own work. The generated walks, part 22: slices of slices are given up to be read; roots made in drawn regions.
-/
namespace Go.Abs
open Go.RowKit
section
variable {P : Program} {N : Nat} {ops : Array Oper} {env : Env} {h h' : Hp} {φ : Nat → Option Nat} {X : Ctx} {ι : Nat → Bk} {w : World}
theorem not_own' (H : Hol X h ι w) (hroot : ∀ r' rt' r, h'.at r' = some rt' → rt'.live = true → φ r' = some r → ∃ rt, h.at r = some rt ∧ rt.live = true) {r : Nat} {rt : Rt} (h1 : h.at r = some rt) (h3 : rt.live = true)
  (h6 : ∀ r' rt', h'.at r' = some rt' → φ r' ≠ some r) {β : Nat} (hg : (ι r).blk = some β) : ¬ Own X.B h' (Y5s ι φ) β := by
 rintro (hb | ⟨r', rt', hr', hl, hg'⟩)
 ·exact (H.place r rt β h1 h3 hg).1 hb
 ·unfold Y5s at hg'
  cases hφ : φ r' with
  | none => rw [hφ] at hg'; simp at hg'
  | some q =>
   rw [hφ] at hg'
   obtain ⟨rt2, h8, h9⟩ := hroot r' rt' q hr' hl hφ
   have hq := H.inj q r rt2 rt β h8 h1 h9 h3 hg' hg
   subst hq
   exact h6 r' rt' hr' hφ
theorem frz_sound (H : Hol X h ι w) (hown : ∀ β, Own X.B h' (Y5s ι φ) β → Own X.B h ι β) (hroot : ∀ r' rt' r, h'.at r' = some rt' → rt'.live = true → φ r' = some r → ∃ rt, h.at r = some rt ∧ rt.live = true)
  {r ver off n : Nat} {rt : Rt} {ys : List IV} (h1 : h.at r = some rt) (h2 : rt.ver = ver) (h3 : rt.live = true) (h4 : (rt.cs.drop off).take (n * rt.k) = ys.map .im) (h5 : ys.length = n * rt.k) (h6 : ∀ r' rt', h'.at r' = some rt' → φ r' ≠ some r)
  {v : Value} (hv : VR w h ι (Own X.B h ι) (.rsl r ver off n) v) : VRI w (Own X.B h' (Y5s ι φ)) (.sl ys n) v := by
 have hsrc := ArgS.slice (h := h) (bs := [r]) (by simp) h1 h2 h3 h4 h5 X ι w _ H hv
 have := VR.pure (h' := h') (ι' := Y5s ι φ) (A' := Own X.B h' (Y5s ι φ)) (w' := w) (fun β _ hA => ⟨rfl, fun ho => hA ⟨hown β ho, fun s hs hg => by
  simp at hs
  subst hs
  exact not_own' H hroot h1 h3 h6 hg ho⟩⟩) _ _ rfl hsrc
 simpa only [VR] using this
theorem nsI {α : Type} {R : Nat} {e : TypeId} {k : Nat} {enc : α → List IV} (hk : ∀ a, (enc a).length = k) (H : Hol X h ι w) (hown : ∀ β, Own X.B h' (Y5s ι φ) β → Own X.B h ι β) (hroot : ∀ r' rt' r, h'.at r' = some rt' → rt'.live = true → φ r' = some r → ∃ rt, h.at r = some rt ∧ rt.live = true)
  (h6 : ∀ i r' rt', h'.at r' = some rt' → φ r' ≠ some (fid R i)) : ∀ (x : List (List α)) (j : Nat) (l : List Value), (∀ i, i < x.length → h.at (fid R (j + i)) = some (rtA 0 e k enc (x.getD i []))) → VRL w h ι (Own X.B h ι) (Y4q R j (x.map List.length)) l →
   VRIL w (Own X.B h' (Y5s ι φ)) (x.flatMap (eL enc)) l
 | [], j, l, _, hv => by simpa only [X0q, Y4q, VRL, List.flatMap_nil, VRIL] using hv
 | row :: x, j, l, hr, hv => by
  rw [X00, Y4q] at hv
  simp only [VRL] at hv
  obtain ⟨v, l', rfl, h1, h2⟩ := hv
  have h0 := hr 0 (by simp)
  rw [X0u] at h0
  have e1 : (row :: x).getD 0 [] = row := rfl
  rw [e1] at h0
  rw [Xv, eL, X0a, X18]
  simp only [VRIL]
  refine ⟨v, l', rfl, ?_, nsI (e := e) hk H hown hroot h6 x (j + 1) l' (fun i hi => ?_) h2⟩
  ·exact frz_sound H hown hroot h0 rfl rfl (Y1b enc k hk row) (Yy enc k hk row) (h6 j) h1
  ·have := hr (i + 1) (by simpa using hi)
   rw [show j + (i + 1) = j + 1 + i by omega] at this
   simpa using this
def noR (l : List (Nat × Option Nat)) (m : List (Nat × FM)) (r R : Nat) : Bool := decide (r < 100000) && decide (R < 100000) && l.all (fun p => !(p.2 == some r) && (match p.2 with | some a => decide (a < 100000) | none => true)) &&
 m.all fun x => !(x.2.q == some r) && (match x.2.q with | some q => decide (q < 100000) | none => true) && !(x.2.src == some R) && (match x.2.src with | some S => decide (S < 100000) | none => true)
theorem noR_r {l : List (Nat × Option Nat)} {m : List (Nat × FM)} {r R : Nat} (hn : noR l m r R = true) (t : Nat) : phF l m t ≠ some r := by
 unfold noR at hn
 simp only [X3, decide_eq_true_eq] at hn
 obtain ⟨⟨⟨h1, h2⟩, h3⟩, h4⟩ := hn
 intro e
 unfold phF at e
 split at e
 ·obtain ⟨p, hp, hx⟩ := phi_mem e
  have := X7.1 h3 p hp
  rw [hx] at this
  simp at this
 ·obtain ⟨x, hx, hy⟩ := Option.bind_eq_some_iff.1 e
  have := X7.1 h4 _ (fmLook_mem hx)
  simp only [X3] at this
  rcases FM.to_src hy with ⟨S, hs, he⟩ | hq
  ·have := fid_big S (t / 100000 - 1)
   omega
  ·have := this.1.1.1
   rw [hq] at this
   simp at this
theorem noR_f {l : List (Nat × Option Nat)} {m : List (Nat × FM)} {r R : Nat} (hn : noR l m r R = true) (i t : Nat) : phF l m t ≠ some (fid R i) := by
 unfold noR at hn
 simp only [X3, decide_eq_true_eq] at hn
 obtain ⟨⟨⟨h1, h2⟩, h3⟩, h4⟩ := hn
 intro e
 have hb := fid_big R i
 unfold phF at e
 split at e
 ·obtain ⟨p, hp, hx⟩ := phi_mem e
  have := X7.1 h3 p hp
  rw [hx] at this
  simp only [X3, decide_eq_true_eq] at this
  omega
 ·obtain ⟨x, hx, hy⟩ := Option.bind_eq_some_iff.1 e
  have := X7.1 h4 _ (fmLook_mem hx)
  simp only [X3] at this
  rcases FM.to_src hy with ⟨S, hs, he⟩ | hq
  ·have h5 := this.2
   rw [hs] at h5
   simp only [decide_eq_true_eq] at h5
   have := (fid_inj h2 h5 he).1
   subst this
   have h7 := this.1.2
   rw [hs] at h7
   simp at h7
  ·have h5 := this.1.1.2
   rw [hq] at h5
   simp only [decide_eq_true_eq] at h5
   omega
theorem Y10 {α : Type} {hc : Hp} {fs : List Fm} {l : List (Nat × Option Nat)} {m : List (Nat × FM)} {r ver R n : Nat} {t e : TypeId} {k : Nat} {enc : α → List IV} {x : List (List α)} (hok : (okF fs && okS hc) = true) (hf : Y3y fs R = some (fmA R e k enc x)) (hk : ∀ a, (enc a).length = k)
  (hr : Hp.at (hc ++ fmsH fs) r = some (nsA ver t R x)) (hn : noR l m r R = true) (hxl : n = x.length) : Cst (hc ++ fmsH fs) h' (phF l m) (.rsl r ver 0 n) (slA (eL enc) x) := by
 subst hxl
 refine .sem fun X w ι v H hown hroot hv => ?_
 obtain ⟨rt', hrt', _, hk', ao, c, rfl, hnc, hcase⟩ := Y4o (k := 1) hv (by rw [hr]; rfl)
 rw [hr] at hrt'
 cases hrt'
 have hR := H.roots r _ hr rfl
 have hN : ∀ β, (ι r).blk = some β → ¬ Own X.B h' (Y5s ι (phF l m)) β := fun β hβ => not_own' (h' := h') (φ := phF l m) H hroot hr rfl (fun r' rt' _ => noR_r hn r') hβ
 simp only [VRI]
 rcases hcase with ⟨b1, rfl, b2, rfl, b3⟩ | ⟨g, hg, ⟨rfl, hcap⟩ | ⟨b1, rfl⟩⟩
 ·have : x = [] := Xj b2
  subst this
  exact ⟨none, 0, [], rfl, Xi _, by simp, fun a ha => by simp at ha, by simp [VRIL]⟩
 ·obtain ⟨arr, h1, h2, h3, h4, h5⟩ := hR.row hg
  have hl : (nsA ver t R x).cs.length = x.length := by simp only [nsA, Y2r, X01]
  refine ⟨some ⟨g, 0, none⟩, c, _, rfl, hnc, fun e => by simp at e, ?_, nsI (e := e) hk H hown hroot (fun i r' rt' _ => noR_f hn i r') x 0 _ (fun i hi => by rw [Xl]; exact row_f hok hf hi) h4⟩
  intro a ha
  simp at ha
  subst ha
  intro i u hu
  have hu' := hu
  rw [Xa] at hu
  split at hu
  ·refine ⟨?_, hN _ hg, h5 u (X0j hu')⟩
   rw [Y3x, cell_of_row w g (0 + i) arr _ (0, 0) h1, Xl]
   simpa using hu
  ·simp at hu
 ·have : x = [] := Xj b1
  subst this
  exact ⟨ao, 0, [], rfl, Xi _, by simp, fun a ha i u hu => by simp at hu, by simp [VRIL]⟩
theorem RStep.make {o : Oper} {t e : TypeId} {k bytes : Nat} {z : List Value} {x y : Operand} (ho : o.op = .makeSlice t x y) (r : Nat) (hr : h.at r = none) (E : Elem P t e k bytes z) {kx ky : IntKind} {l c : Int} (hx : rdo env x = .int kx l) (hy : rdo env y = .int ky c) (h0 : 0 ≤ l) (hlc : l ≤ c) (hb : (bytes : Int) * c ≤ 281474976710656) (h63 : c ≤ 9223372036854775807) :
  RStep P o env h r ⟨0, true, e, k, Y0u z l.toNat⟩ (.rsl r 0 0 l.toNat) := by
 intro X a w ι Q next H hop hn
 obtain ⟨i, zu, hi, hisz, hiby, hiz, hzu⟩ := E.info
 have hxv := hop x (by simp [ho, Op.operands])
 have hyv := hop y (by simp [ho, Op.operands])
 rw [hx, Y0p] at hxv
 rw [hy, Y0p] at hyv
 have hzs : zu.cells.size = k := by rw [← E.zlen, ← hzu]; simp
 have hr1 := run_make (P := P) w t e i zu (Y35 E.sle) hi hiz kx ky l c h0 hlc (by rw [hiby]; exact hb) h63
 rw [hisz] at hr1
 have hal : (madeCells zu.cells (c.toNat * k)).toList = (List.replicate c.toNat z).flatten := by
  unfold madeCells
  rw [zeros_eq zu.cells k c.toNat hzs E.pos, hzu]
 have htk : (madeCells zu.cells (c.toNat * k)).toList.take (Y0u z l.toNat).length = (List.replicate l.toNat z).flatten := by
  have h1 : (Y0u z l.toNat).length = ((List.replicate l.toNat z).flatten).length := by simp [Y0u]
  rw [hal, h1]
  have h2 : List.replicate c.toNat z = List.replicate l.toNat z ++ List.replicate (c.toNat - l.toNat) z := by rw [List.replicate_append_replicate]; congr 1; omega
  rw [h2, List.flatten_append]
  exact List.take_left
 obtain ⟨H', K'⟩ := H.alloc r hr e k c.toNat (Y0u z l.toNat) (madeCells zu.cells (c.toNat * k)) (size_madeCells _ _) (by simp only [maxLen]; omega) (by rw [htk]; exact VRL.vals _) (by
  rw [htk]
  intro u hu
  obtain ⟨y, hy, huy⟩ := List.mem_flatten.1 hu
  rw [List.eq_of_mem_replicate hy] at huy
  exact X7.1 E.one u huy)
 have hrun : (execOp a.eval o).run P w = .ok (.value (.slice (some ⟨w.heap.size, 0, none⟩) l.toNat c.toNat)) (w.alloc (.cells (madeCells zu.cells (c.toNat * k)) e)) := by
  simp only [execOp, ho, X9, hxv, hyv, hr1, Xm, Xz]
 simp only [Oper.wp, hrun, Oper.upon]
 refine hn _ _ _ H' K' (VR.newrsl (rt := ⟨0, true, e, k, _⟩) ?_)
 exact ⟨_, _, rfl, by omega, .inr ⟨w.heap.size, rfl, .inl ⟨rfl, by simp⟩⟩⟩
end
end Go.Abs
/-
 Own work. The generated walks, part 23: copy of a whole slice; parts of slices with a capacity.
-/
namespace Go.Abs
open Go.RowKit
section
variable {P : Program} {N : Nat} {ops : Array Oper} {env : Env} {h : Hp}
theorem OpsW.copyW {o : Oper} {rest : List Oper} {K : Env → Hp → Prop} {s x : Operand} {t u e : TypeId} {k bytes : Nat} {z : List Value} (ho : o.op = .call ⟨.builtin .copy, #[s, x], #[t, u]⟩) (hgu : o.guard = none) (hd : o.dst.all (· < N) = true)
  {r ver n : Nat} {rt : Rt} {news : List AV} (E : Elem P t e k bytes z) (hs : rdo env s = .rsl r ver 0 n) (hrt : h.at r = some rt) (hver : rt.ver = ver) (hl : rt.live = true) (he : rt.e = e) (hk : rt.k = k) (hn : rt.cs.length = n * k)
  (hx : gd (rdo env x)) (src : SrcA P h u k (st (rdo env x)) n news)
  (hw : OpsW P N ops rest (setd env o.dst (.int .i64 n)) ((r, ⟨ver, true, e, k, news⟩) :: h) K) : OpsW P N ops (o :: rest) env h K := by
 refine OpsW.root hgu hd r _ _ ?_ hw
 intro X a w ι Q next H hop hnx
 obtain ⟨hud, hsrc⟩ := src
 obtain ⟨hlen, l, hvl, hl1, hll, hfc⟩ := hsrc X ι w (a.eval x) H ((hop x).st hx)
 have hsv0 := hop s
 rw [hs] at hsv0
 obtain ⟨i, zu, hi, hisz, hiby, hiz, hzu⟩ := E.info
 obtain ⟨rt', hrt', _, _, ao, c, hsv, hnc, hcase⟩ := Y4o (k := k) hsv0 (by simp [hrt, hver, hk])
 rw [hrt] at hrt'
 cases hrt'
 have hnl : news.length = n * k := by rw [← hll]; exact hvl.length.symm
 have hexec : ∀ v w', (Builtin.copy_ #[t, u] o.type #[.slice ao n c, a.eval x]).run P w = .ok v w' → (execOp a.eval o).run P w = .ok (.value v) w' := by
  intro v w' hr
  simp only [execOp, ho, resolve, invoke, builtin, X9, Xz, Xm, X14, X00, X0q, hsv, hr]
 have hR := H.roots r rt hrt hl
 by_cases h0 : n = 0
 ·subst h0
  have hl0 : l = [] := Xj (by simpa using hll)
  have hn0 : news = [] := Xj (by simpa using hnl)
  subst hl0 hn0
  have hr : (Builtin.copy_ #[t, u] o.type #[.slice ao 0 c, a.eval x]).run P w = .ok (goInt 0) w := by
   have h2 := hfc w rfl
   cases ao <;> simp [Builtin.copy_, run_underlying (Y35 E.sle), hlen, sizeOf, typeInfo, hi, hisz, h2, storeCells]
  have hup := H.upd r ⟨ver, true, e, k, []⟩ (ι r) w rfl rfl rfl (Xi _)
   (fun β _ _ => rfl) (fun rt2 h2 => by rw [hrt] at h2; cases h2; exact .inr ⟨hver.symm, rfl, hk.symm⟩) (fun _ g' hg' => .inr ⟨rt, hrt, hl, hg'⟩) (fun _ Kp => by
    rcases hR with ⟨c1, c2, c3⟩ | ⟨g, arr, c1, c2, c3, c4, c5⟩
    ·exact .inl ⟨c1, rfl, c3⟩
    ·exact .inr ⟨g, arr, c1, by rw [c2, he], by rw [c3, hk], c4, by simp [VRL], by simp⟩)
  simp only [Oper.wp, hexec _ _ hr, Oper.upon]
  exact hnx _ _ _ hup.1 hup.2 (by simp [VR, VRI, goInt])
 ·rcases hcase with ⟨_, _, h1, _⟩ | ⟨g, hg, ⟨rfl, hcap⟩ | ⟨h1, _⟩⟩
  ·exact absurd h1 h0
  ·obtain ⟨arr, c1, c2, c3, c4, c5⟩ := hR.row hg
   have hal : n * k ≤ arr.size := by
    have := c4.length
    rw [hn] at this
    simp at this
    omega
   have hst := run_storeCells_at P g 0 rt.e l 0 arr w c1 (by simp; omega) hl1
   simp only [X0u, Xl, List.take_zero, X18] at hst
   have hr : (Builtin.copy_ #[t, u] o.type #[.slice (some ⟨g, 0, none⟩) n c, a.eval x]).run P w = .ok (goInt n) (w.setRow g (l ++ arr.toList.drop l.length).toArray) := by
    have h2 := hfc w rfl
    have hmin : Nat.min n n = n := Nat.min_self n
    simp [Builtin.copy_, run_underlying (Y35 E.sle), hlen, sizeOf, typeInfo, hi, hisz, h2, hst]
   have htk : ((l ++ arr.toList.drop l.length).toArray.toList.take news.length) = l := by
    rw [show (l ++ arr.toList.drop l.length).toArray.toList = l ++ arr.toList.drop l.length from rfl, List.take_left' (by rw [hnl, hll])]
   have hup := H.upd r ⟨ver, true, e, k, news⟩ (ι r) (w.setRow g (l ++ arr.toList.drop l.length).toArray) rfl rfl rfl (by simp)
    (fun β hβ hne => setRow_other w g β _ (fun ee => hne rt hrt hl (by rw [ee]; exact hg))) (fun rt2 h2 => by rw [hrt] at h2; cases h2; exact .inr ⟨hver.symm, rfl, hk.symm⟩) (fun _ g' hg' => .inr ⟨rt, hrt, hl, hg'⟩) (fun _ Kp => by
     refine .inr ⟨g, _, hg, by rw [← he]; exact setRow_heap w g arr _ rt.e _ c1, ?_, c3, ?_, ?_⟩
     ·simp only [X0l, Xu, X1f, X0m]
      rw [← hk, ← c2]
      omega
     ·dsimp only
      rw [htk]
      exact VRL.keep Kp _ _ hvl
     ·dsimp only
      rw [htk]
      exact hl1)
   simp only [Oper.wp, hexec _ _ hr, Oper.upon]
   exact hnx _ _ _ hup.1 hup.2 (by simp [VR, VRI, goInt])
  ·exact absurd h1 h0
theorem OpsW.copyF {o : Oper} {rest : List Oper} {K : Env → Hp → Prop} {s x : Operand} {t u e : TypeId} {k bytes : Nat} {z : List Value} {α : Type} {enc : α → List IV} {l ys : List α} (ho : o.op = .call ⟨.builtin .copy, #[s, x], #[t, u]⟩) (hgu : o.guard = none) (hd : o.dst.all (· < N) = true)
  {r ver : Nat} (E : Elem P t e k bytes z) (hk : ∀ a, (enc a).length = k) (hs : rdo env s = .rsl r ver 0 l.length) (hrt : h.at r = some (rtA ver e k enc l)) (hx : gd (rdo env x)) (src : SrcA P h u k (st (rdo env x)) ys.length ((ys.flatMap enc).map .im)) (hyl : ys.length = l.length)
  (hw : OpsW P N ops rest (setd env o.dst (.int .i64 (l.length : Int))) ((r, rtA ver e k enc ys) :: h) K) : OpsW P N ops (o :: rest) env h K := by
 refine OpsW.copyW ho hgu hd E hs hrt rfl rfl rfl rfl (by simp only [X01]; rw [Yy enc k hk]) hx (hyl ▸ src) hw
end
end Go.Abs
/-
 Own work. The generated walks, part 24: calls of functions that variables hold.
-/
namespace Go.Abs
open Go.RowKit
section
variable {P : Program} {N : Nat} {ops : Array Oper} {env : Env} {h : Hp}
theorem OpsW.valF {o : Oper} {f : FuncId} {y : Operand} {xs : List Operand} {ts : Array TypeId} {rest : List Oper} {K : Env → Hp → Prop} (ho : o.op = .call ⟨.value y, xs.toArray, ts⟩) (hy : rdo env y = .im (.val (.func (.func f) #[] #[]))) (hc : Y5a P f = true)
  (hw : OpsW P N ops ({ o with op := .call ⟨.value (.func f), xs.toArray, ts⟩ } :: rest) env h K) : OpsW P N ops (o :: rest) env h K := by
 intro X a w ι Q H S hQ
 have hev : a.eval y = .func (.func f) #[] #[] := by
  have := S.eval H.globOK y
  rw [hy, Y06] at this
  exact this
 have h1 := hw X a w ι Q H S hQ
 have e0 : a.eval (.func f) = .func (.func f) #[] #[] := rfl
 have e1 : execOp a.eval o = execOp a.eval { o with op := .call ⟨.value (.func f), xs.toArray, ts⟩ } := by
  simp only [execOp, ho, resolve, hev, e0]
 simp only [wpList, Oper.wp, Oper.asks] at h1 ⊢
 rw [e1]
 exact h1
theorem sliceMax_core {o : Oper} {t : TypeId} {x y z : Operand} {cs : List IV} {n k : Nat} {j : Int} (ho : o.op = .slice t x none (some y) (some z)) (ht : tk P t = 1) (hk : ez P t = some k)
  (hgd : gd (rdo env x)) (hsl : st (rdo env x) = .im (.sl cs n)) (hgy : gd (rdo env y)) (hy : st (rdo env y) = .int .i64 j) (hgz : gd (rdo env z)) (hz : st (rdo env z) = .int .i64 j) (hj : 0 ≤ j ∧ j ≤ (n : Int))
  (X : Ctx) (a : Act) (w : World) (ι : Nat → Bk) (Q : Exit → Act → World → Prop) (H : Hol X h ι w) (hop : ∀ x, x ∈ o.op.operands → VR w h ι (Own X.B h ι) (rdo env x) (a.eval x))
  (next : Act → World → Prop) (hn : ∀ v w', Below w.heap.size w w' → VR w' h ι (Own X.B h ι) (.im (.sl (cs.take (j.toNat * k)) j.toNat)) v → next (a.put o.dst v) w') : o.wp P a w next Q := by
  have hv := (hop x (by simp [ho, Op.operands])).st hgd
  have hw := (hop y (by simp [ho, Op.operands])).st hgy
  have hu := (hop z (by simp [ho, Op.operands])).st hgz
  rw [hy, Y0p] at hw
  rw [hz, Y0p] at hu
  rw [hsl] at hv
  simp only [VR, VRI] at hv
  obtain ⟨ao, cap, l, hxv, hnc, hnone, hlie, hl⟩ := hv
  obtain ⟨e, i, he, hi, hs⟩ := ez_slice ht hk
  have hb : ∀ c, j ≤ (cap : Int) ∧ (Instr.sliceBound (.int .i64 j) cap c).run P w = .ok j.toNat w := fun c => ⟨by omega, run_sliceBound hj.1 (by omega)⟩
  have hb2 : ∀ c, (Instr.sliceBound (.int .i64 j) j.toNat c).run P w = .ok j.toNat w := fun c => run_sliceBound hj.1 (by omega)
  have hadd : ∀ b : Addr, b.add 0 = b := fun b => by unfold Addr.add; split <;> simp_all
  have hex : (execOp a.eval o).run P w = .ok (.value (.slice ao j.toNat j.toNat)) w := by
   have hmap : (ao.map fun b => b.add (0 * i.size)) = ao := by
    cases ao with
    | none => rfl
    | some b => simp [hadd]
   simp only [execOp, ho, Instr.sliceAt, Instr.slice, Instr.sliceBounds, hxv, hw, hu, Xg, Option.map_none, run_underlying he, sizeOf, typeInfo, program, Sem.run, hi, X9, Xm, (hb _).2, hb2, Xz, hmap, X1i]
   split <;> rfl
  simp only [Oper.wp, hex, Oper.upon]
  refine hn _ _ (Below.refl _ _) ?_
  simp only [VR, VRI]
  refine ⟨ao, j.toNat, l.take (j.toNat * k), rfl, Xi _, fun e => ?_, fun b hbb => ?_, hl.take (j.toNat * k)⟩
  ·obtain ⟨h1, h2, h3⟩ := hnone e
   exact ⟨by omega, by omega, by rw [h3, List.take_nil]⟩
  ·intro q u hq
   rw [Xa] at hq
   split at hq
   ·exact hlie b hbb q u hq
   ·simp at hq
theorem Quiet.sliceMaxT {o : Oper} {t : TypeId} {x y z : Operand} {α : Type} {enc : α → List IV} {l : List α} {k : Nat} {j : Int} (ho : o.op = .slice t x none (some y) (some z)) (ht : tk P t = 1) (hk : ez P t = some k) (hek : ∀ a, (enc a).length = k)
  (hg : gpo ops env o (gd (rdo env x) ∧ st (rdo env x) = slA enc l ∧ gd (rdo env y) ∧ st (rdo env y) = .int .i64 j ∧ gd (rdo env z) ∧ st (rdo env z) = .int .i64 j ∧ 0 ≤ j ∧ j ≤ (l.length : Int))) :
  Quiet P ops o env h (gav ops env o (slA enc (l.take j.toNat))) := by
 refine Y1i hg fun ⟨a1, a2, a3, a4, a5, a6, a7⟩ X a w ι Q H hop next hn => ?_
 have e : (AV.im (.sl ((l.flatMap enc).take (j.toNat * k)) j.toNat)) = slA enc (l.take j.toNat) := by
  rw [fm_take enc k hek]
  simp only [slA, Xq]
  rw [X0v (by omega)]
 exact sliceMax_core ho ht hk a1 a2 a3 a4 a5 a6 a7 X a w ι Q H hop next (fun v w' hb hv => hn v w' hb (e ▸ hv))
end
end Go.Abs
/-
 Own work. The generated walks, part 25: regions that draw their order and in which roots of the region's own are made from one another.
-/
namespace Go.Abs
open Go.RowKit
section
variable {P : Program} {N : Nat} {ops : Array Oper} {env : Env} {h : Hp}
def effX : List (Nat × Nat × List Nat) → Nat → Option Nat
 | [], _ => none
 | (i, r, _) :: l, j => if i = j then some r else effX l j
def depX : List (Nat × Nat × List Nat) → Nat → List Nat
 | [], _ => []
 | (i, _, ds) :: l, j => if i = j then ds else depX l j
def DOpsX (P : Program) (ops : Array Oper) (h : Hp) (effs : List (Nat × Nat × List Nat)) : Nat → List Oper → Env → Hp → (Env → Hp → Prop) → Prop
 | _, [], env, g, K => K env g
 | i, o :: l, env, g, K => match effX effs i with
  | none => ∃ av, Quiet P ops o env h av ∧ DOpsX P ops h effs (i + 1) l (setd env o.dst av) g K
  | some r => ∃ rt' av, o.guard = none ∧ h.at r = none ∧ (∀ g' : Hp, (∀ q, q ∈ r :: depX effs i → g'.at q = g.at q) → (∀ s rt, h.at s = some rt → g'.at s = some rt) → RStep P o env g' r rt' av) ∧ DOpsX P ops h effs (i + 1) l (setd env o.dst av) ((r, rt') :: g) K
theorem DOpsX.nil {effs : List (Nat × Nat × List Nat)} {i : Nat} {g : Hp} {K : Env → Hp → Prop} (hK : K env g) : DOpsX P ops h effs i [] env g K := hK
theorem DOpsX.q {effs : List (Nat × Nat × List Nat)} {g : Hp} {K : Env → Hp → Prop} : ∀ (n : Nat) {i : Nat} {l : List Oper} {env : Env}, ((List.range n).all fun j => (effX effs (i + j)).isNone) = true → QOps P ops h (l.take n) env (fun e => DOpsX P ops h effs (i + n) (l.drop n) e g K) → DOpsX P ops h effs i l env g K
 | 0, i, l, env, _, hq => by simpa [QOps] using hq
 | n + 1, i, [], env, _, hq => by simpa [QOps, DOpsX] using hq
 | n + 1, i, o :: l, env, ha, hq => by
  simp only [X08, QOps, X0x] at hq
  obtain ⟨av, h1, h2⟩ := hq
  have h0 := X7.1 ha 0 (by simp)
  simp only [X0u, X10] at h0
  simp only [DOpsX, h0]
  refine ⟨av, h1, DOpsX.q n (X7.2 fun j hj => ?_) (by rwa [show i + 1 + n = i + (n + 1) by omega])⟩
  have := X7.1 ha (j + 1) (by simpa using hj)
  rwa [show i + (j + 1) = i + 1 + j by omega] at this
theorem DOpsX.e {effs : List (Nat × Nat × List Nat)} {i : Nat} {o : Oper} {l : List Oper} {g : Hp} {K : Env → Hp → Prop} {rt' : Rt} {av : AV} (r : Nat) (he : effX effs i = some r) (hg : o.guard = none) (hr : h.at r = none)
  (hs : ∀ g' : Hp, (∀ q, q ∈ r :: depX effs i → g'.at q = g.at q) → (∀ s rt, h.at s = some rt → g'.at s = some rt) → RStep P o env g' r rt' av) (hw : DOpsX P ops h effs (i + 1) l (setd env o.dst av) ((r, rt') :: g) K) : DOpsX P ops h effs i (o :: l) env g K := by
 simp only [DOpsX, he]
 exact ⟨rt', av, hg, hr, hs, hw⟩
theorem DOpsX.vals {effs : List (Nat × Nat × List Nat)} {K : Env → Hp → Prop} : ∀ (l : List Oper) (i : Nat) (env : Env) (g : Hp), DOpsX P ops h effs i l env g K → ∃ (vs : List AV) (ks : List (Option (Nat × Rt))), vs.length = l.length ∧ ks.length = l.length ∧ K (Y24 env l vs) (gAt ks g) ∧
  ∀ (j : Nat) (o : Oper) (v : AV) (k : Option (Nat × Rt)), l[j]? = some o → vs[j]? = some v → ks[j]? = some k → (k.map (·.1) = effX effs (i + j)) ∧ match k with
   | none => Quiet P ops o (Y24 env (l.take j) (vs.take j)) h v
   | some (r, rt') => o.guard = none ∧ h.at r = none ∧ ∀ g' : Hp, (∀ q, q ∈ r :: depX effs (i + j) → g'.at q = (gAt (ks.take j) g).at q) → (∀ s rt, h.at s = some rt → g'.at s = some rt) → RStep P o (Y24 env (l.take j) (vs.take j)) g' r rt' v
 | [], i, env, g, hq => ⟨[], [], rfl, rfl, hq, fun j o v k ho => by simp at ho⟩
 | o :: l, i, env, g, hq => by
  cases he : effX effs i with
  | none =>
   simp only [DOpsX, he] at hq
   obtain ⟨av, h1, h2⟩ := hq
   obtain ⟨vs, ks, h3, h3', h4, h5⟩ := DOpsX.vals l _ _ _ h2
   refine ⟨av :: vs, none :: ks, by simp [h3], by simp [h3'], h4, fun j p v k ho hv hk => ?_⟩
   cases j with
   | zero =>
    simp at ho hv hk
    subst ho hv hk
    exact ⟨by simp [he], by simpa [Y24] using h1⟩
   | succ j =>
    simp at ho hv hk
    have := h5 j p v k ho hv hk
    rw [show i + 1 + j = i + (j + 1) by omega] at this
    simpa [Y24, gAt] using this
  | some r =>
   simp only [DOpsX, he] at hq
   obtain ⟨rt', av, h0, h1, h1', h2⟩ := hq
   obtain ⟨vs, ks, h3, h3', h4, h5⟩ := DOpsX.vals l _ _ _ h2
   refine ⟨av :: vs, some (r, rt') :: ks, by simp [h3], by simp [h3'], h4, fun j p v k ho hv hk => ?_⟩
   cases j with
   | zero =>
    simp at ho hv hk
    subst ho hv hk
    exact ⟨by simp [he], h0, h1, h1'⟩
   | succ j =>
    simp at ho hv hk
    have := h5 j p v k ho hv hk
    rw [show i + 1 + j = i + (j + 1) by omega] at this
    simpa [Y24, gAt] using this
def effOkX (ops : Array Oper) (m : Nat) (effs : List (Nat × Nat × List Nat)) : Bool :=
 ((List.range m).all fun j => (effX effs j).isSome || match ops[j]? with
  | none => true
  | some o => (List.range m).all fun i => (effX effs i).isNone || match (ops[i]?).bind (·.dst) with
   | some d => !(o.looksAt ops).contains d
   | none => true) &&
 (((List.range m).all fun j => (List.range j).all fun i => (effX effs i).isNone || effX effs i != effX effs j || Y3w ops ops.size j i) &&
 ((List.range m).all fun j => (depX effs j).all fun q => (List.range m).all fun i => decide (i = j) || (effX effs i != some q) || (if i < j then Y3w ops ops.size j i else Y3w ops ops.size i j)))
theorem effOkX.look {m : Nat} {effs : List (Nat × Nat × List Nat)} (hk : effOkX ops m effs = true) {j i r d : Nat} {o p : Oper} (hj : j < m) (hi : i < m) (ho : ops[j]? = some o) (hp : ops[i]? = some p) (hq : effX effs j = none) (he : effX effs i = some r) (hd : p.dst = some d) : d ∉ o.looksAt ops := by
 unfold effOkX at hk
 simp only [X3] at hk
 have h1 := X7.1 hk.1 j (Xe.2 hj)
 simp only [hq, Option.isSome_none, Bool.false_or, ho] at h1
 have h2 := X7.1 h1 i (Xe.2 hi)
 simp only [he, Option.isNone_some, Bool.false_or, hp, X8, hd] at h2
 simpa using h2
theorem effOkX.order {m : Nat} {effs : List (Nat × Nat × List Nat)} (hk : effOkX ops m effs = true) {j i r : Nat} (hj : j < m) (hi : i < j) (he : effX effs i = some r) (hf : effX effs j = some r) : Y3w ops ops.size j i = true := by
 unfold effOkX at hk
 simp only [X3] at hk
 have h1 := X7.1 (X7.1 hk.2.1 j (Xe.2 hj)) i (Xe.2 hi)
 simpa [he, hf] using h1
theorem effOkX.dep {m : Nat} {effs : List (Nat × Nat × List Nat)} (hk : effOkX ops m effs = true) {j i q : Nat} (hj : j < m) (hi : i < m) (hij : i ≠ j) (hq : q ∈ depX effs j) (he : effX effs i = some q) : (i < j → Y3w ops ops.size j i = true) ∧ (j < i → Y3w ops ops.size i j = true) := by
 unfold effOkX at hk
 simp only [X3] at hk
 have h1 := X7.1 (X7.1 (X7.1 hk.2.2 j (Xe.2 hj)) q hq) i (Xe.2 hi)
 simp only [he, hij, decide_false, Bool.false_or, bne_self_eq_false] at h1
 refine ⟨fun h => ?_, fun h => ?_⟩
 ·rw [if_pos h] at h1
  exact h1
 ·rw [if_neg (by omega)] at h1
  exact h1
theorem AW.drawX {id : Nat} {Q : Exit → Env → Hp → Prop} (m : Nat) (effs : List (Nat × Nat × List Nat)) (hm : P.follows .mixedOrders = true) (hk : drawOkP N ops m [] = true) (hef : effOkX ops m effs = true) (hq : DOpsX P ops h effs 0 (ops.toList.take m) env h (fun e g => OpsW P N ops (ops.toList.drop m) e g (Q .normal))) :
  AW P N (.region id ops true) env h Q := by
 have D := drawOkP.spec hk
 have hmle := D.le
 obtain ⟨vs, ks, hlen, hlenk, hK, hvs⟩ := DOpsX.vals _ _ _ _ hq
 have hlen' : vs.length = m := by rw [hlen]; simp; omega
 have hlenk' : ks.length = m := by rw [hlenk]; simp; omega
 have hget : ∀ i, i < m → (ops.toList.take m)[i]? = ops[i]? := fun i hi => by rw [Xa, if_pos hi]; simp
 -- the roots that are turned
 have hks : ∀ (j r : Nat) (rt : Rt), ks[j]? = some (some (r, rt)) → j < m ∧ effX effs j = some r ∧ h.at r = none := fun j r rt hj => by
  have hjm : j < m := by rw [← hlenk']; exact (Xk.1 hj).1
  have ho : ops[j]? = some (ops[j]'(by omega)) := X6 (by omega)
  have hv : vs[j]? = some (vs[j]'(by omega)) := X4 (by omega)
  have h1 := hvs j _ _ _ (by rw [hget j hjm]; exact ho) hv hj
  refine ⟨hjm, ?_, h1.2.2.1⟩
  have := h1.1
  simp only [Xg, Xl] at this
  exact this.symm
 intro X a w ι0 H S
 refine wp_mono (Q := fun e a' w' => e = Exit.normal ∧ ∃ env' h' ι', Q .normal env' h' ∧ Hol X h' ι' w' ∧ Slots N env' h' ι' (Own X.B h' ι') a' w') (wp_region_any hm ?_) (fun e a' w' ⟨he, hq⟩ => by subst he; exact hq)
 have hdrew : Below w.heap.size w { w with drawn := w.drawn + 1 } := ⟨rfl, rfl, rfl, Xi _, fun _ _ => rfl⟩
 have H' := H.below hdrew
 have S' := S.below hdrew
 generalize ({ w with drawn := w.drawn + 1 } : World) = w1 at H' S'
 clear hdrew H S w
 have main : ∀ (fuel : Nat) (listed : Array Bool) (a : Act) (w : World) (g : Hp) (ι : Nat → Bk), listed.size = ops.size → ((List.range m).filter fun j => !listed.getD j true).length + (ops.size - m) ≤ fuel → (∀ k, m ≤ k → listed.getD k false = false) → Hol X g ι w →
   (∀ q, g.at q = stS (fun i => listed.getD i false) q 0 ks (h.at q)) → (∀ r rt, h.at r = some rt → ι r = ι0 r) →
   MidG N ops env vs ks h g ι (Own X.B g ι) (fun i => listed.getD i false) a w →
   wpAny P .any ops (fun e a' w' => e = Exit.normal ∧ ∃ env' h' ι', Q .normal env' h' ∧ Hol X h' ι' w' ∧ Slots N env' h' ι' (Own X.B h' ι') a' w') fuel listed a w := by
  have base : ∀ (S : Nat → Bool) (g : Hp), (∀ q, g.at q = stS S q 0 ks (h.at q)) → ∀ s rt, h.at s = some rt → g.at s = some rt := fun S g hg s rt hs => by
   rw [hg s, Y3j ks 0 _ (fun j rt' hj => by
    have := (hks j s rt' hj).2.2
    rw [hs] at this
    cases this)]
   exact hs
  have fin : ∀ (fuel : Nat) (listed : Array Bool) (a : Act) (w : World) (g : Hp) (ι : Nat → Bk), listed.size = ops.size → ops.size - m ≤ fuel → (∀ k, m ≤ k → listed.getD k false = false) → (∀ i, i < m → listed.getD i false = true) → Hol X g ι w →
    (∀ q, g.at q = stS (fun i => listed.getD i false) q 0 ks (h.at q)) → MidG N ops env vs ks h g ι (Own X.B g ι) (fun i => listed.getD i false) a w →
    wpAny P .any ops (fun e a' w' => e = Exit.normal ∧ ∃ env' h' ι', Q .normal env' h' ∧ Hol X h' ι' w' ∧ Slots N env' h' ι' (Own X.B h' ι') a' w') fuel listed a w := by
   intro fuel listed a w g ι hsz hfu hno all H hg M
   have hgq : ∀ q, (gAt ks h).at q = g.at q := fun q => by
    have := gAt.st (r := q) ks 0 m h
    rw [Xx (by omega)] at this
    rw [this, hg q]
    refine stS.congr ks 0 _ fun j rt hj => ?_
    have := (hks j q rt hj).1
    simp [all j this, this]
   have hKhg : Keep w h ι (Own X.B g ι) w g ι (Own X.B g ι) := ⟨fun β _ hA => ⟨rfl, hA⟩, fun r rt hr => ⟨rt, base _ g hg r rt hr, Xi _, fun _ => ⟨rfl, rfl⟩⟩⟩
   have hS : Slots N (Y24 env (ops.toList.take m) vs) g ι (Own X.B g ι) a w := by
    refine ⟨M.size, M.defers, fun s => ?_⟩
    by_cases hex : ∃ (i : Nat) (o : Oper), i < m ∧ ops[i]? = some o ∧ o.dst = some s
    ·obtain ⟨i, o, hi, ho, hd⟩ := hex
     have hv : vs[i]? = some (vs[i]'(by omega)) := X4 (by omega)
     rw [Y2y (ops.toList.take m) vs env i o _ (by rw [hget i hi]; exact ho) hv hd (fun j p hp e => by
      have hj : j < m := by
       have := (Xk.1 hp).1
       simp at this; omega
      rw [hget j hj] at hp
      exact (D.one i j o p s hi hj ho hp hd e).symm)]
     exact M.putE i o _ s (all i hi) ho hv hd
    ·rw [Y0z (ops.toList.take m) vs env (fun i o ho e => by
      have hi : i < m := by
       have := (Xk.1 ho).1
       simp at this; omega
      rw [hget i hi] at ho
      exact hex ⟨i, o, hi, ho, e⟩)]
     refine VR.keep hKhg _ _ (M.left s (fun i o hSi ho e => ?_))
     by_cases hi : i < m
     ·exact hex ⟨i, o, hi, ho, e⟩
     ·simp only [hno i (by omega)] at hSi; cases hSi
   have hS2 : Slots N (Y24 env (ops.toList.take m) vs) (gAt ks h) ι (Own X.B (gAt ks h) ι) a w := by
    rw [own_congr hgq]
    exact ⟨hS.size, hS.defers, fun i => VR.keep (Keep.congr hgq) _ _ (hS.at_ i)⟩
   refine wpAny_tailP D (ops.size - m) m fuel listed a w (Xi _) (by omega) hfu hsz (fun i hi => ?_) (hK X a w ι _ (H.congr hgq) hS2 fun env' h' ι' a' w' hq H2 S2 => ⟨rfl, env', h', ι', hq, H2, S2⟩)
   by_cases him : i < m
   ·rw [all i him]; simp [him]
   ·rw [hno i (by omega)]; simp [him]
  intro fuel
  induction fuel with
  | zero =>
   intro listed a w g ι hsz hc hno H hg hi M
   refine fin 0 listed a w g ι hsz (by omega) hno (fun i hi => ?_) H hg M
   have h0 : ((List.range m).filter fun j => !listed.getD j true) = [] := Xj (by omega)
   rw [X16] at h0
   have := h0 i (Xe.2 hi)
   simp only [Bool.not_eq_true, X1k] at this
   have hi' : i < listed.size := by omega
   simp only [X2, X6 hi', Xh] at this ⊢
   exact this
  | succ fuel ih =>
   intro listed a w g ι hsz hc hno H hg hι M
   by_cases hall : ∀ i, i < m → listed.getD i false = true
   ·exact fin (fuel + 1) listed a w g ι hsz (by omega) hno hall H hg M
   have hlow : ∀ i, i ∈ Region.ready .any ops listed → i < m := by
    intro i hi
    unfold Region.ready at hi
    obtain ⟨hir, hi2⟩ := X05.1 hi
    have hi' : i < ops.size := Xe.1 hir
    have ho : ops[i]? = some ops[i] := X6 hi'
    simp only [ho, Xg, Xh, X3, Xy] at hi2
    by_cases him : i < m
    ·exact him
    ·exfalso
     refine hall fun j hj => ?_
     have hre := D.tail i _ (by omega) ho j (by omega) (by simp)
     exact Y0a (S := fun k => listed.getD k false) M.down ops.size i j _ ho (fun e he hb => by
      have := Xd.1 hi2.2 e he
      simpa [hb] using this) hre
   refine ⟨fun hr => ?_, fun i hi => ?_⟩
   ·exfalso
    refine hall fun i => ?_
    induction i using Nat.strongRecOn with
    | _ i ihi =>
     intro hi
     cases hl : listed.getD i false with
     | true => rfl
     | false =>
      exfalso
      have hmem : i ∈ Region.ready .any ops listed := by
       unfold Region.ready
       refine X05.2 ⟨Xe.2 (by omega), ?_⟩
       have ho : ops[i]? = some (ops[i]'(by omega)) := X6 (by omega)
       have hl' : listed.getD i true = false := by
        have hi' : i < listed.size := by omega
        simp only [X2, X6 hi', Xh] at hl ⊢
        exact hl
       simp only [hl', Bool.not_false, Bool.true_and, ho, Xg, Xh]
       refine Xd.2 fun e he => ?_
       cases hb : Region.binds .any e with
       | false => simp
       | true =>
        have := D.back i _ ho e he hb
        simp [ihi e.on this (by omega)]
      rw [hr] at hmem
      cases hmem
   have him : i < m := hlow i hi
   unfold Region.ready at hi
   obtain ⟨hir, hi2⟩ := X05.1 hi
   have hi' : i < ops.size := Xe.1 hir
   have ho : ops[i]? = some ops[i] := X6 hi'
   simp only [ho, Xg, Xh, X3, Xy] at hi2
   obtain ⟨hul, hpred⟩ := hi2
   have hpred' : ∀ e ∈ (ops[i]).after, Region.binds .any e = true → listed.getD e.on false = true := fun e he hb => by
    have := Xd.1 hpred e he
    simpa [hb] using this
   have hulf : listed.getD i false = false := by
    have hi'' : i < listed.size := by omega
    simp only [X2, X6 hi'', Xh] at hul ⊢
    exact hul
   have hSm : ∀ k, listed.getD k false = true → k < m := fun k hk => by
    by_cases hkm : k < m
    ·exact hkm
    ·rw [hno k (by omega)] at hk; cases hk
   have hv : vs[i]? = some (vs[i]'(by omega)) := X4 (by omega)
   have hki : ks[i]? = some (ks[i]'(by omega)) := X4 (by omega)
   have hqi := hvs i ops[i] _ _ (by rw [hget i him]; exact ho) hv hki
   rw [X0h, show min i m = i from by omega, Xl] at hqi
   have hb := base _ g hg
   have hKhg : ∀ w', Keep w' h ι (Own X.B g ι) w' g ι (Own X.B g ι) := fun w' => ⟨fun β _ hA => ⟨rfl, hA⟩, fun r rt hr => ⟨rt, hb r rt hr, Xi _, fun _ => ⟨rfl, rfl⟩⟩⟩
   have hset : ∀ k, (listed.setIfInBounds i true).getD k false = if k = i then true else listed.getD k false := by
    intro k
    simp only [X2]
    by_cases hki : k = i
    ·subst hki; rw [Xf (by omega)]; simp
    ·rw [Xo (fun e => hki e.symm)]; simp [hki]
   have hnext : ∀ k, m ≤ k → (listed.setIfInBounds i true).getD k false = false := fun k hkm => by rw [hset k, if_neg (by omega)]; exact hno k hkm
   have hfu : ((List.range m).filter fun j => !(listed.setIfInBounds i true).getD j true).length + (ops.size - m) ≤ fuel := by
    have := unlisted_lt' him (by omega) hul
    omega
   -- what it looks at, as it is in the order of the text
   have hlookG : ∀ s, s ∈ (ops[i]).looksAt ops → VR w g ι (Own X.B g ι) (rd (Y24 env (ops.toList.take i) (vs.take i)) s) (a.tmps.getD s undef) ∧ (effX effs i = none → VR w h ι (Own X.B g ι) (rd (Y24 env (ops.toList.take i) (vs.take i)) s) (a.tmps.getD s undef)) := by
    intro s hs
    by_cases hex : ∃ (j : Nat) (p : Oper), j < m ∧ ops[j]? = some p ∧ p.dst = some s
    ·obtain ⟨j, p, hj, hp, hd⟩ := hex
     have hij : i ≠ j := by
      rintro rfl
      rw [ho] at hp
      cases hp
      exact D.self i _ s him ho hd hs
     rcases D.look i j _ p s him hj ho hp hij hd hs with ⟨hlt, e, he, hbd, hon⟩ | ⟨hlt, e, he, hbd, hon⟩
     ·have hS : listed.getD j false = true := hon ▸ hpred' e he hbd
      have hvj : vs[j]? = some (vs[j]'(by omega)) := X4 (by omega)
      have hkj : ks[j]? = some (ks[j]'(by omega)) := X4 (by omega)
      rw [Y2y (ops.toList.take i) (vs.take i) env j p (vs[j]'(by omega)) (by rw [Xa, if_pos hlt]; simpa using hp) (by rw [Xa, if_pos hlt]; exact hvj) hd
       (fun k q hq e => by
        rw [Xa] at hq
        split at hq
        ·exact (D.one j k p q s hj (by omega) hp (by simpa using hq) hd e).symm
        ·cases hq)]
      refine ⟨M.putE j p _ s hS hp hvj hd, fun hqu => ?_⟩
      have hkn : ks[j]'(by omega) = none := by
       cases hkk : ks[j]'(by omega) with
       | none => rfl
       | some q =>
        exfalso
        obtain ⟨r, rt⟩ := q
        have := hks j r rt (by rw [hkj, hkk])
        exact effOkX.look hef him hj ho hp hqu this.2.1 hd hs
      exact M.putQ j p _ s hS hp hvj (by rw [hkj, hkn]) hd
     ·rw [Y0z (ops.toList.take i) (vs.take i) env (fun k q hq e => by
       rw [Xa] at hq
       split at hq
       ·have := D.one j k p q s hj (by omega) hp (by simpa using hq) hd e
        omega
       ·cases hq)]
      have := M.left s (fun k q hk hq e2 => by
       have hjk := D.one j k p q s hj (hSm k hk) hp hq hd e2
       subst hjk
       rw [hp] at hq
       cases hq
       have := M.down j p hk hp _ he hbd
       rw [hon] at this
       simp [hulf] at this)
      exact ⟨VR.keep (hKhg w) _ _ this, fun _ => this⟩
    ·rw [Y0z (ops.toList.take i) (vs.take i) env (fun k q hq e => by
      rw [Xa] at hq
      split at hq
      ·exact hex ⟨k, q, by omega, by simpa using hq, e⟩
      ·cases hq)]
     have := M.left s (fun k q hk hq e => hex ⟨k, q, hSm k hk, hq, e⟩)
     exact ⟨VR.keep (hKhg w) _ _ this, fun _ => this⟩
   simp only [wpOp, ho]
   cases hkk : ks[i]'(by omega) with
   | none =>
    rw [hkk] at hqi
    obtain ⟨he, hqi⟩ := hqi
    simp only [Option.map_none] at he
    have step := hqi (ctxOf X h g ι w) a w ι (fun e a' w' => e = Exit.normal ∧ ∃ env' h' ι', Q .normal env' h' ∧ Hol X h' ι' w' ∧ Slots N env' h' ι' (Own X.B h' ι') a' w') (H.only hb H' hι) (fun s hs => by
      rw [own_ctxOf hb]
      exact (hlookG s hs).2 he.symm)
     (wpAny P .any ops (fun e a' w' => e = Exit.normal ∧ ∃ env' h' ι', Q .normal env' h' ∧ Hol X h' ι' w' ∧ Slots N env' h' ι' (Own X.B h' ι') a' w') fuel (listed.setIfInBounds i true)) ?_
    ·split
     ·rename_i hw; rw [if_pos hw] at step; exact .inl step
     ·rename_i hw; rw [if_neg hw] at step; exact step
    ·intro v w' hbl hvv
     rw [own_ctxOf hb] at hvv
     refine ih _ _ _ g ι (by simpa using hsz) hfu hnext (H.below hbl) (fun q => ?_) hι ?_
     ·rw [hg q]
      refine stS.congr ks 0 _ fun j rt hj => ?_
      simp only [Xl, hset]
      split
      ·rename_i hji
       subst hji
       rw [hki, hkk] at hj
       cases hj
      ·rfl
     ·exact MidG.step D M hSm him ho hv hset hpred' (Keep.below hbl) (Keep.below hbl) (fun _ => hvv) (VR.keep (hKhg w') _ _ hvv)
   | some p =>
    obtain ⟨r, rt'⟩ := p
    rw [hkk] at hqi
    obtain ⟨he, hgu, hrn, hqi⟩ := hqi
    simp only [Xg] at he
    have hpre : ∀ q, q ∈ r :: depX effs i → g.at q = (gAt (ks.take i) h).at q := by
     intro q hqm
     rw [hg q, gAt.st ks 0 i h]
     refine stS.congr ks 0 _ fun j rt hj => ?_
     obtain ⟨hjm, hje, _⟩ := hks j q rt hj
     have hord : j ≠ i → (j < i → Y3w ops ops.size i j = true) ∧ (i < j → Y3w ops ops.size j i = true) := fun hne => by
      rcases X0n.1 hqm with rfl | hqd
      ·exact ⟨fun hlt => effOkX.order hef him hlt hje he.symm, fun hlt => effOkX.order hef hjm hlt he.symm hje⟩
      ·exact effOkX.dep hef him hjm hne hqd hje
     simp only [Xl]
     by_cases hji : j < i
     ·rw [show decide (j < i) = true by simpa using hji]
      have hre := (hord (by omega)).1 hji
      exact Y0a (S := fun k => listed.getD k false) M.down ops.size i j _ ho hpred' hre
     ·rw [show decide (j < i) = false by simpa using hji]
      by_cases hij : j = i
      ·subst hij; exact hulf
      ·cases hlj : listed.getD j false with
       | false => rfl
       | true =>
        exfalso
        have hre := (hord hij).2 (by omega)
        have hoj : ops[j]? = some (ops[j]'(by omega)) := X6 (by omega)
        have := Y0a (S := fun k => listed.getD k false) M.down ops.size j i _ hoj (M.down j _ hlj hoj) hre
        simp [hulf] at this
    have hwant : Region.wanted (ops[i]) (yielded ops a.tmps) = true := by simp [Region.wanted, hgu]
    rw [if_pos hwant]
    refine .inl (hqi g hpre hb X a w ι _ _ H (operand_vr H.globOK (fun s hs => (hlookG s hs).1)) fun b' w' v H2 Kp hvv => ?_)
    have hne : ∀ s rt, h.at s = some rt → s ≠ r := fun s rt hs e => by rw [e, hrn] at hs; cases hs
    refine ih _ _ _ _ _ (by simpa using hsz) hfu hnext H2 (fun q => ?_) (fun s rt hs => by rw [Y25 (hne s rt hs)]; exact hι s rt hs) ?_
    ·by_cases hqr : q = r
     ·subst hqr
      rw [Y17]
      symm
      refine stS.last ks 0 i rt' _ (by rw [hki, hkk]) (by simp [hset]) fun j rt'' hij hj => ?_
      obtain ⟨hjm, hje, _⟩ := hks j q rt'' hj
      simp only [Xl, hset]
      rw [if_neg (by omega)]
      cases hlj : listed.getD j false with
      | false => rfl
      | true =>
       exfalso
       have hre := effOkX.order hef hjm hij he.symm hje
       have hoj : ops[j]? = some (ops[j]'(by omega)) := X6 (by omega)
       have := Y0a (S := fun k => listed.getD k false) M.down ops.size j i _ hoj (M.down j _ hlj hoj) hre
       simp [hulf] at this
     ·have e1 : Hp.at ((r, rt') :: g) q = g.at q := by simp only [Hp.at]; rw [if_neg (fun e => hqr e.symm)]
      rw [e1, hg q]
      refine stS.congr ks 0 _ fun j rt hj => ?_
      simp only [Xl, hset]
      split
      ·rename_i hji
       subst hji
       rw [hki, hkk] at hj
       cases hj
       exact absurd rfl hqr
      ·rfl
    ·refine MidG.step D M hSm him ho hv hset hpred' ⟨Kp.blk, fun s rt hs => ⟨rt, hs, Xi _, fun _ => ⟨Y25 (hne s rt hs), rfl⟩⟩⟩ Kp (fun hkn => ?_) hvv
     rw [hki, hkk] at hkn
     cases hkn
 have hrep : ∀ i, (Array.replicate ops.size false).getD i false = false := fun i => by
  simp only [X2, X0b]; split <;> rfl
 refine main ops.size _ a w1 h ι0 (by simp) ?_ (fun k _ => hrep k) H' (fun q => (Y3j ks 0 _ fun j rt hj => hrep _).symm) (fun _ _ _ => rfl) ⟨S'.size, S'.defers, ?_, ?_, fun s _ => S'.at_ s, ?_⟩
 ·have := X19 (fun j => !(Array.replicate ops.size false).getD j true) (List.range m)
  simp only [List.length_range] at this
  omega
 ·intro i o v s hS
  simp only [hrep] at hS
  cases hS
 ·intro i o v s hS
  simp only [hrep] at hS
  cases hS
 ·intro i o hS
  simp only [hrep] at hS
  cases hS
theorem AW.drawXSeq {id : Nat} {y : Code} {Q : Exit → Env → Hp → Prop} (m : Nat) (effs : List (Nat × Nat × List Nat)) (hm : P.follows .mixedOrders = true) (hk : drawOkP N ops m [] = true) (hef : effOkX ops m effs = true) (hq : DOpsX P ops h effs 0 (ops.toList.take m) env h (fun e g => OpsW P N ops (ops.toList.drop m) e g (fun e h => AW P N y e h Q))) :
  AW P N (.seq (.region id ops true) y) env h Q :=
 Yc (AW.drawX m effs hm hk hef hq)
end
end Go.Abs
/-
 Own work. The generated walks, part 26: slices of slices, as the generated texts use them.
-/
namespace Go.Abs
open Go.RowKit
section
variable {P : Program} {N : Nat} {ops : Array Oper} {env : Env} {h : Hp}
section
variable {α : Type} {hc hc' : Hp} {fs fs' : List Fm} {l : List (Nat × Option Nat)} {m : List (Nat × FM)} {R R' : Nat} {e : TypeId} {k : Nat} {enc : α → List IV} {x : List (List α)} {ver ver' : Nat} {t t' : TypeId}
theorem Yf (hok : (okF fs && okS hc) = true) (hok' : (okF fs' && okS hc') = true) (hR : R' < 100000) (hf : Y3y fs R = some (fmA R e k enc x)) (hf' : Y3y fs' R' = some (fmA R' e k enc x)) (hm : fmLook m R' = some (.same R)) :
  CstL (hc ++ fmsH fs) (hc' ++ fmsH fs') (phF l m) (nsA ver t R x).cs (nsA ver' t' R' x).cs := nsSame hok hok' hR hf hf' hm
theorem nsPutA {q i off n : Nat} {row : List α} (hok : (okF fs && okS hc) = true) (hok' : (okF fs' && okS hc') = true) (hR : R' < 100000) (hf : Y3y fs R = some (fmA R e k enc x)) (hf' : Y3y fs' R' = some (fmA R' e k enc (x.set i row))) (hm : fmLook m R' = some (.put R i q))
  (hq : Hp.at (hc ++ fmsH fs) q = some (rtA 0 e k enc row)) (hi : i < x.length) (ho : off = i) (hn : n = row.length) :
  CstL (hc ++ fmsH fs) (hc' ++ fmsH fs') (phF l m) (putA (nsA ver t R x).cs off [.rsl q 0 0 n]) (nsA ver' t' R' (x.set i row)).cs := nsPut hok hok' hR hf hf' hm rfl hq hi ho hn
theorem nsSnocA {q n xl : Nat} {row : List α} (hok : (okF fs && okS hc) = true) (hok' : (okF fs' && okS hc') = true) (hR : R' < 100000) (hf : Y3y fs R = some (fmA R e k enc x)) (hf' : Y3y fs' R' = some (fmA R' e k enc (x ++ [row]))) (hm : fmLook m R' = some (.put R x.length q))
  (hq : Hp.at (hc ++ fmsH fs) q = some (rtA 0 e k enc row)) (hn : n = row.length) (hxl : xl = x.length) :
  CstL (hc ++ fmsH fs) (hc' ++ fmsH fs') (phF l m) ((nsA ver t R x).cs.take (xl * 1) ++ [.rsl q 0 0 n]) (nsA ver' t' R' (x ++ [row])).cs := nsSnoc hok hok' hR hf hf' hm rfl hq hn hxl
theorem nsNilA {n : Nat} {h : Hp} (hok' : (okF fs' && okS hc') = true) (hR : R' < 100000) (hf' : Y3y fs' R' = some (fmA R' e k enc (List.replicate n []))) (hm : fmLook m R' = some .nil) :
  CstL h (hc' ++ fmsH fs') (phF l m) (Y0u [.slice none 0 0] n) (nsA ver t R' (List.replicate n ([] : List α))).cs := nsNil hok' hR hf' hm
theorem ns_fit {i : Nat} (hi : i < x.length) : 0 + i * 1 + 1 ≤ (nsA ver t R x).cs.length := by
 simp only [nsA, Y2r, X01]
 omega
theorem fmNil0 {h : Hp} : FmC h fs (fmA R' e k enc ([] : List (List α))) .nil := fun row hr => by simp [fmA] at hr
theorem csNil {h h' : Hp} {φ : Nat → Option Nat} (n : Nat) : CstL h h' φ (Y0u [.slice none 0 0] n) (((List.replicate n ([] : List α)).flatMap (eL enc)).map .im) := by
 have e1 : Y0u [.slice none 0 0] n = List.replicate n (.im (.val (.slice none 0 0))) := by
  unfold Y0u
  induction n with
  | zero => rfl
  | succ n ih => simp [X13]
 have e2 : ((List.replicate n ([] : List α)).flatMap (eL enc)).map AV.im = List.replicate n (.im (.sl [] 0)) := by
  induction n with
  | zero => rfl
  | succ n ih =>
   rw [X13, Xv, X0w, ih (by unfold Y0u; simp), X13]
   rfl
 rw [e1, e2]
 clear e1 e2
 induction n with
 | zero => exact .nil
 | succ n ih => exact .cons .nil ih
end
theorem Y5r {o : Oper} {rest : List Oper} {K : Env → Hp → Prop} {t e : TypeId} {k bytes : Nat} {z : List Value} {x y : Operand} (ho : o.op = .makeSlice t x y) (hgu : o.guard = none) (hd : o.dst.all (· < N) = true)
  (r : Nat) (hr : h.at r = none) (E : Elem P t e k bytes z) {kx ky : IntKind} {l c : Int} (hx : rdo env x = .int kx l) (hy : rdo env y = .int ky c) (hok : 0 ≤ l ∧ l ≤ c ∧ (bytes : Int) * c ≤ 281474976710656 ∧ c ≤ 9223372036854775807)
  (hw : OpsW P N ops rest (setd env o.dst (.rsl r 0 0 l.toNat)) ((r, ⟨0, true, e, k, Y0u z l.toNat⟩) :: h) K) : OpsW P N ops (o :: rest) env h K :=
 OpsW.make ho hgu hd r hr E hx hy hok.1 hok.2.1 hok.2.2.1 hok.2.2.2 hw
theorem RStep.makeT {o : Oper} {t e : TypeId} {k bytes : Nat} {z : List Value} {x y : Operand} {α : Type} {enc : α → List IV} (d : α) (ho : o.op = .makeSlice t x y) (r : Nat) (hr : h.at r = none) (E : Elem P t e k bytes z) (hz : enc d = z.map .val) {kx ky : IntKind} {l c : Int} (hx : rdo env x = .int kx l) (hy : rdo env y = .int ky c)
  (hok : 0 ≤ l ∧ l ≤ c ∧ (bytes : Int) * c ≤ 281474976710656 ∧ c ≤ 9223372036854775807) : RStep P o env h r (rtA 0 e k enc (List.replicate l.toNat d)) (.rsl r 0 0 (List.replicate l.toNat d).length) := by
 have := RStep.make (h := h) (env := env) ho r hr E hx hy hok.1 hok.2.1 hok.2.2.1 hok.2.2.2
 rw [zeros_typed enc z d hz] at this
 rw [Xn]
 exact this
theorem T.lenF {ρ : Operand → AV} {x : Operand} {t : TypeId} {r n : Nat} {rt : Rt} (hx : st (ρ x) = .rsl r 0 0 n) (hg : gd (ρ x)) (ht : tk P t = 1) (hrt : h.at r = some rt) (hv : rt.ver = 0) :
  po P h ρ (.call ⟨.builtin .len, #[x], #[t]⟩) ∧ pv P h ρ (.call ⟨.builtin .len, #[x], #[t]⟩) = .int .i64 n := by
 have h1 : (h.at r).map (·.ver) = some 0 := by rw [hrt, Xg, hv]
 refine ⟨?_, ?_⟩
 ·show gd (ρ x) ∧ poLen P h t (st (ρ x))
  rw [hx]
  exact ⟨hg, ht, h1⟩
 ·show pvLen (st (ρ x)) = _
  rw [hx]
  rfl
theorem T.idxF {ρ : Operand → AV} {x i : Operand} {t : TypeId} {r n k : Nat} {kk : IntKind} {j : Int} {rt : Rt} (hx : st (ρ x) = .rsl r 0 0 n) (hi : st (ρ i) = .int kk j) (hgx : gd (ρ x)) (hgi : gd (ρ i)) (hk : ez P t = some k) (ht : tk P t = 1) (hrt : h.at r = some rt) (hv : rt.ver = 0) (hrk : rt.k = k) (hj : 0 ≤ j ∧ j < (n : Int)) :
  po P h ρ (.indexAddr t x i) ∧ pv P h ρ (.indexAddr t x i) = .ref r 0 (0 + j.toNat * k) := by
 have h1 : (h.at r).map (fun rt => (rt.ver, rt.k)) = some (0, k) := by rw [hrt, Xg, hv, hrk]
 refine ⟨?_, ?_⟩
 ·show gd (ρ x) ∧ gd (ρ i) ∧ poIdx P h t (st (ρ x)) (st (ρ i))
  rw [hx, hi]
  refine ⟨hgx, hgi, ?_⟩
  unfold poIdx
  rw [hk]
  exact ⟨ht, h1, hj.1, hj.2⟩
 ·show pvIdx (ez P t) (st (ρ x)) (st (ρ i)) = _
  rw [hx, hi, hk]
  rfl
theorem tabOff2 {l : List IV} {i k o : Nat} {c : Option IV} (h : l[i * k + o]? = c) : l[0 + i * k + o]? = c := by
 rw [Xl]
 exact h
end
end Go.Abs
/-
 Own work. The generated walks, part 27: results with slices of slices that the caller owns.
-/
namespace Go.Abs
open Go.RowKit
section
variable {P : Program} {N : Nat} {ops : Array Oper} {env : Env} {h : Hp}
theorem fmsH_append : ∀ (F G : List Fm), fmsH (F ++ G) = fmsH F ++ fmsH G
 | [], G => rfl
 | f :: F, G => by
  rw [X0a, fmsH, fmsH, fmsH_append F G, X03]
theorem okF_append {F G : List Fm} : okF (F ++ G) = (okF F && okF G) := by
 unfold okF
 rw [List.all_append]
theorem heap_mid {A B : Hp} {F G : List Fm} (hk : (okF F && okF G && (okS A && okS B)) = true) (t : Nat) : Hp.at ((A ++ fmsH F) ++ (B ++ fmsH G)) t = Hp.at ((A ++ B) ++ fmsH (F ++ G)) t := by
 simp only [X3] at hk
 obtain ⟨⟨h1, h2⟩, h3, h4⟩ := hk
 have h5 : okF (F ++ G) = true := by rw [okF_append, h1, h2]; rfl
 have h6 : okS (A ++ B) = true := by
  unfold okS at h3 h4 ⊢
  rw [List.all_append, h3, h4]
  rfl
 rcases Nat.lt_or_ge t 100000 with ht | ht
 ·rw [Y0s, at_small h1 ht, at_small h2 ht, at_small h5 ht, Y0s]
 ·rw [Y0s, at_big h3 ht, at_big h4 ht, at_big h6 ht, fmsH_append, Y0s]
theorem heap_mid0 {A B : Hp} {F : List Fm} (hk : (okF F && (okS A && okS B)) = true) (t : Nat) : Hp.at ((A ++ fmsH F) ++ B) t = Hp.at ((A ++ B) ++ fmsH F) t := by
 have := heap_mid (A := A) (B := B) (F := F) (G := []) (by simp only [X3] at hk ⊢; exact ⟨⟨hk.1, rfl⟩, hk.2⟩) t
 rw [X0y, show fmsH ([] : List Fm) = [] from rfl, X0y] at this
 exact this
theorem fresh_F {A B : Hp} {F G : List Fm} (hk : (okF F && okF G && (okS A && okS B)) = true) (hn : (F.all fun f => G.all fun g => !(f.R == g.R)) = true) (ha : ((A.map (·.1)).all fun i => (B.map (·.1)).all fun j => !(i == j)) = true) : ∀ i rt, Hp.at (A ++ fmsH F) i = some rt → Hp.at (B ++ fmsH G) i = none := by
 simp only [X3] at hk
 obtain ⟨⟨h1, h2⟩, h3, h4⟩ := hk
 intro t rt hx
 rcases Nat.lt_or_ge t 100000 with ht | ht
 ·rw [at_small h1 ht] at hx
  rw [at_small h2 ht]
  exact fresh_of ha t rt hx
 ·rw [at_big h3 ht] at hx
  rw [at_big h4 ht]
  cases hg : (fmsH G).at t with
  | none => rfl
  | some y =>
   obtain ⟨f, i, row, f1, f2, _⟩ := fmsH_inv F t rt h1 hx
   obtain ⟨g, j, row', g1, g2, _⟩ := fmsH_inv G t y h2 hg
   have e1 : f.R < 100000 := by simpa using X7.1 h1 f f1
   have e2 : g.R < 100000 := by simpa using X7.1 h2 g g1
   have := (fid_inj e1 e2 (f2.symm.trans g2)).1
   have hb := X7.1 (X7.1 hn f f1) g g1
   simp [this] at hb
theorem fresh_F0 {A B : Hp} {F : List Fm} (hk : (okF F && (okS A && okS B)) = true) (ha : ((A.map (·.1)).all fun i => (B.map (·.1)).all fun j => !(i == j)) = true) : ∀ i rt, Hp.at (A ++ fmsH F) i = some rt → Hp.at B i = none := by
 have := fresh_F (A := A) (B := B) (F := F) (G := []) (by simp only [X3] at hk ⊢; exact ⟨⟨hk.1, rfl⟩, hk.2⟩) (by simp) ha
 rw [show B ++ fmsH ([] : List Fm) = B from X0y B] at this
 exact this
theorem QSpec.of_ownF {f : FuncId} {args : List AV} {x y : AV} {hc : Hp} {fs : List Fm} (hs : Abs.Spec P f args [] (fun r h => r = x ∧ h = hc ++ fmsH fs)) (hc' : Cst (hc ++ fmsH fs) [] (phF [] []) x y) (hp : (okF fs && hc.all fun x => decide (x.1 < 2000)) = true := by rfl) : QSpec P f args y := by
 rw [X3] at hp
 intro w ι B vs H hv
 refine (hs w ι B vs H hv).mono ?_
 rintro e w' ⟨v, r, h1, ι', rfl, ⟨rfl, rfl⟩, H', hvr⟩
 have R : RtC (hc ++ fmsH fs) [] (phF [] []) := ⟨fun r' rt' hr => by simp [Hp.at] at hr, fun r' s' rt' st' hr => by simp [Hp.at] at hr, fun r rt hr h2 => by
  rw [at_small hp.1 (by omega)] at hr
  obtain ⟨x, hx, rfl⟩ := X06.1 (Y3d hr)
  have := of_decide_eq_true (X7.1 hp.2 x hx)
  omega⟩
 exact ⟨v, y, [], _, rfl, rfl, H'.cast R, VR.cast H' R _ _ v hc' hvr⟩
end
end Go.Abs
/-
 Own work. The generated walks, part 28: a row is appended to a slice of slices.
-/
namespace Go.Abs
open Go.RowKit
section
variable {P : Program} {N : Nat} {ops : Array Oper} {env : Env} {h : Hp}
theorem RStep.buildRow {o : Oper} {t e : TypeId} {bytes : Nat} {z : List Value} {x : Operand} {q n : Nat} {rt : Rt} (ho : o.op = .buildSlice t 1 [(0, x)].toArray) (r : Nat) (hr : h.at r = none) (E : Elem P t e 1 bytes z) (hx : rdo env x = .rsl q 0 0 n) (hq : h.at q = some rt) (hv : rt.ver = 0)
  (hf : fillA h (fun i => some (i * 1, 1)) (Y0u z 1) [(0, .rsl q 0 0 n)] = some [.rsl q 0 0 n]) : RStep P o env h r ⟨0, true, e, 1, [.rsl q 0 0 n]⟩ (.rsl r 0 0 1) := by
 intro X a w ι Q next H hop hn
 have h1 : (h.at q).map (·.ver) = some 0 := by rw [hq, Xg, hv]
 have hone : oneA h (.rsl q 0 0 n) := oneAb_sound (by simp [oneAb, h1])
 have hokC : okC h (.rsl q 0 0 n) := Y5 (by simp [okCb, oneAb, h1])
 have hst : st (.rsl q 0 0 n) = .rsl q 0 0 n := rfl
 have hvp := VRP.mk (h := h) (w := w) (ι := ι) (A := Own X.B h ι) (η := a.eval) (ρ := rdo env) [(0, x)] (fun p hp => by
  rw [List.mem_singleton.1 hp, hx]
  trivial) (fun p hp => hop p.2 (by
  rw [ho]
  simp only [Op.operands, X14, List.mem_toArray]
  exact X06.2 ⟨p, hp, rfl⟩))
 obtain ⟨u, hu, hcu⟩ := zc_some (w := w) E.zc
 obtain ⟨i, zu, hi, hisz, hiby, hiz, hzu⟩ := E.info
 have husz : u.cells.size = 1 := by rw [← E.zlen, ← hcu]; simp
 have hz0 : VRL w h ι (Own X.B h ι) (Y0u z 1) ((Array.range (1 * 1)).map (u.cells[· % u.cells.size]!)).toList := by
  rw [zeros_eq u.cells 1 1 husz E.pos, hcu]
  exact VRL.vals _
 have hf' : fillA h (fun i => some (i * 1, 1)) (Y0u z 1) ([(0, x)].map fun p => (p.1, st (rdo env p.2))) = some [.rsl q 0 0 n] := by
  simp only [X00, X0q, hx, hst]
  exact hf
 obtain ⟨arr, h1', h2⟩ := fill_sound (arr := (Array.range (1 * 1)).map (u.cells[· % u.cells.size]!)) hf' hvp (fun p hp => by
  obtain ⟨q', hq', rfl⟩ := X06.1 hp
  rw [List.mem_singleton.1 hq', hx]
  exact hokC) hz0
 have hal : arr.size = 1 * 1 := by simpa using h2.length
 have htk : arr.toList.take ([AV.rsl q 0 0 n]).length = arr.toList := take_all (by simpa using hal)
 obtain ⟨H', K'⟩ := H.alloc r hr e 1 1 [.rsl q 0 0 n] arr hal (by simp [maxLen]) (by rw [htk]; exact h2) (by rw [htk]; exact Y2q (fun y hy => by rw [List.mem_singleton.1 hy]; exact hone) h2)
 have hrun : (execOp a.eval o).run P w = .ok (.value (.slice (some ⟨w.heap.size, 0, none⟩) 1 1)) (w.alloc (.cells arr e)) := by
  simp only [execOp, ho, Instr.buildSlice, X9, run_underlying (Y35 E.sle), sizeOf, typeInfo, program, Sem.run, hi, Xm, Xz, hisz]
  simp only [Nat.mul_one, X00, X0q] at h1'
  simp [hu, h1', newRow, X9]
 simp only [Oper.wp, hrun, Oper.upon]
 refine hn _ _ _ H' K' (VR.newrsl (rt := ⟨0, true, e, 1, _⟩) ?_)
 exact ⟨_, _, rfl, Xi _, .inr ⟨w.heap.size, rfl, .inl ⟨rfl, by simp⟩⟩⟩
theorem OpsW.appendRow {o : Oper} {rest : List Oper} {K : Env → Hp → Prop} {s x : Operand} {t u e : TypeId} {bytes : Nat} {z : List Value} {α : Type} {xs : List (List α)} (row : List α) (ho : o.op = .call ⟨.builtin .append, #[s, x], #[t, u]⟩) (hgu : o.guard = none) (hd : o.dst.all (· < N) = true)
  {r ver R q qr n : Nat} (E : Elem P t e 1 bytes z) (hs : rdo env s = .rsl r ver 0 xs.length) (hrt : h.at r = some (nsA ver e R xs)) (hx : rdo env x = .rsl qr 0 0 1) (hqr : h.at qr = some ⟨0, true, e, 1, [.rsl q 0 0 n]⟩) (hu : tk P u = 1) (hroom : room bytes (xs.length + 1))
  (hw : OpsW P N ops rest (setd env o.dst (.rsl r (ver + 1) 0 (xs ++ [row]).length)) ((r, ⟨ver + 1, true, e, 1, (nsA ver e R xs).cs.take (xs.length * 1) ++ [.rsl q 0 0 n]⟩) :: h) K) : OpsW P N ops (o :: rest) env h K := by
 have hlen : (nsA ver e R xs).cs.length = xs.length := by simp only [nsA, Y2r, X01]
 have src := SrcA.rsl (P := P) (h := h) (u := u) (r := qr) (ver := 0) (off := 0) (k := 1) (m := 1) hu hqr rfl rfl rfl (by simp)
 refine OpsW.append ho hgu hd E hs hrt rfl rfl rfl rfl (by rw [hlen]; omega) (by rw [hx]; trivial) (m := 1) (news := [.rsl q 0 0 n]) (by rw [hx]; exact src) hroom.1 hroom.2 ?_
 rw [Xu] at hw
 exact hw
theorem free_c {g : Hp} {q r : Nat} {rt : Rt} (hn : (q == r) = false) (h : g.at r = none) : Hp.at ((q, rt) :: g) r = none := by
 rw [Hp.at, if_neg (by simpa using hn)]
 exact h
end
end Go.Abs
