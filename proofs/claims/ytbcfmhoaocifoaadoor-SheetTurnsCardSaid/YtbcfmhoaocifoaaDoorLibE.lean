/-
  Own work. Several texts of the library in one.
-/
import Derived.Lib.Builder
import Derived.Lib.UnsafeStr
import Derived.LaidEqlPtr
import Derived.Laws.Externs
import Derived.Test.YtbcfmhoaocifoaaDoorLibD
set_option linter.unusedSimpArgs false
set_option linter.unusedVariables false
/-
  Own work. The generated walks, part 18: what strings.Builder needs: pointers that are compared and turned to raw ones and back, the bytes of a row taken as a string.
-/
namespace Go.Abs
open Go.RowKit
section
variable {P : Program} {N : Nat} {ops : Array Oper} {env : Env} {h : Hp}
end
end Go.Abs
/-
  Own work. The generated walks, part 19: slices of slices that are written: families of roots.
-/
namespace Go.Abs
open Go.RowKit
def fid (R i : Nat) : Nat := R + 100000 * (i + 1)
theorem fid_mod {R i : Nat} (h : R < 100000) : fid R i % 100000 = R := by unfold fid; omega
theorem fid_div {R i : Nat} (h : R < 100000) : fid R i / 100000 - 1 = i := by unfold fid; omega
theorem fid_big (R i : Nat) : 100000 ≤ fid R i := by unfold fid; omega
theorem fid_inj {R S i j : Nat} (h1 : R < 100000) (h2 : S < 100000) (h : fid R i = fid S j) : R = S ∧ i = j := by unfold fid at h; omega
structure Fm where
  R : Nat
  e : TypeId
  k : Nat
  rows : List (List IV)
def rowRt (e : TypeId) (k : Nat) (row : List IV) : Rt := ⟨0, true, e, k, row.map .im⟩
def fmFrom (R : Nat) (e : TypeId) (k : Nat) : Nat → List (List IV) → Hp
  | _, [] => []
  | i, row :: rows => (fid R i, rowRt e k row) :: fmFrom R e k (i + 1) rows
def fmsH : List Fm → Hp
  | [] => []
  | f :: fs => fmFrom f.R f.e f.k 0 f.rows ++ fmsH fs
def nsFrom (R : Nat) : Nat → List Nat → List AV
  | _, [] => []
  | i, n :: ns => .rsl (fid R i) 0 0 n :: nsFrom R (i + 1) ns
theorem nsFrom_len (R : Nat) : ∀ (ns : List Nat) (i : Nat), (nsFrom R i ns).length = ns.length
  | [], _ => rfl
  | _ :: ns, i => by rw [nsFrom, List.length_cons, List.length_cons, nsFrom_len R ns]
theorem nsFrom_get (R : Nat) : ∀ (ns : List Nat) (i j : Nat), (nsFrom R i ns)[j]? = (ns[j]?).map fun n => .rsl (fid R (i + j)) 0 0 n
  | [], _, _ => by simp [nsFrom]
  | n :: ns, i, 0 => by simp [nsFrom]
  | n :: ns, i, j + 1 => by
    rw [nsFrom, List.getElem?_cons_succ, List.getElem?_cons_succ, nsFrom_get R ns (i + 1) j, show i + 1 + j = i + (j + 1) by omega]
theorem fmFrom_at (R : Nat) (e : TypeId) (k : Nat) (hR : R < 100000) : ∀ (rows : List (List IV)) (i j : Nat), (fmFrom R e k i rows).at (fid R (i + j)) = (rows[j]?).map (rowRt e k)
  | [], _, _ => by simp [fmFrom, Hp.at]
  | row :: rows, i, 0 => by simp [fmFrom, Hp.at]
  | row :: rows, i, j + 1 => by
    have : ¬ fid R i = fid R (i + (j + 1)) := fun h => by have := (fid_inj hR hR h).2; omega
    rw [fmFrom, Hp.at, if_neg this, List.getElem?_cons_succ, show i + (j + 1) = i + 1 + j by omega]
    exact fmFrom_at R e k hR rows (i + 1) j
theorem fmFrom_not (R : Nat) (e : TypeId) (k t : Nat) : ∀ (rows : List (List IV)) (i : Nat), (∀ j, t ≠ fid R j) → (fmFrom R e k i rows).at t = none
  | [], _, _ => rfl
  | row :: rows, i, h => by
    rw [fmFrom, Hp.at, if_neg (fun e => h i e.symm)]
    exact fmFrom_not R e k t rows (i + 1) h
theorem fmFrom_inv (R : Nat) (e : TypeId) (k : Nat) : ∀ (rows : List (List IV)) (i t : Nat) (rt : Rt), (fmFrom R e k i rows).at t = some rt → ∃ j row, t = fid R (i + j) ∧ rows[j]? = some row ∧ rt = rowRt e k row
  | [], _, _, _, h => by simp [fmFrom, Hp.at] at h
  | row :: rows, i, t, rt, h => by
    rw [fmFrom, Hp.at] at h
    split at h
    · rename_i he
      cases h
      exact ⟨0, row, he.symm, rfl, rfl⟩
    · obtain ⟨j, row', h1, h2, h3⟩ := fmFrom_inv R e k rows (i + 1) t rt h
      exact ⟨j + 1, row', by rw [h1, show i + 1 + j = i + (j + 1) by omega], h2, h3⟩
def fmGet : List Fm → Nat → Option Fm
  | [], _ => none
  | f :: fs, R => if f.R = R then some f else fmGet fs R
def okF (fs : List Fm) : Bool := fs.all (fun f => decide (f.R < 100000))
theorem fmsH_at : ∀ (fs : List Fm) (f : Fm) (i : Nat) (row : List IV), okF fs = true → fmGet fs f.R = some f → f.rows[i]? = some row → (fmsH fs).at (fid f.R i) = some (rowRt f.e f.k row)
  | [], _, _, _, _, h, _ => by simp [fmGet] at h
  | g :: fs, f, i, row, ho, h, hr => by
    unfold okF at ho
    rw [List.all_cons, Bool.and_eq_true, decide_eq_true_eq] at ho
    rw [fmGet] at h
    rw [fmsH, at_append]
    split at h
    · cases h
      have := fmFrom_at g.R g.e g.k ho.1 g.rows 0 i
      rw [Nat.zero_add] at this
      rw [this, hr]
      rfl
    · rename_i hne
      by_cases hf : f.R < 100000
      · have : (fmFrom g.R g.e g.k 0 g.rows).at (fid f.R i) = none := fmFrom_not _ _ _ _ _ _ fun j e => hne (fid_inj hf ho.1 e).1.symm
        rw [this]
        exact fmsH_at fs f i row ho.2 h hr
      · exfalso
        have : ∀ (l : List Fm), l.all (fun f => decide (f.R < 100000)) = true → fmGet l f.R = some f → False := by
          intro l
          induction l with
          | nil => intro _ h; simp [fmGet] at h
          | cons x l ih =>
            intro ha hg
            rw [List.all_cons, Bool.and_eq_true, decide_eq_true_eq] at ha
            rw [fmGet] at hg
            split at hg
            · cases hg; omega
            · exact ih ha.2 hg
        exact this fs ho.2 h
theorem fmsH_inv : ∀ (fs : List Fm) (t : Nat) (rt : Rt), okF fs = true → (fmsH fs).at t = some rt → ∃ f i row, f ∈ fs ∧ t = fid f.R i ∧ f.rows[i]? = some row ∧ rt = rowRt f.e f.k row
  | [], _, _, _, h => by simp [fmsH, Hp.at] at h
  | g :: fs, t, rt, ho, h => by
    unfold okF at ho
    rw [List.all_cons, Bool.and_eq_true, decide_eq_true_eq] at ho
    rw [fmsH, at_append] at h
    cases hg : (fmFrom g.R g.e g.k 0 g.rows).at t with
    | some x =>
      rw [hg] at h
      cases h
      obtain ⟨j, row, h1, h2, h3⟩ := fmFrom_inv _ _ _ _ _ _ _ hg
      rw [Nat.zero_add] at h1
      exact ⟨g, j, row, List.mem_cons_self, h1, h2, h3⟩
    | none =>
      rw [hg] at h
      obtain ⟨f, i, row, h1, h2⟩ := fmsH_inv fs t rt ho.2 h
      exact ⟨f, i, row, List.mem_cons_of_mem _ h1, h2⟩
theorem fmsH_small {fs : List Fm} {t : Nat} (ho : okF fs = true) (h : t < 100000) : (fmsH fs).at t = none := by
  cases hx : (fmsH fs).at t with
  | none => rfl
  | some rt =>
    obtain ⟨f, i, row, _, e, _⟩ := fmsH_inv fs t rt ho hx
    have := fid_big f.R i
    omega
def okS (h : Hp) : Bool := h.all fun x => decide (x.1 < 100000)
theorem okS_none {h : Hp} (ho : okS h = true) {t : Nat} (ht : 100000 ≤ t) : h.at t = none := by
  induction h with
  | nil => rfl
  | cons x h ih =>
    unfold okS at ho
    rw [List.all_cons, Bool.and_eq_true, decide_eq_true_eq] at ho
    obtain ⟨i, v⟩ := x
    rw [Hp.at, if_neg (by have := ho.1; dsimp only at this; omega)]
    exact ih ho.2
theorem at_small {hc : Hp} {fs : List Fm} (ho : okF fs = true) {t : Nat} (ht : t < 100000) : Hp.at (hc ++ fmsH fs) t = hc.at t := by
  rw [at_append, fmsH_small ho ht]
  cases hc.at t <;> rfl
theorem at_big {hc : Hp} {fs : List Fm} (ho : okS hc = true) {t : Nat} (ht : 100000 ≤ t) : Hp.at (hc ++ fmsH fs) t = (fmsH fs).at t := by
  rw [at_append, okS_none ho ht]
theorem free_f {hc : Hp} {fs : List Fm} {t : Nat} (h : (okF fs && decide (t < 100000) && (hc.at t).isNone) = true) : Hp.at (hc ++ fmsH fs) t = none := by
  simp only [Bool.and_eq_true, decide_eq_true_eq, Option.isNone_iff_eq_none] at h
  rw [at_small h.1.1 h.1.2, h.2]
theorem row_at {hc : Hp} {fs : List Fm} {f : Fm} {i : Nat} {row : List IV} (h : (okF fs && okS hc) = true) (hf : fmGet fs f.R = some f) (hr : f.rows[i]? = some row) : Hp.at (hc ++ fmsH fs) (fid f.R i) = some (rowRt f.e f.k row) := by
  rw [Bool.and_eq_true] at h
  rw [at_big h.2 (fid_big _ _)]
  exact fmsH_at fs f i row h.1 hf hr
end Go.Abs
/-
  Own work. The generated walks, part 20: states with families told anew.
-/
namespace Go.Abs
open Go.RowKit
inductive FM where
  | same (R : Nat)
  | nil
  | put (R i q : Nat)
def FM.to : FM → Nat → Option Nat
  | .same R, i => some (fid R i)
  | .nil, _ => none
  | .put R i0 q, i => if i = i0 then some q else some (fid R i)
def FM.src : FM → Option Nat
  | .same R => some R
  | .nil => none
  | .put R _ _ => some R
def FM.q : FM → Option Nat
  | .put _ _ q => some q
  | _ => none
def fmLook : List (Nat × FM) → Nat → Option FM
  | [], _ => none
  | (R', m) :: l, R => if R' = R then some m else fmLook l R
def phF (l : List (Nat × Option Nat)) (m : List (Nat × FM)) (t : Nat) : Option Nat := if t < 100000 then phi l t else (fmLook m (t % 100000)).bind fun x => x.to (t / 100000 - 1)
theorem phF_small {l : List (Nat × Option Nat)} {m : List (Nat × FM)} {t : Nat} (h : t < 100000) : phF l m t = phi l t := if_pos h
theorem phF_fid {l : List (Nat × Option Nat)} {m : List (Nat × FM)} {R i : Nat} {x : FM} (hR : R < 100000) (hx : fmLook m R = some x) : phF l m (fid R i) = x.to i := by
  unfold phF
  rw [if_neg (by have := fid_big R i; omega), fid_mod hR, fid_div hR, hx]
  rfl
def okM (l : List (Nat × Option Nat)) (m : List (Nat × FM)) : Bool :=
  (l.all fun p => match p.2 with | some a => decide (a < 100000) | none => true) &&
  ((m.all fun x => (match x.2.src with | some R => decide (R < 100000) | none => true) && (match x.2.q with | some q => decide (q < 100000) && l.all (fun p => !(p.2 == some q)) | none => true)) &&
  (m.all fun x => m.all fun y => decide (x.1 = y.1) || ((x.2.src == none) || !(x.2.src == y.2.src)) && ((x.2.q == none) || !(x.2.q == y.2.q))))
theorem fmLook_mem : ∀ {m : List (Nat × FM)} {R : Nat} {x : FM}, fmLook m R = some x → (R, x) ∈ m
  | [], _, _, h => by simp [fmLook] at h
  | (S, y) :: m, R, x, h => by
    rw [fmLook] at h
    split at h
    · rename_i he
      cases h
      rw [he]
      exact List.mem_cons_self
    · exact List.mem_cons_of_mem _ (fmLook_mem h)
theorem phi_mem : ∀ {l : List (Nat × Option Nat)} {t a : Nat}, phi l t = some a → ∃ p ∈ l, p.2 = some a
  | [], _, _, h => by simp [phi] at h
  | (i, v) :: l, t, a, h => by
    rw [phi] at h
    split at h
    · exact ⟨(i, v), List.mem_cons_self, h⟩
    · obtain ⟨p, hp, e⟩ := phi_mem h
      exact ⟨p, List.mem_cons_of_mem _ hp, e⟩
theorem FM.to_src {x : FM} {i a : Nat} (h : x.to i = some a) : (∃ R, x.src = some R ∧ a = fid R i) ∨ x.q = some a := by
  cases x with
  | same R => left; exact ⟨R, rfl, by simpa [FM.to] using h.symm⟩
  | nil => simp [FM.to] at h
  | put R i0 q =>
    simp only [FM.to] at h
    split at h
    · right; simpa [FM.q] using h
    · left; exact ⟨R, rfl, by simpa using h.symm⟩
theorem FM.to_inj {x : FM} {i j a : Nat} (hs : ∀ R, x.src = some R → R < 100000) (hq : ∀ q, x.q = some q → q < 100000) (h1 : x.to i = some a) (h2 : x.to j = some a) : i = j := by
  cases x with
  | same R =>
    simp only [FM.to, Option.some.injEq] at h1 h2
    exact (fid_inj (hs R rfl) (hs R rfl) (h1.trans h2.symm)).2
  | nil => simp [FM.to] at h1
  | put R i0 q =>
    have hR := hs R rfl
    have hq' := hq q rfl
    simp only [FM.to] at h1 h2
    split at h1 <;> split at h2
    · omega
    · simp only [Option.some.injEq] at h1 h2
      have := fid_big R j
      omega
    · simp only [Option.some.injEq] at h1 h2
      have := fid_big R i
      omega
    · simp only [Option.some.injEq] at h1 h2
      exact (fid_inj hR hR (h1.trans h2.symm)).2
def FmC (h : Hp) (fs : List Fm) (f : Fm) : FM → Prop
  | .same R => ∃ g, fmGet fs R = some g ∧ g.R = R ∧ g.e = f.e ∧ g.k = f.k ∧ f.rows = g.rows
  | .nil => ∀ row ∈ f.rows, row = []
  | .put R i q => ∃ g rt, fmGet fs R = some g ∧ g.R = R ∧ g.e = f.e ∧ g.k = f.k ∧ h.at q = some rt ∧ rt.live = true ∧ rt.e = f.e ∧ rt.k = f.k ∧ ∀ j row, f.rows[j]? = some row → if j = i then rt.cs = row.map .im else g.rows[j]? = some row
inductive FmsC (h : Hp) (fs : List Fm) (m : List (Nat × FM)) : List Fm → Prop
  | nil : FmsC h fs m []
  | cons {f : Fm} {x : FM} {l : List Fm} : fmLook m f.R = some x → FmC h fs f x → FmsC h fs m l → FmsC h fs m (f :: l)
theorem FmsC.all {h : Hp} {fs : List Fm} {m : List (Nat × FM)} : ∀ {l : List Fm}, FmsC h fs m l → ∀ f ∈ l, ∃ x, fmLook m f.R = some x ∧ FmC h fs f x
  | _, .nil, f, hf => by simp at hf
  | _, .cons (x := x) h1 h2 hl, f, hf => by
    rcases List.mem_cons.1 hf with rfl | hf
    · exact ⟨x, h1, h2⟩
    · exact hl.all f hf
section
variable {P : Program} {N : Nat} {ops : Array Oper} {env : Env} {h : Hp}
theorem StC.mkF {env' : Env} {hc hc' : Hp} {fs fs' : List Fm} (hh : h = hc ++ fmsH fs) (l : List (Nat × Option Nat)) (m : List (Nat × FM)) (hok : (okF fs && okS hc && (okF fs' && okS hc') && okM l m) = true)
    (hr : RtsC h (hc' ++ fmsH fs') (phF l m) hc') (hib : (injB hc' (phi l) && pinB hc hc' (phi l)) = true) (hf : FmsC h fs m fs') (he : EnvC h (hc' ++ fmsH fs') (phF l m) env env') : StC env h env' (hc' ++ fmsH fs') := by
  simp only [Bool.and_eq_true] at hok hib
  obtain ⟨⟨⟨o1, o2⟩, o3, o4⟩, oM⟩ := hok
  obtain ⟨hi, hp⟩ := hib
  unfold okM at oM
  simp only [Bool.and_eq_true] at oM
  obtain ⟨m1, m2, m3⟩ := oM
  have l1 : ∀ {t a}, phi l t = some a → a < 100000 := by
    intro t a hx
    obtain ⟨p, hp, e⟩ := phi_mem hx
    have := List.all_eq_true.1 m1 p hp
    rw [e] at this
    simpa using this
  have s1 : ∀ {R x S}, fmLook m R = some x → x.src = some S → S < 100000 := by
    intro R x S hx hs
    have := List.all_eq_true.1 m2 _ (fmLook_mem hx)
    simp only [Bool.and_eq_true] at this
    have := this.1
    rw [hs] at this
    simpa using this
  have q1 : ∀ {R x q}, fmLook m R = some x → x.q = some q → q < 100000 ∧ ∀ t, phi l t ≠ some q := by
    intro R x q hx hs
    have := List.all_eq_true.1 m2 _ (fmLook_mem hx)
    simp only [Bool.and_eq_true] at this
    have := this.2
    rw [hs] at this
    simp only [Bool.and_eq_true, decide_eq_true_eq] at this
    refine ⟨this.1, fun t ht => ?_⟩
    obtain ⟨p, hp, e⟩ := phi_mem ht
    have := List.all_eq_true.1 this.2 p hp
    rw [e] at this
    simp at this
  -- a name of the new state
  have inv : ∀ t rt, Hp.at (hc' ++ fmsH fs') t = some rt → (t < 100000 ∧ hc'.at t = some rt) ∨ ∃ f i row x, f ∈ fs' ∧ t = fid f.R i ∧ f.R < 100000 ∧ f.rows[i]? = some row ∧ rt = rowRt f.e f.k row ∧ fmLook m f.R = some x ∧ FmC h fs f x ∧ phF l m t = x.to i := by
    intro t rt ht
    rcases Nat.lt_or_ge t 100000 with hs | hb
    · rw [at_small o3 hs] at ht
      exact .inl ⟨hs, ht⟩
    · rw [at_big o4 hb] at ht
      obtain ⟨f, i, row, h1, h2, h3, h4⟩ := fmsH_inv fs' t rt o3 ht
      have hR : f.R < 100000 := by simpa using List.all_eq_true.1 o3 f h1
      obtain ⟨x, h5, h6⟩ := hf.all f h1
      exact .inr ⟨f, i, row, x, h1, h2, hR, h3, h4, h5, h6, by rw [h2]; exact phF_fid hR h5⟩
  refine ⟨phF l m, ⟨?_, ?_, ?_⟩, he⟩
  · intro r' rt' hr'
    rcases inv r' rt' hr' with ⟨hs, ht⟩ | ⟨f, i, row, x, h1, h2, hR, h3, h4, h5, h6, h7⟩
    · exact hr.root r' rt' ht
    · rw [h7]
      cases x with
      | same R =>
        obtain ⟨g, g1, g2, g3, g4, g5⟩ := h6
        simp only [FM.to]
        rw [g5] at h3
        have := row_at (hc := hc) (fs := fs) (f := g) (i := i) (row := row) (by rw [o1, o2]; rfl) (by rw [g2]; exact g1) h3
        rw [g2, ← hh] at this
        refine ⟨_, this, by rw [h4]; rfl, by rw [h4]; exact g3.symm, by rw [h4]; exact g4.symm, ?_⟩
        rw [h4]
        exact CstL.ims row
      | nil =>
        simp only [FM.to]
        have := h6 row (List.mem_of_getElem? h3)
        rw [h4, this]
        rfl
      | put R i0 q =>
        obtain ⟨g, rt, g1, g2, g3, g4, g5, g6, g7, g8, g9⟩ := h6
        have h9 := g9 i row h3
        simp only [FM.to]
        split
        · rename_i heq
          split at heq
          · rename_i hii
            simp only [Option.some.injEq] at heq
            subst heq
            rw [if_pos hii] at h9
            refine ⟨rt, g5, by rw [h4, g6]; rfl, by rw [h4, g7]; rfl, by rw [h4, g8]; rfl, ?_⟩
            rw [h4, h9]
            exact CstL.ims row
          · rename_i hii
            simp only [Option.some.injEq] at heq
            subst heq
            rw [if_neg hii] at h9
            have := row_at (hc := hc) (fs := fs) (f := g) (i := i) (row := row) (by rw [o1, o2]; rfl) (by rw [g2]; exact g1) h9
            rw [g2, ← hh] at this
            refine ⟨_, this, by rw [h4]; rfl, by rw [h4]; exact g3.symm, by rw [h4]; exact g4.symm, ?_⟩
            rw [h4]
            exact CstL.ims row
        · rename_i heq
          split at heq <;> simp at heq
  · intro r' s' rt' st' hr' hs' hφ hne
    rcases inv r' rt' hr' with ⟨a1, a2⟩ | ⟨f, i, row, x, h1, h2, hR, h3, h4, h5, h6, h7⟩
    · rcases inv s' st' hs' with ⟨b1, b2⟩ | ⟨f, i, row, x, h1, h2, hR, h3, h4, h5, h6, h7⟩
      · rw [phF_small a1, phF_small b1] at hφ
        rw [phF_small a1] at hne
        unfold injB at hi
        have h5 := List.all_eq_true.1 (List.all_eq_true.1 hi r' (mem_of_at a2)) s' (mem_of_at b2)
        simp only [Bool.or_eq_true, beq_iff_eq, Bool.not_eq_true', beq_eq_false_iff_ne, ne_eq] at h5
        rcases h5 with (h5 | h5) | h5
        · exact h5
        · exact absurd h5 hne
        · exact absurd hφ h5
      · exfalso
        rw [phF_small a1, h7] at hφ
        rw [phF_small a1] at hne
        obtain ⟨a, ha⟩ := Option.ne_none_iff_exists'.1 hne
        have hal := l1 ha
        rw [ha] at hφ
        rcases FM.to_src hφ.symm with ⟨R, _, e⟩ | hq
        · have := fid_big R i
          omega
        · exact (q1 h5 hq).2 _ ha
    · rw [h7] at hφ hne
      obtain ⟨a, ha⟩ := Option.ne_none_iff_exists'.1 hne
      rw [ha] at hφ
      rcases inv s' st' hs' with ⟨b1, b2⟩ | ⟨f', i', row', x', h1', h2', hR', h3', h4', h5', h6', h7'⟩
      · exfalso
        rw [phF_small b1] at hφ
        have hal := l1 hφ.symm
        rcases FM.to_src ha with ⟨R, _, e⟩ | hq
        · have := fid_big R i
          omega
        · exact (q1 h5 hq).2 _ hφ.symm
      · rw [h7'] at hφ
        by_cases hRR : f.R = f'.R
        · have hx : x = x' := by
            rw [hRR, h5'] at h5
            exact (Option.some.inj h5).symm
          subst hx
          have hij := FM.to_inj (fun R hs => s1 h5 hs) (fun q hq => (q1 h5 hq).1) ha hφ.symm
          rw [h2, h2', hRR, hij]
        · exfalso
          have := List.all_eq_true.1 (List.all_eq_true.1 m3 _ (fmLook_mem h5)) _ (fmLook_mem h5')
          simp only [Bool.or_eq_true, decide_eq_true_eq, Bool.and_eq_true, beq_iff_eq, Bool.not_eq_true', beq_eq_false_iff_ne, ne_eq] at this
          rcases this with this | ⟨t1, t2⟩
          · exact hRR this
          · rcases FM.to_src ha with ⟨R, hs, e⟩ | hq
            · rcases FM.to_src hφ.symm with ⟨R', hs', e'⟩ | hq'
              · have := (fid_inj (s1 h5 hs) (s1 h5' hs') (e.symm.trans e')).1
                subst this
                rcases t1 with t1 | t1
                · rw [hs] at t1; simp at t1
                · exact t1 (hs.trans hs'.symm)
              · have := (q1 h5' hq').1
                have := fid_big R i
                omega
            · rcases FM.to_src hφ.symm with ⟨R', hs', e'⟩ | hq'
              · have := (q1 h5 hq).1
                have := fid_big R' i'
                omega
              · rcases t2 with t2 | t2
                · rw [hq] at t2; simp at t2
                · exact t2 (hq.trans hq'.symm)
  · intro r rt hx h2
    rw [hh, at_small o1 (by omega)] at hx
    obtain ⟨a1, rt', a2, a3⟩ := pinB.sound hp r rt hx h2
    exact ⟨by rw [phF_small (by omega)]; exact a1, rt', by rw [at_small o3 (by omega)]; exact a2, a3⟩
end
end Go.Abs
