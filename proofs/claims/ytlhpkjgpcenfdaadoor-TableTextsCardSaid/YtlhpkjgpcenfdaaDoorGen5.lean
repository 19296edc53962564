/-
  Own work. The generated walks, part 5: small forms.
-/
import Derived.Test.YtlhpkjgpcenfdaaDoorGen4
set_option linter.unusedSimpArgs false
set_option linter.unusedVariables false
set_option linter.unusedSimpArgs false
set_option linter.unusedVariables false
namespace Go.Abs
open Go.RowKit
def bytesOf (s : ByteArray) : List Int := s.data.toList.map fun b => ((b.toNat : Nat) : Int)
theorem bytesOf_len (s : ByteArray) : (bytesOf s).length = s.size := by simp [bytesOf]
theorem Env.le_of_eq {e e' : Env} (h : e = e') : Env.le e e' := by subst h; exact fun i => .inr rfl
section
variable {P : Program} {N : Nat} {ops : Array Oper} {env : Env} {h : Hp} {Q : Exit → Env → Hp → Prop}
theorem AW.trim {c : Code} (l : List Nat) (env' : Env) (he : env.keep l = env') (hw : AW P N c env' h Q) : AW P N c env h Q := AW.keep l (by rw [he]; exact hw)
theorem OpsW.alloc' {o : Oper} {rest : List Oper} {K : Env → Hp → Prop} {e : TypeId} {z : List Value} (ho : o.op = .alloc e) (hgu : o.guard = none) (hd : o.dst.all (· < N) = true) (r : Nat) (hr : h.at r = none)
    (hz : zc P e = some z) (hz1 : z.all (·.oneCell') = true) (hw : OpsW P N ops rest (setd env o.dst (.ref r 0 0)) ((r, ⟨0, true, e, z.length, z.map fun v => .im (.val v)⟩) :: h) K) : OpsW P N ops (o :: rest) env h K :=
  OpsW.alloc ho hgu hd r hr z hz hz1 hw
theorem SrcA.rootF {u : TypeId} {r ver k e : Nat} {α : Type} {enc : α → List IV} {l : List α} (hk : ∀ a, (enc a).length = k) (hu : tk P u = 1) (hrt : h.at r = some (rtA ver e k enc l)) :
    SrcA P h u k (.rsl r ver 0 l.length) l.length ((l.flatMap enc).map .im) := by
  have := SrcA.root (P := P) (u := u) (off := 0) (m := l.length) hk hu hrt (by omega)
  simpa using this
theorem rt_cell {α : Type} (enc : α → List IV) (k : Nat) (hk : ∀ a, (enc a).length = k) (l : List α) (d : α) (i : Nat) (hi : i < l.length) (o : Nat) (c : α → IV) (hc : ∀ a, (enc a)[o]? = some (c a)) {off : Nat} (ho : off = i * k + o) :
    ((l.flatMap enc).map AV.im)[off]? = some (.im (c (l.getD i d))) := by
  subst ho
  exact map_get (fm_cell enc k hk l d i hi o c hc)
theorem rt_elem {α : Type} (enc : α → List IV) (k : Nat) (hk : ∀ a, (enc a).length = k) (l : List α) (d : α) (i : Nat) (hi : i < l.length) : (((l.flatMap enc).map AV.im).drop (0 + i * k)).take k = (enc (l.getD i d)).map AV.im := by
  rw [Nat.zero_add, ← List.map_drop, ← List.map_take, fm_elem enc k hk l d i hi]
theorem rt_elem_le {α : Type} (enc : α → List IV) (k : Nat) (hk : ∀ a, (enc a).length = k) (l : List α) (i : Nat) (hi : i < l.length) : 0 + i * k + k ≤ ((l.flatMap enc).map AV.im).length := by
  rw [List.length_map, fm_length enc k hk]
  have : (i + 1) * k ≤ l.length * k := Nat.mul_le_mul_right _ hi
  rw [Nat.add_mul] at this
  omega
/-- Parts of immutable slices: the cells and the length together. -/
def PartOf (n k : Nat) (cs : List IV) (lo hi : Nat) (x : IV) : Prop := x = .sl ((cs.drop (lo * k)).take ((hi - lo) * k)) (hi - lo)
theorem T.slice' {ρ : Operand → AV} {x : Operand} {lo hi : Option Operand} {t : TypeId} {cs : List IV} {n k : Nat} {y : IV} (hx : st (ρ x) = .im (.sl cs n)) (hg : gd (ρ x)) (hgl : gdo ρ lo) (hgh : gdo ρ hi) (ht : tk P t = 1) (hk : ez P t = some k)
    (h1 : okLo n (hi.map fun y => st (ρ y))) (h2 : okLo (highOf n (hi.map fun y => st (ρ y))) (lo.map fun y => st (ρ y)))
    (hd : PartOf n k cs (lowOf (lo.map fun y => st (ρ y))) (highOf n (hi.map fun y => st (ρ y))) y) :
    po P h ρ (.slice t x lo hi none) ∧ pv P h ρ (.slice t x lo hi none) = .im y := by
  unfold PartOf at hd
  rw [hd]
  exact T.slice hx hg hgl hgh ht hk h1 h2 rfl rfl
theorem sl_both {α : Type} (enc : α → List IV) (k : Nat) (hk : ∀ a, (enc a).length = k) (l : List α) (lo hi : Int) (h1 : 0 ≤ hi ∧ hi ≤ (l.length : Int)) (h2 : 0 ≤ lo ∧ lo ≤ (hi.toNat : Int)) :
    PartOf l.length k (l.flatMap enc) lo.toNat hi.toNat (.sl (((l.drop lo.toNat).take (hi.toNat - lo.toNat)).flatMap enc) ((l.drop lo.toNat).take (hi.toNat - lo.toNat)).length) := by
  unfold PartOf
  rw [fm_part enc k hk]
  congr 1
  simp
  omega
theorem sl_hi {α : Type} (enc : α → List IV) (k : Nat) (hk : ∀ a, (enc a).length = k) (l : List α) (hi : Int) (h1 : 0 ≤ hi ∧ hi ≤ (l.length : Int)) :
    PartOf l.length k (l.flatMap enc) 0 hi.toNat (.sl ((l.take hi.toNat).flatMap enc) (l.take hi.toNat).length) := by
  unfold PartOf
  rw [fm_part enc k hk]
  simp
  omega
theorem sl_lo {α : Type} (enc : α → List IV) (k : Nat) (hk : ∀ a, (enc a).length = k) (l : List α) (lo : Int) (h2 : 0 ≤ lo ∧ lo ≤ (l.length : Int)) :
    PartOf l.length k (l.flatMap enc) lo.toNat l.length (.sl ((l.drop lo.toNat).flatMap enc) (l.drop lo.toNat).length) := by
  unfold PartOf
  rw [fm_part enc k hk]
  rw [List.take_of_length_le (by simp)]
  simp
/-- The results of a function, one by one. -/
inductive ResV (P : Program) (h : Hp) (env : Env) : List ResultVar → List AV → Prop
  | nil : ResV P h env [] []
  | tmp {t : Nat} {rs : List ResultVar} {xs : List AV} : ResV P h env rs xs → ResV P h env (.tmp t :: rs) (rd env t :: xs)
  | cell {a t r ver off : Nat} {rs : List ResultVar} {xs : List AV} : rd env a = .ref r ver off → ob P h (fun _ => .ref r ver off) (.load t (.tmp 0)) = some [] → ResV P h env rs xs → ResV P h env (.cell a t :: rs) (pvLoad h (lz P t) (.ref r ver off) :: xs)
  | cellW {a t r ver n : Nat} {rt : Rt} {rs : List ResultVar} {xs : List AV} : rd env a = .ref r ver 0 → lz P t = some (some n) → h.at r = some rt → rt.ver = ver → rt.live = true → rt.cs.length = n → ResV P h env rs xs → ResV P h env (.cell a t :: rs) (.agg rt.cs :: xs)
def resOf : List AV → AV
  | [x] => x
  | xs => .tup xs
theorem loadAt_loadVar {t : TypeId} {u v : Value} {w : World} (hl : (Instr.loadAt t u).run P w = .ok v w) {g off : Nat} (hu : u = .pointer (some ⟨g, off, none⟩)) : (do loadVar t (← asAddr u) : Sem Value).run P w = .ok v w := by
  subst hu
  simp [Instr.loadAt, Instr.sureAddr, Sem.run_bind, asAddr] at hl ⊢
  exact hl
def resOne (tmps : Array Value) : ResultVar → Sem Value
  | .tmp t => pure (tmps.getD t undef)
  | .cell b t => do loadVar t (← asAddr (tmps.getD b undef))
theorem results_resOne (fn : Func) (tmps : Array Value) : results fn tmps = (do
    let vs ← fn.results.mapM (resOne tmps)
    pure (if h : vs.size = 1 then vs[0] else .tuple vs)) := by
  unfold results
  congr 2
theorem ResV.run {rs : List ResultVar} {xs : List AV} (hv : ResV P h env rs xs) {X : Ctx} {a : Act} {w : World} {ι : Nat → Bk} (H : Hol X h ι w) (S : Slots N env h ι (Own X.B h ι) a w) :
    ∃ vs : List Value, (rs.mapM (resOne a.tmps)).run P w = .ok vs w ∧ VRL w h ι (Own X.B h ι) xs vs := by
  induction hv with
  | nil => exact ⟨[], by simp, by simp [VRL]⟩
  | @tmp t rs xs _ ih =>
    obtain ⟨vs, h1, h2⟩ := ih
    refine ⟨a.tmps.getD t undef :: vs, ?_, by simp only [VRL]; exact ⟨_, _, rfl, S.at_ t, h2⟩⟩
    rw [List.mapM_cons, Sem.run_bind]
    have e : (resOne a.tmps (.tmp t)).run P w = .ok (a.tmps.getD t undef) w := by simp only [resOne, Sem.run_pure]
    rw [e]
    simp only [Result.andThen_ok, Sem.run_bind, h1, Sem.run_pure]
  | @cell b t r ver off rs xs h3 h4 _ ih =>
    obtain ⟨vs, h1, h2⟩ := ih
    have hp := ob_sound h4 trivial
    have hb := S.at_ b
    rw [h3] at hb
    have hx : VR w h ι (Own X.B h ι) (.ref r ver off) (a.tmps.getD b undef) := hb
    obtain ⟨v, h5, h6⟩ := load_sound (P := P) (t := t) H hp.2 hx
    have hn : (h.at r).map (·.ver) = some ver := by
      have hpl := hp.2
      simp only [st] at hpl
      unfold poLoad at hpl
      split at hpl
      · rename_i e; cases e
      · rename_i e; cases e
      · rename_i e
        cases e
        split at hpl
        · rename_i rt hrt; rw [hrt]; simp [hpl.1]
        · exact hpl.elim
      · rename_i e
        cases e
        split at hpl
        · rename_i rt hrt; rw [hrt]; simp [hpl.1]
        · exact hpl.elim
      · exact hpl.elim
    obtain ⟨rt, g, _, _, _, hu⟩ := VR.ref_now hx hn
    refine ⟨v :: vs, ?_, by simp only [VRL]; exact ⟨_, _, rfl, h6, h2⟩⟩
    have h7 : (resOne a.tmps (.cell b t)).run P w = .ok v w := loadAt_loadVar h5 hu
    rw [List.mapM_cons, Sem.run_bind, h7]
    simp only [Result.andThen_ok, Sem.run_bind, h1, Sem.run_pure]
  | @cellW b t r ver n rt rs xs h3 h4 h5 h6 h7 h8 _ ih =>
    obtain ⟨vs, h1, h2⟩ := ih
    have hx := S.at_ b
    rw [h3] at hx
    have hpl : poLoad h (lz P t) (.ref r ver 0) := by
      unfold poLoad
      rw [h4]
      simp only [h5]
      exact ⟨h6, h7, by omega⟩
    obtain ⟨v, g5, g6⟩ := load_sound (P := P) (t := t) H hpl hx
    obtain ⟨rt', g, _, _, _, hu⟩ := VR.ref_now hx (by simp [h5, h6])
    have e : pvLoad h (lz P t) (.ref r ver 0) = .agg rt.cs := by
      unfold pvLoad
      rw [h4]
      simp only [h5, List.drop_zero]
      rw [List.take_of_length_le (by omega)]
    rw [e] at g6
    refine ⟨v :: vs, ?_, by simp only [VRL]; exact ⟨_, _, rfl, g6, h2⟩⟩
    have g7 : (resOne a.tmps (.cell b t)).run P w = .ok v w := loadAt_loadVar g5 hu
    rw [List.mapM_cons, Sem.run_bind, g7]
    simp only [Result.andThen_ok, Sem.run_bind, h1, Sem.run_pure]
theorem Done.gen {fn : Func} {rs : List ResultVar} {xs : List AV} {R : AV → Hp → Prop} (hres : fn.results = rs.toArray) (hv : ResV P h env rs xs) (hR : R (resOf xs) h) : Done P fn R .ret env h := by
  refine ⟨resOf xs, fun X a w ι H S => ?_, hR⟩
  obtain ⟨vs, h1, h2⟩ := hv.run H S
  have hlen := h2.length
  refine ⟨if h : vs.length = 1 then vs[0] else .tuple vs.toArray, ?_, ?_⟩
  · rw [results_resOne, hres, List.mapM_toArray, Sem.run_bind]
    have e : (Functor.map List.toArray (rs.mapM (resOne a.tmps)) : Sem (Array Value)).run P w = .ok vs.toArray w := by
      rw [map_eq_pure_bind, Sem.run_bind, h1]
      simp only [Result.andThen_ok, Sem.run_pure]
    rw [e]
    simp only [Result.andThen_ok, Sem.run_pure, List.size_toArray, List.getElem_toArray]
  · cases xs with
    | nil =>
      simp at hlen
      subst hlen
      simp only [resOf, VR]
      exact ⟨[], rfl, h2⟩
    | cons x xs =>
      cases xs with
      | nil =>
        simp only [VRL] at h2
        obtain ⟨v, l', rfl, hx, rfl⟩ := h2
        simpa [resOf] using hx
      | cons y ys =>
        have : ¬ vs.length = 1 := by simp at hlen; omega
        rw [dif_neg this]
        simp only [resOf, VR]
        exact ⟨vs, rfl, h2⟩

/-- A scope with a label that is jumped to. -/
theorem AW.scopeK {c rest : Code} {α ρ : Type} (l : Nat) (K : α → Option ρ) (r : ρ) (E : α → Env) (Gh : α → Hp) (hf : findLabel c l = some rest)
    (first : AW P N c env h (Ex.jump l (fun e h => ∃ y, K y = some r ∧ StC e h (E y) (Gh y)) Q)) (pass : ∀ y, K y = some r → AW P N rest (E y) (Gh y) (Ex.noGoto Q)) : AW P N (.scope c) env h Q :=
  AW.scopeJump l _ hf first fun e h ⟨y, hy, hs⟩ => AW.recast hs (pass y hy)
theorem fresh_of {h h' : Hp} (ha : ((h'.map (·.1)).all fun i => (h.map (·.1)).all fun j => !(i == j)) = true) : ∀ i rt, h'.at i = some rt → h.at i = none := by
  intro i rt hi
  cases hh : h.at i with
  | none => rfl
  | some rt2 =>
    have := List.all_eq_true.1 (List.all_eq_true.1 ha i (mem_of_at hi)) i (mem_of_at hh)
    simp at this
/-- From a contract with owned results to one with results that nobody owns. -/
theorem QSpec.of_own {f : FuncId} {args : List AV} {x y : AV} {h' : Hp} (hs : Abs.Spec P f args [] (fun r h => r = x ∧ h = h')) (hc : Cst h' [] (phi []) x y) (hp : (h'.all fun x => decide (x.1 < 2000)) = true := by rfl) : QSpec P f args y := by
  intro w ι B vs H hv
  refine (hs w ι B vs H hv).mono ?_
  rintro e w' ⟨v, r, h1, ι', rfl, ⟨rfl, rfl⟩, H', hvr⟩
  have R : RtC h1 [] (phi []) := ⟨fun r' rt' hr => by simp [Hp.at] at hr, fun r' s' rt' st' hr => by simp [Hp.at] at hr, fun r rt hr h2 => by
    obtain ⟨x, hx, rfl⟩ := List.mem_map.1 (mem_of_at hr)
    have := of_decide_eq_true (List.all_eq_true.1 hp x hx)
    omega⟩
  exact ⟨v, y, [], _, rfl, rfl, H'.cast R, VR.cast H' R _ _ v hc hvr⟩
end
end Go.Abs
