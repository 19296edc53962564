/-
  Own work. The abstract layer, part 4: addresses, loads, slices, the builtins len, min, max.
-/
import Derived.Test.YthfdgicfcjkfgaaAbs3
import Derived.Deep.Slices
set_option linter.unusedSimpArgs false
set_option linter.unusedVariables false
namespace Go.Abs
open Go.RowKit

section
variable {P : Program} {w : World} {h : Hp} {ι : Nat → Bk} {A : Nat → Prop}

/-- One of two values. -/
def selA (g : Bool) (x y : AV) : AV := match x, y with
  | .bool p, .bool q => .bool (cond g p q)
  | .int k p, .int k' q => .int (cond g k k') (cond g p q)
  | .string p, .string q => .string (cond g p q)
  | x, y => cond g x y
theorem selA_true (x y : AV) : selA true x y = x := by unfold selA; split <;> rfl
theorem selA_false (x y : AV) : selA false x y = y := by unfold selA; split <;> rfl
theorem selA_bool (g p q : Bool) : selA g (.bool p) (.bool q) = .bool (cond g p q) := rfl
theorem selA_int (g : Bool) (k : IntKind) (p q : Int) : selA g (.int k p) (.int k q) = .int k (cond g p q) := by simp [selA]
theorem selA_str (g : Bool) (p q : ByteArray) : selA g (.string p) (.string q) = .string (cond g p q) := rfl
def pvPick (c x y : AV) : AV := match c with
  | .bool g => selA g (st x) (st y)
  | _ => .any
def poPick (c x y : AV) : Prop := match c with
  | .bool g => (g = true → gd x) ∧ (g = false → gd y)
  | _ => False

theorem pick_sound {c x y : AV} {u v z : Value} (hp : poPick c x y) (hc : VR w h ι A c u) (hx : VR w h ι A x v) (hy : VR w h ι A y z) :
    ∃ r, (do pure (if ← asBool u then v else z) : Sem Value).run P w = .ok r w ∧ VR w h ι A (pvPick c x y) r := by
  unfold poPick at hp
  split at hp
  · rename_i g
    rw [VR.bool_iff] at hc
    subst hc
    obtain ⟨h1, h2⟩ := hp
    refine ⟨if g = true then v else z, by cases g <;> simp [asBool], ?_⟩
    cases g
    · simp only [Bool.false_eq_true, if_false, pvPick, selA_false]
      exact VR.st hy (h2 rfl)
    · simp only [if_true, pvPick, selA_true]
      exact VR.st hx (h1 rfl)
  · exact hp.elim

def pvField (d : Option Nat) (x : AV) : AV := match d, x with
  | some d, .ipt cs off => .ipt cs (off + d)
  | some d, .ref r ver off => .ref r ver (off + d)
  | _, _ => .any
def poField (h : Hp) (d : Option Nat) (x : AV) : Prop := match d, x with
  | some _, .ipt _ _ => True
  | some _, .ref r ver _ => (h.at r).map (·.ver) = some ver
  | _, _ => False

theorem fo_some {s : TypeId} {f d : Nat} (hf : fo P s f = some d) : ∃ fs fd i, P.underlying s = some (.struct fs) ∧ fs[f]? = some fd ∧ P.info? fd.type = some i ∧ i.size ≠ 0 ∧ fd.offset = d := by
  unfold fo at hf
  split at hf
  · rename_i fs hs
    split at hf
    · rename_i fd hfd
      split at hf
      · rename_i i hi
        split at hf
        · cases hf
        · rename_i hne
          exact ⟨fs, fd, i, hs, hfd, hi, hne, by simpa using hf⟩
      · cases hf
    · cases hf
  · cases hf

theorem VR.ref_now {r ver off : Nat} {v : Value} (hv : VR w h ι A (.ref r ver off) v) (hn : (h.at r).map (·.ver) = some ver) : ∃ rt g, h.at r = some rt ∧ rt.ver = ver ∧ (ι r).blk = some g ∧ v = .pointer (some ⟨g, off, none⟩) := by
  simp only [VR] at hv
  obtain ⟨rt, hrt, _, himp⟩ := hv
  rw [hrt] at hn
  simp at hn
  obtain ⟨g, hg, hv⟩ := himp hn.symm
  exact ⟨rt, g, hrt, hn, hg, hv⟩

theorem VR.ref_mk {r ver off g : Nat} {rt : Rt} (hrt : h.at r = some rt) (hver : rt.ver = ver) (hg : (ι r).blk = some g) : VR w h ι A (.ref r ver off) (.pointer (some ⟨g, off, none⟩)) := by
  simp only [VR]
  exact ⟨rt, hrt, by omega, fun _ => ⟨g, hg, rfl⟩⟩

theorem addr_add (g off i : Nat) : (⟨g, off, none⟩ : Addr).add i = ⟨g, off + i, none⟩ := by unfold Addr.add; split <;> simp_all

theorem field_sound {s : TypeId} {f : Nat} {x : AV} {u : Value} (hp : poField h (fo P s f) x) (hx : VR w h ι A x u) : ∃ r, (Instr.fieldAt s u f).run P w = .ok r w ∧ VR w h ι A (pvField (fo P s f) x) r := by
  unfold poField at hp
  split at hp
  · rename_i d cs off hd
    obtain ⟨fs, fd, i, h1, h2, h3, h4, h5⟩ := fo_some hd
    simp only [VR] at hx
    obtain ⟨a, l, rfl, hlie, hl⟩ := hx
    refine ⟨.pointer (some (a.add (off + d))), ?_, ?_⟩
    · simp [Instr.fieldAt, Sem.run_bind, run_underlying h1, h2, Instr.sureAddr, fieldPlace, sizeOf, typeInfo, h3, h4, h5, Go.Deep.add_add]
    · simp only [pvField, hd, VR]
      exact ⟨a, l, rfl, hlie, hl⟩
  · rename_i d r ver off hd
    obtain ⟨fs, fd, i, h1, h2, h3, h4, h5⟩ := fo_some hd
    obtain ⟨rt, g, hrt, hver, hg, rfl⟩ := VR.ref_now hx hp
    refine ⟨.pointer (some ⟨g, off + d, none⟩), ?_, ?_⟩
    · simp [Instr.fieldAt, Sem.run_bind, run_underlying h1, h2, Instr.sureAddr, fieldPlace, sizeOf, typeInfo, h3, h4, h5, addr_add]
    · simp only [pvField, hd]
      exact VR.ref_mk hrt hver hg
  · exact hp.elim

def pvIdx (e : Option Nat) (x i : AV) : AV := match e, x, i with
  | some k, .im (.sl cs _), .int _ j => .ipt cs (j.toNat * k)
  | some k, .rsl r ver off _, .int _ j => .ref r ver (off + j.toNat * k)
  | some k, .ref r ver off, .int _ j => .ref r ver (off + j.toNat * k)
  | some k, .ipt cs off, .int _ j => .ipt cs (off + j.toNat * k)
  | _, _, _ => .any
def poIdx (P : Program) (h : Hp) (t : TypeId) (x i : AV) : Prop := match ez P t, x, i with
  | some _, .im (.sl _ n), .int _ j => tk P t = 1 ∧ 0 ≤ j ∧ j < n
  | some k, .rsl r ver _ n, .int _ j => tk P t = 1 ∧ (h.at r).map (fun rt => (rt.ver, rt.k)) = some (ver, k) ∧ 0 ≤ j ∧ j < n
  | some _, .ref r ver _, .int _ j => (match alen P t with | some n => (h.at r).map (·.ver) = some ver ∧ 0 ≤ j ∧ j < n | none => False)
  | some _, .ipt _ _, .int _ j => (match alen P t with | some n => 0 ≤ j ∧ j < n | none => False)
  | _, _, _ => False

theorem ez_slice {t : TypeId} {k : Nat} (hk : tk P t = 1) (he : ez P t = some k) : ∃ e i, P.underlying t = some (.slice e) ∧ P.info? e = some i ∧ i.size = k := by
  unfold tk at hk
  unfold ez at he
  cases hd : P.underlying t with
  | none => simp [hd] at hk
  | some d => cases d <;> simp_all

theorem ez_array {t : TypeId} {k n : Nat} (hn : alen P t = some n) (he : ez P t = some k) : ∃ e i, P.underlying t = some (.array n e) ∧ P.info? e = some i ∧ i.size = k := by
  unfold alen at hn
  unfold ez at he
  cases hd : P.underlying t with
  | none => simp [hd] at hn
  | some d => cases d <;> simp_all

theorem VR.rsl_now {r ver off n k : Nat} {v : Value} (hv : VR w h ι A (.rsl r ver off n) v) (hn : (h.at r).map (fun rt => (rt.ver, rt.k)) = some (ver, k)) : ∃ rt, h.at r = some rt ∧ rt.ver = ver ∧ rt.k = k ∧ SlR k (ι r) off n v := by
  simp only [VR] at hv
  obtain ⟨rt, hrt, _, himp⟩ := hv
  rw [hrt] at hn
  simp at hn
  obtain ⟨h1, h2⟩ := hn
  refine ⟨rt, hrt, h1, h2, ?_⟩
  have := himp h1.symm
  rwa [h2] at this

theorem idx_sound {t : TypeId} {x i : AV} {u v : Value} (hp : poIdx P h t x i) (hx : VR w h ι A x u) (hi : VR w h ι A i v) : ∃ r, (Instr.indexAt t u v).run P w = .ok r w ∧ VR w h ι A (pvIdx (ez P t) x i) r := by
  unfold poIdx at hp
  split at hp
  · rename_i k cs n k' j he
    rw [VR.int_iff] at hi; subst hi
    obtain ⟨hk, h0, h1⟩ := hp
    obtain ⟨e, inf, hu, hinf, hsz⟩ := ez_slice hk he
    simp only [VR, VRI] at hx
    obtain ⟨ao, cap, l, rfl, hn, hnone, hlie, hl⟩ := hx
    cases ao with
    | none => have := (hnone rfl).1; omega
    | some a =>
      refine ⟨.pointer (some (a.add (j.toNat * k))), ?_, ?_⟩
      · simp [Instr.indexAt, Sem.run_bind, asIntOf, run_underlying hu, h0, h1, sizeOf, typeInfo, hinf, hsz]
      · simp only [pvIdx, he, VR]
        exact ⟨a, l, rfl, hlie a rfl, hl⟩
  · rename_i k r ver off n k' j he
    rw [VR.int_iff] at hi; subst hi
    obtain ⟨hk, hn, h0, h1⟩ := hp
    obtain ⟨e, inf, hu, hinf, hsz⟩ := ez_slice hk he
    obtain ⟨rt, hrt, hver, hrk, ao, c, rfl, hnc, hcase⟩ := VR.rsl_now hx hn
    have hn0 : n ≠ 0 := by omega
    rcases hcase with ⟨_, _, h3, _⟩ | ⟨g, hg, ⟨rfl, _⟩ | ⟨h3, _⟩⟩
    · exact absurd h3 hn0
    · refine ⟨.pointer (some ⟨g, off + j.toNat * k, none⟩), ?_, ?_⟩
      · simp [Instr.indexAt, Sem.run_bind, asIntOf, run_underlying hu, h0, h1, sizeOf, typeInfo, hinf, hsz, addr_add]
      · simp only [pvIdx, he]
        exact VR.ref_mk hrt hver hg
    · exact absurd h3 hn0
  · rename_i k r ver off k' j he
    rw [VR.int_iff] at hi; subst hi
    split at hp
    · rename_i n hn
      obtain ⟨hv, h0, h1⟩ := hp
      obtain ⟨e, inf, hu, hinf, hsz⟩ := ez_array hn he
      obtain ⟨rt, g, hrt, hver, hg, rfl⟩ := VR.ref_now hx hv
      refine ⟨.pointer (some ⟨g, off + j.toNat * k, none⟩), ?_, ?_⟩
      · simp [Instr.indexAt, Sem.run_bind, asIntOf, run_underlying hu, h0, h1, sizeOf, typeInfo, hinf, hsz, addr_add, Instr.sureAddr]
      · simp only [pvIdx, he]
        exact VR.ref_mk hrt hver hg
    · exact hp.elim
  · rename_i k cs off k' j he
    rw [VR.int_iff] at hi; subst hi
    split at hp
    · rename_i n hn
      obtain ⟨h0, h1⟩ := hp
      obtain ⟨e, inf, hu, hinf, hsz⟩ := ez_array hn he
      simp only [VR] at hx
      obtain ⟨a, l, rfl, hlie, hl⟩ := hx
      refine ⟨.pointer (some (a.add (off + j.toNat * k))), ?_, ?_⟩
      · simp [Instr.indexAt, Sem.run_bind, asIntOf, run_underlying hu, h0, h1, sizeOf, typeInfo, hinf, hsz, Go.Deep.add_add, Instr.sureAddr]
      · simp only [pvIdx, he, VR]
        exact ⟨a, l, rfl, hlie, hl⟩
    · exact hp.elim
  · exact hp.elim

/-- A load. -/
def pvLoad (h : Hp) (s : Option (Option Nat)) (x : AV) : AV := match s, x with
  | some none, .ipt cs off => (match cs[off]? with | some c => .im c | none => .any)
  | some (some n), .ipt cs off => .agg (((cs.drop off).take n).map .im)
  | some none, .ref r _ off => (match h.at r with | some rt => (match rt.cs[off]? with | some c => c | none => .any) | none => .any)
  | some (some n), .ref r _ off => (match h.at r with | some rt => .agg ((rt.cs.drop off).take n) | none => .any)
  | _, _ => .any
def poLoad (h : Hp) (s : Option (Option Nat)) (x : AV) : Prop := match s, x with
  | some none, .ipt cs off => off < cs.length
  | some (some n), .ipt cs off => off + n ≤ cs.length
  | some none, .ref r ver off => (match h.at r with | some rt => rt.ver = ver ∧ rt.live = true ∧ off < rt.cs.length | none => False)
  | some (some n), .ref r ver off => (match h.at r with | some rt => rt.ver = ver ∧ rt.live = true ∧ off + n ≤ rt.cs.length | none => False)
  | _, _ => False

theorem lz_none {t : TypeId} (ht : lz P t = some none) : (isAgg t).run P w = .ok false w := by
  unfold lz at ht
  cases hd : P.underlying t with
  | none => simp [hd] at ht
  | some d => cases d <;> simp_all [isAgg, Sem.run_bind, run_underlying hd]

theorem lz_some {t : TypeId} {n : Nat} (ht : lz P t = some (some n)) : (isAgg t).run P w = .ok true w ∧ (sizeOf t).run P w = .ok n w := by
  unfold lz at ht
  cases hd : P.underlying t with
  | none => simp [hd] at ht
  | some d =>
    cases hi : P.info? t with
    | none => cases d <;> simp_all
    | some i => cases d <;> simp_all [isAgg, Sem.run_bind, run_underlying hd, sizeOf, typeInfo]

theorem RootOK.cell {rt : Rt} {b : Bk} {g : Nat} (hr : RootOK w h ι A b rt) (hg : b.blk = some g) : ∃ l : List Value, VRL w h ι A rt.cs l ∧ ∀ (i : Nat) (v : Value), l[i]? = some v → w.cell? ⟨g, i, none⟩ = some v := by
  rcases hr with ⟨h1, _⟩ | ⟨g', arr, h1, h2, h3, h4, h5⟩
  · rw [h1] at hg; cases hg
  · rw [h1] at hg
    have hg : g' = g := by simpa using hg
    subst hg
    refine ⟨_, h5.1, fun i v hv => ?_⟩
    rw [cell_of_row w g' i arr rt.e (0, 0) h2]
    rw [List.getElem?_take] at hv
    split at hv
    · simpa using hv
    · cases hv

theorem load_sound {X : Ctx} {t : TypeId} {x : AV} {u : Value} (H : Hol X h ι w) (hp : poLoad h (lz P t) x) (hx : VR w h ι (Own X.B h ι) x u) :
    ∃ r, (Instr.loadAt t u).run P w = .ok r w ∧ VR w h ι (Own X.B h ι) (pvLoad h (lz P t) x) r := by
  unfold poLoad at hp
  split at hp
  · rename_i cs off hs
    simp only [VR] at hx
    obtain ⟨a, l, rfl, hlie, hl⟩ := hx
    have hc : cs[off]? = some (cs[off]'hp) := List.getElem?_eq_getElem hp
    obtain ⟨v, hv, hvr⟩ := hl.get off _ hc
    refine ⟨v, ?_, by simp only [pvLoad, hs, hc, VR]; exact hvr⟩
    simp [Instr.loadAt, Instr.sureAddr, loadVar, Sem.run_bind, lz_none (w := w) hs, load, Sem.run, (hlie off v hv).1]
  · rename_i n cs off hs
    simp only [VR] at hx
    obtain ⟨a, l, rfl, hlie, hl⟩ := hx
    obtain ⟨h1, h2⟩ := lz_some (w := w) hs
    have hlen := hl.length
    have hl' : ((l.drop off).take n).length = n := by simp; omega
    have hload : (loadCells (a.add off) n).run P w = .ok ((l.drop off).take n).toArray w := by
      have := run_loadCells_list (P := P) w (a.add off) ((l.drop off).take n) (fun j v hv => by
        rw [Go.Deep.add_add]
        rw [List.getElem?_take] at hv
        split at hv
        · rw [List.getElem?_drop] at hv; exact (hlie _ v hv).1
        · cases hv)
      rwa [hl'] at this
    refine ⟨.agg ((l.drop off).take n).toArray, ?_, ?_⟩
    · simp [Instr.loadAt, Instr.sureAddr, loadVar, Sem.run_bind, h1, h2, hload]
    · simp only [pvLoad, hs, VR]
      exact ⟨_, rfl, VRL.ofI ((hl.drop off).take n)⟩
  · rename_i r ver off hs
    split at hp
    · rename_i rt hrt
      obtain ⟨hver, hlive, hoff⟩ := hp
      obtain ⟨rt', g, hrt', _, hg, rfl⟩ := VR.ref_now hx (by rw [hrt]; simp [hver])
      rw [hrt] at hrt'; cases hrt'
      obtain ⟨l, hl, hcell⟩ := (H.roots r rt hrt hlive).cell hg
      have hc : rt.cs[off]? = some (rt.cs[off]'hoff) := List.getElem?_eq_getElem hoff
      obtain ⟨v, hv, hvr⟩ := hl.get off _ hc
      refine ⟨v, ?_, by simp only [pvLoad, hs, hrt, hc]; exact hvr⟩
      simp [Instr.loadAt, Instr.sureAddr, loadVar, Sem.run_bind, lz_none (w := w) hs, load, Sem.run, hcell off v hv]
    · exact hp.elim
  · rename_i n r ver off hs
    split at hp
    · rename_i rt hrt
      obtain ⟨hver, hlive, hoff⟩ := hp
      obtain ⟨rt', g, hrt', _, hg, rfl⟩ := VR.ref_now hx (by rw [hrt]; simp [hver])
      rw [hrt] at hrt'; cases hrt'
      obtain ⟨l, hl, hcell⟩ := (H.roots r rt hrt hlive).cell hg
      obtain ⟨h1, h2⟩ := lz_some (w := w) hs
      have hlen := hl.length
      have hl' : ((l.drop off).take n).length = n := by simp; omega
      have hload : (loadCells ⟨g, off, none⟩ n).run P w = .ok ((l.drop off).take n).toArray w := by
        have := run_loadCells_list (P := P) w ⟨g, off, none⟩ ((l.drop off).take n) (fun j v hv => by
          rw [addr_add]
          rw [List.getElem?_take] at hv
          split at hv
          · rw [List.getElem?_drop] at hv; exact hcell _ v hv
          · cases hv)
        rwa [hl'] at this
      refine ⟨.agg ((l.drop off).take n).toArray, ?_, ?_⟩
      · simp [Instr.loadAt, Instr.sureAddr, loadVar, Sem.run_bind, h1, h2, hload]
      · simp only [pvLoad, hs, hrt, VR]
        exact ⟨_, rfl, (hl.drop off).take n⟩
    · exact hp.elim
  · exact hp.elim

def pvExt (x : AV) (i : Nat) : AV := match x with
  | .tup vs => (match vs[i]? with | some v => v | none => .any)
  | _ => .any
def poExt (x : AV) (i : Nat) : Prop := match x with
  | .tup vs => i < vs.length
  | _ => False

theorem ext_sound {x : AV} {i : Nat} {u : Value} (hp : poExt x i) (hx : VR w h ι A x u) : ∃ r, (Instr.extract u i).run P w = .ok r w ∧ VR w h ι A (pvExt x i) r := by
  unfold poExt at hp
  split at hp
  · rename_i vs
    simp only [VR] at hx
    obtain ⟨l, rfl, hl⟩ := hx
    have hc : vs[i]? = some (vs[i]'hp) := List.getElem?_eq_getElem hp
    obtain ⟨v, hv, hvr⟩ := hl.get i _ hc
    exact ⟨v, by simp [Instr.extract, hv], by simp only [pvExt, hc]; exact hvr⟩
  · exact hp.elim

/-- The length of a slice or a string. -/
def pvLen (x : AV) : AV := match x with
  | .im (.sl _ n) => .int .i64 n
  | .im (.val (.slice _ n _)) => .int .i64 n
  | .rsl _ _ _ n => .int .i64 n
  | .string s => .int .i64 s.size
  | _ => .any
def poLen (P : Program) (h : Hp) (t : TypeId) (x : AV) : Prop := match x with
  | .im (.sl _ _) => tk P t = 1
  | .im (.val (.slice _ _ _)) => tk P t = 1
  | .rsl r ver _ _ => tk P t = 1 ∧ (h.at r).map (·.ver) = some ver
  | .string _ => tk P t = 2
  | _ => False

theorem tk_slice {t : TypeId} (h : tk P t = 1) : ∃ e, P.underlying t = some (.slice e) := by
  unfold tk at h
  cases hd : P.underlying t with
  | none => simp [hd] at h
  | some d => cases d <;> simp_all

theorem len_sound {t ty : TypeId} {x : AV} {u : Value} (hp : poLen P h t x) (hx : VR w h ι A x u) : ∃ r, (Builtin.len_ #[t] ty #[u]).run P w = .ok r w ∧ VR w h ι A (pvLen x) r := by
  unfold poLen at hp
  split at hp
  · obtain ⟨e, hu⟩ := tk_slice hp
    simp only [VR, VRI] at hx
    obtain ⟨ao, cap, l, rfl, _⟩ := hx
    exact ⟨_, by simp [Builtin.len_, Sem.run_bind, run_underlying hu, goInt]; rfl, by simp [pvLen, VR, VRI]⟩
  · obtain ⟨e, hu⟩ := tk_slice hp
    rw [VR.val_iff] at hx; subst hx
    exact ⟨_, by simp [Builtin.len_, Sem.run_bind, run_underlying hu, goInt]; rfl, by simp [pvLen, VR, VRI]⟩
  · obtain ⟨hp, hv⟩ := hp
    obtain ⟨e, hu⟩ := tk_slice hp
    simp only [VR] at hx
    obtain ⟨rt, hrt, _, himp⟩ := hx
    rw [hrt] at hv
    simp at hv
    obtain ⟨ao, c, rfl, _⟩ := himp hv.symm
    exact ⟨_, by simp [Builtin.len_, Sem.run_bind, run_underlying hu, goInt]; rfl, by simp [pvLen, VR, VRI]⟩
  · rw [VR.val_iff] at hx; subst hx
    exact ⟨_, by simp [Builtin.len_, Sem.run_bind, run_underlying (tk_str hp), goInt]; rfl, by simp [pvLen, VR, VRI]⟩
  · exact hp.elim

/-- A byte of a string. -/
def pvStr (x i : AV) : AV := match x, i with
  | .string s, .int _ j => .int .u8 (s.data.toList.getD j.toNat 0).toNat
  | _, _ => .any
def poStr (P : Program) (t : TypeId) (x i : AV) : Prop := match x, i with
  | .string s, .int _ j => tk P t = 2 ∧ 0 ≤ j ∧ j < s.size
  | _, _ => False

theorem str_sound {t : TypeId} {x i : AV} {u v : Value} (hp : poStr P t x i) (hx : VR w h ι A x u) (hi : VR w h ι A i v) : ∃ r, (Instr.index t u v).run P w = .ok r w ∧ VR w h ι A (pvStr x i) r := by
  unfold poStr at hp
  split at hp
  · rename_i s k j
    obtain ⟨ht, h0, h1⟩ := hp
    rw [VR.val_iff] at hx hi; subst hx hi
    have hlt : j.toNat < s.size := by omega
    have hg : s[j.toNat]? = some (s[j.toNat]'hlt) := by simp [hlt]
    refine ⟨.int .u8 (s[j.toNat]'hlt).toNat, ?_, ?_⟩
    · simp [Instr.index, Sem.run_bind, asIntOf, run_underlying (tk_str ht), h0, hg]
    · have : s.data.toList.getD j.toNat 0 = s[j.toNat]'hlt := by
        have hl : j.toNat < s.data.toList.length := by simpa using hlt
        simp [List.getD, List.getElem?_eq_getElem hl]
        rfl
      simp only [pvStr, VR, VRI, this]
  · exact hp.elim

def pvMin (x y : AV) : AV := match x, y with
  | .int k a, .int _ b => .int k (if b < a then b else a)
  | _, _ => .any
def pvMax (x y : AV) : AV := match x, y with
  | .int k a, .int _ b => .int k (if b > a then b else a)
  | _, _ => .any
def poMin (x y : AV) : Prop := match x, y with
  | .int _ _, .int _ _ => True
  | _, _ => False

theorem min_sound {ts : Array TypeId} {ty : TypeId} {x y : AV} {u v : Value} (hp : poMin x y) (hx : VR w h ι A x u) (hy : VR w h ι A y v) : ∃ r, (Builtin.min_ ts ty #[u, v]).run P w = .ok r w ∧ VR w h ι A (pvMin x y) r := by
  unfold poMin at hp
  split at hp
  · rw [VR.val_iff] at hx hy; subst hx hy
    exact ⟨_, by simp [Builtin.min_, Builtin.min2]; rfl, by simp [pvMin, VR, VRI]⟩
  · exact hp.elim
theorem max_sound {ts : Array TypeId} {ty : TypeId} {x y : AV} {u v : Value} (hp : poMin x y) (hx : VR w h ι A x u) (hy : VR w h ι A y v) : ∃ r, (Builtin.max_ ts ty #[u, v]).run P w = .ok r w ∧ VR w h ι A (pvMax x y) r := by
  unfold poMin at hp
  split at hp
  · rw [VR.val_iff] at hx hy; subst hx hy
    exact ⟨_, by simp [Builtin.max_, Builtin.max2]; rfl, by simp [pvMax, VR, VRI]⟩
  · exact hp.elim

/-- A part of a slice or a string; no capacity is given. -/
def lowOf (x : Option AV) : Nat := match x with
  | some (.int _ l) => l.toNat
  | _ => 0
def highOf (n : Nat) (x : Option AV) : Nat := match x with
  | some (.int _ l) => l.toNat
  | _ => n
def okLo (hi : Nat) (x : Option AV) : Prop := match x with
  | none => True
  | some (.int _ l) => 0 ≤ l ∧ l ≤ hi
  | _ => False
def pvSlice (k : Option Nat) (x : AV) (lo hi : Option AV) : AV := match k, x with
  | some k, .im (.sl cs n) => .im (.sl ((cs.drop (lowOf lo * k)).take ((highOf n hi - lowOf lo) * k)) (highOf n hi - lowOf lo))
  | some k, .rsl r ver off n => .rsl r ver (off + lowOf lo * k) (highOf n hi - lowOf lo)
  | _, .string s => .string (s.extract (lowOf lo) (highOf s.size hi))
  | _, _ => .any
def poSlice (P : Program) (h : Hp) (t : TypeId) (x : AV) (lo hi : Option AV) : Prop := match ez P t, x with
  | some _, .im (.sl _ n) => tk P t = 1 ∧ okLo n hi ∧ okLo (highOf n hi) lo
  | some k, .rsl r ver _ n => tk P t = 1 ∧ (h.at r).map (fun rt => (rt.ver, rt.k)) = some (ver, k) ∧ okLo n hi ∧ okLo (highOf n hi) lo
  | _, .string s => tk P t = 2 ∧ okLo s.size hi ∧ okLo (highOf s.size hi) lo
  | _, _ => False

def VRO (w : World) (h : Hp) (ι : Nat → Bk) (A : Nat → Prop) : Option AV → Option Value → Prop
  | none, none => True
  | some x, some v => VR w h ι A x v
  | _, _ => False

theorem run_sliceBound {k : IntKind} {i : Int} {y : Nat} {c : BoundsCode} (h0 : 0 ≤ i) (h1 : i ≤ y) : (Instr.sliceBound (.int k i) y c).run P w = .ok i.toNat w := by
  simp [Instr.sliceBound, Sem.run_bind, asIntOf, h0, h1]

theorem run_sliceBounds {b : Bool} {n cap : Nat} {lo hi : Option AV} {l v : Option Value} (hn : n ≤ cap) (hl : VRO w h ι A lo l) (hh : VRO w h ι A hi v) (h1 : okLo n hi) (h2 : okLo (highOf n hi) lo) :
    (Instr.sliceBounds b n cap l v none).run P w = .ok (lowOf lo, highOf n hi, cap) w ∧ lowOf lo ≤ highOf n hi ∧ highOf n hi ≤ n := by
  have e1 : ∀ (m : Nat) (x : Option AV) (u : Option Value) (c : BoundsCode), VRO w h ι A x u → okLo m x → (match u with | some u => Instr.sliceBound u m c | none => pure 0).run P w = .ok (lowOf x) w ∧ lowOf x ≤ m := by
    intro m x u c hv ho
    cases x with
    | none => cases u with
      | none => exact ⟨by simp [lowOf], by simp [lowOf]⟩
      | some u => simp [VRO] at hv
    | some x => cases u with
      | none => simp [VRO] at hv
      | some u =>
        simp only [VRO] at hv
        unfold okLo at ho
        split at ho
        · simp_all
        · rename_i k l he
          cases he
          rw [VR.int_iff] at hv
          subst hv
          exact ⟨run_sliceBound ho.1 ho.2, by simp only [lowOf]; omega⟩
        · exact ho.elim
  have e2 : (match v with | some u => Instr.sliceBound u cap (if b then .sliceAcap else .sliceAlen) | none => pure n).run P w = .ok (highOf n hi) w ∧ highOf n hi ≤ n := by
    cases hi with
    | none => cases v with
      | none => exact ⟨by simp [highOf], by simp [highOf]⟩
      | some u => simp [VRO] at hh
    | some x => cases v with
      | none => simp [VRO] at hh
      | some u =>
        simp only [VRO] at hh
        unfold okLo at h1
        split at h1
        · simp_all
        · rename_i k l he
          cases he
          rw [VR.int_iff] at hh
          subst hh
          exact ⟨run_sliceBound h1.1 (by omega), by simp only [highOf]; omega⟩
        · exact h1.elim
  obtain ⟨r2, l2⟩ := e2
  obtain ⟨r1, l1⟩ := e1 (highOf n hi) lo l .sliceB hl h2
  refine ⟨?_, l1, l2⟩
  unfold Instr.sliceBounds
  cases v with
  | none =>
    simp only [Sem.run_pure, Result.ok.injEq, and_true] at r2
    cases l with
    | none => simp only [Sem.run_pure, Result.ok.injEq, and_true] at r1; simp [← r2, ← r1]
    | some l => simp only at r1; rw [← r2] at r1 ⊢; simp [Sem.run_bind, r1]
  | some v =>
    simp only at r2
    cases l with
    | none => simp only [Sem.run_pure, Result.ok.injEq, and_true] at r1; simp [Sem.run_bind, r2, ← r1]
    | some l => simp only at r1; simp [Sem.run_bind, r2, r1]

theorem slice_sound {t : TypeId} {x : AV} {lo hi : Option AV} {u : Value} {l v : Option Value} (hp : poSlice P h t x lo hi) (hx : VR w h ι A x u) (hl : VRO w h ι A lo l) (hh : VRO w h ι A hi v) :
    ∃ r, (Instr.sliceAt t u l v none).run P w = .ok r w ∧ VR w h ι A (pvSlice (ez P t) x lo hi) r := by
  unfold poSlice at hp
  split at hp
  · rename_i k cs n he
    obtain ⟨hk, h1, h2⟩ := hp
    obtain ⟨e, inf, hu, hinf, hsz⟩ := ez_slice hk he
    simp only [VR, VRI] at hx
    obtain ⟨ao, cap, ls, rfl, hn, hnone, hlie, hls⟩ := hx
    obtain ⟨hr, l1, l2⟩ := run_sliceBounds (P := P) (b := true) hn hl hh h1 h2
    refine ⟨_, by simp [Instr.sliceAt, Instr.slice, Sem.run_bind, run_underlying hu, hr, sizeOf, typeInfo, hinf, hsz]; rfl, ?_⟩
    simp only [pvSlice, he, VR, VRI]
    refine ⟨_, _, ((ls.drop (lowOf lo * k)).take ((highOf n hi - lowOf lo) * k)), rfl, by omega, ?_, ?_, (hls.drop _).take _⟩
    · intro hno
      have hno' : ao = none := by
        split at hno
        · exact hno
        · simpa using hno
      obtain ⟨a1, a2, a3⟩ := hnone hno'
      subst a1 a3
      refine ⟨by omega, by omega, by simp⟩
    · intro a ha i z hz
      by_cases hcl : cap = lowOf lo
      · have : highOf n hi - lowOf lo = 0 := by omega
        simp [this] at hz
      · rw [if_neg hcl] at ha
        cases ao with
        | none => simp at ha
        | some a0 =>
          simp at ha
          subst ha
          rw [List.getElem?_take] at hz
          split at hz
          · rw [List.getElem?_drop] at hz
            have := hlie a0 rfl _ z hz
            rw [Go.Deep.add_add, add_block]
            exact this
          · cases hz
  · rename_i k r ver off n he
    obtain ⟨hk, hnow, h1, h2⟩ := hp
    obtain ⟨e, inf, hu, hinf, hsz⟩ := ez_slice hk he
    obtain ⟨rt, hrt, hver, hrk, ao, c, rfl, hnc, hcase⟩ := VR.rsl_now hx hnow
    obtain ⟨hr, l1, l2⟩ := run_sliceBounds (P := P) (b := true) hnc hl hh h1 h2
    refine ⟨_, by simp [Instr.sliceAt, Instr.slice, Sem.run_bind, run_underlying hu, hr, sizeOf, typeInfo, hinf, hsz]; rfl, ?_⟩
    simp only [pvSlice, he, VR]
    refine ⟨rt, hrt, by omega, fun _ => ⟨_, _, rfl, by omega, ?_⟩⟩
    rw [hrk]
    rcases hcase with ⟨b1, rfl, b3, b4, b5⟩ | ⟨g, hg, hrest⟩
    · left
      subst b3 b4 b5
      refine ⟨b1, by simp, by omega, by omega, ?_⟩
      have : lowOf lo = 0 := by omega
      simp [this]
    · right
      refine ⟨g, hg, ?_⟩
      rcases hrest with ⟨rfl, hcap⟩ | ⟨b3, b4⟩
      · by_cases hcl : c = lowOf lo
        · right; omega
        · left
          rw [if_neg hcl]
          refine ⟨by simp [addr_add], ?_⟩
          have hle : lowOf lo ≤ c := by omega
          have : (c - lowOf lo) * k + lowOf lo * k = c * k := by rw [← Nat.add_mul]; congr 1; omega
          omega
      · right; omega
  · rename_i s
    obtain ⟨hk, h1, h2⟩ := hp
    rw [VR.val_iff] at hx; subst hx
    obtain ⟨hr, l1, l2⟩ := run_sliceBounds (P := P) (b := false) (Nat.le_refl s.size) hl hh h1 h2
    refine ⟨_, by simp [Instr.sliceAt, Instr.slice, Sem.run_bind, run_underlying (tk_str hk), hr]; rfl, ?_⟩
    cases ez P t <;> simp [pvSlice, VR, VRI]
  · exact hp.elim

end
end Go.Abs
