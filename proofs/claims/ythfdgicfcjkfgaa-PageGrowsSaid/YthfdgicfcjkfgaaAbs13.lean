/-
  Own work. The abstract layer, part 13: the arguments of a law, all at once; what a shape says of plain types.
-/
import Derived.Test.YthfdgicfcjkfgaaAbs12
import Derived.WalkKit
import Derived.ProofKit
import Derived.OpenShut
import Derived.ShutString
import Derived.ChangeOld
set_option linter.unusedSimpArgs false
set_option linter.unusedVariables false
namespace Go.Abs
open Go.RowKit Go.Deep Go.ChangeShapes Go.WideShapes

section
variable {H : Type} {enc : TypeId × Value → H} {P : Program}

theorem trodAll_below (hl : laidOutB P = true) {W W' : World} (hb : Below W.heap.size W W') : ∀ (ts : List TypeId) (vs : List Value) (ds : List (DataW H)) (ps : List MemPlace), (ts.all fun t => P.readableRec t && decide (t < P.types.size)) = true →
    DataW.TrodAll enc P W 0 (fun _ => true) true ts vs ds ps → DataW.TrodAll enc P W' 0 (fun b => decide (b < W.heap.size)) true ts vs ds ps
  | [], vs, ds, ps, _, h => by
    obtain ⟨rfl, rfl, rfl⟩ := trodAll_nil h
    exact trodAll_mk0
  | t :: ts, vs, ds, ps, ht, h => by
    obtain ⟨v, vs', d, ds', p, q, rfl, rfl, rfl, h1, h2⟩ := trodAll_cons h
    simp only [List.all_cons, Bool.and_eq_true, decide_eq_true_eq] at ht
    have k1 := h1
    have lt0 : ∀ x ∈ p, x.block < W.heap.size := by obtain ⟨m, hm⟩ := k1; exact DataW.trod_lt m _ _ _ hm
    exact trodAll_cons_mk (Below.trod hl ht.1.1 ht.1.2 h1 hb lt0) (trodAll_below hl hb ts vs' ds' q (by simpa only [List.all_eq_true, Bool.and_eq_true, decide_eq_true_eq] using ht.2) h2)

/-- Shapes of a list of arguments, and the arguments. -/
def ShpL (P : Program) : List TypeId → List (List IV) → Prop
  | [], [] => True
  | t :: ts, x :: xs => Shp P t x ∧ ShpL P ts xs
  | _, _ => False
def argsA (P : Program) : List TypeId → List (List IV) → List AV
  | t :: ts, x :: xs => argA P t x :: argsA P ts xs
  | _, _ => []

theorem Shp.one {t : TypeId} {xs : List IV} (hs : Shp P t xs) (hz : lz P t = some none) : ∃ x, xs = [x] := by
  cases hs with
  | int => exact ⟨_, rfl⟩
  | bool => exact ⟨_, rfl⟩
  | str => exact ⟨_, rfl⟩
  | sl => exact ⟨_, rfl⟩
  | arr xss ht => simp [lz, ht] at hz
  | st xss ht => simp [lz, ht] at hz

theorem args_read {W : World} : ∀ (ts : List TypeId) (vs : List Value) (ds : List (DataW H)) (ps : List MemPlace), (ts.all fun t => plainT P 12 t && (lz P t).isSome) = true →
    (∀ (j : Nat) (t : TypeId) (v : Value), ts[j]? = some t → vs[j]? = some v → Value.okWide P W .any 0 t v) →
    DataW.TrodAll enc P W 0 (fun _ => true) true ts vs ds ps → ∃ xss, ShpL P ts xss ∧ VRL W [] (fun _ => ⟨none, 0⟩) (fun _ => False) (argsA P ts xss) vs
  | [], vs, ds, ps, _, _, h => by
    obtain ⟨rfl, rfl, rfl⟩ := trodAll_nil h
    exact ⟨[], by simp [ShpL], by simp [argsA, VRL]⟩
  | t :: ts, vs, ds, ps, ht, hok, h => by
    obtain ⟨v, vs', d, ds', p, q, rfl, rfl, rfl, h1, h2⟩ := trodAll_cons h
    simp only [List.all_cons, Bool.and_eq_true] at ht
    obtain ⟨xss, h3, h4⟩ := args_read ts vs' ds' q (by simpa only [List.all_eq_true, Bool.and_eq_true] using ht.2) (fun j t' v' hj hv => hok (j + 1) t' v' (by simpa using hj) (by simpa using hv)) h2
    obtain ⟨fuel, hf⟩ := h1
    obtain ⟨xs, h5, h6, h7, h8⟩ := read_plain 12 t fuel v.cells.toList _ ht.1.1 hf
    refine ⟨xs :: xss, ⟨h5, h3⟩, ?_⟩
    simp only [argsA, VRL]
    refine ⟨v, vs', rfl, ?_, h4⟩
    have hv := hok 0 t v (by simp) (by simp)
    unfold argA
    cases hz : lz P t with
    | none => rw [hz] at ht; simp at ht
    | some o =>
      cases o with
      | none =>
        obtain ⟨x, rfl⟩ := h5.one hz
        simp only [VRIL] at h6
        obtain ⟨u, l', hl, hu, rfl⟩ := h6
        have hvu : v = u := by
          cases v <;> simp_all [Value.cells, Value.oneCell']
          rename_i cs
          have : u ∈ cs.toList := by rw [hl]; simp
          unfold Value.okWide at hv
          unfold lz at hz
          cases hd : P.underlying t with
          | none => simp [hd] at hz
          | some dd =>
            rw [hd] at hv hz
            cases dd <;> simp_all [Cell.okWide, Cell.ok]
        subst hvu
        simp only [VR]
        exact hu
      | some n =>
        have : ∃ cs, v = .agg cs := by
          unfold lz at hz
          unfold Value.okWide at hv
          cases hd : P.underlying t with
          | none => simp [hd] at hz
          | some dd =>
            rw [hd] at hv hz
            cases dd <;> simp_all <;> (obtain ⟨cs, rfl, _⟩ := hv; exact ⟨cs, rfl⟩)
        obtain ⟨cs, rfl⟩ := this
        simp only [VR]
        exact ⟨cs.toList, by simp, VRL.ofI (by simpa [Value.cells] using h6)⟩

/- What a shape says. -/
theorem Shp.int_inv {t : TypeId} {k : IntKind} {xs : List IV} (hs : Shp P t xs) (ht : P.underlying t = some (.int k)) : ∃ n, xs = [.val (.int k n)] ∧ (Lit.int k n).wf = true := by
  cases hs with
  | int h1 h2 => rw [ht] at h1; cases h1; exact ⟨_, rfl, h2⟩
  | bool h1 => rw [ht] at h1; cases h1
  | str h1 => rw [ht] at h1; cases h1
  | sl _ h1 => rw [ht] at h1; cases h1
  | arr _ h1 => rw [ht] at h1; cases h1
  | st _ h1 => rw [ht] at h1; cases h1
theorem Shp.bool_inv {t : TypeId} {xs : List IV} (hs : Shp P t xs) (ht : P.underlying t = some .bool) : ∃ b, xs = [.val (.bool b)] := by
  cases hs with
  | int h1 h2 => rw [ht] at h1; cases h1
  | bool h1 => exact ⟨_, rfl⟩
  | str h1 => rw [ht] at h1; cases h1
  | sl _ h1 => rw [ht] at h1; cases h1
  | arr _ h1 => rw [ht] at h1; cases h1
  | st _ h1 => rw [ht] at h1; cases h1
theorem Shp.str_inv {t : TypeId} {xs : List IV} (hs : Shp P t xs) (ht : P.underlying t = some .string) : ∃ s : ByteArray, xs = [.val (.string s)] ∧ s.size ≤ maxLen := by
  cases hs with
  | int h1 h2 => rw [ht] at h1; cases h1
  | bool h1 => rw [ht] at h1; cases h1
  | str h1 h2 => exact ⟨_, rfl, h2⟩
  | sl _ h1 => rw [ht] at h1; cases h1
  | arr _ h1 => rw [ht] at h1; cases h1
  | st _ h1 => rw [ht] at h1; cases h1
theorem Shp.sl_inv {t e : TypeId} {xs : List IV} (hs : Shp P t xs) (ht : P.underlying t = some (.slice e)) : ∃ xss : List (List IV), xs = [.sl xss.flatten xss.length] ∧ (∀ ys ∈ xss, Shp P e ys) ∧ xss.length ≤ maxLen := by
  cases hs with
  | int h1 h2 => rw [ht] at h1; cases h1
  | bool h1 => rw [ht] at h1; cases h1
  | str h1 h2 => rw [ht] at h1; cases h1
  | sl xss h1 h2 h3 => rw [ht] at h1; cases h1; exact ⟨xss, rfl, h2, h3⟩
  | arr _ h1 => rw [ht] at h1; cases h1
  | st _ h1 => rw [ht] at h1; cases h1
theorem Shp.arr_inv {t e : TypeId} {n : Nat} {xs : List IV} (hs : Shp P t xs) (ht : P.underlying t = some (.array n e)) : ∃ xss : List (List IV), xs = xss.flatten ∧ (∀ ys ∈ xss, Shp P e ys) ∧ xss.length = n := by
  cases hs with
  | int h1 h2 => rw [ht] at h1; cases h1
  | bool h1 => rw [ht] at h1; cases h1
  | str h1 h2 => rw [ht] at h1; cases h1
  | sl _ h1 => rw [ht] at h1; cases h1
  | arr xss h1 h2 h3 => rw [ht] at h1; cases h1; exact ⟨xss, rfl, h2, h3⟩
  | st _ h1 => rw [ht] at h1; cases h1
theorem Shp.st_inv {t : TypeId} {fs : Array Field} {xs : List IV} (hs : Shp P t xs) (ht : P.underlying t = some (.struct fs)) :
    ∃ xss : List (List IV), xs = xss.flatten ∧ xss.length = fs.size ∧ ∀ (i : Nat) (f : Field) (ys : List IV), fs[i]? = some f → xss[i]? = some ys → Shp P f.type ys := by
  cases hs with
  | int h1 h2 => rw [ht] at h1; cases h1
  | bool h1 => rw [ht] at h1; cases h1
  | str h1 h2 => rw [ht] at h1; cases h1
  | sl _ h1 => rw [ht] at h1; cases h1
  | arr _ h1 => rw [ht] at h1; cases h1
  | st xss h1 h2 h3 => rw [ht] at h1; cases h1; exact ⟨xss, rfl, h2, h3⟩

theorem ints_of {e : TypeId} {k : IntKind} (he : P.underlying e = some (.int k)) : ∀ (xss : List (List IV)), (∀ ys ∈ xss, Shp P e ys) → ∃ zs : List Int, xss = zs.map (fun n => [.val (.int k n)]) ∧ ∀ n ∈ zs, (Lit.int k n).wf = true
  | [], _ => ⟨[], rfl, by simp⟩
  | y :: ys, h => by
    obtain ⟨n, rfl, hn⟩ := (h y (by simp)).int_inv he
    obtain ⟨zs, rfl, hz⟩ := ints_of he ys fun z hz => h z (by simp [hz])
    exact ⟨n :: zs, rfl, fun m hm => by rcases List.mem_cons.1 hm with rfl | hm; exact hn; exact hz m hm⟩

theorem flatten_single {α β : Type} (f : α → β) (l : List α) : (l.map fun a => [f a]).flatten = l.map f := by
  induction l with
  | nil => rfl
  | cons a l ih => simp [ih]

theorem Shp.ints_inv {t e : TypeId} {k : IntKind} {xs : List IV} (hs : Shp P t xs) (ht : P.underlying t = some (.slice e)) (he : P.underlying e = some (.int k)) :
    ∃ zs : List Int, xs = [.sl (zs.map fun n => .val (.int k n)) zs.length] ∧ (∀ n ∈ zs, (Lit.int k n).wf = true) ∧ zs.length ≤ maxLen := by
  obtain ⟨xss, rfl, h1, h2⟩ := hs.sl_inv ht
  obtain ⟨zs, rfl, hz⟩ := ints_of he xss h1
  exact ⟨zs, by rw [flatten_single]; simp, hz, by simpa using h2⟩

theorem Shp.arrInts_inv {t e : TypeId} {k : IntKind} {n : Nat} {xs : List IV} (hs : Shp P t xs) (ht : P.underlying t = some (.array n e)) (he : P.underlying e = some (.int k)) :
    ∃ zs : List Int, xs = zs.map (fun n => .val (.int k n)) ∧ (∀ n ∈ zs, (Lit.int k n).wf = true) ∧ zs.length = n := by
  obtain ⟨xss, rfl, h1, h2⟩ := hs.arr_inv ht
  obtain ⟨zs, rfl, hz⟩ := ints_of he xss h1
  exact ⟨zs, by rw [flatten_single], hz, by simpa using h2⟩
end
end Go.Abs
