/-
  Own work. The generated walks, part 7: arguments that can be read as data, as typed values.
-/
import Derived.Test.YtlhpkjgpcenfdaaDoorGen6
set_option linter.unusedSimpArgs false
set_option linter.unusedVariables false
set_option linter.unusedSimpArgs false
set_option linter.unusedVariables false
namespace Go.Abs
open Go.RowKit
def okInt : IntKind → Int → Prop
  | .u8, n => 0 ≤ n ∧ n ≤ 255
  | .u16, n => 0 ≤ n ∧ n ≤ 65535
  | .u32, n => 0 ≤ n ∧ n ≤ 4294967295
  | .u64, n => 0 ≤ n ∧ n ≤ 18446744073709551615
  | .i8, n => -128 ≤ n ∧ n ≤ 127
  | .i16, n => -32768 ≤ n ∧ n ≤ 32767
  | .i32, n => -2147483648 ≤ n ∧ n ≤ 2147483647
  | .i64, n => -9223372036854775808 ≤ n ∧ n ≤ 9223372036854775807
theorem okInt_of {k : IntKind} {n : Int} (h : (Lit.int k n).wf = true) : okInt k n := by
  cases k <;> simpa [okInt, Lit.wf, IntKind.min, IntKind.max, IntKind.signed, IntKind.bits] using h
def okAny {α : Type} (_ : α) : Prop := True
def okStr (s : ByteArray) : Prop := s.size ≤ maxLen
def okList {α : Type} (ok : α → Prop) (l : List α) : Prop := (∀ x ∈ l, ok x) ∧ l.length ≤ maxLen
def okArr {α : Type} (n : Nat) (ok : α → Prop) (l : List α) : Prop := (∀ x ∈ l, ok x) ∧ l.length = n
/-- Every shape of the type is a typed value. -/
def Typ (P : Program) (t : TypeId) {α : Type} (enc : α → List IV) (ok : α → Prop) : Prop := ∀ xs, Shp P t xs → ∃ v, xs = enc v ∧ ok v
section
variable {P : Program} {α : Type} {enc : α → List IV} {ok : α → Prop}
theorem Typ.int {t : TypeId} {k : IntKind} (ht : P.underlying t = some (.int k)) : Typ P t (eI k) (okInt k) := fun xs hs => by
  obtain ⟨n, rfl, hn⟩ := hs.int_inv ht
  exact ⟨n, rfl, okInt_of hn⟩
theorem Typ.bool {t : TypeId} (ht : P.underlying t = some .bool) : Typ P t eB okAny := fun xs hs => by
  obtain ⟨b, rfl⟩ := hs.bool_inv ht
  exact ⟨b, rfl, trivial⟩
theorem Typ.str {t : TypeId} (ht : P.underlying t = some .string) : Typ P t eS okStr := fun xs hs => by
  obtain ⟨s, rfl, h⟩ := hs.str_inv ht
  exact ⟨s, rfl, h⟩
theorem Typ.each {e : TypeId} (he : Typ P e enc ok) : ∀ (xss : List (List IV)), (∀ ys ∈ xss, Shp P e ys) → ∃ l : List α, xss = l.map enc ∧ ∀ x ∈ l, ok x
  | [], _ => ⟨[], rfl, by simp⟩
  | y :: ys, h => by
    obtain ⟨v, rfl, hv⟩ := he y (h y (by simp))
    obtain ⟨l, rfl, hl⟩ := Typ.each he ys fun z hz => h z (by simp [hz])
    exact ⟨v :: l, rfl, fun x hx => by rcases List.mem_cons.1 hx with rfl | hx; exact hv; exact hl x hx⟩
theorem flatten_map (l : List α) : (l.map enc).flatten = l.flatMap enc := by
  induction l with
  | nil => rfl
  | cons a l ih => simp [List.flatMap_cons, ih]
theorem Typ.sl {t e : TypeId} (ht : P.underlying t = some (.slice e)) (he : Typ P e enc ok) : Typ P t (eL enc) (okList ok) := fun xs hs => by
  obtain ⟨xss, rfl, h1, h2⟩ := hs.sl_inv ht
  obtain ⟨l, rfl, hl⟩ := Typ.each he xss h1
  refine ⟨l, ?_, hl, by simpa using h2⟩
  unfold eL
  rw [flatten_map, List.length_map]
theorem Typ.arr {t e : TypeId} {n : Nat} (ht : P.underlying t = some (.array n e)) (he : Typ P e enc ok) : Typ P t (fun l => l.flatMap enc) (okArr n ok) := fun xs hs => by
  obtain ⟨xss, rfl, h1, h2⟩ := hs.arr_inv ht
  obtain ⟨l, rfl, hl⟩ := Typ.each he xss h1
  exact ⟨l, flatten_map l, hl, by simpa using h2⟩
theorem ShpL.of : ∀ (ts : List TypeId) (xss : List (List IV)), xss.length = ts.length → (∀ (i : Nat) (t : TypeId) (xs : List IV), ts[i]? = some t → xss[i]? = some xs → Shp P t xs) → ShpL P ts xss
  | [], [], _, _ => trivial
  | [], _ :: _, h, _ => by simp at h
  | _ :: _, [], h, _ => by simp at h
  | t :: ts, x :: xss, h, hx => ⟨hx 0 t x rfl rfl, ShpL.of ts xss (by simpa using h) fun i u y h1 h2 => hx (i + 1) u y h1 h2⟩
theorem Shp.fields {t : TypeId} {fs : Array Field} {xs : List IV} (hs : Shp P t xs) (ht : P.underlying t = some (.struct fs)) (ts : List TypeId) (hts : fs.toList.map (·.type) = ts) : ∃ xss : List (List IV), xs = xss.flatten ∧ ShpL P ts xss := by
  obtain ⟨xss, rfl, h1, h2⟩ := hs.st_inv ht
  refine ⟨xss, rfl, ShpL.of ts xss (by rw [h1, ← hts]; simp) fun i t y h3 h4 => ?_⟩
  rw [← hts, List.getElem?_map] at h3
  cases hf : fs.toList[i]? with
  | none => rw [hf] at h3; simp at h3
  | some f =>
    rw [hf] at h3
    simp at h3
    subst h3
    exact h2 i f y (by simpa using hf) h4
end
end Go.Abs
