/- Own work. -/
import Derived.Test.YtbcfmhoaocifoaaDoorLibD
import Derived.ProofKit
import Derived.LaidMore
import Derived.OpenShut
import Derived.ChangeSame
import Derived.Stop.Joined
set_option linter.unusedSimpArgs false
set_option linter.unusedVariables false
namespace Go.Abs
open Go.ChangeShapes Go.WideShapes Go.ChangeAt Go.WideMaps Go.WideElems Go.RowKit
theorem laid_ints {P : Program} {w : World} {t e : TypeId} {n fuel : Nat} {k : IntKind} {cs : List Value} {ns : List Int} {p : List MemPlace} (ht : P.underlying t = some (.array n e)) (he : P.underlying e = some (.int k)) (hc : P.cellsOf e = 1) (hct : P.cellsOf t = n)
  (h : DataW.trod (fun _ => ()) P w 0 (fun _ => true) false fuel t cs = some (.agg (ns.map fun z => .lit (.int k z)), p)) : cs = ns.map (Value.int k) := by
 obtain ⟨xs, m, rfl, hx, hlen, hn, hel⟩ := DataW.trod_array ht h
 simp only [Prod.mk.injEq, DataW.agg.injEq] at hx
 have hx1 := hx.1
 have hl : ns.length = n := by
  have := congrArg List.length hx1
  simpa [hn] using this
 apply List.ext_getElem?
 intro i
 by_cases hi : i < n
 ·have h0 := hel i hi
  rw [hc, Nat.mul_one, X4 (by omega)] at h0
  obtain ⟨z, e1, e2, _⟩ := DataW.trod_int he h0
  have h2 := congrArg (fun l => l[i]?) hx1
  simp only [X02, X4 (show i < ns.length by omega), X4 (show i < xs.length by omega), Xg, Xb, e2, DataW.lit.injEq, Lit.int.injEq, true_and] at h2
  have h3 : cs[i]? = some (Value.int k z) := by
   have := congrArg (fun l => l[0]?) e1
   simpa [Xa, X0e] using this
  rw [h3, X02, X4 (show i < ns.length by omega), h2]
  rfl
 ·rw [List.getElem?_eq_none (by omega), List.getElem?_eq_none (by simp; omega)]
theorem laid_block {P : Program} {w : World} {n : String} {g g' : Nat} {t t' e : TypeId} {len fuel : Nat} {k : IntKind} {cs : Array Value} {ns : List Int} {p : List MemPlace} (hn : P.globalNamed n = some g) (hn' : P.globalNamed n = some g')
  (ht : (P.globals[g]?).map (·.type) = some t) (ht' : (P.globals[g']?).map (·.type) = some t') (hv : w.var? P n = some cs) (hu : P.underlying t = some (.array len e)) (he : P.underlying e = some (.int k)) (hc : P.cellsOf e = 1) (hct : P.cellsOf t = len)
  (h : DataW.trod (fun _ => ()) P w 0 (fun _ => true) false fuel t' cs.toList = some (.agg (ns.map fun z => .lit (.int k z)), p)) : ∃ e' fr, w.heap[g]? = some (.cells (ns.map (Value.int k)).toArray e' fr) := by
 obtain rfl := X1 (hn.symm.trans hn')
 obtain rfl := X1 (ht.symm.trans ht')
 have h1 := laid_ints hu he hc hct h
 simp only [World.var?, hn, X8] at hv
 split at hv
 ·rename_i c e' fr hh
  simp only [Xb] at hv
  subst hv
  exact ⟨e', fr, by rw [hh, ← h1]⟩
 ·cases hv
theorem laid_pairs {P : Program} {w : World} {t e : TypeId} {f0 f1 : Field} {n fuel : Nat} {k : IntKind} {cs : List Value} {ns : List (Int × Int)} {p : List MemPlace} (ht : P.underlying t = some (.array n e)) (he : P.underlying e = some (.struct #[f0, f1]))
  (h0 : P.underlying f0.type = some (.int k)) (h1 : P.underlying f1.type = some (.int k)) (o0 : f0.offset = 0) (o1 : f1.offset = 1) (c0 : P.cellsOf f0.type = 1) (c1 : P.cellsOf f1.type = 1) (hc : P.cellsOf e = 2) (hct : P.cellsOf t = 2 * n)
  (h : DataW.trod (fun _ => ()) P w 0 (fun _ => true) false fuel t cs = some (.agg (ns.map fun z => .agg [.lit (.int k z.1), .lit (.int k z.2)]), p)) : cs = ns.flatMap fun z => [Value.int k z.1, Value.int k z.2] := by
 obtain ⟨xs, m, rfl, hx, hlen, hn, hel⟩ := DataW.trod_array ht h
 simp only [Prod.mk.injEq, DataW.agg.injEq] at hx
 have hx1 := hx.1
 have hl : ns.length = n := by
  have := congrArg List.length hx1
  simpa [hn] using this
 have key : ∀ j, (hj : j < n) → cs[2 * j]? = some (Value.int k (ns[j]'(by omega)).1) ∧ cs[2 * j + 1]? = some (Value.int k (ns[j]'(by omega)).2) := by
  intro j hj
  have a := hel j hj
  rw [hc, X4 (by omega)] at a
  obtain ⟨y0, y1, m', e1, _, q0, q1⟩ := trod_struct2 he a
  rw [o0, c0] at q0
  rw [o1, c1] at q1
  obtain ⟨z0, r0, s0, _⟩ := DataW.trod_int h0 q0
  obtain ⟨z1, r1, s1, _⟩ := DataW.trod_int h1 q1
  have h2 := congrArg (fun l => l[j]?) hx1
  simp only [X02, X4 (show j < ns.length by omega), X4 (show j < xs.length by omega), Xg, Xb, e1, DataW.agg.injEq, List.cons.injEq, and_true, s0, s1, DataW.lit.injEq, Lit.int.injEq, true_and] at h2
  have t0 : cs[2 * j]? = some (Value.int k z0) := by
   have := congrArg (fun l => l[0]?) r0
   simp only [Xa, X0e] at this
   simpa [Nat.mul_comm] using this
  have t1 : cs[2 * j + 1]? = some (Value.int k z1) := by
   have := congrArg (fun l => l[0]?) r1
   simp only [Xa, X0e] at this
   simpa [Nat.mul_comm, Nat.add_comm, Nat.add_left_comm] using this
  rw [t0, t1, h2.1, h2.2]
  exact ⟨rfl, rfl⟩
 have flat : ∀ (l : List (Int × Int)) (i : Nat), (l.flatMap fun z => [Value.int k z.1, Value.int k z.2])[i]? = (l[i / 2]?).map fun z => if i % 2 = 0 then Value.int k z.1 else Value.int k z.2 := by
  intro l
  induction l with
  | nil => intro i; simp
  | cons a l ih =>
   intro i
   match i with
   | 0 => simp
   | 1 => simp
   | i + 2 =>
    have := ih i
    simp only [Xv, X0a, X18, X0d]
    rw [this, show (i + 2) / 2 = i / 2 + 1 by omega, show (i + 2) % 2 = i % 2 by omega, X0d]
 apply List.ext_getElem?
 intro i
 rw [flat]
 by_cases hi : i / 2 < n
 ·have := key (i / 2) hi
  rw [X4 (show i / 2 < ns.length by omega), Xg]
  by_cases he : i % 2 = 0
  ·rw [if_pos he, ← this.1]
   congr 1
   omega
  ·rw [if_neg he, ← this.2]
   congr 1
   omega
 ·rw [List.getElem?_eq_none (by omega), List.getElem?_eq_none (by omega)]
  rfl
theorem flat_pairs (k : IntKind) : ∀ l : List (Int × Int), (l.flatMap fun z => [Value.int k z.1, Value.int k z.2]) = (l.flatMap fun z => [z.1, z.2]).map (Value.int k)
 | [] => rfl
 | a :: l => by simp [flat_pairs k l]
theorem laid_block2 {P : Program} {w : World} {n : String} {g g' : Nat} {t t' e : TypeId} {f0 f1 : Field} {len fuel : Nat} {k : IntKind} {cs : Array Value} {ns : List Int} {ps : List (Int × Int)} {p : List MemPlace} (hn : P.globalNamed n = some g) (hn' : P.globalNamed n = some g')
  (ht : (P.globals[g]?).map (·.type) = some t) (ht' : (P.globals[g']?).map (·.type) = some t') (hv : w.var? P n = some cs) (hu : P.underlying t = some (.array len e)) (he : P.underlying e = some (.struct #[f0, f1]))
  (h0 : P.underlying f0.type = some (.int k)) (h1 : P.underlying f1.type = some (.int k)) (o : f0.offset = 0 ∧ f1.offset = 1 ∧ P.cellsOf f0.type = 1 ∧ P.cellsOf f1.type = 1 ∧ P.cellsOf e = 2 ∧ P.cellsOf t = 2 * len)
  (hns : (ps.flatMap fun z => [z.1, z.2]) = ns)
  (h : DataW.trod (fun _ => ()) P w 0 (fun _ => true) false fuel t' cs.toList = some (.agg (ps.map fun z => .agg [.lit (.int k z.1), .lit (.int k z.2)]), p)) : ∃ e' fr, w.heap[g]? = some (.cells (ns.map (Value.int k)).toArray e' fr) := by
 obtain rfl := X1 (hn.symm.trans hn')
 obtain rfl := X1 (ht.symm.trans ht')
 have h1 := laid_pairs hu he h0 h1 o.1 o.2.1 o.2.2.1 o.2.2.2.1 o.2.2.2.2.1 o.2.2.2.2.2 h
 rw [flat_pairs, hns] at h1
 simp only [World.var?, hn, X8] at hv
 split at hv
 ·rename_i c e' fr hh
  simp only [Xb] at hv
  subst hv
  exact ⟨e', fr, by rw [hh, ← h1]⟩
 ·cases hv
theorem glob_entry {w : World} {g : Nat} {ns : List Int} {k : IntKind} (h : ∃ e' fr, w.heap[g]? = some (.cells (ns.map (Value.int k)).toArray e' fr)) (hne : ns ≠ []) :
  ¬ (fun _ : Nat => False) g ∧ ∃ (arr : Array Value) (e : TypeId) (fr : Nat × Nat), w.heap[g]? = some (.cells arr e fr) ∧ ns.flatMap (eI k) = arr.toList.map .val ∧ arr.toList ≠ [] ∧ ∀ u ∈ arr.toList, u.oneCell' = true := by
 obtain ⟨e', fr, h⟩ := h
 refine ⟨fun h => h, _, e', fr, h, ?_, by simpa using hne, ?_⟩
 ·clear h hne
  induction ns with
  | nil => rfl
  | cons a l ih => simpa [eI] using ih
 ·intro u hu
  simp only [X06] at hu
  obtain ⟨z, _, rfl⟩ := hu
  rfl
end Go.Abs
