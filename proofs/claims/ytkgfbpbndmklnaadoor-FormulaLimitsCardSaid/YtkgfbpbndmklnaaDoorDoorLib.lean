/- Own work. -/
import Derived.Test.YtkgfbpbndmklnaaDoorLibG
import Derived.ProofKit
import Derived.LaidMore
import Derived.OpenShut
import Derived.ChangeSame
import Derived.Stop.Joined
set_option linter.unusedSimpArgs false
set_option linter.unusedVariables false
namespace Go.Abs
open Go.ChangeShapes Go.WideShapes Go.ChangeAt Go.WideMaps Go.WideElems Go.RowKit
theorem laid_ints {P : Program} {w : World} {t e : TypeId} {n fuel : Nat} {k : IntKind} {cs : List Value} {ns : List Int} {p : List MemPlace} (ht : P.underlying t = some (.array n e)) (he : P.underlying e = some (.int k)) (hc : P.cellsOf e = 1) (hct : P.cellsOf t = n)
    (h : DataW.trod (fun _ => ()) P w 0 (fun _ => true) false fuel t cs = some (.agg (ns.map fun z => .lit (.int k z)), p)) : cs = ns.map (Value.int k) := by
  obtain ⟨xs, m, rfl, hx, hlen, hn, hel⟩ := DataW.trod_array ht h
  simp only [Prod.mk.injEq, DataW.agg.injEq] at hx
  have hx1 := hx.1
  have hl : ns.length = n := by
    have := congrArg List.length hx1
    simpa [hn] using this
  apply List.ext_getElem?
  intro i
  by_cases hi : i < n
  · have h0 := hel i hi
    rw [hc, Nat.mul_one, X2 (by omega)] at h0
    obtain ⟨z, e1, e2, _⟩ := DataW.trod_int he h0
    have h2 := congrArg (fun l => l[i]?) hx1
    simp only [X0i, X2 (show i < ns.length by omega), X2 (show i < xs.length by omega), Xx, X0, e2, DataW.lit.injEq, Lit.int.injEq, true_and] at h2
    have h3 : cs[i]? = some (Value.int k z) := by
      have := congrArg (fun l => l[0]?) e1
      simpa [Xk, X0w] using this
    rw [h3, X0i, X2 (show i < ns.length by omega), h2]
    rfl
  · rw [List.getElem?_eq_none (by omega), List.getElem?_eq_none (by simp; omega)]
theorem laid_block {P : Program} {w : World} {n : String} {g g' : Nat} {t t' e : TypeId} {len fuel : Nat} {k : IntKind} {cs : Array Value} {ns : List Int} {p : List MemPlace} (hn : P.globalNamed n = some g) (hn' : P.globalNamed n = some g')
    (ht : (P.globals[g]?).map (·.type) = some t) (ht' : (P.globals[g']?).map (·.type) = some t') (hv : w.var? P n = some cs) (hu : P.underlying t = some (.array len e)) (he : P.underlying e = some (.int k)) (hc : P.cellsOf e = 1) (hct : P.cellsOf t = len)
    (h : DataW.trod (fun _ => ()) P w 0 (fun _ => true) false fuel t' cs.toList = some (.agg (ns.map fun z => .lit (.int k z)), p)) : ∃ e' fr, w.heap[g]? = some (.cells (ns.map (Value.int k)).toArray e' fr) := by
  obtain rfl := X7 (hn.symm.trans hn')
  obtain rfl := X7 (ht.symm.trans ht')
  have h1 := laid_ints hu he hc hct h
  simp only [World.var?, hn, X9] at hv
  split at hv
  · rename_i c e' fr hh
    simp only [X0] at hv
    subst hv
    exact ⟨e', fr, by rw [hh, ← h1]⟩
  · cases hv
theorem glob_entry {w : World} {g : Nat} {ns : List Int} {k : IntKind} (h : ∃ e' fr, w.heap[g]? = some (.cells (ns.map (Value.int k)).toArray e' fr)) (hne : ns ≠ []) :
    ¬ (fun _ : Nat => False) g ∧ ∃ (arr : Array Value) (e : TypeId) (fr : Nat × Nat), w.heap[g]? = some (.cells arr e fr) ∧ ns.flatMap (eI k) = arr.toList.map .val ∧ arr.toList ≠ [] ∧ ∀ u ∈ arr.toList, u.oneCell' = true := by
  obtain ⟨e', fr, h⟩ := h
  refine ⟨fun h => h, _, e', fr, h, ?_, by simpa using hne, ?_⟩
  · clear h hne
    induction ns with
    | nil => rfl
    | cons a l ih => simpa [eI] using ih
  · intro u hu
    simp only [X01] at hu
    obtain ⟨z, _, rfl⟩ := hu
    rfl
end Go.Abs
