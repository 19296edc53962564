/- Own work. -/
import Derived.Test.YtioockkejhpleaaDoorDoorLib
set_option linter.unusedSimpArgs false
set_option linter.unusedVariables false
namespace Go.Abs
open Go.ChangeShapes Go.WideShapes Go.RowKit Go.Deep
section
variable {H : Type} {enc : TypeId × Value → H} {P : Program} {w : World} {base : Nat} {spare : Nat → Bool} {held : Bool}
theorem slice_sized {t e : TypeId} {fuel : Nat} {cs : List Value} {x : DataW H × List MemPlace} (ht : P.underlying t = some (.slice e)) (h : DataW.trod enc P w base spare held fuel t cs = some x) (hw : (DataW.weights P t x.1).all (· ≤ reachBytes) = true) :
    ∀ a len cap, cs = [.slice a len cap] → len * P.bytesOf e ≤ reachBytes := by
  intro a' len' cap' hcs
  rcases open_slice ht h with ⟨rfl, _⟩ | ⟨a, len, cap, m, n', D, Pl, rfl, hb, hl, hm, hmm, rfl, hi⟩
  · simp only [List.cons.injEq, Value.slice.injEq, and_true] at hcs
    rw [← hcs.2.1, X10]
    exact Nat.zero_le _
  · simp only [List.cons.injEq, Value.slice.injEq, and_true] at hcs
    rw [← hcs.2.1]
    simp only [DataW.weights, ht, X1f, X3, decide_eq_true_eq, Xh, X1e] at hw
    refine X0p ?_ hw.1
    exact X0u _ (Nat.le_add_right _ _)
theorem third_sized {t e : TypeId} {f0 f1 f2 : Field} {v : Value} {d : DataW H} {p : List MemPlace} (ht : P.underlying t = some (.struct #[f0, f1, f2])) (h2 : P.underlying f2.type = some (.slice e)) (ho : f2.offset = 2) (hc : P.cellsOf f2.type = 1)
    (h : DataW.Trod enc P w base spare held t v d p) (hw : (DataW.weights P t d).all (· ≤ reachBytes) = true) : ∀ a len cap, v.cells.toList[2]? = some (.slice a len cap) → len * P.bytesOf e ≤ reachBytes := by
  obtain ⟨fuel, hf⟩ := h
  obtain ⟨xs, n, _, hx, hlen, hxl, hi⟩ := DataW.trod_struct ht hf
  simp only [Prod.mk.injEq] at hx
  obtain ⟨rfl, _⟩ := hx
  match xs, hxl with
  | [y0, y1, y2], _ =>
    have h3 := hi 2 f2 rfl
    simp only [DataW.weights, ht, Xs, X0y, DataW.weightsEach, List.all_append, X3] at hw
    intro a len cap hv
    refine slice_sized h2 h3 hw.2.2.1 a len cap ?_
    rw [ho, hc]
    obtain ⟨hlt, he⟩ := Xo.1 hv
    rw [X1h hlt, X08, List.take_zero, he]
theorem first_sized {t e : TypeId} {f0 f1 f2 : Field} {ts more : List TypeId} {xss : List (List IV)} {vs : List Value} {ds gs : List (DataW H)} {ps : List MemPlace} {k : Nat} (ht : P.underlying t = some (.struct #[f0, f1, f2])) (h2 : P.underlying f2.type = some (.slice e)) (ho : f2.offset = 2) (hc : P.cellsOf f2.type = 1) (hz : lz P t = some (some k))
    (hA : DataW.TrodAll enc P w base spare held (t :: ts) vs ds ps) (hw : (DataW.weightsEach P ((t :: ts) ++ more) (ds ++ gs)).all (· ≤ reachBytes) = true) (hvr : VRL w [] (fun _ => ⟨none, 0⟩) (fun _ => False) (argsA P (t :: ts) xss) vs) :
    ∀ ys n, (xss.getD 0 []).getD 2 (.mp []) = .sl ys n → n * P.bytesOf e ≤ reachBytes := by
  intro ys n hxs
  obtain ⟨v0, vs', d0, ds', p, q, rfl, rfl, rfl, h1, _⟩ := trodAll_cons hA
  rw [X06, X06, DataW.weightsEach, List.all_append, X3] at hw
  match xss with
  | [] => simp at hxs
  | x0 :: xr =>
    simp only [argsA, VRL] at hvr
    obtain ⟨v, l', hl, hv, _⟩ := hvr
    simp only [List.cons.injEq] at hl
    obtain ⟨rfl, rfl⟩ := hl
    unfold argA at hv
    rw [hz] at hv
    simp only [VR] at hv
    obtain ⟨l, rfl, hvl⟩ := hv
    have hx2 : x0[2]? = some (.sl ys n) := by
      rw [X0l, Xf] at hxs
      cases hq : x0[2]? with
      | none => rw [hq] at hxs; cases hxs
      | some y => rw [hq] at hxs; simp only [Xm] at hxs; rw [hxs]
    obtain ⟨u, hu, hvu⟩ := hvl.toI.get 2 _ hx2
    simp only [VRI] at hvu
    obtain ⟨ao, cap, l2, rfl, _⟩ := hvu
    exact third_sized ht h2 ho hc h1 hw.1 ao n cap (by simpa [Value.cells] using hu)
end
end Go.Abs
