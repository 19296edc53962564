/- Own work. -/
import Derived.Test.YtkgfbpbndmklnaaDoorRunB
set_option linter.unusedSimpArgs false
set_option linter.unusedVariables false
namespace Go.Abs
open Go.RowKit
section
variable {P : Program} {N : Nat} {env : Env} {h : Hp}
theorem CallOK.ofQ {f : FuncId} {args : List AV} {r : AV} (hq : QSpec P f args r) (ha : Abs.purL args = true) (hr : Abs.pur r = true) (h : Hp) : CallOK P f args h h r := by
 intro X w ι vs H hv
 have hBO : Own (Brw X.B h ι []) [] ι = Brw X.B h ι [] := by
  funext β
  simp [Own, Hp.at]
 have hv' : VRL w [] ι (Brw X.B h ι []) args vs := VRL.pure (fun _ _ hA => ⟨rfl, fun hb => hA hb.1⟩) args vs ha hv
 refine (hq w ι (Brw X.B h ι []) _ (H.start []) (by rw [hBO]; exact hv')).mono ?_
 rintro e w' ⟨v, r', h', ι', rfl, rfl, H', hvr⟩
 refine ⟨v, ι, rfl, H.below H'.after, Keep.below H'.after, ?_⟩
 exact VR.pure (fun β hβ hA => ⟨rfl, fun ho => hA (.inl ⟨ho, by simp⟩)⟩) _ _ hr hvr
/- Literal maps: keys are numbers. -/
theorem Below.set {w0 w : World} {g : Nat} {o : Obj} (hb : Below w0.heap.size w0 w) (hg : w0.heap.size ≤ g) : Below w0.heap.size w0 { w with heap := w.heap.setIfInBounds g o } where
 os := hb.os
 tape := hb.tape
 output := hb.output
 size := by simpa using hb.size
 block β hβ := by
  show (w.heap.setIfInBounds g o)[β]? = _
  rw [Xl (by omega)]
  exact hb.block β hβ
end
end Go.Abs
