/-
  Own work. Several texts of the library in one.
-/
import Derived.Lib.Builder
import Derived.Lib.UnsafeStr
import Derived.LaidEqlPtr
import Derived.Laws.Externs
import Derived.Test.YtfpcbalkioolmaaDoorLibD
set_option linter.unusedSimpArgs false
set_option linter.unusedVariables false
/-
  Own work. The generated walks, part 18: what strings.Builder needs: pointers that are compared and turned to raw ones and back, the bytes of a row taken as a string.
-/
namespace Go.Abs
open Go.RowKit
section
variable {P : Program} {N : Nat} {ops : Array Oper} {env : Env} {h : Hp}
end
end Go.Abs
/-
  Own work. The generated walks, part 19: slices of slices that are written: families of roots.
-/
namespace Go.Abs
open Go.RowKit
structure Fm where
  R : Nat
  e : TypeId
  k : Nat
  rows : List (List IV)
def fmGet : List Fm → Nat → Option Fm
  | [], _ => none
  | f :: fs, R => if f.R = R then some f else fmGet fs R
end Go.Abs
/-
  Own work. The generated walks, part 20: states with families told anew.
-/
namespace Go.Abs
open Go.RowKit
inductive FM where
  | same (R : Nat)
  | nil
  | put (R i q : Nat)
def FM.src : FM → Option Nat
  | .same R => some R
  | .nil => none
  | .put R _ _ => some R
def FM.q : FM → Option Nat
  | .put _ _ q => some q
  | _ => none
def fmLook : List (Nat × FM) → Nat → Option FM
  | [], _ => none
  | (R', m) :: l, R => if R' = R then some m else fmLook l R
def FmC (h : Hp) (fs : List Fm) (f : Fm) : FM → Prop
  | .same R => ∃ g, fmGet fs R = some g ∧ g.R = R ∧ g.e = f.e ∧ g.k = f.k ∧ f.rows = g.rows
  | .nil => ∀ row ∈ f.rows, row = []
  | .put R i q => ∃ g rt, fmGet fs R = some g ∧ g.R = R ∧ g.e = f.e ∧ g.k = f.k ∧ h.at q = some rt ∧ rt.live = true ∧ rt.e = f.e ∧ rt.k = f.k ∧ ∀ j row, f.rows[j]? = some row → if j = i then rt.cs = row.map .im else g.rows[j]? = some row
inductive FmsC (h : Hp) (fs : List Fm) (m : List (Nat × FM)) : List Fm → Prop
  | nil : FmsC h fs m []
  | cons {f : Fm} {x : FM} {l : List Fm} : fmLook m f.R = some x → FmC h fs f x → FmsC h fs m l → FmsC h fs m (f :: l)
theorem FmsC.all {h : Hp} {fs : List Fm} {m : List (Nat × FM)} : ∀ {l : List Fm}, FmsC h fs m l → ∀ f ∈ l, ∃ x, fmLook m f.R = some x ∧ FmC h fs f x
  | _, .nil, f, hf => by simp at hf
  | _, .cons (x := x) h1 h2 hl, f, hf => by
    rcases List.mem_cons.1 hf with rfl | hf
    · exact ⟨x, h1, h2⟩
    · exact hl.all f hf
section
variable {P : Program} {N : Nat} {ops : Array Oper} {env : Env} {h : Hp}
end
end Go.Abs
