/-
  Written by gen.py (own work): typed functions, and that the program computes them.
-/
import Derived.Test.YtbcfmhoaocifoaaDoorW9
set_option linter.unusedSimpArgs false
set_option linter.unusedVariables false
set_option maxRecDepth 100000
namespace Go.Proofs.YtbcfmhoaocifoaaDoor
open Go.Abs
section
variable (t0 : S_Raw) (v8 : S_Leaf) (v9 : S_Leaf) (x1 : S_Format) (x2 : S_Header) (x3 : ((List Int) × Int)) (x4 : ((List Int) × Int)) (x6 : (List (List Int)))
end
section
variable (t0 : S_Leaf) (t1 : S_Leaf) (x1 : Bool) (x2 : Bool)
end
section
variable (t0 : S_Raw) (t1 : List Int) (v14 : S_Leaf) (v15 : S_Plate) (x1 : Bool) (x2 : S_Leaf) (x4 : (S_Plate × Int)) (x7 : (S_Leaf × Int)) (x10 : S_Plate) (x11 : S_Plate) (x16 : (S_Leaf × Int))
end
end Go.Proofs.YtbcfmhoaocifoaaDoor
