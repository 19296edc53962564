/-
 Written by gen.py (own work): typed functions, and that the program computes them.
-/
import Derived.Test.YtbcfmhoaocifoaaDoorW11
set_option linter.unusedSimpArgs false
set_option linter.unusedVariables false
set_option maxRecDepth 100000
namespace Go.Proofs.YtbcfmhoaocifoaaDoor
open Go.Abs
section
variable (t0 : S_Raw) (t1 : List (List Int)) (t2 : List Int) (v8 : List Int) (v9 : S_Plate) (v10 : S_Plate) (v11 : S_Plate) (v12 : Int) (v27 : Int) (x1 : Bool) (x2 : S_Leaf) (x4 : (S_Plate × Int)) (x5 : S_Plate) (x6 : S_Plate) (x7 : S_Plate) (x31 : (S_Leaf × Int)) (x32 : (S_Leaf × Int)) (x33 : Bool) (x34 : Bool)
end
end Go.Proofs.YtbcfmhoaocifoaaDoor
