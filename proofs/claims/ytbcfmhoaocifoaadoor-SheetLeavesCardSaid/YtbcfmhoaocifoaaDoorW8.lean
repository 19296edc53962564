/-
 Written by gen.py (own work): typed functions, and that the program computes them.
-/
import Derived.Test.YtbcfmhoaocifoaaDoorW7
set_option linter.unusedSimpArgs false
set_option linter.unusedVariables false
set_option maxRecDepth 100000
namespace Go.Proofs.YtbcfmhoaocifoaaDoor
open Go.Abs
section
variable (t0 : S_Raw) (t1 : List (List Int)) (v5 : S_Plate) (v6 : S_Plate) (v7 : Int) (v10 : S_Plate) (v11 : S_Plate) (x1 : S_Format) (x4 : S_Plate)
end
section
variable (t0 : S_Raw) (t1 : List (List Int)) (t2 : List (List Int)) (x1 : Bool) (x2 : S_Format) (x3 : S_Plate) (x4 : S_Plate) (x5 : (List (List Int))) (x6 : (List (List Int))) (x7 : (S_Plate × Int)) (x9 : Bool) (x11 : Bool) (x12 : Bool) (x13 : Bool) (x14 : Bool) (x15 : Bool) (x16 : Bool) (x17 : Bool)
end
end Go.Proofs.YtbcfmhoaocifoaaDoor
