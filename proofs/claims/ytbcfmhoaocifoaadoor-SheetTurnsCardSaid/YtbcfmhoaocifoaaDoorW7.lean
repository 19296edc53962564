/-
  Written by gen.py (own work): typed functions, and that the program computes them.
-/
import Derived.Test.YtbcfmhoaocifoaaDoorW6
set_option linter.unusedSimpArgs false
set_option linter.unusedVariables false
set_option maxRecDepth 100000
namespace Go.Proofs.YtbcfmhoaocifoaaDoor
open Go.Abs
section
variable (t0 : S_Raw) (t1 : List Int) (t2 : Bool) (v7 : List Int) (v8 : S_Format) (v9 : S_Leaf) (v10 : S_Leaf) (v11 : List S_Leaf) (v12 : Int) (v18 : List S_Leaf) (v19 : Int) (x1 : Bool) (x2 : S_Format) (x5 : S_Leaf) (x6 : S_Leaf) (x24 : (S_Plate × Int)) (x25 : (S_Plate × Int))
end
section
variable (t0 : List (List Bool)) (t1 : Int) (t2 : Int) (v2 : Int)
end
section
variable (t0 : S_Plate)
end
section
variable (t0 : S_Raw) (x1 : Bool) (x2 : S_Format) (x3 : S_Leaf) (x4 : (S_Plate × Int)) (x5 : Bool) (x9 : Bool) (x10 : (List (List Int))) (x11 : Bool) (x12 : (List (List Int)))
end
end Go.Proofs.YtbcfmhoaocifoaaDoor
