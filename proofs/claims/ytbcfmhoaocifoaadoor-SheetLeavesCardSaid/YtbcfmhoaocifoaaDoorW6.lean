/-
 Written by gen.py (own work): typed functions, and that the program computes them.
-/
import Derived.Test.YtbcfmhoaocifoaaDoorW5
set_option linter.unusedSimpArgs false
set_option linter.unusedVariables false
set_option maxRecDepth 100000
namespace Go.Proofs.YtbcfmhoaocifoaaDoor
open Go.Abs
section
variable (t0 : List (List Int)) (t1 : Int) (v2 : Int) (x6 : Bool)
end
section
variable (t0 : List (List Int)) (t1 : Int) (t2 : Int)
end
section
variable (t1 : Int) (t2 : Int)
end
section
variable (t0 : S_Leaf) (t1 : S_Format) (v8 : S_Leaf) (v9 : S_Plate) (v10 : S_Plate) (v11 : Int) (v14 : S_Leaf) (v15 : S_Plate) (v16 : S_Plate) (v17 : Int) (x7 : S_Plate) (x21 : Bool) (x26 : Bool)
end
end Go.Proofs.YtbcfmhoaocifoaaDoor
