/-
  Written by gen.py (own work): typed functions, and that the program computes them.
-/
import Derived.Test.YtbcfmhoaocifoaaDoorW10
set_option linter.unusedSimpArgs false
set_option linter.unusedVariables false
set_option maxRecDepth 100000
namespace Go.Proofs.YtbcfmhoaocifoaaDoor
open Go.Abs
section
variable (t0 : List (List Bool)) (t1 : Int) (t2 : Int) (v1 : List (List Int)) (v2 : Int) (v3 : Int) (v10 : List (List Int)) (v11 : List Int) (v12 : Int) (v13 : Int) (v21 : Int) (v22 : Int)
end
section
variable (t0 : S_Plate)
end
section
variable (t0 : S_Plate)
end
section
variable (t0 : List Int) (v1 : Int) (v6 : Int)
end
section
variable (t0 : Int) (v1 : Int)
end
section
variable (t0 : List Int) (v3 : Int) (v4 : Int) (v9 : Int) (v10 : Int) (x7 : Bool) (x15 : Int) (x21 : ((List Int) × Int))
end
section
variable (t0 : List Int) (v8 : S_Header) (v9 : List Int) (v10 : S_Header) (v11 : S_Header) (v12 : S_Header) (v20 : S_Header) (v21 : S_Header) (v22 : Int) (v35 : S_Header) (v36 : S_Header) (v37 : Int) (x1 : (List Int) × (List Int)) (x2 : (Int × Int × Int)) (x17 : (Int × Int × Int)) (x29 : (List Int)) (x45 : (List Int))
end
section
variable (t0 : List (List Int)) (t1 : Int) (x3 : (S_Header × Int))
end
section
variable (t0 : S_Plate) (x1 : Bool) (x3 : (List (List Int))) (x4 : (List (List Int))) (x6 : (S_Header × Bool)) (x7 : (S_Header × Bool))
end
end Go.Proofs.YtbcfmhoaocifoaaDoor
