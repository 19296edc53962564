/-
  Written by gen.py (own work): typed functions, and that the program computes them.
-/
import Derived.Test.YtbcfmhoaocifoaaDoorW8
set_option linter.unusedSimpArgs false
set_option linter.unusedVariables false
set_option maxRecDepth 100000
namespace Go.Proofs.YtbcfmhoaocifoaaDoor
open Go.Abs
section
variable (t0 : S_Plate) (v2 : S_Plate) (v3 : S_Plate) (v4 : S_Plate) (v5 : Int) (v8 : S_Plate) (v9 : S_Plate) (v10 : S_Plate) (v11 : Int) (x1 : S_Plate)
end
section
variable (t0 : Int) (t1 : Int) (v1 : Int) (v2 : Int)
end
section
variable (t0 : S_Raw) (v11 : Int) (v12 : Int) (v15 : Int) (v16 : Int) (v21 : Int) (v31 : Int) (v32 : Int) (v38 : Int) (v39 : Int) (v42 : Int) (v43 : Int) (x1 : Bool) (x2 : S_Plate) (x3 : S_Plate) (x4 : List (List Int)) (x5 : List (List Int))
end
section
variable (t0 : S_Raw') (v3 : S_Header) (v4 : S_Header)
end
section
variable (t0 : S_Label)
end
section
end
section
variable (t0 : Int)
end
section
variable (t0 : Int) (v2 : List Int) (v3 : Int)
end
section
variable (t0 : S_Label) (t1 : Bool) (x6 : ((List Int) × Int)) (x9 : (List Int))
end
section
variable (t0 : Int) (t1 : Int) (x2 : ((List Int) × Int)) (x4 : (List Int))
end
section
variable (t0 : S_Header) (v7 : S_Header) (v8 : List Int) (x2 : (List Int) × Int)
end
end Go.Proofs.YtbcfmhoaocifoaaDoor
