/-
  Own work. Chapter 21, plain part: the laws for all arguments that can be read.
-/
import Derived.Test.YthfdgicfcjkfgaaP21f
import Derived.Test.YthfdgicfcjkfgaaGen7
set_option linter.unusedSimpArgs false
set_option linter.unusedVariables false
namespace Go.Proofs.Ythfdgicfcjkfgaa
open Go.Abs
theorem plain_PageMatchesReference {t0 t1 t2 : List Int} (h0 : okList (okInt .u8) t0) (h1 : okArr 2 (okInt .i8) t1) (h2 : okList (okInt .i8) t2) : f_L21_PageMatchesReference t0 t1 t2 = some true :=
  law_matches t0 t1 t2 h1.1 h1.2 h2.1
theorem plain_PageFills {t0 : List Int} {t1 : Int} (h0 : okList (okInt .u8) t0) (h1 : okInt .u8 t1) : f_L21_PageFills t0 t1 = some true := law_fills t0 t1 h1
theorem plain_PageSteps {t0 t1 t2 : List Int} (h0 : okList (okInt .u8) t0) (h1 : okList (okInt .u8) t1) (h2 : okArr 3 (okInt .u8) t2) : f_L21_PageSteps t0 t1 t2 = some true := law_steps t0 t1 t2 h1.1 h2.1
theorem plain_PageHeights {t0 t1 t2 : List Int} (h0 : okList (okInt .u8) t0) (h1 : okList (okInt .u8) t1) (h2 : okArr 2 (okInt .u8) t2) : f_L21_PageHeights t0 t1 t2 = some true := law_heights t0 t1 t2 h1.1 h2.1
theorem plain_PageParts {t0 t1 : List Int} {t2 : Int} (h0 : okList (okInt .u8) t0) (h1 : okList (okInt .u8) t1) (h2 : okInt .u8 t2) : f_L21_PageParts t0 t1 t2 = some true := law_parts t0 t1 t2 h1.1 h2
end Go.Proofs.Ythfdgicfcjkfgaa
