/-
 Own work. Strings as lists of bytes, for the laws' plain part.
-/
import Derived.Test.YtbcfmhoaocifoaaDoorPl3
import Derived.Test.YtbcfmhoaocifoaaDoorLibC
import Derived.Lib.Bytealg
set_option linter.unusedSimpArgs false
set_option linter.unusedVariables false
set_option linter.unusedSimpArgs false
set_option linter.unusedVariables false
namespace Go.Abs
def B (l : List UInt8) : ByteArray := ⟨l.toArray⟩
end Go.Abs
