/- Own work. -/
import Derived.Test.YtioockkejhpleaaDoorFm15
import Derived.Test.YtioockkejhpleaaDoorFm7
set_option linter.unusedSimpArgs false
set_option linter.unusedVariables false
namespace Go.Proofs.YtioockkejhpleaaDoor
open Go.Abs
end Go.Proofs.YtioockkejhpleaaDoor
