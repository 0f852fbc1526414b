/- a law's awake function, run once -/
import Derived.Test.YtdllaekpkcanbaaSeSq
set_option linter.unusedSimpArgs false
set_option linter.unusedVariables false
set_option maxRecDepth 100000
namespace Go.Bm
open Go.Proofs
end Go.Bm
