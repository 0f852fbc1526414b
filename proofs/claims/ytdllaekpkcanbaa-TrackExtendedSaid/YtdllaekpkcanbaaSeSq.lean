/- what the laws' awake functions are run with, square roots told -/
import Derived.Test.YtdllaekpkcanbaaSeAw0
import Derived.Test.YtdllaekpkcanbaaPrSq
set_option linter.unusedSimpArgs false
set_option linter.unusedVariables false
set_option maxRecDepth 100000
namespace Go.Bm
open Go.Proofs
end Go.Bm
