/- functions of the program and of the references, as models -/
import Derived.Test.YtdllaekpkcanbaaMx2
set_option linter.unusedSimpArgs false
set_option linter.unusedVariables false
set_option maxRecDepth 100000
noncomputable section
namespace Go.Bm
open Go.Proofs
end Go.Bm
