/- a row of wide.Sqrt that the kernel runs fast -/
import Derived.Test.YtdllaekpkcanbaaPrD
set_option linter.unusedVariables false
set_option linter.unusedSimpArgs false
set_option maxRecDepth 100000
namespace Go.Bm
end Go.Bm
