/- the report of a run: Format over the model of its lines -/
import Derived.Test.YtnnpdlgenmnekaaGreatDoorSeFmF
import Derived.Test.YtnnpdlgenmnekaaGreatDoorMx3
set_option linter.unusedVariables false
set_option linter.unusedSimpArgs false
noncomputable section
namespace Go.Bm
open Go.Proofs
noncomputable def P9:List AC->Option (List AC):=Qp Qa2
theorem Zja:An Tryz.prog (31,Ac PC QT P9):=Zl7 Z7i
end Go.Bm
