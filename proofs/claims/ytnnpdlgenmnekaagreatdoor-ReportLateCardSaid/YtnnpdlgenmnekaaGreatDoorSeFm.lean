/- the report of a run: Format over the model of its lines -/
import Derived.Test.YtnnpdlgenmnekaaGreatDoorSeFmF
import Derived.Test.YtnnpdlgenmnekaaGreatDoorMx3
set_option linter.unusedVariables false
set_option linter.unusedSimpArgs false
noncomputable section
namespace Go.Bm
open Go.Proofs
noncomputable def Ql:List AC->Option (List AC):=QJ Qcu
theorem Zmj:Al Tryz.prog (31,Ad PR Ri Ql):=Zpk Ybq
end Go.Bm
