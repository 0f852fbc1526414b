/- the report of a run: Format over the model of its lines -/
import Derived.Test.YtnnpdlgenmnekaaGreatDoorSeFmF
import Derived.Test.YtnnpdlgenmnekaaGreatDoorMx3
set_option linter.unusedVariables false
set_option linter.unusedSimpArgs false
noncomputable section
namespace Go.Bm
open Go.Proofs
noncomputable def QI:List AC->Option (List AC):=QZ Qej
theorem Zr5:Ak Tryz.prog (31,Ab Qd Rt QI):=Zvj Yht
end Go.Bm
