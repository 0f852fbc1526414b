/- the report of a run: Format over the model of its lines -/
import Derived.Test.YtnnpdlgenmnekaaGreatDoorSeFmF
import Derived.Test.YtnnpdlgenmnekaaGreatDoorMx3
set_option linter.unusedVariables false
set_option linter.unusedSimpArgs false
noncomputable section
namespace Go.Bm
open Go.Proofs
noncomputable def QL:List AC->Option (List AC):=Q3 Qep
theorem Zr0:Ak Tryz.prog (31,Ac Qi Ry QL):=Zvd Yhj
end Go.Bm
