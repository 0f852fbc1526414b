/- the report of a run: Format over the model of its lines -/
import Derived.Test.YtnnpdlgenmnekaaGreatDoorSeFmF
import Derived.Test.YtnnpdlgenmnekaaGreatDoorMx3
set_option linter.unusedVariables false
set_option linter.defProp false
set_option linter.unusedSimpArgs false
noncomputable section
namespace Go.Bm
open Go.Proofs
noncomputable def RH:List AC->Option (List AC):=RV Qbt
def Ztv:Bx Tryz.prog (31,Ah OJ Qe RH):=Zwc Yda
end Go.Bm
