/- the report of a run: Format over the model of its lines -/
import Derived.Test.YtnnpdlgenmnekaaGreatDoorSeFmF
import Derived.Test.YtnnpdlgenmnekaaGreatDoorMx3
set_option linter.unusedVariables false
set_option linter.unusedSimpArgs false
noncomputable section
namespace Go.Bm
open Go.Proofs
noncomputable def PU:List AC->Option (List AC):=Qh Qbg
theorem Zj1:Al Tryz.prog (31,Ac Pu QR PU):=Zm5 Z8p
end Go.Bm
