/- the report of a run: Format over the model of its lines -/
import Derived.Test.YtnnpdlgenmnekaaGreatDoorSeFmF
import Derived.Test.YtnnpdlgenmnekaaGreatDoorMx2
set_option linter.unusedVariables false
set_option linter.unusedSimpArgs false
noncomputable section
namespace Go.Bm
open Go.Proofs
noncomputable def B2:List AC->Option (List AC):=GC Fz
theorem KG:Av Tryz.prog (31,Aj EI EZ B2):=PQ T6
end Go.Bm
