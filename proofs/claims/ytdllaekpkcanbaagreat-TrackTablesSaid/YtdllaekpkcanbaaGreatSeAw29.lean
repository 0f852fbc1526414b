/- a law's awake function, run once -/
import Derived.Test.YtdllaekpkcanbaaGreatSeAw0
set_option linter.unusedSimpArgs false
set_option linter.unusedVariables false
set_option maxRecDepth 100000
namespace Go.Bm
open Go.Proofs
def sig_cnclaw29_awake : Sk := { tmps := [], boxes := [], rows := [] }
def osig_cnclaw29_awake : Sk := { tmps := [TS.v false [CS.bool]], boxes := [], rows := [] }
noncomputable def m_cnclaw29_awake : List AC -> Option (List AC) := modelF Tryz.prog CA 400 14 sig_cnclaw29_awake osig_cnclaw29_awake
theorem r_cnclaw29_awake : RowOK Tryz.prog (14, spOf sig_cnclaw29_awake osig_cnclaw29_awake m_cnclaw29_awake) := row_of (by kernel_rfl) (FnOK.bare rfl rfl rfl) spCA eqOk mixOk (by kernel_rfl) (by kernel_rfl)
theorem m_cnclaw29_awake_eq : m_cnclaw29_awake [] = some [.bool true] := by kernel_rfl
end Go.Bm
