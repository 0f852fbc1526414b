/- a law's awake function, run once -/
import Derived.Test.YtdllaekpkcanbaaSeAw0
set_option linter.unusedSimpArgs false
set_option linter.unusedVariables false
set_option maxRecDepth 100000
namespace Go.Bm
open Go.Proofs
def sig_cnclaw41_awake : Sk := { tmps := [], boxes := [], rows := [] }
def osig_cnclaw41_awake : Sk := { tmps := [TS.v false [CS.bool]], boxes := [], rows := [] }
noncomputable def m_cnclaw41_awake : List AC -> Option (List AC) := modelF Try.prog CA 400 16 sig_cnclaw41_awake osig_cnclaw41_awake
theorem r_cnclaw41_awake : RowOK Try.prog (16, spOf sig_cnclaw41_awake osig_cnclaw41_awake m_cnclaw41_awake) := row_of (by kernel_rfl) (FnOK.bare rfl rfl rfl) spCA eqOk mixOk (by kernel_rfl) (by kernel_rfl)
theorem m_cnclaw41_awake_eq : m_cnclaw41_awake [] = some [.bool true] := by kernel_rfl
end Go.Bm
