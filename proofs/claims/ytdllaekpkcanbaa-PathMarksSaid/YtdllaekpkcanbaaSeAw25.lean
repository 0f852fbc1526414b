/- a law's awake function, run once -/
import Derived.Test.YtdllaekpkcanbaaSeSq
set_option linter.unusedSimpArgs false
set_option linter.unusedVariables false
set_option maxRecDepth 100000
namespace Go.Bm
open Go.Proofs
def sig_cnclaw25_awake : Sk := { tmps := [], boxes := [], rows := [] }
def osig_cnclaw25_awake : Sk := { tmps := [TS.v false [CS.bool]], boxes := [], rows := [] }
noncomputable def m_cnclaw25_awake : List AC -> Option (List AC) := modelF Try.prog CB 400 42 sig_cnclaw25_awake osig_cnclaw25_awake
theorem r_cnclaw25_awake : RowOK Try.prog (42, spOf sig_cnclaw25_awake osig_cnclaw25_awake m_cnclaw25_awake) := row_of (by kernel_rfl) (FnOK.bare rfl rfl rfl) spCB eqOk mixOk (by kernel_rfl) (by kernel_rfl)
theorem m_cnclaw25_awake_eq : m_cnclaw25_awake [] = some [.bool true] := by kernel_rfl
end Go.Bm
