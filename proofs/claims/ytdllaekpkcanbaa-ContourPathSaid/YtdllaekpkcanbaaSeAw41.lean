/- a law's awake function, run once -/
import Derived.Test.YtdllaekpkcanbaaSeAw0
set_option linter.unusedSimpArgs false
set_option linter.unusedVariables false
set_option maxRecDepth 100000
namespace Go.Bm
open Go.Proofs
def Qnu : Sk := { tmps := [], boxes := [], rows := [] }
def Ql6 : Sk := { tmps := [TS.v false [CS.bool]], boxes := [], rows := [] }
noncomputable def Qf1 : List AC -> Option (List AC) := Qat Try.prog CA 400 16 Qnu Ql6
theorem r_cnclaw41_awake : Qbv Try.prog (16, spOf Qnu Ql6 Qf1) := Qa7 (by kernel_rfl) (FnOK.bare rfl rfl rfl) spCA eqOk Qbo (by kernel_rfl) (by kernel_rfl)
theorem m_cnclaw41_awake_eq : Qf1 [] = some [.bool true] := by kernel_rfl
end Go.Bm
