/- a law's awake function, run once -/
import Derived.Test.YtdllaekpkcanbaaSeAw0
set_option linter.unusedSimpArgs false
set_option linter.unusedVariables false
set_option maxRecDepth 100000
namespace Go.Bm
open Go.Proofs
def Qml : Sk := { tmps := [], boxes := [], rows := [] }
def Qlr : Sk := { tmps := [TS.v false [CS.bool]], boxes := [], rows := [] }
noncomputable def Qhy : List AC -> Option (List AC) := Qau Try.prog CA 400 31 Qml Qlr
theorem r_cnclaw29_awake : Qbt Try.prog (31, spOf Qml Qlr Qhy) := Qa5 (by kernel_rfl) (FnOK.bare rfl rfl rfl) spCA eqOk Qbj (by kernel_rfl) (by kernel_rfl)
theorem m_cnclaw29_awake_eq : Qhy [] = some [.bool true] := by kernel_rfl
end Go.Bm
