/- what every model of this seat refers to -/
import Derived.Test.YtdllaekpkcanbaaSeExt
set_option linter.unusedSimpArgs false
set_option linter.unusedVariables false
set_option maxRecDepth 100000
namespace Go.Bm
open Go.Proofs
def Qbw : List Nat := [7, 8, 22, 23, 30, 31, 32, 33, 40, 50, 51, 53, 54, 55, 60, 61, 73, 74, 78, 79, 98, 99, 101, 102, 113, 114, 124, 125, 133, 134, 137, 138, 152, 153, 170, 171, 199]
def ownOff (t : Nat) : List (Nat × Nat) := bif Nat.beq t 125 then [(3, 74), (4, 79)] else bif Nat.beq t 153 then [(1, 99)] else bif Nat.beq t 61 then [(0, 114)] else []
theorem eqOk : ∀ t ∈ Qbw, Try.prog.stoodInHeld t = false := by decide +kernel
theorem Qbo : Try.prog.follows .mixedOrders = true := by kernel_rfl
def dd : Nat -> List TS
 | 0 => []
 | n + 1 => .dead :: dd n
end Go.Bm
