/- what every model of this seat refers to -/
import Derived.Test.YtdllaekpkcanbaaGreatSeExt
set_option linter.unusedSimpArgs false
set_option linter.unusedVariables false
set_option maxRecDepth 100000
namespace Go.Bm
open Go.Proofs
def Qb2 : List Nat := [7, 8, 24, 25, 28, 29, 30, 31, 32, 34, 35, 36, 37, 51, 52, 56, 64, 65, 66, 67, 68, 77, 78, 79, 80, 84, 85, 107, 108, 121, 122, 124, 125, 153, 154, 173, 174, 186, 187, 200]
def ownOff (t : Nat) : List (Nat × Nat) := bif Nat.beq t 108 then [(3, 78), (4, 80)] else bif Nat.beq t 187 then [(1, 154)] else bif Nat.beq t 35 then [(0, 85)] else []
def ownOffX (t : Nat) : List (Nat × Nat) := bif Nat.beq t 29 then [(3, 78), (4, 80)] else bif Nat.beq t 31 then [(9, 3)] else ownOff t
theorem eqOk : ∀ t ∈ Qb2, Tryz.prog.stoodInHeld t = false := by decide +kernel
theorem Qa9 : Tryz.prog.follows .mixedOrders = true := by kernel_rfl
def dd : Nat -> List TS
 | 0 => []
 | n + 1 => .dead :: dd n
end Go.Bm
