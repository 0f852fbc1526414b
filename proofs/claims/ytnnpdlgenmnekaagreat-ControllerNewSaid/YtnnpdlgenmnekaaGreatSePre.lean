/- what every model of this seat refers to -/
import Derived.Test.YtnnpdlgenmnekaaGreatSeExt
import Derived.Test.YtnnpdlgenmnekaaGreatBmRd
set_option linter.unusedSimpArgs false
set_option linter.unusedVariables false
set_option maxRecDepth 100000
namespace Go.Bm
open Go.Proofs
def HC:List Nat:=[7,8,23,24,25,26,27,28,29,36,46,47,48,49,51,52,53,55,56,64,65,70,71,73,74,76,77,78,81,82,84,85,86,87,88,89,90,91,92,93,94,95,102,103,125,126,135,136,139,140,171,172,196,197,203,204,218,219,264,265,275,276,287]
def ownOff (t:Nat):List (Nat×Nat):=bif Nat.beq t 172 then [(3,140),(4,136)]else bif Nat.beq t 276 then [(1,219)]else bif Nat.beq t 85 then [(0,126)]else []
def Qsr (t:Nat):List (Nat×Nat):=bif Nat.beq t 82 then [(3,140),(4,136)]else bif Nat.beq t 24 then [(9,3)]else ownOff t
theorem eqOk:∀t∈HC,Tryz.prog.stoodInHeld t=false:=by decide+kernel
theorem Gj:Tryz.prog.follows .mixedOrders=true:=by kernel_rfl
def dd:Nat->List TS
 |0=>[]
 |n+1=> .dead::dd n
end Go.Bm
