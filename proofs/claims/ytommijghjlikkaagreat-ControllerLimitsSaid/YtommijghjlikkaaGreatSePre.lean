/- what every model of this seat refers to -/
import Derived.Test.YtommijghjlikkaaGreatSeExt
import Derived.Test.YtommijghjlikkaaGreatBmTy
set_option linter.unusedSimpArgs false
set_option linter.unusedVariables false
set_option maxRecDepth 100000
namespace Go.Bm
open Go.Proofs
def KM:List Nat:=[7,8,25,26,27,28,29,30,31,44,45,46,49,50,54,57,58,61,62,68,69,71,72,73,74,75,76,86,87,91,92,96,97,102,103,112,113,114,115,116,117,118,119,129,130,134,135,141,142,161,162,184,185,230,231,242,244,253,254,270]
def ownOff (t:Nat):List (Nat×Nat):=bif Nat.beq t 142 then [(3,162),(4,76)]else bif Nat.beq t 254 then [(1,231)]else bif Nat.beq t 62 then [(0,135)]else []
def Zvm (t:Nat):List (Nat×Nat):=bif Nat.beq t 58 then [(3,162),(4,76)]else bif Nat.beq t 26 then [(9,3)]else ownOff t
theorem eqOk:∀t∈KM,Tryz.prog.stoodInHeld t=false:=by decide+kernel
theorem GA:Tryz.prog.follows .mixedOrders=true:=by kernel_rfl
def dd:Nat->List TS
 |0=>[]
 |n+1=> .vD::dd n
end Go.Bm
