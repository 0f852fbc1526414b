/- what every model of this seat refers to -/
import Derived.Test.YtnnpdlgenmnekaaGreatDoorSeExt
import Derived.Test.YtnnpdlgenmnekaaGreatDoorBmTy
set_option linter.unusedSimpArgs false
set_option linter.unusedVariables false
set_option maxRecDepth 100000
namespace Go.Bm
open Go.Proofs
def EN:List Nat:=[7,8,28,29,30,31,32,33,34,35,36,37,38,41,42,45,46,51,52,60,61,64,65,80,81,94,95,101,102,103,104,110,111,124,125,129,130,140,141,162,163,165,166,168,169,170,171,172,173,174,175,176,177,178,179,196,197,227,228,235,236,277,278,298,303,304,314,316,327,328,332,342,343]
def ownOff (t:Nat):List (Nat×Nat):=bif Nat.beq t 102 then [(3,111),(4,130)]else bif Nat.beq t 304 then [(1,228)]else bif Nat.beq t 52 then [(0,104)]else []
theorem eqOk:∀t∈EN,Tryz.prog.stoodInHeld t=false:=by decide+kernel
theorem CI:Tryz.prog.follows .mixedOrders=true:=by kernel_rfl
def dd:Nat->List TS
 |0=>[]
 |n+1=> .vD::dd n
end Go.Bm
