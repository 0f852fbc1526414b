/- a law's loop in which a slice in a row's cell grows: its code, in parts -/
import Derived.Test.YtnnpdlgenmnekaaGreatDoorSeFmB
import Derived.Test.YtnnpdlgenmnekaaGreatDoorMx2
set_option linter.unusedVariables false
set_option linter.unusedSimpArgs false
set_option maxRecDepth 100000
noncomputable section
namespace Go.Bm
open Go.Proofs Go.RowKit
def b1C:Code:=KZ Tryz.prog 7 1
def cS8:Code:=cs1 b1C
def cX9:Code:=cs1 (cs2 b1C)
def IF:Code:=cs1 (cs2 (cs2 b1C))
def cTl:Code:=cs2 (cs2 (cs2 b1C))
def Hy:Code:=cs1 cTl
def HA:Code:=cs1 (cs2 cTl)
def cB2:Code:=cs2 (cs2 cTl)
def cL2:Code:=cbd (cbd cB2)
def JN:Code:=cs1 cL2
def cB3:Code:=cbd (cs1 (cs2 (cs2 cL2)))
def MX:Code:=cs2 (cs2 (cs2 cL2))
def Kg:Code:=cs1 cB3
def cS16:Code:=cs2 cB3
theorem Pg:b1C= .seq cS8 (.seq cX9 (.seq IF (.seq Hy (.seq HA (.block 2 (.loop cL2)))))):=by kernel_rfl
theorem KT:cL2= .seq JN (.seq (.cond (.tmp 82) .skip (.exit 2)) (.seq (.block 3 (.seq Kg cS16)) MX)):=by kernel_rfl
theorem Ty:cS16= .region 16 (BR cS16) true:=by kernel_rfl
end Go.Bm
