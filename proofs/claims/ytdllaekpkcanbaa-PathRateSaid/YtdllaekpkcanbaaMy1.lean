/- functions of the program and of the references, as models -/
import Derived.Test.YtdllaekpkcanbaaMx1
import Derived.Test.YtdllaekpkcanbaaSeAw0
import Derived.Test.YtdllaekpkcanbaaSeSq
import Derived.Test.YtdllaekpkcanbaaSeAw25
set_option linter.unusedSimpArgs false
set_option linter.unusedVariables false
set_option maxRecDepth 100000
namespace Go.Bm
open Go.Proofs
def sig_cnclaw25_PathRate : Sk := { tmps := [TS.v true [CS.int .i64, CS.int .i64, CS.int .i64, CS.int .i64, CS.int .i64, CS.int .i64, CS.int .i64, CS.int .i64, CS.int .i64, CS.int .i64, CS.int .i64, CS.int .i64, CS.int .i64, CS.bool, CS.int .i64, CS.bool, CS.int .i64, CS.int .i64, CS.int .i64, CS.int .i64, CS.int .i64, CS.bool], TS.v false [CS.int .i64]], boxes := [], rows := [] }
def osig_cnclaw25_PathRate : Sk := { tmps := [TS.v false [CS.bool]], boxes := [], rows := [] }
noncomputable def C_cnclaw25_PathRate_0 (M_cncref25_Rate : List AC → Option (List AC)) (M_path_Rate : List AC → Option (List AC)) (M_cnclaw25_awake : List AC → Option (List AC)) : Cfg := { spec := lookS [(51, spOf sig_cncref25_Rate osig_cncref25_Rate M_cncref25_Rate), (50, spOf sig_path_Rate osig_path_Rate M_path_Rate), (42, spOf sig_cnclaw25_awake osig_cnclaw25_awake M_cnclaw25_awake)], eqOk := eqAll, ownOff := ownOff }
noncomputable def mf_cnclaw25_PathRate (M_cncref25_Rate : List AC → Option (List AC)) (M_path_Rate : List AC → Option (List AC)) (M_cnclaw25_awake : List AC → Option (List AC))  : List AC → Option (List AC) := modelF Try.prog (C_cnclaw25_PathRate_0 M_cncref25_Rate M_path_Rate M_cnclaw25_awake) 64 12 sig_cnclaw25_PathRate osig_cnclaw25_PathRate
theorem mf_cnclaw25_PathRate_eq (M_cncref25_Rate : List AC → Option (List AC)) (M_path_Rate : List AC → Option (List AC)) (M_cnclaw25_awake : List AC → Option (List AC))  (x0 : Int) (x1 : Int) (x2 : Int) (x3 : Int) (x4 : Int) (x5 : Int) (x6 : Int) (x7 : Int) (x8 : Int) (x9 : Int) (x10 : Int) (x11 : Int) (x12 : Int) (x13 : Bool) (x14 : Int) (x15 : Bool) (x16 : Int) (x17 : Int) (x18 : Int) (x19 : Int) (x20 : Int) (x21 : Bool) (x22 : Int) : mf_cnclaw25_PathRate M_cncref25_Rate M_path_Rate M_cnclaw25_awake  [AC.int .i64 x0, AC.int .i64 x1, AC.int .i64 x2, AC.int .i64 x3, AC.int .i64 x4, AC.int .i64 x5, AC.int .i64 x6, AC.int .i64 x7, AC.int .i64 x8, AC.int .i64 x9, AC.int .i64 x10, AC.int .i64 x11, AC.int .i64 x12, AC.bool x13, AC.int .i64 x14, AC.bool x15, AC.int .i64 x16, AC.int .i64 x17, AC.int .i64 x18, AC.int .i64 x19, AC.int .i64 x20, AC.bool x21, AC.int .i64 x22] =
  (M_cnclaw25_awake []).bind fun o3 =>
  bif !boolOf (nth AC.dead o3 0) then
   some [AC.bool false]
  else
   bif decide (x14 < 0) then
    some [AC.bool true]
   else
    bif decide (x14 > 60000000) then
     some [AC.bool true]
    else
     bif decide (x22 < 0) then
      some [AC.bool true]
     else
      bif decide (x22 > 30000) then
       some [AC.bool true]
      else
       (M_path_Rate [AC.int IntKind.i64 x0, AC.int IntKind.i64 x1, AC.int IntKind.i64 x2, AC.int IntKind.i64 x3, AC.int IntKind.i64 x4, AC.int IntKind.i64 x5, AC.int IntKind.i64 x6, AC.int IntKind.i64 x7, AC.int IntKind.i64 x8, AC.int IntKind.i64 x9, AC.int IntKind.i64 x10, AC.int IntKind.i64 x11, AC.int IntKind.i64 x12, AC.bool x13, AC.int IntKind.i64 x14, AC.bool x15, AC.int IntKind.i64 x16, AC.int IntKind.i64 x17, AC.int IntKind.i64 x18, AC.int IntKind.i64 x19, AC.int IntKind.i64 x20, AC.bool x21, AC.int IntKind.i64 x22]).bind fun o4 =>
       (M_cncref25_Rate [AC.int IntKind.i64 x0, AC.int IntKind.i64 x1, AC.int IntKind.i64 x2, AC.int IntKind.i64 x3, AC.int IntKind.i64 x4, AC.int IntKind.i64 x5, AC.int IntKind.i64 x6, AC.int IntKind.i64 x7, AC.int IntKind.i64 x8, AC.int IntKind.i64 x9, AC.int IntKind.i64 x10, AC.int IntKind.i64 x11, AC.int IntKind.i64 x12, AC.bool x13, AC.int IntKind.i64 x14, AC.bool x15, AC.int IntKind.i64 x16, AC.int IntKind.i64 x17, AC.int IntKind.i64 x18, AC.int IntKind.i64 x19, AC.int IntKind.i64 x20, AC.bool x21, AC.int IntKind.i64 x22]).bind fun o5 =>
       some [AC.bool (intOf (nth AC.dead o4 0) == intOf (nth AC.dead o5 0))] := by kernel_rfl
noncomputable def m_cnclaw25_PathRate := mf_cnclaw25_PathRate m_cncref25_Rate m_path_Rate m_cnclaw25_awake 
theorem sp_cnclaw25_PathRate : SpecOK Try.prog (C_cnclaw25_PathRate_0 m_cncref25_Rate m_path_Rate m_cnclaw25_awake) := specOK_of rfl ⟨r_cncref25_Rate, r_path_Rate, r_cnclaw25_awake, trivial⟩
theorem r_cnclaw25_PathRate : RowOK Try.prog (12, spOf sig_cnclaw25_PathRate osig_cnclaw25_PathRate m_cnclaw25_PathRate) := row_of (C := (C_cnclaw25_PathRate_0 m_cncref25_Rate m_path_Rate m_cnclaw25_awake)) (L := 64) (sig := sig_cnclaw25_PathRate) (osig := osig_cnclaw25_PathRate) (by kernel_rfl) (FnOK.bare rfl rfl rfl) sp_cnclaw25_PathRate eqOk mixOk (by kernel_rfl) (by kernel_rfl)
theorem c_cnclaw25_PathRate : ∀ (args : List TV) (v : TV) (mem : Mem), (spOf sig_cnclaw25_PathRate osig_cnclaw25_PathRate m_cnclaw25_PathRate (TV × Mem) args ⟨[], []⟩ fun v m => some (v, m)) = some (v, mem) → PCallM Try.prog 12 args ⟨[], []⟩ v mem := fun args v mem h => callM_of (f := 12) (C := (C_cnclaw25_PathRate_0 m_cncref25_Rate m_path_Rate m_cnclaw25_awake)) (L := 64) (sig := sig_cnclaw25_PathRate) (osig := osig_cnclaw25_PathRate) (by kernel_rfl) (FnOK.bare rfl rfl rfl) sp_cnclaw25_PathRate eqOk mixOk (by kernel_rfl) (by kernel_rfl) args v mem h
end Go.Bm
