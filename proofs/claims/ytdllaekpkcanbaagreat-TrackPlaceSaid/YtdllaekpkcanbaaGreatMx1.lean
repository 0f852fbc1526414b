/- functions of the program and of the references, as models -/
import Derived.Test.YtdllaekpkcanbaaGreatSeShelf
import Derived.Test.YtdllaekpkcanbaaGreatSeExt
import Derived.Test.YtdllaekpkcanbaaGreatSePre
import Derived.Test.YtdllaekpkcanbaaGreatBmTy
set_option linter.unusedSimpArgs false
set_option linter.unusedVariables false
set_option maxRecDepth 100000
namespace Go.Bm
open Go.Proofs
def sig_cncref29_add : Sk := { tmps := [TS.v false [CS.ptr 20000 0], TS.v true [CS.int .i64, CS.int .i64, CS.int .i64, CS.int .i64, CS.int .i64, CS.int .i64, CS.int .i64, CS.int .i64, CS.int .i64, CS.int .i64]], boxes := [(20000, 35, [CS.own 20000 10, CS.int .i64, CS.int .i64, CS.int .i64, CS.int .i64, CS.int .i64])], rows := [(20000, 85, kPce)] }
def osig_cncref29_add : Sk := { tmps := [TS.tup []], boxes := [(20000, 35, [CS.own 20000 10, CS.int .i64, CS.int .i64, CS.int .i64, CS.int .i64, CS.int .i64])], rows := [(20000, 85, kPce)] }
noncomputable def C_cncref29_add_0  : Cfg := { spec := lookS [], eqOk := eqAll, ownOff := ownOff }
noncomputable def mf_cncref29_add   : List AC → Option (List AC) := modelF Tryz.prog C_cncref29_add_0 64 69 sig_cncref29_add osig_cncref29_add
theorem mf_cncref29_add_eq   (x0 : List (List AC)) (x1 x2 x3 x4 x5 x6 x7 x8 x9 x10 x11 x12 x13 x14 x15 : Int) : mf_cncref29_add   [AC.view kPce x0, I x1, I x2, I x3, I x4, I x5, I x6, I x7, I x8, I x9, I x10, I x11, I x12, I x13, I x14, I x15] =
 bif decide ((↑x0.length : Int) > 0) then
 bif x4 != 0 then
 bif decide (0 ≤ IntKind.i64.wrap ((↑x0.length : Int) - 1)) && decide (IntKind.i64.wrap ((↑x0.length : Int) - 1) < (↑x0.length : Int)) then
 bif intOf (nth .dead (nth [] x0 (IntKind.i64.wrap ((↑x0.length : Int) - 1)).toNat) 3) == x4 then
 bif decide (0 ≤ IntKind.i64.wrap ((↑x0.length : Int) - 1)) && decide (IntKind.i64.wrap ((↑x0.length : Int) - 1) < (↑x0.length : Int)) then
 bif intOf (nth .dead (nth [] x0 (IntKind.i64.wrap ((↑x0.length : Int) - 1)).toNat) 7) == x8 && (intOf (nth .dead (nth [] x0 (IntKind.i64.wrap ((↑x0.length : Int) - 1)).toNat) 8) == x9 && (intOf (nth .dead (nth [] x0 (IntKind.i64.wrap ((↑x0.length : Int) - 1)).toNat) 9) == x10 && true)) then
 bif decide (0 ≤ IntKind.i64.wrap ((↑x0.length : Int) - 1)) && decide (IntKind.i64.wrap ((↑x0.length : Int) - 1) < (↑x0.length : Int)) then
 bif decide (0 ≤ IntKind.i64.wrap ((↑x0.length : Int) - 1)) && decide (IntKind.i64.wrap ((↑x0.length : Int) - 1) < (↑x0.length : Int)) then
 some [AC.view kPce (x0.set (IntKind.i64.wrap ((↑x0.length : Int) - 1)).toNat [I (intOf (nth .dead (nth [] x0 (IntKind.i64.wrap ((↑x0.length : Int) - 1)).toNat) 0)), I (IntKind.i64.wrap (intOf (nth .dead (nth [] x0 (IntKind.i64.wrap ((↑x0.length : Int) - 1)).toNat) 1) + x2)), I (intOf (nth .dead (nth [] x0 (IntKind.i64.wrap ((↑x0.length : Int) - 1)).toNat) 2)), I (intOf (nth .dead (nth [] x0 (IntKind.i64.wrap ((↑x0.length : Int) - 1)).toNat) 3)), I (intOf (nth .dead (nth [] x0 (IntKind.i64.wrap ((↑x0.length : Int) - 1)).toNat) 4)), I (intOf (nth .dead (nth [] x0 (IntKind.i64.wrap ((↑x0.length : Int) - 1)).toNat) 5)), I (intOf (nth .dead (nth [] x0 (IntKind.i64.wrap ((↑x0.length : Int) - 1)).toNat) 6)), I (intOf (nth .dead (nth [] x0 (IntKind.i64.wrap ((↑x0.length : Int) - 1)).toNat) 7)), I (intOf (nth .dead (nth [] x0 (IntKind.i64.wrap ((↑x0.length : Int) - 1)).toNat) 8)), I (intOf (nth .dead (nth [] x0 (IntKind.i64.wrap ((↑x0.length : Int) - 1)).toNat) 9))]), I (IntKind.i64.wrap (x11 + x2)), I x12, I x13, I x14, I x15]
 else
 none
 else
 none
 else
 bif ((x0 ++ [[I x11, I x2, I x3, I x4, I x5, I x6, I x7, I x8, I x9, I x10]]).length * 80).ble 140737488355328 then
 some [AC.view kPce (x0 ++ [[I x11, I x2, I x3, I x4, I x5, I x6, I x7, I x8, I x9, I x10]]), I (IntKind.i64.wrap (x11 + x2)), I x12, I x13, I x14, I x15]
 else
 none
 else
 none
 else
 bif ((x0 ++ [[I x11, I x2, I x3, I x4, I x5, I x6, I x7, I x8, I x9, I x10]]).length * 80).ble 140737488355328 then
 some [AC.view kPce (x0 ++ [[I x11, I x2, I x3, I x4, I x5, I x6, I x7, I x8, I x9, I x10]]), I (IntKind.i64.wrap (x11 + x2)), I x12, I x13, I x14, I x15]
 else
 none
 else
 none
 else
 bif ((x0 ++ [[I x11, I x2, I x3, I x4, I x5, I x6, I x7, I x8, I x9, I x10]]).length * 80).ble 140737488355328 then
 some [AC.view kPce (x0 ++ [[I x11, I x2, I x3, I x4, I x5, I x6, I x7, I x8, I x9, I x10]]), I (IntKind.i64.wrap (x11 + x2)), I x12, I x13, I x14, I x15]
 else
 none
 else
 bif ((x0 ++ [[I x11, I x2, I x3, I x4, I x5, I x6, I x7, I x8, I x9, I x10]]).length * 80).ble 140737488355328 then
 some [AC.view kPce (x0 ++ [[I x11, I x2, I x3, I x4, I x5, I x6, I x7, I x8, I x9, I x10]]), I (IntKind.i64.wrap (x11 + x2)), I x12, I x13, I x14, I x15]
 else
 none := by kernel_rfl
noncomputable def m_cncref29_add := mf_cncref29_add  
theorem sp_cncref29_add : SpecOK Tryz.prog (C_cncref29_add_0 ) := specOK_of rfl trivial
theorem r_cncref29_add : RowOK Tryz.prog (69, spOf sig_cncref29_add osig_cncref29_add m_cncref29_add) := row_of (C := C_cncref29_add_0) (L := 64) (sig := sig_cncref29_add) (osig := osig_cncref29_add) (by kernel_rfl) (FnOK.bare rfl rfl rfl) sp_cncref29_add eqOk mixOk (by kernel_rfl) (by kernel_rfl)
def sig_cncref29_slack : Sk := { tmps := [TS.v true [CS.int .i64, CS.int .i64, CS.int .i64, CS.int .i64, CS.int .i64, CS.int .i64, CS.int .i64, CS.int .i64, CS.int .i64, CS.sl kInts, CS.int .i64, CS.int .i64, CS.int .i64, CS.int .i64, CS.int .i64, CS.int .i64, CS.int .i64, CS.int .i64, CS.int .i64, CS.sl kInts, CS.int .i64, CS.int .i64, CS.int .i64, CS.int .i64, CS.int .i64, CS.int .i64, CS.int .i64, CS.int .i64, CS.int .i64, CS.sl kInts], TS.v true [CS.int .i64, CS.int .i64, CS.int .i64], TS.v true [CS.int .i64, CS.int .i64, CS.int .i64]], boxes := [], rows := [] }
def osig_cncref29_slack : Sk := { tmps := [TS.v false [CS.int .i64]], boxes := [], rows := [] }
noncomputable def C_cncref29_slack_0  : Cfg := { spec := lookS [], eqOk := eqAll, ownOff := ownOff, unroll := [3] }
noncomputable def mf_cncref29_slack   : List AC → Option (List AC) := modelF Tryz.prog C_cncref29_slack_0 64 68 sig_cncref29_slack osig_cncref29_slack
theorem mf_cncref29_slack_eq   (x0 x1 x2 x3 x4 x5 x6 x7 x8 : Int) (x9 : List (List AC)) (x10 x11 x12 x13 x14 x15 x16 x17 x18 : Int) (x19 : List (List AC)) (x20 x21 x22 x23 x24 x25 x26 x27 x28 : Int) (x29 : List (List AC)) (x30 x31 x32 x33 x34 x35 : Int) : mf_cncref29_slack   [I x0, I x1, I x2, I x3, I x4, I x5, I x6, I x7, I x8, AC.view kInts x9, I x10, I x11, I x12, I x13, I x14, I x15, I x16, I x17, I x18, AC.view kInts x19, I x20, I x21, I x22, I x23, I x24, I x25, I x26, I x27, I x28, AC.view kInts x29, I x30, I x31, I x32, I x33, I x34, I x35] =
 bif x30 != x33 then
 bif x31 != x34 then
 bif x32 != x35 then
 some [I (mx (mx (mx 0 x6) x16) x26)]
 else
 some [I (mx (mx 0 x6) x16)]
 else
 bif x32 != x35 then
 some [I (mx (mx 0 x6) x26)]
 else
 some [I (mx 0 x6)]
 else
 bif x31 != x34 then
 bif x32 != x35 then
 some [I (mx (mx 0 x16) x26)]
 else
 some [I (mx 0 x16)]
 else
 bif x32 != x35 then
 some [I (mx 0 x26)]
 else
 some [I 0] := by kernel_rfl
noncomputable def m_cncref29_slack := mf_cncref29_slack  
theorem sp_cncref29_slack : SpecOK Tryz.prog (C_cncref29_slack_0 ) := specOK_of rfl trivial
theorem r_cncref29_slack : RowOK Tryz.prog (68, spOf sig_cncref29_slack osig_cncref29_slack m_cncref29_slack) := row_of (C := C_cncref29_slack_0) (L := 64) (sig := sig_cncref29_slack) (osig := osig_cncref29_slack) (by kernel_rfl) (FnOK.bare rfl rfl rfl) sp_cncref29_slack eqOk mixOk (by kernel_rfl) (by kernel_rfl)
def sig_cncref25_Begin : Sk := { tmps := [TS.v true [CS.int .i64, CS.int .i64, CS.int .i64, CS.sl kSgm, CS.sl kPt], TS.v false [CS.int .i64]], boxes := [], rows := [] }
def osig_cncref25_Begin : Sk := { tmps := [TS.v true [CS.int .i64, CS.int .i64, CS.int .i64]], boxes := [], rows := [] }
noncomputable def C_cncref25_Begin_0  : Cfg := { spec := lookS [], eqOk := eqAll, ownOff := ownOff }
noncomputable def mf_cncref25_Begin   : List AC → Option (List AC) := modelF Tryz.prog C_cncref25_Begin_0 64 71 sig_cncref25_Begin osig_cncref25_Begin
theorem mf_cncref25_Begin_eq   (x0 x1 x2 : Int) (x3 x4 : List (List AC)) (x5 : Int) : mf_cncref25_Begin   [I x0, I x1, I x2, AC.view kSgm x3, AC.view kPt x4, I x5] =
 bif decide (x5 ≤ 0) then
 some [I x0, I x1, I x2]
 else
 bif decide (0 ≤ IntKind.i64.wrap (x5 - 1)) && decide (IntKind.i64.wrap (x5 - 1) < (↑x3.length : Int)) then
 some [I (intOf (nth .dead (nth [] x3 (IntKind.i64.wrap (x5 - 1)).toNat) 0)), I (intOf (nth .dead (nth [] x3 (IntKind.i64.wrap (x5 - 1)).toNat) 1)), I (intOf (nth .dead (nth [] x3 (IntKind.i64.wrap (x5 - 1)).toNat) 2))]
 else
 none := by kernel_rfl
noncomputable def m_cncref25_Begin := mf_cncref25_Begin  
theorem sp_cncref25_Begin : SpecOK Tryz.prog (C_cncref25_Begin_0 ) := specOK_of rfl trivial
theorem r_cncref25_Begin : RowOK Tryz.prog (71, spOf sig_cncref25_Begin osig_cncref25_Begin m_cncref25_Begin) := row_of (C := C_cncref25_Begin_0) (L := 64) (sig := sig_cncref25_Begin) (osig := osig_cncref25_Begin) (by kernel_rfl) (FnOK.bare rfl rfl rfl) sp_cncref25_Begin eqOk mixOk (by kernel_rfl) (by kernel_rfl)
def sig_cncref29_facing : Sk := { tmps := [TS.v true [CS.int .i64, CS.int .i64, CS.int .i64, CS.sl kSgm, CS.sl kPt], TS.v true [CS.int .i64, CS.int .i64, CS.int .i64], TS.v false [CS.int .i64], TS.v false [CS.int .i64]], boxes := [], rows := [] }
def osig_cncref29_facing : Sk := { tmps := [TS.v true [CS.int .i64, CS.int .i64, CS.int .i64]], boxes := [], rows := [] }
noncomputable def C_cncref29_facing_0 (M_cncref25_Begin : List AC → Option (List AC)) : Cfg := { spec := lookS [(71, spOf sig_cncref25_Begin osig_cncref25_Begin M_cncref25_Begin)], eqOk := eqAll, ownOff := ownOff, unroll := [3] }
noncomputable def mf_cncref29_facing (M_cncref25_Begin : List AC → Option (List AC))  : List AC → Option (List AC) := modelF Tryz.prog (C_cncref29_facing_0 M_cncref25_Begin) 64 67 sig_cncref29_facing osig_cncref29_facing
theorem mf_cncref29_facing_eq (M_cncref25_Begin : List AC → Option (List AC))  (x0 x1 x2 : Int) (x3 x4 : List (List AC)) (x5 x6 x7 x8 x9 : Int) : mf_cncref29_facing M_cncref25_Begin  [I x0, I x1, I x2, AC.view kSgm x3, AC.view kPt x4, I x5, I x6, I x7, I x8, I x9] =
 (M_cncref25_Begin [I x0, I x1, I x2, AC.view kSgm x3, AC.view kPt x4, I x8]).bind fun o1 =>
 bif decide (0 ≤ x8) && decide (x8 < (↑x3.length : Int)) then
 bif decide (IntKind.i64.wrap (IntKind.i64.wrap (intOf (nth .dead (nth [] x3 x8.toNat) 0) - intOf (nth .dead o1 0)) * x9) > 0) then
 bif decide (IntKind.i64.wrap (IntKind.i64.wrap (intOf (nth .dead (nth [] x3 x8.toNat) 1) - intOf (nth .dead o1 1)) * x9) > 0) then
 bif decide (IntKind.i64.wrap (IntKind.i64.wrap (intOf (nth .dead (nth [] x3 x8.toNat) 2) - intOf (nth .dead o1 2)) * x9) > 0) then
 some [I 1, I 1, I 1]
 else
 bif decide (IntKind.i64.wrap (IntKind.i64.wrap (intOf (nth .dead (nth [] x3 x8.toNat) 2) - intOf (nth .dead o1 2)) * x9) < 0) then
 some [I 1, I 1, I (-1)]
 else
 some [I 1, I 1, I x7]
 else
 bif decide (IntKind.i64.wrap (IntKind.i64.wrap (intOf (nth .dead (nth [] x3 x8.toNat) 1) - intOf (nth .dead o1 1)) * x9) < 0) then
 bif decide (IntKind.i64.wrap (IntKind.i64.wrap (intOf (nth .dead (nth [] x3 x8.toNat) 2) - intOf (nth .dead o1 2)) * x9) > 0) then
 some [I 1, I (-1), I 1]
 else
 bif decide (IntKind.i64.wrap (IntKind.i64.wrap (intOf (nth .dead (nth [] x3 x8.toNat) 2) - intOf (nth .dead o1 2)) * x9) < 0) then
 some [I 1, I (-1), I (-1)]
 else
 some [I 1, I (-1), I x7]
 else
 bif decide (IntKind.i64.wrap (IntKind.i64.wrap (intOf (nth .dead (nth [] x3 x8.toNat) 2) - intOf (nth .dead o1 2)) * x9) > 0) then
 some [I 1, I x6, I 1]
 else
 bif decide (IntKind.i64.wrap (IntKind.i64.wrap (intOf (nth .dead (nth [] x3 x8.toNat) 2) - intOf (nth .dead o1 2)) * x9) < 0) then
 some [I 1, I x6, I (-1)]
 else
 some [I 1, I x6, I x7]
 else
 bif decide (IntKind.i64.wrap (IntKind.i64.wrap (intOf (nth .dead (nth [] x3 x8.toNat) 0) - intOf (nth .dead o1 0)) * x9) < 0) then
 bif decide (IntKind.i64.wrap (IntKind.i64.wrap (intOf (nth .dead (nth [] x3 x8.toNat) 1) - intOf (nth .dead o1 1)) * x9) > 0) then
 bif decide (IntKind.i64.wrap (IntKind.i64.wrap (intOf (nth .dead (nth [] x3 x8.toNat) 2) - intOf (nth .dead o1 2)) * x9) > 0) then
 some [I (-1), I 1, I 1]
 else
 bif decide (IntKind.i64.wrap (IntKind.i64.wrap (intOf (nth .dead (nth [] x3 x8.toNat) 2) - intOf (nth .dead o1 2)) * x9) < 0) then
 some [I (-1), I 1, I (-1)]
 else
 some [I (-1), I 1, I x7]
 else
 bif decide (IntKind.i64.wrap (IntKind.i64.wrap (intOf (nth .dead (nth [] x3 x8.toNat) 1) - intOf (nth .dead o1 1)) * x9) < 0) then
 bif decide (IntKind.i64.wrap (IntKind.i64.wrap (intOf (nth .dead (nth [] x3 x8.toNat) 2) - intOf (nth .dead o1 2)) * x9) > 0) then
 some [I (-1), I (-1), I 1]
 else
 bif decide (IntKind.i64.wrap (IntKind.i64.wrap (intOf (nth .dead (nth [] x3 x8.toNat) 2) - intOf (nth .dead o1 2)) * x9) < 0) then
 some [I (-1), I (-1), I (-1)]
 else
 some [I (-1), I (-1), I x7]
 else
 bif decide (IntKind.i64.wrap (IntKind.i64.wrap (intOf (nth .dead (nth [] x3 x8.toNat) 2) - intOf (nth .dead o1 2)) * x9) > 0) then
 some [I (-1), I x6, I 1]
 else
 bif decide (IntKind.i64.wrap (IntKind.i64.wrap (intOf (nth .dead (nth [] x3 x8.toNat) 2) - intOf (nth .dead o1 2)) * x9) < 0) then
 some [I (-1), I x6, I (-1)]
 else
 some [I (-1), I x6, I x7]
 else
 bif decide (IntKind.i64.wrap (IntKind.i64.wrap (intOf (nth .dead (nth [] x3 x8.toNat) 1) - intOf (nth .dead o1 1)) * x9) > 0) then
 bif decide (IntKind.i64.wrap (IntKind.i64.wrap (intOf (nth .dead (nth [] x3 x8.toNat) 2) - intOf (nth .dead o1 2)) * x9) > 0) then
 some [I x5, I 1, I 1]
 else
 bif decide (IntKind.i64.wrap (IntKind.i64.wrap (intOf (nth .dead (nth [] x3 x8.toNat) 2) - intOf (nth .dead o1 2)) * x9) < 0) then
 some [I x5, I 1, I (-1)]
 else
 some [I x5, I 1, I x7]
 else
 bif decide (IntKind.i64.wrap (IntKind.i64.wrap (intOf (nth .dead (nth [] x3 x8.toNat) 1) - intOf (nth .dead o1 1)) * x9) < 0) then
 bif decide (IntKind.i64.wrap (IntKind.i64.wrap (intOf (nth .dead (nth [] x3 x8.toNat) 2) - intOf (nth .dead o1 2)) * x9) > 0) then
 some [I x5, I (-1), I 1]
 else
 bif decide (IntKind.i64.wrap (IntKind.i64.wrap (intOf (nth .dead (nth [] x3 x8.toNat) 2) - intOf (nth .dead o1 2)) * x9) < 0) then
 some [I x5, I (-1), I (-1)]
 else
 some [I x5, I (-1), I x7]
 else
 bif decide (IntKind.i64.wrap (IntKind.i64.wrap (intOf (nth .dead (nth [] x3 x8.toNat) 2) - intOf (nth .dead o1 2)) * x9) > 0) then
 some [I x5, I x6, I 1]
 else
 bif decide (IntKind.i64.wrap (IntKind.i64.wrap (intOf (nth .dead (nth [] x3 x8.toNat) 2) - intOf (nth .dead o1 2)) * x9) < 0) then
 some [I x5, I x6, I (-1)]
 else
 some [I x5, I x6, I x7]
 else
 none := by kernel_rfl
noncomputable def m_cncref29_facing := mf_cncref29_facing m_cncref25_Begin 
theorem sp_cncref29_facing : SpecOK Tryz.prog (C_cncref29_facing_0 m_cncref25_Begin) := specOK_of rfl ⟨r_cncref25_Begin, trivial⟩
theorem r_cncref29_facing : RowOK Tryz.prog (67, spOf sig_cncref29_facing osig_cncref29_facing m_cncref29_facing) := row_of (C := (C_cncref29_facing_0 m_cncref25_Begin)) (L := 64) (sig := sig_cncref29_facing) (osig := osig_cncref29_facing) (by kernel_rfl) (FnOK.bare rfl rfl rfl) sp_cncref29_facing eqOk mixOk (by kernel_rfl) (by kernel_rfl)
def sig_cncref25_Length : Sk := { tmps := [TS.v true [CS.int .i64, CS.int .i64, CS.int .i64, CS.sl kSgm, CS.sl kPt]], boxes := [], rows := [] }
def osig_cncref25_Length : Sk := { tmps := [TS.v false [CS.int .i64]], boxes := [], rows := [] }
noncomputable def C_cncref25_Length_0  : Cfg := { spec := lookS [], eqOk := eqAll, ownOff := ownOff }
def sk_cncref25_Length_3 : Sk := { tmps := [TS.dead, TS.dead, TS.dead, TS.v false [CS.int .i64], TS.dead, TS.dead, TS.dead, TS.v false [CS.sl kSgm], TS.v false [CS.int .i64], TS.v false [CS.int .i64]] ++ dd 9, boxes := [], rows := [] }
def ex_cncref25_Length_3 : List (Ex × Sk) := [(Ex.exit 0, { tmps := [TS.dead, TS.dead, TS.dead, TS.v false [CS.int .i64]] ++ dd 15, boxes := [], rows := [] })]
noncomputable def st_cncref25_Length_3   : List AC → Option (Nat × List AC) := stepL Tryz.prog C_cncref25_Length_0 64 3 (bodyOf Tryz.prog 25 3) sk_cncref25_Length_3 ex_cncref25_Length_3
noncomputable def C_cncref25_Length_1   (N3 : List AC → Option (Nat × List AC)) : Cfg := C_cncref25_Length_0.loop 3 sk_cncref25_Length_3 ex_cncref25_Length_3 N3
noncomputable def mf_cncref25_Length   (N3 : List AC → Option (Nat × List AC)) : List AC → Option (List AC) := modelF Tryz.prog (C_cncref25_Length_1  N3) 64 25 sig_cncref25_Length osig_cncref25_Length
theorem st_cncref25_Length_3_eq   (v0 : Int) (v1 : List (List AC)) (v2 v3 : Int) : st_cncref25_Length_3   [I v0, AC.view kSgm v1, I v2, I v3] =
 bif decide (v3 < v2) then
 bif decide (0 ≤ v3) && decide (v3 < (↑v1.length : Int)) then
 some (0, [I (IntKind.i64.wrap (v0 + intOf (nth .dead (nth [] v1 v3.toNat) 3))), AC.view kSgm v1, I v2, I (IntKind.i64.wrap (v3 + 1))])
 else
 none
 else
 some (1, [I v0]) := by kernel_rfl
theorem mf_cncref25_Length_eq   (N3 : List AC → Option (Nat × List AC)) (x0 x1 x2 : Int) (x3 x4 : List (List AC)) : mf_cncref25_Length   N3 [I x0, I x1, I x2, AC.view kSgm x3, AC.view kPt x4] =
 (N3 [I 0, AC.view kSgm x3, I (↑x3.length : Int), I 0]).bind fun o1 =>
 bif o1.fst.beq 1 then
 some [I (intOf (nth .dead o1.snd 0))]
 else
 none := by kernel_rfl
noncomputable def l_cncref25_Length_3 := loopC (st_cncref25_Length_3  )
noncomputable def m_cncref25_Length := mf_cncref25_Length   l_cncref25_Length_3
theorem sp_cncref25_Length : SpecOK Tryz.prog (C_cncref25_Length_0 ) := specOK_of rfl trivial
theorem r_cncref25_Length : RowOK Tryz.prog (25, spOf sig_cncref25_Length osig_cncref25_Length m_cncref25_Length) := row_of (C := (C_cncref25_Length_1  l_cncref25_Length_3)) (L := 64) (sig := sig_cncref25_Length) (osig := osig_cncref25_Length) (by kernel_rfl) ((FnOK.bare rfl rfl rfl).loop sp_cncref25_Length eqOk mixOk (by kernel_rfl) (by kernel_rfl)) sp_cncref25_Length eqOk mixOk (by kernel_rfl) (by kernel_rfl)
def sig_cncref29_Leg : Sk := { tmps := [TS.v true [CS.int .i64, CS.int .i64, CS.int .i64, CS.sl kSgm, CS.sl kPt], TS.v true [CS.int .i64, CS.int .i64, CS.int .i64, CS.int .i64, CS.int .i64, CS.int .i64, CS.int .i64, CS.int .i64, CS.int .i64, CS.sl kInts, CS.int .i64, CS.int .i64, CS.int .i64, CS.int .i64, CS.int .i64, CS.int .i64, CS.int .i64, CS.int .i64, CS.int .i64, CS.sl kInts, CS.int .i64, CS.int .i64, CS.int .i64, CS.int .i64, CS.int .i64, CS.int .i64, CS.int .i64, CS.int .i64, CS.int .i64, CS.sl kInts], TS.v true [CS.int .i64, CS.int .i64, CS.int .i64], TS.v false [CS.int .i64], TS.v false [CS.int .i64]], boxes := [], rows := [] }
def osig_cncref29_Leg : Sk := { tmps := [TS.v true [CS.sl kPce, CS.int .i64, CS.int .i64, CS.int .i64, CS.int .i64, CS.int .i64]], boxes := [], rows := [] }
noncomputable def C_cncref29_Leg_0 (M_cncref29_add M_cncref29_slack M_cncref29_facing M_cncref25_Length : List AC → Option (List AC)) : Cfg := { spec := lookS [(69, spOf sig_cncref29_add osig_cncref29_add M_cncref29_add), (68, spOf sig_cncref29_slack osig_cncref29_slack M_cncref29_slack), (67, spOf sig_cncref29_facing osig_cncref29_facing M_cncref29_facing), (25, spOf sig_cncref25_Length osig_cncref25_Length M_cncref25_Length)], eqOk := eqAll, pure := fun f => !(elemN [69] f), ownOff := ownOff }
def sk_cncref29_Leg_11 : Sk := { tmps := [TS.dead, TS.dead, TS.dead, TS.v false [CS.int .i64], TS.v false [CS.int .i64], TS.v false [CS.ptr 5 0], TS.v false [CS.ptr 6 0], TS.dead, TS.dead, TS.dead, TS.v false [CS.ptr 10 0], TS.dead, TS.v false [CS.ptr 12 0], TS.v false [CS.int .i64], TS.v false [CS.ptr 14 0], TS.v false [CS.int .i64], TS.dead, TS.dead, TS.dead, TS.dead, TS.dead, TS.dead, TS.dead, TS.dead, TS.dead, TS.dead, TS.dead, TS.dead, TS.dead, TS.dead, TS.dead, TS.dead, TS.dead, TS.dead, TS.dead, TS.dead, TS.dead, TS.dead, TS.dead, TS.dead, TS.dead, TS.dead, TS.dead, TS.dead, TS.dead, TS.dead, TS.v false [CS.int .i64], TS.v false [CS.int .i64]] ++ dd 72, boxes := [(5, 29, [CS.int .i64, CS.int .i64, CS.int .i64, CS.sl kSgm, CS.sl kPt]), (6, 32, [CS.int .i64, CS.int .i64, CS.int .i64, CS.int .i64, CS.int .i64, CS.int .i64, CS.int .i64, CS.int .i64, CS.int .i64, CS.sl kInts, CS.int .i64, CS.int .i64, CS.int .i64, CS.int .i64, CS.int .i64, CS.int .i64, CS.int .i64, CS.int .i64, CS.int .i64, CS.sl kInts, CS.int .i64, CS.int .i64, CS.int .i64, CS.int .i64, CS.int .i64, CS.int .i64, CS.int .i64, CS.int .i64, CS.int .i64, CS.sl kInts]), (10, 35, [CS.own 1010000 10, CS.int .i64, CS.int .i64, CS.int .i64, CS.int .i64, CS.int .i64]), (12, 35, [CS.own 1012000 10, CS.int .i64, CS.int .i64, CS.int .i64, CS.int .i64, CS.int .i64]), (14, 24, [CS.int .i64, CS.int .i64, CS.int .i64])], rows := [(1010000, 85, kPce), (1012000, 85, kPce)] }
def ex_cncref29_Leg_11 : List (Ex × Sk) := [(Ex.exit 0, { tmps := [TS.dead, TS.dead, TS.dead, TS.dead, TS.dead, TS.dead, TS.dead, TS.dead, TS.dead, TS.dead, TS.v false [CS.ptr 10 0], TS.dead, TS.v false [CS.ptr 12 0]] ++ dd 107, boxes := [(10, 35, [CS.own 1010000 10, CS.int .i64, CS.int .i64, CS.int .i64, CS.int .i64, CS.int .i64]), (12, 35, [CS.own 1012000 10, CS.int .i64, CS.int .i64, CS.int .i64, CS.int .i64, CS.int .i64])], rows := [(1010000, 85, kPce), (1012000, 85, kPce)] })]
noncomputable def st_cncref29_Leg_11 (M_cncref29_add M_cncref29_slack M_cncref29_facing M_cncref25_Length : List AC → Option (List AC))  : List AC → Option (Nat × List AC) := stepL Tryz.prog (C_cncref29_Leg_0 M_cncref29_add M_cncref29_slack M_cncref29_facing M_cncref25_Length) 64 11 (bodyOf Tryz.prog 27 11) sk_cncref29_Leg_11 ex_cncref29_Leg_11
noncomputable def C_cncref29_Leg_1 (M_cncref29_add M_cncref29_slack M_cncref29_facing M_cncref25_Length : List AC → Option (List AC))  (N11 : List AC → Option (Nat × List AC)) : Cfg := (C_cncref29_Leg_0 M_cncref29_add M_cncref29_slack M_cncref29_facing M_cncref25_Length).loop 11 sk_cncref29_Leg_11 ex_cncref29_Leg_11 N11
noncomputable def mf_cncref29_Leg (M_cncref29_add M_cncref29_slack M_cncref29_facing M_cncref25_Length : List AC → Option (List AC))  (N11 : List AC → Option (Nat × List AC)) : List AC → Option (List AC) := modelF Tryz.prog (C_cncref29_Leg_1 M_cncref29_add M_cncref29_slack M_cncref29_facing M_cncref25_Length N11) 64 27 sig_cncref29_Leg osig_cncref29_Leg
theorem st_cncref29_Leg_11_eq (M_cncref29_add M_cncref29_slack M_cncref29_facing M_cncref25_Length : List AC → Option (List AC))  (v0 v1 : List (List AC)) (v2 v3 v4 v5 v6 v7 v8 v9 v10 : Int) (v11 v12 : List (List AC)) (v13 v14 v15 v16 v17 v18 v19 v20 v21 : Int) (v22 : List (List AC)) (v23 v24 v25 v26 v27 v28 v29 v30 v31 : Int) (v32 : List (List AC)) (v33 v34 v35 v36 v37 v38 v39 v40 v41 : Int) (v42 : List (List AC)) (v43 v44 v45 v46 v47 v48 v49 v50 v51 v52 v53 v54 v55 : Int) : st_cncref29_Leg_11 M_cncref29_add M_cncref29_slack M_cncref29_facing M_cncref25_Length  [AC.view kPce v0, AC.view kPce v1, I v2, I v3, I v4, I v5, I v6, I v7, I v8, I v9, I v10, AC.view kSgm v11, AC.view kPt v12, I v13, I v14, I v15, I v16, I v17, I v18, I v19, I v20, I v21, AC.view kInts v22, I v23, I v24, I v25, I v26, I v27, I v28, I v29, I v30, I v31, AC.view kInts v32, I v33, I v34, I v35, I v36, I v37, I v38, I v39, I v40, I v41, AC.view kInts v42, I v43, I v44, I v45, I v46, I v47, I v48, I v49, I v50, I v51, I v52, I v53, I v54, I v55] =
 bif decide (v7 < v6) then
 bif decide (v4 < 0) then
 bif decide (0 ≤ IntKind.i64.wrap (IntKind.i64.wrap ((↑v11.length : Int) - 1) - v7)) && decide (IntKind.i64.wrap (IntKind.i64.wrap ((↑v11.length : Int) - 1) - v7) < (↑v11.length : Int)) then
 bif decide (mx (mn v5 (IntKind.i64.wrap (v5 + IntKind.i64.wrap (v4 * intOf (nth .dead (nth [] v11 (IntKind.i64.wrap (IntKind.i64.wrap ((↑v11.length : Int) - 1) - v7)).toNat) 3))))) (mn v2 v3) < mn (mx v5 (IntKind.i64.wrap (v5 + IntKind.i64.wrap (v4 * intOf (nth .dead (nth [] v11 (IntKind.i64.wrap (IntKind.i64.wrap ((↑v11.length : Int) - 1) - v7)).toNat) 3))))) (mx v2 v3)) then
 (M_cncref29_facing [I v8, I v9, I v10, AC.view kSgm v11, AC.view kPt v12, I v53, I v54, I v55, I (IntKind.i64.wrap (IntKind.i64.wrap ((↑v11.length : Int) - 1) - v7)), I v4]).bind fun o22 =>
 bif decide (v4 < 0) then
 (M_cncref29_slack [I v13, I v14, I v15, I v16, I v17, I v18, I v19, I v20, I v21, AC.view kInts v22, I v23, I v24, I v25, I v26, I v27, I v28, I v29, I v30, I v31, AC.view kInts v32, I v33, I v34, I v35, I v36, I v37, I v38, I v39, I v40, I v41, AC.view kInts v42, I v53, I v54, I v55, I (intOf (nth .dead o22 0)), I (intOf (nth .dead o22 1)), I (intOf (nth .dead o22 2))]).bind fun o23 =>
 bif decide (intOf (nth .dead o23 0) > 0) then
 (M_cncref29_add [AC.view kPce v1, I 0, I (intOf (nth .dead o23 0)), I (mn (mx v5 (IntKind.i64.wrap (v5 + IntKind.i64.wrap (v4 * intOf (nth .dead (nth [] v11 (IntKind.i64.wrap (IntKind.i64.wrap ((↑v11.length : Int) - 1) - v7)).toNat) 3))))) (mx v2 v3)), I 0, I v53, I v54, I v55, I (intOf (nth .dead o22 0)), I (intOf (nth .dead o22 1)), I (intOf (nth .dead o22 2)), I v48, I v49, I v50, I v51, I v52]).bind fun o24 =>
 (M_cncref29_add [AC.view kPce (rowsOf (nth .dead o24 0)), I 0, I (IntKind.i64.wrap (mn (mx v5 (IntKind.i64.wrap (v5 + IntKind.i64.wrap (v4 * intOf (nth .dead (nth [] v11 (IntKind.i64.wrap (IntKind.i64.wrap ((↑v11.length : Int) - 1) - v7)).toNat) 3))))) (mx v2 v3) - mx (mn v5 (IntKind.i64.wrap (v5 + IntKind.i64.wrap (v4 * intOf (nth .dead (nth [] v11 (IntKind.i64.wrap (IntKind.i64.wrap ((↑v11.length : Int) - 1) - v7)).toNat) 3))))) (mn v2 v3))), I (mn (mx v5 (IntKind.i64.wrap (v5 + IntKind.i64.wrap (v4 * intOf (nth .dead (nth [] v11 (IntKind.i64.wrap (IntKind.i64.wrap ((↑v11.length : Int) - 1) - v7)).toNat) 3))))) (mx v2 v3)), I v4, I (intOf (nth .dead o22 0)), I (intOf (nth .dead o22 1)), I (intOf (nth .dead o22 2)), I (intOf (nth .dead o22 0)), I (intOf (nth .dead o22 1)), I (intOf (nth .dead o22 2)), I (intOf (nth .dead o24 1)), I (intOf (nth .dead o24 2)), I (intOf (nth .dead o24 3)), I (intOf (nth .dead o24 4)), I (intOf (nth .dead o24 5))]).bind fun o25 =>
 some (0, [AC.view kPce v0, AC.view kPce (rowsOf (nth .dead o25 0)), I v2, I v3, I v4, I (IntKind.i64.wrap (v5 + IntKind.i64.wrap (v4 * intOf (nth .dead (nth [] v11 (IntKind.i64.wrap (IntKind.i64.wrap ((↑v11.length : Int) - 1) - v7)).toNat) 3)))), I v6, I (IntKind.i64.wrap (v7 + 1)), I v8, I v9, I v10, AC.view kSgm v11, AC.view kPt v12, I v13, I v14, I v15, I v16, I v17, I v18, I v19, I v20, I v21, AC.view kInts v22, I v23, I v24, I v25, I v26, I v27, I v28, I v29, I v30, I v31, AC.view kInts v32, I v33, I v34, I v35, I v36, I v37, I v38, I v39, I v40, I v41, AC.view kInts v42, I v43, I v44, I v45, I v46, I v47, I (intOf (nth .dead o25 1)), I (intOf (nth .dead o25 2)), I (intOf (nth .dead o25 3)), I (intOf (nth .dead o25 4)), I (intOf (nth .dead o25 5)), I (intOf (nth .dead o22 0)), I (intOf (nth .dead o22 1)), I (intOf (nth .dead o22 2))])
 else
 (M_cncref29_add [AC.view kPce v1, I 0, I (IntKind.i64.wrap (mn (mx v5 (IntKind.i64.wrap (v5 + IntKind.i64.wrap (v4 * intOf (nth .dead (nth [] v11 (IntKind.i64.wrap (IntKind.i64.wrap ((↑v11.length : Int) - 1) - v7)).toNat) 3))))) (mx v2 v3) - mx (mn v5 (IntKind.i64.wrap (v5 + IntKind.i64.wrap (v4 * intOf (nth .dead (nth [] v11 (IntKind.i64.wrap (IntKind.i64.wrap ((↑v11.length : Int) - 1) - v7)).toNat) 3))))) (mn v2 v3))), I (mn (mx v5 (IntKind.i64.wrap (v5 + IntKind.i64.wrap (v4 * intOf (nth .dead (nth [] v11 (IntKind.i64.wrap (IntKind.i64.wrap ((↑v11.length : Int) - 1) - v7)).toNat) 3))))) (mx v2 v3)), I v4, I (intOf (nth .dead o22 0)), I (intOf (nth .dead o22 1)), I (intOf (nth .dead o22 2)), I (intOf (nth .dead o22 0)), I (intOf (nth .dead o22 1)), I (intOf (nth .dead o22 2)), I v48, I v49, I v50, I v51, I v52]).bind fun o26 =>
 some (0, [AC.view kPce v0, AC.view kPce (rowsOf (nth .dead o26 0)), I v2, I v3, I v4, I (IntKind.i64.wrap (v5 + IntKind.i64.wrap (v4 * intOf (nth .dead (nth [] v11 (IntKind.i64.wrap (IntKind.i64.wrap ((↑v11.length : Int) - 1) - v7)).toNat) 3)))), I v6, I (IntKind.i64.wrap (v7 + 1)), I v8, I v9, I v10, AC.view kSgm v11, AC.view kPt v12, I v13, I v14, I v15, I v16, I v17, I v18, I v19, I v20, I v21, AC.view kInts v22, I v23, I v24, I v25, I v26, I v27, I v28, I v29, I v30, I v31, AC.view kInts v32, I v33, I v34, I v35, I v36, I v37, I v38, I v39, I v40, I v41, AC.view kInts v42, I v43, I v44, I v45, I v46, I v47, I (intOf (nth .dead o26 1)), I (intOf (nth .dead o26 2)), I (intOf (nth .dead o26 3)), I (intOf (nth .dead o26 4)), I (intOf (nth .dead o26 5)), I (intOf (nth .dead o22 0)), I (intOf (nth .dead o22 1)), I (intOf (nth .dead o22 2))])
 else
 (M_cncref29_slack [I v13, I v14, I v15, I v16, I v17, I v18, I v19, I v20, I v21, AC.view kInts v22, I v23, I v24, I v25, I v26, I v27, I v28, I v29, I v30, I v31, AC.view kInts v32, I v33, I v34, I v35, I v36, I v37, I v38, I v39, I v40, I v41, AC.view kInts v42, I v53, I v54, I v55, I (intOf (nth .dead o22 0)), I (intOf (nth .dead o22 1)), I (intOf (nth .dead o22 2))]).bind fun o27 =>
 bif decide (intOf (nth .dead o27 0) > 0) then
 (M_cncref29_add [AC.view kPce v1, I 0, I (intOf (nth .dead o27 0)), I (mx (mn v5 (IntKind.i64.wrap (v5 + IntKind.i64.wrap (v4 * intOf (nth .dead (nth [] v11 (IntKind.i64.wrap (IntKind.i64.wrap ((↑v11.length : Int) - 1) - v7)).toNat) 3))))) (mn v2 v3)), I 0, I v53, I v54, I v55, I (intOf (nth .dead o22 0)), I (intOf (nth .dead o22 1)), I (intOf (nth .dead o22 2)), I v48, I v49, I v50, I v51, I v52]).bind fun o28 =>
 (M_cncref29_add [AC.view kPce (rowsOf (nth .dead o28 0)), I 0, I (IntKind.i64.wrap (mn (mx v5 (IntKind.i64.wrap (v5 + IntKind.i64.wrap (v4 * intOf (nth .dead (nth [] v11 (IntKind.i64.wrap (IntKind.i64.wrap ((↑v11.length : Int) - 1) - v7)).toNat) 3))))) (mx v2 v3) - mx (mn v5 (IntKind.i64.wrap (v5 + IntKind.i64.wrap (v4 * intOf (nth .dead (nth [] v11 (IntKind.i64.wrap (IntKind.i64.wrap ((↑v11.length : Int) - 1) - v7)).toNat) 3))))) (mn v2 v3))), I (mx (mn v5 (IntKind.i64.wrap (v5 + IntKind.i64.wrap (v4 * intOf (nth .dead (nth [] v11 (IntKind.i64.wrap (IntKind.i64.wrap ((↑v11.length : Int) - 1) - v7)).toNat) 3))))) (mn v2 v3)), I v4, I (intOf (nth .dead o22 0)), I (intOf (nth .dead o22 1)), I (intOf (nth .dead o22 2)), I (intOf (nth .dead o22 0)), I (intOf (nth .dead o22 1)), I (intOf (nth .dead o22 2)), I (intOf (nth .dead o28 1)), I (intOf (nth .dead o28 2)), I (intOf (nth .dead o28 3)), I (intOf (nth .dead o28 4)), I (intOf (nth .dead o28 5))]).bind fun o29 =>
 some (0, [AC.view kPce v0, AC.view kPce (rowsOf (nth .dead o29 0)), I v2, I v3, I v4, I (IntKind.i64.wrap (v5 + IntKind.i64.wrap (v4 * intOf (nth .dead (nth [] v11 (IntKind.i64.wrap (IntKind.i64.wrap ((↑v11.length : Int) - 1) - v7)).toNat) 3)))), I v6, I (IntKind.i64.wrap (v7 + 1)), I v8, I v9, I v10, AC.view kSgm v11, AC.view kPt v12, I v13, I v14, I v15, I v16, I v17, I v18, I v19, I v20, I v21, AC.view kInts v22, I v23, I v24, I v25, I v26, I v27, I v28, I v29, I v30, I v31, AC.view kInts v32, I v33, I v34, I v35, I v36, I v37, I v38, I v39, I v40, I v41, AC.view kInts v42, I v43, I v44, I v45, I v46, I v47, I (intOf (nth .dead o29 1)), I (intOf (nth .dead o29 2)), I (intOf (nth .dead o29 3)), I (intOf (nth .dead o29 4)), I (intOf (nth .dead o29 5)), I (intOf (nth .dead o22 0)), I (intOf (nth .dead o22 1)), I (intOf (nth .dead o22 2))])
 else
 (M_cncref29_add [AC.view kPce v1, I 0, I (IntKind.i64.wrap (mn (mx v5 (IntKind.i64.wrap (v5 + IntKind.i64.wrap (v4 * intOf (nth .dead (nth [] v11 (IntKind.i64.wrap (IntKind.i64.wrap ((↑v11.length : Int) - 1) - v7)).toNat) 3))))) (mx v2 v3) - mx (mn v5 (IntKind.i64.wrap (v5 + IntKind.i64.wrap (v4 * intOf (nth .dead (nth [] v11 (IntKind.i64.wrap (IntKind.i64.wrap ((↑v11.length : Int) - 1) - v7)).toNat) 3))))) (mn v2 v3))), I (mx (mn v5 (IntKind.i64.wrap (v5 + IntKind.i64.wrap (v4 * intOf (nth .dead (nth [] v11 (IntKind.i64.wrap (IntKind.i64.wrap ((↑v11.length : Int) - 1) - v7)).toNat) 3))))) (mn v2 v3)), I v4, I (intOf (nth .dead o22 0)), I (intOf (nth .dead o22 1)), I (intOf (nth .dead o22 2)), I (intOf (nth .dead o22 0)), I (intOf (nth .dead o22 1)), I (intOf (nth .dead o22 2)), I v48, I v49, I v50, I v51, I v52]).bind fun o30 =>
 some (0, [AC.view kPce v0, AC.view kPce (rowsOf (nth .dead o30 0)), I v2, I v3, I v4, I (IntKind.i64.wrap (v5 + IntKind.i64.wrap (v4 * intOf (nth .dead (nth [] v11 (IntKind.i64.wrap (IntKind.i64.wrap ((↑v11.length : Int) - 1) - v7)).toNat) 3)))), I v6, I (IntKind.i64.wrap (v7 + 1)), I v8, I v9, I v10, AC.view kSgm v11, AC.view kPt v12, I v13, I v14, I v15, I v16, I v17, I v18, I v19, I v20, I v21, AC.view kInts v22, I v23, I v24, I v25, I v26, I v27, I v28, I v29, I v30, I v31, AC.view kInts v32, I v33, I v34, I v35, I v36, I v37, I v38, I v39, I v40, I v41, AC.view kInts v42, I v43, I v44, I v45, I v46, I v47, I (intOf (nth .dead o30 1)), I (intOf (nth .dead o30 2)), I (intOf (nth .dead o30 3)), I (intOf (nth .dead o30 4)), I (intOf (nth .dead o30 5)), I (intOf (nth .dead o22 0)), I (intOf (nth .dead o22 1)), I (intOf (nth .dead o22 2))])
 else
 some (0, [AC.view kPce v0, AC.view kPce v1, I v2, I v3, I v4, I (IntKind.i64.wrap (v5 + IntKind.i64.wrap (v4 * intOf (nth .dead (nth [] v11 (IntKind.i64.wrap (IntKind.i64.wrap ((↑v11.length : Int) - 1) - v7)).toNat) 3)))), I v6, I (IntKind.i64.wrap (v7 + 1)), I v8, I v9, I v10, AC.view kSgm v11, AC.view kPt v12, I v13, I v14, I v15, I v16, I v17, I v18, I v19, I v20, I v21, AC.view kInts v22, I v23, I v24, I v25, I v26, I v27, I v28, I v29, I v30, I v31, AC.view kInts v32, I v33, I v34, I v35, I v36, I v37, I v38, I v39, I v40, I v41, AC.view kInts v42, I v43, I v44, I v45, I v46, I v47, I v48, I v49, I v50, I v51, I v52, I v53, I v54, I v55])
 else
 none
 else
 bif decide (0 ≤ v7) && decide (v7 < (↑v11.length : Int)) then
 bif decide (mx (mn v5 (IntKind.i64.wrap (v5 + IntKind.i64.wrap (v4 * intOf (nth .dead (nth [] v11 v7.toNat) 3))))) (mn v2 v3) < mn (mx v5 (IntKind.i64.wrap (v5 + IntKind.i64.wrap (v4 * intOf (nth .dead (nth [] v11 v7.toNat) 3))))) (mx v2 v3)) then
 (M_cncref29_facing [I v8, I v9, I v10, AC.view kSgm v11, AC.view kPt v12, I v53, I v54, I v55, I v7, I v4]).bind fun o31 =>
 bif decide (v4 < 0) then
 (M_cncref29_slack [I v13, I v14, I v15, I v16, I v17, I v18, I v19, I v20, I v21, AC.view kInts v22, I v23, I v24, I v25, I v26, I v27, I v28, I v29, I v30, I v31, AC.view kInts v32, I v33, I v34, I v35, I v36, I v37, I v38, I v39, I v40, I v41, AC.view kInts v42, I v53, I v54, I v55, I (intOf (nth .dead o31 0)), I (intOf (nth .dead o31 1)), I (intOf (nth .dead o31 2))]).bind fun o32 =>
 bif decide (intOf (nth .dead o32 0) > 0) then
 (M_cncref29_add [AC.view kPce v1, I 0, I (intOf (nth .dead o32 0)), I (mn (mx v5 (IntKind.i64.wrap (v5 + IntKind.i64.wrap (v4 * intOf (nth .dead (nth [] v11 v7.toNat) 3))))) (mx v2 v3)), I 0, I v53, I v54, I v55, I (intOf (nth .dead o31 0)), I (intOf (nth .dead o31 1)), I (intOf (nth .dead o31 2)), I v48, I v49, I v50, I v51, I v52]).bind fun o33 =>
 (M_cncref29_add [AC.view kPce (rowsOf (nth .dead o33 0)), I 0, I (IntKind.i64.wrap (mn (mx v5 (IntKind.i64.wrap (v5 + IntKind.i64.wrap (v4 * intOf (nth .dead (nth [] v11 v7.toNat) 3))))) (mx v2 v3) - mx (mn v5 (IntKind.i64.wrap (v5 + IntKind.i64.wrap (v4 * intOf (nth .dead (nth [] v11 v7.toNat) 3))))) (mn v2 v3))), I (mn (mx v5 (IntKind.i64.wrap (v5 + IntKind.i64.wrap (v4 * intOf (nth .dead (nth [] v11 v7.toNat) 3))))) (mx v2 v3)), I v4, I (intOf (nth .dead o31 0)), I (intOf (nth .dead o31 1)), I (intOf (nth .dead o31 2)), I (intOf (nth .dead o31 0)), I (intOf (nth .dead o31 1)), I (intOf (nth .dead o31 2)), I (intOf (nth .dead o33 1)), I (intOf (nth .dead o33 2)), I (intOf (nth .dead o33 3)), I (intOf (nth .dead o33 4)), I (intOf (nth .dead o33 5))]).bind fun o34 =>
 some (0, [AC.view kPce v0, AC.view kPce (rowsOf (nth .dead o34 0)), I v2, I v3, I v4, I (IntKind.i64.wrap (v5 + IntKind.i64.wrap (v4 * intOf (nth .dead (nth [] v11 v7.toNat) 3)))), I v6, I (IntKind.i64.wrap (v7 + 1)), I v8, I v9, I v10, AC.view kSgm v11, AC.view kPt v12, I v13, I v14, I v15, I v16, I v17, I v18, I v19, I v20, I v21, AC.view kInts v22, I v23, I v24, I v25, I v26, I v27, I v28, I v29, I v30, I v31, AC.view kInts v32, I v33, I v34, I v35, I v36, I v37, I v38, I v39, I v40, I v41, AC.view kInts v42, I v43, I v44, I v45, I v46, I v47, I (intOf (nth .dead o34 1)), I (intOf (nth .dead o34 2)), I (intOf (nth .dead o34 3)), I (intOf (nth .dead o34 4)), I (intOf (nth .dead o34 5)), I (intOf (nth .dead o31 0)), I (intOf (nth .dead o31 1)), I (intOf (nth .dead o31 2))])
 else
 (M_cncref29_add [AC.view kPce v1, I 0, I (IntKind.i64.wrap (mn (mx v5 (IntKind.i64.wrap (v5 + IntKind.i64.wrap (v4 * intOf (nth .dead (nth [] v11 v7.toNat) 3))))) (mx v2 v3) - mx (mn v5 (IntKind.i64.wrap (v5 + IntKind.i64.wrap (v4 * intOf (nth .dead (nth [] v11 v7.toNat) 3))))) (mn v2 v3))), I (mn (mx v5 (IntKind.i64.wrap (v5 + IntKind.i64.wrap (v4 * intOf (nth .dead (nth [] v11 v7.toNat) 3))))) (mx v2 v3)), I v4, I (intOf (nth .dead o31 0)), I (intOf (nth .dead o31 1)), I (intOf (nth .dead o31 2)), I (intOf (nth .dead o31 0)), I (intOf (nth .dead o31 1)), I (intOf (nth .dead o31 2)), I v48, I v49, I v50, I v51, I v52]).bind fun o35 =>
 some (0, [AC.view kPce v0, AC.view kPce (rowsOf (nth .dead o35 0)), I v2, I v3, I v4, I (IntKind.i64.wrap (v5 + IntKind.i64.wrap (v4 * intOf (nth .dead (nth [] v11 v7.toNat) 3)))), I v6, I (IntKind.i64.wrap (v7 + 1)), I v8, I v9, I v10, AC.view kSgm v11, AC.view kPt v12, I v13, I v14, I v15, I v16, I v17, I v18, I v19, I v20, I v21, AC.view kInts v22, I v23, I v24, I v25, I v26, I v27, I v28, I v29, I v30, I v31, AC.view kInts v32, I v33, I v34, I v35, I v36, I v37, I v38, I v39, I v40, I v41, AC.view kInts v42, I v43, I v44, I v45, I v46, I v47, I (intOf (nth .dead o35 1)), I (intOf (nth .dead o35 2)), I (intOf (nth .dead o35 3)), I (intOf (nth .dead o35 4)), I (intOf (nth .dead o35 5)), I (intOf (nth .dead o31 0)), I (intOf (nth .dead o31 1)), I (intOf (nth .dead o31 2))])
 else
 (M_cncref29_slack [I v13, I v14, I v15, I v16, I v17, I v18, I v19, I v20, I v21, AC.view kInts v22, I v23, I v24, I v25, I v26, I v27, I v28, I v29, I v30, I v31, AC.view kInts v32, I v33, I v34, I v35, I v36, I v37, I v38, I v39, I v40, I v41, AC.view kInts v42, I v53, I v54, I v55, I (intOf (nth .dead o31 0)), I (intOf (nth .dead o31 1)), I (intOf (nth .dead o31 2))]).bind fun o36 =>
 bif decide (intOf (nth .dead o36 0) > 0) then
 (M_cncref29_add [AC.view kPce v1, I 0, I (intOf (nth .dead o36 0)), I (mx (mn v5 (IntKind.i64.wrap (v5 + IntKind.i64.wrap (v4 * intOf (nth .dead (nth [] v11 v7.toNat) 3))))) (mn v2 v3)), I 0, I v53, I v54, I v55, I (intOf (nth .dead o31 0)), I (intOf (nth .dead o31 1)), I (intOf (nth .dead o31 2)), I v48, I v49, I v50, I v51, I v52]).bind fun o37 =>
 (M_cncref29_add [AC.view kPce (rowsOf (nth .dead o37 0)), I 0, I (IntKind.i64.wrap (mn (mx v5 (IntKind.i64.wrap (v5 + IntKind.i64.wrap (v4 * intOf (nth .dead (nth [] v11 v7.toNat) 3))))) (mx v2 v3) - mx (mn v5 (IntKind.i64.wrap (v5 + IntKind.i64.wrap (v4 * intOf (nth .dead (nth [] v11 v7.toNat) 3))))) (mn v2 v3))), I (mx (mn v5 (IntKind.i64.wrap (v5 + IntKind.i64.wrap (v4 * intOf (nth .dead (nth [] v11 v7.toNat) 3))))) (mn v2 v3)), I v4, I (intOf (nth .dead o31 0)), I (intOf (nth .dead o31 1)), I (intOf (nth .dead o31 2)), I (intOf (nth .dead o31 0)), I (intOf (nth .dead o31 1)), I (intOf (nth .dead o31 2)), I (intOf (nth .dead o37 1)), I (intOf (nth .dead o37 2)), I (intOf (nth .dead o37 3)), I (intOf (nth .dead o37 4)), I (intOf (nth .dead o37 5))]).bind fun o38 =>
 some (0, [AC.view kPce v0, AC.view kPce (rowsOf (nth .dead o38 0)), I v2, I v3, I v4, I (IntKind.i64.wrap (v5 + IntKind.i64.wrap (v4 * intOf (nth .dead (nth [] v11 v7.toNat) 3)))), I v6, I (IntKind.i64.wrap (v7 + 1)), I v8, I v9, I v10, AC.view kSgm v11, AC.view kPt v12, I v13, I v14, I v15, I v16, I v17, I v18, I v19, I v20, I v21, AC.view kInts v22, I v23, I v24, I v25, I v26, I v27, I v28, I v29, I v30, I v31, AC.view kInts v32, I v33, I v34, I v35, I v36, I v37, I v38, I v39, I v40, I v41, AC.view kInts v42, I v43, I v44, I v45, I v46, I v47, I (intOf (nth .dead o38 1)), I (intOf (nth .dead o38 2)), I (intOf (nth .dead o38 3)), I (intOf (nth .dead o38 4)), I (intOf (nth .dead o38 5)), I (intOf (nth .dead o31 0)), I (intOf (nth .dead o31 1)), I (intOf (nth .dead o31 2))])
 else
 (M_cncref29_add [AC.view kPce v1, I 0, I (IntKind.i64.wrap (mn (mx v5 (IntKind.i64.wrap (v5 + IntKind.i64.wrap (v4 * intOf (nth .dead (nth [] v11 v7.toNat) 3))))) (mx v2 v3) - mx (mn v5 (IntKind.i64.wrap (v5 + IntKind.i64.wrap (v4 * intOf (nth .dead (nth [] v11 v7.toNat) 3))))) (mn v2 v3))), I (mx (mn v5 (IntKind.i64.wrap (v5 + IntKind.i64.wrap (v4 * intOf (nth .dead (nth [] v11 v7.toNat) 3))))) (mn v2 v3)), I v4, I (intOf (nth .dead o31 0)), I (intOf (nth .dead o31 1)), I (intOf (nth .dead o31 2)), I (intOf (nth .dead o31 0)), I (intOf (nth .dead o31 1)), I (intOf (nth .dead o31 2)), I v48, I v49, I v50, I v51, I v52]).bind fun o39 =>
 some (0, [AC.view kPce v0, AC.view kPce (rowsOf (nth .dead o39 0)), I v2, I v3, I v4, I (IntKind.i64.wrap (v5 + IntKind.i64.wrap (v4 * intOf (nth .dead (nth [] v11 v7.toNat) 3)))), I v6, I (IntKind.i64.wrap (v7 + 1)), I v8, I v9, I v10, AC.view kSgm v11, AC.view kPt v12, I v13, I v14, I v15, I v16, I v17, I v18, I v19, I v20, I v21, AC.view kInts v22, I v23, I v24, I v25, I v26, I v27, I v28, I v29, I v30, I v31, AC.view kInts v32, I v33, I v34, I v35, I v36, I v37, I v38, I v39, I v40, I v41, AC.view kInts v42, I v43, I v44, I v45, I v46, I v47, I (intOf (nth .dead o39 1)), I (intOf (nth .dead o39 2)), I (intOf (nth .dead o39 3)), I (intOf (nth .dead o39 4)), I (intOf (nth .dead o39 5)), I (intOf (nth .dead o31 0)), I (intOf (nth .dead o31 1)), I (intOf (nth .dead o31 2))])
 else
 some (0, [AC.view kPce v0, AC.view kPce v1, I v2, I v3, I v4, I (IntKind.i64.wrap (v5 + IntKind.i64.wrap (v4 * intOf (nth .dead (nth [] v11 v7.toNat) 3)))), I v6, I (IntKind.i64.wrap (v7 + 1)), I v8, I v9, I v10, AC.view kSgm v11, AC.view kPt v12, I v13, I v14, I v15, I v16, I v17, I v18, I v19, I v20, I v21, AC.view kInts v22, I v23, I v24, I v25, I v26, I v27, I v28, I v29, I v30, I v31, AC.view kInts v32, I v33, I v34, I v35, I v36, I v37, I v38, I v39, I v40, I v41, AC.view kInts v42, I v43, I v44, I v45, I v46, I v47, I v48, I v49, I v50, I v51, I v52, I v53, I v54, I v55])
 else
 none
 else
 some (1, [AC.view kPce v0, AC.view kPce v1, I v43, I v44, I v45, I v46, I v47, I v48, I v49, I v50, I v51, I v52]) := by kernel_rfl
theorem mf_cncref29_Leg_eq (M_cncref29_add M_cncref29_slack M_cncref29_facing M_cncref25_Length : List AC → Option (List AC))  (N11 : List AC → Option (Nat × List AC)) (x0 x1 x2 : Int) (x3 x4 : List (List AC)) (x5 x6 x7 x8 x9 x10 x11 x12 x13 : Int) (x14 : List (List AC)) (x15 x16 x17 x18 x19 x20 x21 x22 x23 : Int) (x24 : List (List AC)) (x25 x26 x27 x28 x29 x30 x31 x32 x33 : Int) (x34 : List (List AC)) (x35 x36 x37 x38 x39 : Int) : mf_cncref29_Leg M_cncref29_add M_cncref29_slack M_cncref29_facing M_cncref25_Length  N11 [I x0, I x1, I x2, AC.view kSgm x3, AC.view kPt x4, I x5, I x6, I x7, I x8, I x9, I x10, I x11, I x12, I x13, AC.view kInts x14, I x15, I x16, I x17, I x18, I x19, I x20, I x21, I x22, I x23, AC.view kInts x24, I x25, I x26, I x27, I x28, I x29, I x30, I x31, I x32, I x33, AC.view kInts x34, I x35, I x36, I x37, I x38, I x39] =
 (M_cncref25_Length [I x0, I x1, I x2, AC.view kSgm x3, AC.view kPt x4]).bind fun o40 =>
 bif decide (mn (mx x39 0) (intOf (nth .dead o40 0)) < mn (mx x38 0) (intOf (nth .dead o40 0))) then
 (N11 [AC.view kPce [], AC.view kPce [], I (mn (mx x38 0) (intOf (nth .dead o40 0))), I (mn (mx x39 0) (intOf (nth .dead o40 0))), I (-1), I (intOf (nth .dead o40 0)), I (↑x3.length : Int), I 0, I x0, I x1, I x2, AC.view kSgm x3, AC.view kPt x4, I x5, I x6, I x7, I x8, I x9, I x10, I x11, I x12, I x13, AC.view kInts x14, I x15, I x16, I x17, I x18, I x19, I x20, I x21, I x22, I x23, AC.view kInts x24, I x25, I x26, I x27, I x28, I x29, I x30, I x31, I x32, I x33, AC.view kInts x34, I 0, I 0, I 0, I 0, I 0, I 0, I (mn (mx x38 0) (intOf (nth .dead o40 0))), I x35, I x36, I x37, I x35, I x36, I x37]).bind fun o41 =>
 bif o41.fst.beq 1 then
 some [AC.view kPce (rowsOf (nth .dead o41.snd 1)), I (intOf (nth .dead o41.snd 7)), I (intOf (nth .dead o41.snd 8)), I (intOf (nth .dead o41.snd 9)), I (intOf (nth .dead o41.snd 10)), I (intOf (nth .dead o41.snd 11))]
 else
 none
 else
 (N11 [AC.view kPce [], AC.view kPce [], I (mn (mx x38 0) (intOf (nth .dead o40 0))), I (mn (mx x39 0) (intOf (nth .dead o40 0))), I 1, I 0, I (↑x3.length : Int), I 0, I x0, I x1, I x2, AC.view kSgm x3, AC.view kPt x4, I x5, I x6, I x7, I x8, I x9, I x10, I x11, I x12, I x13, AC.view kInts x14, I x15, I x16, I x17, I x18, I x19, I x20, I x21, I x22, I x23, AC.view kInts x24, I x25, I x26, I x27, I x28, I x29, I x30, I x31, I x32, I x33, AC.view kInts x34, I 0, I 0, I 0, I 0, I 0, I 0, I (mn (mx x38 0) (intOf (nth .dead o40 0))), I x35, I x36, I x37, I x35, I x36, I x37]).bind fun o42 =>
 bif o42.fst.beq 1 then
 some [AC.view kPce (rowsOf (nth .dead o42.snd 1)), I (intOf (nth .dead o42.snd 7)), I (intOf (nth .dead o42.snd 8)), I (intOf (nth .dead o42.snd 9)), I (intOf (nth .dead o42.snd 10)), I (intOf (nth .dead o42.snd 11))]
 else
 none := by kernel_rfl
noncomputable def l_cncref29_Leg_11 := loopC (st_cncref29_Leg_11 m_cncref29_add m_cncref29_slack m_cncref29_facing m_cncref25_Length )
noncomputable def m_cncref29_Leg := mf_cncref29_Leg m_cncref29_add m_cncref29_slack m_cncref29_facing m_cncref25_Length  l_cncref29_Leg_11
theorem sp_cncref29_Leg : SpecOK Tryz.prog (C_cncref29_Leg_0 m_cncref29_add m_cncref29_slack m_cncref29_facing m_cncref25_Length) := specOK_of rfl ⟨r_cncref29_add, r_cncref29_slack, r_cncref29_facing, r_cncref25_Length, trivial⟩
theorem r_cncref29_Leg : RowOK Tryz.prog (27, spOf sig_cncref29_Leg osig_cncref29_Leg m_cncref29_Leg) := row_of (C := (C_cncref29_Leg_1 m_cncref29_add m_cncref29_slack m_cncref29_facing m_cncref25_Length l_cncref29_Leg_11)) (L := 64) (sig := sig_cncref29_Leg) (osig := osig_cncref29_Leg) (by kernel_rfl) ((FnOK.bare rfl rfl rfl).loop sp_cncref29_Leg eqOk mixOk (by kernel_rfl) (by kernel_rfl)) sp_cncref29_Leg eqOk mixOk (by kernel_rfl) (by kernel_rfl)
def sig_track_Leg_1 : Sk := { tmps := [TS.v true [CS.int .i64, CS.int .i64, CS.int .i64, CS.int .i64, CS.int .i64, CS.int .i64, CS.int .i64, CS.int .i64, CS.int .i64, CS.int .i64], TS.v false [CS.ptr 20000 0]], boxes := [(20000, 35, [CS.own 20000 10, CS.int .i64, CS.int .i64, CS.int .i64, CS.int .i64, CS.int .i64])], rows := [(20000, 85, kPce)] }
def osig_track_Leg_1 : Sk := { tmps := [TS.tup []], boxes := [(20000, 35, [CS.own 20000 10, CS.int .i64, CS.int .i64, CS.int .i64, CS.int .i64, CS.int .i64])], rows := [(20000, 85, kPce)] }
noncomputable def C_track_Leg_1_0  : Cfg := { spec := lookS [], eqOk := eqAll, ownOff := ownOff }
noncomputable def mf_track_Leg_1   : List AC → Option (List AC) := modelF Tryz.prog C_track_Leg_1_0 64 62 sig_track_Leg_1 osig_track_Leg_1
theorem mf_track_Leg_1_eq   (x0 : List (List AC)) (x1 x2 x3 x4 x5 x6 x7 x8 x9 x10 x11 x12 x13 x14 x15 : Int) : mf_track_Leg_1   [AC.view kPce x0, I x1, I x2, I x3, I x4, I x5, I x6, I x7, I x8, I x9, I x10, I x11, I x12, I x13, I x14, I x15] =
 bif decide ((↑x0.length : Int) > 0) then
 bif x4 != 0 then
 bif decide (0 ≤ IntKind.i64.wrap ((↑x0.length : Int) - 1)) && decide (IntKind.i64.wrap ((↑x0.length : Int) - 1) < (↑x0.length : Int)) then
 bif intOf (nth .dead (nth [] x0 (IntKind.i64.wrap ((↑x0.length : Int) - 1)).toNat) 3) == x4 then
 bif decide (0 ≤ IntKind.i64.wrap ((↑x0.length : Int) - 1)) && decide (IntKind.i64.wrap ((↑x0.length : Int) - 1) < (↑x0.length : Int)) then
 bif intOf (nth .dead (nth [] x0 (IntKind.i64.wrap ((↑x0.length : Int) - 1)).toNat) 7) == x8 && (intOf (nth .dead (nth [] x0 (IntKind.i64.wrap ((↑x0.length : Int) - 1)).toNat) 8) == x9 && (intOf (nth .dead (nth [] x0 (IntKind.i64.wrap ((↑x0.length : Int) - 1)).toNat) 9) == x10 && true)) then
 bif decide (0 ≤ IntKind.i64.wrap ((↑x0.length : Int) - 1)) && decide (IntKind.i64.wrap ((↑x0.length : Int) - 1) < (↑x0.length : Int)) then
 bif decide (0 ≤ IntKind.i64.wrap ((↑x0.length : Int) - 1)) && decide (IntKind.i64.wrap ((↑x0.length : Int) - 1) < (↑x0.length : Int)) then
 some [AC.view kPce (x0.set (IntKind.i64.wrap ((↑x0.length : Int) - 1)).toNat [I (intOf (nth .dead (nth [] x0 (IntKind.i64.wrap ((↑x0.length : Int) - 1)).toNat) 0)), I (IntKind.i64.wrap (intOf (nth .dead (nth [] x0 (IntKind.i64.wrap ((↑x0.length : Int) - 1)).toNat) 1) + x2)), I (intOf (nth .dead (nth [] x0 (IntKind.i64.wrap ((↑x0.length : Int) - 1)).toNat) 2)), I (intOf (nth .dead (nth [] x0 (IntKind.i64.wrap ((↑x0.length : Int) - 1)).toNat) 3)), I (intOf (nth .dead (nth [] x0 (IntKind.i64.wrap ((↑x0.length : Int) - 1)).toNat) 4)), I (intOf (nth .dead (nth [] x0 (IntKind.i64.wrap ((↑x0.length : Int) - 1)).toNat) 5)), I (intOf (nth .dead (nth [] x0 (IntKind.i64.wrap ((↑x0.length : Int) - 1)).toNat) 6)), I (intOf (nth .dead (nth [] x0 (IntKind.i64.wrap ((↑x0.length : Int) - 1)).toNat) 7)), I (intOf (nth .dead (nth [] x0 (IntKind.i64.wrap ((↑x0.length : Int) - 1)).toNat) 8)), I (intOf (nth .dead (nth [] x0 (IntKind.i64.wrap ((↑x0.length : Int) - 1)).toNat) 9))]), I (IntKind.i64.wrap (x11 + x2)), I x12, I x13, I x14, I x15]
 else
 none
 else
 none
 else
 bif ((x0 ++ [[I x11, I x2, I x3, I x4, I x5, I x6, I x7, I x8, I x9, I x10]]).length * 80).ble 140737488355328 then
 some [AC.view kPce (x0 ++ [[I x11, I x2, I x3, I x4, I x5, I x6, I x7, I x8, I x9, I x10]]), I (IntKind.i64.wrap (x11 + x2)), I x12, I x13, I x14, I x15]
 else
 none
 else
 none
 else
 bif ((x0 ++ [[I x11, I x2, I x3, I x4, I x5, I x6, I x7, I x8, I x9, I x10]]).length * 80).ble 140737488355328 then
 some [AC.view kPce (x0 ++ [[I x11, I x2, I x3, I x4, I x5, I x6, I x7, I x8, I x9, I x10]]), I (IntKind.i64.wrap (x11 + x2)), I x12, I x13, I x14, I x15]
 else
 none
 else
 none
 else
 bif ((x0 ++ [[I x11, I x2, I x3, I x4, I x5, I x6, I x7, I x8, I x9, I x10]]).length * 80).ble 140737488355328 then
 some [AC.view kPce (x0 ++ [[I x11, I x2, I x3, I x4, I x5, I x6, I x7, I x8, I x9, I x10]]), I (IntKind.i64.wrap (x11 + x2)), I x12, I x13, I x14, I x15]
 else
 none
 else
 bif ((x0 ++ [[I x11, I x2, I x3, I x4, I x5, I x6, I x7, I x8, I x9, I x10]]).length * 80).ble 140737488355328 then
 some [AC.view kPce (x0 ++ [[I x11, I x2, I x3, I x4, I x5, I x6, I x7, I x8, I x9, I x10]]), I (IntKind.i64.wrap (x11 + x2)), I x12, I x13, I x14, I x15]
 else
 none := by kernel_rfl
def sig_track_clamp : Sk := { tmps := [TS.v false [CS.int .i64], TS.v false [CS.int .i64]], boxes := [], rows := [] }
def osig_track_clamp : Sk := { tmps := [TS.v false [CS.int .i64]], boxes := [], rows := [] }
noncomputable def C_track_clamp_0  : Cfg := { spec := lookS [], eqOk := eqAll, ownOff := ownOff }
noncomputable def mf_track_clamp   : List AC → Option (List AC) := modelF Tryz.prog C_track_clamp_0 64 50 sig_track_clamp osig_track_clamp
theorem mf_track_clamp_eq   (x0 x1 : Int) : mf_track_clamp   [I x0, I x1] =
 some [I (mx 0 (mn x0 x1))] := by kernel_rfl
noncomputable def m_track_clamp := mf_track_clamp  
theorem sp_track_clamp : SpecOK Tryz.prog (C_track_clamp_0 ) := specOK_of rfl trivial
theorem r_track_clamp : RowOK Tryz.prog (50, spOf sig_track_clamp osig_track_clamp m_track_clamp) := row_of (C := C_track_clamp_0) (L := 64) (sig := sig_track_clamp) (osig := osig_track_clamp) (by kernel_rfl) (FnOK.bare rfl rfl rfl) sp_track_clamp eqOk mixOk (by kernel_rfl) (by kernel_rfl)
def sig_cncmill_Mod : Sk := { tmps := [TS.v false [CS.int .i64], TS.v false [CS.int .i64]], boxes := [], rows := [] }
def osig_cncmill_Mod : Sk := { tmps := [TS.v false [CS.int .i64]], boxes := [], rows := [] }
noncomputable def C_cncmill_Mod_0  : Cfg := { spec := lookS [], eqOk := eqAll, ownOff := ownOff }
noncomputable def mf_cncmill_Mod   : List AC → Option (List AC) := modelF Tryz.prog C_cncmill_Mod_0 64 16 sig_cncmill_Mod osig_cncmill_Mod
theorem mf_cncmill_Mod_eq   (x0 x1 : Int) : mf_cncmill_Mod   [I x0, I x1] =
 bif decide (x1 = 0) then
 none
 else
 bif decide (x1 = 0) then
 none
 else
 some [I ((IntKind.i64.wrap (x0.tmod x1 + x1)).tmod x1)] := by kernel_rfl
noncomputable def m_cncmill_Mod := mf_cncmill_Mod  
theorem sp_cncmill_Mod : SpecOK Tryz.prog (C_cncmill_Mod_0 ) := specOK_of rfl trivial
theorem r_cncmill_Mod : RowOK Tryz.prog (16, spOf sig_cncmill_Mod osig_cncmill_Mod m_cncmill_Mod) := row_of (C := C_cncmill_Mod_0) (L := 64) (sig := sig_cncmill_Mod) (osig := osig_cncmill_Mod) (by kernel_rfl) (FnOK.bare rfl rfl rfl) sp_cncmill_Mod eqOk mixOk (by kernel_rfl) (by kernel_rfl)
def sig_cncmill_Dirs : Sk := { tmps := [TS.v false [CS.int .i64]], boxes := [], rows := [] }
def osig_cncmill_Dirs : Sk := { tmps := [TS.v true [CS.int .i64, CS.int .i64, CS.int .i64]], boxes := [], rows := [] }
noncomputable def C_cncmill_Dirs_0 (M_cncmill_Mod : List AC → Option (List AC)) : Cfg := { spec := lookS [(16, spOf sig_cncmill_Mod osig_cncmill_Mod M_cncmill_Mod)], eqOk := eqAll, ownOff := ownOff }
noncomputable def mf_cncmill_Dirs (M_cncmill_Mod : List AC → Option (List AC))  : List AC → Option (List AC) := modelF Tryz.prog (C_cncmill_Dirs_0 M_cncmill_Mod) 64 24 sig_cncmill_Dirs osig_cncmill_Dirs
theorem mf_cncmill_Dirs_eq (M_cncmill_Mod : List AC → Option (List AC))  (x0 : Int) : mf_cncmill_Dirs M_cncmill_Mod  [I x0] =
 (M_cncmill_Mod [I x0, I 8]).bind fun o1 =>
 some [I (IntKind.i64.wrap (1 - IntKind.i64.wrap ((intOf (nth .dead o1 0)).tmod 2 * 2))), I (IntKind.i64.wrap (1 - IntKind.i64.wrap ((IntKind.i64.wrap ((intOf (nth .dead o1 0)).tdiv 2)).tmod 2 * 2))), I (IntKind.i64.wrap (1 - IntKind.i64.wrap (IntKind.i64.wrap ((intOf (nth .dead o1 0)).tdiv 4) * 2)))] := by kernel_rfl
noncomputable def m_cncmill_Dirs := mf_cncmill_Dirs m_cncmill_Mod 
theorem sp_cncmill_Dirs : SpecOK Tryz.prog (C_cncmill_Dirs_0 m_cncmill_Mod) := specOK_of rfl ⟨r_cncmill_Mod, trivial⟩
theorem r_cncmill_Dirs : RowOK Tryz.prog (24, spOf sig_cncmill_Dirs osig_cncmill_Dirs m_cncmill_Dirs) := row_of (C := (C_cncmill_Dirs_0 m_cncmill_Mod)) (L := 64) (sig := sig_cncmill_Dirs) (osig := osig_cncmill_Dirs) (by kernel_rfl) (FnOK.bare rfl rfl rfl) sp_cncmill_Dirs eqOk mixOk (by kernel_rfl) (by kernel_rfl)
def sig_cncmill_Source_Next : Sk := { tmps := [TS.v false [CS.ptr 20000 0], TS.v false [CS.int .i64]], boxes := [(20000, 122, [CS.sl kInts, CS.int .i64])], rows := [] }
def osig_cncmill_Source_Next : Sk := { tmps := [TS.v false [CS.int .i64]], boxes := [(20000, 122, [CS.sl kInts, CS.int .i64])], rows := [] }
noncomputable def C_cncmill_Source_Next_0 (M_cncmill_Mod : List AC → Option (List AC)) : Cfg := { spec := lookS [(16, spOf sig_cncmill_Mod osig_cncmill_Mod M_cncmill_Mod)], eqOk := eqAll, ownOff := ownOff }
noncomputable def mf_cncmill_Source_Next (M_cncmill_Mod : List AC → Option (List AC))  : List AC → Option (List AC) := modelF Tryz.prog (C_cncmill_Source_Next_0 M_cncmill_Mod) 64 73 sig_cncmill_Source_Next osig_cncmill_Source_Next
theorem mf_cncmill_Source_Next_eq (M_cncmill_Mod : List AC → Option (List AC))  (x0 : Int) (x1 : List (List AC)) (x2 : Int) : mf_cncmill_Source_Next M_cncmill_Mod  [I x0, AC.view kInts x1, I x2] =
 bif decide (x2 ≥ (↑x1.length : Int)) then
 some [I 0, AC.view kInts x1, I x2]
 else
 bif decide (0 ≤ x2) && decide (x2 < (↑x1.length : Int)) then
 (M_cncmill_Mod [I (intOf (nth .dead (nth [] x1 x2.toNat) 0)), I x0]).bind fun o1 =>
 some [I (intOf (nth .dead o1 0)), AC.view kInts x1, I (IntKind.i64.wrap (x2 + 1))]
 else
 none := by kernel_rfl
noncomputable def m_cncmill_Source_Next := mf_cncmill_Source_Next m_cncmill_Mod 
theorem sp_cncmill_Source_Next : SpecOK Tryz.prog (C_cncmill_Source_Next_0 m_cncmill_Mod) := specOK_of rfl ⟨r_cncmill_Mod, trivial⟩
theorem r_cncmill_Source_Next : RowOK Tryz.prog (73, spOf sig_cncmill_Source_Next osig_cncmill_Source_Next m_cncmill_Source_Next) := row_of (C := (C_cncmill_Source_Next_0 m_cncmill_Mod)) (L := 64) (sig := sig_cncmill_Source_Next) (osig := osig_cncmill_Source_Next) (by kernel_rfl) (FnOK.bare rfl rfl rfl) sp_cncmill_Source_Next eqOk mixOk (by kernel_rfl) (by kernel_rfl)
def sig_cncmill_Axis : Sk := { tmps := [TS.v false [CS.ptr 20000 0]], boxes := [(20000, 122, [CS.sl kInts, CS.int .i64])], rows := [] }
def osig_cncmill_Axis : Sk := { tmps := [TS.v true [CS.int .i64, CS.int .i64, CS.int .i64, CS.int .i64, CS.int .i64, CS.int .i64, CS.int .i64, CS.int .i64, CS.int .i64, CS.sl kInts]], boxes := [(20000, 122, [CS.sl kInts, CS.int .i64])], rows := [] }
noncomputable def C_cncmill_Axis_0 (M_cncmill_Source_Next : List AC → Option (List AC)) : Cfg := { spec := lookS [(73, spOf sig_cncmill_Source_Next osig_cncmill_Source_Next M_cncmill_Source_Next)], eqOk := eqAll, pure := fun f => !(elemN [73] f), ownOff := ownOffX }
def sk_cncmill_Axis_11 : Sk := { tmps := [TS.v false [CS.ptr 20000 0], TS.dead, TS.v false [CS.ptr 2 0], TS.v false [CS.ptr 3 0], TS.v false [CS.int .i64], TS.v false [CS.int .i64], TS.v false [CS.int .i64]] ++ dd 72, boxes := [(2, 31, [CS.int .i64, CS.int .i64, CS.int .i64, CS.int .i64, CS.int .i64, CS.int .i64, CS.int .i64, CS.int .i64, CS.int .i64, CS.own 1002009 1]), (3, 31, [CS.int .i64, CS.int .i64, CS.int .i64, CS.int .i64, CS.int .i64, CS.int .i64, CS.int .i64, CS.int .i64, CS.int .i64, CS.own 1003009 1]), (20000, 122, [CS.sl kInts, CS.int .i64])], rows := [(1002009, 3, kInts), (1003009, 3, kInts)] }
def ex_cncmill_Axis_11 : List (Ex × Sk) := [(Ex.exit 0, { tmps := [TS.dead, TS.dead, TS.v false [CS.ptr 2 0], TS.v false [CS.ptr 3 0]] ++ dd 75, boxes := [(2, 31, [CS.int .i64, CS.int .i64, CS.int .i64, CS.int .i64, CS.int .i64, CS.int .i64, CS.int .i64, CS.int .i64, CS.int .i64, CS.own 1002009 1]), (3, 31, [CS.int .i64, CS.int .i64, CS.int .i64, CS.int .i64, CS.int .i64, CS.int .i64, CS.int .i64, CS.int .i64, CS.int .i64, CS.own 1003009 1]), (20000, 122, [CS.sl kInts, CS.int .i64])], rows := [(1002009, 3, kInts), (1003009, 3, kInts)] })]
noncomputable def st_cncmill_Axis_11 (M_cncmill_Source_Next : List AC → Option (List AC))  : List AC → Option (Nat × List AC) := stepL Tryz.prog (C_cncmill_Axis_0 M_cncmill_Source_Next) 64 11 (bodyOf Tryz.prog 61 11) sk_cncmill_Axis_11 ex_cncmill_Axis_11
noncomputable def C_cncmill_Axis_1 (M_cncmill_Source_Next : List AC → Option (List AC))  (N11 : List AC → Option (Nat × List AC)) : Cfg := (C_cncmill_Axis_0 M_cncmill_Source_Next).loop 11 sk_cncmill_Axis_11 ex_cncmill_Axis_11 N11
noncomputable def mf_cncmill_Axis (M_cncmill_Source_Next : List AC → Option (List AC))  (N11 : List AC → Option (Nat × List AC)) : List AC → Option (List AC) := modelF Tryz.prog (C_cncmill_Axis_1 M_cncmill_Source_Next N11) 64 61 sig_cncmill_Axis osig_cncmill_Axis
theorem st_cncmill_Axis_11_eq (M_cncmill_Source_Next : List AC → Option (List AC))  (v0 v1 : List (List AC)) (v2 v3 v4 v5 v6 v7 v8 v9 v10 v11 v12 v13 v14 v15 v16 v17 v18 v19 v20 v21 v22 : Int) (v23 : List (List AC)) (v24 : Int) : st_cncmill_Axis_11 M_cncmill_Source_Next  [AC.view kInts v0, AC.view kInts v1, I v2, I v3, I v4, I v5, I v6, I v7, I v8, I v9, I v10, I v11, I v12, I v13, I v14, I v15, I v16, I v17, I v18, I v19, I v20, I v21, I v22, AC.view kInts v23, I v24] =
 bif decide (v4 < v2) then
 bif ((v1 ++ [[I v3]]).length * 8).ble 140737488355328 then
 (M_cncmill_Source_Next [I (IntKind.i64.wrap (IntKind.i64.wrap (2 * IntKind.i64.wrap (v22.tdiv 4)) + 1)), AC.view kInts v23, I v24]).bind fun o20 =>
 some (0, [AC.view kInts v0, AC.view kInts (v1 ++ [[I v3]]), I v2, I (mn (mx (IntKind.i64.wrap (IntKind.i64.wrap (v3 + intOf (nth .dead o20 0)) - IntKind.i64.wrap (v22.tdiv 4))) (-4096)) 4096), I (IntKind.i64.wrap (v4 + 1)), I v5, I v6, I v7, I v8, I v9, I v10, I v11, I v12, I v13, I v14, I v15, I v16, I v17, I v18, I v19, I v20, I v21, I v22, AC.view kInts (rowsOf (nth .dead o20 1)), I (intOf (nth .dead o20 2))])
 else
 none
 else
 some (1, [AC.view kInts v0, AC.view kInts v1, I v5, I v6, I v7, I v8, I v9, I v10, I v11, I v12, I v13, I v14, I v15, I v16, I v17, I v18, I v19, I v20, I v21, I v22, AC.view kInts v23, I v24]) := by kernel_rfl
theorem mf_cncmill_Axis_eq (M_cncmill_Source_Next : List AC → Option (List AC))  (N11 : List AC → Option (Nat × List AC)) (x0 : List (List AC)) (x1 : Int) : mf_cncmill_Axis M_cncmill_Source_Next  N11 [AC.view kInts x0, I x1] =
 (M_cncmill_Source_Next [I 6, AC.view kInts x0, I x1]).bind fun o21 =>
 bif decide (0 ≤ intOf (nth .dead o21 0)) && decide (intOf (nth .dead o21 0) < (↑[[I 8], [I 4], [I 5], [I 16], [I 23], [I 64]].length : Int)) then
 (M_cncmill_Source_Next [I 4, AC.view kInts (rowsOf (nth .dead o21 1)), I (intOf (nth .dead o21 2))]).bind fun o22 =>
 bif decide (0 ≤ intOf (nth .dead o22 0)) && decide (intOf (nth .dead o22 0) < (↑[[I 0], [I 1], [I 3], [I 6]].length : Int)) then
 (M_cncmill_Source_Next [I 5, AC.view kInts (rowsOf (nth .dead o22 1)), I (intOf (nth .dead o22 2))]).bind fun o23 =>
 bif decide (0 ≤ intOf (nth .dead o23 0)) && decide (intOf (nth .dead o23 0) < (↑[[I 40], [I 1], [I 3], [I 9], [I 1000]].length : Int)) then
 (M_cncmill_Source_Next [I 5, AC.view kInts (rowsOf (nth .dead o23 1)), I (intOf (nth .dead o23 2))]).bind fun o24 =>
 bif decide (0 ≤ intOf (nth .dead o24 0)) && decide (intOf (nth .dead o24 0) < (↑[[I 20], [I 2], [I 3], [I 5], [I 1000]].length : Int)) then
 (M_cncmill_Source_Next [I 5, AC.view kInts (rowsOf (nth .dead o24 1)), I (intOf (nth .dead o24 2))]).bind fun o25 =>
 bif decide (0 ≤ intOf (nth .dead o25 0)) && decide (intOf (nth .dead o25 0) < (↑[[I 30], [I 4], [I 5], [I 8], [I 1000]].length : Int)) then
 (M_cncmill_Source_Next [I 5, AC.view kInts (rowsOf (nth .dead o25 1)), I (intOf (nth .dead o25 2))]).bind fun o26 =>
 bif intOf (nth .dead o26 0) == 0 then
 some [I (intOf (nth .dead (nth [] [[I 8], [I 4], [I 5], [I 16], [I 23], [I 64]] (intOf (nth .dead o21 0)).toNat) 0)), I (intOf (nth .dead (nth [] [[I 40], [I 1], [I 3], [I 9], [I 1000]] (intOf (nth .dead o23 0)).toNat) 0)), I (intOf (nth .dead (nth [] [[I 20], [I 2], [I 3], [I 5], [I 1000]] (intOf (nth .dead o24 0)).toNat) 0)), I (intOf (nth .dead (nth [] [[I 30], [I 4], [I 5], [I 8], [I 1000]] (intOf (nth .dead o25 0)).toNat) 0)), I (-16777216), I 16777216, I (intOf (nth .dead (nth [] [[I 0], [I 1], [I 3], [I 6]] (intOf (nth .dead o22 0)).toNat) 0)), I 0, I 0, AC.view kInts [], AC.view kInts (rowsOf (nth .dead o26 1)), I (intOf (nth .dead o26 2))]
 else
 (M_cncmill_Source_Next [I 400, AC.view kInts (rowsOf (nth .dead o26 1)), I (intOf (nth .dead o26 2))]).bind fun o27 =>
 (M_cncmill_Source_Next [I 120, AC.view kInts (rowsOf (nth .dead o27 1)), I (intOf (nth .dead o27 2))]).bind fun o28 =>
 (M_cncmill_Source_Next [I 9, AC.view kInts (rowsOf (nth .dead o28 1)), I (intOf (nth .dead o28 2))]).bind fun o29 =>
 (N11 [AC.view kInts [], AC.view kInts [], I (intOf (nth .dead o26 0)), I (IntKind.i64.wrap (intOf (nth .dead o29 0) - 4)), I 0, I 0, I 0, I 0, I 0, I 0, I 0, I 0, I 0, I 0, I (intOf (nth .dead (nth [] [[I 8], [I 4], [I 5], [I 16], [I 23], [I 64]] (intOf (nth .dead o21 0)).toNat) 0)), I (intOf (nth .dead (nth [] [[I 40], [I 1], [I 3], [I 9], [I 1000]] (intOf (nth .dead o23 0)).toNat) 0)), I (intOf (nth .dead (nth [] [[I 20], [I 2], [I 3], [I 5], [I 1000]] (intOf (nth .dead o24 0)).toNat) 0)), I (intOf (nth .dead (nth [] [[I 30], [I 4], [I 5], [I 8], [I 1000]] (intOf (nth .dead o25 0)).toNat) 0)), I (-16777216), I 16777216, I (intOf (nth .dead (nth [] [[I 0], [I 1], [I 3], [I 6]] (intOf (nth .dead o22 0)).toNat) 0)), I (IntKind.i64.wrap (intOf (nth .dead o27 0) - 200)), I (IntKind.i64.wrap (4 + intOf (nth .dead o28 0))), AC.view kInts (rowsOf (nth .dead o29 1)), I (intOf (nth .dead o29 2))]).bind fun o30 =>
 bif o30.fst.beq 1 then
 some [I (intOf (nth .dead o30.snd 11)), I (intOf (nth .dead o30.snd 12)), I (intOf (nth .dead o30.snd 13)), I (intOf (nth .dead o30.snd 14)), I (intOf (nth .dead o30.snd 15)), I (intOf (nth .dead o30.snd 16)), I (intOf (nth .dead o30.snd 17)), I (intOf (nth .dead o30.snd 18)), I (intOf (nth .dead o30.snd 19)), AC.view kInts (rowsOf (nth .dead o30.snd 1)), AC.view kInts (rowsOf (nth .dead o30.snd 20)), I (intOf (nth .dead o30.snd 21))]
 else
 none
 else
 none
 else
 none
 else
 none
 else
 none
 else
 none := by kernel_rfl
noncomputable def l_cncmill_Axis_11 := loopC (st_cncmill_Axis_11 m_cncmill_Source_Next )
noncomputable def m_cncmill_Axis := mf_cncmill_Axis m_cncmill_Source_Next  l_cncmill_Axis_11
theorem sp_cncmill_Axis : SpecOK Tryz.prog (C_cncmill_Axis_0 m_cncmill_Source_Next) := specOK_of rfl ⟨r_cncmill_Source_Next, trivial⟩
theorem r_cncmill_Axis : RowOK Tryz.prog (61, spOf sig_cncmill_Axis osig_cncmill_Axis m_cncmill_Axis) := row_of (C := (C_cncmill_Axis_1 m_cncmill_Source_Next l_cncmill_Axis_11)) (L := 64) (sig := sig_cncmill_Axis) (osig := osig_cncmill_Axis) (by kernel_rfl) ((FnOK.bare rfl rfl rfl).loop sp_cncmill_Axis eqOk mixOk (by kernel_rfl) (by kernel_rfl)) sp_cncmill_Axis eqOk mixOk (by kernel_rfl) (by kernel_rfl)
def sig_cncmill_From : Sk := { tmps := [TS.v false [CS.sl kInts]], boxes := [], rows := [] }
def osig_cncmill_From : Sk := { tmps := [TS.v false [CS.ptr 5 0]], boxes := [(5, 122, [CS.sl kInts, CS.int .i64])], rows := [] }
noncomputable def C_cncmill_From_0  : Cfg := { spec := lookS [], eqOk := eqAll, ownOff := ownOff }
noncomputable def mf_cncmill_From   : List AC → Option (List AC) := modelF Tryz.prog C_cncmill_From_0 64 60 sig_cncmill_From osig_cncmill_From
theorem mf_cncmill_From_eq   (x0 : List (List AC)) : mf_cncmill_From   [AC.view kInts x0] =
 some [AC.view kInts x0, I 0] := by kernel_rfl
noncomputable def m_cncmill_From := mf_cncmill_From  
theorem sp_cncmill_From : SpecOK Tryz.prog (C_cncmill_From_0 ) := specOK_of rfl trivial
theorem r_cncmill_From : RowOK Tryz.prog (60, spOf sig_cncmill_From osig_cncmill_From m_cncmill_From) := row_of (C := C_cncmill_From_0) (L := 64) (sig := sig_cncmill_From) (osig := osig_cncmill_From) (by kernel_rfl) (FnOK.bare rfl rfl rfl) sp_cncmill_From eqOk mixOk (by kernel_rfl) (by kernel_rfl)
def sig_cncmill_Axes : Sk := { tmps := [TS.v false [CS.sl kInts]], boxes := [], rows := [] }
def osig_cncmill_Axes : Sk := { tmps := [TS.v true [CS.int .i64, CS.int .i64, CS.int .i64, CS.int .i64, CS.int .i64, CS.int .i64, CS.int .i64, CS.int .i64, CS.int .i64, CS.sl kInts, CS.int .i64, CS.int .i64, CS.int .i64, CS.int .i64, CS.int .i64, CS.int .i64, CS.int .i64, CS.int .i64, CS.int .i64, CS.sl kInts, CS.int .i64, CS.int .i64, CS.int .i64, CS.int .i64, CS.int .i64, CS.int .i64, CS.int .i64, CS.int .i64, CS.int .i64, CS.sl kInts]], boxes := [], rows := [] }
noncomputable def C_cncmill_Axes_0 (M_cncmill_Axis M_cncmill_From : List AC → Option (List AC)) : Cfg := { spec := lookS [(61, spOf sig_cncmill_Axis osig_cncmill_Axis M_cncmill_Axis), (60, spOf sig_cncmill_From osig_cncmill_From M_cncmill_From)], eqOk := eqAll, pure := fun f => !(elemN [61, 60] f), ownOff := ownOff }
noncomputable def mf_cncmill_Axes (M_cncmill_Axis M_cncmill_From : List AC → Option (List AC))  : List AC → Option (List AC) := modelF Tryz.prog (C_cncmill_Axes_0 M_cncmill_Axis M_cncmill_From) 64 23 sig_cncmill_Axes osig_cncmill_Axes
theorem mf_cncmill_Axes_eq (M_cncmill_Axis M_cncmill_From : List AC → Option (List AC))  (x0 : List (List AC)) : mf_cncmill_Axes M_cncmill_Axis M_cncmill_From  [AC.view kInts x0] =
 (M_cncmill_From [AC.view kInts x0]).bind fun o4 =>
 (M_cncmill_Axis [AC.view kInts (rowsOf (nth .dead o4 0)), I (intOf (nth .dead o4 1))]).bind fun o5 =>
 (M_cncmill_Axis [AC.view kInts (rowsOf (nth .dead o5 10)), I (intOf (nth .dead o5 11))]).bind fun o6 =>
 (M_cncmill_Axis [AC.view kInts (rowsOf (nth .dead o6 10)), I (intOf (nth .dead o6 11))]).bind fun o7 =>
 some [I (intOf (nth .dead o5 0)), I (intOf (nth .dead o5 1)), I (intOf (nth .dead o5 2)), I (intOf (nth .dead o5 3)), I (intOf (nth .dead o5 4)), I (intOf (nth .dead o5 5)), I (intOf (nth .dead o5 6)), I (intOf (nth .dead o5 7)), I (intOf (nth .dead o5 8)), AC.view kInts (rowsOf (nth .dead o5 9)), I (intOf (nth .dead o6 0)), I (intOf (nth .dead o6 1)), I (intOf (nth .dead o6 2)), I (intOf (nth .dead o6 3)), I (intOf (nth .dead o6 4)), I (intOf (nth .dead o6 5)), I (intOf (nth .dead o6 6)), I (intOf (nth .dead o6 7)), I (intOf (nth .dead o6 8)), AC.view kInts (rowsOf (nth .dead o6 9)), I (intOf (nth .dead o7 0)), I (intOf (nth .dead o7 1)), I (intOf (nth .dead o7 2)), I (intOf (nth .dead o7 3)), I (intOf (nth .dead o7 4)), I (intOf (nth .dead o7 5)), I (intOf (nth .dead o7 6)), I (intOf (nth .dead o7 7)), I (intOf (nth .dead o7 8)), AC.view kInts (rowsOf (nth .dead o7 9))] := by kernel_rfl
noncomputable def m_cncmill_Axes := mf_cncmill_Axes m_cncmill_Axis m_cncmill_From 
theorem sp_cncmill_Axes : SpecOK Tryz.prog (C_cncmill_Axes_0 m_cncmill_Axis m_cncmill_From) := specOK_of rfl ⟨r_cncmill_Axis, r_cncmill_From, trivial⟩
theorem r_cncmill_Axes : RowOK Tryz.prog (23, spOf sig_cncmill_Axes osig_cncmill_Axes m_cncmill_Axes) := row_of (C := (C_cncmill_Axes_0 m_cncmill_Axis m_cncmill_From)) (L := 64) (sig := sig_cncmill_Axes) (osig := osig_cncmill_Axes) (by kernel_rfl) (FnOK.bare rfl rfl rfl) sp_cncmill_Axes eqOk mixOk (by kernel_rfl) (by kernel_rfl)
def sig_cncref23_Motion : Sk := { tmps := [TS.v false [CS.int .i64]], boxes := [], rows := [] }
def osig_cncref23_Motion : Sk := { tmps := [TS.v false [CS.bool]], boxes := [], rows := [] }
noncomputable def C_cncref23_Motion_0  : Cfg := { spec := lookS [], eqOk := eqAll, ownOff := ownOff }
noncomputable def mf_cncref23_Motion   : List AC → Option (List AC) := modelF Tryz.prog C_cncref23_Motion_0 64 79 sig_cncref23_Motion osig_cncref23_Motion
theorem mf_cncref23_Motion_eq   (x0 : Int) : mf_cncref23_Motion   [I x0] =
 bif decide (x0 ≥ 1) then
 some [AC.bool (decide (x0 ≤ 6))]
 else
 some [AC.bool false] := by kernel_rfl
noncomputable def m_cncref23_Motion := mf_cncref23_Motion  
theorem sp_cncref23_Motion : SpecOK Tryz.prog (C_cncref23_Motion_0 ) := specOK_of rfl trivial
theorem r_cncref23_Motion : RowOK Tryz.prog (79, spOf sig_cncref23_Motion osig_cncref23_Motion m_cncref23_Motion) := row_of (C := C_cncref23_Motion_0) (L := 64) (sig := sig_cncref23_Motion) (osig := osig_cncref23_Motion) (by kernel_rfl) (FnOK.bare rfl rfl rfl) sp_cncref23_Motion eqOk mixOk (by kernel_rfl) (by kernel_rfl)
def sig_cncref25_synchronized : Sk := { tmps := [TS.v true [CS.int .i64, CS.int .i64, CS.int .i64, CS.int .i64, CS.int .i64, CS.int .i64, CS.int .i64, CS.int .i64, CS.int .i64, CS.int .i64, CS.int .i64, CS.int .i64, CS.int .i64, CS.bool, CS.int .i64, CS.bool, CS.int .i64, CS.int .i64, CS.int .i64, CS.int .i64, CS.int .i64, CS.bool]], boxes := [], rows := [] }
def osig_cncref25_synchronized : Sk := { tmps := [TS.v false [CS.bool]], boxes := [], rows := [] }
noncomputable def C_cncref25_synchronized_0  : Cfg := { spec := lookS [], eqOk := eqAll, ownOff := ownOff }
noncomputable def mf_cncref25_synchronized   : List AC → Option (List AC) := modelF Tryz.prog C_cncref25_synchronized_0 64 83 sig_cncref25_synchronized osig_cncref25_synchronized
theorem mf_cncref25_synchronized_eq   (x0 x1 x2 x3 x4 x5 x6 x7 x8 x9 x10 x11 x12 : Int) (x13 : Bool) (x14 : Int) (x15 : Bool) (x16 x17 x18 x19 x20 : Int) (x21 : Bool) : mf_cncref25_synchronized   [I x0, I x1, I x2, I x3, I x4, I x5, I x6, I x7, I x8, I x9, I x10, I x11, I x12, AC.bool x13, I x14, AC.bool x15, I x16, I x17, I x18, I x19, I x20, AC.bool x21] =
 bif x0 == 5 then
 some [AC.bool true]
 else
 some [AC.bool (x0 == 6)] := by kernel_rfl
noncomputable def m_cncref25_synchronized := mf_cncref25_synchronized  
theorem sp_cncref25_synchronized : SpecOK Tryz.prog (C_cncref25_synchronized_0 ) := specOK_of rfl trivial
theorem r_cncref25_synchronized : RowOK Tryz.prog (83, spOf sig_cncref25_synchronized osig_cncref25_synchronized m_cncref25_synchronized) := row_of (C := C_cncref25_synchronized_0) (L := 64) (sig := sig_cncref25_synchronized) (osig := osig_cncref25_synchronized) (by kernel_rfl) (FnOK.bare rfl rfl rfl) sp_cncref25_synchronized eqOk mixOk (by kernel_rfl) (by kernel_rfl)
def sig_cncref25_kind : Sk := { tmps := [TS.v false [CS.sl kItm], TS.v false [CS.int .i64]], boxes := [], rows := [] }
def osig_cncref25_kind : Sk := { tmps := [TS.v false [CS.int .i64]], boxes := [], rows := [] }
noncomputable def C_cncref25_kind_0 (M_cncref23_Motion M_cncref25_synchronized : List AC → Option (List AC)) : Cfg := { spec := lookS [(79, spOf sig_cncref23_Motion osig_cncref23_Motion M_cncref23_Motion), (83, spOf sig_cncref25_synchronized osig_cncref25_synchronized M_cncref25_synchronized)], eqOk := eqAll, ownOff := ownOff }
def sk_cncref25_kind_6 : Sk := { tmps := [TS.v false [CS.sl kItm], TS.dead, TS.dead, TS.dead, TS.dead, TS.v false [CS.int .i64]] ++ dd 38, boxes := [], rows := [] }
def ex_cncref25_kind_6 : List (Ex × Sk) := [(Ex.ret, { tmps := [TS.dead, TS.dead, TS.dead, TS.dead, TS.v false [CS.int .i64]] ++ dd 39, boxes := [], rows := [] }), (Ex.exit 0, { tmps := [TS.dead] ++ dd 43, boxes := [], rows := [] })]
noncomputable def st_cncref25_kind_6 (M_cncref23_Motion M_cncref25_synchronized : List AC → Option (List AC))  : List AC → Option (Nat × List AC) := stepL Tryz.prog (C_cncref25_kind_0 M_cncref23_Motion M_cncref25_synchronized) 64 6 (bodyOf Tryz.prog 87 6) sk_cncref25_kind_6 ex_cncref25_kind_6
noncomputable def C_cncref25_kind_1 (M_cncref23_Motion M_cncref25_synchronized : List AC → Option (List AC))  (N6 : List AC → Option (Nat × List AC)) : Cfg := (C_cncref25_kind_0 M_cncref23_Motion M_cncref25_synchronized).loop 6 sk_cncref25_kind_6 ex_cncref25_kind_6 N6
noncomputable def mf_cncref25_kind (M_cncref23_Motion M_cncref25_synchronized : List AC → Option (List AC))  (N6 : List AC → Option (Nat × List AC)) : List AC → Option (List AC) := modelF Tryz.prog (C_cncref25_kind_1 M_cncref23_Motion M_cncref25_synchronized N6) 64 87 sig_cncref25_kind osig_cncref25_kind
theorem st_cncref25_kind_6_eq (M_cncref23_Motion M_cncref25_synchronized : List AC → Option (List AC))  (v0 : List (List AC)) (v1 : Int) : st_cncref25_kind_6 M_cncref23_Motion M_cncref25_synchronized  [AC.view kItm v0, I v1] =
 bif decide (v1 < (↑v0.length : Int)) then
 bif decide (0 ≤ v1) && decide (v1 < (↑v0.length : Int)) then
 (M_cncref23_Motion [I (intOf (nth .dead (nth [] v0 v1.toNat) 0))]).bind fun o5 =>
 bif boolOf (nth .dead o5 0) then
 bif decide (0 ≤ v1) && decide (v1 < (↑v0.length : Int)) then
 (M_cncref25_synchronized [I (intOf (nth .dead (nth [] v0 v1.toNat) 0)), I (intOf (nth .dead (nth [] v0 v1.toNat) 1)), I (intOf (nth .dead (nth [] v0 v1.toNat) 2)), I (intOf (nth .dead (nth [] v0 v1.toNat) 3)), I (intOf (nth .dead (nth [] v0 v1.toNat) 4)), I (intOf (nth .dead (nth [] v0 v1.toNat) 5)), I (intOf (nth .dead (nth [] v0 v1.toNat) 6)), I (intOf (nth .dead (nth [] v0 v1.toNat) 7)), I (intOf (nth .dead (nth [] v0 v1.toNat) 8)), I (intOf (nth .dead (nth [] v0 v1.toNat) 9)), I (intOf (nth .dead (nth [] v0 v1.toNat) 10)), I (intOf (nth .dead (nth [] v0 v1.toNat) 11)), I (intOf (nth .dead (nth [] v0 v1.toNat) 12)), AC.bool (boolOf (nth .dead (nth [] v0 v1.toNat) 13)), I (intOf (nth .dead (nth [] v0 v1.toNat) 14)), AC.bool (boolOf (nth .dead (nth [] v0 v1.toNat) 15)), I (intOf (nth .dead (nth [] v0 v1.toNat) 16)), I (intOf (nth .dead (nth [] v0 v1.toNat) 17)), I (intOf (nth .dead (nth [] v0 v1.toNat) 18)), I (intOf (nth .dead (nth [] v0 v1.toNat) 19)), I (intOf (nth .dead (nth [] v0 v1.toNat) 20)), AC.bool (boolOf (nth .dead (nth [] v0 v1.toNat) 21))]).bind fun o6 =>
 bif boolOf (nth .dead o6 0) then
 some (1, [I 1])
 else
 some (2, [])
 else
 none
 else
 some (0, [AC.view kItm v0, I (IntKind.i64.wrap (v1 + 1))])
 else
 none
 else
 some (2, []) := by kernel_rfl
theorem mf_cncref25_kind_eq (M_cncref23_Motion M_cncref25_synchronized : List AC → Option (List AC))  (N6 : List AC → Option (Nat × List AC)) (x0 : List (List AC)) (x1 : Int) : mf_cncref25_kind M_cncref23_Motion M_cncref25_synchronized  N6 [AC.view kItm x0, I x1] =
 bif decide (0 ≤ x1) && decide (x1 < (↑x0.length : Int)) then
 bif intOf (nth .dead (nth [] x0 x1.toNat) 0) == 4 then
 some [I 6]
 else
 bif decide (0 ≤ x1) && decide (x1 < (↑x0.length : Int)) then
 bif intOf (nth .dead (nth [] x0 x1.toNat) 18) == 0 then
 some [I 1]
 else
 bif decide (0 ≤ x1) && decide (x1 < (↑x0.length : Int)) then
 (M_cncref25_synchronized [I (intOf (nth .dead (nth [] x0 x1.toNat) 0)), I (intOf (nth .dead (nth [] x0 x1.toNat) 1)), I (intOf (nth .dead (nth [] x0 x1.toNat) 2)), I (intOf (nth .dead (nth [] x0 x1.toNat) 3)), I (intOf (nth .dead (nth [] x0 x1.toNat) 4)), I (intOf (nth .dead (nth [] x0 x1.toNat) 5)), I (intOf (nth .dead (nth [] x0 x1.toNat) 6)), I (intOf (nth .dead (nth [] x0 x1.toNat) 7)), I (intOf (nth .dead (nth [] x0 x1.toNat) 8)), I (intOf (nth .dead (nth [] x0 x1.toNat) 9)), I (intOf (nth .dead (nth [] x0 x1.toNat) 10)), I (intOf (nth .dead (nth [] x0 x1.toNat) 11)), I (intOf (nth .dead (nth [] x0 x1.toNat) 12)), AC.bool (boolOf (nth .dead (nth [] x0 x1.toNat) 13)), I (intOf (nth .dead (nth [] x0 x1.toNat) 14)), AC.bool (boolOf (nth .dead (nth [] x0 x1.toNat) 15)), I (intOf (nth .dead (nth [] x0 x1.toNat) 16)), I (intOf (nth .dead (nth [] x0 x1.toNat) 17)), I (intOf (nth .dead (nth [] x0 x1.toNat) 18)), I (intOf (nth .dead (nth [] x0 x1.toNat) 19)), I (intOf (nth .dead (nth [] x0 x1.toNat) 20)), AC.bool (boolOf (nth .dead (nth [] x0 x1.toNat) 21))]).bind fun o7 =>
 bif boolOf (nth .dead o7 0) then
 some [I 1]
 else
 (N6 [AC.view kItm x0, I (IntKind.i64.wrap (x1 + 1))]).bind fun o8 =>
 bif o8.fst.beq 1 then
 some [I (intOf (nth .dead o8.snd 0))]
 else
 bif o8.fst.beq 2 then
 some [I 2]
 else
 none
 else
 none
 else
 none
 else
 none := by kernel_rfl
noncomputable def l_cncref25_kind_6 := loopC (st_cncref25_kind_6 m_cncref23_Motion m_cncref25_synchronized )
noncomputable def m_cncref25_kind := mf_cncref25_kind m_cncref23_Motion m_cncref25_synchronized  l_cncref25_kind_6
theorem sp_cncref25_kind : SpecOK Tryz.prog (C_cncref25_kind_0 m_cncref23_Motion m_cncref25_synchronized) := specOK_of rfl ⟨r_cncref23_Motion, r_cncref25_synchronized, trivial⟩
theorem r_cncref25_kind : RowOK Tryz.prog (87, spOf sig_cncref25_kind osig_cncref25_kind m_cncref25_kind) := row_of (C := (C_cncref25_kind_1 m_cncref23_Motion m_cncref25_synchronized l_cncref25_kind_6)) (L := 64) (sig := sig_cncref25_kind) (osig := osig_cncref25_kind) (by kernel_rfl) ((FnOK.bare rfl rfl rfl).loop sp_cncref25_kind eqOk mixOk (by kernel_rfl) (by kernel_rfl)) sp_cncref25_kind eqOk mixOk (by kernel_rfl) (by kernel_rfl)
def sig_cncref25_Smooth : Sk := { tmps := [TS.v true [CS.int .i64, CS.int .i64, CS.int .i64, CS.int .i64, CS.int .i64, CS.int .i64, CS.int .i64, CS.int .i64, CS.int .i64, CS.int .i64, CS.int .i64, CS.int .i64, CS.int .i64, CS.bool, CS.int .i64, CS.bool, CS.int .i64, CS.int .i64, CS.int .i64, CS.int .i64, CS.int .i64, CS.bool]], boxes := [], rows := [] }
def osig_cncref25_Smooth : Sk := { tmps := [TS.v false [CS.bool]], boxes := [], rows := [] }
noncomputable def C_cncref25_Smooth_0  : Cfg := { spec := lookS [], eqOk := eqAll, ownOff := ownOff }
noncomputable def mf_cncref25_Smooth   : List AC → Option (List AC) := modelF Tryz.prog C_cncref25_Smooth_0 64 89 sig_cncref25_Smooth osig_cncref25_Smooth
theorem mf_cncref25_Smooth_eq   (x0 x1 x2 x3 x4 x5 x6 x7 x8 x9 x10 x11 x12 : Int) (x13 : Bool) (x14 : Int) (x15 : Bool) (x16 x17 x18 x19 x20 : Int) (x21 : Bool) : mf_cncref25_Smooth   [I x0, I x1, I x2, I x3, I x4, I x5, I x6, I x7, I x8, I x9, I x10, I x11, I x12, AC.bool x13, I x14, AC.bool x15, I x16, I x17, I x18, I x19, I x20, AC.bool x21] =
 bif x0 == 2 then
 some [AC.bool !(x2 == x5 && (x3 == x6 && (x4 == x7 && true)))]
 else
 some [AC.bool false] := by kernel_rfl
noncomputable def m_cncref25_Smooth := mf_cncref25_Smooth  
theorem sp_cncref25_Smooth : SpecOK Tryz.prog (C_cncref25_Smooth_0 ) := specOK_of rfl trivial
theorem r_cncref25_Smooth : RowOK Tryz.prog (89, spOf sig_cncref25_Smooth osig_cncref25_Smooth m_cncref25_Smooth) := row_of (C := C_cncref25_Smooth_0) (L := 64) (sig := sig_cncref25_Smooth) (osig := osig_cncref25_Smooth) (by kernel_rfl) (FnOK.bare rfl rfl rfl) sp_cncref25_Smooth eqOk mixOk (by kernel_rfl) (by kernel_rfl)
def sig_cncref25_Soft : Sk := { tmps := [TS.v false [CS.sl kItm], TS.v false [CS.int .i64]], boxes := [], rows := [] }
def osig_cncref25_Soft : Sk := { tmps := [TS.v false [CS.int .i64]], boxes := [], rows := [] }
noncomputable def C_cncref25_Soft_0 (M_cncref25_Smooth : List AC → Option (List AC)) : Cfg := { spec := lookS [(89, spOf sig_cncref25_Smooth osig_cncref25_Smooth M_cncref25_Smooth)], eqOk := eqAll, ownOff := ownOff }
def sk_cncref25_Soft_4 : Sk := { tmps := [TS.v false [CS.sl kItm], TS.dead, TS.dead, TS.dead, TS.dead, TS.v false [CS.int .i64]] ++ dd 34, boxes := [], rows := [] }
def ex_cncref25_Soft_4 : List (Ex × Sk) := [(Ex.ret, { tmps := [TS.dead, TS.dead, TS.dead, TS.dead, TS.v false [CS.int .i64]] ++ dd 35, boxes := [], rows := [] }), (Ex.exit 0, { tmps := [TS.dead] ++ dd 39, boxes := [], rows := [] })]
noncomputable def st_cncref25_Soft_4 (M_cncref25_Smooth : List AC → Option (List AC))  : List AC → Option (Nat × List AC) := stepL Tryz.prog (C_cncref25_Soft_0 M_cncref25_Smooth) 64 4 (bodyOf Tryz.prog 86 4) sk_cncref25_Soft_4 ex_cncref25_Soft_4
noncomputable def C_cncref25_Soft_1 (M_cncref25_Smooth : List AC → Option (List AC))  (N4 : List AC → Option (Nat × List AC)) : Cfg := (C_cncref25_Soft_0 M_cncref25_Smooth).loop 4 sk_cncref25_Soft_4 ex_cncref25_Soft_4 N4
noncomputable def mf_cncref25_Soft (M_cncref25_Smooth : List AC → Option (List AC))  (N4 : List AC → Option (Nat × List AC)) : List AC → Option (List AC) := modelF Tryz.prog (C_cncref25_Soft_1 M_cncref25_Smooth N4) 64 86 sig_cncref25_Soft osig_cncref25_Soft
theorem st_cncref25_Soft_4_eq (M_cncref25_Smooth : List AC → Option (List AC))  (v0 : List (List AC)) (v1 : Int) : st_cncref25_Soft_4 M_cncref25_Smooth  [AC.view kItm v0, I v1] =
 bif decide (v1 < (↑v0.length : Int)) then
 bif decide (0 ≤ v1) && decide (v1 < (↑v0.length : Int)) then
 bif intOf (nth .dead (nth [] v0 v1.toNat) 0) == 10 then
 some (0, [AC.view kItm v0, I (IntKind.i64.wrap (v1 + 1))])
 else
 bif decide (0 ≤ v1) && decide (v1 < (↑v0.length : Int)) then
 (M_cncref25_Smooth [I (intOf (nth .dead (nth [] v0 v1.toNat) 0)), I (intOf (nth .dead (nth [] v0 v1.toNat) 1)), I (intOf (nth .dead (nth [] v0 v1.toNat) 2)), I (intOf (nth .dead (nth [] v0 v1.toNat) 3)), I (intOf (nth .dead (nth [] v0 v1.toNat) 4)), I (intOf (nth .dead (nth [] v0 v1.toNat) 5)), I (intOf (nth .dead (nth [] v0 v1.toNat) 6)), I (intOf (nth .dead (nth [] v0 v1.toNat) 7)), I (intOf (nth .dead (nth [] v0 v1.toNat) 8)), I (intOf (nth .dead (nth [] v0 v1.toNat) 9)), I (intOf (nth .dead (nth [] v0 v1.toNat) 10)), I (intOf (nth .dead (nth [] v0 v1.toNat) 11)), I (intOf (nth .dead (nth [] v0 v1.toNat) 12)), AC.bool (boolOf (nth .dead (nth [] v0 v1.toNat) 13)), I (intOf (nth .dead (nth [] v0 v1.toNat) 14)), AC.bool (boolOf (nth .dead (nth [] v0 v1.toNat) 15)), I (intOf (nth .dead (nth [] v0 v1.toNat) 16)), I (intOf (nth .dead (nth [] v0 v1.toNat) 17)), I (intOf (nth .dead (nth [] v0 v1.toNat) 18)), I (intOf (nth .dead (nth [] v0 v1.toNat) 19)), I (intOf (nth .dead (nth [] v0 v1.toNat) 20)), AC.bool (boolOf (nth .dead (nth [] v0 v1.toNat) 21))]).bind fun o4 =>
 bif boolOf (nth .dead o4 0) then
 some (1, [I v1])
 else
 some (1, [I (-1)])
 else
 none
 else
 none
 else
 some (2, []) := by kernel_rfl
theorem mf_cncref25_Soft_eq (M_cncref25_Smooth : List AC → Option (List AC))  (N4 : List AC → Option (Nat × List AC)) (x0 : List (List AC)) (x1 : Int) : mf_cncref25_Soft M_cncref25_Smooth  N4 [AC.view kItm x0, I x1] =
 bif decide (0 ≤ x1) && decide (x1 < (↑x0.length : Int)) then
 (M_cncref25_Smooth [I (intOf (nth .dead (nth [] x0 x1.toNat) 0)), I (intOf (nth .dead (nth [] x0 x1.toNat) 1)), I (intOf (nth .dead (nth [] x0 x1.toNat) 2)), I (intOf (nth .dead (nth [] x0 x1.toNat) 3)), I (intOf (nth .dead (nth [] x0 x1.toNat) 4)), I (intOf (nth .dead (nth [] x0 x1.toNat) 5)), I (intOf (nth .dead (nth [] x0 x1.toNat) 6)), I (intOf (nth .dead (nth [] x0 x1.toNat) 7)), I (intOf (nth .dead (nth [] x0 x1.toNat) 8)), I (intOf (nth .dead (nth [] x0 x1.toNat) 9)), I (intOf (nth .dead (nth [] x0 x1.toNat) 10)), I (intOf (nth .dead (nth [] x0 x1.toNat) 11)), I (intOf (nth .dead (nth [] x0 x1.toNat) 12)), AC.bool (boolOf (nth .dead (nth [] x0 x1.toNat) 13)), I (intOf (nth .dead (nth [] x0 x1.toNat) 14)), AC.bool (boolOf (nth .dead (nth [] x0 x1.toNat) 15)), I (intOf (nth .dead (nth [] x0 x1.toNat) 16)), I (intOf (nth .dead (nth [] x0 x1.toNat) 17)), I (intOf (nth .dead (nth [] x0 x1.toNat) 18)), I (intOf (nth .dead (nth [] x0 x1.toNat) 19)), I (intOf (nth .dead (nth [] x0 x1.toNat) 20)), AC.bool (boolOf (nth .dead (nth [] x0 x1.toNat) 21))]).bind fun o5 =>
 bif !boolOf (nth .dead o5 0) then
 some [I (-1)]
 else
 bif decide (0 ≤ x1) && decide (x1 < (↑x0.length : Int)) then
 bif intOf (nth .dead (nth [] x0 x1.toNat) 18) == 0 then
 some [I (-1)]
 else
 (N4 [AC.view kItm x0, I (IntKind.i64.wrap (x1 + 1))]).bind fun o6 =>
 bif o6.fst.beq 1 then
 some [I (intOf (nth .dead o6.snd 0))]
 else
 bif o6.fst.beq 2 then
 some [I (-1)]
 else
 none
 else
 none
 else
 none := by kernel_rfl
noncomputable def l_cncref25_Soft_4 := loopC (st_cncref25_Soft_4 m_cncref25_Smooth )
noncomputable def m_cncref25_Soft := mf_cncref25_Soft m_cncref25_Smooth  l_cncref25_Soft_4
theorem sp_cncref25_Soft : SpecOK Tryz.prog (C_cncref25_Soft_0 m_cncref25_Smooth) := specOK_of rfl ⟨r_cncref25_Smooth, trivial⟩
theorem r_cncref25_Soft : RowOK Tryz.prog (86, spOf sig_cncref25_Soft osig_cncref25_Soft m_cncref25_Soft) := row_of (C := (C_cncref25_Soft_1 m_cncref25_Smooth l_cncref25_Soft_4)) (L := 64) (sig := sig_cncref25_Soft) (osig := osig_cncref25_Soft) (by kernel_rfl) ((FnOK.bare rfl rfl rfl).loop sp_cncref25_Soft eqOk mixOk (by kernel_rfl) (by kernel_rfl)) sp_cncref25_Soft eqOk mixOk (by kernel_rfl) (by kernel_rfl)
def sig_cncref23_root : Sk := { tmps := [TS.v false [CS.int .i64]], boxes := [], rows := [] }
def osig_cncref23_root : Sk := { tmps := [TS.v false [CS.int .i64]], boxes := [], rows := [] }
noncomputable def C_cncref23_root_0  : Cfg := { spec := lookS [], eqOk := eqAll, ownOff := ownOff }
def sk_cncref23_root_3 : Sk := { tmps := [TS.v false [CS.int .i64], TS.dead, TS.dead, TS.v false [CS.int .i64], TS.v false [CS.int .i64]] ++ dd 17, boxes := [], rows := [] }
def ex_cncref23_root_3 : List (Ex × Sk) := [(Ex.exit 0, { tmps := [TS.dead, TS.dead, TS.dead, TS.v false [CS.int .i64]] ++ dd 18, boxes := [], rows := [] })]
noncomputable def st_cncref23_root_3   : List AC → Option (Nat × List AC) := stepL Tryz.prog C_cncref23_root_0 64 3 (bodyOf Tryz.prog 117 3) sk_cncref23_root_3 ex_cncref23_root_3
noncomputable def C_cncref23_root_1   (N3 : List AC → Option (Nat × List AC)) : Cfg := C_cncref23_root_0.loop 3 sk_cncref23_root_3 ex_cncref23_root_3 N3
noncomputable def mf_cncref23_root   (N3 : List AC → Option (Nat × List AC)) : List AC → Option (List AC) := modelF Tryz.prog (C_cncref23_root_1  N3) 64 117 sig_cncref23_root osig_cncref23_root
theorem st_cncref23_root_3_eq   (v0 v1 v2 : Int) : st_cncref23_root_3   [I v0, I v1, I v2] =
 bif decide (v2 > 0) then
 bif decide (IntKind.i64.wrap (IntKind.i64.wrap (v1 + v2) * IntKind.i64.wrap (v1 + v2)) ≤ v0) then
 some (0, [I v0, I (IntKind.i64.wrap (v1 + v2)), I (v2.fdiv (2 ^ min (Int.toNat 1) IntKind.i64.bits))])
 else
 some (0, [I v0, I v1, I (v2.fdiv (2 ^ min (Int.toNat 1) IntKind.i64.bits))])
 else
 some (1, [I v1]) := by kernel_rfl
theorem mf_cncref23_root_eq   (N3 : List AC → Option (Nat × List AC)) (x0 : Int) : mf_cncref23_root   N3 [I x0] =
 (N3 [I x0, I 0, I 1073741824]).bind fun o1 =>
 bif o1.fst.beq 1 then
 some [I (intOf (nth .dead o1.snd 0))]
 else
 none := by kernel_rfl
noncomputable def l_cncref23_root_3 := loopC (st_cncref23_root_3  )
noncomputable def m_cncref23_root := mf_cncref23_root   l_cncref23_root_3
theorem sp_cncref23_root : SpecOK Tryz.prog (C_cncref23_root_0 ) := specOK_of rfl trivial
theorem r_cncref23_root : RowOK Tryz.prog (117, spOf sig_cncref23_root osig_cncref23_root m_cncref23_root) := row_of (C := (C_cncref23_root_1  l_cncref23_root_3)) (L := 64) (sig := sig_cncref23_root) (osig := osig_cncref23_root) (by kernel_rfl) ((FnOK.bare rfl rfl rfl).loop sp_cncref23_root eqOk mixOk (by kernel_rfl) (by kernel_rfl)) sp_cncref23_root eqOk mixOk (by kernel_rfl) (by kernel_rfl)
def sig_cncref23_Square : Sk := { tmps := [TS.v true [CS.int .i64, CS.int .i64, CS.int .i64], TS.v true [CS.int .i64, CS.int .i64, CS.int .i64]], boxes := [], rows := [] }
def osig_cncref23_Square : Sk := { tmps := [TS.v false [CS.int .i64]], boxes := [], rows := [] }
noncomputable def C_cncref23_Square_0  : Cfg := { spec := lookS [], eqOk := eqAll, ownOff := ownOff, unroll := [3] }
noncomputable def mf_cncref23_Square   : List AC → Option (List AC) := modelF Tryz.prog C_cncref23_Square_0 64 116 sig_cncref23_Square osig_cncref23_Square
theorem mf_cncref23_Square_eq   (x0 x1 x2 x3 x4 x5 : Int) : mf_cncref23_Square   [I x0, I x1, I x2, I x3, I x4, I x5] =
 some [I (IntKind.i64.wrap (IntKind.i64.wrap (IntKind.i64.wrap (0 + IntKind.i64.wrap (IntKind.i64.wrap (x0 - x3) * IntKind.i64.wrap (x0 - x3))) + IntKind.i64.wrap (IntKind.i64.wrap (x1 - x4) * IntKind.i64.wrap (x1 - x4))) + IntKind.i64.wrap (IntKind.i64.wrap (x2 - x5) * IntKind.i64.wrap (x2 - x5))))] := by kernel_rfl
noncomputable def m_cncref23_Square := mf_cncref23_Square  
theorem sp_cncref23_Square : SpecOK Tryz.prog (C_cncref23_Square_0 ) := specOK_of rfl trivial
theorem r_cncref23_Square : RowOK Tryz.prog (116, spOf sig_cncref23_Square osig_cncref23_Square m_cncref23_Square) := row_of (C := C_cncref23_Square_0) (L := 64) (sig := sig_cncref23_Square) (osig := osig_cncref23_Square) (by kernel_rfl) (FnOK.bare rfl rfl rfl) sp_cncref23_Square eqOk mixOk (by kernel_rfl) (by kernel_rfl)
def sig_cncref23_Length : Sk := { tmps := [TS.v true [CS.int .i64, CS.int .i64, CS.int .i64], TS.v true [CS.int .i64, CS.int .i64, CS.int .i64]], boxes := [], rows := [] }
def osig_cncref23_Length : Sk := { tmps := [TS.v false [CS.int .i64]], boxes := [], rows := [] }
noncomputable def C_cncref23_Length_0 (M_cncref23_root M_cncref23_Square : List AC → Option (List AC)) : Cfg := { spec := lookS [(117, spOf sig_cncref23_root osig_cncref23_root M_cncref23_root), (116, spOf sig_cncref23_Square osig_cncref23_Square M_cncref23_Square)], eqOk := eqAll, ownOff := ownOff }
noncomputable def mf_cncref23_Length (M_cncref23_root M_cncref23_Square : List AC → Option (List AC))  : List AC → Option (List AC) := modelF Tryz.prog (C_cncref23_Length_0 M_cncref23_root M_cncref23_Square) 64 85 sig_cncref23_Length osig_cncref23_Length
theorem mf_cncref23_Length_eq (M_cncref23_root M_cncref23_Square : List AC → Option (List AC))  (x0 x1 x2 x3 x4 x5 : Int) : mf_cncref23_Length M_cncref23_root M_cncref23_Square  [I x0, I x1, I x2, I x3, I x4, I x5] =
 (M_cncref23_Square [I x0, I x1, I x2, I x3, I x4, I x5]).bind fun o2 =>
 (M_cncref23_root [I (intOf (nth .dead o2 0))]).bind fun o3 =>
 bif decide (IntKind.i64.wrap (intOf (nth .dead o3 0) * intOf (nth .dead o3 0)) < intOf (nth .dead o2 0)) then
 some [I (IntKind.i64.wrap (intOf (nth .dead o3 0) + 1))]
 else
 some [I (intOf (nth .dead o3 0))] := by kernel_rfl
noncomputable def m_cncref23_Length := mf_cncref23_Length m_cncref23_root m_cncref23_Square 
theorem sp_cncref23_Length : SpecOK Tryz.prog (C_cncref23_Length_0 m_cncref23_root m_cncref23_Square) := specOK_of rfl ⟨r_cncref23_root, r_cncref23_Square, trivial⟩
theorem r_cncref23_Length : RowOK Tryz.prog (85, spOf sig_cncref23_Length osig_cncref23_Length m_cncref23_Length) := row_of (C := (C_cncref23_Length_0 m_cncref23_root m_cncref23_Square)) (L := 64) (sig := sig_cncref23_Length) (osig := osig_cncref23_Length) (by kernel_rfl) (FnOK.bare rfl rfl rfl) sp_cncref23_Length eqOk mixOk (by kernel_rfl) (by kernel_rfl)
end Go.Bm
