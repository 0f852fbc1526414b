/- functions of the program and of the references, as models -/
import Derived.Test.YtdllaekpkcanbaaGreatMx2
set_option linter.unusedSimpArgs false
set_option linter.unusedVariables false
set_option maxRecDepth 100000
namespace Go.Bm
open Go.Proofs
def sig_cncref25_Build : Sk := { tmps := [TS.v false [CS.sl kItm]], boxes := [], rows := [] }
def osig_cncref25_Build : Sk := { tmps := [TS.tup [(true, [CS.int .i64, CS.int .i64, CS.int .i64, CS.sl kSgm, CS.sl kPt]), (false, [CS.int .i64])]], boxes := [], rows := [] }
noncomputable def C_cncref25_Build_0 (M_cncref25_kind M_cncref25_Soft M_cncref23_Length M_cncref25_points M_cncref25_synchronized M_cncref25_Rate M_cncref23_Fine M_cncref25_other M_cncref23_Motion M_cncref25_Check : List AC → Option (List AC)) : Cfg := { spec := lookS [(87, spOf sig_cncref25_kind osig_cncref25_kind M_cncref25_kind), (86, spOf sig_cncref25_Soft osig_cncref25_Soft M_cncref25_Soft), (85, spOf sig_cncref23_Length osig_cncref23_Length M_cncref23_Length), (84, spOf sig_cncref25_points osig_cncref25_points M_cncref25_points), (83, spOf sig_cncref25_synchronized osig_cncref25_synchronized M_cncref25_synchronized), (82, spOf sig_cncref25_Rate osig_cncref25_Rate M_cncref25_Rate), (81, spOf sig_cncref23_Fine osig_cncref23_Fine M_cncref23_Fine), (80, spOf sig_cncref25_other osig_cncref25_other M_cncref25_other), (79, spOf sig_cncref23_Motion osig_cncref23_Motion M_cncref23_Motion), (78, spOf sig_cncref25_Check osig_cncref25_Check M_cncref25_Check)], eqOk := eqAll, ownOff := ownOffX, ownBut := [2] }
def sk_cncref25_Build_19 : Sk := { tmps := [TS.v false [CS.sl kItm], TS.dead, TS.v false [CS.ptr 2 0], TS.dead, TS.dead, TS.v false [CS.ptr 5 0], TS.v false [CS.ptr 6 0], TS.v false [CS.int .i64], TS.v false [CS.int .i64], TS.dead, TS.v false [CS.bool], TS.v false [CS.int .i64], TS.dead, TS.v false [CS.ptr 13 0], TS.dead, TS.dead, TS.dead, TS.dead, TS.dead, TS.dead, TS.dead, TS.dead, TS.dead, TS.v false [CS.sl kItm], TS.v false [CS.int .i64], TS.v false [CS.int .i64], TS.dead, TS.dead, TS.dead, TS.dead, TS.dead, TS.dead, TS.dead, TS.dead, TS.dead, TS.dead, TS.dead, TS.dead, TS.dead, TS.dead, TS.dead, TS.dead, TS.dead, TS.dead, TS.dead, TS.dead, TS.dead, TS.dead, TS.dead, TS.dead, TS.dead, TS.dead, TS.dead, TS.dead, TS.dead, TS.dead, TS.dead, TS.dead, TS.dead, TS.dead, TS.dead, TS.dead, TS.dead, TS.dead, TS.dead, TS.dead, TS.dead, TS.dead, TS.dead, TS.dead, TS.dead, TS.dead, TS.dead, TS.dead, TS.dead, TS.dead, TS.dead, TS.dead, TS.dead, TS.dead, TS.dead, TS.dead, TS.dead, TS.v false [CS.sl kPt], TS.v false [CS.int .i64], TS.v false [CS.int .i64]] ++ dd 47, boxes := [(2, 29, [CS.int .i64, CS.int .i64, CS.int .i64, CS.sl kSgm, CS.sl kPt]), (5, 29, [CS.int .i64, CS.int .i64, CS.int .i64, CS.own 1005003 7, CS.own 1005004 3]), (6, 25, [CS.int .i64, CS.int .i64, CS.int .i64]), (13, 78, [CS.int .i64, CS.int .i64, CS.int .i64, CS.int .i64, CS.int .i64, CS.int .i64, CS.int .i64])], rows := [(1005003, 78, kSgm), (1005004, 80, kPt)] }
def ex_cncref25_Build_19 : List (Ex × Sk) := [(Ex.ret, { tmps := [TS.dead, TS.dead, TS.v false [CS.ptr 2 0], TS.v false [CS.int .i64]] ++ dd 129, boxes := [(2, 29, [CS.int .i64, CS.int .i64, CS.int .i64, CS.nil, CS.nil])], rows := [] }), (Ex.exit 2, { tmps := [TS.v false [CS.sl kItm], TS.dead, TS.v false [CS.ptr 2 0], TS.dead, TS.dead, TS.v false [CS.ptr 5 0], TS.v false [CS.ptr 6 0], TS.v false [CS.int .i64], TS.v false [CS.int .i64], TS.dead, TS.v false [CS.bool], TS.v false [CS.int .i64], TS.dead, TS.dead, TS.dead, TS.dead, TS.dead, TS.dead, TS.dead, TS.dead, TS.dead, TS.dead, TS.dead, TS.v false [CS.sl kItm], TS.v false [CS.int .i64], TS.v false [CS.int .i64]] ++ dd 107, boxes := [(2, 29, [CS.int .i64, CS.int .i64, CS.int .i64, CS.sl kSgm, CS.sl kPt]), (5, 29, [CS.int .i64, CS.int .i64, CS.int .i64, CS.own 1005003 7, CS.own 1005004 3]), (6, 25, [CS.int .i64, CS.int .i64, CS.int .i64])], rows := [(1005003, 78, kSgm), (1005004, 80, kPt)] })]
noncomputable def st_cncref25_Build_19 (M_cncref25_kind M_cncref25_Soft M_cncref23_Length M_cncref25_points M_cncref25_synchronized M_cncref25_Rate M_cncref23_Fine M_cncref25_other M_cncref23_Motion M_cncref25_Check : List AC → Option (List AC))  : List AC → Option (Nat × List AC) := stepL Tryz.prog (C_cncref25_Build_0 M_cncref25_kind M_cncref25_Soft M_cncref23_Length M_cncref25_points M_cncref25_synchronized M_cncref25_Rate M_cncref23_Fine M_cncref25_other M_cncref23_Motion M_cncref25_Check) 64 19 (bodyOf Tryz.prog 43 19) sk_cncref25_Build_19 ex_cncref25_Build_19
noncomputable def C_cncref25_Build_1 (M_cncref25_kind M_cncref25_Soft M_cncref23_Length M_cncref25_points M_cncref25_synchronized M_cncref25_Rate M_cncref23_Fine M_cncref25_other M_cncref23_Motion M_cncref25_Check : List AC → Option (List AC))  (N19 : List AC → Option (Nat × List AC)) : Cfg := (C_cncref25_Build_0 M_cncref25_kind M_cncref25_Soft M_cncref23_Length M_cncref25_points M_cncref25_synchronized M_cncref25_Rate M_cncref23_Fine M_cncref25_other M_cncref23_Motion M_cncref25_Check).loop 19 sk_cncref25_Build_19 ex_cncref25_Build_19 N19
def sk_cncref25_Build_7 : Sk := { tmps := [TS.v false [CS.sl kItm], TS.dead, TS.v false [CS.ptr 2 0], TS.dead, TS.dead, TS.v false [CS.ptr 5 0], TS.v false [CS.ptr 6 0], TS.v false [CS.int .i64], TS.v false [CS.int .i64], TS.v false [CS.int .i64], TS.v false [CS.bool], TS.dead, TS.dead, TS.dead, TS.dead, TS.dead, TS.dead, TS.dead, TS.dead, TS.dead, TS.dead, TS.dead, TS.dead, TS.v false [CS.sl kItm], TS.v false [CS.int .i64], TS.v false [CS.int .i64]] ++ dd 107, boxes := [(2, 29, [CS.int .i64, CS.int .i64, CS.int .i64, CS.sl kSgm, CS.sl kPt]), (5, 29, [CS.int .i64, CS.int .i64, CS.int .i64, CS.own 1005003 7, CS.own 1005004 3]), (6, 25, [CS.int .i64, CS.int .i64, CS.int .i64])], rows := [(1005003, 78, kSgm), (1005004, 80, kPt)] }
def ex_cncref25_Build_7 : List (Ex × Sk) := [(Ex.ret, { tmps := [TS.dead, TS.dead, TS.v false [CS.ptr 2 0], TS.v false [CS.int .i64]] ++ dd 129, boxes := [(2, 29, [CS.int .i64, CS.int .i64, CS.int .i64, CS.nil, CS.nil])], rows := [] }), (Ex.exit 0, { tmps := [TS.dead, TS.dead, TS.v false [CS.ptr 2 0], TS.dead, TS.dead, TS.v false [CS.ptr 5 0]] ++ dd 127, boxes := [(2, 29, [CS.int .i64, CS.int .i64, CS.int .i64, CS.sl kSgm, CS.sl kPt]), (5, 29, [CS.int .i64, CS.int .i64, CS.int .i64, CS.own 1005003 7, CS.own 1005004 3])], rows := [(1005003, 78, kSgm), (1005004, 80, kPt)] })]
noncomputable def st_cncref25_Build_7 (M_cncref25_kind M_cncref25_Soft M_cncref23_Length M_cncref25_points M_cncref25_synchronized M_cncref25_Rate M_cncref23_Fine M_cncref25_other M_cncref23_Motion M_cncref25_Check : List AC → Option (List AC))  (N19 : List AC → Option (Nat × List AC)) : List AC → Option (Nat × List AC) := stepL Tryz.prog (C_cncref25_Build_1 M_cncref25_kind M_cncref25_Soft M_cncref23_Length M_cncref25_points M_cncref25_synchronized M_cncref25_Rate M_cncref23_Fine M_cncref25_other M_cncref23_Motion M_cncref25_Check N19) 64 7 (bodyOf Tryz.prog 43 7) sk_cncref25_Build_7 ex_cncref25_Build_7
noncomputable def C_cncref25_Build_2 (M_cncref25_kind M_cncref25_Soft M_cncref23_Length M_cncref25_points M_cncref25_synchronized M_cncref25_Rate M_cncref23_Fine M_cncref25_other M_cncref23_Motion M_cncref25_Check : List AC → Option (List AC))  (N19 N7 : List AC → Option (Nat × List AC)) : Cfg := (C_cncref25_Build_1 M_cncref25_kind M_cncref25_Soft M_cncref23_Length M_cncref25_points M_cncref25_synchronized M_cncref25_Rate M_cncref23_Fine M_cncref25_other M_cncref23_Motion M_cncref25_Check N19).loop 7 sk_cncref25_Build_7 ex_cncref25_Build_7 N7
noncomputable def mf_cncref25_Build (M_cncref25_kind M_cncref25_Soft M_cncref23_Length M_cncref25_points M_cncref25_synchronized M_cncref25_Rate M_cncref23_Fine M_cncref25_other M_cncref23_Motion M_cncref25_Check : List AC → Option (List AC))  (N19 N7 : List AC → Option (Nat × List AC)) : List AC → Option (List AC) := modelF Tryz.prog (C_cncref25_Build_2 M_cncref25_kind M_cncref25_Soft M_cncref23_Length M_cncref25_points M_cncref25_synchronized M_cncref25_Rate M_cncref23_Fine M_cncref25_other M_cncref23_Motion M_cncref25_Check N19 N7) 64 43 sig_cncref25_Build osig_cncref25_Build
theorem st_cncref25_Build_19_eq (M_cncref25_kind M_cncref25_Soft M_cncref23_Length M_cncref25_points M_cncref25_synchronized M_cncref25_Rate M_cncref23_Fine M_cncref25_other M_cncref23_Motion M_cncref25_Check : List AC → Option (List AC))  (v0 v1 v2 : List (List AC)) (v3 v4 : Int) (v5 : Bool) (v6 : Int) (v7 : List (List AC)) (v8 v9 : Int) (v10 : List (List AC)) (v11 v12 v13 v14 v15 : Int) (v16 v17 : List (List AC)) (v18 v19 v20 v21 v22 v23 v24 v25 v26 v27 v28 v29 v30 : Int) : st_cncref25_Build_19 M_cncref25_kind M_cncref25_Soft M_cncref23_Length M_cncref25_points M_cncref25_synchronized M_cncref25_Rate M_cncref23_Fine M_cncref25_other M_cncref23_Motion M_cncref25_Check  [AC.view kSgm v0, AC.view kPt v1, AC.view kItm v2, I v3, I v4, AC.bool v5, I v6, AC.view kItm v7, I v8, I v9, AC.view kPt v10, I v11, I v12, I v13, I v14, I v15, AC.view kSgm v16, AC.view kPt v17, I v18, I v19, I v20, I v21, I v22, I v23, I v24, I v25, I v26, I v27, I v28, I v29, I v30] =
 bif decide (v12 < v11) then
 bif decide (0 ≤ v12) && decide (v12 < (↑v10.length : Int)) then
 bif intOf (nth .dead (nth [] v10 v12.toNat) 0) == v21 && (intOf (nth .dead (nth [] v10 v12.toNat) 1) == v22 && (intOf (nth .dead (nth [] v10 v12.toNat) 2) == v23 && true)) then
 some (0, [AC.view kSgm v0, AC.view kPt v1, AC.view kItm v2, I v3, I v4, AC.bool v5, I v6, AC.view kItm v7, I v8, I v9, AC.view kPt v10, I v11, I (IntKind.i64.wrap (v12 + 1)), I v13, I v14, I v15, AC.view kSgm v16, AC.view kPt v17, I v18, I v19, I v20, I v21, I v22, I v23, I v24, I v25, I v26, I v27, I v28, I v29, I v30])
 else
 (M_cncref23_Length [I v21, I v22, I v23, I (intOf (nth .dead (nth [] v10 v12.toNat) 0)), I (intOf (nth .dead (nth [] v10 v12.toNat) 1)), I (intOf (nth .dead (nth [] v10 v12.toNat) 2))]).bind fun o124 =>
 bif ((v0 ++ [[I (intOf (nth .dead (nth [] v10 v12.toNat) 0)), I (intOf (nth .dead (nth [] v10 v12.toNat) 1)), I (intOf (nth .dead (nth [] v10 v12.toNat) 2)), I (intOf (nth .dead o124 0)), I v28, I v29, I v30]]).length * 56).ble 140737488355328 then
 bif decide ((↑(v0 ++ [[I (intOf (nth .dead (nth [] v10 v12.toNat) 0)), I (intOf (nth .dead (nth [] v10 v12.toNat) 1)), I (intOf (nth .dead (nth [] v10 v12.toNat) 2)), I (intOf (nth .dead o124 0)), I v28, I v29, I v30]]).length : Int) > 1048576) then
 some (1, [I 10, I 0, I 0, I 0])
 else
 some (0, [AC.view kSgm (v0 ++ [[I (intOf (nth .dead (nth [] v10 v12.toNat) 0)), I (intOf (nth .dead (nth [] v10 v12.toNat) 1)), I (intOf (nth .dead (nth [] v10 v12.toNat) 2)), I (intOf (nth .dead o124 0)), I v28, I v29, I v30]]), AC.view kPt v1, AC.view kItm v2, I (IntKind.i64.wrap (v3 + intOf (nth .dead o124 0))), I v4, AC.bool v5, I v6, AC.view kItm v7, I v8, I v9, AC.view kPt v10, I v11, I (IntKind.i64.wrap (v12 + 1)), I v13, I v14, I v15, AC.view kSgm v16, AC.view kPt v17, I v18, I v19, I v20, I (intOf (nth .dead (nth [] v10 v12.toNat) 0)), I (intOf (nth .dead (nth [] v10 v12.toNat) 1)), I (intOf (nth .dead (nth [] v10 v12.toNat) 2)), I (intOf (nth .dead (nth [] v10 v12.toNat) 0)), I (intOf (nth .dead (nth [] v10 v12.toNat) 1)), I (intOf (nth .dead (nth [] v10 v12.toNat) 2)), I (intOf (nth .dead o124 0)), I v28, I v29, I v30])
 else
 none
 else
 none
 else
 some (2, [AC.view kSgm v0, AC.view kPt v1, AC.view kItm v2, I v3, I v4, AC.bool v5, I v6, AC.view kItm v7, I v8, I v9, I v13, I v14, I v15, AC.view kSgm v16, AC.view kPt v17, I v18, I v19, I v20, I v21, I v22, I v23]) := by kernel_rfl
theorem st_cncref25_Build_7_eq (M_cncref25_kind M_cncref25_Soft M_cncref23_Length M_cncref25_points M_cncref25_synchronized M_cncref25_Rate M_cncref23_Fine M_cncref25_other M_cncref23_Motion M_cncref25_Check : List AC → Option (List AC))  (N19 : List AC → Option (Nat × List AC)) (v0 v1 v2 : List (List AC)) (v3 v4 v5 : Int) (v6 : Bool) (v7 : List (List AC)) (v8 v9 v10 v11 v12 : Int) (v13 v14 : List (List AC)) (v15 v16 v17 v18 v19 v20 : Int) : st_cncref25_Build_7 M_cncref25_kind M_cncref25_Soft M_cncref23_Length M_cncref25_points M_cncref25_synchronized M_cncref25_Rate M_cncref23_Fine M_cncref25_other M_cncref23_Motion M_cncref25_Check  N19 [AC.view kSgm v0, AC.view kPt v1, AC.view kItm v2, I v3, I v4, I v5, AC.bool v6, AC.view kItm v7, I v8, I v9, I v10, I v11, I v12, AC.view kSgm v13, AC.view kPt v14, I v15, I v16, I v17, I v18, I v19, I v20] =
 bif decide (v9 < v8) then
 bif decide (0 ≤ v9) && decide (v9 < (↑v7.length : Int)) then
 bif intOf (nth .dead (nth [] v7 v9.toNat) 0) == 8 then
 bif intOf (nth .dead (nth [] v7 v9.toNat) 19) == 3 then
 (M_cncref23_Motion [I (intOf (nth .dead (nth [] v7 v9.toNat) 0))]).bind fun o125 =>
 bif !boolOf (nth .dead o125 0) then
 (M_cncref25_other [I (intOf (nth .dead (nth [] v7 v9.toNat) 0)), I (intOf (nth .dead (nth [] v7 v9.toNat) 1)), I (intOf (nth .dead (nth [] v7 v9.toNat) 2)), I (intOf (nth .dead (nth [] v7 v9.toNat) 3)), I (intOf (nth .dead (nth [] v7 v9.toNat) 4)), I (intOf (nth .dead (nth [] v7 v9.toNat) 5)), I (intOf (nth .dead (nth [] v7 v9.toNat) 6)), I (intOf (nth .dead (nth [] v7 v9.toNat) 7)), I (intOf (nth .dead (nth [] v7 v9.toNat) 8)), I (intOf (nth .dead (nth [] v7 v9.toNat) 9)), I (intOf (nth .dead (nth [] v7 v9.toNat) 10)), I (intOf (nth .dead (nth [] v7 v9.toNat) 11)), I (intOf (nth .dead (nth [] v7 v9.toNat) 12)), AC.bool (boolOf (nth .dead (nth [] v7 v9.toNat) 13)), I (intOf (nth .dead (nth [] v7 v9.toNat) 14)), AC.bool (boolOf (nth .dead (nth [] v7 v9.toNat) 15)), I (intOf (nth .dead (nth [] v7 v9.toNat) 16)), I (intOf (nth .dead (nth [] v7 v9.toNat) 17)), I (intOf (nth .dead (nth [] v7 v9.toNat) 18)), I (intOf (nth .dead (nth [] v7 v9.toNat) 19)), I (intOf (nth .dead (nth [] v7 v9.toNat) 20)), AC.bool (boolOf (nth .dead (nth [] v7 v9.toNat) 21))]).bind fun o126 =>
 bif ((v1 ++ [[I v3, I (intOf (nth .dead o126 0)), I v9]]).length * 24).ble 140737488355328 then
 some (0, [AC.view kSgm v0, AC.view kPt (v1 ++ [[I v3, I (intOf (nth .dead o126 0)), I v9]]), AC.view kItm v2, I v3, I (intOf (nth .dead (nth [] v7 v9.toNat) 20)), I v5, AC.bool v6, AC.view kItm v7, I v8, I (IntKind.i64.wrap (v9 + 1)), I v10, I v11, I v12, AC.view kSgm v13, AC.view kPt v14, I v15, I v16, I v17, I v18, I v19, I v20])
 else
 none
 else
 bif !v6 then
 (M_cncref23_Fine [I (intOf (nth .dead (nth [] v7 v9.toNat) 2)), I (intOf (nth .dead (nth [] v7 v9.toNat) 3)), I (intOf (nth .dead (nth [] v7 v9.toNat) 4))]).bind fun o127 =>
 (M_cncref23_Fine [I (intOf (nth .dead (nth [] v7 v9.toNat) 2)), I (intOf (nth .dead (nth [] v7 v9.toNat) 3)), I (intOf (nth .dead (nth [] v7 v9.toNat) 4))]).bind fun o128 =>
 (M_cncref25_Rate [I (intOf (nth .dead (nth [] v7 v9.toNat) 0)), I (intOf (nth .dead (nth [] v7 v9.toNat) 1)), I (intOf (nth .dead (nth [] v7 v9.toNat) 2)), I (intOf (nth .dead (nth [] v7 v9.toNat) 3)), I (intOf (nth .dead (nth [] v7 v9.toNat) 4)), I (intOf (nth .dead (nth [] v7 v9.toNat) 5)), I (intOf (nth .dead (nth [] v7 v9.toNat) 6)), I (intOf (nth .dead (nth [] v7 v9.toNat) 7)), I (intOf (nth .dead (nth [] v7 v9.toNat) 8)), I (intOf (nth .dead (nth [] v7 v9.toNat) 9)), I (intOf (nth .dead (nth [] v7 v9.toNat) 10)), I (intOf (nth .dead (nth [] v7 v9.toNat) 11)), I (intOf (nth .dead (nth [] v7 v9.toNat) 12)), AC.bool (boolOf (nth .dead (nth [] v7 v9.toNat) 13)), I (intOf (nth .dead (nth [] v7 v9.toNat) 14)), AC.bool (boolOf (nth .dead (nth [] v7 v9.toNat) 15)), I (intOf (nth .dead (nth [] v7 v9.toNat) 16)), I (intOf (nth .dead (nth [] v7 v9.toNat) 17)), I (intOf (nth .dead (nth [] v7 v9.toNat) 18)), I (intOf (nth .dead (nth [] v7 v9.toNat) 19)), I (intOf (nth .dead (nth [] v7 v9.toNat) 20)), AC.bool (boolOf (nth .dead (nth [] v7 v9.toNat) 21)), I (intOf (nth .dead (nth [] v7 v9.toNat) 20))]).bind fun o129 =>
 (M_cncref25_synchronized [I (intOf (nth .dead (nth [] v7 v9.toNat) 0)), I (intOf (nth .dead (nth [] v7 v9.toNat) 1)), I (intOf (nth .dead (nth [] v7 v9.toNat) 2)), I (intOf (nth .dead (nth [] v7 v9.toNat) 3)), I (intOf (nth .dead (nth [] v7 v9.toNat) 4)), I (intOf (nth .dead (nth [] v7 v9.toNat) 5)), I (intOf (nth .dead (nth [] v7 v9.toNat) 6)), I (intOf (nth .dead (nth [] v7 v9.toNat) 7)), I (intOf (nth .dead (nth [] v7 v9.toNat) 8)), I (intOf (nth .dead (nth [] v7 v9.toNat) 9)), I (intOf (nth .dead (nth [] v7 v9.toNat) 10)), I (intOf (nth .dead (nth [] v7 v9.toNat) 11)), I (intOf (nth .dead (nth [] v7 v9.toNat) 12)), AC.bool (boolOf (nth .dead (nth [] v7 v9.toNat) 13)), I (intOf (nth .dead (nth [] v7 v9.toNat) 14)), AC.bool (boolOf (nth .dead (nth [] v7 v9.toNat) 15)), I (intOf (nth .dead (nth [] v7 v9.toNat) 16)), I (intOf (nth .dead (nth [] v7 v9.toNat) 17)), I (intOf (nth .dead (nth [] v7 v9.toNat) 18)), I (intOf (nth .dead (nth [] v7 v9.toNat) 19)), I (intOf (nth .dead (nth [] v7 v9.toNat) 20)), AC.bool (boolOf (nth .dead (nth [] v7 v9.toNat) 21))]).bind fun o130 =>
 bif boolOf (nth .dead o130 0) then
 (M_cncref25_points [AC.view kItm v2, I v9, I v5]).bind fun o131 =>
 (N19 [AC.view kSgm v0, AC.view kPt v1, AC.view kItm v2, I v3, I (intOf (nth .dead (nth [] v7 v9.toNat) 20)), AC.bool true, I v9, AC.view kItm v7, I v8, I v9, AC.view kPt (rowsOf (nth .dead o131 0)), I (↑(rowsOf (nth .dead o131 0)).length : Int), I 0, I v10, I v11, I v12, AC.view kSgm v13, AC.view kPt v14, I (intOf (nth .dead o127 0)), I (intOf (nth .dead o127 1)), I (intOf (nth .dead o127 2)), I (intOf (nth .dead o128 0)), I (intOf (nth .dead o128 1)), I (intOf (nth .dead o128 2)), I 0, I 0, I 0, I 0, I v9, I (intOf (nth .dead o129 0)), I (mn (IntKind.i64.wrap (intOf (nth .dead (nth [] v7 v9.toNat) 14) * 16)) 16777216)]).bind fun o132 =>
 bif o132.fst.beq 1 then
 some (1, [I (intOf (nth .dead o132.snd 0)), I (intOf (nth .dead o132.snd 1)), I (intOf (nth .dead o132.snd 2)), I (intOf (nth .dead o132.snd 3))])
 else
 bif o132.fst.beq 2 then
 (M_cncref25_Soft [AC.view kItm (rowsOf (nth .dead o132.snd 2)), I (intOf (nth .dead o132.snd 6))]).bind fun o133 =>
 bif decide (intOf (nth .dead o133 0) ≥ 0) then
 (M_cncref25_kind [AC.view kItm (rowsOf (nth .dead o132.snd 2)), I (intOf (nth .dead o132.snd 6))]).bind fun o134 =>
 bif ((rowsOf (nth .dead o132.snd 1) ++ [[I (intOf (nth .dead o132.snd 3)), I (intOf (nth .dead o134 0)), I (intOf (nth .dead o132.snd 6))]]).length * 24).ble 140737488355328 then
 some (0, [AC.view kSgm (rowsOf (nth .dead o132.snd 0)), AC.view kPt (rowsOf (nth .dead o132.snd 1) ++ [[I (intOf (nth .dead o132.snd 3)), I (intOf (nth .dead o134 0)), I (intOf (nth .dead o132.snd 6))]]), AC.view kItm (rowsOf (nth .dead o132.snd 2)), I (intOf (nth .dead o132.snd 3)), I (intOf (nth .dead o132.snd 4)), I (intOf (nth .dead o132.snd 6)), AC.bool (boolOf (nth .dead o132.snd 5)), AC.view kItm (rowsOf (nth .dead o132.snd 7)), I (intOf (nth .dead o132.snd 8)), I (IntKind.i64.wrap (intOf (nth .dead o132.snd 9) + 1)), I (intOf (nth .dead o132.snd 10)), I (intOf (nth .dead o132.snd 11)), I (intOf (nth .dead o132.snd 12)), AC.view kSgm (rowsOf (nth .dead o132.snd 13)), AC.view kPt (rowsOf (nth .dead o132.snd 14)), I (intOf (nth .dead o132.snd 15)), I (intOf (nth .dead o132.snd 16)), I (intOf (nth .dead o132.snd 17)), I (intOf (nth .dead o132.snd 18)), I (intOf (nth .dead o132.snd 19)), I (intOf (nth .dead o132.snd 20))])
 else
 none
 else
 (M_cncref25_kind [AC.view kItm (rowsOf (nth .dead o132.snd 2)), I (intOf (nth .dead o132.snd 6))]).bind fun o135 =>
 bif ((rowsOf (nth .dead o132.snd 1) ++ [[I (intOf (nth .dead o132.snd 3)), I (intOf (nth .dead o135 0)), I (intOf (nth .dead o132.snd 6))]]).length * 24).ble 140737488355328 then
 some (0, [AC.view kSgm (rowsOf (nth .dead o132.snd 0)), AC.view kPt (rowsOf (nth .dead o132.snd 1) ++ [[I (intOf (nth .dead o132.snd 3)), I (intOf (nth .dead o135 0)), I (intOf (nth .dead o132.snd 6))]]), AC.view kItm (rowsOf (nth .dead o132.snd 2)), I (intOf (nth .dead o132.snd 3)), I (intOf (nth .dead o132.snd 4)), I (-1), AC.bool (boolOf (nth .dead o132.snd 5)), AC.view kItm (rowsOf (nth .dead o132.snd 7)), I (intOf (nth .dead o132.snd 8)), I (IntKind.i64.wrap (intOf (nth .dead o132.snd 9) + 1)), I (intOf (nth .dead o132.snd 10)), I (intOf (nth .dead o132.snd 11)), I (intOf (nth .dead o132.snd 12)), AC.view kSgm (rowsOf (nth .dead o132.snd 13)), AC.view kPt (rowsOf (nth .dead o132.snd 14)), I (intOf (nth .dead o132.snd 15)), I (intOf (nth .dead o132.snd 16)), I (intOf (nth .dead o132.snd 17)), I (intOf (nth .dead o132.snd 18)), I (intOf (nth .dead o132.snd 19)), I (intOf (nth .dead o132.snd 20))])
 else
 none
 else
 none
 else
 (M_cncref25_points [AC.view kItm v2, I v9, I v5]).bind fun o136 =>
 (N19 [AC.view kSgm v0, AC.view kPt v1, AC.view kItm v2, I v3, I (intOf (nth .dead (nth [] v7 v9.toNat) 20)), AC.bool true, I v9, AC.view kItm v7, I v8, I v9, AC.view kPt (rowsOf (nth .dead o136 0)), I (↑(rowsOf (nth .dead o136 0)).length : Int), I 0, I v10, I v11, I v12, AC.view kSgm v13, AC.view kPt v14, I (intOf (nth .dead o127 0)), I (intOf (nth .dead o127 1)), I (intOf (nth .dead o127 2)), I (intOf (nth .dead o128 0)), I (intOf (nth .dead o128 1)), I (intOf (nth .dead o128 2)), I 0, I 0, I 0, I 0, I v9, I (intOf (nth .dead o129 0)), I 0]).bind fun o137 =>
 bif o137.fst.beq 1 then
 some (1, [I (intOf (nth .dead o137.snd 0)), I (intOf (nth .dead o137.snd 1)), I (intOf (nth .dead o137.snd 2)), I (intOf (nth .dead o137.snd 3))])
 else
 bif o137.fst.beq 2 then
 (M_cncref25_Soft [AC.view kItm (rowsOf (nth .dead o137.snd 2)), I (intOf (nth .dead o137.snd 6))]).bind fun o138 =>
 bif decide (intOf (nth .dead o138 0) ≥ 0) then
 (M_cncref25_kind [AC.view kItm (rowsOf (nth .dead o137.snd 2)), I (intOf (nth .dead o137.snd 6))]).bind fun o139 =>
 bif ((rowsOf (nth .dead o137.snd 1) ++ [[I (intOf (nth .dead o137.snd 3)), I (intOf (nth .dead o139 0)), I (intOf (nth .dead o137.snd 6))]]).length * 24).ble 140737488355328 then
 some (0, [AC.view kSgm (rowsOf (nth .dead o137.snd 0)), AC.view kPt (rowsOf (nth .dead o137.snd 1) ++ [[I (intOf (nth .dead o137.snd 3)), I (intOf (nth .dead o139 0)), I (intOf (nth .dead o137.snd 6))]]), AC.view kItm (rowsOf (nth .dead o137.snd 2)), I (intOf (nth .dead o137.snd 3)), I (intOf (nth .dead o137.snd 4)), I (intOf (nth .dead o137.snd 6)), AC.bool (boolOf (nth .dead o137.snd 5)), AC.view kItm (rowsOf (nth .dead o137.snd 7)), I (intOf (nth .dead o137.snd 8)), I (IntKind.i64.wrap (intOf (nth .dead o137.snd 9) + 1)), I (intOf (nth .dead o137.snd 10)), I (intOf (nth .dead o137.snd 11)), I (intOf (nth .dead o137.snd 12)), AC.view kSgm (rowsOf (nth .dead o137.snd 13)), AC.view kPt (rowsOf (nth .dead o137.snd 14)), I (intOf (nth .dead o137.snd 15)), I (intOf (nth .dead o137.snd 16)), I (intOf (nth .dead o137.snd 17)), I (intOf (nth .dead o137.snd 18)), I (intOf (nth .dead o137.snd 19)), I (intOf (nth .dead o137.snd 20))])
 else
 none
 else
 (M_cncref25_kind [AC.view kItm (rowsOf (nth .dead o137.snd 2)), I (intOf (nth .dead o137.snd 6))]).bind fun o140 =>
 bif ((rowsOf (nth .dead o137.snd 1) ++ [[I (intOf (nth .dead o137.snd 3)), I (intOf (nth .dead o140 0)), I (intOf (nth .dead o137.snd 6))]]).length * 24).ble 140737488355328 then
 some (0, [AC.view kSgm (rowsOf (nth .dead o137.snd 0)), AC.view kPt (rowsOf (nth .dead o137.snd 1) ++ [[I (intOf (nth .dead o137.snd 3)), I (intOf (nth .dead o140 0)), I (intOf (nth .dead o137.snd 6))]]), AC.view kItm (rowsOf (nth .dead o137.snd 2)), I (intOf (nth .dead o137.snd 3)), I (intOf (nth .dead o137.snd 4)), I (-1), AC.bool (boolOf (nth .dead o137.snd 5)), AC.view kItm (rowsOf (nth .dead o137.snd 7)), I (intOf (nth .dead o137.snd 8)), I (IntKind.i64.wrap (intOf (nth .dead o137.snd 9) + 1)), I (intOf (nth .dead o137.snd 10)), I (intOf (nth .dead o137.snd 11)), I (intOf (nth .dead o137.snd 12)), AC.view kSgm (rowsOf (nth .dead o137.snd 13)), AC.view kPt (rowsOf (nth .dead o137.snd 14)), I (intOf (nth .dead o137.snd 15)), I (intOf (nth .dead o137.snd 16)), I (intOf (nth .dead o137.snd 17)), I (intOf (nth .dead o137.snd 18)), I (intOf (nth .dead o137.snd 19)), I (intOf (nth .dead o137.snd 20))])
 else
 none
 else
 none
 else
 (M_cncref25_Rate [I (intOf (nth .dead (nth [] v7 v9.toNat) 0)), I (intOf (nth .dead (nth [] v7 v9.toNat) 1)), I (intOf (nth .dead (nth [] v7 v9.toNat) 2)), I (intOf (nth .dead (nth [] v7 v9.toNat) 3)), I (intOf (nth .dead (nth [] v7 v9.toNat) 4)), I (intOf (nth .dead (nth [] v7 v9.toNat) 5)), I (intOf (nth .dead (nth [] v7 v9.toNat) 6)), I (intOf (nth .dead (nth [] v7 v9.toNat) 7)), I (intOf (nth .dead (nth [] v7 v9.toNat) 8)), I (intOf (nth .dead (nth [] v7 v9.toNat) 9)), I (intOf (nth .dead (nth [] v7 v9.toNat) 10)), I (intOf (nth .dead (nth [] v7 v9.toNat) 11)), I (intOf (nth .dead (nth [] v7 v9.toNat) 12)), AC.bool (boolOf (nth .dead (nth [] v7 v9.toNat) 13)), I (intOf (nth .dead (nth [] v7 v9.toNat) 14)), AC.bool (boolOf (nth .dead (nth [] v7 v9.toNat) 15)), I (intOf (nth .dead (nth [] v7 v9.toNat) 16)), I (intOf (nth .dead (nth [] v7 v9.toNat) 17)), I (intOf (nth .dead (nth [] v7 v9.toNat) 18)), I (intOf (nth .dead (nth [] v7 v9.toNat) 19)), I (intOf (nth .dead (nth [] v7 v9.toNat) 20)), AC.bool (boolOf (nth .dead (nth [] v7 v9.toNat) 21)), I (intOf (nth .dead (nth [] v7 v9.toNat) 20))]).bind fun o141 =>
 (M_cncref25_synchronized [I (intOf (nth .dead (nth [] v7 v9.toNat) 0)), I (intOf (nth .dead (nth [] v7 v9.toNat) 1)), I (intOf (nth .dead (nth [] v7 v9.toNat) 2)), I (intOf (nth .dead (nth [] v7 v9.toNat) 3)), I (intOf (nth .dead (nth [] v7 v9.toNat) 4)), I (intOf (nth .dead (nth [] v7 v9.toNat) 5)), I (intOf (nth .dead (nth [] v7 v9.toNat) 6)), I (intOf (nth .dead (nth [] v7 v9.toNat) 7)), I (intOf (nth .dead (nth [] v7 v9.toNat) 8)), I (intOf (nth .dead (nth [] v7 v9.toNat) 9)), I (intOf (nth .dead (nth [] v7 v9.toNat) 10)), I (intOf (nth .dead (nth [] v7 v9.toNat) 11)), I (intOf (nth .dead (nth [] v7 v9.toNat) 12)), AC.bool (boolOf (nth .dead (nth [] v7 v9.toNat) 13)), I (intOf (nth .dead (nth [] v7 v9.toNat) 14)), AC.bool (boolOf (nth .dead (nth [] v7 v9.toNat) 15)), I (intOf (nth .dead (nth [] v7 v9.toNat) 16)), I (intOf (nth .dead (nth [] v7 v9.toNat) 17)), I (intOf (nth .dead (nth [] v7 v9.toNat) 18)), I (intOf (nth .dead (nth [] v7 v9.toNat) 19)), I (intOf (nth .dead (nth [] v7 v9.toNat) 20)), AC.bool (boolOf (nth .dead (nth [] v7 v9.toNat) 21))]).bind fun o142 =>
 bif boolOf (nth .dead o142 0) then
 (M_cncref25_points [AC.view kItm v2, I v9, I v5]).bind fun o143 =>
 (N19 [AC.view kSgm v0, AC.view kPt v1, AC.view kItm v2, I v3, I (intOf (nth .dead (nth [] v7 v9.toNat) 20)), AC.bool v6, I v9, AC.view kItm v7, I v8, I v9, AC.view kPt (rowsOf (nth .dead o143 0)), I (↑(rowsOf (nth .dead o143 0)).length : Int), I 0, I v10, I v11, I v12, AC.view kSgm v13, AC.view kPt v14, I v15, I v16, I v17, I v18, I v19, I v20, I 0, I 0, I 0, I 0, I v9, I (intOf (nth .dead o141 0)), I (mn (IntKind.i64.wrap (intOf (nth .dead (nth [] v7 v9.toNat) 14) * 16)) 16777216)]).bind fun o144 =>
 bif o144.fst.beq 1 then
 some (1, [I (intOf (nth .dead o144.snd 0)), I (intOf (nth .dead o144.snd 1)), I (intOf (nth .dead o144.snd 2)), I (intOf (nth .dead o144.snd 3))])
 else
 bif o144.fst.beq 2 then
 (M_cncref25_Soft [AC.view kItm (rowsOf (nth .dead o144.snd 2)), I (intOf (nth .dead o144.snd 6))]).bind fun o145 =>
 bif decide (intOf (nth .dead o145 0) ≥ 0) then
 (M_cncref25_kind [AC.view kItm (rowsOf (nth .dead o144.snd 2)), I (intOf (nth .dead o144.snd 6))]).bind fun o146 =>
 bif ((rowsOf (nth .dead o144.snd 1) ++ [[I (intOf (nth .dead o144.snd 3)), I (intOf (nth .dead o146 0)), I (intOf (nth .dead o144.snd 6))]]).length * 24).ble 140737488355328 then
 some (0, [AC.view kSgm (rowsOf (nth .dead o144.snd 0)), AC.view kPt (rowsOf (nth .dead o144.snd 1) ++ [[I (intOf (nth .dead o144.snd 3)), I (intOf (nth .dead o146 0)), I (intOf (nth .dead o144.snd 6))]]), AC.view kItm (rowsOf (nth .dead o144.snd 2)), I (intOf (nth .dead o144.snd 3)), I (intOf (nth .dead o144.snd 4)), I (intOf (nth .dead o144.snd 6)), AC.bool (boolOf (nth .dead o144.snd 5)), AC.view kItm (rowsOf (nth .dead o144.snd 7)), I (intOf (nth .dead o144.snd 8)), I (IntKind.i64.wrap (intOf (nth .dead o144.snd 9) + 1)), I (intOf (nth .dead o144.snd 10)), I (intOf (nth .dead o144.snd 11)), I (intOf (nth .dead o144.snd 12)), AC.view kSgm (rowsOf (nth .dead o144.snd 13)), AC.view kPt (rowsOf (nth .dead o144.snd 14)), I (intOf (nth .dead o144.snd 15)), I (intOf (nth .dead o144.snd 16)), I (intOf (nth .dead o144.snd 17)), I (intOf (nth .dead o144.snd 18)), I (intOf (nth .dead o144.snd 19)), I (intOf (nth .dead o144.snd 20))])
 else
 none
 else
 (M_cncref25_kind [AC.view kItm (rowsOf (nth .dead o144.snd 2)), I (intOf (nth .dead o144.snd 6))]).bind fun o147 =>
 bif ((rowsOf (nth .dead o144.snd 1) ++ [[I (intOf (nth .dead o144.snd 3)), I (intOf (nth .dead o147 0)), I (intOf (nth .dead o144.snd 6))]]).length * 24).ble 140737488355328 then
 some (0, [AC.view kSgm (rowsOf (nth .dead o144.snd 0)), AC.view kPt (rowsOf (nth .dead o144.snd 1) ++ [[I (intOf (nth .dead o144.snd 3)), I (intOf (nth .dead o147 0)), I (intOf (nth .dead o144.snd 6))]]), AC.view kItm (rowsOf (nth .dead o144.snd 2)), I (intOf (nth .dead o144.snd 3)), I (intOf (nth .dead o144.snd 4)), I (-1), AC.bool (boolOf (nth .dead o144.snd 5)), AC.view kItm (rowsOf (nth .dead o144.snd 7)), I (intOf (nth .dead o144.snd 8)), I (IntKind.i64.wrap (intOf (nth .dead o144.snd 9) + 1)), I (intOf (nth .dead o144.snd 10)), I (intOf (nth .dead o144.snd 11)), I (intOf (nth .dead o144.snd 12)), AC.view kSgm (rowsOf (nth .dead o144.snd 13)), AC.view kPt (rowsOf (nth .dead o144.snd 14)), I (intOf (nth .dead o144.snd 15)), I (intOf (nth .dead o144.snd 16)), I (intOf (nth .dead o144.snd 17)), I (intOf (nth .dead o144.snd 18)), I (intOf (nth .dead o144.snd 19)), I (intOf (nth .dead o144.snd 20))])
 else
 none
 else
 none
 else
 (M_cncref25_points [AC.view kItm v2, I v9, I v5]).bind fun o148 =>
 (N19 [AC.view kSgm v0, AC.view kPt v1, AC.view kItm v2, I v3, I (intOf (nth .dead (nth [] v7 v9.toNat) 20)), AC.bool v6, I v9, AC.view kItm v7, I v8, I v9, AC.view kPt (rowsOf (nth .dead o148 0)), I (↑(rowsOf (nth .dead o148 0)).length : Int), I 0, I v10, I v11, I v12, AC.view kSgm v13, AC.view kPt v14, I v15, I v16, I v17, I v18, I v19, I v20, I 0, I 0, I 0, I 0, I v9, I (intOf (nth .dead o141 0)), I 0]).bind fun o149 =>
 bif o149.fst.beq 1 then
 some (1, [I (intOf (nth .dead o149.snd 0)), I (intOf (nth .dead o149.snd 1)), I (intOf (nth .dead o149.snd 2)), I (intOf (nth .dead o149.snd 3))])
 else
 bif o149.fst.beq 2 then
 (M_cncref25_Soft [AC.view kItm (rowsOf (nth .dead o149.snd 2)), I (intOf (nth .dead o149.snd 6))]).bind fun o150 =>
 bif decide (intOf (nth .dead o150 0) ≥ 0) then
 (M_cncref25_kind [AC.view kItm (rowsOf (nth .dead o149.snd 2)), I (intOf (nth .dead o149.snd 6))]).bind fun o151 =>
 bif ((rowsOf (nth .dead o149.snd 1) ++ [[I (intOf (nth .dead o149.snd 3)), I (intOf (nth .dead o151 0)), I (intOf (nth .dead o149.snd 6))]]).length * 24).ble 140737488355328 then
 some (0, [AC.view kSgm (rowsOf (nth .dead o149.snd 0)), AC.view kPt (rowsOf (nth .dead o149.snd 1) ++ [[I (intOf (nth .dead o149.snd 3)), I (intOf (nth .dead o151 0)), I (intOf (nth .dead o149.snd 6))]]), AC.view kItm (rowsOf (nth .dead o149.snd 2)), I (intOf (nth .dead o149.snd 3)), I (intOf (nth .dead o149.snd 4)), I (intOf (nth .dead o149.snd 6)), AC.bool (boolOf (nth .dead o149.snd 5)), AC.view kItm (rowsOf (nth .dead o149.snd 7)), I (intOf (nth .dead o149.snd 8)), I (IntKind.i64.wrap (intOf (nth .dead o149.snd 9) + 1)), I (intOf (nth .dead o149.snd 10)), I (intOf (nth .dead o149.snd 11)), I (intOf (nth .dead o149.snd 12)), AC.view kSgm (rowsOf (nth .dead o149.snd 13)), AC.view kPt (rowsOf (nth .dead o149.snd 14)), I (intOf (nth .dead o149.snd 15)), I (intOf (nth .dead o149.snd 16)), I (intOf (nth .dead o149.snd 17)), I (intOf (nth .dead o149.snd 18)), I (intOf (nth .dead o149.snd 19)), I (intOf (nth .dead o149.snd 20))])
 else
 none
 else
 (M_cncref25_kind [AC.view kItm (rowsOf (nth .dead o149.snd 2)), I (intOf (nth .dead o149.snd 6))]).bind fun o152 =>
 bif ((rowsOf (nth .dead o149.snd 1) ++ [[I (intOf (nth .dead o149.snd 3)), I (intOf (nth .dead o152 0)), I (intOf (nth .dead o149.snd 6))]]).length * 24).ble 140737488355328 then
 some (0, [AC.view kSgm (rowsOf (nth .dead o149.snd 0)), AC.view kPt (rowsOf (nth .dead o149.snd 1) ++ [[I (intOf (nth .dead o149.snd 3)), I (intOf (nth .dead o152 0)), I (intOf (nth .dead o149.snd 6))]]), AC.view kItm (rowsOf (nth .dead o149.snd 2)), I (intOf (nth .dead o149.snd 3)), I (intOf (nth .dead o149.snd 4)), I (-1), AC.bool (boolOf (nth .dead o149.snd 5)), AC.view kItm (rowsOf (nth .dead o149.snd 7)), I (intOf (nth .dead o149.snd 8)), I (IntKind.i64.wrap (intOf (nth .dead o149.snd 9) + 1)), I (intOf (nth .dead o149.snd 10)), I (intOf (nth .dead o149.snd 11)), I (intOf (nth .dead o149.snd 12)), AC.view kSgm (rowsOf (nth .dead o149.snd 13)), AC.view kPt (rowsOf (nth .dead o149.snd 14)), I (intOf (nth .dead o149.snd 15)), I (intOf (nth .dead o149.snd 16)), I (intOf (nth .dead o149.snd 17)), I (intOf (nth .dead o149.snd 18)), I (intOf (nth .dead o149.snd 19)), I (intOf (nth .dead o149.snd 20))])
 else
 none
 else
 none
 else
 bif intOf (nth .dead (nth [] v7 v9.toNat) 19) == 4 then
 (M_cncref23_Motion [I (intOf (nth .dead (nth [] v7 v9.toNat) 0))]).bind fun o153 =>
 bif !boolOf (nth .dead o153 0) then
 (M_cncref25_other [I (intOf (nth .dead (nth [] v7 v9.toNat) 0)), I (intOf (nth .dead (nth [] v7 v9.toNat) 1)), I (intOf (nth .dead (nth [] v7 v9.toNat) 2)), I (intOf (nth .dead (nth [] v7 v9.toNat) 3)), I (intOf (nth .dead (nth [] v7 v9.toNat) 4)), I (intOf (nth .dead (nth [] v7 v9.toNat) 5)), I (intOf (nth .dead (nth [] v7 v9.toNat) 6)), I (intOf (nth .dead (nth [] v7 v9.toNat) 7)), I (intOf (nth .dead (nth [] v7 v9.toNat) 8)), I (intOf (nth .dead (nth [] v7 v9.toNat) 9)), I (intOf (nth .dead (nth [] v7 v9.toNat) 10)), I (intOf (nth .dead (nth [] v7 v9.toNat) 11)), I (intOf (nth .dead (nth [] v7 v9.toNat) 12)), AC.bool (boolOf (nth .dead (nth [] v7 v9.toNat) 13)), I (intOf (nth .dead (nth [] v7 v9.toNat) 14)), AC.bool (boolOf (nth .dead (nth [] v7 v9.toNat) 15)), I (intOf (nth .dead (nth [] v7 v9.toNat) 16)), I (intOf (nth .dead (nth [] v7 v9.toNat) 17)), I (intOf (nth .dead (nth [] v7 v9.toNat) 18)), I (intOf (nth .dead (nth [] v7 v9.toNat) 19)), I (intOf (nth .dead (nth [] v7 v9.toNat) 20)), AC.bool (boolOf (nth .dead (nth [] v7 v9.toNat) 21))]).bind fun o154 =>
 bif ((v1 ++ [[I v3, I (intOf (nth .dead o154 0)), I v9]]).length * 24).ble 140737488355328 then
 some (0, [AC.view kSgm v0, AC.view kPt (v1 ++ [[I v3, I (intOf (nth .dead o154 0)), I v9]]), AC.view kItm v2, I v3, I (intOf (nth .dead (nth [] v7 v9.toNat) 20)), I v5, AC.bool v6, AC.view kItm v7, I v8, I (IntKind.i64.wrap (v9 + 1)), I v10, I v11, I v12, AC.view kSgm v13, AC.view kPt v14, I v15, I v16, I v17, I v18, I v19, I v20])
 else
 none
 else
 bif !v6 then
 (M_cncref23_Fine [I (intOf (nth .dead (nth [] v7 v9.toNat) 2)), I (intOf (nth .dead (nth [] v7 v9.toNat) 3)), I (intOf (nth .dead (nth [] v7 v9.toNat) 4))]).bind fun o155 =>
 (M_cncref23_Fine [I (intOf (nth .dead (nth [] v7 v9.toNat) 2)), I (intOf (nth .dead (nth [] v7 v9.toNat) 3)), I (intOf (nth .dead (nth [] v7 v9.toNat) 4))]).bind fun o156 =>
 (M_cncref25_Rate [I (intOf (nth .dead (nth [] v7 v9.toNat) 0)), I (intOf (nth .dead (nth [] v7 v9.toNat) 1)), I (intOf (nth .dead (nth [] v7 v9.toNat) 2)), I (intOf (nth .dead (nth [] v7 v9.toNat) 3)), I (intOf (nth .dead (nth [] v7 v9.toNat) 4)), I (intOf (nth .dead (nth [] v7 v9.toNat) 5)), I (intOf (nth .dead (nth [] v7 v9.toNat) 6)), I (intOf (nth .dead (nth [] v7 v9.toNat) 7)), I (intOf (nth .dead (nth [] v7 v9.toNat) 8)), I (intOf (nth .dead (nth [] v7 v9.toNat) 9)), I (intOf (nth .dead (nth [] v7 v9.toNat) 10)), I (intOf (nth .dead (nth [] v7 v9.toNat) 11)), I (intOf (nth .dead (nth [] v7 v9.toNat) 12)), AC.bool (boolOf (nth .dead (nth [] v7 v9.toNat) 13)), I (intOf (nth .dead (nth [] v7 v9.toNat) 14)), AC.bool (boolOf (nth .dead (nth [] v7 v9.toNat) 15)), I (intOf (nth .dead (nth [] v7 v9.toNat) 16)), I (intOf (nth .dead (nth [] v7 v9.toNat) 17)), I (intOf (nth .dead (nth [] v7 v9.toNat) 18)), I (intOf (nth .dead (nth [] v7 v9.toNat) 19)), I (intOf (nth .dead (nth [] v7 v9.toNat) 20)), AC.bool (boolOf (nth .dead (nth [] v7 v9.toNat) 21)), I (intOf (nth .dead (nth [] v7 v9.toNat) 20))]).bind fun o157 =>
 (M_cncref25_synchronized [I (intOf (nth .dead (nth [] v7 v9.toNat) 0)), I (intOf (nth .dead (nth [] v7 v9.toNat) 1)), I (intOf (nth .dead (nth [] v7 v9.toNat) 2)), I (intOf (nth .dead (nth [] v7 v9.toNat) 3)), I (intOf (nth .dead (nth [] v7 v9.toNat) 4)), I (intOf (nth .dead (nth [] v7 v9.toNat) 5)), I (intOf (nth .dead (nth [] v7 v9.toNat) 6)), I (intOf (nth .dead (nth [] v7 v9.toNat) 7)), I (intOf (nth .dead (nth [] v7 v9.toNat) 8)), I (intOf (nth .dead (nth [] v7 v9.toNat) 9)), I (intOf (nth .dead (nth [] v7 v9.toNat) 10)), I (intOf (nth .dead (nth [] v7 v9.toNat) 11)), I (intOf (nth .dead (nth [] v7 v9.toNat) 12)), AC.bool (boolOf (nth .dead (nth [] v7 v9.toNat) 13)), I (intOf (nth .dead (nth [] v7 v9.toNat) 14)), AC.bool (boolOf (nth .dead (nth [] v7 v9.toNat) 15)), I (intOf (nth .dead (nth [] v7 v9.toNat) 16)), I (intOf (nth .dead (nth [] v7 v9.toNat) 17)), I (intOf (nth .dead (nth [] v7 v9.toNat) 18)), I (intOf (nth .dead (nth [] v7 v9.toNat) 19)), I (intOf (nth .dead (nth [] v7 v9.toNat) 20)), AC.bool (boolOf (nth .dead (nth [] v7 v9.toNat) 21))]).bind fun o158 =>
 bif boolOf (nth .dead o158 0) then
 (M_cncref25_points [AC.view kItm v2, I v9, I v5]).bind fun o159 =>
 (N19 [AC.view kSgm v0, AC.view kPt v1, AC.view kItm v2, I v3, I (intOf (nth .dead (nth [] v7 v9.toNat) 20)), AC.bool true, I v9, AC.view kItm v7, I v8, I v9, AC.view kPt (rowsOf (nth .dead o159 0)), I (↑(rowsOf (nth .dead o159 0)).length : Int), I 0, I v10, I v11, I v12, AC.view kSgm v13, AC.view kPt v14, I (intOf (nth .dead o155 0)), I (intOf (nth .dead o155 1)), I (intOf (nth .dead o155 2)), I (intOf (nth .dead o156 0)), I (intOf (nth .dead o156 1)), I (intOf (nth .dead o156 2)), I 0, I 0, I 0, I 0, I v9, I (intOf (nth .dead o157 0)), I (mn (IntKind.i64.wrap (intOf (nth .dead (nth [] v7 v9.toNat) 14) * 16)) 16777216)]).bind fun o160 =>
 bif o160.fst.beq 1 then
 some (1, [I (intOf (nth .dead o160.snd 0)), I (intOf (nth .dead o160.snd 1)), I (intOf (nth .dead o160.snd 2)), I (intOf (nth .dead o160.snd 3))])
 else
 bif o160.fst.beq 2 then
 (M_cncref25_Soft [AC.view kItm (rowsOf (nth .dead o160.snd 2)), I (intOf (nth .dead o160.snd 6))]).bind fun o161 =>
 bif decide (intOf (nth .dead o161 0) ≥ 0) then
 (M_cncref25_kind [AC.view kItm (rowsOf (nth .dead o160.snd 2)), I (intOf (nth .dead o160.snd 6))]).bind fun o162 =>
 bif ((rowsOf (nth .dead o160.snd 1) ++ [[I (intOf (nth .dead o160.snd 3)), I (intOf (nth .dead o162 0)), I (intOf (nth .dead o160.snd 6))]]).length * 24).ble 140737488355328 then
 some (0, [AC.view kSgm (rowsOf (nth .dead o160.snd 0)), AC.view kPt (rowsOf (nth .dead o160.snd 1) ++ [[I (intOf (nth .dead o160.snd 3)), I (intOf (nth .dead o162 0)), I (intOf (nth .dead o160.snd 6))]]), AC.view kItm (rowsOf (nth .dead o160.snd 2)), I (intOf (nth .dead o160.snd 3)), I (intOf (nth .dead o160.snd 4)), I (intOf (nth .dead o160.snd 6)), AC.bool (boolOf (nth .dead o160.snd 5)), AC.view kItm (rowsOf (nth .dead o160.snd 7)), I (intOf (nth .dead o160.snd 8)), I (IntKind.i64.wrap (intOf (nth .dead o160.snd 9) + 1)), I (intOf (nth .dead o160.snd 10)), I (intOf (nth .dead o160.snd 11)), I (intOf (nth .dead o160.snd 12)), AC.view kSgm (rowsOf (nth .dead o160.snd 13)), AC.view kPt (rowsOf (nth .dead o160.snd 14)), I (intOf (nth .dead o160.snd 15)), I (intOf (nth .dead o160.snd 16)), I (intOf (nth .dead o160.snd 17)), I (intOf (nth .dead o160.snd 18)), I (intOf (nth .dead o160.snd 19)), I (intOf (nth .dead o160.snd 20))])
 else
 none
 else
 (M_cncref25_kind [AC.view kItm (rowsOf (nth .dead o160.snd 2)), I (intOf (nth .dead o160.snd 6))]).bind fun o163 =>
 bif ((rowsOf (nth .dead o160.snd 1) ++ [[I (intOf (nth .dead o160.snd 3)), I (intOf (nth .dead o163 0)), I (intOf (nth .dead o160.snd 6))]]).length * 24).ble 140737488355328 then
 some (0, [AC.view kSgm (rowsOf (nth .dead o160.snd 0)), AC.view kPt (rowsOf (nth .dead o160.snd 1) ++ [[I (intOf (nth .dead o160.snd 3)), I (intOf (nth .dead o163 0)), I (intOf (nth .dead o160.snd 6))]]), AC.view kItm (rowsOf (nth .dead o160.snd 2)), I (intOf (nth .dead o160.snd 3)), I (intOf (nth .dead o160.snd 4)), I (-1), AC.bool (boolOf (nth .dead o160.snd 5)), AC.view kItm (rowsOf (nth .dead o160.snd 7)), I (intOf (nth .dead o160.snd 8)), I (IntKind.i64.wrap (intOf (nth .dead o160.snd 9) + 1)), I (intOf (nth .dead o160.snd 10)), I (intOf (nth .dead o160.snd 11)), I (intOf (nth .dead o160.snd 12)), AC.view kSgm (rowsOf (nth .dead o160.snd 13)), AC.view kPt (rowsOf (nth .dead o160.snd 14)), I (intOf (nth .dead o160.snd 15)), I (intOf (nth .dead o160.snd 16)), I (intOf (nth .dead o160.snd 17)), I (intOf (nth .dead o160.snd 18)), I (intOf (nth .dead o160.snd 19)), I (intOf (nth .dead o160.snd 20))])
 else
 none
 else
 none
 else
 (M_cncref25_points [AC.view kItm v2, I v9, I v5]).bind fun o164 =>
 (N19 [AC.view kSgm v0, AC.view kPt v1, AC.view kItm v2, I v3, I (intOf (nth .dead (nth [] v7 v9.toNat) 20)), AC.bool true, I v9, AC.view kItm v7, I v8, I v9, AC.view kPt (rowsOf (nth .dead o164 0)), I (↑(rowsOf (nth .dead o164 0)).length : Int), I 0, I v10, I v11, I v12, AC.view kSgm v13, AC.view kPt v14, I (intOf (nth .dead o155 0)), I (intOf (nth .dead o155 1)), I (intOf (nth .dead o155 2)), I (intOf (nth .dead o156 0)), I (intOf (nth .dead o156 1)), I (intOf (nth .dead o156 2)), I 0, I 0, I 0, I 0, I v9, I (intOf (nth .dead o157 0)), I 0]).bind fun o165 =>
 bif o165.fst.beq 1 then
 some (1, [I (intOf (nth .dead o165.snd 0)), I (intOf (nth .dead o165.snd 1)), I (intOf (nth .dead o165.snd 2)), I (intOf (nth .dead o165.snd 3))])
 else
 bif o165.fst.beq 2 then
 (M_cncref25_Soft [AC.view kItm (rowsOf (nth .dead o165.snd 2)), I (intOf (nth .dead o165.snd 6))]).bind fun o166 =>
 bif decide (intOf (nth .dead o166 0) ≥ 0) then
 (M_cncref25_kind [AC.view kItm (rowsOf (nth .dead o165.snd 2)), I (intOf (nth .dead o165.snd 6))]).bind fun o167 =>
 bif ((rowsOf (nth .dead o165.snd 1) ++ [[I (intOf (nth .dead o165.snd 3)), I (intOf (nth .dead o167 0)), I (intOf (nth .dead o165.snd 6))]]).length * 24).ble 140737488355328 then
 some (0, [AC.view kSgm (rowsOf (nth .dead o165.snd 0)), AC.view kPt (rowsOf (nth .dead o165.snd 1) ++ [[I (intOf (nth .dead o165.snd 3)), I (intOf (nth .dead o167 0)), I (intOf (nth .dead o165.snd 6))]]), AC.view kItm (rowsOf (nth .dead o165.snd 2)), I (intOf (nth .dead o165.snd 3)), I (intOf (nth .dead o165.snd 4)), I (intOf (nth .dead o165.snd 6)), AC.bool (boolOf (nth .dead o165.snd 5)), AC.view kItm (rowsOf (nth .dead o165.snd 7)), I (intOf (nth .dead o165.snd 8)), I (IntKind.i64.wrap (intOf (nth .dead o165.snd 9) + 1)), I (intOf (nth .dead o165.snd 10)), I (intOf (nth .dead o165.snd 11)), I (intOf (nth .dead o165.snd 12)), AC.view kSgm (rowsOf (nth .dead o165.snd 13)), AC.view kPt (rowsOf (nth .dead o165.snd 14)), I (intOf (nth .dead o165.snd 15)), I (intOf (nth .dead o165.snd 16)), I (intOf (nth .dead o165.snd 17)), I (intOf (nth .dead o165.snd 18)), I (intOf (nth .dead o165.snd 19)), I (intOf (nth .dead o165.snd 20))])
 else
 none
 else
 (M_cncref25_kind [AC.view kItm (rowsOf (nth .dead o165.snd 2)), I (intOf (nth .dead o165.snd 6))]).bind fun o168 =>
 bif ((rowsOf (nth .dead o165.snd 1) ++ [[I (intOf (nth .dead o165.snd 3)), I (intOf (nth .dead o168 0)), I (intOf (nth .dead o165.snd 6))]]).length * 24).ble 140737488355328 then
 some (0, [AC.view kSgm (rowsOf (nth .dead o165.snd 0)), AC.view kPt (rowsOf (nth .dead o165.snd 1) ++ [[I (intOf (nth .dead o165.snd 3)), I (intOf (nth .dead o168 0)), I (intOf (nth .dead o165.snd 6))]]), AC.view kItm (rowsOf (nth .dead o165.snd 2)), I (intOf (nth .dead o165.snd 3)), I (intOf (nth .dead o165.snd 4)), I (-1), AC.bool (boolOf (nth .dead o165.snd 5)), AC.view kItm (rowsOf (nth .dead o165.snd 7)), I (intOf (nth .dead o165.snd 8)), I (IntKind.i64.wrap (intOf (nth .dead o165.snd 9) + 1)), I (intOf (nth .dead o165.snd 10)), I (intOf (nth .dead o165.snd 11)), I (intOf (nth .dead o165.snd 12)), AC.view kSgm (rowsOf (nth .dead o165.snd 13)), AC.view kPt (rowsOf (nth .dead o165.snd 14)), I (intOf (nth .dead o165.snd 15)), I (intOf (nth .dead o165.snd 16)), I (intOf (nth .dead o165.snd 17)), I (intOf (nth .dead o165.snd 18)), I (intOf (nth .dead o165.snd 19)), I (intOf (nth .dead o165.snd 20))])
 else
 none
 else
 none
 else
 (M_cncref25_Rate [I (intOf (nth .dead (nth [] v7 v9.toNat) 0)), I (intOf (nth .dead (nth [] v7 v9.toNat) 1)), I (intOf (nth .dead (nth [] v7 v9.toNat) 2)), I (intOf (nth .dead (nth [] v7 v9.toNat) 3)), I (intOf (nth .dead (nth [] v7 v9.toNat) 4)), I (intOf (nth .dead (nth [] v7 v9.toNat) 5)), I (intOf (nth .dead (nth [] v7 v9.toNat) 6)), I (intOf (nth .dead (nth [] v7 v9.toNat) 7)), I (intOf (nth .dead (nth [] v7 v9.toNat) 8)), I (intOf (nth .dead (nth [] v7 v9.toNat) 9)), I (intOf (nth .dead (nth [] v7 v9.toNat) 10)), I (intOf (nth .dead (nth [] v7 v9.toNat) 11)), I (intOf (nth .dead (nth [] v7 v9.toNat) 12)), AC.bool (boolOf (nth .dead (nth [] v7 v9.toNat) 13)), I (intOf (nth .dead (nth [] v7 v9.toNat) 14)), AC.bool (boolOf (nth .dead (nth [] v7 v9.toNat) 15)), I (intOf (nth .dead (nth [] v7 v9.toNat) 16)), I (intOf (nth .dead (nth [] v7 v9.toNat) 17)), I (intOf (nth .dead (nth [] v7 v9.toNat) 18)), I (intOf (nth .dead (nth [] v7 v9.toNat) 19)), I (intOf (nth .dead (nth [] v7 v9.toNat) 20)), AC.bool (boolOf (nth .dead (nth [] v7 v9.toNat) 21)), I (intOf (nth .dead (nth [] v7 v9.toNat) 20))]).bind fun o169 =>
 (M_cncref25_synchronized [I (intOf (nth .dead (nth [] v7 v9.toNat) 0)), I (intOf (nth .dead (nth [] v7 v9.toNat) 1)), I (intOf (nth .dead (nth [] v7 v9.toNat) 2)), I (intOf (nth .dead (nth [] v7 v9.toNat) 3)), I (intOf (nth .dead (nth [] v7 v9.toNat) 4)), I (intOf (nth .dead (nth [] v7 v9.toNat) 5)), I (intOf (nth .dead (nth [] v7 v9.toNat) 6)), I (intOf (nth .dead (nth [] v7 v9.toNat) 7)), I (intOf (nth .dead (nth [] v7 v9.toNat) 8)), I (intOf (nth .dead (nth [] v7 v9.toNat) 9)), I (intOf (nth .dead (nth [] v7 v9.toNat) 10)), I (intOf (nth .dead (nth [] v7 v9.toNat) 11)), I (intOf (nth .dead (nth [] v7 v9.toNat) 12)), AC.bool (boolOf (nth .dead (nth [] v7 v9.toNat) 13)), I (intOf (nth .dead (nth [] v7 v9.toNat) 14)), AC.bool (boolOf (nth .dead (nth [] v7 v9.toNat) 15)), I (intOf (nth .dead (nth [] v7 v9.toNat) 16)), I (intOf (nth .dead (nth [] v7 v9.toNat) 17)), I (intOf (nth .dead (nth [] v7 v9.toNat) 18)), I (intOf (nth .dead (nth [] v7 v9.toNat) 19)), I (intOf (nth .dead (nth [] v7 v9.toNat) 20)), AC.bool (boolOf (nth .dead (nth [] v7 v9.toNat) 21))]).bind fun o170 =>
 bif boolOf (nth .dead o170 0) then
 (M_cncref25_points [AC.view kItm v2, I v9, I v5]).bind fun o171 =>
 (N19 [AC.view kSgm v0, AC.view kPt v1, AC.view kItm v2, I v3, I (intOf (nth .dead (nth [] v7 v9.toNat) 20)), AC.bool v6, I v9, AC.view kItm v7, I v8, I v9, AC.view kPt (rowsOf (nth .dead o171 0)), I (↑(rowsOf (nth .dead o171 0)).length : Int), I 0, I v10, I v11, I v12, AC.view kSgm v13, AC.view kPt v14, I v15, I v16, I v17, I v18, I v19, I v20, I 0, I 0, I 0, I 0, I v9, I (intOf (nth .dead o169 0)), I (mn (IntKind.i64.wrap (intOf (nth .dead (nth [] v7 v9.toNat) 14) * 16)) 16777216)]).bind fun o172 =>
 bif o172.fst.beq 1 then
 some (1, [I (intOf (nth .dead o172.snd 0)), I (intOf (nth .dead o172.snd 1)), I (intOf (nth .dead o172.snd 2)), I (intOf (nth .dead o172.snd 3))])
 else
 bif o172.fst.beq 2 then
 (M_cncref25_Soft [AC.view kItm (rowsOf (nth .dead o172.snd 2)), I (intOf (nth .dead o172.snd 6))]).bind fun o173 =>
 bif decide (intOf (nth .dead o173 0) ≥ 0) then
 (M_cncref25_kind [AC.view kItm (rowsOf (nth .dead o172.snd 2)), I (intOf (nth .dead o172.snd 6))]).bind fun o174 =>
 bif ((rowsOf (nth .dead o172.snd 1) ++ [[I (intOf (nth .dead o172.snd 3)), I (intOf (nth .dead o174 0)), I (intOf (nth .dead o172.snd 6))]]).length * 24).ble 140737488355328 then
 some (0, [AC.view kSgm (rowsOf (nth .dead o172.snd 0)), AC.view kPt (rowsOf (nth .dead o172.snd 1) ++ [[I (intOf (nth .dead o172.snd 3)), I (intOf (nth .dead o174 0)), I (intOf (nth .dead o172.snd 6))]]), AC.view kItm (rowsOf (nth .dead o172.snd 2)), I (intOf (nth .dead o172.snd 3)), I (intOf (nth .dead o172.snd 4)), I (intOf (nth .dead o172.snd 6)), AC.bool (boolOf (nth .dead o172.snd 5)), AC.view kItm (rowsOf (nth .dead o172.snd 7)), I (intOf (nth .dead o172.snd 8)), I (IntKind.i64.wrap (intOf (nth .dead o172.snd 9) + 1)), I (intOf (nth .dead o172.snd 10)), I (intOf (nth .dead o172.snd 11)), I (intOf (nth .dead o172.snd 12)), AC.view kSgm (rowsOf (nth .dead o172.snd 13)), AC.view kPt (rowsOf (nth .dead o172.snd 14)), I (intOf (nth .dead o172.snd 15)), I (intOf (nth .dead o172.snd 16)), I (intOf (nth .dead o172.snd 17)), I (intOf (nth .dead o172.snd 18)), I (intOf (nth .dead o172.snd 19)), I (intOf (nth .dead o172.snd 20))])
 else
 none
 else
 (M_cncref25_kind [AC.view kItm (rowsOf (nth .dead o172.snd 2)), I (intOf (nth .dead o172.snd 6))]).bind fun o175 =>
 bif ((rowsOf (nth .dead o172.snd 1) ++ [[I (intOf (nth .dead o172.snd 3)), I (intOf (nth .dead o175 0)), I (intOf (nth .dead o172.snd 6))]]).length * 24).ble 140737488355328 then
 some (0, [AC.view kSgm (rowsOf (nth .dead o172.snd 0)), AC.view kPt (rowsOf (nth .dead o172.snd 1) ++ [[I (intOf (nth .dead o172.snd 3)), I (intOf (nth .dead o175 0)), I (intOf (nth .dead o172.snd 6))]]), AC.view kItm (rowsOf (nth .dead o172.snd 2)), I (intOf (nth .dead o172.snd 3)), I (intOf (nth .dead o172.snd 4)), I (-1), AC.bool (boolOf (nth .dead o172.snd 5)), AC.view kItm (rowsOf (nth .dead o172.snd 7)), I (intOf (nth .dead o172.snd 8)), I (IntKind.i64.wrap (intOf (nth .dead o172.snd 9) + 1)), I (intOf (nth .dead o172.snd 10)), I (intOf (nth .dead o172.snd 11)), I (intOf (nth .dead o172.snd 12)), AC.view kSgm (rowsOf (nth .dead o172.snd 13)), AC.view kPt (rowsOf (nth .dead o172.snd 14)), I (intOf (nth .dead o172.snd 15)), I (intOf (nth .dead o172.snd 16)), I (intOf (nth .dead o172.snd 17)), I (intOf (nth .dead o172.snd 18)), I (intOf (nth .dead o172.snd 19)), I (intOf (nth .dead o172.snd 20))])
 else
 none
 else
 none
 else
 (M_cncref25_points [AC.view kItm v2, I v9, I v5]).bind fun o176 =>
 (N19 [AC.view kSgm v0, AC.view kPt v1, AC.view kItm v2, I v3, I (intOf (nth .dead (nth [] v7 v9.toNat) 20)), AC.bool v6, I v9, AC.view kItm v7, I v8, I v9, AC.view kPt (rowsOf (nth .dead o176 0)), I (↑(rowsOf (nth .dead o176 0)).length : Int), I 0, I v10, I v11, I v12, AC.view kSgm v13, AC.view kPt v14, I v15, I v16, I v17, I v18, I v19, I v20, I 0, I 0, I 0, I 0, I v9, I (intOf (nth .dead o169 0)), I 0]).bind fun o177 =>
 bif o177.fst.beq 1 then
 some (1, [I (intOf (nth .dead o177.snd 0)), I (intOf (nth .dead o177.snd 1)), I (intOf (nth .dead o177.snd 2)), I (intOf (nth .dead o177.snd 3))])
 else
 bif o177.fst.beq 2 then
 (M_cncref25_Soft [AC.view kItm (rowsOf (nth .dead o177.snd 2)), I (intOf (nth .dead o177.snd 6))]).bind fun o178 =>
 bif decide (intOf (nth .dead o178 0) ≥ 0) then
 (M_cncref25_kind [AC.view kItm (rowsOf (nth .dead o177.snd 2)), I (intOf (nth .dead o177.snd 6))]).bind fun o179 =>
 bif ((rowsOf (nth .dead o177.snd 1) ++ [[I (intOf (nth .dead o177.snd 3)), I (intOf (nth .dead o179 0)), I (intOf (nth .dead o177.snd 6))]]).length * 24).ble 140737488355328 then
 some (0, [AC.view kSgm (rowsOf (nth .dead o177.snd 0)), AC.view kPt (rowsOf (nth .dead o177.snd 1) ++ [[I (intOf (nth .dead o177.snd 3)), I (intOf (nth .dead o179 0)), I (intOf (nth .dead o177.snd 6))]]), AC.view kItm (rowsOf (nth .dead o177.snd 2)), I (intOf (nth .dead o177.snd 3)), I (intOf (nth .dead o177.snd 4)), I (intOf (nth .dead o177.snd 6)), AC.bool (boolOf (nth .dead o177.snd 5)), AC.view kItm (rowsOf (nth .dead o177.snd 7)), I (intOf (nth .dead o177.snd 8)), I (IntKind.i64.wrap (intOf (nth .dead o177.snd 9) + 1)), I (intOf (nth .dead o177.snd 10)), I (intOf (nth .dead o177.snd 11)), I (intOf (nth .dead o177.snd 12)), AC.view kSgm (rowsOf (nth .dead o177.snd 13)), AC.view kPt (rowsOf (nth .dead o177.snd 14)), I (intOf (nth .dead o177.snd 15)), I (intOf (nth .dead o177.snd 16)), I (intOf (nth .dead o177.snd 17)), I (intOf (nth .dead o177.snd 18)), I (intOf (nth .dead o177.snd 19)), I (intOf (nth .dead o177.snd 20))])
 else
 none
 else
 (M_cncref25_kind [AC.view kItm (rowsOf (nth .dead o177.snd 2)), I (intOf (nth .dead o177.snd 6))]).bind fun o180 =>
 bif ((rowsOf (nth .dead o177.snd 1) ++ [[I (intOf (nth .dead o177.snd 3)), I (intOf (nth .dead o180 0)), I (intOf (nth .dead o177.snd 6))]]).length * 24).ble 140737488355328 then
 some (0, [AC.view kSgm (rowsOf (nth .dead o177.snd 0)), AC.view kPt (rowsOf (nth .dead o177.snd 1) ++ [[I (intOf (nth .dead o177.snd 3)), I (intOf (nth .dead o180 0)), I (intOf (nth .dead o177.snd 6))]]), AC.view kItm (rowsOf (nth .dead o177.snd 2)), I (intOf (nth .dead o177.snd 3)), I (intOf (nth .dead o177.snd 4)), I (-1), AC.bool (boolOf (nth .dead o177.snd 5)), AC.view kItm (rowsOf (nth .dead o177.snd 7)), I (intOf (nth .dead o177.snd 8)), I (IntKind.i64.wrap (intOf (nth .dead o177.snd 9) + 1)), I (intOf (nth .dead o177.snd 10)), I (intOf (nth .dead o177.snd 11)), I (intOf (nth .dead o177.snd 12)), AC.view kSgm (rowsOf (nth .dead o177.snd 13)), AC.view kPt (rowsOf (nth .dead o177.snd 14)), I (intOf (nth .dead o177.snd 15)), I (intOf (nth .dead o177.snd 16)), I (intOf (nth .dead o177.snd 17)), I (intOf (nth .dead o177.snd 18)), I (intOf (nth .dead o177.snd 19)), I (intOf (nth .dead o177.snd 20))])
 else
 none
 else
 none
 else
 (M_cncref23_Motion [I (intOf (nth .dead (nth [] v7 v9.toNat) 0))]).bind fun o181 =>
 bif !boolOf (nth .dead o181 0) then
 (M_cncref25_other [I (intOf (nth .dead (nth [] v7 v9.toNat) 0)), I (intOf (nth .dead (nth [] v7 v9.toNat) 1)), I (intOf (nth .dead (nth [] v7 v9.toNat) 2)), I (intOf (nth .dead (nth [] v7 v9.toNat) 3)), I (intOf (nth .dead (nth [] v7 v9.toNat) 4)), I (intOf (nth .dead (nth [] v7 v9.toNat) 5)), I (intOf (nth .dead (nth [] v7 v9.toNat) 6)), I (intOf (nth .dead (nth [] v7 v9.toNat) 7)), I (intOf (nth .dead (nth [] v7 v9.toNat) 8)), I (intOf (nth .dead (nth [] v7 v9.toNat) 9)), I (intOf (nth .dead (nth [] v7 v9.toNat) 10)), I (intOf (nth .dead (nth [] v7 v9.toNat) 11)), I (intOf (nth .dead (nth [] v7 v9.toNat) 12)), AC.bool (boolOf (nth .dead (nth [] v7 v9.toNat) 13)), I (intOf (nth .dead (nth [] v7 v9.toNat) 14)), AC.bool (boolOf (nth .dead (nth [] v7 v9.toNat) 15)), I (intOf (nth .dead (nth [] v7 v9.toNat) 16)), I (intOf (nth .dead (nth [] v7 v9.toNat) 17)), I (intOf (nth .dead (nth [] v7 v9.toNat) 18)), I (intOf (nth .dead (nth [] v7 v9.toNat) 19)), I (intOf (nth .dead (nth [] v7 v9.toNat) 20)), AC.bool (boolOf (nth .dead (nth [] v7 v9.toNat) 21))]).bind fun o182 =>
 bif ((v1 ++ [[I v3, I (intOf (nth .dead o182 0)), I v9]]).length * 24).ble 140737488355328 then
 some (0, [AC.view kSgm v0, AC.view kPt (v1 ++ [[I v3, I (intOf (nth .dead o182 0)), I v9]]), AC.view kItm v2, I v3, I v4, I v5, AC.bool v6, AC.view kItm v7, I v8, I (IntKind.i64.wrap (v9 + 1)), I v10, I v11, I v12, AC.view kSgm v13, AC.view kPt v14, I v15, I v16, I v17, I v18, I v19, I v20])
 else
 none
 else
 bif !v6 then
 (M_cncref23_Fine [I (intOf (nth .dead (nth [] v7 v9.toNat) 2)), I (intOf (nth .dead (nth [] v7 v9.toNat) 3)), I (intOf (nth .dead (nth [] v7 v9.toNat) 4))]).bind fun o183 =>
 (M_cncref23_Fine [I (intOf (nth .dead (nth [] v7 v9.toNat) 2)), I (intOf (nth .dead (nth [] v7 v9.toNat) 3)), I (intOf (nth .dead (nth [] v7 v9.toNat) 4))]).bind fun o184 =>
 (M_cncref25_Rate [I (intOf (nth .dead (nth [] v7 v9.toNat) 0)), I (intOf (nth .dead (nth [] v7 v9.toNat) 1)), I (intOf (nth .dead (nth [] v7 v9.toNat) 2)), I (intOf (nth .dead (nth [] v7 v9.toNat) 3)), I (intOf (nth .dead (nth [] v7 v9.toNat) 4)), I (intOf (nth .dead (nth [] v7 v9.toNat) 5)), I (intOf (nth .dead (nth [] v7 v9.toNat) 6)), I (intOf (nth .dead (nth [] v7 v9.toNat) 7)), I (intOf (nth .dead (nth [] v7 v9.toNat) 8)), I (intOf (nth .dead (nth [] v7 v9.toNat) 9)), I (intOf (nth .dead (nth [] v7 v9.toNat) 10)), I (intOf (nth .dead (nth [] v7 v9.toNat) 11)), I (intOf (nth .dead (nth [] v7 v9.toNat) 12)), AC.bool (boolOf (nth .dead (nth [] v7 v9.toNat) 13)), I (intOf (nth .dead (nth [] v7 v9.toNat) 14)), AC.bool (boolOf (nth .dead (nth [] v7 v9.toNat) 15)), I (intOf (nth .dead (nth [] v7 v9.toNat) 16)), I (intOf (nth .dead (nth [] v7 v9.toNat) 17)), I (intOf (nth .dead (nth [] v7 v9.toNat) 18)), I (intOf (nth .dead (nth [] v7 v9.toNat) 19)), I (intOf (nth .dead (nth [] v7 v9.toNat) 20)), AC.bool (boolOf (nth .dead (nth [] v7 v9.toNat) 21)), I v4]).bind fun o185 =>
 (M_cncref25_synchronized [I (intOf (nth .dead (nth [] v7 v9.toNat) 0)), I (intOf (nth .dead (nth [] v7 v9.toNat) 1)), I (intOf (nth .dead (nth [] v7 v9.toNat) 2)), I (intOf (nth .dead (nth [] v7 v9.toNat) 3)), I (intOf (nth .dead (nth [] v7 v9.toNat) 4)), I (intOf (nth .dead (nth [] v7 v9.toNat) 5)), I (intOf (nth .dead (nth [] v7 v9.toNat) 6)), I (intOf (nth .dead (nth [] v7 v9.toNat) 7)), I (intOf (nth .dead (nth [] v7 v9.toNat) 8)), I (intOf (nth .dead (nth [] v7 v9.toNat) 9)), I (intOf (nth .dead (nth [] v7 v9.toNat) 10)), I (intOf (nth .dead (nth [] v7 v9.toNat) 11)), I (intOf (nth .dead (nth [] v7 v9.toNat) 12)), AC.bool (boolOf (nth .dead (nth [] v7 v9.toNat) 13)), I (intOf (nth .dead (nth [] v7 v9.toNat) 14)), AC.bool (boolOf (nth .dead (nth [] v7 v9.toNat) 15)), I (intOf (nth .dead (nth [] v7 v9.toNat) 16)), I (intOf (nth .dead (nth [] v7 v9.toNat) 17)), I (intOf (nth .dead (nth [] v7 v9.toNat) 18)), I (intOf (nth .dead (nth [] v7 v9.toNat) 19)), I (intOf (nth .dead (nth [] v7 v9.toNat) 20)), AC.bool (boolOf (nth .dead (nth [] v7 v9.toNat) 21))]).bind fun o186 =>
 bif boolOf (nth .dead o186 0) then
 (M_cncref25_points [AC.view kItm v2, I v9, I v5]).bind fun o187 =>
 (N19 [AC.view kSgm v0, AC.view kPt v1, AC.view kItm v2, I v3, I v4, AC.bool true, I v9, AC.view kItm v7, I v8, I v9, AC.view kPt (rowsOf (nth .dead o187 0)), I (↑(rowsOf (nth .dead o187 0)).length : Int), I 0, I v10, I v11, I v12, AC.view kSgm v13, AC.view kPt v14, I (intOf (nth .dead o183 0)), I (intOf (nth .dead o183 1)), I (intOf (nth .dead o183 2)), I (intOf (nth .dead o184 0)), I (intOf (nth .dead o184 1)), I (intOf (nth .dead o184 2)), I 0, I 0, I 0, I 0, I v9, I (intOf (nth .dead o185 0)), I (mn (IntKind.i64.wrap (intOf (nth .dead (nth [] v7 v9.toNat) 14) * 16)) 16777216)]).bind fun o188 =>
 bif o188.fst.beq 1 then
 some (1, [I (intOf (nth .dead o188.snd 0)), I (intOf (nth .dead o188.snd 1)), I (intOf (nth .dead o188.snd 2)), I (intOf (nth .dead o188.snd 3))])
 else
 bif o188.fst.beq 2 then
 (M_cncref25_Soft [AC.view kItm (rowsOf (nth .dead o188.snd 2)), I (intOf (nth .dead o188.snd 6))]).bind fun o189 =>
 bif decide (intOf (nth .dead o189 0) ≥ 0) then
 (M_cncref25_kind [AC.view kItm (rowsOf (nth .dead o188.snd 2)), I (intOf (nth .dead o188.snd 6))]).bind fun o190 =>
 bif ((rowsOf (nth .dead o188.snd 1) ++ [[I (intOf (nth .dead o188.snd 3)), I (intOf (nth .dead o190 0)), I (intOf (nth .dead o188.snd 6))]]).length * 24).ble 140737488355328 then
 some (0, [AC.view kSgm (rowsOf (nth .dead o188.snd 0)), AC.view kPt (rowsOf (nth .dead o188.snd 1) ++ [[I (intOf (nth .dead o188.snd 3)), I (intOf (nth .dead o190 0)), I (intOf (nth .dead o188.snd 6))]]), AC.view kItm (rowsOf (nth .dead o188.snd 2)), I (intOf (nth .dead o188.snd 3)), I (intOf (nth .dead o188.snd 4)), I (intOf (nth .dead o188.snd 6)), AC.bool (boolOf (nth .dead o188.snd 5)), AC.view kItm (rowsOf (nth .dead o188.snd 7)), I (intOf (nth .dead o188.snd 8)), I (IntKind.i64.wrap (intOf (nth .dead o188.snd 9) + 1)), I (intOf (nth .dead o188.snd 10)), I (intOf (nth .dead o188.snd 11)), I (intOf (nth .dead o188.snd 12)), AC.view kSgm (rowsOf (nth .dead o188.snd 13)), AC.view kPt (rowsOf (nth .dead o188.snd 14)), I (intOf (nth .dead o188.snd 15)), I (intOf (nth .dead o188.snd 16)), I (intOf (nth .dead o188.snd 17)), I (intOf (nth .dead o188.snd 18)), I (intOf (nth .dead o188.snd 19)), I (intOf (nth .dead o188.snd 20))])
 else
 none
 else
 (M_cncref25_kind [AC.view kItm (rowsOf (nth .dead o188.snd 2)), I (intOf (nth .dead o188.snd 6))]).bind fun o191 =>
 bif ((rowsOf (nth .dead o188.snd 1) ++ [[I (intOf (nth .dead o188.snd 3)), I (intOf (nth .dead o191 0)), I (intOf (nth .dead o188.snd 6))]]).length * 24).ble 140737488355328 then
 some (0, [AC.view kSgm (rowsOf (nth .dead o188.snd 0)), AC.view kPt (rowsOf (nth .dead o188.snd 1) ++ [[I (intOf (nth .dead o188.snd 3)), I (intOf (nth .dead o191 0)), I (intOf (nth .dead o188.snd 6))]]), AC.view kItm (rowsOf (nth .dead o188.snd 2)), I (intOf (nth .dead o188.snd 3)), I (intOf (nth .dead o188.snd 4)), I (-1), AC.bool (boolOf (nth .dead o188.snd 5)), AC.view kItm (rowsOf (nth .dead o188.snd 7)), I (intOf (nth .dead o188.snd 8)), I (IntKind.i64.wrap (intOf (nth .dead o188.snd 9) + 1)), I (intOf (nth .dead o188.snd 10)), I (intOf (nth .dead o188.snd 11)), I (intOf (nth .dead o188.snd 12)), AC.view kSgm (rowsOf (nth .dead o188.snd 13)), AC.view kPt (rowsOf (nth .dead o188.snd 14)), I (intOf (nth .dead o188.snd 15)), I (intOf (nth .dead o188.snd 16)), I (intOf (nth .dead o188.snd 17)), I (intOf (nth .dead o188.snd 18)), I (intOf (nth .dead o188.snd 19)), I (intOf (nth .dead o188.snd 20))])
 else
 none
 else
 none
 else
 (M_cncref25_points [AC.view kItm v2, I v9, I v5]).bind fun o192 =>
 (N19 [AC.view kSgm v0, AC.view kPt v1, AC.view kItm v2, I v3, I v4, AC.bool true, I v9, AC.view kItm v7, I v8, I v9, AC.view kPt (rowsOf (nth .dead o192 0)), I (↑(rowsOf (nth .dead o192 0)).length : Int), I 0, I v10, I v11, I v12, AC.view kSgm v13, AC.view kPt v14, I (intOf (nth .dead o183 0)), I (intOf (nth .dead o183 1)), I (intOf (nth .dead o183 2)), I (intOf (nth .dead o184 0)), I (intOf (nth .dead o184 1)), I (intOf (nth .dead o184 2)), I 0, I 0, I 0, I 0, I v9, I (intOf (nth .dead o185 0)), I 0]).bind fun o193 =>
 bif o193.fst.beq 1 then
 some (1, [I (intOf (nth .dead o193.snd 0)), I (intOf (nth .dead o193.snd 1)), I (intOf (nth .dead o193.snd 2)), I (intOf (nth .dead o193.snd 3))])
 else
 bif o193.fst.beq 2 then
 (M_cncref25_Soft [AC.view kItm (rowsOf (nth .dead o193.snd 2)), I (intOf (nth .dead o193.snd 6))]).bind fun o194 =>
 bif decide (intOf (nth .dead o194 0) ≥ 0) then
 (M_cncref25_kind [AC.view kItm (rowsOf (nth .dead o193.snd 2)), I (intOf (nth .dead o193.snd 6))]).bind fun o195 =>
 bif ((rowsOf (nth .dead o193.snd 1) ++ [[I (intOf (nth .dead o193.snd 3)), I (intOf (nth .dead o195 0)), I (intOf (nth .dead o193.snd 6))]]).length * 24).ble 140737488355328 then
 some (0, [AC.view kSgm (rowsOf (nth .dead o193.snd 0)), AC.view kPt (rowsOf (nth .dead o193.snd 1) ++ [[I (intOf (nth .dead o193.snd 3)), I (intOf (nth .dead o195 0)), I (intOf (nth .dead o193.snd 6))]]), AC.view kItm (rowsOf (nth .dead o193.snd 2)), I (intOf (nth .dead o193.snd 3)), I (intOf (nth .dead o193.snd 4)), I (intOf (nth .dead o193.snd 6)), AC.bool (boolOf (nth .dead o193.snd 5)), AC.view kItm (rowsOf (nth .dead o193.snd 7)), I (intOf (nth .dead o193.snd 8)), I (IntKind.i64.wrap (intOf (nth .dead o193.snd 9) + 1)), I (intOf (nth .dead o193.snd 10)), I (intOf (nth .dead o193.snd 11)), I (intOf (nth .dead o193.snd 12)), AC.view kSgm (rowsOf (nth .dead o193.snd 13)), AC.view kPt (rowsOf (nth .dead o193.snd 14)), I (intOf (nth .dead o193.snd 15)), I (intOf (nth .dead o193.snd 16)), I (intOf (nth .dead o193.snd 17)), I (intOf (nth .dead o193.snd 18)), I (intOf (nth .dead o193.snd 19)), I (intOf (nth .dead o193.snd 20))])
 else
 none
 else
 (M_cncref25_kind [AC.view kItm (rowsOf (nth .dead o193.snd 2)), I (intOf (nth .dead o193.snd 6))]).bind fun o196 =>
 bif ((rowsOf (nth .dead o193.snd 1) ++ [[I (intOf (nth .dead o193.snd 3)), I (intOf (nth .dead o196 0)), I (intOf (nth .dead o193.snd 6))]]).length * 24).ble 140737488355328 then
 some (0, [AC.view kSgm (rowsOf (nth .dead o193.snd 0)), AC.view kPt (rowsOf (nth .dead o193.snd 1) ++ [[I (intOf (nth .dead o193.snd 3)), I (intOf (nth .dead o196 0)), I (intOf (nth .dead o193.snd 6))]]), AC.view kItm (rowsOf (nth .dead o193.snd 2)), I (intOf (nth .dead o193.snd 3)), I (intOf (nth .dead o193.snd 4)), I (-1), AC.bool (boolOf (nth .dead o193.snd 5)), AC.view kItm (rowsOf (nth .dead o193.snd 7)), I (intOf (nth .dead o193.snd 8)), I (IntKind.i64.wrap (intOf (nth .dead o193.snd 9) + 1)), I (intOf (nth .dead o193.snd 10)), I (intOf (nth .dead o193.snd 11)), I (intOf (nth .dead o193.snd 12)), AC.view kSgm (rowsOf (nth .dead o193.snd 13)), AC.view kPt (rowsOf (nth .dead o193.snd 14)), I (intOf (nth .dead o193.snd 15)), I (intOf (nth .dead o193.snd 16)), I (intOf (nth .dead o193.snd 17)), I (intOf (nth .dead o193.snd 18)), I (intOf (nth .dead o193.snd 19)), I (intOf (nth .dead o193.snd 20))])
 else
 none
 else
 none
 else
 (M_cncref25_Rate [I (intOf (nth .dead (nth [] v7 v9.toNat) 0)), I (intOf (nth .dead (nth [] v7 v9.toNat) 1)), I (intOf (nth .dead (nth [] v7 v9.toNat) 2)), I (intOf (nth .dead (nth [] v7 v9.toNat) 3)), I (intOf (nth .dead (nth [] v7 v9.toNat) 4)), I (intOf (nth .dead (nth [] v7 v9.toNat) 5)), I (intOf (nth .dead (nth [] v7 v9.toNat) 6)), I (intOf (nth .dead (nth [] v7 v9.toNat) 7)), I (intOf (nth .dead (nth [] v7 v9.toNat) 8)), I (intOf (nth .dead (nth [] v7 v9.toNat) 9)), I (intOf (nth .dead (nth [] v7 v9.toNat) 10)), I (intOf (nth .dead (nth [] v7 v9.toNat) 11)), I (intOf (nth .dead (nth [] v7 v9.toNat) 12)), AC.bool (boolOf (nth .dead (nth [] v7 v9.toNat) 13)), I (intOf (nth .dead (nth [] v7 v9.toNat) 14)), AC.bool (boolOf (nth .dead (nth [] v7 v9.toNat) 15)), I (intOf (nth .dead (nth [] v7 v9.toNat) 16)), I (intOf (nth .dead (nth [] v7 v9.toNat) 17)), I (intOf (nth .dead (nth [] v7 v9.toNat) 18)), I (intOf (nth .dead (nth [] v7 v9.toNat) 19)), I (intOf (nth .dead (nth [] v7 v9.toNat) 20)), AC.bool (boolOf (nth .dead (nth [] v7 v9.toNat) 21)), I v4]).bind fun o197 =>
 (M_cncref25_synchronized [I (intOf (nth .dead (nth [] v7 v9.toNat) 0)), I (intOf (nth .dead (nth [] v7 v9.toNat) 1)), I (intOf (nth .dead (nth [] v7 v9.toNat) 2)), I (intOf (nth .dead (nth [] v7 v9.toNat) 3)), I (intOf (nth .dead (nth [] v7 v9.toNat) 4)), I (intOf (nth .dead (nth [] v7 v9.toNat) 5)), I (intOf (nth .dead (nth [] v7 v9.toNat) 6)), I (intOf (nth .dead (nth [] v7 v9.toNat) 7)), I (intOf (nth .dead (nth [] v7 v9.toNat) 8)), I (intOf (nth .dead (nth [] v7 v9.toNat) 9)), I (intOf (nth .dead (nth [] v7 v9.toNat) 10)), I (intOf (nth .dead (nth [] v7 v9.toNat) 11)), I (intOf (nth .dead (nth [] v7 v9.toNat) 12)), AC.bool (boolOf (nth .dead (nth [] v7 v9.toNat) 13)), I (intOf (nth .dead (nth [] v7 v9.toNat) 14)), AC.bool (boolOf (nth .dead (nth [] v7 v9.toNat) 15)), I (intOf (nth .dead (nth [] v7 v9.toNat) 16)), I (intOf (nth .dead (nth [] v7 v9.toNat) 17)), I (intOf (nth .dead (nth [] v7 v9.toNat) 18)), I (intOf (nth .dead (nth [] v7 v9.toNat) 19)), I (intOf (nth .dead (nth [] v7 v9.toNat) 20)), AC.bool (boolOf (nth .dead (nth [] v7 v9.toNat) 21))]).bind fun o198 =>
 bif boolOf (nth .dead o198 0) then
 (M_cncref25_points [AC.view kItm v2, I v9, I v5]).bind fun o199 =>
 (N19 [AC.view kSgm v0, AC.view kPt v1, AC.view kItm v2, I v3, I v4, AC.bool v6, I v9, AC.view kItm v7, I v8, I v9, AC.view kPt (rowsOf (nth .dead o199 0)), I (↑(rowsOf (nth .dead o199 0)).length : Int), I 0, I v10, I v11, I v12, AC.view kSgm v13, AC.view kPt v14, I v15, I v16, I v17, I v18, I v19, I v20, I 0, I 0, I 0, I 0, I v9, I (intOf (nth .dead o197 0)), I (mn (IntKind.i64.wrap (intOf (nth .dead (nth [] v7 v9.toNat) 14) * 16)) 16777216)]).bind fun o200 =>
 bif o200.fst.beq 1 then
 some (1, [I (intOf (nth .dead o200.snd 0)), I (intOf (nth .dead o200.snd 1)), I (intOf (nth .dead o200.snd 2)), I (intOf (nth .dead o200.snd 3))])
 else
 bif o200.fst.beq 2 then
 (M_cncref25_Soft [AC.view kItm (rowsOf (nth .dead o200.snd 2)), I (intOf (nth .dead o200.snd 6))]).bind fun o201 =>
 bif decide (intOf (nth .dead o201 0) ≥ 0) then
 (M_cncref25_kind [AC.view kItm (rowsOf (nth .dead o200.snd 2)), I (intOf (nth .dead o200.snd 6))]).bind fun o202 =>
 bif ((rowsOf (nth .dead o200.snd 1) ++ [[I (intOf (nth .dead o200.snd 3)), I (intOf (nth .dead o202 0)), I (intOf (nth .dead o200.snd 6))]]).length * 24).ble 140737488355328 then
 some (0, [AC.view kSgm (rowsOf (nth .dead o200.snd 0)), AC.view kPt (rowsOf (nth .dead o200.snd 1) ++ [[I (intOf (nth .dead o200.snd 3)), I (intOf (nth .dead o202 0)), I (intOf (nth .dead o200.snd 6))]]), AC.view kItm (rowsOf (nth .dead o200.snd 2)), I (intOf (nth .dead o200.snd 3)), I (intOf (nth .dead o200.snd 4)), I (intOf (nth .dead o200.snd 6)), AC.bool (boolOf (nth .dead o200.snd 5)), AC.view kItm (rowsOf (nth .dead o200.snd 7)), I (intOf (nth .dead o200.snd 8)), I (IntKind.i64.wrap (intOf (nth .dead o200.snd 9) + 1)), I (intOf (nth .dead o200.snd 10)), I (intOf (nth .dead o200.snd 11)), I (intOf (nth .dead o200.snd 12)), AC.view kSgm (rowsOf (nth .dead o200.snd 13)), AC.view kPt (rowsOf (nth .dead o200.snd 14)), I (intOf (nth .dead o200.snd 15)), I (intOf (nth .dead o200.snd 16)), I (intOf (nth .dead o200.snd 17)), I (intOf (nth .dead o200.snd 18)), I (intOf (nth .dead o200.snd 19)), I (intOf (nth .dead o200.snd 20))])
 else
 none
 else
 (M_cncref25_kind [AC.view kItm (rowsOf (nth .dead o200.snd 2)), I (intOf (nth .dead o200.snd 6))]).bind fun o203 =>
 bif ((rowsOf (nth .dead o200.snd 1) ++ [[I (intOf (nth .dead o200.snd 3)), I (intOf (nth .dead o203 0)), I (intOf (nth .dead o200.snd 6))]]).length * 24).ble 140737488355328 then
 some (0, [AC.view kSgm (rowsOf (nth .dead o200.snd 0)), AC.view kPt (rowsOf (nth .dead o200.snd 1) ++ [[I (intOf (nth .dead o200.snd 3)), I (intOf (nth .dead o203 0)), I (intOf (nth .dead o200.snd 6))]]), AC.view kItm (rowsOf (nth .dead o200.snd 2)), I (intOf (nth .dead o200.snd 3)), I (intOf (nth .dead o200.snd 4)), I (-1), AC.bool (boolOf (nth .dead o200.snd 5)), AC.view kItm (rowsOf (nth .dead o200.snd 7)), I (intOf (nth .dead o200.snd 8)), I (IntKind.i64.wrap (intOf (nth .dead o200.snd 9) + 1)), I (intOf (nth .dead o200.snd 10)), I (intOf (nth .dead o200.snd 11)), I (intOf (nth .dead o200.snd 12)), AC.view kSgm (rowsOf (nth .dead o200.snd 13)), AC.view kPt (rowsOf (nth .dead o200.snd 14)), I (intOf (nth .dead o200.snd 15)), I (intOf (nth .dead o200.snd 16)), I (intOf (nth .dead o200.snd 17)), I (intOf (nth .dead o200.snd 18)), I (intOf (nth .dead o200.snd 19)), I (intOf (nth .dead o200.snd 20))])
 else
 none
 else
 none
 else
 (M_cncref25_points [AC.view kItm v2, I v9, I v5]).bind fun o204 =>
 (N19 [AC.view kSgm v0, AC.view kPt v1, AC.view kItm v2, I v3, I v4, AC.bool v6, I v9, AC.view kItm v7, I v8, I v9, AC.view kPt (rowsOf (nth .dead o204 0)), I (↑(rowsOf (nth .dead o204 0)).length : Int), I 0, I v10, I v11, I v12, AC.view kSgm v13, AC.view kPt v14, I v15, I v16, I v17, I v18, I v19, I v20, I 0, I 0, I 0, I 0, I v9, I (intOf (nth .dead o197 0)), I 0]).bind fun o205 =>
 bif o205.fst.beq 1 then
 some (1, [I (intOf (nth .dead o205.snd 0)), I (intOf (nth .dead o205.snd 1)), I (intOf (nth .dead o205.snd 2)), I (intOf (nth .dead o205.snd 3))])
 else
 bif o205.fst.beq 2 then
 (M_cncref25_Soft [AC.view kItm (rowsOf (nth .dead o205.snd 2)), I (intOf (nth .dead o205.snd 6))]).bind fun o206 =>
 bif decide (intOf (nth .dead o206 0) ≥ 0) then
 (M_cncref25_kind [AC.view kItm (rowsOf (nth .dead o205.snd 2)), I (intOf (nth .dead o205.snd 6))]).bind fun o207 =>
 bif ((rowsOf (nth .dead o205.snd 1) ++ [[I (intOf (nth .dead o205.snd 3)), I (intOf (nth .dead o207 0)), I (intOf (nth .dead o205.snd 6))]]).length * 24).ble 140737488355328 then
 some (0, [AC.view kSgm (rowsOf (nth .dead o205.snd 0)), AC.view kPt (rowsOf (nth .dead o205.snd 1) ++ [[I (intOf (nth .dead o205.snd 3)), I (intOf (nth .dead o207 0)), I (intOf (nth .dead o205.snd 6))]]), AC.view kItm (rowsOf (nth .dead o205.snd 2)), I (intOf (nth .dead o205.snd 3)), I (intOf (nth .dead o205.snd 4)), I (intOf (nth .dead o205.snd 6)), AC.bool (boolOf (nth .dead o205.snd 5)), AC.view kItm (rowsOf (nth .dead o205.snd 7)), I (intOf (nth .dead o205.snd 8)), I (IntKind.i64.wrap (intOf (nth .dead o205.snd 9) + 1)), I (intOf (nth .dead o205.snd 10)), I (intOf (nth .dead o205.snd 11)), I (intOf (nth .dead o205.snd 12)), AC.view kSgm (rowsOf (nth .dead o205.snd 13)), AC.view kPt (rowsOf (nth .dead o205.snd 14)), I (intOf (nth .dead o205.snd 15)), I (intOf (nth .dead o205.snd 16)), I (intOf (nth .dead o205.snd 17)), I (intOf (nth .dead o205.snd 18)), I (intOf (nth .dead o205.snd 19)), I (intOf (nth .dead o205.snd 20))])
 else
 none
 else
 (M_cncref25_kind [AC.view kItm (rowsOf (nth .dead o205.snd 2)), I (intOf (nth .dead o205.snd 6))]).bind fun o208 =>
 bif ((rowsOf (nth .dead o205.snd 1) ++ [[I (intOf (nth .dead o205.snd 3)), I (intOf (nth .dead o208 0)), I (intOf (nth .dead o205.snd 6))]]).length * 24).ble 140737488355328 then
 some (0, [AC.view kSgm (rowsOf (nth .dead o205.snd 0)), AC.view kPt (rowsOf (nth .dead o205.snd 1) ++ [[I (intOf (nth .dead o205.snd 3)), I (intOf (nth .dead o208 0)), I (intOf (nth .dead o205.snd 6))]]), AC.view kItm (rowsOf (nth .dead o205.snd 2)), I (intOf (nth .dead o205.snd 3)), I (intOf (nth .dead o205.snd 4)), I (-1), AC.bool (boolOf (nth .dead o205.snd 5)), AC.view kItm (rowsOf (nth .dead o205.snd 7)), I (intOf (nth .dead o205.snd 8)), I (IntKind.i64.wrap (intOf (nth .dead o205.snd 9) + 1)), I (intOf (nth .dead o205.snd 10)), I (intOf (nth .dead o205.snd 11)), I (intOf (nth .dead o205.snd 12)), AC.view kSgm (rowsOf (nth .dead o205.snd 13)), AC.view kPt (rowsOf (nth .dead o205.snd 14)), I (intOf (nth .dead o205.snd 15)), I (intOf (nth .dead o205.snd 16)), I (intOf (nth .dead o205.snd 17)), I (intOf (nth .dead o205.snd 18)), I (intOf (nth .dead o205.snd 19)), I (intOf (nth .dead o205.snd 20))])
 else
 none
 else
 none
 else
 (M_cncref23_Motion [I (intOf (nth .dead (nth [] v7 v9.toNat) 0))]).bind fun o209 =>
 bif !boolOf (nth .dead o209 0) then
 (M_cncref25_other [I (intOf (nth .dead (nth [] v7 v9.toNat) 0)), I (intOf (nth .dead (nth [] v7 v9.toNat) 1)), I (intOf (nth .dead (nth [] v7 v9.toNat) 2)), I (intOf (nth .dead (nth [] v7 v9.toNat) 3)), I (intOf (nth .dead (nth [] v7 v9.toNat) 4)), I (intOf (nth .dead (nth [] v7 v9.toNat) 5)), I (intOf (nth .dead (nth [] v7 v9.toNat) 6)), I (intOf (nth .dead (nth [] v7 v9.toNat) 7)), I (intOf (nth .dead (nth [] v7 v9.toNat) 8)), I (intOf (nth .dead (nth [] v7 v9.toNat) 9)), I (intOf (nth .dead (nth [] v7 v9.toNat) 10)), I (intOf (nth .dead (nth [] v7 v9.toNat) 11)), I (intOf (nth .dead (nth [] v7 v9.toNat) 12)), AC.bool (boolOf (nth .dead (nth [] v7 v9.toNat) 13)), I (intOf (nth .dead (nth [] v7 v9.toNat) 14)), AC.bool (boolOf (nth .dead (nth [] v7 v9.toNat) 15)), I (intOf (nth .dead (nth [] v7 v9.toNat) 16)), I (intOf (nth .dead (nth [] v7 v9.toNat) 17)), I (intOf (nth .dead (nth [] v7 v9.toNat) 18)), I (intOf (nth .dead (nth [] v7 v9.toNat) 19)), I (intOf (nth .dead (nth [] v7 v9.toNat) 20)), AC.bool (boolOf (nth .dead (nth [] v7 v9.toNat) 21))]).bind fun o210 =>
 bif ((v1 ++ [[I v3, I (intOf (nth .dead o210 0)), I v9]]).length * 24).ble 140737488355328 then
 some (0, [AC.view kSgm v0, AC.view kPt (v1 ++ [[I v3, I (intOf (nth .dead o210 0)), I v9]]), AC.view kItm v2, I v3, I v4, I v5, AC.bool v6, AC.view kItm v7, I v8, I (IntKind.i64.wrap (v9 + 1)), I v10, I v11, I v12, AC.view kSgm v13, AC.view kPt v14, I v15, I v16, I v17, I v18, I v19, I v20])
 else
 none
 else
 bif !v6 then
 (M_cncref23_Fine [I (intOf (nth .dead (nth [] v7 v9.toNat) 2)), I (intOf (nth .dead (nth [] v7 v9.toNat) 3)), I (intOf (nth .dead (nth [] v7 v9.toNat) 4))]).bind fun o211 =>
 (M_cncref23_Fine [I (intOf (nth .dead (nth [] v7 v9.toNat) 2)), I (intOf (nth .dead (nth [] v7 v9.toNat) 3)), I (intOf (nth .dead (nth [] v7 v9.toNat) 4))]).bind fun o212 =>
 (M_cncref25_Rate [I (intOf (nth .dead (nth [] v7 v9.toNat) 0)), I (intOf (nth .dead (nth [] v7 v9.toNat) 1)), I (intOf (nth .dead (nth [] v7 v9.toNat) 2)), I (intOf (nth .dead (nth [] v7 v9.toNat) 3)), I (intOf (nth .dead (nth [] v7 v9.toNat) 4)), I (intOf (nth .dead (nth [] v7 v9.toNat) 5)), I (intOf (nth .dead (nth [] v7 v9.toNat) 6)), I (intOf (nth .dead (nth [] v7 v9.toNat) 7)), I (intOf (nth .dead (nth [] v7 v9.toNat) 8)), I (intOf (nth .dead (nth [] v7 v9.toNat) 9)), I (intOf (nth .dead (nth [] v7 v9.toNat) 10)), I (intOf (nth .dead (nth [] v7 v9.toNat) 11)), I (intOf (nth .dead (nth [] v7 v9.toNat) 12)), AC.bool (boolOf (nth .dead (nth [] v7 v9.toNat) 13)), I (intOf (nth .dead (nth [] v7 v9.toNat) 14)), AC.bool (boolOf (nth .dead (nth [] v7 v9.toNat) 15)), I (intOf (nth .dead (nth [] v7 v9.toNat) 16)), I (intOf (nth .dead (nth [] v7 v9.toNat) 17)), I (intOf (nth .dead (nth [] v7 v9.toNat) 18)), I (intOf (nth .dead (nth [] v7 v9.toNat) 19)), I (intOf (nth .dead (nth [] v7 v9.toNat) 20)), AC.bool (boolOf (nth .dead (nth [] v7 v9.toNat) 21)), I v4]).bind fun o213 =>
 (M_cncref25_synchronized [I (intOf (nth .dead (nth [] v7 v9.toNat) 0)), I (intOf (nth .dead (nth [] v7 v9.toNat) 1)), I (intOf (nth .dead (nth [] v7 v9.toNat) 2)), I (intOf (nth .dead (nth [] v7 v9.toNat) 3)), I (intOf (nth .dead (nth [] v7 v9.toNat) 4)), I (intOf (nth .dead (nth [] v7 v9.toNat) 5)), I (intOf (nth .dead (nth [] v7 v9.toNat) 6)), I (intOf (nth .dead (nth [] v7 v9.toNat) 7)), I (intOf (nth .dead (nth [] v7 v9.toNat) 8)), I (intOf (nth .dead (nth [] v7 v9.toNat) 9)), I (intOf (nth .dead (nth [] v7 v9.toNat) 10)), I (intOf (nth .dead (nth [] v7 v9.toNat) 11)), I (intOf (nth .dead (nth [] v7 v9.toNat) 12)), AC.bool (boolOf (nth .dead (nth [] v7 v9.toNat) 13)), I (intOf (nth .dead (nth [] v7 v9.toNat) 14)), AC.bool (boolOf (nth .dead (nth [] v7 v9.toNat) 15)), I (intOf (nth .dead (nth [] v7 v9.toNat) 16)), I (intOf (nth .dead (nth [] v7 v9.toNat) 17)), I (intOf (nth .dead (nth [] v7 v9.toNat) 18)), I (intOf (nth .dead (nth [] v7 v9.toNat) 19)), I (intOf (nth .dead (nth [] v7 v9.toNat) 20)), AC.bool (boolOf (nth .dead (nth [] v7 v9.toNat) 21))]).bind fun o214 =>
 bif boolOf (nth .dead o214 0) then
 (M_cncref25_points [AC.view kItm v2, I v9, I v5]).bind fun o215 =>
 (N19 [AC.view kSgm v0, AC.view kPt v1, AC.view kItm v2, I v3, I v4, AC.bool true, I v9, AC.view kItm v7, I v8, I v9, AC.view kPt (rowsOf (nth .dead o215 0)), I (↑(rowsOf (nth .dead o215 0)).length : Int), I 0, I v10, I v11, I v12, AC.view kSgm v13, AC.view kPt v14, I (intOf (nth .dead o211 0)), I (intOf (nth .dead o211 1)), I (intOf (nth .dead o211 2)), I (intOf (nth .dead o212 0)), I (intOf (nth .dead o212 1)), I (intOf (nth .dead o212 2)), I 0, I 0, I 0, I 0, I v9, I (intOf (nth .dead o213 0)), I (mn (IntKind.i64.wrap (intOf (nth .dead (nth [] v7 v9.toNat) 14) * 16)) 16777216)]).bind fun o216 =>
 bif o216.fst.beq 1 then
 some (1, [I (intOf (nth .dead o216.snd 0)), I (intOf (nth .dead o216.snd 1)), I (intOf (nth .dead o216.snd 2)), I (intOf (nth .dead o216.snd 3))])
 else
 bif o216.fst.beq 2 then
 (M_cncref25_Soft [AC.view kItm (rowsOf (nth .dead o216.snd 2)), I (intOf (nth .dead o216.snd 6))]).bind fun o217 =>
 bif decide (intOf (nth .dead o217 0) ≥ 0) then
 (M_cncref25_kind [AC.view kItm (rowsOf (nth .dead o216.snd 2)), I (intOf (nth .dead o216.snd 6))]).bind fun o218 =>
 bif ((rowsOf (nth .dead o216.snd 1) ++ [[I (intOf (nth .dead o216.snd 3)), I (intOf (nth .dead o218 0)), I (intOf (nth .dead o216.snd 6))]]).length * 24).ble 140737488355328 then
 some (0, [AC.view kSgm (rowsOf (nth .dead o216.snd 0)), AC.view kPt (rowsOf (nth .dead o216.snd 1) ++ [[I (intOf (nth .dead o216.snd 3)), I (intOf (nth .dead o218 0)), I (intOf (nth .dead o216.snd 6))]]), AC.view kItm (rowsOf (nth .dead o216.snd 2)), I (intOf (nth .dead o216.snd 3)), I (intOf (nth .dead o216.snd 4)), I (intOf (nth .dead o216.snd 6)), AC.bool (boolOf (nth .dead o216.snd 5)), AC.view kItm (rowsOf (nth .dead o216.snd 7)), I (intOf (nth .dead o216.snd 8)), I (IntKind.i64.wrap (intOf (nth .dead o216.snd 9) + 1)), I (intOf (nth .dead o216.snd 10)), I (intOf (nth .dead o216.snd 11)), I (intOf (nth .dead o216.snd 12)), AC.view kSgm (rowsOf (nth .dead o216.snd 13)), AC.view kPt (rowsOf (nth .dead o216.snd 14)), I (intOf (nth .dead o216.snd 15)), I (intOf (nth .dead o216.snd 16)), I (intOf (nth .dead o216.snd 17)), I (intOf (nth .dead o216.snd 18)), I (intOf (nth .dead o216.snd 19)), I (intOf (nth .dead o216.snd 20))])
 else
 none
 else
 (M_cncref25_kind [AC.view kItm (rowsOf (nth .dead o216.snd 2)), I (intOf (nth .dead o216.snd 6))]).bind fun o219 =>
 bif ((rowsOf (nth .dead o216.snd 1) ++ [[I (intOf (nth .dead o216.snd 3)), I (intOf (nth .dead o219 0)), I (intOf (nth .dead o216.snd 6))]]).length * 24).ble 140737488355328 then
 some (0, [AC.view kSgm (rowsOf (nth .dead o216.snd 0)), AC.view kPt (rowsOf (nth .dead o216.snd 1) ++ [[I (intOf (nth .dead o216.snd 3)), I (intOf (nth .dead o219 0)), I (intOf (nth .dead o216.snd 6))]]), AC.view kItm (rowsOf (nth .dead o216.snd 2)), I (intOf (nth .dead o216.snd 3)), I (intOf (nth .dead o216.snd 4)), I (-1), AC.bool (boolOf (nth .dead o216.snd 5)), AC.view kItm (rowsOf (nth .dead o216.snd 7)), I (intOf (nth .dead o216.snd 8)), I (IntKind.i64.wrap (intOf (nth .dead o216.snd 9) + 1)), I (intOf (nth .dead o216.snd 10)), I (intOf (nth .dead o216.snd 11)), I (intOf (nth .dead o216.snd 12)), AC.view kSgm (rowsOf (nth .dead o216.snd 13)), AC.view kPt (rowsOf (nth .dead o216.snd 14)), I (intOf (nth .dead o216.snd 15)), I (intOf (nth .dead o216.snd 16)), I (intOf (nth .dead o216.snd 17)), I (intOf (nth .dead o216.snd 18)), I (intOf (nth .dead o216.snd 19)), I (intOf (nth .dead o216.snd 20))])
 else
 none
 else
 none
 else
 (M_cncref25_points [AC.view kItm v2, I v9, I v5]).bind fun o220 =>
 (N19 [AC.view kSgm v0, AC.view kPt v1, AC.view kItm v2, I v3, I v4, AC.bool true, I v9, AC.view kItm v7, I v8, I v9, AC.view kPt (rowsOf (nth .dead o220 0)), I (↑(rowsOf (nth .dead o220 0)).length : Int), I 0, I v10, I v11, I v12, AC.view kSgm v13, AC.view kPt v14, I (intOf (nth .dead o211 0)), I (intOf (nth .dead o211 1)), I (intOf (nth .dead o211 2)), I (intOf (nth .dead o212 0)), I (intOf (nth .dead o212 1)), I (intOf (nth .dead o212 2)), I 0, I 0, I 0, I 0, I v9, I (intOf (nth .dead o213 0)), I 0]).bind fun o221 =>
 bif o221.fst.beq 1 then
 some (1, [I (intOf (nth .dead o221.snd 0)), I (intOf (nth .dead o221.snd 1)), I (intOf (nth .dead o221.snd 2)), I (intOf (nth .dead o221.snd 3))])
 else
 bif o221.fst.beq 2 then
 (M_cncref25_Soft [AC.view kItm (rowsOf (nth .dead o221.snd 2)), I (intOf (nth .dead o221.snd 6))]).bind fun o222 =>
 bif decide (intOf (nth .dead o222 0) ≥ 0) then
 (M_cncref25_kind [AC.view kItm (rowsOf (nth .dead o221.snd 2)), I (intOf (nth .dead o221.snd 6))]).bind fun o223 =>
 bif ((rowsOf (nth .dead o221.snd 1) ++ [[I (intOf (nth .dead o221.snd 3)), I (intOf (nth .dead o223 0)), I (intOf (nth .dead o221.snd 6))]]).length * 24).ble 140737488355328 then
 some (0, [AC.view kSgm (rowsOf (nth .dead o221.snd 0)), AC.view kPt (rowsOf (nth .dead o221.snd 1) ++ [[I (intOf (nth .dead o221.snd 3)), I (intOf (nth .dead o223 0)), I (intOf (nth .dead o221.snd 6))]]), AC.view kItm (rowsOf (nth .dead o221.snd 2)), I (intOf (nth .dead o221.snd 3)), I (intOf (nth .dead o221.snd 4)), I (intOf (nth .dead o221.snd 6)), AC.bool (boolOf (nth .dead o221.snd 5)), AC.view kItm (rowsOf (nth .dead o221.snd 7)), I (intOf (nth .dead o221.snd 8)), I (IntKind.i64.wrap (intOf (nth .dead o221.snd 9) + 1)), I (intOf (nth .dead o221.snd 10)), I (intOf (nth .dead o221.snd 11)), I (intOf (nth .dead o221.snd 12)), AC.view kSgm (rowsOf (nth .dead o221.snd 13)), AC.view kPt (rowsOf (nth .dead o221.snd 14)), I (intOf (nth .dead o221.snd 15)), I (intOf (nth .dead o221.snd 16)), I (intOf (nth .dead o221.snd 17)), I (intOf (nth .dead o221.snd 18)), I (intOf (nth .dead o221.snd 19)), I (intOf (nth .dead o221.snd 20))])
 else
 none
 else
 (M_cncref25_kind [AC.view kItm (rowsOf (nth .dead o221.snd 2)), I (intOf (nth .dead o221.snd 6))]).bind fun o224 =>
 bif ((rowsOf (nth .dead o221.snd 1) ++ [[I (intOf (nth .dead o221.snd 3)), I (intOf (nth .dead o224 0)), I (intOf (nth .dead o221.snd 6))]]).length * 24).ble 140737488355328 then
 some (0, [AC.view kSgm (rowsOf (nth .dead o221.snd 0)), AC.view kPt (rowsOf (nth .dead o221.snd 1) ++ [[I (intOf (nth .dead o221.snd 3)), I (intOf (nth .dead o224 0)), I (intOf (nth .dead o221.snd 6))]]), AC.view kItm (rowsOf (nth .dead o221.snd 2)), I (intOf (nth .dead o221.snd 3)), I (intOf (nth .dead o221.snd 4)), I (-1), AC.bool (boolOf (nth .dead o221.snd 5)), AC.view kItm (rowsOf (nth .dead o221.snd 7)), I (intOf (nth .dead o221.snd 8)), I (IntKind.i64.wrap (intOf (nth .dead o221.snd 9) + 1)), I (intOf (nth .dead o221.snd 10)), I (intOf (nth .dead o221.snd 11)), I (intOf (nth .dead o221.snd 12)), AC.view kSgm (rowsOf (nth .dead o221.snd 13)), AC.view kPt (rowsOf (nth .dead o221.snd 14)), I (intOf (nth .dead o221.snd 15)), I (intOf (nth .dead o221.snd 16)), I (intOf (nth .dead o221.snd 17)), I (intOf (nth .dead o221.snd 18)), I (intOf (nth .dead o221.snd 19)), I (intOf (nth .dead o221.snd 20))])
 else
 none
 else
 none
 else
 (M_cncref25_Rate [I (intOf (nth .dead (nth [] v7 v9.toNat) 0)), I (intOf (nth .dead (nth [] v7 v9.toNat) 1)), I (intOf (nth .dead (nth [] v7 v9.toNat) 2)), I (intOf (nth .dead (nth [] v7 v9.toNat) 3)), I (intOf (nth .dead (nth [] v7 v9.toNat) 4)), I (intOf (nth .dead (nth [] v7 v9.toNat) 5)), I (intOf (nth .dead (nth [] v7 v9.toNat) 6)), I (intOf (nth .dead (nth [] v7 v9.toNat) 7)), I (intOf (nth .dead (nth [] v7 v9.toNat) 8)), I (intOf (nth .dead (nth [] v7 v9.toNat) 9)), I (intOf (nth .dead (nth [] v7 v9.toNat) 10)), I (intOf (nth .dead (nth [] v7 v9.toNat) 11)), I (intOf (nth .dead (nth [] v7 v9.toNat) 12)), AC.bool (boolOf (nth .dead (nth [] v7 v9.toNat) 13)), I (intOf (nth .dead (nth [] v7 v9.toNat) 14)), AC.bool (boolOf (nth .dead (nth [] v7 v9.toNat) 15)), I (intOf (nth .dead (nth [] v7 v9.toNat) 16)), I (intOf (nth .dead (nth [] v7 v9.toNat) 17)), I (intOf (nth .dead (nth [] v7 v9.toNat) 18)), I (intOf (nth .dead (nth [] v7 v9.toNat) 19)), I (intOf (nth .dead (nth [] v7 v9.toNat) 20)), AC.bool (boolOf (nth .dead (nth [] v7 v9.toNat) 21)), I v4]).bind fun o225 =>
 (M_cncref25_synchronized [I (intOf (nth .dead (nth [] v7 v9.toNat) 0)), I (intOf (nth .dead (nth [] v7 v9.toNat) 1)), I (intOf (nth .dead (nth [] v7 v9.toNat) 2)), I (intOf (nth .dead (nth [] v7 v9.toNat) 3)), I (intOf (nth .dead (nth [] v7 v9.toNat) 4)), I (intOf (nth .dead (nth [] v7 v9.toNat) 5)), I (intOf (nth .dead (nth [] v7 v9.toNat) 6)), I (intOf (nth .dead (nth [] v7 v9.toNat) 7)), I (intOf (nth .dead (nth [] v7 v9.toNat) 8)), I (intOf (nth .dead (nth [] v7 v9.toNat) 9)), I (intOf (nth .dead (nth [] v7 v9.toNat) 10)), I (intOf (nth .dead (nth [] v7 v9.toNat) 11)), I (intOf (nth .dead (nth [] v7 v9.toNat) 12)), AC.bool (boolOf (nth .dead (nth [] v7 v9.toNat) 13)), I (intOf (nth .dead (nth [] v7 v9.toNat) 14)), AC.bool (boolOf (nth .dead (nth [] v7 v9.toNat) 15)), I (intOf (nth .dead (nth [] v7 v9.toNat) 16)), I (intOf (nth .dead (nth [] v7 v9.toNat) 17)), I (intOf (nth .dead (nth [] v7 v9.toNat) 18)), I (intOf (nth .dead (nth [] v7 v9.toNat) 19)), I (intOf (nth .dead (nth [] v7 v9.toNat) 20)), AC.bool (boolOf (nth .dead (nth [] v7 v9.toNat) 21))]).bind fun o226 =>
 bif boolOf (nth .dead o226 0) then
 (M_cncref25_points [AC.view kItm v2, I v9, I v5]).bind fun o227 =>
 (N19 [AC.view kSgm v0, AC.view kPt v1, AC.view kItm v2, I v3, I v4, AC.bool v6, I v9, AC.view kItm v7, I v8, I v9, AC.view kPt (rowsOf (nth .dead o227 0)), I (↑(rowsOf (nth .dead o227 0)).length : Int), I 0, I v10, I v11, I v12, AC.view kSgm v13, AC.view kPt v14, I v15, I v16, I v17, I v18, I v19, I v20, I 0, I 0, I 0, I 0, I v9, I (intOf (nth .dead o225 0)), I (mn (IntKind.i64.wrap (intOf (nth .dead (nth [] v7 v9.toNat) 14) * 16)) 16777216)]).bind fun o228 =>
 bif o228.fst.beq 1 then
 some (1, [I (intOf (nth .dead o228.snd 0)), I (intOf (nth .dead o228.snd 1)), I (intOf (nth .dead o228.snd 2)), I (intOf (nth .dead o228.snd 3))])
 else
 bif o228.fst.beq 2 then
 (M_cncref25_Soft [AC.view kItm (rowsOf (nth .dead o228.snd 2)), I (intOf (nth .dead o228.snd 6))]).bind fun o229 =>
 bif decide (intOf (nth .dead o229 0) ≥ 0) then
 (M_cncref25_kind [AC.view kItm (rowsOf (nth .dead o228.snd 2)), I (intOf (nth .dead o228.snd 6))]).bind fun o230 =>
 bif ((rowsOf (nth .dead o228.snd 1) ++ [[I (intOf (nth .dead o228.snd 3)), I (intOf (nth .dead o230 0)), I (intOf (nth .dead o228.snd 6))]]).length * 24).ble 140737488355328 then
 some (0, [AC.view kSgm (rowsOf (nth .dead o228.snd 0)), AC.view kPt (rowsOf (nth .dead o228.snd 1) ++ [[I (intOf (nth .dead o228.snd 3)), I (intOf (nth .dead o230 0)), I (intOf (nth .dead o228.snd 6))]]), AC.view kItm (rowsOf (nth .dead o228.snd 2)), I (intOf (nth .dead o228.snd 3)), I (intOf (nth .dead o228.snd 4)), I (intOf (nth .dead o228.snd 6)), AC.bool (boolOf (nth .dead o228.snd 5)), AC.view kItm (rowsOf (nth .dead o228.snd 7)), I (intOf (nth .dead o228.snd 8)), I (IntKind.i64.wrap (intOf (nth .dead o228.snd 9) + 1)), I (intOf (nth .dead o228.snd 10)), I (intOf (nth .dead o228.snd 11)), I (intOf (nth .dead o228.snd 12)), AC.view kSgm (rowsOf (nth .dead o228.snd 13)), AC.view kPt (rowsOf (nth .dead o228.snd 14)), I (intOf (nth .dead o228.snd 15)), I (intOf (nth .dead o228.snd 16)), I (intOf (nth .dead o228.snd 17)), I (intOf (nth .dead o228.snd 18)), I (intOf (nth .dead o228.snd 19)), I (intOf (nth .dead o228.snd 20))])
 else
 none
 else
 (M_cncref25_kind [AC.view kItm (rowsOf (nth .dead o228.snd 2)), I (intOf (nth .dead o228.snd 6))]).bind fun o231 =>
 bif ((rowsOf (nth .dead o228.snd 1) ++ [[I (intOf (nth .dead o228.snd 3)), I (intOf (nth .dead o231 0)), I (intOf (nth .dead o228.snd 6))]]).length * 24).ble 140737488355328 then
 some (0, [AC.view kSgm (rowsOf (nth .dead o228.snd 0)), AC.view kPt (rowsOf (nth .dead o228.snd 1) ++ [[I (intOf (nth .dead o228.snd 3)), I (intOf (nth .dead o231 0)), I (intOf (nth .dead o228.snd 6))]]), AC.view kItm (rowsOf (nth .dead o228.snd 2)), I (intOf (nth .dead o228.snd 3)), I (intOf (nth .dead o228.snd 4)), I (-1), AC.bool (boolOf (nth .dead o228.snd 5)), AC.view kItm (rowsOf (nth .dead o228.snd 7)), I (intOf (nth .dead o228.snd 8)), I (IntKind.i64.wrap (intOf (nth .dead o228.snd 9) + 1)), I (intOf (nth .dead o228.snd 10)), I (intOf (nth .dead o228.snd 11)), I (intOf (nth .dead o228.snd 12)), AC.view kSgm (rowsOf (nth .dead o228.snd 13)), AC.view kPt (rowsOf (nth .dead o228.snd 14)), I (intOf (nth .dead o228.snd 15)), I (intOf (nth .dead o228.snd 16)), I (intOf (nth .dead o228.snd 17)), I (intOf (nth .dead o228.snd 18)), I (intOf (nth .dead o228.snd 19)), I (intOf (nth .dead o228.snd 20))])
 else
 none
 else
 none
 else
 (M_cncref25_points [AC.view kItm v2, I v9, I v5]).bind fun o232 =>
 (N19 [AC.view kSgm v0, AC.view kPt v1, AC.view kItm v2, I v3, I v4, AC.bool v6, I v9, AC.view kItm v7, I v8, I v9, AC.view kPt (rowsOf (nth .dead o232 0)), I (↑(rowsOf (nth .dead o232 0)).length : Int), I 0, I v10, I v11, I v12, AC.view kSgm v13, AC.view kPt v14, I v15, I v16, I v17, I v18, I v19, I v20, I 0, I 0, I 0, I 0, I v9, I (intOf (nth .dead o225 0)), I 0]).bind fun o233 =>
 bif o233.fst.beq 1 then
 some (1, [I (intOf (nth .dead o233.snd 0)), I (intOf (nth .dead o233.snd 1)), I (intOf (nth .dead o233.snd 2)), I (intOf (nth .dead o233.snd 3))])
 else
 bif o233.fst.beq 2 then
 (M_cncref25_Soft [AC.view kItm (rowsOf (nth .dead o233.snd 2)), I (intOf (nth .dead o233.snd 6))]).bind fun o234 =>
 bif decide (intOf (nth .dead o234 0) ≥ 0) then
 (M_cncref25_kind [AC.view kItm (rowsOf (nth .dead o233.snd 2)), I (intOf (nth .dead o233.snd 6))]).bind fun o235 =>
 bif ((rowsOf (nth .dead o233.snd 1) ++ [[I (intOf (nth .dead o233.snd 3)), I (intOf (nth .dead o235 0)), I (intOf (nth .dead o233.snd 6))]]).length * 24).ble 140737488355328 then
 some (0, [AC.view kSgm (rowsOf (nth .dead o233.snd 0)), AC.view kPt (rowsOf (nth .dead o233.snd 1) ++ [[I (intOf (nth .dead o233.snd 3)), I (intOf (nth .dead o235 0)), I (intOf (nth .dead o233.snd 6))]]), AC.view kItm (rowsOf (nth .dead o233.snd 2)), I (intOf (nth .dead o233.snd 3)), I (intOf (nth .dead o233.snd 4)), I (intOf (nth .dead o233.snd 6)), AC.bool (boolOf (nth .dead o233.snd 5)), AC.view kItm (rowsOf (nth .dead o233.snd 7)), I (intOf (nth .dead o233.snd 8)), I (IntKind.i64.wrap (intOf (nth .dead o233.snd 9) + 1)), I (intOf (nth .dead o233.snd 10)), I (intOf (nth .dead o233.snd 11)), I (intOf (nth .dead o233.snd 12)), AC.view kSgm (rowsOf (nth .dead o233.snd 13)), AC.view kPt (rowsOf (nth .dead o233.snd 14)), I (intOf (nth .dead o233.snd 15)), I (intOf (nth .dead o233.snd 16)), I (intOf (nth .dead o233.snd 17)), I (intOf (nth .dead o233.snd 18)), I (intOf (nth .dead o233.snd 19)), I (intOf (nth .dead o233.snd 20))])
 else
 none
 else
 (M_cncref25_kind [AC.view kItm (rowsOf (nth .dead o233.snd 2)), I (intOf (nth .dead o233.snd 6))]).bind fun o236 =>
 bif ((rowsOf (nth .dead o233.snd 1) ++ [[I (intOf (nth .dead o233.snd 3)), I (intOf (nth .dead o236 0)), I (intOf (nth .dead o233.snd 6))]]).length * 24).ble 140737488355328 then
 some (0, [AC.view kSgm (rowsOf (nth .dead o233.snd 0)), AC.view kPt (rowsOf (nth .dead o233.snd 1) ++ [[I (intOf (nth .dead o233.snd 3)), I (intOf (nth .dead o236 0)), I (intOf (nth .dead o233.snd 6))]]), AC.view kItm (rowsOf (nth .dead o233.snd 2)), I (intOf (nth .dead o233.snd 3)), I (intOf (nth .dead o233.snd 4)), I (-1), AC.bool (boolOf (nth .dead o233.snd 5)), AC.view kItm (rowsOf (nth .dead o233.snd 7)), I (intOf (nth .dead o233.snd 8)), I (IntKind.i64.wrap (intOf (nth .dead o233.snd 9) + 1)), I (intOf (nth .dead o233.snd 10)), I (intOf (nth .dead o233.snd 11)), I (intOf (nth .dead o233.snd 12)), AC.view kSgm (rowsOf (nth .dead o233.snd 13)), AC.view kPt (rowsOf (nth .dead o233.snd 14)), I (intOf (nth .dead o233.snd 15)), I (intOf (nth .dead o233.snd 16)), I (intOf (nth .dead o233.snd 17)), I (intOf (nth .dead o233.snd 18)), I (intOf (nth .dead o233.snd 19)), I (intOf (nth .dead o233.snd 20))])
 else
 none
 else
 none
 else
 none
 else
 some (2, [AC.view kSgm v0, AC.view kPt v1, I v10, I v11, I v12, AC.view kSgm v13, AC.view kPt v14, I v15, I v16, I v17]) := by kernel_rfl
theorem mf_cncref25_Build_eq (M_cncref25_kind M_cncref25_Soft M_cncref23_Length M_cncref25_points M_cncref25_synchronized M_cncref25_Rate M_cncref23_Fine M_cncref25_other M_cncref23_Motion M_cncref25_Check : List AC → Option (List AC))  (N19 N7 : List AC → Option (Nat × List AC)) (x0 : List (List AC)) : mf_cncref25_Build M_cncref25_kind M_cncref25_Soft M_cncref23_Length M_cncref25_points M_cncref25_synchronized M_cncref25_Rate M_cncref23_Fine M_cncref25_other M_cncref23_Motion M_cncref25_Check  N19 N7 [AC.view kItm x0] =
 (M_cncref25_Check [AC.view kItm x0]).bind fun o237 =>
 bif intOf (nth .dead o237 0) != 0 then
 some [I 0, I 0, I 0, AC.view kSgm [], AC.view kPt [], I (intOf (nth .dead o237 0))]
 else
 (N7 [AC.view kSgm [], AC.view kPt [], AC.view kItm x0, I 0, I 0, I (-1), AC.bool false, AC.view kItm x0, I (↑x0.length : Int), I 0, I 0, I 0, I 0, AC.view kSgm [], AC.view kPt [], I 0, I 0, I 0, I 0, I 0, I 0]).bind fun o238 =>
 bif o238.fst.beq 1 then
 some [I (intOf (nth .dead o238.snd 1)), I (intOf (nth .dead o238.snd 2)), I (intOf (nth .dead o238.snd 3)), AC.view kSgm [], AC.view kPt [], I (intOf (nth .dead o238.snd 0))]
 else
 bif o238.fst.beq 2 then
 some [I (intOf (nth .dead o238.snd 7)), I (intOf (nth .dead o238.snd 8)), I (intOf (nth .dead o238.snd 9)), AC.view kSgm (rowsOf (nth .dead o238.snd 0)), AC.view kPt (rowsOf (nth .dead o238.snd 1)), I 0]
 else
 none := by kernel_rfl
noncomputable def l_cncref25_Build_19 := loopC (st_cncref25_Build_19 m_cncref25_kind m_cncref25_Soft m_cncref23_Length m_cncref25_points m_cncref25_synchronized m_cncref25_Rate m_cncref23_Fine m_cncref25_other m_cncref23_Motion m_cncref25_Check )
noncomputable def l_cncref25_Build_7 := loopC (st_cncref25_Build_7 m_cncref25_kind m_cncref25_Soft m_cncref23_Length m_cncref25_points m_cncref25_synchronized m_cncref25_Rate m_cncref23_Fine m_cncref25_other m_cncref23_Motion m_cncref25_Check  l_cncref25_Build_19)
noncomputable def m_cncref25_Build := mf_cncref25_Build m_cncref25_kind m_cncref25_Soft m_cncref23_Length m_cncref25_points m_cncref25_synchronized m_cncref25_Rate m_cncref23_Fine m_cncref25_other m_cncref23_Motion m_cncref25_Check  l_cncref25_Build_19 l_cncref25_Build_7
theorem sp_cncref25_Build : SpecOK Tryz.prog (C_cncref25_Build_0 m_cncref25_kind m_cncref25_Soft m_cncref23_Length m_cncref25_points m_cncref25_synchronized m_cncref25_Rate m_cncref23_Fine m_cncref25_other m_cncref23_Motion m_cncref25_Check) := specOK_of rfl ⟨r_cncref25_kind, r_cncref25_Soft, r_cncref23_Length, r_cncref25_points, r_cncref25_synchronized, r_cncref25_Rate, r_cncref23_Fine, r_cncref25_other, r_cncref23_Motion, r_cncref25_Check, trivial⟩
theorem r_cncref25_Build : RowOK Tryz.prog (43, spOf sig_cncref25_Build osig_cncref25_Build m_cncref25_Build) := row_of (C := (C_cncref25_Build_2 m_cncref25_kind m_cncref25_Soft m_cncref23_Length m_cncref25_points m_cncref25_synchronized m_cncref25_Rate m_cncref23_Fine m_cncref25_other m_cncref23_Motion m_cncref25_Check l_cncref25_Build_19 l_cncref25_Build_7)) (L := 64) (sig := sig_cncref25_Build) (osig := osig_cncref25_Build) (by kernel_rfl) (((FnOK.bare rfl rfl rfl).loop sp_cncref25_Build eqOk mixOk (by kernel_rfl) (by kernel_rfl)).loop sp_cncref25_Build eqOk mixOk (by kernel_rfl) (by kernel_rfl)) sp_cncref25_Build eqOk mixOk (by kernel_rfl) (by kernel_rfl)
def sig_cncmill_turned : Sk := { tmps := [TS.v false [CS.int .i64], TS.v false [CS.int .i64]], boxes := [], rows := [] }
def osig_cncmill_turned : Sk := { tmps := [TS.tup [(false, [CS.int .i64]), (false, [CS.int .i64])]], boxes := [], rows := [] }
noncomputable def C_cncmill_turned_0  : Cfg := { spec := lookS [], eqOk := eqAll, ownOff := ownOff }
noncomputable def mf_cncmill_turned   : List AC → Option (List AC) := modelF Tryz.prog C_cncmill_turned_0 64 124 sig_cncmill_turned osig_cncmill_turned
theorem mf_cncmill_turned_eq   (x0 x1 : Int) : mf_cncmill_turned   [I x0, I x1] =
 bif decide (0 ≤ x1.tmod 4) && decide (x1.tmod 4 < (↑[[I x0], [I 0], [I (IntKind.i64.wrap (0 - x0))], [I 0]].length : Int)) then
 bif decide (0 ≤ x1.tmod 4) && decide (x1.tmod 4 < (↑[[I 0], [I x0], [I 0], [I (IntKind.i64.wrap (0 - x0))]].length : Int)) then
 some [I (intOf (nth .dead (nth [] [[I x0], [I 0], [I (IntKind.i64.wrap (0 - x0))], [I 0]] (x1.tmod 4).toNat) 0)), I (intOf (nth .dead (nth [] [[I 0], [I x0], [I 0], [I (IntKind.i64.wrap (0 - x0))]] (x1.tmod 4).toNat) 0))]
 else
 none
 else
 none := by kernel_rfl
noncomputable def m_cncmill_turned := mf_cncmill_turned  
theorem sp_cncmill_turned : SpecOK Tryz.prog (C_cncmill_turned_0 ) := specOK_of rfl trivial
theorem r_cncmill_turned : RowOK Tryz.prog (124, spOf sig_cncmill_turned osig_cncmill_turned m_cncmill_turned) := row_of (C := C_cncmill_turned_0) (L := 64) (sig := sig_cncmill_turned) (osig := osig_cncmill_turned) (by kernel_rfl) (FnOK.bare rfl rfl rfl) sp_cncmill_turned eqOk mixOk (by kernel_rfl) (by kernel_rfl)
def sig_cncmill_arc : Sk := { tmps := [TS.v false [CS.ptr 20000 0], TS.v true [CS.int .i64, CS.int .i64, CS.int .i64], TS.v false [CS.int .i64]], boxes := [(20000, 122, [CS.sl kInts, CS.int .i64])], rows := [] }
def osig_cncmill_arc : Sk := { tmps := [TS.v true [CS.int .i64, CS.int .i64, CS.int .i64, CS.int .i64, CS.int .i64, CS.int .i64, CS.int .i64, CS.int .i64, CS.int .i64, CS.int .i64, CS.int .i64, CS.int .i64, CS.int .i64, CS.bool, CS.int .i64, CS.bool, CS.int .i64, CS.int .i64, CS.int .i64, CS.int .i64, CS.int .i64, CS.bool]], boxes := [(20000, 122, [CS.sl kInts, CS.int .i64])], rows := [] }
noncomputable def C_cncmill_arc_0 (M_cncref23_Space M_cncmill_turned M_cncref23_Plane M_cncmill_Source_Next : List AC → Option (List AC)) : Cfg := { spec := lookS [(125, spOf sig_cncref23_Space osig_cncref23_Space M_cncref23_Space), (124, spOf sig_cncmill_turned osig_cncmill_turned M_cncmill_turned), (123, spOf sig_cncref23_Plane osig_cncref23_Plane M_cncref23_Plane), (73, spOf sig_cncmill_Source_Next osig_cncmill_Source_Next M_cncmill_Source_Next)], eqOk := eqAll, pure := fun f => !(elemN [73] f), ownOff := ownOff }
noncomputable def mf_cncmill_arc (M_cncref23_Space M_cncmill_turned M_cncref23_Plane M_cncmill_Source_Next : List AC → Option (List AC))  : List AC → Option (List AC) := modelF Tryz.prog (C_cncmill_arc_0 M_cncref23_Space M_cncmill_turned M_cncref23_Plane M_cncmill_Source_Next) 64 106 sig_cncmill_arc osig_cncmill_arc
theorem mf_cncmill_arc_eq (M_cncref23_Space M_cncmill_turned M_cncref23_Plane M_cncmill_Source_Next : List AC → Option (List AC))  (x0 x1 x2 x3 : Int) (x4 : List (List AC)) (x5 : Int) : mf_cncmill_arc M_cncref23_Space M_cncmill_turned M_cncref23_Plane M_cncmill_Source_Next  [I x0, I x1, I x2, I x3, AC.view kInts x4, I x5] =
 (M_cncmill_Source_Next [I 3, AC.view kInts x4, I x5]).bind fun o18 =>
 bif decide (0 ≤ intOf (nth .dead o18 0)) && decide (intOf (nth .dead o18 0) < (↑[[I 17], [I 18], [I 19]].length : Int)) then
 (M_cncmill_Source_Next [I 2, AC.view kInts (rowsOf (nth .dead o18 1)), I (intOf (nth .dead o18 2))]).bind fun o19 =>
 (M_cncmill_Source_Next [I x3, AC.view kInts (rowsOf (nth .dead o19 1)), I (intOf (nth .dead o19 2))]).bind fun o20 =>
 (M_cncmill_Source_Next [I 4, AC.view kInts (rowsOf (nth .dead o20 1)), I (intOf (nth .dead o20 2))]).bind fun o21 =>
 (M_cncmill_Source_Next [I 4, AC.view kInts (rowsOf (nth .dead o21 1)), I (intOf (nth .dead o21 2))]).bind fun o22 =>
 (M_cncref23_Plane [I x0, I x1, I x2, I (intOf (nth .dead (nth [] [[I 17], [I 18], [I 19]] (intOf (nth .dead o18 0)).toNat) 0))]).bind fun o23 =>
 (M_cncmill_turned [I (IntKind.i64.wrap (8 + intOf (nth .dead o20 0))), I (intOf (nth .dead o21 0))]).bind fun o24 =>
 (M_cncmill_turned [I (IntKind.i64.wrap (8 + intOf (nth .dead o20 0))), I (IntKind.i64.wrap (intOf (nth .dead o21 0) + intOf (nth .dead o22 0)))]).bind fun o25 =>
 (M_cncref23_Space [I (IntKind.i64.wrap (intOf (nth .dead o23 0) - intOf (nth .dead o24 0))), I (IntKind.i64.wrap (intOf (nth .dead o23 1) - intOf (nth .dead o24 1))), I (intOf (nth .dead o23 2)), I (intOf (nth .dead (nth [] [[I 17], [I 18], [I 19]] (intOf (nth .dead o18 0)).toNat) 0))]).bind fun o26 =>
 bif decide (intOf (nth .dead o22 0) > 0) then
 (M_cncmill_Source_Next [I 3, AC.view kInts (rowsOf (nth .dead o22 1)), I (intOf (nth .dead o22 2))]).bind fun o27 =>
 bif intOf (nth .dead o27 0) == 0 then
 bif decide (IntKind.i64.wrap (8 + intOf (nth .dead o20 0)) = 0) then
 none
 else
 (M_cncmill_Source_Next [I 5, AC.view kInts (rowsOf (nth .dead o27 1)), I (intOf (nth .dead o27 2))]).bind fun o28 =>
 bif decide (IntKind.i64.wrap (8 + intOf (nth .dead o20 0)) = 0) then
 none
 else
 (M_cncmill_Source_Next [I 5, AC.view kInts (rowsOf (nth .dead o28 1)), I (intOf (nth .dead o28 2))]).bind fun o29 =>
 (M_cncmill_Source_Next [I 4, AC.view kInts (rowsOf (nth .dead o29 1)), I (intOf (nth .dead o29 2))]).bind fun o30 =>
 bif decide (0 ≤ intOf (nth .dead o30 0)) && decide (intOf (nth .dead o30 0) < (↑[[I 0], [I 0], [I 7], [I (-12)]].length : Int)) then
 (M_cncref23_Space [I (IntKind.i64.wrap (IntKind.i64.wrap (intOf (nth .dead o23 0) - intOf (nth .dead o24 0)) + IntKind.i64.wrap (intOf (nth .dead o25 0) + IntKind.i64.wrap (IntKind.i64.wrap ((intOf (nth .dead o25 0)).tdiv (IntKind.i64.wrap (8 + intOf (nth .dead o20 0)))) * intOf (nth .dead o28 0))))), I (IntKind.i64.wrap (IntKind.i64.wrap (intOf (nth .dead o23 1) - intOf (nth .dead o24 1)) + IntKind.i64.wrap (intOf (nth .dead o25 1) + IntKind.i64.wrap (IntKind.i64.wrap ((intOf (nth .dead o25 1)).tdiv (IntKind.i64.wrap (8 + intOf (nth .dead o20 0)))) * intOf (nth .dead o29 0))))), I (IntKind.i64.wrap (intOf (nth .dead o23 2) + intOf (nth .dead (nth [] [[I 0], [I 0], [I 7], [I (-12)]] (intOf (nth .dead o30 0)).toNat) 0))), I (intOf (nth .dead (nth [] [[I 17], [I 18], [I 19]] (intOf (nth .dead o18 0)).toNat) 0))]).bind fun o31 =>
 some [I 3, I 0, I x0, I x1, I x2, I (intOf (nth .dead o31 0)), I (intOf (nth .dead o31 1)), I (intOf (nth .dead o31 2)), I (intOf (nth .dead (nth [] [[I 17], [I 18], [I 19]] (intOf (nth .dead o18 0)).toNat) 0)), I (intOf (nth .dead o26 0)), I (intOf (nth .dead o26 1)), I (intOf (nth .dead o26 2)), I (IntKind.i64.wrap (1 - IntKind.i64.wrap (intOf (nth .dead o19 0) * 2))), AC.bool (intOf (nth .dead o22 0) == 0), I 0, AC.bool false, I 0, I 0, I 0, I 0, I 0, AC.bool false, AC.view kInts (rowsOf (nth .dead o30 1)), I (intOf (nth .dead o30 2))]
 else
 none
 else
 (M_cncmill_Source_Next [I 4, AC.view kInts (rowsOf (nth .dead o27 1)), I (intOf (nth .dead o27 2))]).bind fun o32 =>
 bif decide (0 ≤ intOf (nth .dead o32 0)) && decide (intOf (nth .dead o32 0) < (↑[[I 0], [I 0], [I 7], [I (-12)]].length : Int)) then
 (M_cncref23_Space [I (IntKind.i64.wrap (IntKind.i64.wrap (intOf (nth .dead o23 0) - intOf (nth .dead o24 0)) + intOf (nth .dead o25 0))), I (IntKind.i64.wrap (IntKind.i64.wrap (intOf (nth .dead o23 1) - intOf (nth .dead o24 1)) + intOf (nth .dead o25 1))), I (IntKind.i64.wrap (intOf (nth .dead o23 2) + intOf (nth .dead (nth [] [[I 0], [I 0], [I 7], [I (-12)]] (intOf (nth .dead o32 0)).toNat) 0))), I (intOf (nth .dead (nth [] [[I 17], [I 18], [I 19]] (intOf (nth .dead o18 0)).toNat) 0))]).bind fun o33 =>
 some [I 3, I 0, I x0, I x1, I x2, I (intOf (nth .dead o33 0)), I (intOf (nth .dead o33 1)), I (intOf (nth .dead o33 2)), I (intOf (nth .dead (nth [] [[I 17], [I 18], [I 19]] (intOf (nth .dead o18 0)).toNat) 0)), I (intOf (nth .dead o26 0)), I (intOf (nth .dead o26 1)), I (intOf (nth .dead o26 2)), I (IntKind.i64.wrap (1 - IntKind.i64.wrap (intOf (nth .dead o19 0) * 2))), AC.bool (intOf (nth .dead o22 0) == 0), I 0, AC.bool false, I 0, I 0, I 0, I 0, I 0, AC.bool false, AC.view kInts (rowsOf (nth .dead o32 1)), I (intOf (nth .dead o32 2))]
 else
 none
 else
 (M_cncmill_Source_Next [I 4, AC.view kInts (rowsOf (nth .dead o22 1)), I (intOf (nth .dead o22 2))]).bind fun o34 =>
 bif decide (0 ≤ intOf (nth .dead o34 0)) && decide (intOf (nth .dead o34 0) < (↑[[I 0], [I 0], [I 7], [I (-12)]].length : Int)) then
 (M_cncref23_Space [I (IntKind.i64.wrap (IntKind.i64.wrap (intOf (nth .dead o23 0) - intOf (nth .dead o24 0)) + intOf (nth .dead o25 0))), I (IntKind.i64.wrap (IntKind.i64.wrap (intOf (nth .dead o23 1) - intOf (nth .dead o24 1)) + intOf (nth .dead o25 1))), I (IntKind.i64.wrap (intOf (nth .dead o23 2) + intOf (nth .dead (nth [] [[I 0], [I 0], [I 7], [I (-12)]] (intOf (nth .dead o34 0)).toNat) 0))), I (intOf (nth .dead (nth [] [[I 17], [I 18], [I 19]] (intOf (nth .dead o18 0)).toNat) 0))]).bind fun o35 =>
 some [I 3, I 0, I x0, I x1, I x2, I (intOf (nth .dead o35 0)), I (intOf (nth .dead o35 1)), I (intOf (nth .dead o35 2)), I (intOf (nth .dead (nth [] [[I 17], [I 18], [I 19]] (intOf (nth .dead o18 0)).toNat) 0)), I (intOf (nth .dead o26 0)), I (intOf (nth .dead o26 1)), I (intOf (nth .dead o26 2)), I (IntKind.i64.wrap (1 - IntKind.i64.wrap (intOf (nth .dead o19 0) * 2))), AC.bool (intOf (nth .dead o22 0) == 0), I 0, AC.bool false, I 0, I 0, I 0, I 0, I 0, AC.bool false, AC.view kInts (rowsOf (nth .dead o34 1)), I (intOf (nth .dead o34 2))]
 else
 none
 else
 none := by kernel_rfl
noncomputable def m_cncmill_arc := mf_cncmill_arc m_cncref23_Space m_cncmill_turned m_cncref23_Plane m_cncmill_Source_Next 
theorem sp_cncmill_arc : SpecOK Tryz.prog (C_cncmill_arc_0 m_cncref23_Space m_cncmill_turned m_cncref23_Plane m_cncmill_Source_Next) := specOK_of rfl ⟨r_cncref23_Space, r_cncmill_turned, r_cncref23_Plane, r_cncmill_Source_Next, trivial⟩
theorem r_cncmill_arc : RowOK Tryz.prog (106, spOf sig_cncmill_arc osig_cncmill_arc m_cncmill_arc) := row_of (C := (C_cncmill_arc_0 m_cncref23_Space m_cncmill_turned m_cncref23_Plane m_cncmill_Source_Next)) (L := 64) (sig := sig_cncmill_arc) (osig := osig_cncmill_arc) (by kernel_rfl) (FnOK.bare rfl rfl rfl) sp_cncmill_arc eqOk mixOk (by kernel_rfl) (by kernel_rfl)
end Go.Bm
