/- functions of the program and of the references, as models -/
import Derived.Test.YtdllaekpkcanbaaGreatMx3
set_option linter.unusedSimpArgs false
set_option linter.unusedVariables false
set_option maxRecDepth 100000
noncomputable section
namespace Go.Bm
open Go.Proofs
def sig_cncref25_Build : Sk := { tmps := [tf [CS.sl kItm]], boxes := [], rows := [] }
def osig_cncref25_Build : Sk := { tmps := [TS.tup [(true, [ci, ci, ci, CS.sl kSgm, CS.sl kPt]), (false, [ci])]], boxes := [], rows := [] }
def C_cncref25_Build_0 (M_cncref25_kind M_cncref25_Soft M_cncref23_Length M_cncref25_points M_cncref25_synchronized M_cncref25_Rate M_cncref23_Fine M_cncref25_other M_cncref23_Motion M_cncref25_Check : Fn) : Cfg := { spec := lookS [(87, spOf sig_cncref25_kind osig_cncref25_kind M_cncref25_kind), (86, spOf sig_cncref25_Soft osig_cncref25_Soft M_cncref25_Soft), (85, spOf sig_cncref23_Length osig_cncref23_Length M_cncref23_Length), (84, spOf sig_cncref25_points osig_cncref25_points M_cncref25_points), (83, spOf sig_cncref25_synchronized osig_cncref25_synchronized M_cncref25_synchronized), (82, spOf sig_cncref25_Rate osig_cncref25_Rate M_cncref25_Rate), (81, spOf sig_cncref23_Fine osig_cncref23_Fine M_cncref23_Fine), (80, spOf sig_cncref25_other osig_cncref25_other M_cncref25_other), (79, spOf sig_cncref23_Motion osig_cncref23_Motion M_cncref23_Motion), (78, spOf sig_cncref25_Check osig_cncref25_Check M_cncref25_Check)], eqOk := eqAll, ownOff := ownOffX, ownBut := [2] }
def sk_cncref25_Build_19 : Sk := { tmps := [tf [CS.sl kItm], td, tf [CS.ptr 2 0], td, td, tf [CS.ptr 5 0], tf [CS.ptr 6 0], tf [ci], tf [ci], td, tf [CS.bool], tf [ci], td, tf [CS.ptr 13 0], td, td, td, td, td, td, td, td, td, tf [CS.sl kItm], tf [ci], tf [ci], td, td, td, td, td, td, td, td, td, td, td, td, td, td, td, td, td, td, td, td, td, td, td, td, td, td, td, td, td, td, td, td, td, td, td, td, td, td, td, td, td, td, td, td, td, td, td, td, td, td, td, td, td, td, td, td, td, tf [CS.sl kPt], tf [ci], tf [ci]] ++ dd 47, boxes := [(2, 29, [ci, ci, ci, CS.sl kSgm, CS.sl kPt]), (5, 29, [ci, ci, ci, CS.own 1005003 7, CS.own 1005004 3]), (6, 25, [ci, ci, ci]), (13, 78, [ci, ci, ci, ci, ci, ci, ci])], rows := [(1005003, 78, kSgm), (1005004, 80, kPt)] }
def ex_cncref25_Build_19 : List (Ex × Sk) := [(Ex.ret, { tmps := [td, td, tf [CS.ptr 2 0], tf [ci]] ++ dd 129, boxes := [(2, 29, [ci, ci, ci, CS.nil, CS.nil])], rows := [] }), (Ex.exit 2, { tmps := [tf [CS.sl kItm], td, tf [CS.ptr 2 0], td, td, tf [CS.ptr 5 0], tf [CS.ptr 6 0], tf [ci], tf [ci], td, tf [CS.bool], tf [ci], td, td, td, td, td, td, td, td, td, td, td, tf [CS.sl kItm], tf [ci], tf [ci]] ++ dd 107, boxes := [(2, 29, [ci, ci, ci, CS.sl kSgm, CS.sl kPt]), (5, 29, [ci, ci, ci, CS.own 1005003 7, CS.own 1005004 3]), (6, 25, [ci, ci, ci])], rows := [(1005003, 78, kSgm), (1005004, 80, kPt)] })]
def st_cncref25_Build_19 (M_cncref25_kind M_cncref25_Soft M_cncref23_Length M_cncref25_points M_cncref25_synchronized M_cncref25_Rate M_cncref23_Fine M_cncref25_other M_cncref23_Motion M_cncref25_Check : Fn) : Lp := stepL Tryz.prog (C_cncref25_Build_0 M_cncref25_kind M_cncref25_Soft M_cncref23_Length M_cncref25_points M_cncref25_synchronized M_cncref25_Rate M_cncref23_Fine M_cncref25_other M_cncref23_Motion M_cncref25_Check) 64 19 (bodyOf Tryz.prog 43 19) sk_cncref25_Build_19 ex_cncref25_Build_19
def C_cncref25_Build_1 (M_cncref25_kind M_cncref25_Soft M_cncref23_Length M_cncref25_points M_cncref25_synchronized M_cncref25_Rate M_cncref23_Fine M_cncref25_other M_cncref23_Motion M_cncref25_Check : Fn) (N19 : Lp) : Cfg := (C_cncref25_Build_0 M_cncref25_kind M_cncref25_Soft M_cncref23_Length M_cncref25_points M_cncref25_synchronized M_cncref25_Rate M_cncref23_Fine M_cncref25_other M_cncref23_Motion M_cncref25_Check).loop 19 sk_cncref25_Build_19 ex_cncref25_Build_19 N19
def sk_cncref25_Build_7 : Sk := { tmps := [tf [CS.sl kItm], td, tf [CS.ptr 2 0], td, td, tf [CS.ptr 5 0], tf [CS.ptr 6 0], tf [ci], tf [ci], tf [ci], tf [CS.bool], td, td, td, td, td, td, td, td, td, td, td, td, tf [CS.sl kItm], tf [ci], tf [ci]] ++ dd 107, boxes := [(2, 29, [ci, ci, ci, CS.sl kSgm, CS.sl kPt]), (5, 29, [ci, ci, ci, CS.own 1005003 7, CS.own 1005004 3]), (6, 25, [ci, ci, ci])], rows := [(1005003, 78, kSgm), (1005004, 80, kPt)] }
def ex_cncref25_Build_7 : List (Ex × Sk) := [(Ex.ret, { tmps := [td, td, tf [CS.ptr 2 0], tf [ci]] ++ dd 129, boxes := [(2, 29, [ci, ci, ci, CS.nil, CS.nil])], rows := [] }), (Ex.exit 0, { tmps := [td, td, tf [CS.ptr 2 0], td, td, tf [CS.ptr 5 0]] ++ dd 127, boxes := [(2, 29, [ci, ci, ci, CS.sl kSgm, CS.sl kPt]), (5, 29, [ci, ci, ci, CS.own 1005003 7, CS.own 1005004 3])], rows := [(1005003, 78, kSgm), (1005004, 80, kPt)] })]
def st_cncref25_Build_7 (M_cncref25_kind M_cncref25_Soft M_cncref23_Length M_cncref25_points M_cncref25_synchronized M_cncref25_Rate M_cncref23_Fine M_cncref25_other M_cncref23_Motion M_cncref25_Check : Fn) (N19 : Lp) : Lp := stepL Tryz.prog (C_cncref25_Build_1 M_cncref25_kind M_cncref25_Soft M_cncref23_Length M_cncref25_points M_cncref25_synchronized M_cncref25_Rate M_cncref23_Fine M_cncref25_other M_cncref23_Motion M_cncref25_Check N19) 64 7 (bodyOf Tryz.prog 43 7) sk_cncref25_Build_7 ex_cncref25_Build_7
def C_cncref25_Build_2 (M_cncref25_kind M_cncref25_Soft M_cncref23_Length M_cncref25_points M_cncref25_synchronized M_cncref25_Rate M_cncref23_Fine M_cncref25_other M_cncref23_Motion M_cncref25_Check : Fn) (N19 N7 : Lp) : Cfg := (C_cncref25_Build_1 M_cncref25_kind M_cncref25_Soft M_cncref23_Length M_cncref25_points M_cncref25_synchronized M_cncref25_Rate M_cncref23_Fine M_cncref25_other M_cncref23_Motion M_cncref25_Check N19).loop 7 sk_cncref25_Build_7 ex_cncref25_Build_7 N7
def mf_cncref25_Build (M_cncref25_kind M_cncref25_Soft M_cncref23_Length M_cncref25_points M_cncref25_synchronized M_cncref25_Rate M_cncref23_Fine M_cncref25_other M_cncref23_Motion M_cncref25_Check : Fn) (N19 N7 : Lp) : Fn := modelF Tryz.prog (C_cncref25_Build_2 M_cncref25_kind M_cncref25_Soft M_cncref23_Length M_cncref25_points M_cncref25_synchronized M_cncref25_Rate M_cncref23_Fine M_cncref25_other M_cncref23_Motion M_cncref25_Check N19 N7) 64 43 sig_cncref25_Build osig_cncref25_Build
theorem st_cncref25_Build_19_eq (M_cncref25_kind M_cncref25_Soft M_cncref23_Length M_cncref25_points M_cncref25_synchronized M_cncref25_Rate M_cncref23_Fine M_cncref25_other M_cncref23_Motion M_cncref25_Check : Fn) (v0 v1 v2 : Rw) (v3 v4 : Int) (v5 : Bool) (v6 : Int) (v7 : Rw) (v8 v9 : Int) (v10 : Rw) (v11 v12 v13 v14 v15 : Int) (v16 v17 : Rw) (v18 v19 v20 v21 v22 v23 v24 v25 v26 v27 v28 v29 v30 : Int) : st_cncref25_Build_19 M_cncref25_kind M_cncref25_Soft M_cncref23_Length M_cncref25_points M_cncref25_synchronized M_cncref25_Rate M_cncref23_Fine M_cncref25_other M_cncref23_Motion M_cncref25_Check [.view kSgm v0, .view kPt v1, .view kItm v2, I v3, I v4, B v5, I v6, .view kItm v7, I v8, I v9, .view kPt v10, I v11, I v12, I v13, I v14, I v15, .view kSgm v16, .view kPt v17, I v18, I v19, I v20, I v21, I v22, I v23, I v24, I v25, I v26, I v27, I v28, I v29, I v30] =
 bif decide (v12 < v11) then
 bif decide (0 <= v12) && decide (v12 < (v10.length : Int)) then
 bif gA (nth [] v10 v12.toNat) 0 == v21 && (gA (nth [] v10 v12.toNat) 1 == v22 && (gA (nth [] v10 v12.toNat) 2 == v23 && true)) then
 some (0, [.view kSgm v0, .view kPt v1, .view kItm v2, I v3, I v4, B v5, I v6, .view kItm v7, I v8, I v9, .view kPt v10, I v11, I (IntKind.i64.wrap (v12 + 1)), I v13, I v14, I v15, .view kSgm v16, .view kPt v17, I v18, I v19, I v20, I v21, I v22, I v23, I v24, I v25, I v26, I v27, I v28, I v29, I v30])
 else
 (M_cncref23_Length [I v21, I v22, I v23, jA (nth [] v10 v12.toNat) 0, jA (nth [] v10 v12.toNat) 1, jA (nth [] v10 v12.toNat) 2]).bind fun o124 =>
 bif ((v0 ++ [[jA (nth [] v10 v12.toNat) 0, jA (nth [] v10 v12.toNat) 1, jA (nth [] v10 v12.toNat) 2, jA o124 0, I v28, I v29, I v30]]).length * 56).ble 140737488355328 then
 bif decide ((↑(v0 ++ [[jA (nth [] v10 v12.toNat) 0, jA (nth [] v10 v12.toNat) 1, jA (nth [] v10 v12.toNat) 2, jA o124 0, I v28, I v29, I v30]]).length : Int) > 1048576) then
 some (1, [I 10, I 0, I 0, I 0])
 else
 some (0, [.view kSgm (v0 ++ [[jA (nth [] v10 v12.toNat) 0, jA (nth [] v10 v12.toNat) 1, jA (nth [] v10 v12.toNat) 2, jA o124 0, I v28, I v29, I v30]]), .view kPt v1, .view kItm v2, I (IntKind.i64.wrap (v3 + gA o124 0)), I v4, B v5, I v6, .view kItm v7, I v8, I v9, .view kPt v10, I v11, I (IntKind.i64.wrap (v12 + 1)), I v13, I v14, I v15, .view kSgm v16, .view kPt v17, I v18, I v19, I v20, jA (nth [] v10 v12.toNat) 0, jA (nth [] v10 v12.toNat) 1, jA (nth [] v10 v12.toNat) 2, jA (nth [] v10 v12.toNat) 0, jA (nth [] v10 v12.toNat) 1, jA (nth [] v10 v12.toNat) 2, jA o124 0, I v28, I v29, I v30])
 else
 none
 else
 none
 else
 some (2, [.view kSgm v0, .view kPt v1, .view kItm v2, I v3, I v4, B v5, I v6, .view kItm v7, I v8, I v9, I v13, I v14, I v15, .view kSgm v16, .view kPt v17, I v18, I v19, I v20, I v21, I v22, I v23]) := by kernel_rfl
theorem st_cncref25_Build_7_eq (M_cncref25_kind M_cncref25_Soft M_cncref23_Length M_cncref25_points M_cncref25_synchronized M_cncref25_Rate M_cncref23_Fine M_cncref25_other M_cncref23_Motion M_cncref25_Check : Fn) (N19 : Lp) (v0 v1 v2 : Rw) (v3 v4 v5 : Int) (v6 : Bool) (v7 : Rw) (v8 v9 v10 v11 v12 : Int) (v13 v14 : Rw) (v15 v16 v17 v18 v19 v20 : Int) : st_cncref25_Build_7 M_cncref25_kind M_cncref25_Soft M_cncref23_Length M_cncref25_points M_cncref25_synchronized M_cncref25_Rate M_cncref23_Fine M_cncref25_other M_cncref23_Motion M_cncref25_Check N19 [.view kSgm v0, .view kPt v1, .view kItm v2, I v3, I v4, I v5, B v6, .view kItm v7, I v8, I v9, I v10, I v11, I v12, .view kSgm v13, .view kPt v14, I v15, I v16, I v17, I v18, I v19, I v20] =
 bif decide (v9 < v8) then
 bif decide (0 <= v9) && decide (v9 < (v7.length : Int)) then
 bif gA (nth [] v7 v9.toNat) 0 == 8 then
 bif gA (nth [] v7 v9.toNat) 19 == 3 then
 (M_cncref23_Motion [jA (nth [] v7 v9.toNat) 0]).bind fun o125 =>
 bif !bA o125 0 then
 (M_cncref25_other [jA (nth [] v7 v9.toNat) 0, jA (nth [] v7 v9.toNat) 1, jA (nth [] v7 v9.toNat) 2, jA (nth [] v7 v9.toNat) 3, jA (nth [] v7 v9.toNat) 4, jA (nth [] v7 v9.toNat) 5, jA (nth [] v7 v9.toNat) 6, jA (nth [] v7 v9.toNat) 7, jA (nth [] v7 v9.toNat) 8, jA (nth [] v7 v9.toNat) 9, jA (nth [] v7 v9.toNat) 10, jA (nth [] v7 v9.toNat) 11, jA (nth [] v7 v9.toNat) 12, B (bA (nth [] v7 v9.toNat) 13), jA (nth [] v7 v9.toNat) 14, B (bA (nth [] v7 v9.toNat) 15), jA (nth [] v7 v9.toNat) 16, jA (nth [] v7 v9.toNat) 17, jA (nth [] v7 v9.toNat) 18, jA (nth [] v7 v9.toNat) 19, jA (nth [] v7 v9.toNat) 20, B (bA (nth [] v7 v9.toNat) 21)]).bind fun o126 =>
 bif ((v1 ++ [[I v3, jA o126 0, I v9]]).length * 24).ble 140737488355328 then
 some (0, [.view kSgm v0, .view kPt (v1 ++ [[I v3, jA o126 0, I v9]]), .view kItm v2, I v3, jA (nth [] v7 v9.toNat) 20, I v5, B v6, .view kItm v7, I v8, I (IntKind.i64.wrap (v9 + 1)), I v10, I v11, I v12, .view kSgm v13, .view kPt v14, I v15, I v16, I v17, I v18, I v19, I v20])
 else
 none
 else
 bif !v6 then
 (M_cncref23_Fine [jA (nth [] v7 v9.toNat) 2, jA (nth [] v7 v9.toNat) 3, jA (nth [] v7 v9.toNat) 4]).bind fun o127 =>
 (M_cncref23_Fine [jA (nth [] v7 v9.toNat) 2, jA (nth [] v7 v9.toNat) 3, jA (nth [] v7 v9.toNat) 4]).bind fun o128 =>
 (M_cncref25_Rate [jA (nth [] v7 v9.toNat) 0, jA (nth [] v7 v9.toNat) 1, jA (nth [] v7 v9.toNat) 2, jA (nth [] v7 v9.toNat) 3, jA (nth [] v7 v9.toNat) 4, jA (nth [] v7 v9.toNat) 5, jA (nth [] v7 v9.toNat) 6, jA (nth [] v7 v9.toNat) 7, jA (nth [] v7 v9.toNat) 8, jA (nth [] v7 v9.toNat) 9, jA (nth [] v7 v9.toNat) 10, jA (nth [] v7 v9.toNat) 11, jA (nth [] v7 v9.toNat) 12, B (bA (nth [] v7 v9.toNat) 13), jA (nth [] v7 v9.toNat) 14, B (bA (nth [] v7 v9.toNat) 15), jA (nth [] v7 v9.toNat) 16, jA (nth [] v7 v9.toNat) 17, jA (nth [] v7 v9.toNat) 18, jA (nth [] v7 v9.toNat) 19, jA (nth [] v7 v9.toNat) 20, B (bA (nth [] v7 v9.toNat) 21), jA (nth [] v7 v9.toNat) 20]).bind fun o129 =>
 (M_cncref25_synchronized [jA (nth [] v7 v9.toNat) 0, jA (nth [] v7 v9.toNat) 1, jA (nth [] v7 v9.toNat) 2, jA (nth [] v7 v9.toNat) 3, jA (nth [] v7 v9.toNat) 4, jA (nth [] v7 v9.toNat) 5, jA (nth [] v7 v9.toNat) 6, jA (nth [] v7 v9.toNat) 7, jA (nth [] v7 v9.toNat) 8, jA (nth [] v7 v9.toNat) 9, jA (nth [] v7 v9.toNat) 10, jA (nth [] v7 v9.toNat) 11, jA (nth [] v7 v9.toNat) 12, B (bA (nth [] v7 v9.toNat) 13), jA (nth [] v7 v9.toNat) 14, B (bA (nth [] v7 v9.toNat) 15), jA (nth [] v7 v9.toNat) 16, jA (nth [] v7 v9.toNat) 17, jA (nth [] v7 v9.toNat) 18, jA (nth [] v7 v9.toNat) 19, jA (nth [] v7 v9.toNat) 20, B (bA (nth [] v7 v9.toNat) 21)]).bind fun o130 =>
 bif bA o130 0 then
 (M_cncref25_points [.view kItm v2, I v9, I v5]).bind fun o131 =>
 (N19 [.view kSgm v0, .view kPt v1, .view kItm v2, I v3, jA (nth [] v7 v9.toNat) 20, B true, I v9, .view kItm v7, I v8, I v9, .view kPt (wA o131 0), I (↑(wA o131 0).length : Int), I 0, I v10, I v11, I v12, .view kSgm v13, .view kPt v14, jA o127 0, jA o127 1, jA o127 2, jA o128 0, jA o128 1, jA o128 2, I 0, I 0, I 0, I 0, I v9, jA o129 0, I (mn (IntKind.i64.wrap (gA (nth [] v7 v9.toNat) 14 * 16)) 16777216)]).bind fun o132 =>
 bif o132.1.beq 1 then
 some (1, [jA o132.2 0, jA o132.2 1, jA o132.2 2, jA o132.2 3])
 else
 bif o132.1.beq 2 then
 (M_cncref25_Soft [.view kItm (wA o132.2 2), jA o132.2 6]).bind fun o133 =>
 bif decide (gA o133 0 >= 0) then
 (M_cncref25_kind [.view kItm (wA o132.2 2), jA o132.2 6]).bind fun o134 =>
 bif ((wA o132.2 1 ++ [[jA o132.2 3, jA o134 0, jA o132.2 6]]).length * 24).ble 140737488355328 then
 some (0, [.view kSgm (wA o132.2 0), .view kPt (wA o132.2 1 ++ [[jA o132.2 3, jA o134 0, jA o132.2 6]]), .view kItm (wA o132.2 2), jA o132.2 3, jA o132.2 4, jA o132.2 6, B (bA o132.2 5), .view kItm (wA o132.2 7), jA o132.2 8, I (IntKind.i64.wrap (gA o132.2 9 + 1)), jA o132.2 10, jA o132.2 11, jA o132.2 12, .view kSgm (wA o132.2 13), .view kPt (wA o132.2 14), jA o132.2 15, jA o132.2 16, jA o132.2 17, jA o132.2 18, jA o132.2 19, jA o132.2 20])
 else
 none
 else
 (M_cncref25_kind [.view kItm (wA o132.2 2), jA o132.2 6]).bind fun o135 =>
 bif ((wA o132.2 1 ++ [[jA o132.2 3, jA o135 0, jA o132.2 6]]).length * 24).ble 140737488355328 then
 some (0, [.view kSgm (wA o132.2 0), .view kPt (wA o132.2 1 ++ [[jA o132.2 3, jA o135 0, jA o132.2 6]]), .view kItm (wA o132.2 2), jA o132.2 3, jA o132.2 4, I (-1), B (bA o132.2 5), .view kItm (wA o132.2 7), jA o132.2 8, I (IntKind.i64.wrap (gA o132.2 9 + 1)), jA o132.2 10, jA o132.2 11, jA o132.2 12, .view kSgm (wA o132.2 13), .view kPt (wA o132.2 14), jA o132.2 15, jA o132.2 16, jA o132.2 17, jA o132.2 18, jA o132.2 19, jA o132.2 20])
 else
 none
 else
 none
 else
 (M_cncref25_points [.view kItm v2, I v9, I v5]).bind fun o136 =>
 (N19 [.view kSgm v0, .view kPt v1, .view kItm v2, I v3, jA (nth [] v7 v9.toNat) 20, B true, I v9, .view kItm v7, I v8, I v9, .view kPt (wA o136 0), I (↑(wA o136 0).length : Int), I 0, I v10, I v11, I v12, .view kSgm v13, .view kPt v14, jA o127 0, jA o127 1, jA o127 2, jA o128 0, jA o128 1, jA o128 2, I 0, I 0, I 0, I 0, I v9, jA o129 0, I 0]).bind fun o137 =>
 bif o137.1.beq 1 then
 some (1, [jA o137.2 0, jA o137.2 1, jA o137.2 2, jA o137.2 3])
 else
 bif o137.1.beq 2 then
 (M_cncref25_Soft [.view kItm (wA o137.2 2), jA o137.2 6]).bind fun o138 =>
 bif decide (gA o138 0 >= 0) then
 (M_cncref25_kind [.view kItm (wA o137.2 2), jA o137.2 6]).bind fun o139 =>
 bif ((wA o137.2 1 ++ [[jA o137.2 3, jA o139 0, jA o137.2 6]]).length * 24).ble 140737488355328 then
 some (0, [.view kSgm (wA o137.2 0), .view kPt (wA o137.2 1 ++ [[jA o137.2 3, jA o139 0, jA o137.2 6]]), .view kItm (wA o137.2 2), jA o137.2 3, jA o137.2 4, jA o137.2 6, B (bA o137.2 5), .view kItm (wA o137.2 7), jA o137.2 8, I (IntKind.i64.wrap (gA o137.2 9 + 1)), jA o137.2 10, jA o137.2 11, jA o137.2 12, .view kSgm (wA o137.2 13), .view kPt (wA o137.2 14), jA o137.2 15, jA o137.2 16, jA o137.2 17, jA o137.2 18, jA o137.2 19, jA o137.2 20])
 else
 none
 else
 (M_cncref25_kind [.view kItm (wA o137.2 2), jA o137.2 6]).bind fun o140 =>
 bif ((wA o137.2 1 ++ [[jA o137.2 3, jA o140 0, jA o137.2 6]]).length * 24).ble 140737488355328 then
 some (0, [.view kSgm (wA o137.2 0), .view kPt (wA o137.2 1 ++ [[jA o137.2 3, jA o140 0, jA o137.2 6]]), .view kItm (wA o137.2 2), jA o137.2 3, jA o137.2 4, I (-1), B (bA o137.2 5), .view kItm (wA o137.2 7), jA o137.2 8, I (IntKind.i64.wrap (gA o137.2 9 + 1)), jA o137.2 10, jA o137.2 11, jA o137.2 12, .view kSgm (wA o137.2 13), .view kPt (wA o137.2 14), jA o137.2 15, jA o137.2 16, jA o137.2 17, jA o137.2 18, jA o137.2 19, jA o137.2 20])
 else
 none
 else
 none
 else
 (M_cncref25_Rate [jA (nth [] v7 v9.toNat) 0, jA (nth [] v7 v9.toNat) 1, jA (nth [] v7 v9.toNat) 2, jA (nth [] v7 v9.toNat) 3, jA (nth [] v7 v9.toNat) 4, jA (nth [] v7 v9.toNat) 5, jA (nth [] v7 v9.toNat) 6, jA (nth [] v7 v9.toNat) 7, jA (nth [] v7 v9.toNat) 8, jA (nth [] v7 v9.toNat) 9, jA (nth [] v7 v9.toNat) 10, jA (nth [] v7 v9.toNat) 11, jA (nth [] v7 v9.toNat) 12, B (bA (nth [] v7 v9.toNat) 13), jA (nth [] v7 v9.toNat) 14, B (bA (nth [] v7 v9.toNat) 15), jA (nth [] v7 v9.toNat) 16, jA (nth [] v7 v9.toNat) 17, jA (nth [] v7 v9.toNat) 18, jA (nth [] v7 v9.toNat) 19, jA (nth [] v7 v9.toNat) 20, B (bA (nth [] v7 v9.toNat) 21), jA (nth [] v7 v9.toNat) 20]).bind fun o141 =>
 (M_cncref25_synchronized [jA (nth [] v7 v9.toNat) 0, jA (nth [] v7 v9.toNat) 1, jA (nth [] v7 v9.toNat) 2, jA (nth [] v7 v9.toNat) 3, jA (nth [] v7 v9.toNat) 4, jA (nth [] v7 v9.toNat) 5, jA (nth [] v7 v9.toNat) 6, jA (nth [] v7 v9.toNat) 7, jA (nth [] v7 v9.toNat) 8, jA (nth [] v7 v9.toNat) 9, jA (nth [] v7 v9.toNat) 10, jA (nth [] v7 v9.toNat) 11, jA (nth [] v7 v9.toNat) 12, B (bA (nth [] v7 v9.toNat) 13), jA (nth [] v7 v9.toNat) 14, B (bA (nth [] v7 v9.toNat) 15), jA (nth [] v7 v9.toNat) 16, jA (nth [] v7 v9.toNat) 17, jA (nth [] v7 v9.toNat) 18, jA (nth [] v7 v9.toNat) 19, jA (nth [] v7 v9.toNat) 20, B (bA (nth [] v7 v9.toNat) 21)]).bind fun o142 =>
 bif bA o142 0 then
 (M_cncref25_points [.view kItm v2, I v9, I v5]).bind fun o143 =>
 (N19 [.view kSgm v0, .view kPt v1, .view kItm v2, I v3, jA (nth [] v7 v9.toNat) 20, B v6, I v9, .view kItm v7, I v8, I v9, .view kPt (wA o143 0), I (↑(wA o143 0).length : Int), I 0, I v10, I v11, I v12, .view kSgm v13, .view kPt v14, I v15, I v16, I v17, I v18, I v19, I v20, I 0, I 0, I 0, I 0, I v9, jA o141 0, I (mn (IntKind.i64.wrap (gA (nth [] v7 v9.toNat) 14 * 16)) 16777216)]).bind fun o144 =>
 bif o144.1.beq 1 then
 some (1, [jA o144.2 0, jA o144.2 1, jA o144.2 2, jA o144.2 3])
 else
 bif o144.1.beq 2 then
 (M_cncref25_Soft [.view kItm (wA o144.2 2), jA o144.2 6]).bind fun o145 =>
 bif decide (gA o145 0 >= 0) then
 (M_cncref25_kind [.view kItm (wA o144.2 2), jA o144.2 6]).bind fun o146 =>
 bif ((wA o144.2 1 ++ [[jA o144.2 3, jA o146 0, jA o144.2 6]]).length * 24).ble 140737488355328 then
 some (0, [.view kSgm (wA o144.2 0), .view kPt (wA o144.2 1 ++ [[jA o144.2 3, jA o146 0, jA o144.2 6]]), .view kItm (wA o144.2 2), jA o144.2 3, jA o144.2 4, jA o144.2 6, B (bA o144.2 5), .view kItm (wA o144.2 7), jA o144.2 8, I (IntKind.i64.wrap (gA o144.2 9 + 1)), jA o144.2 10, jA o144.2 11, jA o144.2 12, .view kSgm (wA o144.2 13), .view kPt (wA o144.2 14), jA o144.2 15, jA o144.2 16, jA o144.2 17, jA o144.2 18, jA o144.2 19, jA o144.2 20])
 else
 none
 else
 (M_cncref25_kind [.view kItm (wA o144.2 2), jA o144.2 6]).bind fun o147 =>
 bif ((wA o144.2 1 ++ [[jA o144.2 3, jA o147 0, jA o144.2 6]]).length * 24).ble 140737488355328 then
 some (0, [.view kSgm (wA o144.2 0), .view kPt (wA o144.2 1 ++ [[jA o144.2 3, jA o147 0, jA o144.2 6]]), .view kItm (wA o144.2 2), jA o144.2 3, jA o144.2 4, I (-1), B (bA o144.2 5), .view kItm (wA o144.2 7), jA o144.2 8, I (IntKind.i64.wrap (gA o144.2 9 + 1)), jA o144.2 10, jA o144.2 11, jA o144.2 12, .view kSgm (wA o144.2 13), .view kPt (wA o144.2 14), jA o144.2 15, jA o144.2 16, jA o144.2 17, jA o144.2 18, jA o144.2 19, jA o144.2 20])
 else
 none
 else
 none
 else
 (M_cncref25_points [.view kItm v2, I v9, I v5]).bind fun o148 =>
 (N19 [.view kSgm v0, .view kPt v1, .view kItm v2, I v3, jA (nth [] v7 v9.toNat) 20, B v6, I v9, .view kItm v7, I v8, I v9, .view kPt (wA o148 0), I (↑(wA o148 0).length : Int), I 0, I v10, I v11, I v12, .view kSgm v13, .view kPt v14, I v15, I v16, I v17, I v18, I v19, I v20, I 0, I 0, I 0, I 0, I v9, jA o141 0, I 0]).bind fun o149 =>
 bif o149.1.beq 1 then
 some (1, [jA o149.2 0, jA o149.2 1, jA o149.2 2, jA o149.2 3])
 else
 bif o149.1.beq 2 then
 (M_cncref25_Soft [.view kItm (wA o149.2 2), jA o149.2 6]).bind fun o150 =>
 bif decide (gA o150 0 >= 0) then
 (M_cncref25_kind [.view kItm (wA o149.2 2), jA o149.2 6]).bind fun o151 =>
 bif ((wA o149.2 1 ++ [[jA o149.2 3, jA o151 0, jA o149.2 6]]).length * 24).ble 140737488355328 then
 some (0, [.view kSgm (wA o149.2 0), .view kPt (wA o149.2 1 ++ [[jA o149.2 3, jA o151 0, jA o149.2 6]]), .view kItm (wA o149.2 2), jA o149.2 3, jA o149.2 4, jA o149.2 6, B (bA o149.2 5), .view kItm (wA o149.2 7), jA o149.2 8, I (IntKind.i64.wrap (gA o149.2 9 + 1)), jA o149.2 10, jA o149.2 11, jA o149.2 12, .view kSgm (wA o149.2 13), .view kPt (wA o149.2 14), jA o149.2 15, jA o149.2 16, jA o149.2 17, jA o149.2 18, jA o149.2 19, jA o149.2 20])
 else
 none
 else
 (M_cncref25_kind [.view kItm (wA o149.2 2), jA o149.2 6]).bind fun o152 =>
 bif ((wA o149.2 1 ++ [[jA o149.2 3, jA o152 0, jA o149.2 6]]).length * 24).ble 140737488355328 then
 some (0, [.view kSgm (wA o149.2 0), .view kPt (wA o149.2 1 ++ [[jA o149.2 3, jA o152 0, jA o149.2 6]]), .view kItm (wA o149.2 2), jA o149.2 3, jA o149.2 4, I (-1), B (bA o149.2 5), .view kItm (wA o149.2 7), jA o149.2 8, I (IntKind.i64.wrap (gA o149.2 9 + 1)), jA o149.2 10, jA o149.2 11, jA o149.2 12, .view kSgm (wA o149.2 13), .view kPt (wA o149.2 14), jA o149.2 15, jA o149.2 16, jA o149.2 17, jA o149.2 18, jA o149.2 19, jA o149.2 20])
 else
 none
 else
 none
 else
 bif gA (nth [] v7 v9.toNat) 19 == 4 then
 (M_cncref23_Motion [jA (nth [] v7 v9.toNat) 0]).bind fun o153 =>
 bif !bA o153 0 then
 (M_cncref25_other [jA (nth [] v7 v9.toNat) 0, jA (nth [] v7 v9.toNat) 1, jA (nth [] v7 v9.toNat) 2, jA (nth [] v7 v9.toNat) 3, jA (nth [] v7 v9.toNat) 4, jA (nth [] v7 v9.toNat) 5, jA (nth [] v7 v9.toNat) 6, jA (nth [] v7 v9.toNat) 7, jA (nth [] v7 v9.toNat) 8, jA (nth [] v7 v9.toNat) 9, jA (nth [] v7 v9.toNat) 10, jA (nth [] v7 v9.toNat) 11, jA (nth [] v7 v9.toNat) 12, B (bA (nth [] v7 v9.toNat) 13), jA (nth [] v7 v9.toNat) 14, B (bA (nth [] v7 v9.toNat) 15), jA (nth [] v7 v9.toNat) 16, jA (nth [] v7 v9.toNat) 17, jA (nth [] v7 v9.toNat) 18, jA (nth [] v7 v9.toNat) 19, jA (nth [] v7 v9.toNat) 20, B (bA (nth [] v7 v9.toNat) 21)]).bind fun o154 =>
 bif ((v1 ++ [[I v3, jA o154 0, I v9]]).length * 24).ble 140737488355328 then
 some (0, [.view kSgm v0, .view kPt (v1 ++ [[I v3, jA o154 0, I v9]]), .view kItm v2, I v3, jA (nth [] v7 v9.toNat) 20, I v5, B v6, .view kItm v7, I v8, I (IntKind.i64.wrap (v9 + 1)), I v10, I v11, I v12, .view kSgm v13, .view kPt v14, I v15, I v16, I v17, I v18, I v19, I v20])
 else
 none
 else
 bif !v6 then
 (M_cncref23_Fine [jA (nth [] v7 v9.toNat) 2, jA (nth [] v7 v9.toNat) 3, jA (nth [] v7 v9.toNat) 4]).bind fun o155 =>
 (M_cncref23_Fine [jA (nth [] v7 v9.toNat) 2, jA (nth [] v7 v9.toNat) 3, jA (nth [] v7 v9.toNat) 4]).bind fun o156 =>
 (M_cncref25_Rate [jA (nth [] v7 v9.toNat) 0, jA (nth [] v7 v9.toNat) 1, jA (nth [] v7 v9.toNat) 2, jA (nth [] v7 v9.toNat) 3, jA (nth [] v7 v9.toNat) 4, jA (nth [] v7 v9.toNat) 5, jA (nth [] v7 v9.toNat) 6, jA (nth [] v7 v9.toNat) 7, jA (nth [] v7 v9.toNat) 8, jA (nth [] v7 v9.toNat) 9, jA (nth [] v7 v9.toNat) 10, jA (nth [] v7 v9.toNat) 11, jA (nth [] v7 v9.toNat) 12, B (bA (nth [] v7 v9.toNat) 13), jA (nth [] v7 v9.toNat) 14, B (bA (nth [] v7 v9.toNat) 15), jA (nth [] v7 v9.toNat) 16, jA (nth [] v7 v9.toNat) 17, jA (nth [] v7 v9.toNat) 18, jA (nth [] v7 v9.toNat) 19, jA (nth [] v7 v9.toNat) 20, B (bA (nth [] v7 v9.toNat) 21), jA (nth [] v7 v9.toNat) 20]).bind fun o157 =>
 (M_cncref25_synchronized [jA (nth [] v7 v9.toNat) 0, jA (nth [] v7 v9.toNat) 1, jA (nth [] v7 v9.toNat) 2, jA (nth [] v7 v9.toNat) 3, jA (nth [] v7 v9.toNat) 4, jA (nth [] v7 v9.toNat) 5, jA (nth [] v7 v9.toNat) 6, jA (nth [] v7 v9.toNat) 7, jA (nth [] v7 v9.toNat) 8, jA (nth [] v7 v9.toNat) 9, jA (nth [] v7 v9.toNat) 10, jA (nth [] v7 v9.toNat) 11, jA (nth [] v7 v9.toNat) 12, B (bA (nth [] v7 v9.toNat) 13), jA (nth [] v7 v9.toNat) 14, B (bA (nth [] v7 v9.toNat) 15), jA (nth [] v7 v9.toNat) 16, jA (nth [] v7 v9.toNat) 17, jA (nth [] v7 v9.toNat) 18, jA (nth [] v7 v9.toNat) 19, jA (nth [] v7 v9.toNat) 20, B (bA (nth [] v7 v9.toNat) 21)]).bind fun o158 =>
 bif bA o158 0 then
 (M_cncref25_points [.view kItm v2, I v9, I v5]).bind fun o159 =>
 (N19 [.view kSgm v0, .view kPt v1, .view kItm v2, I v3, jA (nth [] v7 v9.toNat) 20, B true, I v9, .view kItm v7, I v8, I v9, .view kPt (wA o159 0), I (↑(wA o159 0).length : Int), I 0, I v10, I v11, I v12, .view kSgm v13, .view kPt v14, jA o155 0, jA o155 1, jA o155 2, jA o156 0, jA o156 1, jA o156 2, I 0, I 0, I 0, I 0, I v9, jA o157 0, I (mn (IntKind.i64.wrap (gA (nth [] v7 v9.toNat) 14 * 16)) 16777216)]).bind fun o160 =>
 bif o160.1.beq 1 then
 some (1, [jA o160.2 0, jA o160.2 1, jA o160.2 2, jA o160.2 3])
 else
 bif o160.1.beq 2 then
 (M_cncref25_Soft [.view kItm (wA o160.2 2), jA o160.2 6]).bind fun o161 =>
 bif decide (gA o161 0 >= 0) then
 (M_cncref25_kind [.view kItm (wA o160.2 2), jA o160.2 6]).bind fun o162 =>
 bif ((wA o160.2 1 ++ [[jA o160.2 3, jA o162 0, jA o160.2 6]]).length * 24).ble 140737488355328 then
 some (0, [.view kSgm (wA o160.2 0), .view kPt (wA o160.2 1 ++ [[jA o160.2 3, jA o162 0, jA o160.2 6]]), .view kItm (wA o160.2 2), jA o160.2 3, jA o160.2 4, jA o160.2 6, B (bA o160.2 5), .view kItm (wA o160.2 7), jA o160.2 8, I (IntKind.i64.wrap (gA o160.2 9 + 1)), jA o160.2 10, jA o160.2 11, jA o160.2 12, .view kSgm (wA o160.2 13), .view kPt (wA o160.2 14), jA o160.2 15, jA o160.2 16, jA o160.2 17, jA o160.2 18, jA o160.2 19, jA o160.2 20])
 else
 none
 else
 (M_cncref25_kind [.view kItm (wA o160.2 2), jA o160.2 6]).bind fun o163 =>
 bif ((wA o160.2 1 ++ [[jA o160.2 3, jA o163 0, jA o160.2 6]]).length * 24).ble 140737488355328 then
 some (0, [.view kSgm (wA o160.2 0), .view kPt (wA o160.2 1 ++ [[jA o160.2 3, jA o163 0, jA o160.2 6]]), .view kItm (wA o160.2 2), jA o160.2 3, jA o160.2 4, I (-1), B (bA o160.2 5), .view kItm (wA o160.2 7), jA o160.2 8, I (IntKind.i64.wrap (gA o160.2 9 + 1)), jA o160.2 10, jA o160.2 11, jA o160.2 12, .view kSgm (wA o160.2 13), .view kPt (wA o160.2 14), jA o160.2 15, jA o160.2 16, jA o160.2 17, jA o160.2 18, jA o160.2 19, jA o160.2 20])
 else
 none
 else
 none
 else
 (M_cncref25_points [.view kItm v2, I v9, I v5]).bind fun o164 =>
 (N19 [.view kSgm v0, .view kPt v1, .view kItm v2, I v3, jA (nth [] v7 v9.toNat) 20, B true, I v9, .view kItm v7, I v8, I v9, .view kPt (wA o164 0), I (↑(wA o164 0).length : Int), I 0, I v10, I v11, I v12, .view kSgm v13, .view kPt v14, jA o155 0, jA o155 1, jA o155 2, jA o156 0, jA o156 1, jA o156 2, I 0, I 0, I 0, I 0, I v9, jA o157 0, I 0]).bind fun o165 =>
 bif o165.1.beq 1 then
 some (1, [jA o165.2 0, jA o165.2 1, jA o165.2 2, jA o165.2 3])
 else
 bif o165.1.beq 2 then
 (M_cncref25_Soft [.view kItm (wA o165.2 2), jA o165.2 6]).bind fun o166 =>
 bif decide (gA o166 0 >= 0) then
 (M_cncref25_kind [.view kItm (wA o165.2 2), jA o165.2 6]).bind fun o167 =>
 bif ((wA o165.2 1 ++ [[jA o165.2 3, jA o167 0, jA o165.2 6]]).length * 24).ble 140737488355328 then
 some (0, [.view kSgm (wA o165.2 0), .view kPt (wA o165.2 1 ++ [[jA o165.2 3, jA o167 0, jA o165.2 6]]), .view kItm (wA o165.2 2), jA o165.2 3, jA o165.2 4, jA o165.2 6, B (bA o165.2 5), .view kItm (wA o165.2 7), jA o165.2 8, I (IntKind.i64.wrap (gA o165.2 9 + 1)), jA o165.2 10, jA o165.2 11, jA o165.2 12, .view kSgm (wA o165.2 13), .view kPt (wA o165.2 14), jA o165.2 15, jA o165.2 16, jA o165.2 17, jA o165.2 18, jA o165.2 19, jA o165.2 20])
 else
 none
 else
 (M_cncref25_kind [.view kItm (wA o165.2 2), jA o165.2 6]).bind fun o168 =>
 bif ((wA o165.2 1 ++ [[jA o165.2 3, jA o168 0, jA o165.2 6]]).length * 24).ble 140737488355328 then
 some (0, [.view kSgm (wA o165.2 0), .view kPt (wA o165.2 1 ++ [[jA o165.2 3, jA o168 0, jA o165.2 6]]), .view kItm (wA o165.2 2), jA o165.2 3, jA o165.2 4, I (-1), B (bA o165.2 5), .view kItm (wA o165.2 7), jA o165.2 8, I (IntKind.i64.wrap (gA o165.2 9 + 1)), jA o165.2 10, jA o165.2 11, jA o165.2 12, .view kSgm (wA o165.2 13), .view kPt (wA o165.2 14), jA o165.2 15, jA o165.2 16, jA o165.2 17, jA o165.2 18, jA o165.2 19, jA o165.2 20])
 else
 none
 else
 none
 else
 (M_cncref25_Rate [jA (nth [] v7 v9.toNat) 0, jA (nth [] v7 v9.toNat) 1, jA (nth [] v7 v9.toNat) 2, jA (nth [] v7 v9.toNat) 3, jA (nth [] v7 v9.toNat) 4, jA (nth [] v7 v9.toNat) 5, jA (nth [] v7 v9.toNat) 6, jA (nth [] v7 v9.toNat) 7, jA (nth [] v7 v9.toNat) 8, jA (nth [] v7 v9.toNat) 9, jA (nth [] v7 v9.toNat) 10, jA (nth [] v7 v9.toNat) 11, jA (nth [] v7 v9.toNat) 12, B (bA (nth [] v7 v9.toNat) 13), jA (nth [] v7 v9.toNat) 14, B (bA (nth [] v7 v9.toNat) 15), jA (nth [] v7 v9.toNat) 16, jA (nth [] v7 v9.toNat) 17, jA (nth [] v7 v9.toNat) 18, jA (nth [] v7 v9.toNat) 19, jA (nth [] v7 v9.toNat) 20, B (bA (nth [] v7 v9.toNat) 21), jA (nth [] v7 v9.toNat) 20]).bind fun o169 =>
 (M_cncref25_synchronized [jA (nth [] v7 v9.toNat) 0, jA (nth [] v7 v9.toNat) 1, jA (nth [] v7 v9.toNat) 2, jA (nth [] v7 v9.toNat) 3, jA (nth [] v7 v9.toNat) 4, jA (nth [] v7 v9.toNat) 5, jA (nth [] v7 v9.toNat) 6, jA (nth [] v7 v9.toNat) 7, jA (nth [] v7 v9.toNat) 8, jA (nth [] v7 v9.toNat) 9, jA (nth [] v7 v9.toNat) 10, jA (nth [] v7 v9.toNat) 11, jA (nth [] v7 v9.toNat) 12, B (bA (nth [] v7 v9.toNat) 13), jA (nth [] v7 v9.toNat) 14, B (bA (nth [] v7 v9.toNat) 15), jA (nth [] v7 v9.toNat) 16, jA (nth [] v7 v9.toNat) 17, jA (nth [] v7 v9.toNat) 18, jA (nth [] v7 v9.toNat) 19, jA (nth [] v7 v9.toNat) 20, B (bA (nth [] v7 v9.toNat) 21)]).bind fun o170 =>
 bif bA o170 0 then
 (M_cncref25_points [.view kItm v2, I v9, I v5]).bind fun o171 =>
 (N19 [.view kSgm v0, .view kPt v1, .view kItm v2, I v3, jA (nth [] v7 v9.toNat) 20, B v6, I v9, .view kItm v7, I v8, I v9, .view kPt (wA o171 0), I (↑(wA o171 0).length : Int), I 0, I v10, I v11, I v12, .view kSgm v13, .view kPt v14, I v15, I v16, I v17, I v18, I v19, I v20, I 0, I 0, I 0, I 0, I v9, jA o169 0, I (mn (IntKind.i64.wrap (gA (nth [] v7 v9.toNat) 14 * 16)) 16777216)]).bind fun o172 =>
 bif o172.1.beq 1 then
 some (1, [jA o172.2 0, jA o172.2 1, jA o172.2 2, jA o172.2 3])
 else
 bif o172.1.beq 2 then
 (M_cncref25_Soft [.view kItm (wA o172.2 2), jA o172.2 6]).bind fun o173 =>
 bif decide (gA o173 0 >= 0) then
 (M_cncref25_kind [.view kItm (wA o172.2 2), jA o172.2 6]).bind fun o174 =>
 bif ((wA o172.2 1 ++ [[jA o172.2 3, jA o174 0, jA o172.2 6]]).length * 24).ble 140737488355328 then
 some (0, [.view kSgm (wA o172.2 0), .view kPt (wA o172.2 1 ++ [[jA o172.2 3, jA o174 0, jA o172.2 6]]), .view kItm (wA o172.2 2), jA o172.2 3, jA o172.2 4, jA o172.2 6, B (bA o172.2 5), .view kItm (wA o172.2 7), jA o172.2 8, I (IntKind.i64.wrap (gA o172.2 9 + 1)), jA o172.2 10, jA o172.2 11, jA o172.2 12, .view kSgm (wA o172.2 13), .view kPt (wA o172.2 14), jA o172.2 15, jA o172.2 16, jA o172.2 17, jA o172.2 18, jA o172.2 19, jA o172.2 20])
 else
 none
 else
 (M_cncref25_kind [.view kItm (wA o172.2 2), jA o172.2 6]).bind fun o175 =>
 bif ((wA o172.2 1 ++ [[jA o172.2 3, jA o175 0, jA o172.2 6]]).length * 24).ble 140737488355328 then
 some (0, [.view kSgm (wA o172.2 0), .view kPt (wA o172.2 1 ++ [[jA o172.2 3, jA o175 0, jA o172.2 6]]), .view kItm (wA o172.2 2), jA o172.2 3, jA o172.2 4, I (-1), B (bA o172.2 5), .view kItm (wA o172.2 7), jA o172.2 8, I (IntKind.i64.wrap (gA o172.2 9 + 1)), jA o172.2 10, jA o172.2 11, jA o172.2 12, .view kSgm (wA o172.2 13), .view kPt (wA o172.2 14), jA o172.2 15, jA o172.2 16, jA o172.2 17, jA o172.2 18, jA o172.2 19, jA o172.2 20])
 else
 none
 else
 none
 else
 (M_cncref25_points [.view kItm v2, I v9, I v5]).bind fun o176 =>
 (N19 [.view kSgm v0, .view kPt v1, .view kItm v2, I v3, jA (nth [] v7 v9.toNat) 20, B v6, I v9, .view kItm v7, I v8, I v9, .view kPt (wA o176 0), I (↑(wA o176 0).length : Int), I 0, I v10, I v11, I v12, .view kSgm v13, .view kPt v14, I v15, I v16, I v17, I v18, I v19, I v20, I 0, I 0, I 0, I 0, I v9, jA o169 0, I 0]).bind fun o177 =>
 bif o177.1.beq 1 then
 some (1, [jA o177.2 0, jA o177.2 1, jA o177.2 2, jA o177.2 3])
 else
 bif o177.1.beq 2 then
 (M_cncref25_Soft [.view kItm (wA o177.2 2), jA o177.2 6]).bind fun o178 =>
 bif decide (gA o178 0 >= 0) then
 (M_cncref25_kind [.view kItm (wA o177.2 2), jA o177.2 6]).bind fun o179 =>
 bif ((wA o177.2 1 ++ [[jA o177.2 3, jA o179 0, jA o177.2 6]]).length * 24).ble 140737488355328 then
 some (0, [.view kSgm (wA o177.2 0), .view kPt (wA o177.2 1 ++ [[jA o177.2 3, jA o179 0, jA o177.2 6]]), .view kItm (wA o177.2 2), jA o177.2 3, jA o177.2 4, jA o177.2 6, B (bA o177.2 5), .view kItm (wA o177.2 7), jA o177.2 8, I (IntKind.i64.wrap (gA o177.2 9 + 1)), jA o177.2 10, jA o177.2 11, jA o177.2 12, .view kSgm (wA o177.2 13), .view kPt (wA o177.2 14), jA o177.2 15, jA o177.2 16, jA o177.2 17, jA o177.2 18, jA o177.2 19, jA o177.2 20])
 else
 none
 else
 (M_cncref25_kind [.view kItm (wA o177.2 2), jA o177.2 6]).bind fun o180 =>
 bif ((wA o177.2 1 ++ [[jA o177.2 3, jA o180 0, jA o177.2 6]]).length * 24).ble 140737488355328 then
 some (0, [.view kSgm (wA o177.2 0), .view kPt (wA o177.2 1 ++ [[jA o177.2 3, jA o180 0, jA o177.2 6]]), .view kItm (wA o177.2 2), jA o177.2 3, jA o177.2 4, I (-1), B (bA o177.2 5), .view kItm (wA o177.2 7), jA o177.2 8, I (IntKind.i64.wrap (gA o177.2 9 + 1)), jA o177.2 10, jA o177.2 11, jA o177.2 12, .view kSgm (wA o177.2 13), .view kPt (wA o177.2 14), jA o177.2 15, jA o177.2 16, jA o177.2 17, jA o177.2 18, jA o177.2 19, jA o177.2 20])
 else
 none
 else
 none
 else
 (M_cncref23_Motion [jA (nth [] v7 v9.toNat) 0]).bind fun o181 =>
 bif !bA o181 0 then
 (M_cncref25_other [jA (nth [] v7 v9.toNat) 0, jA (nth [] v7 v9.toNat) 1, jA (nth [] v7 v9.toNat) 2, jA (nth [] v7 v9.toNat) 3, jA (nth [] v7 v9.toNat) 4, jA (nth [] v7 v9.toNat) 5, jA (nth [] v7 v9.toNat) 6, jA (nth [] v7 v9.toNat) 7, jA (nth [] v7 v9.toNat) 8, jA (nth [] v7 v9.toNat) 9, jA (nth [] v7 v9.toNat) 10, jA (nth [] v7 v9.toNat) 11, jA (nth [] v7 v9.toNat) 12, B (bA (nth [] v7 v9.toNat) 13), jA (nth [] v7 v9.toNat) 14, B (bA (nth [] v7 v9.toNat) 15), jA (nth [] v7 v9.toNat) 16, jA (nth [] v7 v9.toNat) 17, jA (nth [] v7 v9.toNat) 18, jA (nth [] v7 v9.toNat) 19, jA (nth [] v7 v9.toNat) 20, B (bA (nth [] v7 v9.toNat) 21)]).bind fun o182 =>
 bif ((v1 ++ [[I v3, jA o182 0, I v9]]).length * 24).ble 140737488355328 then
 some (0, [.view kSgm v0, .view kPt (v1 ++ [[I v3, jA o182 0, I v9]]), .view kItm v2, I v3, I v4, I v5, B v6, .view kItm v7, I v8, I (IntKind.i64.wrap (v9 + 1)), I v10, I v11, I v12, .view kSgm v13, .view kPt v14, I v15, I v16, I v17, I v18, I v19, I v20])
 else
 none
 else
 bif !v6 then
 (M_cncref23_Fine [jA (nth [] v7 v9.toNat) 2, jA (nth [] v7 v9.toNat) 3, jA (nth [] v7 v9.toNat) 4]).bind fun o183 =>
 (M_cncref23_Fine [jA (nth [] v7 v9.toNat) 2, jA (nth [] v7 v9.toNat) 3, jA (nth [] v7 v9.toNat) 4]).bind fun o184 =>
 (M_cncref25_Rate [jA (nth [] v7 v9.toNat) 0, jA (nth [] v7 v9.toNat) 1, jA (nth [] v7 v9.toNat) 2, jA (nth [] v7 v9.toNat) 3, jA (nth [] v7 v9.toNat) 4, jA (nth [] v7 v9.toNat) 5, jA (nth [] v7 v9.toNat) 6, jA (nth [] v7 v9.toNat) 7, jA (nth [] v7 v9.toNat) 8, jA (nth [] v7 v9.toNat) 9, jA (nth [] v7 v9.toNat) 10, jA (nth [] v7 v9.toNat) 11, jA (nth [] v7 v9.toNat) 12, B (bA (nth [] v7 v9.toNat) 13), jA (nth [] v7 v9.toNat) 14, B (bA (nth [] v7 v9.toNat) 15), jA (nth [] v7 v9.toNat) 16, jA (nth [] v7 v9.toNat) 17, jA (nth [] v7 v9.toNat) 18, jA (nth [] v7 v9.toNat) 19, jA (nth [] v7 v9.toNat) 20, B (bA (nth [] v7 v9.toNat) 21), I v4]).bind fun o185 =>
 (M_cncref25_synchronized [jA (nth [] v7 v9.toNat) 0, jA (nth [] v7 v9.toNat) 1, jA (nth [] v7 v9.toNat) 2, jA (nth [] v7 v9.toNat) 3, jA (nth [] v7 v9.toNat) 4, jA (nth [] v7 v9.toNat) 5, jA (nth [] v7 v9.toNat) 6, jA (nth [] v7 v9.toNat) 7, jA (nth [] v7 v9.toNat) 8, jA (nth [] v7 v9.toNat) 9, jA (nth [] v7 v9.toNat) 10, jA (nth [] v7 v9.toNat) 11, jA (nth [] v7 v9.toNat) 12, B (bA (nth [] v7 v9.toNat) 13), jA (nth [] v7 v9.toNat) 14, B (bA (nth [] v7 v9.toNat) 15), jA (nth [] v7 v9.toNat) 16, jA (nth [] v7 v9.toNat) 17, jA (nth [] v7 v9.toNat) 18, jA (nth [] v7 v9.toNat) 19, jA (nth [] v7 v9.toNat) 20, B (bA (nth [] v7 v9.toNat) 21)]).bind fun o186 =>
 bif bA o186 0 then
 (M_cncref25_points [.view kItm v2, I v9, I v5]).bind fun o187 =>
 (N19 [.view kSgm v0, .view kPt v1, .view kItm v2, I v3, I v4, B true, I v9, .view kItm v7, I v8, I v9, .view kPt (wA o187 0), I (↑(wA o187 0).length : Int), I 0, I v10, I v11, I v12, .view kSgm v13, .view kPt v14, jA o183 0, jA o183 1, jA o183 2, jA o184 0, jA o184 1, jA o184 2, I 0, I 0, I 0, I 0, I v9, jA o185 0, I (mn (IntKind.i64.wrap (gA (nth [] v7 v9.toNat) 14 * 16)) 16777216)]).bind fun o188 =>
 bif o188.1.beq 1 then
 some (1, [jA o188.2 0, jA o188.2 1, jA o188.2 2, jA o188.2 3])
 else
 bif o188.1.beq 2 then
 (M_cncref25_Soft [.view kItm (wA o188.2 2), jA o188.2 6]).bind fun o189 =>
 bif decide (gA o189 0 >= 0) then
 (M_cncref25_kind [.view kItm (wA o188.2 2), jA o188.2 6]).bind fun o190 =>
 bif ((wA o188.2 1 ++ [[jA o188.2 3, jA o190 0, jA o188.2 6]]).length * 24).ble 140737488355328 then
 some (0, [.view kSgm (wA o188.2 0), .view kPt (wA o188.2 1 ++ [[jA o188.2 3, jA o190 0, jA o188.2 6]]), .view kItm (wA o188.2 2), jA o188.2 3, jA o188.2 4, jA o188.2 6, B (bA o188.2 5), .view kItm (wA o188.2 7), jA o188.2 8, I (IntKind.i64.wrap (gA o188.2 9 + 1)), jA o188.2 10, jA o188.2 11, jA o188.2 12, .view kSgm (wA o188.2 13), .view kPt (wA o188.2 14), jA o188.2 15, jA o188.2 16, jA o188.2 17, jA o188.2 18, jA o188.2 19, jA o188.2 20])
 else
 none
 else
 (M_cncref25_kind [.view kItm (wA o188.2 2), jA o188.2 6]).bind fun o191 =>
 bif ((wA o188.2 1 ++ [[jA o188.2 3, jA o191 0, jA o188.2 6]]).length * 24).ble 140737488355328 then
 some (0, [.view kSgm (wA o188.2 0), .view kPt (wA o188.2 1 ++ [[jA o188.2 3, jA o191 0, jA o188.2 6]]), .view kItm (wA o188.2 2), jA o188.2 3, jA o188.2 4, I (-1), B (bA o188.2 5), .view kItm (wA o188.2 7), jA o188.2 8, I (IntKind.i64.wrap (gA o188.2 9 + 1)), jA o188.2 10, jA o188.2 11, jA o188.2 12, .view kSgm (wA o188.2 13), .view kPt (wA o188.2 14), jA o188.2 15, jA o188.2 16, jA o188.2 17, jA o188.2 18, jA o188.2 19, jA o188.2 20])
 else
 none
 else
 none
 else
 (M_cncref25_points [.view kItm v2, I v9, I v5]).bind fun o192 =>
 (N19 [.view kSgm v0, .view kPt v1, .view kItm v2, I v3, I v4, B true, I v9, .view kItm v7, I v8, I v9, .view kPt (wA o192 0), I (↑(wA o192 0).length : Int), I 0, I v10, I v11, I v12, .view kSgm v13, .view kPt v14, jA o183 0, jA o183 1, jA o183 2, jA o184 0, jA o184 1, jA o184 2, I 0, I 0, I 0, I 0, I v9, jA o185 0, I 0]).bind fun o193 =>
 bif o193.1.beq 1 then
 some (1, [jA o193.2 0, jA o193.2 1, jA o193.2 2, jA o193.2 3])
 else
 bif o193.1.beq 2 then
 (M_cncref25_Soft [.view kItm (wA o193.2 2), jA o193.2 6]).bind fun o194 =>
 bif decide (gA o194 0 >= 0) then
 (M_cncref25_kind [.view kItm (wA o193.2 2), jA o193.2 6]).bind fun o195 =>
 bif ((wA o193.2 1 ++ [[jA o193.2 3, jA o195 0, jA o193.2 6]]).length * 24).ble 140737488355328 then
 some (0, [.view kSgm (wA o193.2 0), .view kPt (wA o193.2 1 ++ [[jA o193.2 3, jA o195 0, jA o193.2 6]]), .view kItm (wA o193.2 2), jA o193.2 3, jA o193.2 4, jA o193.2 6, B (bA o193.2 5), .view kItm (wA o193.2 7), jA o193.2 8, I (IntKind.i64.wrap (gA o193.2 9 + 1)), jA o193.2 10, jA o193.2 11, jA o193.2 12, .view kSgm (wA o193.2 13), .view kPt (wA o193.2 14), jA o193.2 15, jA o193.2 16, jA o193.2 17, jA o193.2 18, jA o193.2 19, jA o193.2 20])
 else
 none
 else
 (M_cncref25_kind [.view kItm (wA o193.2 2), jA o193.2 6]).bind fun o196 =>
 bif ((wA o193.2 1 ++ [[jA o193.2 3, jA o196 0, jA o193.2 6]]).length * 24).ble 140737488355328 then
 some (0, [.view kSgm (wA o193.2 0), .view kPt (wA o193.2 1 ++ [[jA o193.2 3, jA o196 0, jA o193.2 6]]), .view kItm (wA o193.2 2), jA o193.2 3, jA o193.2 4, I (-1), B (bA o193.2 5), .view kItm (wA o193.2 7), jA o193.2 8, I (IntKind.i64.wrap (gA o193.2 9 + 1)), jA o193.2 10, jA o193.2 11, jA o193.2 12, .view kSgm (wA o193.2 13), .view kPt (wA o193.2 14), jA o193.2 15, jA o193.2 16, jA o193.2 17, jA o193.2 18, jA o193.2 19, jA o193.2 20])
 else
 none
 else
 none
 else
 (M_cncref25_Rate [jA (nth [] v7 v9.toNat) 0, jA (nth [] v7 v9.toNat) 1, jA (nth [] v7 v9.toNat) 2, jA (nth [] v7 v9.toNat) 3, jA (nth [] v7 v9.toNat) 4, jA (nth [] v7 v9.toNat) 5, jA (nth [] v7 v9.toNat) 6, jA (nth [] v7 v9.toNat) 7, jA (nth [] v7 v9.toNat) 8, jA (nth [] v7 v9.toNat) 9, jA (nth [] v7 v9.toNat) 10, jA (nth [] v7 v9.toNat) 11, jA (nth [] v7 v9.toNat) 12, B (bA (nth [] v7 v9.toNat) 13), jA (nth [] v7 v9.toNat) 14, B (bA (nth [] v7 v9.toNat) 15), jA (nth [] v7 v9.toNat) 16, jA (nth [] v7 v9.toNat) 17, jA (nth [] v7 v9.toNat) 18, jA (nth [] v7 v9.toNat) 19, jA (nth [] v7 v9.toNat) 20, B (bA (nth [] v7 v9.toNat) 21), I v4]).bind fun o197 =>
 (M_cncref25_synchronized [jA (nth [] v7 v9.toNat) 0, jA (nth [] v7 v9.toNat) 1, jA (nth [] v7 v9.toNat) 2, jA (nth [] v7 v9.toNat) 3, jA (nth [] v7 v9.toNat) 4, jA (nth [] v7 v9.toNat) 5, jA (nth [] v7 v9.toNat) 6, jA (nth [] v7 v9.toNat) 7, jA (nth [] v7 v9.toNat) 8, jA (nth [] v7 v9.toNat) 9, jA (nth [] v7 v9.toNat) 10, jA (nth [] v7 v9.toNat) 11, jA (nth [] v7 v9.toNat) 12, B (bA (nth [] v7 v9.toNat) 13), jA (nth [] v7 v9.toNat) 14, B (bA (nth [] v7 v9.toNat) 15), jA (nth [] v7 v9.toNat) 16, jA (nth [] v7 v9.toNat) 17, jA (nth [] v7 v9.toNat) 18, jA (nth [] v7 v9.toNat) 19, jA (nth [] v7 v9.toNat) 20, B (bA (nth [] v7 v9.toNat) 21)]).bind fun o198 =>
 bif bA o198 0 then
 (M_cncref25_points [.view kItm v2, I v9, I v5]).bind fun o199 =>
 (N19 [.view kSgm v0, .view kPt v1, .view kItm v2, I v3, I v4, B v6, I v9, .view kItm v7, I v8, I v9, .view kPt (wA o199 0), I (↑(wA o199 0).length : Int), I 0, I v10, I v11, I v12, .view kSgm v13, .view kPt v14, I v15, I v16, I v17, I v18, I v19, I v20, I 0, I 0, I 0, I 0, I v9, jA o197 0, I (mn (IntKind.i64.wrap (gA (nth [] v7 v9.toNat) 14 * 16)) 16777216)]).bind fun o200 =>
 bif o200.1.beq 1 then
 some (1, [jA o200.2 0, jA o200.2 1, jA o200.2 2, jA o200.2 3])
 else
 bif o200.1.beq 2 then
 (M_cncref25_Soft [.view kItm (wA o200.2 2), jA o200.2 6]).bind fun o201 =>
 bif decide (gA o201 0 >= 0) then
 (M_cncref25_kind [.view kItm (wA o200.2 2), jA o200.2 6]).bind fun o202 =>
 bif ((wA o200.2 1 ++ [[jA o200.2 3, jA o202 0, jA o200.2 6]]).length * 24).ble 140737488355328 then
 some (0, [.view kSgm (wA o200.2 0), .view kPt (wA o200.2 1 ++ [[jA o200.2 3, jA o202 0, jA o200.2 6]]), .view kItm (wA o200.2 2), jA o200.2 3, jA o200.2 4, jA o200.2 6, B (bA o200.2 5), .view kItm (wA o200.2 7), jA o200.2 8, I (IntKind.i64.wrap (gA o200.2 9 + 1)), jA o200.2 10, jA o200.2 11, jA o200.2 12, .view kSgm (wA o200.2 13), .view kPt (wA o200.2 14), jA o200.2 15, jA o200.2 16, jA o200.2 17, jA o200.2 18, jA o200.2 19, jA o200.2 20])
 else
 none
 else
 (M_cncref25_kind [.view kItm (wA o200.2 2), jA o200.2 6]).bind fun o203 =>
 bif ((wA o200.2 1 ++ [[jA o200.2 3, jA o203 0, jA o200.2 6]]).length * 24).ble 140737488355328 then
 some (0, [.view kSgm (wA o200.2 0), .view kPt (wA o200.2 1 ++ [[jA o200.2 3, jA o203 0, jA o200.2 6]]), .view kItm (wA o200.2 2), jA o200.2 3, jA o200.2 4, I (-1), B (bA o200.2 5), .view kItm (wA o200.2 7), jA o200.2 8, I (IntKind.i64.wrap (gA o200.2 9 + 1)), jA o200.2 10, jA o200.2 11, jA o200.2 12, .view kSgm (wA o200.2 13), .view kPt (wA o200.2 14), jA o200.2 15, jA o200.2 16, jA o200.2 17, jA o200.2 18, jA o200.2 19, jA o200.2 20])
 else
 none
 else
 none
 else
 (M_cncref25_points [.view kItm v2, I v9, I v5]).bind fun o204 =>
 (N19 [.view kSgm v0, .view kPt v1, .view kItm v2, I v3, I v4, B v6, I v9, .view kItm v7, I v8, I v9, .view kPt (wA o204 0), I (↑(wA o204 0).length : Int), I 0, I v10, I v11, I v12, .view kSgm v13, .view kPt v14, I v15, I v16, I v17, I v18, I v19, I v20, I 0, I 0, I 0, I 0, I v9, jA o197 0, I 0]).bind fun o205 =>
 bif o205.1.beq 1 then
 some (1, [jA o205.2 0, jA o205.2 1, jA o205.2 2, jA o205.2 3])
 else
 bif o205.1.beq 2 then
 (M_cncref25_Soft [.view kItm (wA o205.2 2), jA o205.2 6]).bind fun o206 =>
 bif decide (gA o206 0 >= 0) then
 (M_cncref25_kind [.view kItm (wA o205.2 2), jA o205.2 6]).bind fun o207 =>
 bif ((wA o205.2 1 ++ [[jA o205.2 3, jA o207 0, jA o205.2 6]]).length * 24).ble 140737488355328 then
 some (0, [.view kSgm (wA o205.2 0), .view kPt (wA o205.2 1 ++ [[jA o205.2 3, jA o207 0, jA o205.2 6]]), .view kItm (wA o205.2 2), jA o205.2 3, jA o205.2 4, jA o205.2 6, B (bA o205.2 5), .view kItm (wA o205.2 7), jA o205.2 8, I (IntKind.i64.wrap (gA o205.2 9 + 1)), jA o205.2 10, jA o205.2 11, jA o205.2 12, .view kSgm (wA o205.2 13), .view kPt (wA o205.2 14), jA o205.2 15, jA o205.2 16, jA o205.2 17, jA o205.2 18, jA o205.2 19, jA o205.2 20])
 else
 none
 else
 (M_cncref25_kind [.view kItm (wA o205.2 2), jA o205.2 6]).bind fun o208 =>
 bif ((wA o205.2 1 ++ [[jA o205.2 3, jA o208 0, jA o205.2 6]]).length * 24).ble 140737488355328 then
 some (0, [.view kSgm (wA o205.2 0), .view kPt (wA o205.2 1 ++ [[jA o205.2 3, jA o208 0, jA o205.2 6]]), .view kItm (wA o205.2 2), jA o205.2 3, jA o205.2 4, I (-1), B (bA o205.2 5), .view kItm (wA o205.2 7), jA o205.2 8, I (IntKind.i64.wrap (gA o205.2 9 + 1)), jA o205.2 10, jA o205.2 11, jA o205.2 12, .view kSgm (wA o205.2 13), .view kPt (wA o205.2 14), jA o205.2 15, jA o205.2 16, jA o205.2 17, jA o205.2 18, jA o205.2 19, jA o205.2 20])
 else
 none
 else
 none
 else
 (M_cncref23_Motion [jA (nth [] v7 v9.toNat) 0]).bind fun o209 =>
 bif !bA o209 0 then
 (M_cncref25_other [jA (nth [] v7 v9.toNat) 0, jA (nth [] v7 v9.toNat) 1, jA (nth [] v7 v9.toNat) 2, jA (nth [] v7 v9.toNat) 3, jA (nth [] v7 v9.toNat) 4, jA (nth [] v7 v9.toNat) 5, jA (nth [] v7 v9.toNat) 6, jA (nth [] v7 v9.toNat) 7, jA (nth [] v7 v9.toNat) 8, jA (nth [] v7 v9.toNat) 9, jA (nth [] v7 v9.toNat) 10, jA (nth [] v7 v9.toNat) 11, jA (nth [] v7 v9.toNat) 12, B (bA (nth [] v7 v9.toNat) 13), jA (nth [] v7 v9.toNat) 14, B (bA (nth [] v7 v9.toNat) 15), jA (nth [] v7 v9.toNat) 16, jA (nth [] v7 v9.toNat) 17, jA (nth [] v7 v9.toNat) 18, jA (nth [] v7 v9.toNat) 19, jA (nth [] v7 v9.toNat) 20, B (bA (nth [] v7 v9.toNat) 21)]).bind fun o210 =>
 bif ((v1 ++ [[I v3, jA o210 0, I v9]]).length * 24).ble 140737488355328 then
 some (0, [.view kSgm v0, .view kPt (v1 ++ [[I v3, jA o210 0, I v9]]), .view kItm v2, I v3, I v4, I v5, B v6, .view kItm v7, I v8, I (IntKind.i64.wrap (v9 + 1)), I v10, I v11, I v12, .view kSgm v13, .view kPt v14, I v15, I v16, I v17, I v18, I v19, I v20])
 else
 none
 else
 bif !v6 then
 (M_cncref23_Fine [jA (nth [] v7 v9.toNat) 2, jA (nth [] v7 v9.toNat) 3, jA (nth [] v7 v9.toNat) 4]).bind fun o211 =>
 (M_cncref23_Fine [jA (nth [] v7 v9.toNat) 2, jA (nth [] v7 v9.toNat) 3, jA (nth [] v7 v9.toNat) 4]).bind fun o212 =>
 (M_cncref25_Rate [jA (nth [] v7 v9.toNat) 0, jA (nth [] v7 v9.toNat) 1, jA (nth [] v7 v9.toNat) 2, jA (nth [] v7 v9.toNat) 3, jA (nth [] v7 v9.toNat) 4, jA (nth [] v7 v9.toNat) 5, jA (nth [] v7 v9.toNat) 6, jA (nth [] v7 v9.toNat) 7, jA (nth [] v7 v9.toNat) 8, jA (nth [] v7 v9.toNat) 9, jA (nth [] v7 v9.toNat) 10, jA (nth [] v7 v9.toNat) 11, jA (nth [] v7 v9.toNat) 12, B (bA (nth [] v7 v9.toNat) 13), jA (nth [] v7 v9.toNat) 14, B (bA (nth [] v7 v9.toNat) 15), jA (nth [] v7 v9.toNat) 16, jA (nth [] v7 v9.toNat) 17, jA (nth [] v7 v9.toNat) 18, jA (nth [] v7 v9.toNat) 19, jA (nth [] v7 v9.toNat) 20, B (bA (nth [] v7 v9.toNat) 21), I v4]).bind fun o213 =>
 (M_cncref25_synchronized [jA (nth [] v7 v9.toNat) 0, jA (nth [] v7 v9.toNat) 1, jA (nth [] v7 v9.toNat) 2, jA (nth [] v7 v9.toNat) 3, jA (nth [] v7 v9.toNat) 4, jA (nth [] v7 v9.toNat) 5, jA (nth [] v7 v9.toNat) 6, jA (nth [] v7 v9.toNat) 7, jA (nth [] v7 v9.toNat) 8, jA (nth [] v7 v9.toNat) 9, jA (nth [] v7 v9.toNat) 10, jA (nth [] v7 v9.toNat) 11, jA (nth [] v7 v9.toNat) 12, B (bA (nth [] v7 v9.toNat) 13), jA (nth [] v7 v9.toNat) 14, B (bA (nth [] v7 v9.toNat) 15), jA (nth [] v7 v9.toNat) 16, jA (nth [] v7 v9.toNat) 17, jA (nth [] v7 v9.toNat) 18, jA (nth [] v7 v9.toNat) 19, jA (nth [] v7 v9.toNat) 20, B (bA (nth [] v7 v9.toNat) 21)]).bind fun o214 =>
 bif bA o214 0 then
 (M_cncref25_points [.view kItm v2, I v9, I v5]).bind fun o215 =>
 (N19 [.view kSgm v0, .view kPt v1, .view kItm v2, I v3, I v4, B true, I v9, .view kItm v7, I v8, I v9, .view kPt (wA o215 0), I (↑(wA o215 0).length : Int), I 0, I v10, I v11, I v12, .view kSgm v13, .view kPt v14, jA o211 0, jA o211 1, jA o211 2, jA o212 0, jA o212 1, jA o212 2, I 0, I 0, I 0, I 0, I v9, jA o213 0, I (mn (IntKind.i64.wrap (gA (nth [] v7 v9.toNat) 14 * 16)) 16777216)]).bind fun o216 =>
 bif o216.1.beq 1 then
 some (1, [jA o216.2 0, jA o216.2 1, jA o216.2 2, jA o216.2 3])
 else
 bif o216.1.beq 2 then
 (M_cncref25_Soft [.view kItm (wA o216.2 2), jA o216.2 6]).bind fun o217 =>
 bif decide (gA o217 0 >= 0) then
 (M_cncref25_kind [.view kItm (wA o216.2 2), jA o216.2 6]).bind fun o218 =>
 bif ((wA o216.2 1 ++ [[jA o216.2 3, jA o218 0, jA o216.2 6]]).length * 24).ble 140737488355328 then
 some (0, [.view kSgm (wA o216.2 0), .view kPt (wA o216.2 1 ++ [[jA o216.2 3, jA o218 0, jA o216.2 6]]), .view kItm (wA o216.2 2), jA o216.2 3, jA o216.2 4, jA o216.2 6, B (bA o216.2 5), .view kItm (wA o216.2 7), jA o216.2 8, I (IntKind.i64.wrap (gA o216.2 9 + 1)), jA o216.2 10, jA o216.2 11, jA o216.2 12, .view kSgm (wA o216.2 13), .view kPt (wA o216.2 14), jA o216.2 15, jA o216.2 16, jA o216.2 17, jA o216.2 18, jA o216.2 19, jA o216.2 20])
 else
 none
 else
 (M_cncref25_kind [.view kItm (wA o216.2 2), jA o216.2 6]).bind fun o219 =>
 bif ((wA o216.2 1 ++ [[jA o216.2 3, jA o219 0, jA o216.2 6]]).length * 24).ble 140737488355328 then
 some (0, [.view kSgm (wA o216.2 0), .view kPt (wA o216.2 1 ++ [[jA o216.2 3, jA o219 0, jA o216.2 6]]), .view kItm (wA o216.2 2), jA o216.2 3, jA o216.2 4, I (-1), B (bA o216.2 5), .view kItm (wA o216.2 7), jA o216.2 8, I (IntKind.i64.wrap (gA o216.2 9 + 1)), jA o216.2 10, jA o216.2 11, jA o216.2 12, .view kSgm (wA o216.2 13), .view kPt (wA o216.2 14), jA o216.2 15, jA o216.2 16, jA o216.2 17, jA o216.2 18, jA o216.2 19, jA o216.2 20])
 else
 none
 else
 none
 else
 (M_cncref25_points [.view kItm v2, I v9, I v5]).bind fun o220 =>
 (N19 [.view kSgm v0, .view kPt v1, .view kItm v2, I v3, I v4, B true, I v9, .view kItm v7, I v8, I v9, .view kPt (wA o220 0), I (↑(wA o220 0).length : Int), I 0, I v10, I v11, I v12, .view kSgm v13, .view kPt v14, jA o211 0, jA o211 1, jA o211 2, jA o212 0, jA o212 1, jA o212 2, I 0, I 0, I 0, I 0, I v9, jA o213 0, I 0]).bind fun o221 =>
 bif o221.1.beq 1 then
 some (1, [jA o221.2 0, jA o221.2 1, jA o221.2 2, jA o221.2 3])
 else
 bif o221.1.beq 2 then
 (M_cncref25_Soft [.view kItm (wA o221.2 2), jA o221.2 6]).bind fun o222 =>
 bif decide (gA o222 0 >= 0) then
 (M_cncref25_kind [.view kItm (wA o221.2 2), jA o221.2 6]).bind fun o223 =>
 bif ((wA o221.2 1 ++ [[jA o221.2 3, jA o223 0, jA o221.2 6]]).length * 24).ble 140737488355328 then
 some (0, [.view kSgm (wA o221.2 0), .view kPt (wA o221.2 1 ++ [[jA o221.2 3, jA o223 0, jA o221.2 6]]), .view kItm (wA o221.2 2), jA o221.2 3, jA o221.2 4, jA o221.2 6, B (bA o221.2 5), .view kItm (wA o221.2 7), jA o221.2 8, I (IntKind.i64.wrap (gA o221.2 9 + 1)), jA o221.2 10, jA o221.2 11, jA o221.2 12, .view kSgm (wA o221.2 13), .view kPt (wA o221.2 14), jA o221.2 15, jA o221.2 16, jA o221.2 17, jA o221.2 18, jA o221.2 19, jA o221.2 20])
 else
 none
 else
 (M_cncref25_kind [.view kItm (wA o221.2 2), jA o221.2 6]).bind fun o224 =>
 bif ((wA o221.2 1 ++ [[jA o221.2 3, jA o224 0, jA o221.2 6]]).length * 24).ble 140737488355328 then
 some (0, [.view kSgm (wA o221.2 0), .view kPt (wA o221.2 1 ++ [[jA o221.2 3, jA o224 0, jA o221.2 6]]), .view kItm (wA o221.2 2), jA o221.2 3, jA o221.2 4, I (-1), B (bA o221.2 5), .view kItm (wA o221.2 7), jA o221.2 8, I (IntKind.i64.wrap (gA o221.2 9 + 1)), jA o221.2 10, jA o221.2 11, jA o221.2 12, .view kSgm (wA o221.2 13), .view kPt (wA o221.2 14), jA o221.2 15, jA o221.2 16, jA o221.2 17, jA o221.2 18, jA o221.2 19, jA o221.2 20])
 else
 none
 else
 none
 else
 (M_cncref25_Rate [jA (nth [] v7 v9.toNat) 0, jA (nth [] v7 v9.toNat) 1, jA (nth [] v7 v9.toNat) 2, jA (nth [] v7 v9.toNat) 3, jA (nth [] v7 v9.toNat) 4, jA (nth [] v7 v9.toNat) 5, jA (nth [] v7 v9.toNat) 6, jA (nth [] v7 v9.toNat) 7, jA (nth [] v7 v9.toNat) 8, jA (nth [] v7 v9.toNat) 9, jA (nth [] v7 v9.toNat) 10, jA (nth [] v7 v9.toNat) 11, jA (nth [] v7 v9.toNat) 12, B (bA (nth [] v7 v9.toNat) 13), jA (nth [] v7 v9.toNat) 14, B (bA (nth [] v7 v9.toNat) 15), jA (nth [] v7 v9.toNat) 16, jA (nth [] v7 v9.toNat) 17, jA (nth [] v7 v9.toNat) 18, jA (nth [] v7 v9.toNat) 19, jA (nth [] v7 v9.toNat) 20, B (bA (nth [] v7 v9.toNat) 21), I v4]).bind fun o225 =>
 (M_cncref25_synchronized [jA (nth [] v7 v9.toNat) 0, jA (nth [] v7 v9.toNat) 1, jA (nth [] v7 v9.toNat) 2, jA (nth [] v7 v9.toNat) 3, jA (nth [] v7 v9.toNat) 4, jA (nth [] v7 v9.toNat) 5, jA (nth [] v7 v9.toNat) 6, jA (nth [] v7 v9.toNat) 7, jA (nth [] v7 v9.toNat) 8, jA (nth [] v7 v9.toNat) 9, jA (nth [] v7 v9.toNat) 10, jA (nth [] v7 v9.toNat) 11, jA (nth [] v7 v9.toNat) 12, B (bA (nth [] v7 v9.toNat) 13), jA (nth [] v7 v9.toNat) 14, B (bA (nth [] v7 v9.toNat) 15), jA (nth [] v7 v9.toNat) 16, jA (nth [] v7 v9.toNat) 17, jA (nth [] v7 v9.toNat) 18, jA (nth [] v7 v9.toNat) 19, jA (nth [] v7 v9.toNat) 20, B (bA (nth [] v7 v9.toNat) 21)]).bind fun o226 =>
 bif bA o226 0 then
 (M_cncref25_points [.view kItm v2, I v9, I v5]).bind fun o227 =>
 (N19 [.view kSgm v0, .view kPt v1, .view kItm v2, I v3, I v4, B v6, I v9, .view kItm v7, I v8, I v9, .view kPt (wA o227 0), I (↑(wA o227 0).length : Int), I 0, I v10, I v11, I v12, .view kSgm v13, .view kPt v14, I v15, I v16, I v17, I v18, I v19, I v20, I 0, I 0, I 0, I 0, I v9, jA o225 0, I (mn (IntKind.i64.wrap (gA (nth [] v7 v9.toNat) 14 * 16)) 16777216)]).bind fun o228 =>
 bif o228.1.beq 1 then
 some (1, [jA o228.2 0, jA o228.2 1, jA o228.2 2, jA o228.2 3])
 else
 bif o228.1.beq 2 then
 (M_cncref25_Soft [.view kItm (wA o228.2 2), jA o228.2 6]).bind fun o229 =>
 bif decide (gA o229 0 >= 0) then
 (M_cncref25_kind [.view kItm (wA o228.2 2), jA o228.2 6]).bind fun o230 =>
 bif ((wA o228.2 1 ++ [[jA o228.2 3, jA o230 0, jA o228.2 6]]).length * 24).ble 140737488355328 then
 some (0, [.view kSgm (wA o228.2 0), .view kPt (wA o228.2 1 ++ [[jA o228.2 3, jA o230 0, jA o228.2 6]]), .view kItm (wA o228.2 2), jA o228.2 3, jA o228.2 4, jA o228.2 6, B (bA o228.2 5), .view kItm (wA o228.2 7), jA o228.2 8, I (IntKind.i64.wrap (gA o228.2 9 + 1)), jA o228.2 10, jA o228.2 11, jA o228.2 12, .view kSgm (wA o228.2 13), .view kPt (wA o228.2 14), jA o228.2 15, jA o228.2 16, jA o228.2 17, jA o228.2 18, jA o228.2 19, jA o228.2 20])
 else
 none
 else
 (M_cncref25_kind [.view kItm (wA o228.2 2), jA o228.2 6]).bind fun o231 =>
 bif ((wA o228.2 1 ++ [[jA o228.2 3, jA o231 0, jA o228.2 6]]).length * 24).ble 140737488355328 then
 some (0, [.view kSgm (wA o228.2 0), .view kPt (wA o228.2 1 ++ [[jA o228.2 3, jA o231 0, jA o228.2 6]]), .view kItm (wA o228.2 2), jA o228.2 3, jA o228.2 4, I (-1), B (bA o228.2 5), .view kItm (wA o228.2 7), jA o228.2 8, I (IntKind.i64.wrap (gA o228.2 9 + 1)), jA o228.2 10, jA o228.2 11, jA o228.2 12, .view kSgm (wA o228.2 13), .view kPt (wA o228.2 14), jA o228.2 15, jA o228.2 16, jA o228.2 17, jA o228.2 18, jA o228.2 19, jA o228.2 20])
 else
 none
 else
 none
 else
 (M_cncref25_points [.view kItm v2, I v9, I v5]).bind fun o232 =>
 (N19 [.view kSgm v0, .view kPt v1, .view kItm v2, I v3, I v4, B v6, I v9, .view kItm v7, I v8, I v9, .view kPt (wA o232 0), I (↑(wA o232 0).length : Int), I 0, I v10, I v11, I v12, .view kSgm v13, .view kPt v14, I v15, I v16, I v17, I v18, I v19, I v20, I 0, I 0, I 0, I 0, I v9, jA o225 0, I 0]).bind fun o233 =>
 bif o233.1.beq 1 then
 some (1, [jA o233.2 0, jA o233.2 1, jA o233.2 2, jA o233.2 3])
 else
 bif o233.1.beq 2 then
 (M_cncref25_Soft [.view kItm (wA o233.2 2), jA o233.2 6]).bind fun o234 =>
 bif decide (gA o234 0 >= 0) then
 (M_cncref25_kind [.view kItm (wA o233.2 2), jA o233.2 6]).bind fun o235 =>
 bif ((wA o233.2 1 ++ [[jA o233.2 3, jA o235 0, jA o233.2 6]]).length * 24).ble 140737488355328 then
 some (0, [.view kSgm (wA o233.2 0), .view kPt (wA o233.2 1 ++ [[jA o233.2 3, jA o235 0, jA o233.2 6]]), .view kItm (wA o233.2 2), jA o233.2 3, jA o233.2 4, jA o233.2 6, B (bA o233.2 5), .view kItm (wA o233.2 7), jA o233.2 8, I (IntKind.i64.wrap (gA o233.2 9 + 1)), jA o233.2 10, jA o233.2 11, jA o233.2 12, .view kSgm (wA o233.2 13), .view kPt (wA o233.2 14), jA o233.2 15, jA o233.2 16, jA o233.2 17, jA o233.2 18, jA o233.2 19, jA o233.2 20])
 else
 none
 else
 (M_cncref25_kind [.view kItm (wA o233.2 2), jA o233.2 6]).bind fun o236 =>
 bif ((wA o233.2 1 ++ [[jA o233.2 3, jA o236 0, jA o233.2 6]]).length * 24).ble 140737488355328 then
 some (0, [.view kSgm (wA o233.2 0), .view kPt (wA o233.2 1 ++ [[jA o233.2 3, jA o236 0, jA o233.2 6]]), .view kItm (wA o233.2 2), jA o233.2 3, jA o233.2 4, I (-1), B (bA o233.2 5), .view kItm (wA o233.2 7), jA o233.2 8, I (IntKind.i64.wrap (gA o233.2 9 + 1)), jA o233.2 10, jA o233.2 11, jA o233.2 12, .view kSgm (wA o233.2 13), .view kPt (wA o233.2 14), jA o233.2 15, jA o233.2 16, jA o233.2 17, jA o233.2 18, jA o233.2 19, jA o233.2 20])
 else
 none
 else
 none
 else
 none
 else
 some (2, [.view kSgm v0, .view kPt v1, I v10, I v11, I v12, .view kSgm v13, .view kPt v14, I v15, I v16, I v17]) := by kernel_rfl
theorem mf_cncref25_Build_eq (M_cncref25_kind M_cncref25_Soft M_cncref23_Length M_cncref25_points M_cncref25_synchronized M_cncref25_Rate M_cncref23_Fine M_cncref25_other M_cncref23_Motion M_cncref25_Check : Fn) (N19 N7 : Lp) (x0 : Rw) : mf_cncref25_Build M_cncref25_kind M_cncref25_Soft M_cncref23_Length M_cncref25_points M_cncref25_synchronized M_cncref25_Rate M_cncref23_Fine M_cncref25_other M_cncref23_Motion M_cncref25_Check N19 N7 [.view kItm x0] =
 (M_cncref25_Check [.view kItm x0]).bind fun o237 =>
 bif gA o237 0 != 0 then
 some [I 0, I 0, I 0, .view kSgm [], .view kPt [], jA o237 0]
 else
 (N7 [.view kSgm [], .view kPt [], .view kItm x0, I 0, I 0, I (-1), B false, .view kItm x0, I (x0.length : Int), I 0, I 0, I 0, I 0, .view kSgm [], .view kPt [], I 0, I 0, I 0, I 0, I 0, I 0]).bind fun o238 =>
 bif o238.1.beq 1 then
 some [jA o238.2 1, jA o238.2 2, jA o238.2 3, .view kSgm [], .view kPt [], jA o238.2 0]
 else
 bif o238.1.beq 2 then
 some [jA o238.2 7, jA o238.2 8, jA o238.2 9, .view kSgm (wA o238.2 0), .view kPt (wA o238.2 1), I 0]
 else
 none := by kernel_rfl
def l_cncref25_Build_19 := loopC (st_cncref25_Build_19 m_cncref25_kind m_cncref25_Soft m_cncref23_Length m_cncref25_points m_cncref25_synchronized m_cncref25_Rate m_cncref23_Fine m_cncref25_other m_cncref23_Motion m_cncref25_Check )
def l_cncref25_Build_7 := loopC (st_cncref25_Build_7 m_cncref25_kind m_cncref25_Soft m_cncref23_Length m_cncref25_points m_cncref25_synchronized m_cncref25_Rate m_cncref23_Fine m_cncref25_other m_cncref23_Motion m_cncref25_Check l_cncref25_Build_19)
def m_cncref25_Build := mf_cncref25_Build m_cncref25_kind m_cncref25_Soft m_cncref23_Length m_cncref25_points m_cncref25_synchronized m_cncref25_Rate m_cncref23_Fine m_cncref25_other m_cncref23_Motion m_cncref25_Check l_cncref25_Build_19 l_cncref25_Build_7
theorem sp_cncref25_Build : SpecOK Tryz.prog (C_cncref25_Build_0 m_cncref25_kind m_cncref25_Soft m_cncref23_Length m_cncref25_points m_cncref25_synchronized m_cncref25_Rate m_cncref23_Fine m_cncref25_other m_cncref23_Motion m_cncref25_Check) := specOK_of rfl ⟨r_cncref25_kind, r_cncref25_Soft, r_cncref23_Length, r_cncref25_points, r_cncref25_synchronized, r_cncref25_Rate, r_cncref23_Fine, r_cncref25_other, r_cncref23_Motion, r_cncref25_Check, trivial⟩
theorem r_cncref25_Build : RowOK Tryz.prog (43, spOf sig_cncref25_Build osig_cncref25_Build m_cncref25_Build) := row_of (C := (C_cncref25_Build_2 m_cncref25_kind m_cncref25_Soft m_cncref23_Length m_cncref25_points m_cncref25_synchronized m_cncref25_Rate m_cncref23_Fine m_cncref25_other m_cncref23_Motion m_cncref25_Check l_cncref25_Build_19 l_cncref25_Build_7)) (L := 64) (by kernel_rfl) (((FnOK.bare rfl rfl rfl).loop sp_cncref25_Build eqOk mixOk (by kernel_rfl) (by kernel_rfl)).loop sp_cncref25_Build eqOk mixOk (by kernel_rfl) (by kernel_rfl)) sp_cncref25_Build eqOk mixOk (by kernel_rfl) (by kernel_rfl)
def sig_cncmill_turned : Sk := { tmps := [tf [ci], tf [ci]], boxes := [], rows := [] }
def osig_cncmill_turned : Sk := { tmps := [TS.tup [(false, [ci]), (false, [ci])]], boxes := [], rows := [] }
def C_cncmill_turned_0 : Cfg := { spec := lookS [], eqOk := eqAll, ownOff := ownOff }
def mf_cncmill_turned : Fn := modelF Tryz.prog C_cncmill_turned_0 64 124 sig_cncmill_turned osig_cncmill_turned
theorem mf_cncmill_turned_eq (x0 x1 : Int) : mf_cncmill_turned [I x0, I x1] =
 bif decide (0 <= x1.tmod 4) && decide (x1.tmod 4 < (↑[[I x0], [I 0], [I (IntKind.i64.wrap (0 - x0))], [I 0]].length : Int)) then
 bif decide (0 <= x1.tmod 4) && decide (x1.tmod 4 < (↑[[I 0], [I x0], [I 0], [I (IntKind.i64.wrap (0 - x0))]].length : Int)) then
 some [I (intOf (nth .dead (nth [] [[I x0], [I 0], [I (IntKind.i64.wrap (0 - x0))], [I 0]] (x1.tmod 4).toNat) 0)), I (intOf (nth .dead (nth [] [[I 0], [I x0], [I 0], [I (IntKind.i64.wrap (0 - x0))]] (x1.tmod 4).toNat) 0))]
 else
 none
 else
 none := by kernel_rfl
def m_cncmill_turned := mf_cncmill_turned 
theorem sp_cncmill_turned : SpecOK Tryz.prog (C_cncmill_turned_0 ) := specOK_of rfl trivial
theorem r_cncmill_turned : RowOK Tryz.prog (124, spOf sig_cncmill_turned osig_cncmill_turned m_cncmill_turned) := row_of (C := C_cncmill_turned_0) (L := 64) (by kernel_rfl) (FnOK.bare rfl rfl rfl) sp_cncmill_turned eqOk mixOk (by kernel_rfl) (by kernel_rfl)
def sig_cncmill_arc : Sk := { tmps := [tf [CS.ptr 20000 0], TS.v true [ci, ci, ci], tf [ci]], boxes := [(20000, 122, [CS.sl kInts, ci])], rows := [] }
def osig_cncmill_arc : Sk := { tmps := [TS.v true [ci, ci, ci, ci, ci, ci, ci, ci, ci, ci, ci, ci, ci, CS.bool, ci, CS.bool, ci, ci, ci, ci, ci, CS.bool]], boxes := [(20000, 122, [CS.sl kInts, ci])], rows := [] }
def C_cncmill_arc_0 (M_cncref23_Space M_cncmill_turned M_cncref23_Plane M_cncmill_Source_Next : Fn) : Cfg := { spec := lookS [(125, spOf sig_cncref23_Space osig_cncref23_Space M_cncref23_Space), (124, spOf sig_cncmill_turned osig_cncmill_turned M_cncmill_turned), (123, spOf sig_cncref23_Plane osig_cncref23_Plane M_cncref23_Plane), (73, spOf sig_cncmill_Source_Next osig_cncmill_Source_Next M_cncmill_Source_Next)], eqOk := eqAll, pure := fun f => !(elemN [73] f), ownOff := ownOff }
def mf_cncmill_arc (M_cncref23_Space M_cncmill_turned M_cncref23_Plane M_cncmill_Source_Next : Fn) : Fn := modelF Tryz.prog (C_cncmill_arc_0 M_cncref23_Space M_cncmill_turned M_cncref23_Plane M_cncmill_Source_Next) 64 106 sig_cncmill_arc osig_cncmill_arc
theorem mf_cncmill_arc_eq (M_cncref23_Space M_cncmill_turned M_cncref23_Plane M_cncmill_Source_Next : Fn) (x0 x1 x2 x3 : Int) (x4 : Rw) (x5 : Int) : mf_cncmill_arc M_cncref23_Space M_cncmill_turned M_cncref23_Plane M_cncmill_Source_Next [I x0, I x1, I x2, I x3, .view kInts x4, I x5] =
 (M_cncmill_Source_Next [I 3, .view kInts x4, I x5]).bind fun o18 =>
 bif decide (0 <= gA o18 0) && decide (gA o18 0 < (↑[[I 17], [I 18], [I 19]].length : Int)) then
 (M_cncmill_Source_Next [I 2, .view kInts (wA o18 1), jA o18 2]).bind fun o19 =>
 (M_cncmill_Source_Next [I x3, .view kInts (wA o19 1), jA o19 2]).bind fun o20 =>
 (M_cncmill_Source_Next [I 4, .view kInts (wA o20 1), jA o20 2]).bind fun o21 =>
 (M_cncmill_Source_Next [I 4, .view kInts (wA o21 1), jA o21 2]).bind fun o22 =>
 (M_cncref23_Plane [I x0, I x1, I x2, I (intOf (nth .dead (nth [] [[I 17], [I 18], [I 19]] (gA o18 0).toNat) 0))]).bind fun o23 =>
 (M_cncmill_turned [I (IntKind.i64.wrap (8 + gA o20 0)), jA o21 0]).bind fun o24 =>
 (M_cncmill_turned [I (IntKind.i64.wrap (8 + gA o20 0)), I (IntKind.i64.wrap (gA o21 0 + gA o22 0))]).bind fun o25 =>
 (M_cncref23_Space [I (IntKind.i64.wrap (gA o23 0 - gA o24 0)), I (IntKind.i64.wrap (gA o23 1 - gA o24 1)), jA o23 2, I (intOf (nth .dead (nth [] [[I 17], [I 18], [I 19]] (gA o18 0).toNat) 0))]).bind fun o26 =>
 bif decide (gA o22 0 > 0) then
 (M_cncmill_Source_Next [I 3, .view kInts (wA o22 1), jA o22 2]).bind fun o27 =>
 bif gA o27 0 == 0 then
 bif decide (IntKind.i64.wrap (8 + gA o20 0) = 0) then
 none
 else
 (M_cncmill_Source_Next [I 5, .view kInts (wA o27 1), jA o27 2]).bind fun o28 =>
 bif decide (IntKind.i64.wrap (8 + gA o20 0) = 0) then
 none
 else
 (M_cncmill_Source_Next [I 5, .view kInts (wA o28 1), jA o28 2]).bind fun o29 =>
 (M_cncmill_Source_Next [I 4, .view kInts (wA o29 1), jA o29 2]).bind fun o30 =>
 bif decide (0 <= gA o30 0) && decide (gA o30 0 < (↑[[I 0], [I 0], [I 7], [I (-12)]].length : Int)) then
 (M_cncref23_Space [I (IntKind.i64.wrap (IntKind.i64.wrap (gA o23 0 - gA o24 0) + IntKind.i64.wrap (gA o25 0 + IntKind.i64.wrap (IntKind.i64.wrap ((gA o25 0).tdiv (IntKind.i64.wrap (8 + gA o20 0))) * gA o28 0)))), I (IntKind.i64.wrap (IntKind.i64.wrap (gA o23 1 - gA o24 1) + IntKind.i64.wrap (gA o25 1 + IntKind.i64.wrap (IntKind.i64.wrap ((gA o25 1).tdiv (IntKind.i64.wrap (8 + gA o20 0))) * gA o29 0)))), I (IntKind.i64.wrap (gA o23 2 + intOf (nth .dead (nth [] [[I 0], [I 0], [I 7], [I (-12)]] (gA o30 0).toNat) 0))), I (intOf (nth .dead (nth [] [[I 17], [I 18], [I 19]] (gA o18 0).toNat) 0))]).bind fun o31 =>
 some [I 3, I 0, I x0, I x1, I x2, jA o31 0, jA o31 1, jA o31 2, I (intOf (nth .dead (nth [] [[I 17], [I 18], [I 19]] (gA o18 0).toNat) 0)), jA o26 0, jA o26 1, jA o26 2, I (IntKind.i64.wrap (1 - IntKind.i64.wrap (gA o19 0 * 2))), B (gA o22 0 == 0), I 0, B false, I 0, I 0, I 0, I 0, I 0, B false, .view kInts (wA o30 1), jA o30 2]
 else
 none
 else
 (M_cncmill_Source_Next [I 4, .view kInts (wA o27 1), jA o27 2]).bind fun o32 =>
 bif decide (0 <= gA o32 0) && decide (gA o32 0 < (↑[[I 0], [I 0], [I 7], [I (-12)]].length : Int)) then
 (M_cncref23_Space [I (IntKind.i64.wrap (IntKind.i64.wrap (gA o23 0 - gA o24 0) + gA o25 0)), I (IntKind.i64.wrap (IntKind.i64.wrap (gA o23 1 - gA o24 1) + gA o25 1)), I (IntKind.i64.wrap (gA o23 2 + intOf (nth .dead (nth [] [[I 0], [I 0], [I 7], [I (-12)]] (gA o32 0).toNat) 0))), I (intOf (nth .dead (nth [] [[I 17], [I 18], [I 19]] (gA o18 0).toNat) 0))]).bind fun o33 =>
 some [I 3, I 0, I x0, I x1, I x2, jA o33 0, jA o33 1, jA o33 2, I (intOf (nth .dead (nth [] [[I 17], [I 18], [I 19]] (gA o18 0).toNat) 0)), jA o26 0, jA o26 1, jA o26 2, I (IntKind.i64.wrap (1 - IntKind.i64.wrap (gA o19 0 * 2))), B (gA o22 0 == 0), I 0, B false, I 0, I 0, I 0, I 0, I 0, B false, .view kInts (wA o32 1), jA o32 2]
 else
 none
 else
 (M_cncmill_Source_Next [I 4, .view kInts (wA o22 1), jA o22 2]).bind fun o34 =>
 bif decide (0 <= gA o34 0) && decide (gA o34 0 < (↑[[I 0], [I 0], [I 7], [I (-12)]].length : Int)) then
 (M_cncref23_Space [I (IntKind.i64.wrap (IntKind.i64.wrap (gA o23 0 - gA o24 0) + gA o25 0)), I (IntKind.i64.wrap (IntKind.i64.wrap (gA o23 1 - gA o24 1) + gA o25 1)), I (IntKind.i64.wrap (gA o23 2 + intOf (nth .dead (nth [] [[I 0], [I 0], [I 7], [I (-12)]] (gA o34 0).toNat) 0))), I (intOf (nth .dead (nth [] [[I 17], [I 18], [I 19]] (gA o18 0).toNat) 0))]).bind fun o35 =>
 some [I 3, I 0, I x0, I x1, I x2, jA o35 0, jA o35 1, jA o35 2, I (intOf (nth .dead (nth [] [[I 17], [I 18], [I 19]] (gA o18 0).toNat) 0)), jA o26 0, jA o26 1, jA o26 2, I (IntKind.i64.wrap (1 - IntKind.i64.wrap (gA o19 0 * 2))), B (gA o22 0 == 0), I 0, B false, I 0, I 0, I 0, I 0, I 0, B false, .view kInts (wA o34 1), jA o34 2]
 else
 none
 else
 none := by kernel_rfl
def m_cncmill_arc := mf_cncmill_arc m_cncref23_Space m_cncmill_turned m_cncref23_Plane m_cncmill_Source_Next 
theorem sp_cncmill_arc : SpecOK Tryz.prog (C_cncmill_arc_0 m_cncref23_Space m_cncmill_turned m_cncref23_Plane m_cncmill_Source_Next) := specOK_of rfl ⟨r_cncref23_Space, r_cncmill_turned, r_cncref23_Plane, r_cncmill_Source_Next, trivial⟩
theorem r_cncmill_arc : RowOK Tryz.prog (106, spOf sig_cncmill_arc osig_cncmill_arc m_cncmill_arc) := row_of (C := (C_cncmill_arc_0 m_cncref23_Space m_cncmill_turned m_cncref23_Plane m_cncmill_Source_Next)) (L := 64) (by kernel_rfl) (FnOK.bare rfl rfl rfl) sp_cncmill_arc eqOk mixOk (by kernel_rfl) (by kernel_rfl)
end Go.Bm
