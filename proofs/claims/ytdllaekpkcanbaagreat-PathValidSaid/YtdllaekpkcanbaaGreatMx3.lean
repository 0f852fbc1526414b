/- functions of the program and of the references, as models -/
import Derived.Test.YtdllaekpkcanbaaGreatMx2
set_option linter.unusedSimpArgs false
set_option linter.unusedVariables false
set_option maxRecDepth 100000
noncomputable section
namespace Go.Bm
open Go.Proofs
def sig_cncref25_Build : Sk := { tmps := [tf [CS.sl kItm]], boxes := [], rows := [] }
def osig_cncref25_Build : Sk := { tmps := [TS.tup [(true, [ci, ci, ci, CS.sl kSgm, CS.sl kPt]), (false, [ci])]], boxes := [], rows := [] }
def C_cncref25_Build_0 (M_cncref25_kind M_cncref25_Soft M_cncref23_Length M_cncref25_points M_cncref25_synchronized M_cncref25_Rate M_cncref23_Fine M_cncref25_other M_cncref23_Motion M_cncref25_Check : Fn) : Cfg := { spec := lookS [(87, spOf sig_cncref25_kind osig_cncref25_kind M_cncref25_kind), (86, spOf sig_cncref25_Soft osig_cncref25_Soft M_cncref25_Soft), (85, spOf sig_cncref23_Length osig_cncref23_Length M_cncref23_Length), (84, spOf sig_cncref25_points osig_cncref25_points M_cncref25_points), (83, spOf sig_cncref25_synchronized osig_cncref25_synchronized M_cncref25_synchronized), (82, spOf sig_cncref25_Rate osig_cncref25_Rate M_cncref25_Rate), (81, spOf sig_cncref23_Fine osig_cncref23_Fine M_cncref23_Fine), (80, spOf sig_cncref25_other osig_cncref25_other M_cncref25_other), (79, spOf sig_cncref23_Motion osig_cncref23_Motion M_cncref23_Motion), (78, spOf sig_cncref25_Check osig_cncref25_Check M_cncref25_Check)], eqOk := eqAll, ownOff := ownOffX, ownBut := [2] }
def sk_cncref25_Build_19 : Sk := { tmps := [tf [CS.sl kItm], td, tf [CS.ptr 2 0], td, td, tf [CS.ptr 5 0], tf [CS.ptr 6 0], tf [ci], tf [ci], td, tf [CS.bool], tf [ci], td, tf [CS.ptr 13 0], td, td, td, td, td, td, td, td, td, tf [CS.sl kItm], tf [ci], tf [ci], td, td, td, td, td, td, td, td, td, td, td, td, td, td, td, td, td, td, td, td, td, td, td, td, td, td, td, td, td, td, td, td, td, td, td, td, td, td, td, td, td, td, td, td, td, td, td, td, td, td, td, td, td, td, td, td, td, tf [CS.sl kPt], tf [ci], tf [ci]] ++ dd 47, boxes := [(2, 29, [ci, ci, ci, CS.sl kSgm, CS.sl kPt]), (5, 29, [ci, ci, ci, CS.own 1005003 7, CS.own 1005004 3]), (6, 25, [ci, ci, ci]), (13, 78, [ci, ci, ci, ci, ci, ci, ci])], rows := [(1005003, 78, kSgm), (1005004, 80, kPt)] }
def ex_cncref25_Build_19 : List (Ex × Sk) := [(Ex.ret, { tmps := [td, td, tf [CS.ptr 2 0], tf [ci]] ++ dd 129, boxes := [(2, 29, [ci, ci, ci, CS.nil, CS.nil])], rows := [] }), (Ex.exit 2, { tmps := [tf [CS.sl kItm], td, tf [CS.ptr 2 0], td, td, tf [CS.ptr 5 0], tf [CS.ptr 6 0], tf [ci], tf [ci], td, tf [CS.bool], tf [ci], td, td, td, td, td, td, td, td, td, td, td, tf [CS.sl kItm], tf [ci], tf [ci]] ++ dd 107, boxes := [(2, 29, [ci, ci, ci, CS.sl kSgm, CS.sl kPt]), (5, 29, [ci, ci, ci, CS.own 1005003 7, CS.own 1005004 3]), (6, 25, [ci, ci, ci])], rows := [(1005003, 78, kSgm), (1005004, 80, kPt)] })]
def st_cncref25_Build_19 (M_cncref25_kind M_cncref25_Soft M_cncref23_Length M_cncref25_points M_cncref25_synchronized M_cncref25_Rate M_cncref23_Fine M_cncref25_other M_cncref23_Motion M_cncref25_Check : Fn) : Lp := stepL Tryz.prog (C_cncref25_Build_0 M_cncref25_kind M_cncref25_Soft M_cncref23_Length M_cncref25_points M_cncref25_synchronized M_cncref25_Rate M_cncref23_Fine M_cncref25_other M_cncref23_Motion M_cncref25_Check) 64 19 (bodyOf Tryz.prog 43 19) sk_cncref25_Build_19 ex_cncref25_Build_19
def C_cncref25_Build_1 (M_cncref25_kind M_cncref25_Soft M_cncref23_Length M_cncref25_points M_cncref25_synchronized M_cncref25_Rate M_cncref23_Fine M_cncref25_other M_cncref23_Motion M_cncref25_Check : Fn) (N19 : Lp) : Cfg := (C_cncref25_Build_0 M_cncref25_kind M_cncref25_Soft M_cncref23_Length M_cncref25_points M_cncref25_synchronized M_cncref25_Rate M_cncref23_Fine M_cncref25_other M_cncref23_Motion M_cncref25_Check).loop 19 sk_cncref25_Build_19 ex_cncref25_Build_19 N19
def sk_cncref25_Build_7 : Sk := { tmps := [tf [CS.sl kItm], td, tf [CS.ptr 2 0], td, td, tf [CS.ptr 5 0], tf [CS.ptr 6 0], tf [ci], tf [ci], tf [ci], tf [CS.bool], td, td, td, td, td, td, td, td, td, td, td, td, tf [CS.sl kItm], tf [ci], tf [ci]] ++ dd 107, boxes := [(2, 29, [ci, ci, ci, CS.sl kSgm, CS.sl kPt]), (5, 29, [ci, ci, ci, CS.own 1005003 7, CS.own 1005004 3]), (6, 25, [ci, ci, ci])], rows := [(1005003, 78, kSgm), (1005004, 80, kPt)] }
def ex_cncref25_Build_7 : List (Ex × Sk) := [(Ex.ret, { tmps := [td, td, tf [CS.ptr 2 0], tf [ci]] ++ dd 129, boxes := [(2, 29, [ci, ci, ci, CS.nil, CS.nil])], rows := [] }), (Ex.exit 0, { tmps := [td, td, tf [CS.ptr 2 0], td, td, tf [CS.ptr 5 0]] ++ dd 127, boxes := [(2, 29, [ci, ci, ci, CS.sl kSgm, CS.sl kPt]), (5, 29, [ci, ci, ci, CS.own 1005003 7, CS.own 1005004 3])], rows := [(1005003, 78, kSgm), (1005004, 80, kPt)] })]
def st_cncref25_Build_7 (M_cncref25_kind M_cncref25_Soft M_cncref23_Length M_cncref25_points M_cncref25_synchronized M_cncref25_Rate M_cncref23_Fine M_cncref25_other M_cncref23_Motion M_cncref25_Check : Fn) (N19 : Lp) : Lp := stepL Tryz.prog (C_cncref25_Build_1 M_cncref25_kind M_cncref25_Soft M_cncref23_Length M_cncref25_points M_cncref25_synchronized M_cncref25_Rate M_cncref23_Fine M_cncref25_other M_cncref23_Motion M_cncref25_Check N19) 64 7 (bodyOf Tryz.prog 43 7) sk_cncref25_Build_7 ex_cncref25_Build_7
def C_cncref25_Build_2 (M_cncref25_kind M_cncref25_Soft M_cncref23_Length M_cncref25_points M_cncref25_synchronized M_cncref25_Rate M_cncref23_Fine M_cncref25_other M_cncref23_Motion M_cncref25_Check : Fn) (N19 N7 : Lp) : Cfg := (C_cncref25_Build_1 M_cncref25_kind M_cncref25_Soft M_cncref23_Length M_cncref25_points M_cncref25_synchronized M_cncref25_Rate M_cncref23_Fine M_cncref25_other M_cncref23_Motion M_cncref25_Check N19).loop 7 sk_cncref25_Build_7 ex_cncref25_Build_7 N7
def mf_cncref25_Build (M_cncref25_kind M_cncref25_Soft M_cncref23_Length M_cncref25_points M_cncref25_synchronized M_cncref25_Rate M_cncref23_Fine M_cncref25_other M_cncref23_Motion M_cncref25_Check : Fn) (N19 N7 : Lp) : Fn := modelF Tryz.prog (C_cncref25_Build_2 M_cncref25_kind M_cncref25_Soft M_cncref23_Length M_cncref25_points M_cncref25_synchronized M_cncref25_Rate M_cncref23_Fine M_cncref25_other M_cncref23_Motion M_cncref25_Check N19 N7) 64 43 sig_cncref25_Build osig_cncref25_Build
theorem st_cncref25_Build_19_eq (M_cncref25_kind M_cncref25_Soft M_cncref23_Length M_cncref25_points M_cncref25_synchronized M_cncref25_Rate M_cncref23_Fine M_cncref25_other M_cncref23_Motion M_cncref25_Check : Fn) (v0 v1 v2 : Rw) (v3 v4 : Int) (v5 : Bool) (v6 : Int) (v7 : Rw) (v8 v9 : Int) (v10 : Rw) (v11 v12 v13 v14 v15 : Int) (v16 v17 : Rw) (v18 v19 v20 v21 v22 v23 v24 v25 v26 v27 v28 v29 v30 : Int) : st_cncref25_Build_19 M_cncref25_kind M_cncref25_Soft M_cncref23_Length M_cncref25_points M_cncref25_synchronized M_cncref25_Rate M_cncref23_Fine M_cncref25_other M_cncref23_Motion M_cncref25_Check [.view kSgm v0, .view kPt v1, .view kItm v2, I v3, I v4, B v5, I v6, .view kItm v7, I v8, I v9, .view kPt v10, I v11, I v12, I v13, I v14, I v15, .view kSgm v16, .view kPt v17, I v18, I v19, I v20, I v21, I v22, I v23, I v24, I v25, I v26, I v27, I v28, I v29, I v30] =
 bif decide (v12 < v11) then
 bif decide (0 <= v12) && decide (v12 < (v10.length : Int)) then
 bif gA (nth [] v10 v12.toNat) 0 == v21 && (gA (nth [] v10 v12.toNat) 1 == v22 && (gA (nth [] v10 v12.toNat) 2 == v23 && true)) then
 some (0, [.view kSgm v0, .view kPt v1, .view kItm v2, I v3, I v4, B v5, I v6, .view kItm v7, I v8, I v9, .view kPt v10, I v11, I (IntKind.i64.wrap (v12 + 1)), I v13, I v14, I v15, .view kSgm v16, .view kPt v17, I v18, I v19, I v20, I v21, I v22, I v23, I v24, I v25, I v26, I v27, I v28, I v29, I v30])
 else
 (M_cncref23_Length [I v21, I v22, I v23, jA (nth [] v10 v12.toNat) 0, jA (nth [] v10 v12.toNat) 1, jA (nth [] v10 v12.toNat) 2]).bind fun o124 =>
 bif ((v0 ++ [[jA (nth [] v10 v12.toNat) 0, jA (nth [] v10 v12.toNat) 1, jA (nth [] v10 v12.toNat) 2, jA o124 0, I v28, I v29, I v30]]).length * 56).ble 140737488355328 then
 bif decide ((↑(v0 ++ [[jA (nth [] v10 v12.toNat) 0, jA (nth [] v10 v12.toNat) 1, jA (nth [] v10 v12.toNat) 2, jA o124 0, I v28, I v29, I v30]]).length : Int) > 1048576) then
 some (1, [I 10, I 0, I 0, I 0])
 else
 some (0, [.view kSgm (v0 ++ [[jA (nth [] v10 v12.toNat) 0, jA (nth [] v10 v12.toNat) 1, jA (nth [] v10 v12.toNat) 2, jA o124 0, I v28, I v29, I v30]]), .view kPt v1, .view kItm v2, I (IntKind.i64.wrap (v3 + gA o124 0)), I v4, B v5, I v6, .view kItm v7, I v8, I v9, .view kPt v10, I v11, I (IntKind.i64.wrap (v12 + 1)), I v13, I v14, I v15, .view kSgm v16, .view kPt v17, I v18, I v19, I v20, jA (nth [] v10 v12.toNat) 0, jA (nth [] v10 v12.toNat) 1, jA (nth [] v10 v12.toNat) 2, jA (nth [] v10 v12.toNat) 0, jA (nth [] v10 v12.toNat) 1, jA (nth [] v10 v12.toNat) 2, jA o124 0, I v28, I v29, I v30])
 else
 none
 else
 none
 else
 some (2, [.view kSgm v0, .view kPt v1, .view kItm v2, I v3, I v4, B v5, I v6, .view kItm v7, I v8, I v9, I v13, I v14, I v15, .view kSgm v16, .view kPt v17, I v18, I v19, I v20, I v21, I v22, I v23]) := by kernel_rfl
abbrev g_s_cncref25_Build_7_4 (M_cncref25_kind : Fn) (o132 : Nat × List AC) (h4_0 : AC) : Option (Nat × List AC) :=
 (M_cncref25_kind [.view kItm (wA o132.2 2), jA o132.2 6]).bind fun o134 =>
 bif ((wA o132.2 1 ++ [[jA o132.2 3, jA o134 0, jA o132.2 6]]).length * 24).ble 140737488355328 then
 some (0, [.view kSgm (wA o132.2 0), .view kPt (wA o132.2 1 ++ [[jA o132.2 3, jA o134 0, jA o132.2 6]]), .view kItm (wA o132.2 2), jA o132.2 3, jA o132.2 4, h4_0, B (bA o132.2 5), .view kItm (wA o132.2 7), jA o132.2 8, I (IntKind.i64.wrap (gA o132.2 9 + 1)), jA o132.2 10, jA o132.2 11, jA o132.2 12, .view kSgm (wA o132.2 13), .view kPt (wA o132.2 14), jA o132.2 15, jA o132.2 16, jA o132.2 17, jA o132.2 18, jA o132.2 19, jA o132.2 20])
 else
 none
attribute [go_sem] g_s_cncref25_Build_7_4
abbrev g_s_cncref25_Build_7_3 (M_cncref25_points : Fn) (v2 : Rw) (v9 v5 : Int) (N19 : Lp) (v0 v1 : Rw) (v3 : Int) (h1_0 h1_1 : AC) (v7 : Rw) (v8 v10 v11 v12 : Int) (v13 v14 : Rw) (h1_2 h1_3 h1_4 h1_5 h1_6 h1_7 : AC) (o129 : List AC) (M_cncref25_Soft M_cncref25_kind : Fn) (h3_0 : AC) : Option (Nat × List AC) :=
 (M_cncref25_points [.view kItm v2, I v9, I v5]).bind fun o131 =>
 (N19 [.view kSgm v0, .view kPt v1, .view kItm v2, I v3, h1_0, h1_1, I v9, .view kItm v7, I v8, I v9, .view kPt (wA o131 0), I (↑(wA o131 0).length : Int), I 0, I v10, I v11, I v12, .view kSgm v13, .view kPt v14, h1_2, h1_3, h1_4, h1_5, h1_6, h1_7, I 0, I 0, I 0, I 0, I v9, jA o129 0, h3_0]).bind fun o132 =>
 bif o132.1.beq 1 then
 some (1, [jA o132.2 0, jA o132.2 1, jA o132.2 2, jA o132.2 3])
 else
 bif o132.1.beq 2 then
 (M_cncref25_Soft [.view kItm (wA o132.2 2), jA o132.2 6]).bind fun o133 =>
 bif decide (gA o133 0 >= 0) then
 g_s_cncref25_Build_7_4 M_cncref25_kind o132 (jA o132.2 6)
 else
 g_s_cncref25_Build_7_4 M_cncref25_kind o132 (I (-1))
 else
 none
attribute [go_sem] g_s_cncref25_Build_7_3
abbrev g_s_cncref25_Build_7_1 (M_cncref25_Rate : Fn) (v7 : Rw) (v9 : Int) (M_cncref25_synchronized M_cncref25_points : Fn) (v2 : Rw) (v5 : Int) (N19 : Lp) (v0 v1 : Rw) (v3 v8 v10 v11 v12 : Int) (v13 v14 : Rw) (M_cncref25_Soft M_cncref25_kind : Fn) (h1_0 h1_1 h1_2 h1_3 h1_4 h1_5 h1_6 h1_7 : AC) : Option (Nat × List AC) :=
 (M_cncref25_Rate [jA (nth [] v7 v9.toNat) 0, jA (nth [] v7 v9.toNat) 1, jA (nth [] v7 v9.toNat) 2, jA (nth [] v7 v9.toNat) 3, jA (nth [] v7 v9.toNat) 4, jA (nth [] v7 v9.toNat) 5, jA (nth [] v7 v9.toNat) 6, jA (nth [] v7 v9.toNat) 7, jA (nth [] v7 v9.toNat) 8, jA (nth [] v7 v9.toNat) 9, jA (nth [] v7 v9.toNat) 10, jA (nth [] v7 v9.toNat) 11, jA (nth [] v7 v9.toNat) 12, B (bA (nth [] v7 v9.toNat) 13), jA (nth [] v7 v9.toNat) 14, B (bA (nth [] v7 v9.toNat) 15), jA (nth [] v7 v9.toNat) 16, jA (nth [] v7 v9.toNat) 17, jA (nth [] v7 v9.toNat) 18, jA (nth [] v7 v9.toNat) 19, jA (nth [] v7 v9.toNat) 20, B (bA (nth [] v7 v9.toNat) 21), h1_0]).bind fun o129 =>
 (M_cncref25_synchronized [jA (nth [] v7 v9.toNat) 0, jA (nth [] v7 v9.toNat) 1, jA (nth [] v7 v9.toNat) 2, jA (nth [] v7 v9.toNat) 3, jA (nth [] v7 v9.toNat) 4, jA (nth [] v7 v9.toNat) 5, jA (nth [] v7 v9.toNat) 6, jA (nth [] v7 v9.toNat) 7, jA (nth [] v7 v9.toNat) 8, jA (nth [] v7 v9.toNat) 9, jA (nth [] v7 v9.toNat) 10, jA (nth [] v7 v9.toNat) 11, jA (nth [] v7 v9.toNat) 12, B (bA (nth [] v7 v9.toNat) 13), jA (nth [] v7 v9.toNat) 14, B (bA (nth [] v7 v9.toNat) 15), jA (nth [] v7 v9.toNat) 16, jA (nth [] v7 v9.toNat) 17, jA (nth [] v7 v9.toNat) 18, jA (nth [] v7 v9.toNat) 19, jA (nth [] v7 v9.toNat) 20, B (bA (nth [] v7 v9.toNat) 21)]).bind fun o130 =>
 bif bA o130 0 then
 g_s_cncref25_Build_7_3 M_cncref25_points v2 v9 v5 N19 v0 v1 v3 h1_0 h1_1 v7 v8 v10 v11 v12 v13 v14 h1_2 h1_3 h1_4 h1_5 h1_6 h1_7 o129 M_cncref25_Soft M_cncref25_kind (I (mn (IntKind.i64.wrap (gA (nth [] v7 v9.toNat) 14 * 16)) 16777216))
 else
 g_s_cncref25_Build_7_3 M_cncref25_points v2 v9 v5 N19 v0 v1 v3 h1_0 h1_1 v7 v8 v10 v11 v12 v13 v14 h1_2 h1_3 h1_4 h1_5 h1_6 h1_7 o129 M_cncref25_Soft M_cncref25_kind (I 0)
attribute [go_sem] g_s_cncref25_Build_7_1
abbrev g_s_cncref25_Build_7_2 (M_cncref23_Motion : Fn) (v7 : Rw) (v9 : Int) (M_cncref25_other : Fn) (v1 : Rw) (v3 : Int) (v0 v2 : Rw) (v5 : Int) (v6 : Bool) (v8 v10 v11 v12 : Int) (v13 v14 : Rw) (v15 v16 v17 v18 v19 v20 : Int) (M_cncref23_Fine M_cncref25_Rate M_cncref25_synchronized M_cncref25_points : Fn) (N19 : Lp) (M_cncref25_Soft M_cncref25_kind : Fn) (h2_0 h2_1 : AC) : Option (Nat × List AC) :=
 (M_cncref23_Motion [jA (nth [] v7 v9.toNat) 0]).bind fun o125 =>
 bif !bA o125 0 then
 (M_cncref25_other [jA (nth [] v7 v9.toNat) 0, jA (nth [] v7 v9.toNat) 1, jA (nth [] v7 v9.toNat) 2, jA (nth [] v7 v9.toNat) 3, jA (nth [] v7 v9.toNat) 4, jA (nth [] v7 v9.toNat) 5, jA (nth [] v7 v9.toNat) 6, jA (nth [] v7 v9.toNat) 7, jA (nth [] v7 v9.toNat) 8, jA (nth [] v7 v9.toNat) 9, jA (nth [] v7 v9.toNat) 10, jA (nth [] v7 v9.toNat) 11, jA (nth [] v7 v9.toNat) 12, B (bA (nth [] v7 v9.toNat) 13), jA (nth [] v7 v9.toNat) 14, B (bA (nth [] v7 v9.toNat) 15), jA (nth [] v7 v9.toNat) 16, jA (nth [] v7 v9.toNat) 17, jA (nth [] v7 v9.toNat) 18, jA (nth [] v7 v9.toNat) 19, jA (nth [] v7 v9.toNat) 20, B (bA (nth [] v7 v9.toNat) 21)]).bind fun o126 =>
 bif ((v1 ++ [[I v3, jA o126 0, I v9]]).length * 24).ble 140737488355328 then
 some (0, [.view kSgm v0, .view kPt (v1 ++ [[I v3, jA o126 0, I v9]]), .view kItm v2, I v3, h2_0, I v5, B v6, .view kItm v7, I v8, I (IntKind.i64.wrap (v9 + 1)), I v10, I v11, I v12, .view kSgm v13, .view kPt v14, I v15, I v16, I v17, I v18, I v19, I v20])
 else
 none
 else
 bif !v6 then
 (M_cncref23_Fine [jA (nth [] v7 v9.toNat) 2, jA (nth [] v7 v9.toNat) 3, jA (nth [] v7 v9.toNat) 4]).bind fun o127 =>
 (M_cncref23_Fine [jA (nth [] v7 v9.toNat) 2, jA (nth [] v7 v9.toNat) 3, jA (nth [] v7 v9.toNat) 4]).bind fun o128 =>
 g_s_cncref25_Build_7_1 M_cncref25_Rate v7 v9 M_cncref25_synchronized M_cncref25_points v2 v5 N19 v0 v1 v3 v8 v10 v11 v12 v13 v14 M_cncref25_Soft M_cncref25_kind h2_1 (B true) (jA o127 0) (jA o127 1) (jA o127 2) (jA o128 0) (jA o128 1) (jA o128 2)
 else
 g_s_cncref25_Build_7_1 M_cncref25_Rate v7 v9 M_cncref25_synchronized M_cncref25_points v2 v5 N19 v0 v1 v3 v8 v10 v11 v12 v13 v14 M_cncref25_Soft M_cncref25_kind h2_1 (B v6) (I v15) (I v16) (I v17) (I v18) (I v19) (I v20)
attribute [go_sem] g_s_cncref25_Build_7_2
theorem st_cncref25_Build_7_eq (M_cncref25_kind M_cncref25_Soft M_cncref23_Length M_cncref25_points M_cncref25_synchronized M_cncref25_Rate M_cncref23_Fine M_cncref25_other M_cncref23_Motion M_cncref25_Check : Fn) (N19 : Lp) (v0 v1 v2 : Rw) (v3 v4 v5 : Int) (v6 : Bool) (v7 : Rw) (v8 v9 v10 v11 v12 : Int) (v13 v14 : Rw) (v15 v16 v17 v18 v19 v20 : Int) : st_cncref25_Build_7 M_cncref25_kind M_cncref25_Soft M_cncref23_Length M_cncref25_points M_cncref25_synchronized M_cncref25_Rate M_cncref23_Fine M_cncref25_other M_cncref23_Motion M_cncref25_Check N19 [.view kSgm v0, .view kPt v1, .view kItm v2, I v3, I v4, I v5, B v6, .view kItm v7, I v8, I v9, I v10, I v11, I v12, .view kSgm v13, .view kPt v14, I v15, I v16, I v17, I v18, I v19, I v20] =
 bif decide (v9 < v8) then
 bif decide (0 <= v9) && decide (v9 < (v7.length : Int)) then
 bif gA (nth [] v7 v9.toNat) 0 == 8 then
 bif gA (nth [] v7 v9.toNat) 19 == 3 then
 g_s_cncref25_Build_7_2 M_cncref23_Motion v7 v9 M_cncref25_other v1 v3 v0 v2 v5 v6 v8 v10 v11 v12 v13 v14 v15 v16 v17 v18 v19 v20 M_cncref23_Fine M_cncref25_Rate M_cncref25_synchronized M_cncref25_points N19 M_cncref25_Soft M_cncref25_kind (jA (nth [] v7 v9.toNat) 20) (jA (nth [] v7 v9.toNat) 20)
 else
 bif gA (nth [] v7 v9.toNat) 19 == 4 then
 g_s_cncref25_Build_7_2 M_cncref23_Motion v7 v9 M_cncref25_other v1 v3 v0 v2 v5 v6 v8 v10 v11 v12 v13 v14 v15 v16 v17 v18 v19 v20 M_cncref23_Fine M_cncref25_Rate M_cncref25_synchronized M_cncref25_points N19 M_cncref25_Soft M_cncref25_kind (jA (nth [] v7 v9.toNat) 20) (jA (nth [] v7 v9.toNat) 20)
 else
 g_s_cncref25_Build_7_2 M_cncref23_Motion v7 v9 M_cncref25_other v1 v3 v0 v2 v5 v6 v8 v10 v11 v12 v13 v14 v15 v16 v17 v18 v19 v20 M_cncref23_Fine M_cncref25_Rate M_cncref25_synchronized M_cncref25_points N19 M_cncref25_Soft M_cncref25_kind (I v4) (I v4)
 else
 g_s_cncref25_Build_7_2 M_cncref23_Motion v7 v9 M_cncref25_other v1 v3 v0 v2 v5 v6 v8 v10 v11 v12 v13 v14 v15 v16 v17 v18 v19 v20 M_cncref23_Fine M_cncref25_Rate M_cncref25_synchronized M_cncref25_points N19 M_cncref25_Soft M_cncref25_kind (I v4) (I v4)
 else
 none
 else
 some (2, [.view kSgm v0, .view kPt v1, I v10, I v11, I v12, .view kSgm v13, .view kPt v14, I v15, I v16, I v17]) := by kernel_rfl
theorem mf_cncref25_Build_eq (M_cncref25_kind M_cncref25_Soft M_cncref23_Length M_cncref25_points M_cncref25_synchronized M_cncref25_Rate M_cncref23_Fine M_cncref25_other M_cncref23_Motion M_cncref25_Check : Fn) (N19 N7 : Lp) (x0 : Rw) : mf_cncref25_Build M_cncref25_kind M_cncref25_Soft M_cncref23_Length M_cncref25_points M_cncref25_synchronized M_cncref25_Rate M_cncref23_Fine M_cncref25_other M_cncref23_Motion M_cncref25_Check N19 N7 [.view kItm x0] =
 (M_cncref25_Check [.view kItm x0]).bind fun o237 =>
 bif gA o237 0 != 0 then
 some [I 0, I 0, I 0, .view kSgm [], .view kPt [], jA o237 0]
 else
 (N7 [.view kSgm [], .view kPt [], .view kItm x0, I 0, I 0, I (-1), B false, .view kItm x0, I (x0.length : Int), I 0, I 0, I 0, I 0, .view kSgm [], .view kPt [], I 0, I 0, I 0, I 0, I 0, I 0]).bind fun o238 =>
 bif o238.1.beq 1 then
 some [jA o238.2 1, jA o238.2 2, jA o238.2 3, .view kSgm [], .view kPt [], jA o238.2 0]
 else
 bif o238.1.beq 2 then
 some [jA o238.2 7, jA o238.2 8, jA o238.2 9, .view kSgm (wA o238.2 0), .view kPt (wA o238.2 1), I 0]
 else
 none := by kernel_rfl
def l_cncref25_Build_19 := loopC (st_cncref25_Build_19 m_cncref25_kind m_cncref25_Soft m_cncref23_Length m_cncref25_points m_cncref25_synchronized m_cncref25_Rate m_cncref23_Fine m_cncref25_other m_cncref23_Motion m_cncref25_Check )
def l_cncref25_Build_7 := loopC (st_cncref25_Build_7 m_cncref25_kind m_cncref25_Soft m_cncref23_Length m_cncref25_points m_cncref25_synchronized m_cncref25_Rate m_cncref23_Fine m_cncref25_other m_cncref23_Motion m_cncref25_Check l_cncref25_Build_19)
def m_cncref25_Build := mf_cncref25_Build m_cncref25_kind m_cncref25_Soft m_cncref23_Length m_cncref25_points m_cncref25_synchronized m_cncref25_Rate m_cncref23_Fine m_cncref25_other m_cncref23_Motion m_cncref25_Check l_cncref25_Build_19 l_cncref25_Build_7
theorem sp_cncref25_Build : SpecOK Tryz.prog (C_cncref25_Build_0 m_cncref25_kind m_cncref25_Soft m_cncref23_Length m_cncref25_points m_cncref25_synchronized m_cncref25_Rate m_cncref23_Fine m_cncref25_other m_cncref23_Motion m_cncref25_Check) := specOK_of rfl ⟨r_cncref25_kind, r_cncref25_Soft, r_cncref23_Length, r_cncref25_points, r_cncref25_synchronized, r_cncref25_Rate, r_cncref23_Fine, r_cncref25_other, r_cncref23_Motion, r_cncref25_Check, trivial⟩
theorem r_cncref25_Build : RowOK Tryz.prog (43, spOf sig_cncref25_Build osig_cncref25_Build m_cncref25_Build) := row_of (C := (C_cncref25_Build_2 m_cncref25_kind m_cncref25_Soft m_cncref23_Length m_cncref25_points m_cncref25_synchronized m_cncref25_Rate m_cncref23_Fine m_cncref25_other m_cncref23_Motion m_cncref25_Check l_cncref25_Build_19 l_cncref25_Build_7)) (L := 64) (by kernel_rfl) (((FnOK.bare rfl rfl rfl).loop sp_cncref25_Build eqOk mixOk (by kernel_rfl) (by kernel_rfl)).loop sp_cncref25_Build eqOk mixOk (by kernel_rfl) (by kernel_rfl)) sp_cncref25_Build eqOk mixOk (by kernel_rfl) (by kernel_rfl)
def sig_cncmill_Source_Next : Sk := { tmps := [tf [CS.ptr 20000 0], tf [ci]], boxes := [(20000, 122, [CS.sl kInts, ci])], rows := [] }
def osig_cncmill_Source_Next : Sk := { tmps := [tf [ci]], boxes := [(20000, 122, [CS.sl kInts, ci])], rows := [] }
def C_cncmill_Source_Next_0 (M_cncmill_Mod : Fn) : Cfg := { spec := lookS [(16, spOf sig_cncmill_Mod osig_cncmill_Mod M_cncmill_Mod)], eqOk := eqAll, ownOff := ownOff }
def mf_cncmill_Source_Next (M_cncmill_Mod : Fn) : Fn := modelF Tryz.prog (C_cncmill_Source_Next_0 M_cncmill_Mod) 64 73 sig_cncmill_Source_Next osig_cncmill_Source_Next
theorem mf_cncmill_Source_Next_eq (M_cncmill_Mod : Fn) (x0 : Int) (x1 : Rw) (x2 : Int) : mf_cncmill_Source_Next M_cncmill_Mod [I x0, .view kInts x1, I x2] =
 bif decide (x2 >= (x1.length : Int)) then
 some [I 0, .view kInts x1, I x2]
 else
 bif decide (0 <= x2) && decide (x2 < (x1.length : Int)) then
 (M_cncmill_Mod [jA (nth [] x1 x2.toNat) 0, I x0]).bind fun o1 =>
 some [jA o1 0, .view kInts x1, I (IntKind.i64.wrap (x2 + 1))]
 else
 none := by kernel_rfl
def m_cncmill_Source_Next := mf_cncmill_Source_Next m_cncmill_Mod 
theorem sp_cncmill_Source_Next : SpecOK Tryz.prog (C_cncmill_Source_Next_0 m_cncmill_Mod) := specOK_of rfl ⟨r_cncmill_Mod, trivial⟩
theorem r_cncmill_Source_Next : RowOK Tryz.prog (73, spOf sig_cncmill_Source_Next osig_cncmill_Source_Next m_cncmill_Source_Next) := row_of (C := (C_cncmill_Source_Next_0 m_cncmill_Mod)) (L := 64) (by kernel_rfl) (FnOK.bare rfl rfl rfl) sp_cncmill_Source_Next eqOk mixOk (by kernel_rfl) (by kernel_rfl)
def sig_cncmill_turned : Sk := { tmps := [tf [ci], tf [ci]], boxes := [], rows := [] }
def osig_cncmill_turned : Sk := { tmps := [TS.tup [(false, [ci]), (false, [ci])]], boxes := [], rows := [] }
def C_cncmill_turned_0 : Cfg := { spec := lookS [], eqOk := eqAll, ownOff := ownOff }
def mf_cncmill_turned : Fn := modelF Tryz.prog C_cncmill_turned_0 64 124 sig_cncmill_turned osig_cncmill_turned
theorem mf_cncmill_turned_eq (x0 x1 : Int) : mf_cncmill_turned [I x0, I x1] =
 bif decide (0 <= x1.tmod 4) && decide (x1.tmod 4 < (↑[[I x0], [I 0], [I (IntKind.i64.wrap (0 - x0))], [I 0]].length : Int)) then
 bif decide (0 <= x1.tmod 4) && decide (x1.tmod 4 < (↑[[I 0], [I x0], [I 0], [I (IntKind.i64.wrap (0 - x0))]].length : Int)) then
 some [I (intOf (nth .dead (nth [] [[I x0], [I 0], [I (IntKind.i64.wrap (0 - x0))], [I 0]] (x1.tmod 4).toNat) 0)), I (intOf (nth .dead (nth [] [[I 0], [I x0], [I 0], [I (IntKind.i64.wrap (0 - x0))]] (x1.tmod 4).toNat) 0))]
 else
 none
 else
 none := by kernel_rfl
def m_cncmill_turned := mf_cncmill_turned 
theorem sp_cncmill_turned : SpecOK Tryz.prog (C_cncmill_turned_0 ) := specOK_of rfl trivial
theorem r_cncmill_turned : RowOK Tryz.prog (124, spOf sig_cncmill_turned osig_cncmill_turned m_cncmill_turned) := row_of (C := C_cncmill_turned_0) (L := 64) (by kernel_rfl) (FnOK.bare rfl rfl rfl) sp_cncmill_turned eqOk mixOk (by kernel_rfl) (by kernel_rfl)
def sig_cncmill_arc : Sk := { tmps := [tf [CS.ptr 20000 0], TS.v true [ci, ci, ci], tf [ci]], boxes := [(20000, 122, [CS.sl kInts, ci])], rows := [] }
def osig_cncmill_arc : Sk := { tmps := [TS.v true [ci, ci, ci, ci, ci, ci, ci, ci, ci, ci, ci, ci, ci, CS.bool, ci, CS.bool, ci, ci, ci, ci, ci, CS.bool]], boxes := [(20000, 122, [CS.sl kInts, ci])], rows := [] }
def C_cncmill_arc_0 (M_cncref23_Space M_cncmill_turned M_cncref23_Plane M_cncmill_Source_Next : Fn) : Cfg := { spec := lookS [(125, spOf sig_cncref23_Space osig_cncref23_Space M_cncref23_Space), (124, spOf sig_cncmill_turned osig_cncmill_turned M_cncmill_turned), (123, spOf sig_cncref23_Plane osig_cncref23_Plane M_cncref23_Plane), (73, spOf sig_cncmill_Source_Next osig_cncmill_Source_Next M_cncmill_Source_Next)], eqOk := eqAll, pure := fun f => !(elemN [73] f), ownOff := ownOff }
def mf_cncmill_arc (M_cncref23_Space M_cncmill_turned M_cncref23_Plane M_cncmill_Source_Next : Fn) : Fn := modelF Tryz.prog (C_cncmill_arc_0 M_cncref23_Space M_cncmill_turned M_cncref23_Plane M_cncmill_Source_Next) 64 106 sig_cncmill_arc osig_cncmill_arc
abbrev g_cncmill_arc_1 (M_cncmill_Source_Next M_cncref23_Space : Fn) (o23 o18 : List AC) (x0 x1 x2 : Int) (o26 o19 o22 : List AC) (h1_0 h1_1 h1_2 h1_3 : AC) : Option (List AC) :=
 (M_cncmill_Source_Next [I 4, h1_0, h1_1]).bind fun o30 =>
 bif decide (0 <= gA o30 0) && decide (gA o30 0 < (↑[[I 0], [I 0], [I 7], [I (-12)]].length : Int)) then
 (M_cncref23_Space [h1_2, h1_3, I (IntKind.i64.wrap (gA o23 2 + intOf (nth .dead (nth [] [[I 0], [I 0], [I 7], [I (-12)]] (gA o30 0).toNat) 0))), I (intOf (nth .dead (nth [] [[I 17], [I 18], [I 19]] (gA o18 0).toNat) 0))]).bind fun o31 =>
 some [I 3, I 0, I x0, I x1, I x2, jA o31 0, jA o31 1, jA o31 2, I (intOf (nth .dead (nth [] [[I 17], [I 18], [I 19]] (gA o18 0).toNat) 0)), jA o26 0, jA o26 1, jA o26 2, I (IntKind.i64.wrap (1 - IntKind.i64.wrap (gA o19 0 * 2))), B (gA o22 0 == 0), I 0, B false, I 0, I 0, I 0, I 0, I 0, B false, .view kInts (wA o30 1), jA o30 2]
 else
 none
attribute [go_sem] g_cncmill_arc_1
theorem mf_cncmill_arc_eq (M_cncref23_Space M_cncmill_turned M_cncref23_Plane M_cncmill_Source_Next : Fn) (x0 x1 x2 x3 : Int) (x4 : Rw) (x5 : Int) : mf_cncmill_arc M_cncref23_Space M_cncmill_turned M_cncref23_Plane M_cncmill_Source_Next [I x0, I x1, I x2, I x3, .view kInts x4, I x5] =
 (M_cncmill_Source_Next [I 3, .view kInts x4, I x5]).bind fun o18 =>
 bif decide (0 <= gA o18 0) && decide (gA o18 0 < (↑[[I 17], [I 18], [I 19]].length : Int)) then
 (M_cncmill_Source_Next [I 2, .view kInts (wA o18 1), jA o18 2]).bind fun o19 =>
 (M_cncmill_Source_Next [I x3, .view kInts (wA o19 1), jA o19 2]).bind fun o20 =>
 (M_cncmill_Source_Next [I 4, .view kInts (wA o20 1), jA o20 2]).bind fun o21 =>
 (M_cncmill_Source_Next [I 4, .view kInts (wA o21 1), jA o21 2]).bind fun o22 =>
 (M_cncref23_Plane [I x0, I x1, I x2, I (intOf (nth .dead (nth [] [[I 17], [I 18], [I 19]] (gA o18 0).toNat) 0))]).bind fun o23 =>
 (M_cncmill_turned [I (IntKind.i64.wrap (8 + gA o20 0)), jA o21 0]).bind fun o24 =>
 (M_cncmill_turned [I (IntKind.i64.wrap (8 + gA o20 0)), I (IntKind.i64.wrap (gA o21 0 + gA o22 0))]).bind fun o25 =>
 (M_cncref23_Space [I (IntKind.i64.wrap (gA o23 0 - gA o24 0)), I (IntKind.i64.wrap (gA o23 1 - gA o24 1)), jA o23 2, I (intOf (nth .dead (nth [] [[I 17], [I 18], [I 19]] (gA o18 0).toNat) 0))]).bind fun o26 =>
 bif decide (gA o22 0 > 0) then
 (M_cncmill_Source_Next [I 3, .view kInts (wA o22 1), jA o22 2]).bind fun o27 =>
 bif gA o27 0 == 0 then
 bif decide (IntKind.i64.wrap (8 + gA o20 0) = 0) then
 none
 else
 (M_cncmill_Source_Next [I 5, .view kInts (wA o27 1), jA o27 2]).bind fun o28 =>
 bif decide (IntKind.i64.wrap (8 + gA o20 0) = 0) then
 none
 else
 (M_cncmill_Source_Next [I 5, .view kInts (wA o28 1), jA o28 2]).bind fun o29 =>
 g_cncmill_arc_1 M_cncmill_Source_Next M_cncref23_Space o23 o18 x0 x1 x2 o26 o19 o22 (.view kInts (wA o29 1)) (jA o29 2) (I (IntKind.i64.wrap (IntKind.i64.wrap (gA o23 0 - gA o24 0) + IntKind.i64.wrap (gA o25 0 + IntKind.i64.wrap (IntKind.i64.wrap ((gA o25 0).tdiv (IntKind.i64.wrap (8 + gA o20 0))) * gA o28 0))))) (I (IntKind.i64.wrap (IntKind.i64.wrap (gA o23 1 - gA o24 1) + IntKind.i64.wrap (gA o25 1 + IntKind.i64.wrap (IntKind.i64.wrap ((gA o25 1).tdiv (IntKind.i64.wrap (8 + gA o20 0))) * gA o29 0)))))
 else
 g_cncmill_arc_1 M_cncmill_Source_Next M_cncref23_Space o23 o18 x0 x1 x2 o26 o19 o22 (.view kInts (wA o27 1)) (jA o27 2) (I (IntKind.i64.wrap (IntKind.i64.wrap (gA o23 0 - gA o24 0) + gA o25 0))) (I (IntKind.i64.wrap (IntKind.i64.wrap (gA o23 1 - gA o24 1) + gA o25 1)))
 else
 g_cncmill_arc_1 M_cncmill_Source_Next M_cncref23_Space o23 o18 x0 x1 x2 o26 o19 o22 (.view kInts (wA o22 1)) (jA o22 2) (I (IntKind.i64.wrap (IntKind.i64.wrap (gA o23 0 - gA o24 0) + gA o25 0))) (I (IntKind.i64.wrap (IntKind.i64.wrap (gA o23 1 - gA o24 1) + gA o25 1)))
 else
 none := by kernel_rfl
def m_cncmill_arc := mf_cncmill_arc m_cncref23_Space m_cncmill_turned m_cncref23_Plane m_cncmill_Source_Next 
theorem sp_cncmill_arc : SpecOK Tryz.prog (C_cncmill_arc_0 m_cncref23_Space m_cncmill_turned m_cncref23_Plane m_cncmill_Source_Next) := specOK_of rfl ⟨r_cncref23_Space, r_cncmill_turned, r_cncref23_Plane, r_cncmill_Source_Next, trivial⟩
theorem r_cncmill_arc : RowOK Tryz.prog (106, spOf sig_cncmill_arc osig_cncmill_arc m_cncmill_arc) := row_of (C := (C_cncmill_arc_0 m_cncref23_Space m_cncmill_turned m_cncref23_Plane m_cncmill_Source_Next)) (L := 64) (by kernel_rfl) (FnOK.bare rfl rfl rfl) sp_cncmill_arc eqOk mixOk (by kernel_rfl) (by kernel_rfl)
end Go.Bm
