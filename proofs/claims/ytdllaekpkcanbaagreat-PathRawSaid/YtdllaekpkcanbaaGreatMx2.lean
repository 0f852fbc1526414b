/- functions of the program and of the references, as models -/
import Derived.Test.YtdllaekpkcanbaaGreatMx1
set_option linter.unusedSimpArgs false
set_option linter.unusedVariables false
set_option maxRecDepth 100000
noncomputable section
namespace Go.Bm
open Go.Proofs
def sig_cncref25_Check : Sk := { tmps := [tf [CS.sl kItm]], boxes := [], rows := [] }
def osig_cncref25_Check : Sk := { tmps := [tf [ci]], boxes := [], rows := [] }
def C_cncref25_Check_0 (Qac Qdk : Fn) : Cfg := { spec := Qbx [(79, spOf Qe9 Qet Qac), (113, spOf sig_cncref25_wrong osig_cncref25_wrong Qdk)], eqOk := Qb2, ownOff := ownOff }
def sk_cncref25_Check_5 : Sk := { tmps := [tf [CS.sl kItm], td, td, tf [ci], td, td, td, td, td, tf [CS.sl kItm], tf [ci], tf [ci]] ++ dd 24, boxes := [], rows := [] }
def ex_cncref25_Check_5 : List (Ex × Sk) := [(Ex.ret, { tmps := [td, td, tf [ci]] ++ dd 33, boxes := [], rows := [] }), (Ex.exit 0, { tmps := [td] ++ dd 35, boxes := [], rows := [] })]
def Qec (Qac Qdk : Fn) : Lp := stepL Tryz.prog (C_cncref25_Check_0 Qac Qdk) 64 5 (Qf0 Tryz.prog 78 5) sk_cncref25_Check_5 ex_cncref25_Check_5
def C_cncref25_Check_1 (Qac Qdk : Fn) (N5 : Lp) : Cfg := (C_cncref25_Check_0 Qac Qdk).loop 5 sk_cncref25_Check_5 ex_cncref25_Check_5 N5
def mf_cncref25_Check (Qac Qdk : Fn) (N5 : Lp) : Fn := Qax Tryz.prog (C_cncref25_Check_1 Qac Qdk N5) 64 78 sig_cncref25_Check osig_cncref25_Check
theorem st_cncref25_Check_5_eq (Qac Qdk : Fn) (v0 : Rw) (v1 : Int) (v2 : Rw) (v3 v4 : Int) : Qec Qac Qdk [.view kItm v0, I v1, .view kItm v2, I v3, I v4] =
 bif decide (v4 < v3) then
 bif decide (0 <= v4) && decide (v4 < (v2.length : Int)) then
 (Qdk [jA (nth [] v2 v4.toNat) 0, jA (nth [] v2 v4.toNat) 1, jA (nth [] v2 v4.toNat) 2, jA (nth [] v2 v4.toNat) 3, jA (nth [] v2 v4.toNat) 4, jA (nth [] v2 v4.toNat) 5, jA (nth [] v2 v4.toNat) 6, jA (nth [] v2 v4.toNat) 7, jA (nth [] v2 v4.toNat) 8, jA (nth [] v2 v4.toNat) 9, jA (nth [] v2 v4.toNat) 10, jA (nth [] v2 v4.toNat) 11, jA (nth [] v2 v4.toNat) 12, B (bA (nth [] v2 v4.toNat) 13), jA (nth [] v2 v4.toNat) 14, B (bA (nth [] v2 v4.toNat) 15), jA (nth [] v2 v4.toNat) 16, jA (nth [] v2 v4.toNat) 17, jA (nth [] v2 v4.toNat) 18, jA (nth [] v2 v4.toNat) 19, jA (nth [] v2 v4.toNat) 20, B (bA (nth [] v2 v4.toNat) 21)]).bind fun o3 =>
 bif bA o3 0 then
 some (1, [I 1])
 else
 (Qac [jA (nth [] v2 v4.toNat) 0]).bind fun o4 =>
 bif !bA o4 0 then
 some (0, [.view kItm v0, I v1, .view kItm v2, I v3, I (IntKind.i64.wrap (v4 + 1))])
 else
 bif decide (v1 >= 0) then
 bif decide (0 <= v1) && decide (v1 < (v0.length : Int)) then
 bif !(gA (nth [] v0 v1.toNat) 5 == gA (nth [] v2 v4.toNat) 2 && (gA (nth [] v0 v1.toNat) 6 == gA (nth [] v2 v4.toNat) 3 && (gA (nth [] v0 v1.toNat) 7 == gA (nth [] v2 v4.toNat) 4 && true))) then
 some (1, [I 13])
 else
 some (0, [.view kItm v0, I v4, .view kItm v2, I v3, I (IntKind.i64.wrap (v4 + 1))])
 else
 none
 else
 some (0, [.view kItm v0, I v4, .view kItm v2, I v3, I (IntKind.i64.wrap (v4 + 1))])
 else
 none
 else
 some (2, []) := by kernel_rfl
theorem mf_cncref25_Check_eq (Qac Qdk : Fn) (N5 : Lp) (x0 : Rw) : mf_cncref25_Check Qac Qdk N5 [.view kItm x0] =
 bif decide ((x0.length : Int) > 20000) then
 some [I 10]
 else
 (N5 [.view kItm x0, I (-1), .view kItm x0, I (x0.length : Int), I 0]).bind fun o5 =>
 bif o5.1.beq 1 then
 some [jA o5.2 0]
 else
 bif o5.1.beq 2 then
 some [I 0]
 else
 none := by kernel_rfl
def l_cncref25_Check_5 := Qbl (Qec Qa1 Qgy )
def Qel := mf_cncref25_Check Qa1 Qgy l_cncref25_Check_5
theorem sp_cncref25_Check : Qak Tryz.prog (C_cncref25_Check_0 Qa1 Qgy) := Qae rfl ⟨r_cncref23_Motion, r_cncref25_wrong, trivial⟩
theorem r_cncref25_Check : Qbm Tryz.prog (78, spOf sig_cncref25_Check osig_cncref25_Check Qel) := Qa0 (C := (C_cncref25_Check_1 Qa1 Qgy l_cncref25_Check_5)) (L := 64) (by kernel_rfl) ((FnOK.bare rfl rfl rfl).loop sp_cncref25_Check eqOk Qa9 (by kernel_rfl) (by kernel_rfl)) sp_cncref25_Check eqOk Qa9 (by kernel_rfl) (by kernel_rfl)
def sig_cncref25_Build : Sk := { tmps := [tf [CS.sl kItm]], boxes := [], rows := [] }
def osig_cncref25_Build : Sk := { tmps := [TS.tup [(true, [ci, ci, ci, CS.sl kSgm, CS.sl kPt]), (false, [ci])]], boxes := [], rows := [] }
def C_cncref25_Build_0 (Qav Qam Qah Qat Qad Qa8 Qaf Qbc Qac Qb3 : Fn) : Cfg := { spec := Qbx [(87, spOf sig_cncref25_kind osig_cncref25_kind Qav), (86, spOf sig_cncref25_Soft osig_cncref25_Soft Qam), (85, spOf Qh6 Qg7 Qah), (84, spOf sig_cncref25_points osig_cncref25_points Qat), (83, spOf Qgd Qf5 Qad), (82, spOf sig_cncref25_Rate osig_cncref25_Rate Qa8), (81, spOf Qhp Qgl Qaf), (80, spOf sig_cncref25_other osig_cncref25_other Qbc), (79, spOf Qe9 Qet Qac), (78, spOf sig_cncref25_Check osig_cncref25_Check Qb3)], eqOk := Qb2, ownOff := ownOffX, ownBut := [2] }
def sk_cncref25_Build_19 : Sk := { tmps := [tf [CS.sl kItm], td, tf [CS.ptr 2 0], td, td, tf [CS.ptr 5 0], tf [CS.ptr 6 0], tf [ci], tf [ci], td, tf [CS.bool], tf [ci], td, tf [CS.ptr 13 0], td, td, td, td, td, td, td, td, td, tf [CS.sl kItm], tf [ci], tf [ci], td, td, td, td, td, td, td, td, td, td, td, td, td, td, td, td, td, td, td, td, td, td, td, td, td, td, td, td, td, td, td, td, td, td, td, td, td, td, td, td, td, td, td, td, td, td, td, td, td, td, td, td, td, td, td, td, td, tf [CS.sl kPt], tf [ci], tf [ci]] ++ dd 47, boxes := [(2, 29, [ci, ci, ci, CS.sl kSgm, CS.sl kPt]), (5, 29, [ci, ci, ci, CS.own 1005003 7, CS.own 1005004 3]), (6, 25, [ci, ci, ci]), (13, 78, [ci, ci, ci, ci, ci, ci, ci])], rows := [(1005003, 78, kSgm), (1005004, 80, kPt)] }
def ex_cncref25_Build_19 : List (Ex × Sk) := [(Ex.ret, { tmps := [td, td, tf [CS.ptr 2 0], tf [ci]] ++ dd 129, boxes := [(2, 29, [ci, ci, ci, CS.nil, CS.nil])], rows := [] }), (Ex.exit 2, { tmps := [tf [CS.sl kItm], td, tf [CS.ptr 2 0], td, td, tf [CS.ptr 5 0], tf [CS.ptr 6 0], tf [ci], tf [ci], td, tf [CS.bool], tf [ci], td, td, td, td, td, td, td, td, td, td, td, tf [CS.sl kItm], tf [ci], tf [ci]] ++ dd 107, boxes := [(2, 29, [ci, ci, ci, CS.sl kSgm, CS.sl kPt]), (5, 29, [ci, ci, ci, CS.own 1005003 7, CS.own 1005004 3]), (6, 25, [ci, ci, ci])], rows := [(1005003, 78, kSgm), (1005004, 80, kPt)] })]
def Qg4 (Qav Qam Qah Qat Qad Qa8 Qaf Qbc Qac Qb3 : Fn) : Lp := stepL Tryz.prog (C_cncref25_Build_0 Qav Qam Qah Qat Qad Qa8 Qaf Qbc Qac Qb3) 64 19 (Qf0 Tryz.prog 43 19) sk_cncref25_Build_19 ex_cncref25_Build_19
def C_cncref25_Build_1 (Qav Qam Qah Qat Qad Qa8 Qaf Qbc Qac Qb3 : Fn) (N19 : Lp) : Cfg := (C_cncref25_Build_0 Qav Qam Qah Qat Qad Qa8 Qaf Qbc Qac Qb3).loop 19 sk_cncref25_Build_19 ex_cncref25_Build_19 N19
def sk_cncref25_Build_7 : Sk := { tmps := [tf [CS.sl kItm], td, tf [CS.ptr 2 0], td, td, tf [CS.ptr 5 0], tf [CS.ptr 6 0], tf [ci], tf [ci], tf [ci], tf [CS.bool], td, td, td, td, td, td, td, td, td, td, td, td, tf [CS.sl kItm], tf [ci], tf [ci]] ++ dd 107, boxes := [(2, 29, [ci, ci, ci, CS.sl kSgm, CS.sl kPt]), (5, 29, [ci, ci, ci, CS.own 1005003 7, CS.own 1005004 3]), (6, 25, [ci, ci, ci])], rows := [(1005003, 78, kSgm), (1005004, 80, kPt)] }
def ex_cncref25_Build_7 : List (Ex × Sk) := [(Ex.ret, { tmps := [td, td, tf [CS.ptr 2 0], tf [ci]] ++ dd 129, boxes := [(2, 29, [ci, ci, ci, CS.nil, CS.nil])], rows := [] }), (Ex.exit 0, { tmps := [td, td, tf [CS.ptr 2 0], td, td, tf [CS.ptr 5 0]] ++ dd 127, boxes := [(2, 29, [ci, ci, ci, CS.sl kSgm, CS.sl kPt]), (5, 29, [ci, ci, ci, CS.own 1005003 7, CS.own 1005004 3])], rows := [(1005003, 78, kSgm), (1005004, 80, kPt)] })]
def Qh5 (Qav Qam Qah Qat Qad Qa8 Qaf Qbc Qac Qb3 : Fn) (N19 : Lp) : Lp := stepL Tryz.prog (C_cncref25_Build_1 Qav Qam Qah Qat Qad Qa8 Qaf Qbc Qac Qb3 N19) 64 7 (Qf0 Tryz.prog 43 7) sk_cncref25_Build_7 ex_cncref25_Build_7
def C_cncref25_Build_2 (Qav Qam Qah Qat Qad Qa8 Qaf Qbc Qac Qb3 : Fn) (N19 N7 : Lp) : Cfg := (C_cncref25_Build_1 Qav Qam Qah Qat Qad Qa8 Qaf Qbc Qac Qb3 N19).loop 7 sk_cncref25_Build_7 ex_cncref25_Build_7 N7
def mf_cncref25_Build (Qav Qam Qah Qat Qad Qa8 Qaf Qbc Qac Qb3 : Fn) (N19 N7 : Lp) : Fn := Qax Tryz.prog (C_cncref25_Build_2 Qav Qam Qah Qat Qad Qa8 Qaf Qbc Qac Qb3 N19 N7) 64 43 sig_cncref25_Build osig_cncref25_Build
theorem st_cncref25_Build_19_eq (Qav Qam Qah Qat Qad Qa8 Qaf Qbc Qac Qb3 : Fn) (v0 v1 v2 : Rw) (v3 v4 : Int) (v5 : Bool) (v6 : Int) (v7 : Rw) (v8 v9 : Int) (v10 : Rw) (v11 v12 v13 v14 v15 : Int) (v16 v17 : Rw) (v18 v19 v20 v21 v22 v23 v24 v25 v26 v27 v28 v29 v30 : Int) : Qg4 Qav Qam Qah Qat Qad Qa8 Qaf Qbc Qac Qb3 [.view kSgm v0, .view kPt v1, .view kItm v2, I v3, I v4, B v5, I v6, .view kItm v7, I v8, I v9, .view kPt v10, I v11, I v12, I v13, I v14, I v15, .view kSgm v16, .view kPt v17, I v18, I v19, I v20, I v21, I v22, I v23, I v24, I v25, I v26, I v27, I v28, I v29, I v30] =
 bif decide (v12 < v11) then
 bif decide (0 <= v12) && decide (v12 < (v10.length : Int)) then
 bif gA (nth [] v10 v12.toNat) 0 == v21 && (gA (nth [] v10 v12.toNat) 1 == v22 && (gA (nth [] v10 v12.toNat) 2 == v23 && true)) then
 some (0, [.view kSgm v0, .view kPt v1, .view kItm v2, I v3, I v4, B v5, I v6, .view kItm v7, I v8, I v9, .view kPt v10, I v11, I (IntKind.i64.wrap (v12 + 1)), I v13, I v14, I v15, .view kSgm v16, .view kPt v17, I v18, I v19, I v20, I v21, I v22, I v23, I v24, I v25, I v26, I v27, I v28, I v29, I v30])
 else
 (Qah [I v21, I v22, I v23, jA (nth [] v10 v12.toNat) 0, jA (nth [] v10 v12.toNat) 1, jA (nth [] v10 v12.toNat) 2]).bind fun o124 =>
 bif ((v0 ++ [[jA (nth [] v10 v12.toNat) 0, jA (nth [] v10 v12.toNat) 1, jA (nth [] v10 v12.toNat) 2, jA o124 0, I v28, I v29, I v30]]).length * 56).ble 140737488355328 then
 bif decide ((↑(v0 ++ [[jA (nth [] v10 v12.toNat) 0, jA (nth [] v10 v12.toNat) 1, jA (nth [] v10 v12.toNat) 2, jA o124 0, I v28, I v29, I v30]]).length : Int) > 1048576) then
 some (1, [I 10, I 0, I 0, I 0])
 else
 some (0, [.view kSgm (v0 ++ [[jA (nth [] v10 v12.toNat) 0, jA (nth [] v10 v12.toNat) 1, jA (nth [] v10 v12.toNat) 2, jA o124 0, I v28, I v29, I v30]]), .view kPt v1, .view kItm v2, I (IntKind.i64.wrap (v3 + gA o124 0)), I v4, B v5, I v6, .view kItm v7, I v8, I v9, .view kPt v10, I v11, I (IntKind.i64.wrap (v12 + 1)), I v13, I v14, I v15, .view kSgm v16, .view kPt v17, I v18, I v19, I v20, jA (nth [] v10 v12.toNat) 0, jA (nth [] v10 v12.toNat) 1, jA (nth [] v10 v12.toNat) 2, jA (nth [] v10 v12.toNat) 0, jA (nth [] v10 v12.toNat) 1, jA (nth [] v10 v12.toNat) 2, jA o124 0, I v28, I v29, I v30])
 else
 none
 else
 none
 else
 some (2, [.view kSgm v0, .view kPt v1, .view kItm v2, I v3, I v4, B v5, I v6, .view kItm v7, I v8, I v9, I v13, I v14, I v15, .view kSgm v16, .view kPt v17, I v18, I v19, I v20, I v21, I v22, I v23]) := by kernel_rfl
abbrev g_s_cncref25_Build_7_4 (Qav : Fn) (o132 : Nat × List AC) (h4_0 : AC) : Option (Nat × List AC) :=
 (Qav [.view kItm (wA o132.2 2), jA o132.2 6]).bind fun o134 =>
 bif ((wA o132.2 1 ++ [[jA o132.2 3, jA o134 0, jA o132.2 6]]).length * 24).ble 140737488355328 then
 some (0, [.view kSgm (wA o132.2 0), .view kPt (wA o132.2 1 ++ [[jA o132.2 3, jA o134 0, jA o132.2 6]]), .view kItm (wA o132.2 2), jA o132.2 3, jA o132.2 4, h4_0, B (bA o132.2 5), .view kItm (wA o132.2 7), jA o132.2 8, I (IntKind.i64.wrap (gA o132.2 9 + 1)), jA o132.2 10, jA o132.2 11, jA o132.2 12, .view kSgm (wA o132.2 13), .view kPt (wA o132.2 14), jA o132.2 15, jA o132.2 16, jA o132.2 17, jA o132.2 18, jA o132.2 19, jA o132.2 20])
 else
 none
attribute [go_sem] g_s_cncref25_Build_7_4
abbrev g_s_cncref25_Build_7_3 (Qat : Fn) (v2 : Rw) (v9 v5 : Int) (N19 : Lp) (v0 v1 : Rw) (v3 : Int) (h1_0 h1_1 : AC) (v7 : Rw) (v8 v10 v11 v12 : Int) (v13 v14 : Rw) (h1_2 h1_3 h1_4 h1_5 h1_6 h1_7 : AC) (o129 : List AC) (Qam Qav : Fn) (h3_0 : AC) : Option (Nat × List AC) :=
 (Qat [.view kItm v2, I v9, I v5]).bind fun o131 =>
 (N19 [.view kSgm v0, .view kPt v1, .view kItm v2, I v3, h1_0, h1_1, I v9, .view kItm v7, I v8, I v9, .view kPt (wA o131 0), I (↑(wA o131 0).length : Int), I 0, I v10, I v11, I v12, .view kSgm v13, .view kPt v14, h1_2, h1_3, h1_4, h1_5, h1_6, h1_7, I 0, I 0, I 0, I 0, I v9, jA o129 0, h3_0]).bind fun o132 =>
 bif o132.1.beq 1 then
 some (1, [jA o132.2 0, jA o132.2 1, jA o132.2 2, jA o132.2 3])
 else
 bif o132.1.beq 2 then
 (Qam [.view kItm (wA o132.2 2), jA o132.2 6]).bind fun o133 =>
 bif decide (gA o133 0 >= 0) then
 g_s_cncref25_Build_7_4 Qav o132 (jA o132.2 6)
 else
 g_s_cncref25_Build_7_4 Qav o132 (I (-1))
 else
 none
attribute [go_sem] g_s_cncref25_Build_7_3
abbrev g_s_cncref25_Build_7_1 (Qa8 : Fn) (v7 : Rw) (v9 : Int) (Qad Qat : Fn) (v2 : Rw) (v5 : Int) (N19 : Lp) (v0 v1 : Rw) (v3 v8 v10 v11 v12 : Int) (v13 v14 : Rw) (Qam Qav : Fn) (h1_0 h1_1 h1_2 h1_3 h1_4 h1_5 h1_6 h1_7 : AC) : Option (Nat × List AC) :=
 (Qa8 [jA (nth [] v7 v9.toNat) 0, jA (nth [] v7 v9.toNat) 1, jA (nth [] v7 v9.toNat) 2, jA (nth [] v7 v9.toNat) 3, jA (nth [] v7 v9.toNat) 4, jA (nth [] v7 v9.toNat) 5, jA (nth [] v7 v9.toNat) 6, jA (nth [] v7 v9.toNat) 7, jA (nth [] v7 v9.toNat) 8, jA (nth [] v7 v9.toNat) 9, jA (nth [] v7 v9.toNat) 10, jA (nth [] v7 v9.toNat) 11, jA (nth [] v7 v9.toNat) 12, B (bA (nth [] v7 v9.toNat) 13), jA (nth [] v7 v9.toNat) 14, B (bA (nth [] v7 v9.toNat) 15), jA (nth [] v7 v9.toNat) 16, jA (nth [] v7 v9.toNat) 17, jA (nth [] v7 v9.toNat) 18, jA (nth [] v7 v9.toNat) 19, jA (nth [] v7 v9.toNat) 20, B (bA (nth [] v7 v9.toNat) 21), h1_0]).bind fun o129 =>
 (Qad [jA (nth [] v7 v9.toNat) 0, jA (nth [] v7 v9.toNat) 1, jA (nth [] v7 v9.toNat) 2, jA (nth [] v7 v9.toNat) 3, jA (nth [] v7 v9.toNat) 4, jA (nth [] v7 v9.toNat) 5, jA (nth [] v7 v9.toNat) 6, jA (nth [] v7 v9.toNat) 7, jA (nth [] v7 v9.toNat) 8, jA (nth [] v7 v9.toNat) 9, jA (nth [] v7 v9.toNat) 10, jA (nth [] v7 v9.toNat) 11, jA (nth [] v7 v9.toNat) 12, B (bA (nth [] v7 v9.toNat) 13), jA (nth [] v7 v9.toNat) 14, B (bA (nth [] v7 v9.toNat) 15), jA (nth [] v7 v9.toNat) 16, jA (nth [] v7 v9.toNat) 17, jA (nth [] v7 v9.toNat) 18, jA (nth [] v7 v9.toNat) 19, jA (nth [] v7 v9.toNat) 20, B (bA (nth [] v7 v9.toNat) 21)]).bind fun o130 =>
 bif bA o130 0 then
 g_s_cncref25_Build_7_3 Qat v2 v9 v5 N19 v0 v1 v3 h1_0 h1_1 v7 v8 v10 v11 v12 v13 v14 h1_2 h1_3 h1_4 h1_5 h1_6 h1_7 o129 Qam Qav (I (mn (IntKind.i64.wrap (gA (nth [] v7 v9.toNat) 14 * 16)) 16777216))
 else
 g_s_cncref25_Build_7_3 Qat v2 v9 v5 N19 v0 v1 v3 h1_0 h1_1 v7 v8 v10 v11 v12 v13 v14 h1_2 h1_3 h1_4 h1_5 h1_6 h1_7 o129 Qam Qav (I 0)
attribute [go_sem] g_s_cncref25_Build_7_1
abbrev Qf6 (Qac : Fn) (v7 : Rw) (v9 : Int) (Qbc : Fn) (v1 : Rw) (v3 : Int) (v0 v2 : Rw) (v5 : Int) (v6 : Bool) (v8 v10 v11 v12 : Int) (v13 v14 : Rw) (v15 v16 v17 v18 v19 v20 : Int) (Qaf Qa8 Qad Qat : Fn) (N19 : Lp) (Qam Qav : Fn) (h2_0 h2_1 : AC) : Option (Nat × List AC) :=
 (Qac [jA (nth [] v7 v9.toNat) 0]).bind fun o125 =>
 bif !bA o125 0 then
 (Qbc [jA (nth [] v7 v9.toNat) 0, jA (nth [] v7 v9.toNat) 1, jA (nth [] v7 v9.toNat) 2, jA (nth [] v7 v9.toNat) 3, jA (nth [] v7 v9.toNat) 4, jA (nth [] v7 v9.toNat) 5, jA (nth [] v7 v9.toNat) 6, jA (nth [] v7 v9.toNat) 7, jA (nth [] v7 v9.toNat) 8, jA (nth [] v7 v9.toNat) 9, jA (nth [] v7 v9.toNat) 10, jA (nth [] v7 v9.toNat) 11, jA (nth [] v7 v9.toNat) 12, B (bA (nth [] v7 v9.toNat) 13), jA (nth [] v7 v9.toNat) 14, B (bA (nth [] v7 v9.toNat) 15), jA (nth [] v7 v9.toNat) 16, jA (nth [] v7 v9.toNat) 17, jA (nth [] v7 v9.toNat) 18, jA (nth [] v7 v9.toNat) 19, jA (nth [] v7 v9.toNat) 20, B (bA (nth [] v7 v9.toNat) 21)]).bind fun o126 =>
 bif ((v1 ++ [[I v3, jA o126 0, I v9]]).length * 24).ble 140737488355328 then
 some (0, [.view kSgm v0, .view kPt (v1 ++ [[I v3, jA o126 0, I v9]]), .view kItm v2, I v3, h2_0, I v5, B v6, .view kItm v7, I v8, I (IntKind.i64.wrap (v9 + 1)), I v10, I v11, I v12, .view kSgm v13, .view kPt v14, I v15, I v16, I v17, I v18, I v19, I v20])
 else
 none
 else
 bif !v6 then
 (Qaf [jA (nth [] v7 v9.toNat) 2, jA (nth [] v7 v9.toNat) 3, jA (nth [] v7 v9.toNat) 4]).bind fun o127 =>
 (Qaf [jA (nth [] v7 v9.toNat) 2, jA (nth [] v7 v9.toNat) 3, jA (nth [] v7 v9.toNat) 4]).bind fun o128 =>
 g_s_cncref25_Build_7_1 Qa8 v7 v9 Qad Qat v2 v5 N19 v0 v1 v3 v8 v10 v11 v12 v13 v14 Qam Qav h2_1 (B true) (jA o127 0) (jA o127 1) (jA o127 2) (jA o128 0) (jA o128 1) (jA o128 2)
 else
 g_s_cncref25_Build_7_1 Qa8 v7 v9 Qad Qat v2 v5 N19 v0 v1 v3 v8 v10 v11 v12 v13 v14 Qam Qav h2_1 (B v6) (I v15) (I v16) (I v17) (I v18) (I v19) (I v20)
attribute [go_sem] Qf6
theorem st_cncref25_Build_7_eq (Qav Qam Qah Qat Qad Qa8 Qaf Qbc Qac Qb3 : Fn) (N19 : Lp) (v0 v1 v2 : Rw) (v3 v4 v5 : Int) (v6 : Bool) (v7 : Rw) (v8 v9 v10 v11 v12 : Int) (v13 v14 : Rw) (v15 v16 v17 v18 v19 v20 : Int) : Qh5 Qav Qam Qah Qat Qad Qa8 Qaf Qbc Qac Qb3 N19 [.view kSgm v0, .view kPt v1, .view kItm v2, I v3, I v4, I v5, B v6, .view kItm v7, I v8, I v9, I v10, I v11, I v12, .view kSgm v13, .view kPt v14, I v15, I v16, I v17, I v18, I v19, I v20] =
 bif decide (v9 < v8) then
 bif decide (0 <= v9) && decide (v9 < (v7.length : Int)) then
 bif gA (nth [] v7 v9.toNat) 0 == 8 then
 bif gA (nth [] v7 v9.toNat) 19 == 3 then
 Qf6 Qac v7 v9 Qbc v1 v3 v0 v2 v5 v6 v8 v10 v11 v12 v13 v14 v15 v16 v17 v18 v19 v20 Qaf Qa8 Qad Qat N19 Qam Qav (jA (nth [] v7 v9.toNat) 20) (jA (nth [] v7 v9.toNat) 20)
 else
 bif gA (nth [] v7 v9.toNat) 19 == 4 then
 Qf6 Qac v7 v9 Qbc v1 v3 v0 v2 v5 v6 v8 v10 v11 v12 v13 v14 v15 v16 v17 v18 v19 v20 Qaf Qa8 Qad Qat N19 Qam Qav (jA (nth [] v7 v9.toNat) 20) (jA (nth [] v7 v9.toNat) 20)
 else
 Qf6 Qac v7 v9 Qbc v1 v3 v0 v2 v5 v6 v8 v10 v11 v12 v13 v14 v15 v16 v17 v18 v19 v20 Qaf Qa8 Qad Qat N19 Qam Qav (I v4) (I v4)
 else
 Qf6 Qac v7 v9 Qbc v1 v3 v0 v2 v5 v6 v8 v10 v11 v12 v13 v14 v15 v16 v17 v18 v19 v20 Qaf Qa8 Qad Qat N19 Qam Qav (I v4) (I v4)
 else
 none
 else
 some (2, [.view kSgm v0, .view kPt v1, I v10, I v11, I v12, .view kSgm v13, .view kPt v14, I v15, I v16, I v17]) := by kernel_rfl
theorem mf_cncref25_Build_eq (Qav Qam Qah Qat Qad Qa8 Qaf Qbc Qac Qb3 : Fn) (N19 N7 : Lp) (x0 : Rw) : mf_cncref25_Build Qav Qam Qah Qat Qad Qa8 Qaf Qbc Qac Qb3 N19 N7 [.view kItm x0] =
 (Qb3 [.view kItm x0]).bind fun o237 =>
 bif gA o237 0 != 0 then
 some [I 0, I 0, I 0, .view kSgm [], .view kPt [], jA o237 0]
 else
 (N7 [.view kSgm [], .view kPt [], .view kItm x0, I 0, I 0, I (-1), B false, .view kItm x0, I (x0.length : Int), I 0, I 0, I 0, I 0, .view kSgm [], .view kPt [], I 0, I 0, I 0, I 0, I 0, I 0]).bind fun o238 =>
 bif o238.1.beq 1 then
 some [jA o238.2 1, jA o238.2 2, jA o238.2 3, .view kSgm [], .view kPt [], jA o238.2 0]
 else
 bif o238.1.beq 2 then
 some [jA o238.2 7, jA o238.2 8, jA o238.2 9, .view kSgm (wA o238.2 0), .view kPt (wA o238.2 1), I 0]
 else
 none := by kernel_rfl
def Qid := Qbl (Qg4 Qey Qdm Qbt Qd5 Qba Qd1 Qbj Qdz Qa1 Qel )
def l_cncref25_Build_7 := Qbl (Qh5 Qey Qdm Qbt Qd5 Qba Qd1 Qbj Qdz Qa1 Qel Qid)
def Qdh := mf_cncref25_Build Qey Qdm Qbt Qd5 Qba Qd1 Qbj Qdz Qa1 Qel Qid l_cncref25_Build_7
theorem sp_cncref25_Build : Qak Tryz.prog (C_cncref25_Build_0 Qey Qdm Qbt Qd5 Qba Qd1 Qbj Qdz Qa1 Qel) := Qae rfl ⟨r_cncref25_kind, r_cncref25_Soft, r_cncref23_Length, r_cncref25_points, r_cncref25_synchronized, r_cncref25_Rate, r_cncref23_Fine, r_cncref25_other, r_cncref23_Motion, r_cncref25_Check, trivial⟩
theorem r_cncref25_Build : Qbm Tryz.prog (43, spOf sig_cncref25_Build osig_cncref25_Build Qdh) := Qa0 (C := (C_cncref25_Build_2 Qey Qdm Qbt Qd5 Qba Qd1 Qbj Qdz Qa1 Qel Qid l_cncref25_Build_7)) (L := 64) (by kernel_rfl) (((FnOK.bare rfl rfl rfl).loop sp_cncref25_Build eqOk Qa9 (by kernel_rfl) (by kernel_rfl)).loop sp_cncref25_Build eqOk Qa9 (by kernel_rfl) (by kernel_rfl)) sp_cncref25_Build eqOk Qa9 (by kernel_rfl) (by kernel_rfl)
def sig_cncref25_Settled : Sk := { tmps := [tf [CS.sl kItm]], boxes := [], rows := [] }
def osig_cncref25_Settled : Sk := { tmps := [tf [ci]], boxes := [], rows := [] }
def C_cncref25_Settled_0 (Qah Qaf Qar Qct Qaj Qa7 : Fn) : Cfg := { spec := Qbx [(85, spOf Qh6 Qg7 Qah), (81, spOf Qhp Qgl Qaf), (90, spOf Qhz Qg8 Qar), (25, spOf sig_cncref25_Length osig_cncref25_Length Qct), (89, spOf Qic Qg5 Qaj), (43, spOf sig_cncref25_Build osig_cncref25_Build Qa7)], eqOk := Qb2, ownOff := ownOff }
def sk_cncref25_Settled_5 : Sk := { tmps := [tf [CS.sl kItm], td, td, tf [CS.ptr 3 0], td, tf [ci]] ++ dd 50, boxes := [(3, 29, [ci, ci, ci, CS.sl kSgm, CS.sl kPt])], rows := [] }
def ex_cncref25_Settled_5 : List (Ex × Sk) := [(Ex.ret, { tmps := [td, td, tf [ci]] ++ dd 53, boxes := [], rows := [] }), (Ex.exit 0, { tmps := [td, td, td, tf [CS.ptr 3 0]] ++ dd 52, boxes := [(3, 29, [ci, ci, ci, CS.sl kSgm, CS.sl kPt])], rows := [] })]
def Qfg (Qah Qaf Qar Qct Qaj Qa7 : Fn) : Lp := stepL Tryz.prog (C_cncref25_Settled_0 Qah Qaf Qar Qct Qaj Qa7) 64 5 (Qf0 Tryz.prog 46 5) sk_cncref25_Settled_5 ex_cncref25_Settled_5
def C_cncref25_Settled_1 (Qah Qaf Qar Qct Qaj Qa7 : Fn) (N5 : Lp) : Cfg := (C_cncref25_Settled_0 Qah Qaf Qar Qct Qaj Qa7).loop 5 sk_cncref25_Settled_5 ex_cncref25_Settled_5 N5
def mf_cncref25_Settled (Qah Qaf Qar Qct Qaj Qa7 : Fn) (N5 : Lp) : Fn := Qax Tryz.prog (C_cncref25_Settled_1 Qah Qaf Qar Qct Qaj Qa7 N5) 64 46 sig_cncref25_Settled osig_cncref25_Settled
theorem st_cncref25_Settled_5_eq (Qah Qaf Qar Qct Qaj Qa7 : Fn) (v0 : Rw) (v1 v2 v3 v4 : Int) (v5 v6 : Rw) : Qfg Qah Qaf Qar Qct Qaj Qa7 [.view kItm v0, I v1, I v2, I v3, I v4, .view kSgm v5, .view kPt v6] =
 bif decide (v1 >= 0) then
 bif decide (0 <= v1) && decide (v1 < (v0.length : Int)) then
 bif gA (nth [] v0 v1.toNat) 0 == 10 then
 some (0, [.view kItm v0, I (IntKind.i64.wrap (v1 - 1)), I v2, I v3, I v4, .view kSgm v5, .view kPt v6])
 else
 bif decide (0 <= v1) && decide (v1 < (v0.length : Int)) then
 (Qaj [jA (nth [] v0 v1.toNat) 0, jA (nth [] v0 v1.toNat) 1, jA (nth [] v0 v1.toNat) 2, jA (nth [] v0 v1.toNat) 3, jA (nth [] v0 v1.toNat) 4, jA (nth [] v0 v1.toNat) 5, jA (nth [] v0 v1.toNat) 6, jA (nth [] v0 v1.toNat) 7, jA (nth [] v0 v1.toNat) 8, jA (nth [] v0 v1.toNat) 9, jA (nth [] v0 v1.toNat) 10, jA (nth [] v0 v1.toNat) 11, jA (nth [] v0 v1.toNat) 12, B (bA (nth [] v0 v1.toNat) 13), jA (nth [] v0 v1.toNat) 14, B (bA (nth [] v0 v1.toNat) 15), jA (nth [] v0 v1.toNat) 16, jA (nth [] v0 v1.toNat) 17, jA (nth [] v0 v1.toNat) 18, jA (nth [] v0 v1.toNat) 19, jA (nth [] v0 v1.toNat) 20, B (bA (nth [] v0 v1.toNat) 21)]).bind fun o9 =>
 bif bA o9 0 then
 bif decide (0 <= v1) && decide (v1 < (v0.length : Int)) then
 bif decide (gA (nth [] v0 v1.toNat) 18 > 0) then
 (Qct [I v2, I v3, I v4, .view kSgm v5, .view kPt v6]).bind fun o10 =>
 bif decide (0 <= v1) && decide (v1 < (v0.length : Int)) then
 (Qar [jA (nth [] v0 v1.toNat) 0, jA (nth [] v0 v1.toNat) 1, jA (nth [] v0 v1.toNat) 2, jA (nth [] v0 v1.toNat) 3, jA (nth [] v0 v1.toNat) 4, jA (nth [] v0 v1.toNat) 5, jA (nth [] v0 v1.toNat) 6, jA (nth [] v0 v1.toNat) 7, jA (nth [] v0 v1.toNat) 8, jA (nth [] v0 v1.toNat) 9, jA (nth [] v0 v1.toNat) 10, jA (nth [] v0 v1.toNat) 11, jA (nth [] v0 v1.toNat) 12, B (bA (nth [] v0 v1.toNat) 13), jA (nth [] v0 v1.toNat) 14, B (bA (nth [] v0 v1.toNat) 15), jA (nth [] v0 v1.toNat) 16, jA (nth [] v0 v1.toNat) 17, jA (nth [] v0 v1.toNat) 18, jA (nth [] v0 v1.toNat) 19, jA (nth [] v0 v1.toNat) 20, B (bA (nth [] v0 v1.toNat) 21)]).bind fun o11 =>
 bif decide (0 <= v1) && decide (v1 < (v0.length : Int)) then
 (Qaf [jA (nth [] v0 v1.toNat) 5, jA (nth [] v0 v1.toNat) 6, jA (nth [] v0 v1.toNat) 7]).bind fun o12 =>
 (Qah [jA o11 0, jA o11 1, jA o11 2, jA o12 0, jA o12 1, jA o12 2]).bind fun o13 =>
 some (1, [I (IntKind.i64.wrap (gA o10 0 - gA o13 0))])
 else
 none
 else
 none
 else
 some (2, [I v2, I v3, I v4, .view kSgm v5, .view kPt v6])
 else
 none
 else
 some (2, [I v2, I v3, I v4, .view kSgm v5, .view kPt v6])
 else
 none
 else
 none
 else
 some (2, [I v2, I v3, I v4, .view kSgm v5, .view kPt v6]) := by kernel_rfl
theorem mf_cncref25_Settled_eq (Qah Qaf Qar Qct Qaj Qa7 : Fn) (N5 : Lp) (x0 : Rw) : mf_cncref25_Settled Qah Qaf Qar Qct Qaj Qa7 N5 [.view kItm x0] =
 (Qa7 [.view kItm x0]).bind fun o14 =>
 bif gA o14 5 != 0 then
 some [I 0]
 else
 (N5 [.view kItm x0, I (IntKind.i64.wrap ((x0.length : Int) - 1)), jA o14 0, jA o14 1, jA o14 2, .view kSgm (wA o14 3), .view kPt (wA o14 4)]).bind fun o15 =>
 bif o15.1.beq 1 then
 some [jA o15.2 0]
 else
 bif o15.1.beq 2 then
 (Qct [jA o15.2 0, jA o15.2 1, jA o15.2 2, .view kSgm (wA o15.2 3), .view kPt (wA o15.2 4)]).bind fun o16 =>
 some [jA o16 0]
 else
 none := by kernel_rfl
def l_cncref25_Settled_5 := Qbl (Qfg Qbt Qbj Qcn Qff Qcj Qdh )
def m_cncref25_Settled := mf_cncref25_Settled Qbt Qbj Qcn Qff Qcj Qdh l_cncref25_Settled_5
theorem sp_cncref25_Settled : Qak Tryz.prog (C_cncref25_Settled_0 Qbt Qbj Qcn Qff Qcj Qdh) := Qae rfl ⟨r_cncref23_Length, r_cncref23_Fine, r_cncref25_Center, r_cncref25_Length, r_cncref25_Smooth, r_cncref25_Build, trivial⟩
theorem r_cncref25_Settled : Qbm Tryz.prog (46, spOf sig_cncref25_Settled osig_cncref25_Settled m_cncref25_Settled) := Qa0 (C := (C_cncref25_Settled_1 Qbt Qbj Qcn Qff Qcj Qdh l_cncref25_Settled_5)) (L := 64) (by kernel_rfl) ((FnOK.bare rfl rfl rfl).loop sp_cncref25_Settled eqOk Qa9 (by kernel_rfl) (by kernel_rfl)) sp_cncref25_Settled eqOk Qa9 (by kernel_rfl) (by kernel_rfl)
def sig_path_smooth : Sk := { tmps := [TS.v true [ci, ci, ci, ci, ci, ci, ci, ci, ci, ci, ci, ci, ci, CS.bool, ci, CS.bool, ci, ci, ci, ci, ci, CS.bool]], boxes := [], rows := [] }
def Qih : Sk := { tmps := [tf [CS.bool]], boxes := [], rows := [] }
def C_path_smooth_0 : Cfg := { spec := Qbx [], eqOk := Qb2, ownOff := ownOff }
def mf_path_smooth : Fn := Qax Tryz.prog C_path_smooth_0 64 88 sig_path_smooth Qih
theorem mf_path_smooth_eq (x0 x1 x2 x3 x4 x5 x6 x7 x8 x9 x10 x11 x12 : Int) (x13 : Bool) (x14 : Int) (x15 : Bool) (x16 x17 x18 x19 x20 : Int) (x21 : Bool) : mf_path_smooth [I x0, I x1, I x2, I x3, I x4, I x5, I x6, I x7, I x8, I x9, I x10, I x11, I x12, B x13, I x14, B x15, I x16, I x17, I x18, I x19, I x20, B x21] =
 bif x0 == 2 then
 some [B !(x2 == x5 && (x3 == x6 && (x4 == x7 && true)))]
 else
 some [B false] := by kernel_rfl
def Qc5 := mf_path_smooth 
theorem sp_path_smooth : Qak Tryz.prog (C_path_smooth_0 ) := Qae rfl trivial
theorem r_path_smooth : Qbm Tryz.prog (88, spOf sig_path_smooth Qih Qc5) := Qa0 (C := C_path_smooth_0) (L := 64) (by kernel_rfl) (FnOK.bare rfl rfl rfl) sp_path_smooth eqOk Qa9 (by kernel_rfl) (by kernel_rfl)
def sig_path_motion : Sk := { tmps := [tf [ci]], boxes := [], rows := [] }
def Qil : Sk := { tmps := [tf [CS.bool]], boxes := [], rows := [] }
def C_path_motion_0 : Cfg := { spec := Qbx [], eqOk := Qb2, ownOff := ownOff }
def mf_path_motion : Fn := Qax Tryz.prog C_path_motion_0 64 108 sig_path_motion Qil
theorem mf_path_motion_eq (x0 : Int) : mf_path_motion [I x0] =
 bif decide (x0 >= 1) then
 some [B (decide (x0 <= 6))]
 else
 some [B false] := by kernel_rfl
def Qcp := mf_path_motion 
theorem sp_path_motion : Qak Tryz.prog (C_path_motion_0 ) := Qae rfl trivial
theorem r_path_motion : Qbm Tryz.prog (108, spOf sig_path_motion Qil Qcp) := Qa0 (C := C_path_motion_0) (L := 64) (by kernel_rfl) (FnOK.bare rfl rfl rfl) sp_path_motion eqOk Qa9 (by kernel_rfl) (by kernel_rfl)
end Go.Bm
