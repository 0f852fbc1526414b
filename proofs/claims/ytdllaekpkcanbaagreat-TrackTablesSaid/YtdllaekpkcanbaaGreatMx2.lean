/- functions of the program and of the references, as models -/
import Derived.Test.YtdllaekpkcanbaaGreatMx1
set_option linter.unusedSimpArgs false
set_option linter.unusedVariables false
set_option maxRecDepth 100000
noncomputable section
namespace Go.Bm
open Go.Proofs
def sig_cncref29_Leg : Sk := { tmps := [TS.v true [ci, ci, ci, CS.sl kSgm, CS.sl kPt], TS.v true [ci, ci, ci, ci, ci, ci, ci, ci, ci, CS.sl kInts, ci, ci, ci, ci, ci, ci, ci, ci, ci, CS.sl kInts, ci, ci, ci, ci, ci, ci, ci, ci, ci, CS.sl kInts], TS.v true [ci, ci, ci], tf [ci], tf [ci]], boxes := [], rows := [] }
def osig_cncref29_Leg : Sk := { tmps := [TS.v true [CS.sl kPce, ci, ci, ci, ci, ci]], boxes := [], rows := [] }
def C_cncref29_Leg_0 (M_cncref29_add M_cncref29_slack M_cncref29_facing M_cncref25_Length : Fn) : Cfg := { spec := lookS [(69, spOf sig_cncref29_add osig_cncref29_add M_cncref29_add), (68, spOf sig_cncref29_slack osig_cncref29_slack M_cncref29_slack), (67, spOf sig_cncref29_facing osig_cncref29_facing M_cncref29_facing), (25, spOf sig_cncref25_Length osig_cncref25_Length M_cncref25_Length)], eqOk := eqAll, pure := fun f => !(elemN [69] f), ownOff := ownOff }
def sk_cncref29_Leg_11 : Sk := { tmps := [td, td, td, tf [ci], tf [ci], tf [CS.ptr 5 0], tf [CS.ptr 6 0], td, td, td, tf [CS.ptr 10 0], td, tf [CS.ptr 12 0], tf [ci], tf [CS.ptr 14 0], tf [ci], td, td, td, td, td, td, td, td, td, td, td, td, td, td, td, td, td, td, td, td, td, td, td, td, td, td, td, td, td, td, tf [ci], tf [ci]] ++ dd 72, boxes := [(5, 29, [ci, ci, ci, CS.sl kSgm, CS.sl kPt]), (6, 32, [ci, ci, ci, ci, ci, ci, ci, ci, ci, CS.sl kInts, ci, ci, ci, ci, ci, ci, ci, ci, ci, CS.sl kInts, ci, ci, ci, ci, ci, ci, ci, ci, ci, CS.sl kInts]), (10, 35, [CS.own 1010000 10, ci, ci, ci, ci, ci]), (12, 35, [CS.own 1012000 10, ci, ci, ci, ci, ci]), (14, 24, [ci, ci, ci])], rows := [(1010000, 85, kPce), (1012000, 85, kPce)] }
def ex_cncref29_Leg_11 : List (Ex × Sk) := [(Ex.exit 0, { tmps := [td, td, td, td, td, td, td, td, td, td, tf [CS.ptr 10 0], td, tf [CS.ptr 12 0]] ++ dd 107, boxes := [(10, 35, [CS.own 1010000 10, ci, ci, ci, ci, ci]), (12, 35, [CS.own 1012000 10, ci, ci, ci, ci, ci])], rows := [(1010000, 85, kPce), (1012000, 85, kPce)] })]
def st_cncref29_Leg_11 (M_cncref29_add M_cncref29_slack M_cncref29_facing M_cncref25_Length : Fn) : Lp := stepL Tryz.prog (C_cncref29_Leg_0 M_cncref29_add M_cncref29_slack M_cncref29_facing M_cncref25_Length) 64 11 (bodyOf Tryz.prog 27 11) sk_cncref29_Leg_11 ex_cncref29_Leg_11
def C_cncref29_Leg_1 (M_cncref29_add M_cncref29_slack M_cncref29_facing M_cncref25_Length : Fn) (N11 : Lp) : Cfg := (C_cncref29_Leg_0 M_cncref29_add M_cncref29_slack M_cncref29_facing M_cncref25_Length).loop 11 sk_cncref29_Leg_11 ex_cncref29_Leg_11 N11
def mf_cncref29_Leg (M_cncref29_add M_cncref29_slack M_cncref29_facing M_cncref25_Length : Fn) (N11 : Lp) : Fn := modelF Tryz.prog (C_cncref29_Leg_1 M_cncref29_add M_cncref29_slack M_cncref29_facing M_cncref25_Length N11) 64 27 sig_cncref29_Leg osig_cncref29_Leg
theorem st_cncref29_Leg_11_eq (M_cncref29_add M_cncref29_slack M_cncref29_facing M_cncref25_Length : Fn) (v0 v1 : Rw) (v2 v3 v4 v5 v6 v7 v8 v9 v10 : Int) (v11 v12 : Rw) (v13 v14 v15 v16 v17 v18 v19 v20 v21 : Int) (v22 : Rw) (v23 v24 v25 v26 v27 v28 v29 v30 v31 : Int) (v32 : Rw) (v33 v34 v35 v36 v37 v38 v39 v40 v41 : Int) (v42 : Rw) (v43 v44 v45 v46 v47 v48 v49 v50 v51 v52 v53 v54 v55 : Int) : st_cncref29_Leg_11 M_cncref29_add M_cncref29_slack M_cncref29_facing M_cncref25_Length [.view kPce v0, .view kPce v1, I v2, I v3, I v4, I v5, I v6, I v7, I v8, I v9, I v10, .view kSgm v11, .view kPt v12, I v13, I v14, I v15, I v16, I v17, I v18, I v19, I v20, I v21, .view kInts v22, I v23, I v24, I v25, I v26, I v27, I v28, I v29, I v30, I v31, .view kInts v32, I v33, I v34, I v35, I v36, I v37, I v38, I v39, I v40, I v41, .view kInts v42, I v43, I v44, I v45, I v46, I v47, I v48, I v49, I v50, I v51, I v52, I v53, I v54, I v55] =
 bif decide (v7 < v6) then
 bif decide (v4 < 0) then
 bif decide (0 <= IntKind.i64.wrap (IntKind.i64.wrap ((v11.length : Int) - 1) - v7)) && decide (IntKind.i64.wrap (IntKind.i64.wrap ((v11.length : Int) - 1) - v7) < (v11.length : Int)) then
 bif decide (mx (mn v5 (IntKind.i64.wrap (v5 + IntKind.i64.wrap (v4 * intOf (nth .dead (nth [] v11 (IntKind.i64.wrap (IntKind.i64.wrap ((v11.length : Int) - 1) - v7)).toNat) 3))))) (mn v2 v3) < mn (mx v5 (IntKind.i64.wrap (v5 + IntKind.i64.wrap (v4 * intOf (nth .dead (nth [] v11 (IntKind.i64.wrap (IntKind.i64.wrap ((v11.length : Int) - 1) - v7)).toNat) 3))))) (mx v2 v3)) then
 (M_cncref29_facing [I v8, I v9, I v10, .view kSgm v11, .view kPt v12, I v53, I v54, I v55, I (IntKind.i64.wrap (IntKind.i64.wrap ((v11.length : Int) - 1) - v7)), I v4]).bind fun o22 =>
 bif decide (v4 < 0) then
 (M_cncref29_slack [I v13, I v14, I v15, I v16, I v17, I v18, I v19, I v20, I v21, .view kInts v22, I v23, I v24, I v25, I v26, I v27, I v28, I v29, I v30, I v31, .view kInts v32, I v33, I v34, I v35, I v36, I v37, I v38, I v39, I v40, I v41, .view kInts v42, I v53, I v54, I v55, jA o22 0, jA o22 1, jA o22 2]).bind fun o23 =>
 bif decide (gA o23 0 > 0) then
 (M_cncref29_add [.view kPce v1, I 0, jA o23 0, I (mn (mx v5 (IntKind.i64.wrap (v5 + IntKind.i64.wrap (v4 * intOf (nth .dead (nth [] v11 (IntKind.i64.wrap (IntKind.i64.wrap ((v11.length : Int) - 1) - v7)).toNat) 3))))) (mx v2 v3)), I 0, I v53, I v54, I v55, jA o22 0, jA o22 1, jA o22 2, I v48, I v49, I v50, I v51, I v52]).bind fun o24 =>
 (M_cncref29_add [.view kPce (wA o24 0), I 0, I (IntKind.i64.wrap (mn (mx v5 (IntKind.i64.wrap (v5 + IntKind.i64.wrap (v4 * intOf (nth .dead (nth [] v11 (IntKind.i64.wrap (IntKind.i64.wrap ((v11.length : Int) - 1) - v7)).toNat) 3))))) (mx v2 v3) - mx (mn v5 (IntKind.i64.wrap (v5 + IntKind.i64.wrap (v4 * intOf (nth .dead (nth [] v11 (IntKind.i64.wrap (IntKind.i64.wrap ((v11.length : Int) - 1) - v7)).toNat) 3))))) (mn v2 v3))), I (mn (mx v5 (IntKind.i64.wrap (v5 + IntKind.i64.wrap (v4 * intOf (nth .dead (nth [] v11 (IntKind.i64.wrap (IntKind.i64.wrap ((v11.length : Int) - 1) - v7)).toNat) 3))))) (mx v2 v3)), I v4, jA o22 0, jA o22 1, jA o22 2, jA o22 0, jA o22 1, jA o22 2, jA o24 1, jA o24 2, jA o24 3, jA o24 4, jA o24 5]).bind fun o25 =>
 some (0, [.view kPce v0, .view kPce (wA o25 0), I v2, I v3, I v4, I (IntKind.i64.wrap (v5 + IntKind.i64.wrap (v4 * intOf (nth .dead (nth [] v11 (IntKind.i64.wrap (IntKind.i64.wrap ((v11.length : Int) - 1) - v7)).toNat) 3)))), I v6, I (IntKind.i64.wrap (v7 + 1)), I v8, I v9, I v10, .view kSgm v11, .view kPt v12, I v13, I v14, I v15, I v16, I v17, I v18, I v19, I v20, I v21, .view kInts v22, I v23, I v24, I v25, I v26, I v27, I v28, I v29, I v30, I v31, .view kInts v32, I v33, I v34, I v35, I v36, I v37, I v38, I v39, I v40, I v41, .view kInts v42, I v43, I v44, I v45, I v46, I v47, jA o25 1, jA o25 2, jA o25 3, jA o25 4, jA o25 5, jA o22 0, jA o22 1, jA o22 2])
 else
 (M_cncref29_add [.view kPce v1, I 0, I (IntKind.i64.wrap (mn (mx v5 (IntKind.i64.wrap (v5 + IntKind.i64.wrap (v4 * intOf (nth .dead (nth [] v11 (IntKind.i64.wrap (IntKind.i64.wrap ((v11.length : Int) - 1) - v7)).toNat) 3))))) (mx v2 v3) - mx (mn v5 (IntKind.i64.wrap (v5 + IntKind.i64.wrap (v4 * intOf (nth .dead (nth [] v11 (IntKind.i64.wrap (IntKind.i64.wrap ((v11.length : Int) - 1) - v7)).toNat) 3))))) (mn v2 v3))), I (mn (mx v5 (IntKind.i64.wrap (v5 + IntKind.i64.wrap (v4 * intOf (nth .dead (nth [] v11 (IntKind.i64.wrap (IntKind.i64.wrap ((v11.length : Int) - 1) - v7)).toNat) 3))))) (mx v2 v3)), I v4, jA o22 0, jA o22 1, jA o22 2, jA o22 0, jA o22 1, jA o22 2, I v48, I v49, I v50, I v51, I v52]).bind fun o26 =>
 some (0, [.view kPce v0, .view kPce (wA o26 0), I v2, I v3, I v4, I (IntKind.i64.wrap (v5 + IntKind.i64.wrap (v4 * intOf (nth .dead (nth [] v11 (IntKind.i64.wrap (IntKind.i64.wrap ((v11.length : Int) - 1) - v7)).toNat) 3)))), I v6, I (IntKind.i64.wrap (v7 + 1)), I v8, I v9, I v10, .view kSgm v11, .view kPt v12, I v13, I v14, I v15, I v16, I v17, I v18, I v19, I v20, I v21, .view kInts v22, I v23, I v24, I v25, I v26, I v27, I v28, I v29, I v30, I v31, .view kInts v32, I v33, I v34, I v35, I v36, I v37, I v38, I v39, I v40, I v41, .view kInts v42, I v43, I v44, I v45, I v46, I v47, jA o26 1, jA o26 2, jA o26 3, jA o26 4, jA o26 5, jA o22 0, jA o22 1, jA o22 2])
 else
 (M_cncref29_slack [I v13, I v14, I v15, I v16, I v17, I v18, I v19, I v20, I v21, .view kInts v22, I v23, I v24, I v25, I v26, I v27, I v28, I v29, I v30, I v31, .view kInts v32, I v33, I v34, I v35, I v36, I v37, I v38, I v39, I v40, I v41, .view kInts v42, I v53, I v54, I v55, jA o22 0, jA o22 1, jA o22 2]).bind fun o27 =>
 bif decide (gA o27 0 > 0) then
 (M_cncref29_add [.view kPce v1, I 0, jA o27 0, I (mx (mn v5 (IntKind.i64.wrap (v5 + IntKind.i64.wrap (v4 * intOf (nth .dead (nth [] v11 (IntKind.i64.wrap (IntKind.i64.wrap ((v11.length : Int) - 1) - v7)).toNat) 3))))) (mn v2 v3)), I 0, I v53, I v54, I v55, jA o22 0, jA o22 1, jA o22 2, I v48, I v49, I v50, I v51, I v52]).bind fun o28 =>
 (M_cncref29_add [.view kPce (wA o28 0), I 0, I (IntKind.i64.wrap (mn (mx v5 (IntKind.i64.wrap (v5 + IntKind.i64.wrap (v4 * intOf (nth .dead (nth [] v11 (IntKind.i64.wrap (IntKind.i64.wrap ((v11.length : Int) - 1) - v7)).toNat) 3))))) (mx v2 v3) - mx (mn v5 (IntKind.i64.wrap (v5 + IntKind.i64.wrap (v4 * intOf (nth .dead (nth [] v11 (IntKind.i64.wrap (IntKind.i64.wrap ((v11.length : Int) - 1) - v7)).toNat) 3))))) (mn v2 v3))), I (mx (mn v5 (IntKind.i64.wrap (v5 + IntKind.i64.wrap (v4 * intOf (nth .dead (nth [] v11 (IntKind.i64.wrap (IntKind.i64.wrap ((v11.length : Int) - 1) - v7)).toNat) 3))))) (mn v2 v3)), I v4, jA o22 0, jA o22 1, jA o22 2, jA o22 0, jA o22 1, jA o22 2, jA o28 1, jA o28 2, jA o28 3, jA o28 4, jA o28 5]).bind fun o29 =>
 some (0, [.view kPce v0, .view kPce (wA o29 0), I v2, I v3, I v4, I (IntKind.i64.wrap (v5 + IntKind.i64.wrap (v4 * intOf (nth .dead (nth [] v11 (IntKind.i64.wrap (IntKind.i64.wrap ((v11.length : Int) - 1) - v7)).toNat) 3)))), I v6, I (IntKind.i64.wrap (v7 + 1)), I v8, I v9, I v10, .view kSgm v11, .view kPt v12, I v13, I v14, I v15, I v16, I v17, I v18, I v19, I v20, I v21, .view kInts v22, I v23, I v24, I v25, I v26, I v27, I v28, I v29, I v30, I v31, .view kInts v32, I v33, I v34, I v35, I v36, I v37, I v38, I v39, I v40, I v41, .view kInts v42, I v43, I v44, I v45, I v46, I v47, jA o29 1, jA o29 2, jA o29 3, jA o29 4, jA o29 5, jA o22 0, jA o22 1, jA o22 2])
 else
 (M_cncref29_add [.view kPce v1, I 0, I (IntKind.i64.wrap (mn (mx v5 (IntKind.i64.wrap (v5 + IntKind.i64.wrap (v4 * intOf (nth .dead (nth [] v11 (IntKind.i64.wrap (IntKind.i64.wrap ((v11.length : Int) - 1) - v7)).toNat) 3))))) (mx v2 v3) - mx (mn v5 (IntKind.i64.wrap (v5 + IntKind.i64.wrap (v4 * intOf (nth .dead (nth [] v11 (IntKind.i64.wrap (IntKind.i64.wrap ((v11.length : Int) - 1) - v7)).toNat) 3))))) (mn v2 v3))), I (mx (mn v5 (IntKind.i64.wrap (v5 + IntKind.i64.wrap (v4 * intOf (nth .dead (nth [] v11 (IntKind.i64.wrap (IntKind.i64.wrap ((v11.length : Int) - 1) - v7)).toNat) 3))))) (mn v2 v3)), I v4, jA o22 0, jA o22 1, jA o22 2, jA o22 0, jA o22 1, jA o22 2, I v48, I v49, I v50, I v51, I v52]).bind fun o30 =>
 some (0, [.view kPce v0, .view kPce (wA o30 0), I v2, I v3, I v4, I (IntKind.i64.wrap (v5 + IntKind.i64.wrap (v4 * intOf (nth .dead (nth [] v11 (IntKind.i64.wrap (IntKind.i64.wrap ((v11.length : Int) - 1) - v7)).toNat) 3)))), I v6, I (IntKind.i64.wrap (v7 + 1)), I v8, I v9, I v10, .view kSgm v11, .view kPt v12, I v13, I v14, I v15, I v16, I v17, I v18, I v19, I v20, I v21, .view kInts v22, I v23, I v24, I v25, I v26, I v27, I v28, I v29, I v30, I v31, .view kInts v32, I v33, I v34, I v35, I v36, I v37, I v38, I v39, I v40, I v41, .view kInts v42, I v43, I v44, I v45, I v46, I v47, jA o30 1, jA o30 2, jA o30 3, jA o30 4, jA o30 5, jA o22 0, jA o22 1, jA o22 2])
 else
 some (0, [.view kPce v0, .view kPce v1, I v2, I v3, I v4, I (IntKind.i64.wrap (v5 + IntKind.i64.wrap (v4 * intOf (nth .dead (nth [] v11 (IntKind.i64.wrap (IntKind.i64.wrap ((v11.length : Int) - 1) - v7)).toNat) 3)))), I v6, I (IntKind.i64.wrap (v7 + 1)), I v8, I v9, I v10, .view kSgm v11, .view kPt v12, I v13, I v14, I v15, I v16, I v17, I v18, I v19, I v20, I v21, .view kInts v22, I v23, I v24, I v25, I v26, I v27, I v28, I v29, I v30, I v31, .view kInts v32, I v33, I v34, I v35, I v36, I v37, I v38, I v39, I v40, I v41, .view kInts v42, I v43, I v44, I v45, I v46, I v47, I v48, I v49, I v50, I v51, I v52, I v53, I v54, I v55])
 else
 none
 else
 bif decide (0 <= v7) && decide (v7 < (v11.length : Int)) then
 bif decide (mx (mn v5 (IntKind.i64.wrap (v5 + IntKind.i64.wrap (v4 * gA (nth [] v11 v7.toNat) 3)))) (mn v2 v3) < mn (mx v5 (IntKind.i64.wrap (v5 + IntKind.i64.wrap (v4 * gA (nth [] v11 v7.toNat) 3)))) (mx v2 v3)) then
 (M_cncref29_facing [I v8, I v9, I v10, .view kSgm v11, .view kPt v12, I v53, I v54, I v55, I v7, I v4]).bind fun o31 =>
 bif decide (v4 < 0) then
 (M_cncref29_slack [I v13, I v14, I v15, I v16, I v17, I v18, I v19, I v20, I v21, .view kInts v22, I v23, I v24, I v25, I v26, I v27, I v28, I v29, I v30, I v31, .view kInts v32, I v33, I v34, I v35, I v36, I v37, I v38, I v39, I v40, I v41, .view kInts v42, I v53, I v54, I v55, jA o31 0, jA o31 1, jA o31 2]).bind fun o32 =>
 bif decide (gA o32 0 > 0) then
 (M_cncref29_add [.view kPce v1, I 0, jA o32 0, I (mn (mx v5 (IntKind.i64.wrap (v5 + IntKind.i64.wrap (v4 * gA (nth [] v11 v7.toNat) 3)))) (mx v2 v3)), I 0, I v53, I v54, I v55, jA o31 0, jA o31 1, jA o31 2, I v48, I v49, I v50, I v51, I v52]).bind fun o33 =>
 (M_cncref29_add [.view kPce (wA o33 0), I 0, I (IntKind.i64.wrap (mn (mx v5 (IntKind.i64.wrap (v5 + IntKind.i64.wrap (v4 * gA (nth [] v11 v7.toNat) 3)))) (mx v2 v3) - mx (mn v5 (IntKind.i64.wrap (v5 + IntKind.i64.wrap (v4 * gA (nth [] v11 v7.toNat) 3)))) (mn v2 v3))), I (mn (mx v5 (IntKind.i64.wrap (v5 + IntKind.i64.wrap (v4 * gA (nth [] v11 v7.toNat) 3)))) (mx v2 v3)), I v4, jA o31 0, jA o31 1, jA o31 2, jA o31 0, jA o31 1, jA o31 2, jA o33 1, jA o33 2, jA o33 3, jA o33 4, jA o33 5]).bind fun o34 =>
 some (0, [.view kPce v0, .view kPce (wA o34 0), I v2, I v3, I v4, I (IntKind.i64.wrap (v5 + IntKind.i64.wrap (v4 * gA (nth [] v11 v7.toNat) 3))), I v6, I (IntKind.i64.wrap (v7 + 1)), I v8, I v9, I v10, .view kSgm v11, .view kPt v12, I v13, I v14, I v15, I v16, I v17, I v18, I v19, I v20, I v21, .view kInts v22, I v23, I v24, I v25, I v26, I v27, I v28, I v29, I v30, I v31, .view kInts v32, I v33, I v34, I v35, I v36, I v37, I v38, I v39, I v40, I v41, .view kInts v42, I v43, I v44, I v45, I v46, I v47, jA o34 1, jA o34 2, jA o34 3, jA o34 4, jA o34 5, jA o31 0, jA o31 1, jA o31 2])
 else
 (M_cncref29_add [.view kPce v1, I 0, I (IntKind.i64.wrap (mn (mx v5 (IntKind.i64.wrap (v5 + IntKind.i64.wrap (v4 * gA (nth [] v11 v7.toNat) 3)))) (mx v2 v3) - mx (mn v5 (IntKind.i64.wrap (v5 + IntKind.i64.wrap (v4 * gA (nth [] v11 v7.toNat) 3)))) (mn v2 v3))), I (mn (mx v5 (IntKind.i64.wrap (v5 + IntKind.i64.wrap (v4 * gA (nth [] v11 v7.toNat) 3)))) (mx v2 v3)), I v4, jA o31 0, jA o31 1, jA o31 2, jA o31 0, jA o31 1, jA o31 2, I v48, I v49, I v50, I v51, I v52]).bind fun o35 =>
 some (0, [.view kPce v0, .view kPce (wA o35 0), I v2, I v3, I v4, I (IntKind.i64.wrap (v5 + IntKind.i64.wrap (v4 * gA (nth [] v11 v7.toNat) 3))), I v6, I (IntKind.i64.wrap (v7 + 1)), I v8, I v9, I v10, .view kSgm v11, .view kPt v12, I v13, I v14, I v15, I v16, I v17, I v18, I v19, I v20, I v21, .view kInts v22, I v23, I v24, I v25, I v26, I v27, I v28, I v29, I v30, I v31, .view kInts v32, I v33, I v34, I v35, I v36, I v37, I v38, I v39, I v40, I v41, .view kInts v42, I v43, I v44, I v45, I v46, I v47, jA o35 1, jA o35 2, jA o35 3, jA o35 4, jA o35 5, jA o31 0, jA o31 1, jA o31 2])
 else
 (M_cncref29_slack [I v13, I v14, I v15, I v16, I v17, I v18, I v19, I v20, I v21, .view kInts v22, I v23, I v24, I v25, I v26, I v27, I v28, I v29, I v30, I v31, .view kInts v32, I v33, I v34, I v35, I v36, I v37, I v38, I v39, I v40, I v41, .view kInts v42, I v53, I v54, I v55, jA o31 0, jA o31 1, jA o31 2]).bind fun o36 =>
 bif decide (gA o36 0 > 0) then
 (M_cncref29_add [.view kPce v1, I 0, jA o36 0, I (mx (mn v5 (IntKind.i64.wrap (v5 + IntKind.i64.wrap (v4 * gA (nth [] v11 v7.toNat) 3)))) (mn v2 v3)), I 0, I v53, I v54, I v55, jA o31 0, jA o31 1, jA o31 2, I v48, I v49, I v50, I v51, I v52]).bind fun o37 =>
 (M_cncref29_add [.view kPce (wA o37 0), I 0, I (IntKind.i64.wrap (mn (mx v5 (IntKind.i64.wrap (v5 + IntKind.i64.wrap (v4 * gA (nth [] v11 v7.toNat) 3)))) (mx v2 v3) - mx (mn v5 (IntKind.i64.wrap (v5 + IntKind.i64.wrap (v4 * gA (nth [] v11 v7.toNat) 3)))) (mn v2 v3))), I (mx (mn v5 (IntKind.i64.wrap (v5 + IntKind.i64.wrap (v4 * gA (nth [] v11 v7.toNat) 3)))) (mn v2 v3)), I v4, jA o31 0, jA o31 1, jA o31 2, jA o31 0, jA o31 1, jA o31 2, jA o37 1, jA o37 2, jA o37 3, jA o37 4, jA o37 5]).bind fun o38 =>
 some (0, [.view kPce v0, .view kPce (wA o38 0), I v2, I v3, I v4, I (IntKind.i64.wrap (v5 + IntKind.i64.wrap (v4 * gA (nth [] v11 v7.toNat) 3))), I v6, I (IntKind.i64.wrap (v7 + 1)), I v8, I v9, I v10, .view kSgm v11, .view kPt v12, I v13, I v14, I v15, I v16, I v17, I v18, I v19, I v20, I v21, .view kInts v22, I v23, I v24, I v25, I v26, I v27, I v28, I v29, I v30, I v31, .view kInts v32, I v33, I v34, I v35, I v36, I v37, I v38, I v39, I v40, I v41, .view kInts v42, I v43, I v44, I v45, I v46, I v47, jA o38 1, jA o38 2, jA o38 3, jA o38 4, jA o38 5, jA o31 0, jA o31 1, jA o31 2])
 else
 (M_cncref29_add [.view kPce v1, I 0, I (IntKind.i64.wrap (mn (mx v5 (IntKind.i64.wrap (v5 + IntKind.i64.wrap (v4 * gA (nth [] v11 v7.toNat) 3)))) (mx v2 v3) - mx (mn v5 (IntKind.i64.wrap (v5 + IntKind.i64.wrap (v4 * gA (nth [] v11 v7.toNat) 3)))) (mn v2 v3))), I (mx (mn v5 (IntKind.i64.wrap (v5 + IntKind.i64.wrap (v4 * gA (nth [] v11 v7.toNat) 3)))) (mn v2 v3)), I v4, jA o31 0, jA o31 1, jA o31 2, jA o31 0, jA o31 1, jA o31 2, I v48, I v49, I v50, I v51, I v52]).bind fun o39 =>
 some (0, [.view kPce v0, .view kPce (wA o39 0), I v2, I v3, I v4, I (IntKind.i64.wrap (v5 + IntKind.i64.wrap (v4 * gA (nth [] v11 v7.toNat) 3))), I v6, I (IntKind.i64.wrap (v7 + 1)), I v8, I v9, I v10, .view kSgm v11, .view kPt v12, I v13, I v14, I v15, I v16, I v17, I v18, I v19, I v20, I v21, .view kInts v22, I v23, I v24, I v25, I v26, I v27, I v28, I v29, I v30, I v31, .view kInts v32, I v33, I v34, I v35, I v36, I v37, I v38, I v39, I v40, I v41, .view kInts v42, I v43, I v44, I v45, I v46, I v47, jA o39 1, jA o39 2, jA o39 3, jA o39 4, jA o39 5, jA o31 0, jA o31 1, jA o31 2])
 else
 some (0, [.view kPce v0, .view kPce v1, I v2, I v3, I v4, I (IntKind.i64.wrap (v5 + IntKind.i64.wrap (v4 * gA (nth [] v11 v7.toNat) 3))), I v6, I (IntKind.i64.wrap (v7 + 1)), I v8, I v9, I v10, .view kSgm v11, .view kPt v12, I v13, I v14, I v15, I v16, I v17, I v18, I v19, I v20, I v21, .view kInts v22, I v23, I v24, I v25, I v26, I v27, I v28, I v29, I v30, I v31, .view kInts v32, I v33, I v34, I v35, I v36, I v37, I v38, I v39, I v40, I v41, .view kInts v42, I v43, I v44, I v45, I v46, I v47, I v48, I v49, I v50, I v51, I v52, I v53, I v54, I v55])
 else
 none
 else
 some (1, [.view kPce v0, .view kPce v1, I v43, I v44, I v45, I v46, I v47, I v48, I v49, I v50, I v51, I v52]) := by kernel_rfl
theorem mf_cncref29_Leg_eq (M_cncref29_add M_cncref29_slack M_cncref29_facing M_cncref25_Length : Fn) (N11 : Lp) (x0 x1 x2 : Int) (x3 x4 : Rw) (x5 x6 x7 x8 x9 x10 x11 x12 x13 : Int) (x14 : Rw) (x15 x16 x17 x18 x19 x20 x21 x22 x23 : Int) (x24 : Rw) (x25 x26 x27 x28 x29 x30 x31 x32 x33 : Int) (x34 : Rw) (x35 x36 x37 x38 x39 : Int) : mf_cncref29_Leg M_cncref29_add M_cncref29_slack M_cncref29_facing M_cncref25_Length N11 [I x0, I x1, I x2, .view kSgm x3, .view kPt x4, I x5, I x6, I x7, I x8, I x9, I x10, I x11, I x12, I x13, .view kInts x14, I x15, I x16, I x17, I x18, I x19, I x20, I x21, I x22, I x23, .view kInts x24, I x25, I x26, I x27, I x28, I x29, I x30, I x31, I x32, I x33, .view kInts x34, I x35, I x36, I x37, I x38, I x39] =
 (M_cncref25_Length [I x0, I x1, I x2, .view kSgm x3, .view kPt x4]).bind fun o40 =>
 bif decide (mn (mx x39 0) (gA o40 0) < mn (mx x38 0) (gA o40 0)) then
 (N11 [.view kPce [], .view kPce [], I (mn (mx x38 0) (gA o40 0)), I (mn (mx x39 0) (gA o40 0)), I (-1), jA o40 0, I (x3.length : Int), I 0, I x0, I x1, I x2, .view kSgm x3, .view kPt x4, I x5, I x6, I x7, I x8, I x9, I x10, I x11, I x12, I x13, .view kInts x14, I x15, I x16, I x17, I x18, I x19, I x20, I x21, I x22, I x23, .view kInts x24, I x25, I x26, I x27, I x28, I x29, I x30, I x31, I x32, I x33, .view kInts x34, I 0, I 0, I 0, I 0, I 0, I 0, I (mn (mx x38 0) (gA o40 0)), I x35, I x36, I x37, I x35, I x36, I x37]).bind fun o41 =>
 bif o41.1.beq 1 then
 some [.view kPce (wA o41.2 1), jA o41.2 7, jA o41.2 8, jA o41.2 9, jA o41.2 10, jA o41.2 11]
 else
 none
 else
 (N11 [.view kPce [], .view kPce [], I (mn (mx x38 0) (gA o40 0)), I (mn (mx x39 0) (gA o40 0)), I 1, I 0, I (x3.length : Int), I 0, I x0, I x1, I x2, .view kSgm x3, .view kPt x4, I x5, I x6, I x7, I x8, I x9, I x10, I x11, I x12, I x13, .view kInts x14, I x15, I x16, I x17, I x18, I x19, I x20, I x21, I x22, I x23, .view kInts x24, I x25, I x26, I x27, I x28, I x29, I x30, I x31, I x32, I x33, .view kInts x34, I 0, I 0, I 0, I 0, I 0, I 0, I (mn (mx x38 0) (gA o40 0)), I x35, I x36, I x37, I x35, I x36, I x37]).bind fun o42 =>
 bif o42.1.beq 1 then
 some [.view kPce (wA o42.2 1), jA o42.2 7, jA o42.2 8, jA o42.2 9, jA o42.2 10, jA o42.2 11]
 else
 none := by kernel_rfl
def l_cncref29_Leg_11 := loopC (st_cncref29_Leg_11 m_cncref29_add m_cncref29_slack m_cncref29_facing m_cncref25_Length )
def m_cncref29_Leg := mf_cncref29_Leg m_cncref29_add m_cncref29_slack m_cncref29_facing m_cncref25_Length l_cncref29_Leg_11
theorem sp_cncref29_Leg : SpecOK Tryz.prog (C_cncref29_Leg_0 m_cncref29_add m_cncref29_slack m_cncref29_facing m_cncref25_Length) := specOK_of rfl ⟨r_cncref29_add, r_cncref29_slack, r_cncref29_facing, r_cncref25_Length, trivial⟩
theorem r_cncref29_Leg : RowOK Tryz.prog (27, spOf sig_cncref29_Leg osig_cncref29_Leg m_cncref29_Leg) := row_of (C := (C_cncref29_Leg_1 m_cncref29_add m_cncref29_slack m_cncref29_facing m_cncref25_Length l_cncref29_Leg_11)) (L := 64) (by kernel_rfl) ((FnOK.bare rfl rfl rfl).loop sp_cncref29_Leg eqOk mixOk (by kernel_rfl) (by kernel_rfl)) sp_cncref29_Leg eqOk mixOk (by kernel_rfl) (by kernel_rfl)
def sig_cncmill_Dirs : Sk := { tmps := [tf [ci]], boxes := [], rows := [] }
def osig_cncmill_Dirs : Sk := { tmps := [TS.v true [ci, ci, ci]], boxes := [], rows := [] }
def C_cncmill_Dirs_0 (M_cncmill_Mod : Fn) : Cfg := { spec := lookS [(16, spOf sig_cncmill_Mod osig_cncmill_Mod M_cncmill_Mod)], eqOk := eqAll, ownOff := ownOff }
def mf_cncmill_Dirs (M_cncmill_Mod : Fn) : Fn := modelF Tryz.prog (C_cncmill_Dirs_0 M_cncmill_Mod) 64 24 sig_cncmill_Dirs osig_cncmill_Dirs
theorem mf_cncmill_Dirs_eq (M_cncmill_Mod : Fn) (x0 : Int) : mf_cncmill_Dirs M_cncmill_Mod [I x0] =
 (M_cncmill_Mod [I x0, I 8]).bind fun o1 =>
 some [I (IntKind.i64.wrap (1 - IntKind.i64.wrap ((gA o1 0).tmod 2 * 2))), I (IntKind.i64.wrap (1 - IntKind.i64.wrap ((IntKind.i64.wrap ((gA o1 0).tdiv 2)).tmod 2 * 2))), I (IntKind.i64.wrap (1 - IntKind.i64.wrap (IntKind.i64.wrap ((gA o1 0).tdiv 4) * 2)))] := by kernel_rfl
def m_cncmill_Dirs := mf_cncmill_Dirs m_cncmill_Mod 
theorem sp_cncmill_Dirs : SpecOK Tryz.prog (C_cncmill_Dirs_0 m_cncmill_Mod) := specOK_of rfl ⟨r_cncmill_Mod, trivial⟩
theorem r_cncmill_Dirs : RowOK Tryz.prog (24, spOf sig_cncmill_Dirs osig_cncmill_Dirs m_cncmill_Dirs) := row_of (C := (C_cncmill_Dirs_0 m_cncmill_Mod)) (L := 64) (by kernel_rfl) (FnOK.bare rfl rfl rfl) sp_cncmill_Dirs eqOk mixOk (by kernel_rfl) (by kernel_rfl)
def sig_cncmill_Source_Next : Sk := { tmps := [tf [CS.ptr 20000 0], tf [ci]], boxes := [(20000, 122, [CS.sl kInts, ci])], rows := [] }
def osig_cncmill_Source_Next : Sk := { tmps := [tf [ci]], boxes := [(20000, 122, [CS.sl kInts, ci])], rows := [] }
def C_cncmill_Source_Next_0 (M_cncmill_Mod : Fn) : Cfg := { spec := lookS [(16, spOf sig_cncmill_Mod osig_cncmill_Mod M_cncmill_Mod)], eqOk := eqAll, ownOff := ownOff }
def mf_cncmill_Source_Next (M_cncmill_Mod : Fn) : Fn := modelF Tryz.prog (C_cncmill_Source_Next_0 M_cncmill_Mod) 64 73 sig_cncmill_Source_Next osig_cncmill_Source_Next
theorem mf_cncmill_Source_Next_eq (M_cncmill_Mod : Fn) (x0 : Int) (x1 : Rw) (x2 : Int) : mf_cncmill_Source_Next M_cncmill_Mod [I x0, .view kInts x1, I x2] =
 bif decide (x2 >= (x1.length : Int)) then
 some [I 0, .view kInts x1, I x2]
 else
 bif decide (0 <= x2) && decide (x2 < (x1.length : Int)) then
 (M_cncmill_Mod [jA (nth [] x1 x2.toNat) 0, I x0]).bind fun o1 =>
 some [jA o1 0, .view kInts x1, I (IntKind.i64.wrap (x2 + 1))]
 else
 none := by kernel_rfl
def m_cncmill_Source_Next := mf_cncmill_Source_Next m_cncmill_Mod 
theorem sp_cncmill_Source_Next : SpecOK Tryz.prog (C_cncmill_Source_Next_0 m_cncmill_Mod) := specOK_of rfl ⟨r_cncmill_Mod, trivial⟩
theorem r_cncmill_Source_Next : RowOK Tryz.prog (73, spOf sig_cncmill_Source_Next osig_cncmill_Source_Next m_cncmill_Source_Next) := row_of (C := (C_cncmill_Source_Next_0 m_cncmill_Mod)) (L := 64) (by kernel_rfl) (FnOK.bare rfl rfl rfl) sp_cncmill_Source_Next eqOk mixOk (by kernel_rfl) (by kernel_rfl)
def sig_cncmill_Axis : Sk := { tmps := [tf [CS.ptr 20000 0]], boxes := [(20000, 122, [CS.sl kInts, ci])], rows := [] }
def osig_cncmill_Axis : Sk := { tmps := [TS.v true [ci, ci, ci, ci, ci, ci, ci, ci, ci, CS.sl kInts]], boxes := [(20000, 122, [CS.sl kInts, ci])], rows := [] }
def C_cncmill_Axis_0 (M_cncmill_Source_Next : Fn) : Cfg := { spec := lookS [(73, spOf sig_cncmill_Source_Next osig_cncmill_Source_Next M_cncmill_Source_Next)], eqOk := eqAll, pure := fun f => !(elemN [73] f), ownOff := ownOffX }
def sk_cncmill_Axis_11 : Sk := { tmps := [tf [CS.ptr 20000 0], td, tf [CS.ptr 2 0], tf [CS.ptr 3 0], tf [ci], tf [ci], tf [ci]] ++ dd 72, boxes := [(2, 31, [ci, ci, ci, ci, ci, ci, ci, ci, ci, CS.own 1002009 1]), (3, 31, [ci, ci, ci, ci, ci, ci, ci, ci, ci, CS.own 1003009 1]), (20000, 122, [CS.sl kInts, ci])], rows := [(1002009, 3, kInts), (1003009, 3, kInts)] }
def ex_cncmill_Axis_11 : List (Ex × Sk) := [(Ex.exit 0, { tmps := [td, td, tf [CS.ptr 2 0], tf [CS.ptr 3 0]] ++ dd 75, boxes := [(2, 31, [ci, ci, ci, ci, ci, ci, ci, ci, ci, CS.own 1002009 1]), (3, 31, [ci, ci, ci, ci, ci, ci, ci, ci, ci, CS.own 1003009 1]), (20000, 122, [CS.sl kInts, ci])], rows := [(1002009, 3, kInts), (1003009, 3, kInts)] })]
def st_cncmill_Axis_11 (M_cncmill_Source_Next : Fn) : Lp := stepL Tryz.prog (C_cncmill_Axis_0 M_cncmill_Source_Next) 64 11 (bodyOf Tryz.prog 61 11) sk_cncmill_Axis_11 ex_cncmill_Axis_11
def C_cncmill_Axis_1 (M_cncmill_Source_Next : Fn) (N11 : Lp) : Cfg := (C_cncmill_Axis_0 M_cncmill_Source_Next).loop 11 sk_cncmill_Axis_11 ex_cncmill_Axis_11 N11
def mf_cncmill_Axis (M_cncmill_Source_Next : Fn) (N11 : Lp) : Fn := modelF Tryz.prog (C_cncmill_Axis_1 M_cncmill_Source_Next N11) 64 61 sig_cncmill_Axis osig_cncmill_Axis
theorem st_cncmill_Axis_11_eq (M_cncmill_Source_Next : Fn) (v0 v1 : Rw) (v2 v3 v4 v5 v6 v7 v8 v9 v10 v11 v12 v13 v14 v15 v16 v17 v18 v19 v20 v21 v22 : Int) (v23 : Rw) (v24 : Int) : st_cncmill_Axis_11 M_cncmill_Source_Next [.view kInts v0, .view kInts v1, I v2, I v3, I v4, I v5, I v6, I v7, I v8, I v9, I v10, I v11, I v12, I v13, I v14, I v15, I v16, I v17, I v18, I v19, I v20, I v21, I v22, .view kInts v23, I v24] =
 bif decide (v4 < v2) then
 bif ((v1 ++ [[I v3]]).length * 8).ble 140737488355328 then
 (M_cncmill_Source_Next [I (IntKind.i64.wrap (IntKind.i64.wrap (2 * IntKind.i64.wrap (v22.tdiv 4)) + 1)), .view kInts v23, I v24]).bind fun o20 =>
 some (0, [.view kInts v0, .view kInts (v1 ++ [[I v3]]), I v2, I (mn (mx (IntKind.i64.wrap (IntKind.i64.wrap (v3 + gA o20 0) - IntKind.i64.wrap (v22.tdiv 4))) (-4096)) 4096), I (IntKind.i64.wrap (v4 + 1)), I v5, I v6, I v7, I v8, I v9, I v10, I v11, I v12, I v13, I v14, I v15, I v16, I v17, I v18, I v19, I v20, I v21, I v22, .view kInts (wA o20 1), jA o20 2])
 else
 none
 else
 some (1, [.view kInts v0, .view kInts v1, I v5, I v6, I v7, I v8, I v9, I v10, I v11, I v12, I v13, I v14, I v15, I v16, I v17, I v18, I v19, I v20, I v21, I v22, .view kInts v23, I v24]) := by kernel_rfl
theorem mf_cncmill_Axis_eq (M_cncmill_Source_Next : Fn) (N11 : Lp) (x0 : Rw) (x1 : Int) : mf_cncmill_Axis M_cncmill_Source_Next N11 [.view kInts x0, I x1] =
 (M_cncmill_Source_Next [I 6, .view kInts x0, I x1]).bind fun o21 =>
 bif decide (0 <= gA o21 0) && decide (gA o21 0 < (↑[[I 8], [I 4], [I 5], [I 16], [I 23], [I 64]].length : Int)) then
 (M_cncmill_Source_Next [I 4, .view kInts (wA o21 1), jA o21 2]).bind fun o22 =>
 bif decide (0 <= gA o22 0) && decide (gA o22 0 < (↑[[I 0], [I 1], [I 3], [I 6]].length : Int)) then
 (M_cncmill_Source_Next [I 5, .view kInts (wA o22 1), jA o22 2]).bind fun o23 =>
 bif decide (0 <= gA o23 0) && decide (gA o23 0 < (↑[[I 40], [I 1], [I 3], [I 9], [I 1000]].length : Int)) then
 (M_cncmill_Source_Next [I 5, .view kInts (wA o23 1), jA o23 2]).bind fun o24 =>
 bif decide (0 <= gA o24 0) && decide (gA o24 0 < (↑[[I 20], [I 2], [I 3], [I 5], [I 1000]].length : Int)) then
 (M_cncmill_Source_Next [I 5, .view kInts (wA o24 1), jA o24 2]).bind fun o25 =>
 bif decide (0 <= gA o25 0) && decide (gA o25 0 < (↑[[I 30], [I 4], [I 5], [I 8], [I 1000]].length : Int)) then
 (M_cncmill_Source_Next [I 5, .view kInts (wA o25 1), jA o25 2]).bind fun o26 =>
 bif gA o26 0 == 0 then
 some [I (intOf (nth .dead (nth [] [[I 8], [I 4], [I 5], [I 16], [I 23], [I 64]] (gA o21 0).toNat) 0)), I (intOf (nth .dead (nth [] [[I 40], [I 1], [I 3], [I 9], [I 1000]] (gA o23 0).toNat) 0)), I (intOf (nth .dead (nth [] [[I 20], [I 2], [I 3], [I 5], [I 1000]] (gA o24 0).toNat) 0)), I (intOf (nth .dead (nth [] [[I 30], [I 4], [I 5], [I 8], [I 1000]] (gA o25 0).toNat) 0)), I (-16777216), I 16777216, I (intOf (nth .dead (nth [] [[I 0], [I 1], [I 3], [I 6]] (gA o22 0).toNat) 0)), I 0, I 0, .view kInts [], .view kInts (wA o26 1), jA o26 2]
 else
 (M_cncmill_Source_Next [I 400, .view kInts (wA o26 1), jA o26 2]).bind fun o27 =>
 (M_cncmill_Source_Next [I 120, .view kInts (wA o27 1), jA o27 2]).bind fun o28 =>
 (M_cncmill_Source_Next [I 9, .view kInts (wA o28 1), jA o28 2]).bind fun o29 =>
 (N11 [.view kInts [], .view kInts [], jA o26 0, I (IntKind.i64.wrap (gA o29 0 - 4)), I 0, I 0, I 0, I 0, I 0, I 0, I 0, I 0, I 0, I 0, I (intOf (nth .dead (nth [] [[I 8], [I 4], [I 5], [I 16], [I 23], [I 64]] (gA o21 0).toNat) 0)), I (intOf (nth .dead (nth [] [[I 40], [I 1], [I 3], [I 9], [I 1000]] (gA o23 0).toNat) 0)), I (intOf (nth .dead (nth [] [[I 20], [I 2], [I 3], [I 5], [I 1000]] (gA o24 0).toNat) 0)), I (intOf (nth .dead (nth [] [[I 30], [I 4], [I 5], [I 8], [I 1000]] (gA o25 0).toNat) 0)), I (-16777216), I 16777216, I (intOf (nth .dead (nth [] [[I 0], [I 1], [I 3], [I 6]] (gA o22 0).toNat) 0)), I (IntKind.i64.wrap (gA o27 0 - 200)), I (IntKind.i64.wrap (4 + gA o28 0)), .view kInts (wA o29 1), jA o29 2]).bind fun o30 =>
 bif o30.1.beq 1 then
 some [jA o30.2 11, jA o30.2 12, jA o30.2 13, jA o30.2 14, jA o30.2 15, jA o30.2 16, jA o30.2 17, jA o30.2 18, jA o30.2 19, .view kInts (wA o30.2 1), .view kInts (wA o30.2 20), jA o30.2 21]
 else
 none
 else
 none
 else
 none
 else
 none
 else
 none
 else
 none := by kernel_rfl
def l_cncmill_Axis_11 := loopC (st_cncmill_Axis_11 m_cncmill_Source_Next )
def m_cncmill_Axis := mf_cncmill_Axis m_cncmill_Source_Next l_cncmill_Axis_11
theorem sp_cncmill_Axis : SpecOK Tryz.prog (C_cncmill_Axis_0 m_cncmill_Source_Next) := specOK_of rfl ⟨r_cncmill_Source_Next, trivial⟩
theorem r_cncmill_Axis : RowOK Tryz.prog (61, spOf sig_cncmill_Axis osig_cncmill_Axis m_cncmill_Axis) := row_of (C := (C_cncmill_Axis_1 m_cncmill_Source_Next l_cncmill_Axis_11)) (L := 64) (by kernel_rfl) ((FnOK.bare rfl rfl rfl).loop sp_cncmill_Axis eqOk mixOk (by kernel_rfl) (by kernel_rfl)) sp_cncmill_Axis eqOk mixOk (by kernel_rfl) (by kernel_rfl)
def sig_cncmill_From : Sk := { tmps := [tf [CS.sl kInts]], boxes := [], rows := [] }
def osig_cncmill_From : Sk := { tmps := [tf [CS.ptr 5 0]], boxes := [(5, 122, [CS.sl kInts, ci])], rows := [] }
def C_cncmill_From_0 : Cfg := { spec := lookS [], eqOk := eqAll, ownOff := ownOff }
def mf_cncmill_From : Fn := modelF Tryz.prog C_cncmill_From_0 64 60 sig_cncmill_From osig_cncmill_From
theorem mf_cncmill_From_eq (x0 : Rw) : mf_cncmill_From [.view kInts x0] =
 some [.view kInts x0, I 0] := by kernel_rfl
def m_cncmill_From := mf_cncmill_From 
theorem sp_cncmill_From : SpecOK Tryz.prog (C_cncmill_From_0 ) := specOK_of rfl trivial
theorem r_cncmill_From : RowOK Tryz.prog (60, spOf sig_cncmill_From osig_cncmill_From m_cncmill_From) := row_of (C := C_cncmill_From_0) (L := 64) (by kernel_rfl) (FnOK.bare rfl rfl rfl) sp_cncmill_From eqOk mixOk (by kernel_rfl) (by kernel_rfl)
def sig_cncmill_Axes : Sk := { tmps := [tf [CS.sl kInts]], boxes := [], rows := [] }
def osig_cncmill_Axes : Sk := { tmps := [TS.v true [ci, ci, ci, ci, ci, ci, ci, ci, ci, CS.sl kInts, ci, ci, ci, ci, ci, ci, ci, ci, ci, CS.sl kInts, ci, ci, ci, ci, ci, ci, ci, ci, ci, CS.sl kInts]], boxes := [], rows := [] }
def C_cncmill_Axes_0 (M_cncmill_Axis M_cncmill_From : Fn) : Cfg := { spec := lookS [(61, spOf sig_cncmill_Axis osig_cncmill_Axis M_cncmill_Axis), (60, spOf sig_cncmill_From osig_cncmill_From M_cncmill_From)], eqOk := eqAll, pure := fun f => !(elemN [61, 60] f), ownOff := ownOff }
def mf_cncmill_Axes (M_cncmill_Axis M_cncmill_From : Fn) : Fn := modelF Tryz.prog (C_cncmill_Axes_0 M_cncmill_Axis M_cncmill_From) 64 23 sig_cncmill_Axes osig_cncmill_Axes
theorem mf_cncmill_Axes_eq (M_cncmill_Axis M_cncmill_From : Fn) (x0 : Rw) : mf_cncmill_Axes M_cncmill_Axis M_cncmill_From [.view kInts x0] =
 (M_cncmill_From [.view kInts x0]).bind fun o4 =>
 (M_cncmill_Axis [.view kInts (wA o4 0), jA o4 1]).bind fun o5 =>
 (M_cncmill_Axis [.view kInts (wA o5 10), jA o5 11]).bind fun o6 =>
 (M_cncmill_Axis [.view kInts (wA o6 10), jA o6 11]).bind fun o7 =>
 some [jA o5 0, jA o5 1, jA o5 2, jA o5 3, jA o5 4, jA o5 5, jA o5 6, jA o5 7, jA o5 8, .view kInts (wA o5 9), jA o6 0, jA o6 1, jA o6 2, jA o6 3, jA o6 4, jA o6 5, jA o6 6, jA o6 7, jA o6 8, .view kInts (wA o6 9), jA o7 0, jA o7 1, jA o7 2, jA o7 3, jA o7 4, jA o7 5, jA o7 6, jA o7 7, jA o7 8, .view kInts (wA o7 9)] := by kernel_rfl
def m_cncmill_Axes := mf_cncmill_Axes m_cncmill_Axis m_cncmill_From 
theorem sp_cncmill_Axes : SpecOK Tryz.prog (C_cncmill_Axes_0 m_cncmill_Axis m_cncmill_From) := specOK_of rfl ⟨r_cncmill_Axis, r_cncmill_From, trivial⟩
theorem r_cncmill_Axes : RowOK Tryz.prog (23, spOf sig_cncmill_Axes osig_cncmill_Axes m_cncmill_Axes) := row_of (C := (C_cncmill_Axes_0 m_cncmill_Axis m_cncmill_From)) (L := 64) (by kernel_rfl) (FnOK.bare rfl rfl rfl) sp_cncmill_Axes eqOk mixOk (by kernel_rfl) (by kernel_rfl)
def sig_cncref23_Motion : Sk := { tmps := [tf [ci]], boxes := [], rows := [] }
def osig_cncref23_Motion : Sk := { tmps := [tf [CS.bool]], boxes := [], rows := [] }
def C_cncref23_Motion_0 : Cfg := { spec := lookS [], eqOk := eqAll, ownOff := ownOff }
def mf_cncref23_Motion : Fn := modelF Tryz.prog C_cncref23_Motion_0 64 79 sig_cncref23_Motion osig_cncref23_Motion
theorem mf_cncref23_Motion_eq (x0 : Int) : mf_cncref23_Motion [I x0] =
 bif decide (x0 >= 1) then
 some [B (decide (x0 <= 6))]
 else
 some [B false] := by kernel_rfl
def m_cncref23_Motion := mf_cncref23_Motion 
theorem sp_cncref23_Motion : SpecOK Tryz.prog (C_cncref23_Motion_0 ) := specOK_of rfl trivial
theorem r_cncref23_Motion : RowOK Tryz.prog (79, spOf sig_cncref23_Motion osig_cncref23_Motion m_cncref23_Motion) := row_of (C := C_cncref23_Motion_0) (L := 64) (by kernel_rfl) (FnOK.bare rfl rfl rfl) sp_cncref23_Motion eqOk mixOk (by kernel_rfl) (by kernel_rfl)
def sig_cncref25_synchronized : Sk := { tmps := [TS.v true [ci, ci, ci, ci, ci, ci, ci, ci, ci, ci, ci, ci, ci, CS.bool, ci, CS.bool, ci, ci, ci, ci, ci, CS.bool]], boxes := [], rows := [] }
def osig_cncref25_synchronized : Sk := { tmps := [tf [CS.bool]], boxes := [], rows := [] }
def C_cncref25_synchronized_0 : Cfg := { spec := lookS [], eqOk := eqAll, ownOff := ownOff }
def mf_cncref25_synchronized : Fn := modelF Tryz.prog C_cncref25_synchronized_0 64 83 sig_cncref25_synchronized osig_cncref25_synchronized
theorem mf_cncref25_synchronized_eq (x0 x1 x2 x3 x4 x5 x6 x7 x8 x9 x10 x11 x12 : Int) (x13 : Bool) (x14 : Int) (x15 : Bool) (x16 x17 x18 x19 x20 : Int) (x21 : Bool) : mf_cncref25_synchronized [I x0, I x1, I x2, I x3, I x4, I x5, I x6, I x7, I x8, I x9, I x10, I x11, I x12, B x13, I x14, B x15, I x16, I x17, I x18, I x19, I x20, B x21] =
 bif x0 == 5 then
 some [B true]
 else
 some [B (x0 == 6)] := by kernel_rfl
def m_cncref25_synchronized := mf_cncref25_synchronized 
theorem sp_cncref25_synchronized : SpecOK Tryz.prog (C_cncref25_synchronized_0 ) := specOK_of rfl trivial
theorem r_cncref25_synchronized : RowOK Tryz.prog (83, spOf sig_cncref25_synchronized osig_cncref25_synchronized m_cncref25_synchronized) := row_of (C := C_cncref25_synchronized_0) (L := 64) (by kernel_rfl) (FnOK.bare rfl rfl rfl) sp_cncref25_synchronized eqOk mixOk (by kernel_rfl) (by kernel_rfl)
def sig_cncref25_kind : Sk := { tmps := [tf [CS.sl kItm], tf [ci]], boxes := [], rows := [] }
def osig_cncref25_kind : Sk := { tmps := [tf [ci]], boxes := [], rows := [] }
def C_cncref25_kind_0 (M_cncref23_Motion M_cncref25_synchronized : Fn) : Cfg := { spec := lookS [(79, spOf sig_cncref23_Motion osig_cncref23_Motion M_cncref23_Motion), (83, spOf sig_cncref25_synchronized osig_cncref25_synchronized M_cncref25_synchronized)], eqOk := eqAll, ownOff := ownOff }
def sk_cncref25_kind_6 : Sk := { tmps := [tf [CS.sl kItm], td, td, td, td, tf [ci]] ++ dd 38, boxes := [], rows := [] }
def ex_cncref25_kind_6 : List (Ex × Sk) := [(Ex.ret, { tmps := [td, td, td, td, tf [ci]] ++ dd 39, boxes := [], rows := [] }), (Ex.exit 0, { tmps := [td] ++ dd 43, boxes := [], rows := [] })]
def st_cncref25_kind_6 (M_cncref23_Motion M_cncref25_synchronized : Fn) : Lp := stepL Tryz.prog (C_cncref25_kind_0 M_cncref23_Motion M_cncref25_synchronized) 64 6 (bodyOf Tryz.prog 87 6) sk_cncref25_kind_6 ex_cncref25_kind_6
def C_cncref25_kind_1 (M_cncref23_Motion M_cncref25_synchronized : Fn) (N6 : Lp) : Cfg := (C_cncref25_kind_0 M_cncref23_Motion M_cncref25_synchronized).loop 6 sk_cncref25_kind_6 ex_cncref25_kind_6 N6
def mf_cncref25_kind (M_cncref23_Motion M_cncref25_synchronized : Fn) (N6 : Lp) : Fn := modelF Tryz.prog (C_cncref25_kind_1 M_cncref23_Motion M_cncref25_synchronized N6) 64 87 sig_cncref25_kind osig_cncref25_kind
theorem st_cncref25_kind_6_eq (M_cncref23_Motion M_cncref25_synchronized : Fn) (v0 : Rw) (v1 : Int) : st_cncref25_kind_6 M_cncref23_Motion M_cncref25_synchronized [.view kItm v0, I v1] =
 bif decide (v1 < (v0.length : Int)) then
 bif decide (0 <= v1) && decide (v1 < (v0.length : Int)) then
 (M_cncref23_Motion [jA (nth [] v0 v1.toNat) 0]).bind fun o5 =>
 bif bA o5 0 then
 bif decide (0 <= v1) && decide (v1 < (v0.length : Int)) then
 (M_cncref25_synchronized [jA (nth [] v0 v1.toNat) 0, jA (nth [] v0 v1.toNat) 1, jA (nth [] v0 v1.toNat) 2, jA (nth [] v0 v1.toNat) 3, jA (nth [] v0 v1.toNat) 4, jA (nth [] v0 v1.toNat) 5, jA (nth [] v0 v1.toNat) 6, jA (nth [] v0 v1.toNat) 7, jA (nth [] v0 v1.toNat) 8, jA (nth [] v0 v1.toNat) 9, jA (nth [] v0 v1.toNat) 10, jA (nth [] v0 v1.toNat) 11, jA (nth [] v0 v1.toNat) 12, B (bA (nth [] v0 v1.toNat) 13), jA (nth [] v0 v1.toNat) 14, B (bA (nth [] v0 v1.toNat) 15), jA (nth [] v0 v1.toNat) 16, jA (nth [] v0 v1.toNat) 17, jA (nth [] v0 v1.toNat) 18, jA (nth [] v0 v1.toNat) 19, jA (nth [] v0 v1.toNat) 20, B (bA (nth [] v0 v1.toNat) 21)]).bind fun o6 =>
 bif bA o6 0 then
 some (1, [I 1])
 else
 some (2, [])
 else
 none
 else
 some (0, [.view kItm v0, I (IntKind.i64.wrap (v1 + 1))])
 else
 none
 else
 some (2, []) := by kernel_rfl
theorem mf_cncref25_kind_eq (M_cncref23_Motion M_cncref25_synchronized : Fn) (N6 : Lp) (x0 : Rw) (x1 : Int) : mf_cncref25_kind M_cncref23_Motion M_cncref25_synchronized N6 [.view kItm x0, I x1] =
 bif decide (0 <= x1) && decide (x1 < (x0.length : Int)) then
 bif gA (nth [] x0 x1.toNat) 0 == 4 then
 some [I 6]
 else
 bif decide (0 <= x1) && decide (x1 < (x0.length : Int)) then
 bif gA (nth [] x0 x1.toNat) 18 == 0 then
 some [I 1]
 else
 bif decide (0 <= x1) && decide (x1 < (x0.length : Int)) then
 (M_cncref25_synchronized [jA (nth [] x0 x1.toNat) 0, jA (nth [] x0 x1.toNat) 1, jA (nth [] x0 x1.toNat) 2, jA (nth [] x0 x1.toNat) 3, jA (nth [] x0 x1.toNat) 4, jA (nth [] x0 x1.toNat) 5, jA (nth [] x0 x1.toNat) 6, jA (nth [] x0 x1.toNat) 7, jA (nth [] x0 x1.toNat) 8, jA (nth [] x0 x1.toNat) 9, jA (nth [] x0 x1.toNat) 10, jA (nth [] x0 x1.toNat) 11, jA (nth [] x0 x1.toNat) 12, B (bA (nth [] x0 x1.toNat) 13), jA (nth [] x0 x1.toNat) 14, B (bA (nth [] x0 x1.toNat) 15), jA (nth [] x0 x1.toNat) 16, jA (nth [] x0 x1.toNat) 17, jA (nth [] x0 x1.toNat) 18, jA (nth [] x0 x1.toNat) 19, jA (nth [] x0 x1.toNat) 20, B (bA (nth [] x0 x1.toNat) 21)]).bind fun o7 =>
 bif bA o7 0 then
 some [I 1]
 else
 (N6 [.view kItm x0, I (IntKind.i64.wrap (x1 + 1))]).bind fun o8 =>
 bif o8.1.beq 1 then
 some [jA o8.2 0]
 else
 bif o8.1.beq 2 then
 some [I 2]
 else
 none
 else
 none
 else
 none
 else
 none := by kernel_rfl
def l_cncref25_kind_6 := loopC (st_cncref25_kind_6 m_cncref23_Motion m_cncref25_synchronized )
def m_cncref25_kind := mf_cncref25_kind m_cncref23_Motion m_cncref25_synchronized l_cncref25_kind_6
theorem sp_cncref25_kind : SpecOK Tryz.prog (C_cncref25_kind_0 m_cncref23_Motion m_cncref25_synchronized) := specOK_of rfl ⟨r_cncref23_Motion, r_cncref25_synchronized, trivial⟩
theorem r_cncref25_kind : RowOK Tryz.prog (87, spOf sig_cncref25_kind osig_cncref25_kind m_cncref25_kind) := row_of (C := (C_cncref25_kind_1 m_cncref23_Motion m_cncref25_synchronized l_cncref25_kind_6)) (L := 64) (by kernel_rfl) ((FnOK.bare rfl rfl rfl).loop sp_cncref25_kind eqOk mixOk (by kernel_rfl) (by kernel_rfl)) sp_cncref25_kind eqOk mixOk (by kernel_rfl) (by kernel_rfl)
def sig_cncref25_Smooth : Sk := { tmps := [TS.v true [ci, ci, ci, ci, ci, ci, ci, ci, ci, ci, ci, ci, ci, CS.bool, ci, CS.bool, ci, ci, ci, ci, ci, CS.bool]], boxes := [], rows := [] }
def osig_cncref25_Smooth : Sk := { tmps := [tf [CS.bool]], boxes := [], rows := [] }
def C_cncref25_Smooth_0 : Cfg := { spec := lookS [], eqOk := eqAll, ownOff := ownOff }
def mf_cncref25_Smooth : Fn := modelF Tryz.prog C_cncref25_Smooth_0 64 89 sig_cncref25_Smooth osig_cncref25_Smooth
theorem mf_cncref25_Smooth_eq (x0 x1 x2 x3 x4 x5 x6 x7 x8 x9 x10 x11 x12 : Int) (x13 : Bool) (x14 : Int) (x15 : Bool) (x16 x17 x18 x19 x20 : Int) (x21 : Bool) : mf_cncref25_Smooth [I x0, I x1, I x2, I x3, I x4, I x5, I x6, I x7, I x8, I x9, I x10, I x11, I x12, B x13, I x14, B x15, I x16, I x17, I x18, I x19, I x20, B x21] =
 bif x0 == 2 then
 some [B !(x2 == x5 && (x3 == x6 && (x4 == x7 && true)))]
 else
 some [B false] := by kernel_rfl
def m_cncref25_Smooth := mf_cncref25_Smooth 
theorem sp_cncref25_Smooth : SpecOK Tryz.prog (C_cncref25_Smooth_0 ) := specOK_of rfl trivial
theorem r_cncref25_Smooth : RowOK Tryz.prog (89, spOf sig_cncref25_Smooth osig_cncref25_Smooth m_cncref25_Smooth) := row_of (C := C_cncref25_Smooth_0) (L := 64) (by kernel_rfl) (FnOK.bare rfl rfl rfl) sp_cncref25_Smooth eqOk mixOk (by kernel_rfl) (by kernel_rfl)
def sig_cncref25_Soft : Sk := { tmps := [tf [CS.sl kItm], tf [ci]], boxes := [], rows := [] }
def osig_cncref25_Soft : Sk := { tmps := [tf [ci]], boxes := [], rows := [] }
def C_cncref25_Soft_0 (M_cncref25_Smooth : Fn) : Cfg := { spec := lookS [(89, spOf sig_cncref25_Smooth osig_cncref25_Smooth M_cncref25_Smooth)], eqOk := eqAll, ownOff := ownOff }
def sk_cncref25_Soft_4 : Sk := { tmps := [tf [CS.sl kItm], td, td, td, td, tf [ci]] ++ dd 34, boxes := [], rows := [] }
def ex_cncref25_Soft_4 : List (Ex × Sk) := [(Ex.ret, { tmps := [td, td, td, td, tf [ci]] ++ dd 35, boxes := [], rows := [] }), (Ex.exit 0, { tmps := [td] ++ dd 39, boxes := [], rows := [] })]
def st_cncref25_Soft_4 (M_cncref25_Smooth : Fn) : Lp := stepL Tryz.prog (C_cncref25_Soft_0 M_cncref25_Smooth) 64 4 (bodyOf Tryz.prog 86 4) sk_cncref25_Soft_4 ex_cncref25_Soft_4
def C_cncref25_Soft_1 (M_cncref25_Smooth : Fn) (N4 : Lp) : Cfg := (C_cncref25_Soft_0 M_cncref25_Smooth).loop 4 sk_cncref25_Soft_4 ex_cncref25_Soft_4 N4
def mf_cncref25_Soft (M_cncref25_Smooth : Fn) (N4 : Lp) : Fn := modelF Tryz.prog (C_cncref25_Soft_1 M_cncref25_Smooth N4) 64 86 sig_cncref25_Soft osig_cncref25_Soft
theorem st_cncref25_Soft_4_eq (M_cncref25_Smooth : Fn) (v0 : Rw) (v1 : Int) : st_cncref25_Soft_4 M_cncref25_Smooth [.view kItm v0, I v1] =
 bif decide (v1 < (v0.length : Int)) then
 bif decide (0 <= v1) && decide (v1 < (v0.length : Int)) then
 bif gA (nth [] v0 v1.toNat) 0 == 10 then
 some (0, [.view kItm v0, I (IntKind.i64.wrap (v1 + 1))])
 else
 bif decide (0 <= v1) && decide (v1 < (v0.length : Int)) then
 (M_cncref25_Smooth [jA (nth [] v0 v1.toNat) 0, jA (nth [] v0 v1.toNat) 1, jA (nth [] v0 v1.toNat) 2, jA (nth [] v0 v1.toNat) 3, jA (nth [] v0 v1.toNat) 4, jA (nth [] v0 v1.toNat) 5, jA (nth [] v0 v1.toNat) 6, jA (nth [] v0 v1.toNat) 7, jA (nth [] v0 v1.toNat) 8, jA (nth [] v0 v1.toNat) 9, jA (nth [] v0 v1.toNat) 10, jA (nth [] v0 v1.toNat) 11, jA (nth [] v0 v1.toNat) 12, B (bA (nth [] v0 v1.toNat) 13), jA (nth [] v0 v1.toNat) 14, B (bA (nth [] v0 v1.toNat) 15), jA (nth [] v0 v1.toNat) 16, jA (nth [] v0 v1.toNat) 17, jA (nth [] v0 v1.toNat) 18, jA (nth [] v0 v1.toNat) 19, jA (nth [] v0 v1.toNat) 20, B (bA (nth [] v0 v1.toNat) 21)]).bind fun o4 =>
 bif bA o4 0 then
 some (1, [I v1])
 else
 some (1, [I (-1)])
 else
 none
 else
 none
 else
 some (2, []) := by kernel_rfl
theorem mf_cncref25_Soft_eq (M_cncref25_Smooth : Fn) (N4 : Lp) (x0 : Rw) (x1 : Int) : mf_cncref25_Soft M_cncref25_Smooth N4 [.view kItm x0, I x1] =
 bif decide (0 <= x1) && decide (x1 < (x0.length : Int)) then
 (M_cncref25_Smooth [jA (nth [] x0 x1.toNat) 0, jA (nth [] x0 x1.toNat) 1, jA (nth [] x0 x1.toNat) 2, jA (nth [] x0 x1.toNat) 3, jA (nth [] x0 x1.toNat) 4, jA (nth [] x0 x1.toNat) 5, jA (nth [] x0 x1.toNat) 6, jA (nth [] x0 x1.toNat) 7, jA (nth [] x0 x1.toNat) 8, jA (nth [] x0 x1.toNat) 9, jA (nth [] x0 x1.toNat) 10, jA (nth [] x0 x1.toNat) 11, jA (nth [] x0 x1.toNat) 12, B (bA (nth [] x0 x1.toNat) 13), jA (nth [] x0 x1.toNat) 14, B (bA (nth [] x0 x1.toNat) 15), jA (nth [] x0 x1.toNat) 16, jA (nth [] x0 x1.toNat) 17, jA (nth [] x0 x1.toNat) 18, jA (nth [] x0 x1.toNat) 19, jA (nth [] x0 x1.toNat) 20, B (bA (nth [] x0 x1.toNat) 21)]).bind fun o5 =>
 bif !bA o5 0 then
 some [I (-1)]
 else
 bif decide (0 <= x1) && decide (x1 < (x0.length : Int)) then
 bif gA (nth [] x0 x1.toNat) 18 == 0 then
 some [I (-1)]
 else
 (N4 [.view kItm x0, I (IntKind.i64.wrap (x1 + 1))]).bind fun o6 =>
 bif o6.1.beq 1 then
 some [jA o6.2 0]
 else
 bif o6.1.beq 2 then
 some [I (-1)]
 else
 none
 else
 none
 else
 none := by kernel_rfl
def l_cncref25_Soft_4 := loopC (st_cncref25_Soft_4 m_cncref25_Smooth )
def m_cncref25_Soft := mf_cncref25_Soft m_cncref25_Smooth l_cncref25_Soft_4
theorem sp_cncref25_Soft : SpecOK Tryz.prog (C_cncref25_Soft_0 m_cncref25_Smooth) := specOK_of rfl ⟨r_cncref25_Smooth, trivial⟩
theorem r_cncref25_Soft : RowOK Tryz.prog (86, spOf sig_cncref25_Soft osig_cncref25_Soft m_cncref25_Soft) := row_of (C := (C_cncref25_Soft_1 m_cncref25_Smooth l_cncref25_Soft_4)) (L := 64) (by kernel_rfl) ((FnOK.bare rfl rfl rfl).loop sp_cncref25_Soft eqOk mixOk (by kernel_rfl) (by kernel_rfl)) sp_cncref25_Soft eqOk mixOk (by kernel_rfl) (by kernel_rfl)
def sig_cncref23_root : Sk := { tmps := [tf [ci]], boxes := [], rows := [] }
def osig_cncref23_root : Sk := { tmps := [tf [ci]], boxes := [], rows := [] }
def C_cncref23_root_0 : Cfg := { spec := lookS [], eqOk := eqAll, ownOff := ownOff }
def sk_cncref23_root_3 : Sk := { tmps := [tf [ci], td, td, tf [ci], tf [ci]] ++ dd 17, boxes := [], rows := [] }
def ex_cncref23_root_3 : List (Ex × Sk) := [(Ex.exit 0, { tmps := [td, td, td, tf [ci]] ++ dd 18, boxes := [], rows := [] })]
def st_cncref23_root_3 : Lp := stepL Tryz.prog C_cncref23_root_0 64 3 (bodyOf Tryz.prog 117 3) sk_cncref23_root_3 ex_cncref23_root_3
def C_cncref23_root_1 (N3 : Lp) : Cfg := C_cncref23_root_0.loop 3 sk_cncref23_root_3 ex_cncref23_root_3 N3
def mf_cncref23_root (N3 : Lp) : Fn := modelF Tryz.prog (C_cncref23_root_1 N3) 64 117 sig_cncref23_root osig_cncref23_root
theorem st_cncref23_root_3_eq (v0 v1 v2 : Int) : st_cncref23_root_3 [I v0, I v1, I v2] =
 bif decide (v2 > 0) then
 bif decide (IntKind.i64.wrap (IntKind.i64.wrap (v1 + v2) * IntKind.i64.wrap (v1 + v2)) <= v0) then
 some (0, [I v0, I (IntKind.i64.wrap (v1 + v2)), I (v2.fdiv (2 ^ min (Int.toNat 1) IntKind.i64.bits))])
 else
 some (0, [I v0, I v1, I (v2.fdiv (2 ^ min (Int.toNat 1) IntKind.i64.bits))])
 else
 some (1, [I v1]) := by kernel_rfl
theorem mf_cncref23_root_eq (N3 : Lp) (x0 : Int) : mf_cncref23_root N3 [I x0] =
 (N3 [I x0, I 0, I 1073741824]).bind fun o1 =>
 bif o1.1.beq 1 then
 some [jA o1.2 0]
 else
 none := by kernel_rfl
def l_cncref23_root_3 := loopC (st_cncref23_root_3 )
def m_cncref23_root := mf_cncref23_root l_cncref23_root_3
theorem sp_cncref23_root : SpecOK Tryz.prog (C_cncref23_root_0 ) := specOK_of rfl trivial
theorem r_cncref23_root : RowOK Tryz.prog (117, spOf sig_cncref23_root osig_cncref23_root m_cncref23_root) := row_of (C := (C_cncref23_root_1 l_cncref23_root_3)) (L := 64) (by kernel_rfl) ((FnOK.bare rfl rfl rfl).loop sp_cncref23_root eqOk mixOk (by kernel_rfl) (by kernel_rfl)) sp_cncref23_root eqOk mixOk (by kernel_rfl) (by kernel_rfl)
def sig_cncref23_Square : Sk := { tmps := [TS.v true [ci, ci, ci], TS.v true [ci, ci, ci]], boxes := [], rows := [] }
def osig_cncref23_Square : Sk := { tmps := [tf [ci]], boxes := [], rows := [] }
def C_cncref23_Square_0 : Cfg := { spec := lookS [], eqOk := eqAll, ownOff := ownOff, unroll := [3] }
def mf_cncref23_Square : Fn := modelF Tryz.prog C_cncref23_Square_0 64 116 sig_cncref23_Square osig_cncref23_Square
theorem mf_cncref23_Square_eq (x0 x1 x2 x3 x4 x5 : Int) : mf_cncref23_Square [I x0, I x1, I x2, I x3, I x4, I x5] =
 some [I (IntKind.i64.wrap (IntKind.i64.wrap (IntKind.i64.wrap (0 + IntKind.i64.wrap (IntKind.i64.wrap (x0 - x3) * IntKind.i64.wrap (x0 - x3))) + IntKind.i64.wrap (IntKind.i64.wrap (x1 - x4) * IntKind.i64.wrap (x1 - x4))) + IntKind.i64.wrap (IntKind.i64.wrap (x2 - x5) * IntKind.i64.wrap (x2 - x5))))] := by kernel_rfl
def m_cncref23_Square := mf_cncref23_Square 
theorem sp_cncref23_Square : SpecOK Tryz.prog (C_cncref23_Square_0 ) := specOK_of rfl trivial
theorem r_cncref23_Square : RowOK Tryz.prog (116, spOf sig_cncref23_Square osig_cncref23_Square m_cncref23_Square) := row_of (C := C_cncref23_Square_0) (L := 64) (by kernel_rfl) (FnOK.bare rfl rfl rfl) sp_cncref23_Square eqOk mixOk (by kernel_rfl) (by kernel_rfl)
def sig_cncref23_Length : Sk := { tmps := [TS.v true [ci, ci, ci], TS.v true [ci, ci, ci]], boxes := [], rows := [] }
def osig_cncref23_Length : Sk := { tmps := [tf [ci]], boxes := [], rows := [] }
def C_cncref23_Length_0 (M_cncref23_root M_cncref23_Square : Fn) : Cfg := { spec := lookS [(117, spOf sig_cncref23_root osig_cncref23_root M_cncref23_root), (116, spOf sig_cncref23_Square osig_cncref23_Square M_cncref23_Square)], eqOk := eqAll, ownOff := ownOff }
def mf_cncref23_Length (M_cncref23_root M_cncref23_Square : Fn) : Fn := modelF Tryz.prog (C_cncref23_Length_0 M_cncref23_root M_cncref23_Square) 64 85 sig_cncref23_Length osig_cncref23_Length
theorem mf_cncref23_Length_eq (M_cncref23_root M_cncref23_Square : Fn) (x0 x1 x2 x3 x4 x5 : Int) : mf_cncref23_Length M_cncref23_root M_cncref23_Square [I x0, I x1, I x2, I x3, I x4, I x5] =
 (M_cncref23_Square [I x0, I x1, I x2, I x3, I x4, I x5]).bind fun o2 =>
 (M_cncref23_root [jA o2 0]).bind fun o3 =>
 bif decide (IntKind.i64.wrap (gA o3 0 * gA o3 0) < gA o2 0) then
 some [I (IntKind.i64.wrap (gA o3 0 + 1))]
 else
 some [jA o3 0] := by kernel_rfl
def m_cncref23_Length := mf_cncref23_Length m_cncref23_root m_cncref23_Square 
theorem sp_cncref23_Length : SpecOK Tryz.prog (C_cncref23_Length_0 m_cncref23_root m_cncref23_Square) := specOK_of rfl ⟨r_cncref23_root, r_cncref23_Square, trivial⟩
theorem r_cncref23_Length : RowOK Tryz.prog (85, spOf sig_cncref23_Length osig_cncref23_Length m_cncref23_Length) := row_of (C := (C_cncref23_Length_0 m_cncref23_root m_cncref23_Square)) (L := 64) (by kernel_rfl) (FnOK.bare rfl rfl rfl) sp_cncref23_Length eqOk mixOk (by kernel_rfl) (by kernel_rfl)
def sig_cncref25_Center : Sk := { tmps := [TS.v true [ci, ci, ci, ci, ci, ci, ci, ci, ci, ci, ci, ci, ci, CS.bool, ci, CS.bool, ci, ci, ci, ci, ci, CS.bool]], boxes := [], rows := [] }
def osig_cncref25_Center : Sk := { tmps := [TS.v true [ci, ci, ci]], boxes := [], rows := [] }
def C_cncref25_Center_0 : Cfg := { spec := lookS [], eqOk := eqAll, ownOff := ownOff }
def mf_cncref25_Center : Fn := modelF Tryz.prog C_cncref25_Center_0 64 90 sig_cncref25_Center osig_cncref25_Center
theorem mf_cncref25_Center_eq (x0 x1 x2 x3 x4 x5 x6 x7 x8 x9 x10 x11 x12 : Int) (x13 : Bool) (x14 : Int) (x15 : Bool) (x16 x17 x18 x19 x20 : Int) (x21 : Bool) : mf_cncref25_Center [I x0, I x1, I x2, I x3, I x4, I x5, I x6, I x7, I x8, I x9, I x10, I x11, I x12, B x13, I x14, B x15, I x16, I x17, I x18, I x19, I x20, B x21] =
 some [I (IntKind.i64.wrap (IntKind.i64.wrap (x2 + x5) * 8)), I (IntKind.i64.wrap (IntKind.i64.wrap (x3 + x6) * 8)), I (IntKind.i64.wrap (IntKind.i64.wrap (x4 + x7) * 8))] := by kernel_rfl
def m_cncref25_Center := mf_cncref25_Center 
theorem sp_cncref25_Center : SpecOK Tryz.prog (C_cncref25_Center_0 ) := specOK_of rfl trivial
theorem r_cncref25_Center : RowOK Tryz.prog (90, spOf sig_cncref25_Center osig_cncref25_Center m_cncref25_Center) := row_of (C := C_cncref25_Center_0) (L := 64) (by kernel_rfl) (FnOK.bare rfl rfl rfl) sp_cncref25_Center eqOk mixOk (by kernel_rfl) (by kernel_rfl)
def sig_cncref24_Add : Sk := { tmps := [TS.v true [ci, ci, ci], TS.v true [ci, ci, ci]], boxes := [], rows := [] }
def osig_cncref24_Add : Sk := { tmps := [TS.v true [ci, ci, ci]], boxes := [], rows := [] }
def C_cncref24_Add_0 : Cfg := { spec := lookS [], eqOk := eqAll, ownOff := ownOff }
def mf_cncref24_Add : Fn := modelF Tryz.prog C_cncref24_Add_0 64 185 sig_cncref24_Add osig_cncref24_Add
theorem mf_cncref24_Add_eq (x0 x1 x2 x3 x4 x5 : Int) : mf_cncref24_Add [I x0, I x1, I x2, I x3, I x4, I x5] =
 some [I (IntKind.i64.wrap (x0 + x3)), I (IntKind.i64.wrap (x1 + x4)), I (IntKind.i64.wrap (x2 + x5))] := by kernel_rfl
def m_cncref24_Add := mf_cncref24_Add 
theorem sp_cncref24_Add : SpecOK Tryz.prog (C_cncref24_Add_0 ) := specOK_of rfl trivial
theorem r_cncref24_Add : RowOK Tryz.prog (185, spOf sig_cncref24_Add osig_cncref24_Add m_cncref24_Add) := row_of (C := C_cncref24_Add_0) (L := 64) (by kernel_rfl) (FnOK.bare rfl rfl rfl) sp_cncref24_Add eqOk mixOk (by kernel_rfl) (by kernel_rfl)
def sig_cncref24_Minus : Sk := { tmps := [TS.v true [ci, ci, ci], TS.v true [ci, ci, ci]], boxes := [], rows := [] }
def osig_cncref24_Minus : Sk := { tmps := [TS.v true [ci, ci, ci]], boxes := [], rows := [] }
def C_cncref24_Minus_0 : Cfg := { spec := lookS [], eqOk := eqAll, ownOff := ownOff }
def mf_cncref24_Minus : Fn := modelF Tryz.prog C_cncref24_Minus_0 64 186 sig_cncref24_Minus osig_cncref24_Minus
theorem mf_cncref24_Minus_eq (x0 x1 x2 x3 x4 x5 : Int) : mf_cncref24_Minus [I x0, I x1, I x2, I x3, I x4, I x5] =
 some [I (IntKind.i64.wrap (x0 - x3)), I (IntKind.i64.wrap (x1 - x4)), I (IntKind.i64.wrap (x2 - x5))] := by kernel_rfl
def m_cncref24_Minus := mf_cncref24_Minus 
theorem sp_cncref24_Minus : SpecOK Tryz.prog (C_cncref24_Minus_0 ) := specOK_of rfl trivial
theorem r_cncref24_Minus : RowOK Tryz.prog (186, spOf sig_cncref24_Minus osig_cncref24_Minus m_cncref24_Minus) := row_of (C := C_cncref24_Minus_0) (L := 64) (by kernel_rfl) (FnOK.bare rfl rfl rfl) sp_cncref24_Minus eqOk mixOk (by kernel_rfl) (by kernel_rfl)
def sig_cncref24_Bend : Sk := { tmps := [TS.v true [ci, ci, ci], TS.v true [ci, ci, ci], TS.v true [ci, ci, ci]], boxes := [], rows := [] }
def osig_cncref24_Bend : Sk := { tmps := [tf [ci]], boxes := [], rows := [] }
def C_cncref24_Bend_0 (M_cncref23_Square M_cncref24_Add M_cncref24_Minus : Fn) : Cfg := { spec := lookS [(116, spOf sig_cncref23_Square osig_cncref23_Square M_cncref23_Square), (185, spOf sig_cncref24_Add osig_cncref24_Add M_cncref24_Add), (186, spOf sig_cncref24_Minus osig_cncref24_Minus M_cncref24_Minus)], eqOk := eqAll, ownOff := ownOff }
def mf_cncref24_Bend (M_cncref23_Square M_cncref24_Add M_cncref24_Minus : Fn) : Fn := modelF Tryz.prog (C_cncref24_Bend_0 M_cncref23_Square M_cncref24_Add M_cncref24_Minus) 64 173 sig_cncref24_Bend osig_cncref24_Bend
theorem mf_cncref24_Bend_eq (M_cncref23_Square M_cncref24_Add M_cncref24_Minus : Fn) (x0 x1 x2 x3 x4 x5 x6 x7 x8 : Int) : mf_cncref24_Bend M_cncref23_Square M_cncref24_Add M_cncref24_Minus [I x0, I x1, I x2, I x3, I x4, I x5, I x6, I x7, I x8] =
 (M_cncref24_Minus [I x0, I x1, I x2, I x3, I x4, I x5]).bind fun o4 =>
 (M_cncref24_Minus [I x6, I x7, I x8, I x3, I x4, I x5]).bind fun o5 =>
 (M_cncref24_Add [jA o4 0, jA o4 1, jA o4 2, jA o5 0, jA o5 1, jA o5 2]).bind fun o6 =>
 (M_cncref23_Square [jA o6 0, jA o6 1, jA o6 2, I 0, I 0, I 0]).bind fun o7 =>
 some [jA o7 0] := by kernel_rfl
def m_cncref24_Bend := mf_cncref24_Bend m_cncref23_Square m_cncref24_Add m_cncref24_Minus 
theorem sp_cncref24_Bend : SpecOK Tryz.prog (C_cncref24_Bend_0 m_cncref23_Square m_cncref24_Add m_cncref24_Minus) := specOK_of rfl ⟨r_cncref23_Square, r_cncref24_Add, r_cncref24_Minus, trivial⟩
theorem r_cncref24_Bend : RowOK Tryz.prog (173, spOf sig_cncref24_Bend osig_cncref24_Bend m_cncref24_Bend) := row_of (C := (C_cncref24_Bend_0 m_cncref23_Square m_cncref24_Add m_cncref24_Minus)) (L := 64) (by kernel_rfl) (FnOK.bare rfl rfl rfl) sp_cncref24_Bend eqOk mixOk (by kernel_rfl) (by kernel_rfl)
def sig_cncref24_Pieces : Sk := { tmps := [TS.v true [ci, ci, ci], TS.v true [ci, ci, ci], TS.v true [ci, ci, ci]], boxes := [], rows := [] }
def osig_cncref24_Pieces : Sk := { tmps := [tf [ci]], boxes := [], rows := [] }
def C_cncref24_Pieces_0 (M_cncref24_Bend : Fn) : Cfg := { spec := lookS [(173, spOf sig_cncref24_Bend osig_cncref24_Bend M_cncref24_Bend)], eqOk := eqAll, ownOff := ownOff }
def sk_cncref24_Pieces_2 : Sk := { tmps := [td, td, td, tf [CS.ptr 3 0], tf [CS.ptr 4 0], tf [CS.ptr 5 0], td, tf [ci]] ++ dd 22, boxes := [(3, 25, [ci, ci, ci]), (4, 25, [ci, ci, ci]), (5, 25, [ci, ci, ci])], rows := [] }
def ex_cncref24_Pieces_2 : List (Ex × Sk) := [(Ex.exit 0, { tmps := [td, td, td, td, td, td, td, tf [ci]] ++ dd 22, boxes := [], rows := [] })]
def st_cncref24_Pieces_2 (M_cncref24_Bend : Fn) : Lp := stepL Tryz.prog (C_cncref24_Pieces_0 M_cncref24_Bend) 64 2 (bodyOf Tryz.prog 155 2) sk_cncref24_Pieces_2 ex_cncref24_Pieces_2
def C_cncref24_Pieces_1 (M_cncref24_Bend : Fn) (N2 : Lp) : Cfg := (C_cncref24_Pieces_0 M_cncref24_Bend).loop 2 sk_cncref24_Pieces_2 ex_cncref24_Pieces_2 N2
def mf_cncref24_Pieces (M_cncref24_Bend : Fn) (N2 : Lp) : Fn := modelF Tryz.prog (C_cncref24_Pieces_1 M_cncref24_Bend N2) 64 155 sig_cncref24_Pieces osig_cncref24_Pieces
theorem st_cncref24_Pieces_2_eq (M_cncref24_Bend : Fn) (v0 v1 v2 v3 v4 v5 v6 v7 v8 v9 : Int) : st_cncref24_Pieces_2 M_cncref24_Bend [I v0, I v1, I v2, I v3, I v4, I v5, I v6, I v7, I v8, I v9] =
 bif decide (v0 < 64) then
 (M_cncref24_Bend [I v1, I v2, I v3, I v4, I v5, I v6, I v7, I v8, I v9]).bind fun o2 =>
 bif decide (gA o2 0 > IntKind.i64.wrap (IntKind.i64.wrap (IntKind.i64.wrap (IntKind.i64.wrap (IntKind.i64.wrap (IntKind.i64.wrap (16 * v0) * v0) * v0) * v0) * 4) * 4)) then
 some (0, [I (IntKind.i64.wrap (v0 * 2)), I v1, I v2, I v3, I v4, I v5, I v6, I v7, I v8, I v9])
 else
 some (1, [I v0])
 else
 some (1, [I v0]) := by kernel_rfl
theorem mf_cncref24_Pieces_eq (M_cncref24_Bend : Fn) (N2 : Lp) (x0 x1 x2 x3 x4 x5 x6 x7 x8 : Int) : mf_cncref24_Pieces M_cncref24_Bend N2 [I x0, I x1, I x2, I x3, I x4, I x5, I x6, I x7, I x8] =
 (N2 [I 2, I x0, I x1, I x2, I x3, I x4, I x5, I x6, I x7, I x8]).bind fun o3 =>
 bif o3.1.beq 1 then
 some [jA o3.2 0]
 else
 none := by kernel_rfl
def l_cncref24_Pieces_2 := loopC (st_cncref24_Pieces_2 m_cncref24_Bend )
def m_cncref24_Pieces := mf_cncref24_Pieces m_cncref24_Bend l_cncref24_Pieces_2
theorem sp_cncref24_Pieces : SpecOK Tryz.prog (C_cncref24_Pieces_0 m_cncref24_Bend) := specOK_of rfl ⟨r_cncref24_Bend, trivial⟩
theorem r_cncref24_Pieces : RowOK Tryz.prog (155, spOf sig_cncref24_Pieces osig_cncref24_Pieces m_cncref24_Pieces) := row_of (C := (C_cncref24_Pieces_1 m_cncref24_Bend l_cncref24_Pieces_2)) (L := 64) (by kernel_rfl) ((FnOK.bare rfl rfl rfl).loop sp_cncref24_Pieces eqOk mixOk (by kernel_rfl) (by kernel_rfl)) sp_cncref24_Pieces eqOk mixOk (by kernel_rfl) (by kernel_rfl)
def sig_cncref23_product : Sk := { tmps := [tf [CS.int .u64], tf [CS.int .u64]], boxes := [], rows := [] }
def osig_cncref23_product : Sk := { tmps := [TS.tup [(false, [CS.int .u64]), (false, [CS.int .u64])]], boxes := [], rows := [] }
def C_cncref23_product_0 : Cfg := { spec := lookS [], eqOk := eqAll, ownOff := ownOff }
def mf_cncref23_product : Fn := modelF Tryz.prog C_cncref23_product_0 64 192 sig_cncref23_product osig_cncref23_product
theorem mf_cncref23_product_eq (x0 x1 : Int) : mf_cncref23_product [U x0, U x1] =
 some [U (IntKind.u64.wrap (IntKind.u64.wrap (IntKind.u64.wrap (x0.fdiv (2 ^ min (Int.toNat 32) IntKind.u64.bits) * x1.fdiv (2 ^ min (Int.toNat 32) IntKind.u64.bits)) + (IntKind.u64.wrap (IntKind.u64.wrap (x0.fdiv (2 ^ min (Int.toNat 32) IntKind.u64.bits) * IntKind.u64.wrap (↑(BitVec.ofInt IntKind.u64.bits x1 &&& BitVec.ofInt IntKind.u64.bits 4294967295).toNat : Int)) + (IntKind.u64.wrap (IntKind.u64.wrap (↑(BitVec.ofInt IntKind.u64.bits x0 &&& BitVec.ofInt IntKind.u64.bits 4294967295).toNat : Int) * IntKind.u64.wrap (↑(BitVec.ofInt IntKind.u64.bits x1 &&& BitVec.ofInt IntKind.u64.bits 4294967295).toNat : Int))).fdiv (2 ^ min (Int.toNat 32) IntKind.u64.bits))).fdiv (2 ^ min (Int.toNat 32) IntKind.u64.bits)) + (IntKind.u64.wrap (IntKind.u64.wrap (IntKind.u64.wrap (↑(BitVec.ofInt IntKind.u64.bits x0 &&& BitVec.ofInt IntKind.u64.bits 4294967295).toNat : Int) * x1.fdiv (2 ^ min (Int.toNat 32) IntKind.u64.bits)) + IntKind.u64.wrap (↑(BitVec.ofInt IntKind.u64.bits (IntKind.u64.wrap (IntKind.u64.wrap (x0.fdiv (2 ^ min (Int.toNat 32) IntKind.u64.bits) * IntKind.u64.wrap (↑(BitVec.ofInt IntKind.u64.bits x1 &&& BitVec.ofInt IntKind.u64.bits 4294967295).toNat : Int)) + (IntKind.u64.wrap (IntKind.u64.wrap (↑(BitVec.ofInt IntKind.u64.bits x0 &&& BitVec.ofInt IntKind.u64.bits 4294967295).toNat : Int) * IntKind.u64.wrap (↑(BitVec.ofInt IntKind.u64.bits x1 &&& BitVec.ofInt IntKind.u64.bits 4294967295).toNat : Int))).fdiv (2 ^ min (Int.toNat 32) IntKind.u64.bits))) &&& BitVec.ofInt IntKind.u64.bits 4294967295).toNat : Int))).fdiv (2 ^ min (Int.toNat 32) IntKind.u64.bits))), U (IntKind.u64.wrap (↑(BitVec.ofInt IntKind.u64.bits (IntKind.u64.wrap (IntKind.u64.wrap (IntKind.u64.wrap (IntKind.u64.wrap (↑(BitVec.ofInt IntKind.u64.bits x0 &&& BitVec.ofInt IntKind.u64.bits 4294967295).toNat : Int) * x1.fdiv (2 ^ min (Int.toNat 32) IntKind.u64.bits)) + IntKind.u64.wrap (↑(BitVec.ofInt IntKind.u64.bits (IntKind.u64.wrap (IntKind.u64.wrap (x0.fdiv (2 ^ min (Int.toNat 32) IntKind.u64.bits) * IntKind.u64.wrap (↑(BitVec.ofInt IntKind.u64.bits x1 &&& BitVec.ofInt IntKind.u64.bits 4294967295).toNat : Int)) + (IntKind.u64.wrap (IntKind.u64.wrap (↑(BitVec.ofInt IntKind.u64.bits x0 &&& BitVec.ofInt IntKind.u64.bits 4294967295).toNat : Int) * IntKind.u64.wrap (↑(BitVec.ofInt IntKind.u64.bits x1 &&& BitVec.ofInt IntKind.u64.bits 4294967295).toNat : Int))).fdiv (2 ^ min (Int.toNat 32) IntKind.u64.bits))) &&& BitVec.ofInt IntKind.u64.bits 4294967295).toNat : Int)) * 2 ^ min (Int.toNat 32) IntKind.u64.bits)) ||| BitVec.ofInt IntKind.u64.bits (IntKind.u64.wrap (↑(BitVec.ofInt IntKind.u64.bits (IntKind.u64.wrap (IntKind.u64.wrap (↑(BitVec.ofInt IntKind.u64.bits x0 &&& BitVec.ofInt IntKind.u64.bits 4294967295).toNat : Int) * IntKind.u64.wrap (↑(BitVec.ofInt IntKind.u64.bits x1 &&& BitVec.ofInt IntKind.u64.bits 4294967295).toNat : Int))) &&& BitVec.ofInt IntKind.u64.bits 4294967295).toNat : Int))).toNat : Int))] := by kernel_rfl
def m_cncref23_product := mf_cncref23_product 
theorem sp_cncref23_product : SpecOK Tryz.prog (C_cncref23_product_0 ) := specOK_of rfl trivial
theorem r_cncref23_product : RowOK Tryz.prog (192, spOf sig_cncref23_product osig_cncref23_product m_cncref23_product) := row_of (C := C_cncref23_product_0) (L := 64) (by kernel_rfl) (FnOK.bare rfl rfl rfl) sp_cncref23_product eqOk mixOk (by kernel_rfl) (by kernel_rfl)
def sig_cncref23_most : Sk := { tmps := [tf [CS.int .u64], tf [CS.int .u64], tf [CS.int .u64], tf [CS.int .u64], tf [CS.bool]], boxes := [], rows := [] }
def osig_cncref23_most : Sk := { tmps := [tf [CS.bool]], boxes := [], rows := [] }
def C_cncref23_most_0 (M_cncref23_product : Fn) : Cfg := { spec := lookS [(192, spOf sig_cncref23_product osig_cncref23_product M_cncref23_product)], eqOk := eqAll, ownOff := ownOff }
def mf_cncref23_most (M_cncref23_product : Fn) : Fn := modelF Tryz.prog (C_cncref23_most_0 M_cncref23_product) 64 184 sig_cncref23_most osig_cncref23_most
theorem mf_cncref23_most_eq (M_cncref23_product : Fn) (x0 x1 x2 x3 : Int) (x4 : Bool) : mf_cncref23_most M_cncref23_product [U x0, U x1, U x2, U x3, B x4] =
 (M_cncref23_product [U x0, U x1]).bind fun o2 =>
 (M_cncref23_product [U x2, U x3]).bind fun o3 =>
 bif decide (gA o2 0 < gA o3 0) then
 some [B true]
 else
 bif gA o2 0 == gA o3 0 then
 bif decide (gA o2 1 < gA o3 1) then
 some [B true]
 else
 bif gA o2 1 == gA o3 1 then
 some [B !x4]
 else
 some [B false]
 else
 some [B false] := by kernel_rfl
def m_cncref23_most := mf_cncref23_most m_cncref23_product 
theorem sp_cncref23_most : SpecOK Tryz.prog (C_cncref23_most_0 m_cncref23_product) := specOK_of rfl ⟨r_cncref23_product, trivial⟩
theorem r_cncref23_most : RowOK Tryz.prog (184, spOf sig_cncref23_most osig_cncref23_most m_cncref23_most) := row_of (C := (C_cncref23_most_0 m_cncref23_product)) (L := 64) (by kernel_rfl) (FnOK.bare rfl rfl rfl) sp_cncref23_most eqOk mixOk (by kernel_rfl) (by kernel_rfl)
def sig_cncref23_Near : Sk := { tmps := [tf [ci], tf [ci], tf [ci]], boxes := [], rows := [] }
def osig_cncref23_Near : Sk := { tmps := [tf [ci]], boxes := [], rows := [] }
def C_cncref23_Near_0 (M_cncref23_most : Fn) : Cfg := { spec := lookS [(184, spOf sig_cncref23_most osig_cncref23_most M_cncref23_most)], eqOk := eqAll, ownOff := ownOff }
def sk_cncref23_Near_3 : Sk := { tmps := [tf [ci], td, td, td, td, td, td, tf [CS.int .u64], tf [CS.int .u64], tf [CS.int .u64], tf [CS.int .u64]] ++ dd 51, boxes := [], rows := [] }
def ex_cncref23_Near_3 : List (Ex × Sk) := [(Ex.exit 0, { tmps := [tf [ci], td, td, td, td, td, td, tf [CS.int .u64], tf [CS.int .u64], tf [CS.int .u64]] ++ dd 52, boxes := [], rows := [] })]
def st_cncref23_Near_3 (M_cncref23_most : Fn) : Lp := stepL Tryz.prog (C_cncref23_Near_0 M_cncref23_most) 64 3 (bodyOf Tryz.prog 172 3) sk_cncref23_Near_3 ex_cncref23_Near_3
def C_cncref23_Near_1 (M_cncref23_most : Fn) (N3 : Lp) : Cfg := (C_cncref23_Near_0 M_cncref23_most).loop 3 sk_cncref23_Near_3 ex_cncref23_Near_3 N3
def mf_cncref23_Near (M_cncref23_most : Fn) (N3 : Lp) : Fn := modelF Tryz.prog (C_cncref23_Near_1 M_cncref23_most N3) 64 172 sig_cncref23_Near osig_cncref23_Near
theorem st_cncref23_Near_3_eq (M_cncref23_most : Fn) (v0 v1 v2 v3 v4 : Int) : st_cncref23_Near_3 M_cncref23_most [I v0, U v1, U v2, U v3, U v4] =
 bif decide (v4 > 0) then
 (M_cncref23_most [U (IntKind.u64.wrap (IntKind.u64.wrap (v3 + v4) * IntKind.u64.wrap (v3 + v4))), U v2, U v1, U v1, B false]).bind fun o3 =>
 bif bA o3 0 then
 some (0, [I v0, U v1, U v2, U (IntKind.u64.wrap (v3 + v4)), U (v4.fdiv (2 ^ min (Int.toNat 1) IntKind.u64.bits))])
 else
 some (0, [I v0, U v1, U v2, U v3, U (v4.fdiv (2 ^ min (Int.toNat 1) IntKind.u64.bits))])
 else
 some (1, [I v0, U v1, U v2, U v3]) := by kernel_rfl
theorem mf_cncref23_Near_eq (M_cncref23_most : Fn) (N3 : Lp) (x0 x1 x2 : Int) : mf_cncref23_Near M_cncref23_most N3 [I x0, I x1, I x2] =
 (N3 [I x0, U (IntKind.u64.wrap (IntKind.i64.wrap (mx x0 (IntKind.i64.wrap (0 - x0)) * x1))), U (IntKind.u64.wrap x2), U 0, U 134217728]).bind fun o4 =>
 bif o4.1.beq 1 then
 (M_cncref23_most [U (IntKind.u64.wrap (IntKind.u64.wrap (IntKind.u64.wrap (2 * gA o4.2 3) + 1) * IntKind.u64.wrap (IntKind.u64.wrap (2 * gA o4.2 3) + 1))), U (gA o4.2 2), U (IntKind.u64.wrap (2 * gA o4.2 1)), U (IntKind.u64.wrap (2 * gA o4.2 1)), B (decide (gA o4.2 0 < 0))]).bind fun o5 =>
 bif bA o5 0 then
 bif decide (gA o4.2 0 < 0) then
 some [I (IntKind.i64.wrap (0 - IntKind.i64.wrap (IntKind.u64.wrap (gA o4.2 3 + 1))))]
 else
 some [I (IntKind.i64.wrap (IntKind.u64.wrap (gA o4.2 3 + 1)))]
 else
 bif decide (gA o4.2 0 < 0) then
 some [I (IntKind.i64.wrap (0 - IntKind.i64.wrap (gA o4.2 3)))]
 else
 some [I (IntKind.i64.wrap (gA o4.2 3))]
 else
 none := by kernel_rfl
def l_cncref23_Near_3 := loopC (st_cncref23_Near_3 m_cncref23_most )
def m_cncref23_Near := mf_cncref23_Near m_cncref23_most l_cncref23_Near_3
theorem sp_cncref23_Near : SpecOK Tryz.prog (C_cncref23_Near_0 m_cncref23_most) := specOK_of rfl ⟨r_cncref23_most, trivial⟩
theorem r_cncref23_Near : RowOK Tryz.prog (172, spOf sig_cncref23_Near osig_cncref23_Near m_cncref23_Near) := row_of (C := (C_cncref23_Near_1 m_cncref23_most l_cncref23_Near_3)) (L := 64) (by kernel_rfl) ((FnOK.bare rfl rfl rfl).loop sp_cncref23_Near eqOk mixOk (by kernel_rfl) (by kernel_rfl)) sp_cncref23_Near eqOk mixOk (by kernel_rfl) (by kernel_rfl)
def sig_cncref24_Toward : Sk := { tmps := [TS.v true [ci, ci, ci], TS.v true [ci, ci, ci], tf [ci]], boxes := [], rows := [] }
def osig_cncref24_Toward : Sk := { tmps := [TS.tup [(true, [ci, ci, ci]), (false, [CS.bool])]], boxes := [], rows := [] }
def C_cncref24_Toward_0 (M_cncref23_Near M_cncref23_Square : Fn) : Cfg := { spec := lookS [(172, spOf sig_cncref23_Near osig_cncref23_Near M_cncref23_Near), (116, spOf sig_cncref23_Square osig_cncref23_Square M_cncref23_Square)], eqOk := eqAll, ownOff := ownOff, unroll := [6] }
def mf_cncref24_Toward (M_cncref23_Near M_cncref23_Square : Fn) : Fn := modelF Tryz.prog (C_cncref24_Toward_0 M_cncref23_Near M_cncref23_Square) 64 154 sig_cncref24_Toward osig_cncref24_Toward
theorem mf_cncref24_Toward_eq (M_cncref23_Near M_cncref23_Square : Fn) (x0 x1 x2 x3 x4 x5 x6 : Int) : mf_cncref24_Toward M_cncref23_Near M_cncref23_Square [I x0, I x1, I x2, I x3, I x4, I x5, I x6] =
 (M_cncref23_Square [I x3, I x4, I x5, I x0, I x1, I x2]).bind fun o4 =>
 bif gA o4 0 == 0 then
 some [I 0, I 0, I 0, B false]
 else
 bif decide (x6 < 0) then
 some [I 0, I 0, I 0, B false]
 else
 bif decide (x6 > 33554432) then
 some [I 0, I 0, I 0, B false]
 else
 (M_cncref23_Near [I (IntKind.i64.wrap (x3 - x0)), I x6, jA o4 0]).bind fun o5 =>
 (M_cncref23_Near [I (IntKind.i64.wrap (x4 - x1)), I x6, jA o4 0]).bind fun o6 =>
 (M_cncref23_Near [I (IntKind.i64.wrap (x5 - x2)), I x6, jA o4 0]).bind fun o7 =>
 some [I (IntKind.i64.wrap (x0 + gA o5 0)), I (IntKind.i64.wrap (x1 + gA o6 0)), I (IntKind.i64.wrap (x2 + gA o7 0)), B true] := by kernel_rfl
def m_cncref24_Toward := mf_cncref24_Toward m_cncref23_Near m_cncref23_Square 
theorem sp_cncref24_Toward : SpecOK Tryz.prog (C_cncref24_Toward_0 m_cncref23_Near m_cncref23_Square) := specOK_of rfl ⟨r_cncref23_Near, r_cncref23_Square, trivial⟩
theorem r_cncref24_Toward : RowOK Tryz.prog (154, spOf sig_cncref24_Toward osig_cncref24_Toward m_cncref24_Toward) := row_of (C := (C_cncref24_Toward_0 m_cncref23_Near m_cncref23_Square)) (L := 64) (by kernel_rfl) (FnOK.bare rfl rfl rfl) sp_cncref24_Toward eqOk mixOk (by kernel_rfl) (by kernel_rfl)
def sig_cncref24_permitted : Sk := { tmps := [TS.v true [ci, ci, ci], TS.v true [ci, ci, ci], TS.v true [ci, ci, ci], tf [ci], tf [ci]], boxes := [], rows := [] }
def osig_cncref24_permitted : Sk := { tmps := [tf [CS.bool]], boxes := [], rows := [] }
def C_cncref24_permitted_0 (M_cncref24_Bend M_cncref24_Toward M_cncref23_Length : Fn) : Cfg := { spec := lookS [(173, spOf sig_cncref24_Bend osig_cncref24_Bend M_cncref24_Bend), (154, spOf sig_cncref24_Toward osig_cncref24_Toward M_cncref24_Toward), (85, spOf sig_cncref23_Length osig_cncref23_Length M_cncref23_Length)], eqOk := eqAll, ownOff := ownOff }
def mf_cncref24_permitted (M_cncref24_Bend M_cncref24_Toward M_cncref23_Length : Fn) : Fn := modelF Tryz.prog (C_cncref24_permitted_0 M_cncref24_Bend M_cncref24_Toward M_cncref23_Length) 64 171 sig_cncref24_permitted osig_cncref24_permitted
theorem mf_cncref24_permitted_eq (M_cncref24_Bend M_cncref24_Toward M_cncref23_Length : Fn) (x0 x1 x2 x3 x4 x5 x6 x7 x8 x9 x10 : Int) : mf_cncref24_permitted M_cncref24_Bend M_cncref24_Toward M_cncref23_Length [I x0, I x1, I x2, I x3, I x4, I x5, I x6, I x7, I x8, I x9, I x10] =
 (M_cncref23_Length [I x0, I x1, I x2, I x3, I x4, I x5]).bind fun o5 =>
 (M_cncref23_Length [I x3, I x4, I x5, I x6, I x7, I x8]).bind fun o6 =>
 bif decide (x10 > IntKind.i64.wrap (mn (gA o5 0) (gA o6 0) - 2)) then
 some [B false]
 else
 (M_cncref24_Toward [I x3, I x4, I x5, I x0, I x1, I x2, I x10]).bind fun o7 =>
 (M_cncref24_Toward [I x3, I x4, I x5, I x6, I x7, I x8, I x10]).bind fun o8 =>
 (M_cncref24_Bend [jA o7 0, jA o7 1, jA o7 2, I x3, I x4, I x5, jA o8 0, jA o8 1, jA o8 2]).bind fun o9 =>
 some [B (decide (gA o9 0 <= IntKind.i64.wrap (IntKind.i64.wrap (16 * x9) * x9)))] := by kernel_rfl
def m_cncref24_permitted := mf_cncref24_permitted m_cncref24_Bend m_cncref24_Toward m_cncref23_Length 
theorem sp_cncref24_permitted : SpecOK Tryz.prog (C_cncref24_permitted_0 m_cncref24_Bend m_cncref24_Toward m_cncref23_Length) := specOK_of rfl ⟨r_cncref24_Bend, r_cncref24_Toward, r_cncref23_Length, trivial⟩
theorem r_cncref24_permitted : RowOK Tryz.prog (171, spOf sig_cncref24_permitted osig_cncref24_permitted m_cncref24_permitted) := row_of (C := (C_cncref24_permitted_0 m_cncref24_Bend m_cncref24_Toward m_cncref23_Length)) (L := 64) (by kernel_rfl) (FnOK.bare rfl rfl rfl) sp_cncref24_permitted eqOk mixOk (by kernel_rfl) (by kernel_rfl)
def sig_cncref24_Reach : Sk := { tmps := [TS.v true [ci, ci, ci], TS.v true [ci, ci, ci], TS.v true [ci, ci, ci], tf [ci]], boxes := [], rows := [] }
def osig_cncref24_Reach : Sk := { tmps := [tf [ci]], boxes := [], rows := [] }
def C_cncref24_Reach_0 (M_cncref24_permitted : Fn) : Cfg := { spec := lookS [(171, spOf sig_cncref24_permitted osig_cncref24_permitted M_cncref24_permitted)], eqOk := eqAll, ownOff := ownOff }
def sk_cncref24_Reach_5 : Sk := { tmps := [td, td, td, tf [ci], tf [CS.ptr 4 0], tf [CS.ptr 5 0], tf [CS.ptr 6 0], td, td, tf [ci], tf [ci]] ++ dd 26, boxes := [(4, 25, [ci, ci, ci]), (5, 25, [ci, ci, ci]), (6, 25, [ci, ci, ci])], rows := [] }
def ex_cncref24_Reach_5 : List (Ex × Sk) := [(Ex.exit 0, { tmps := [td, td, td, td, td, td, td, td, td, tf [ci]] ++ dd 27, boxes := [], rows := [] })]
def st_cncref24_Reach_5 (M_cncref24_permitted : Fn) : Lp := stepL Tryz.prog (C_cncref24_Reach_0 M_cncref24_permitted) 64 5 (bodyOf Tryz.prog 153 5) sk_cncref24_Reach_5 ex_cncref24_Reach_5
def C_cncref24_Reach_1 (M_cncref24_permitted : Fn) (N5 : Lp) : Cfg := (C_cncref24_Reach_0 M_cncref24_permitted).loop 5 sk_cncref24_Reach_5 ex_cncref24_Reach_5 N5
def mf_cncref24_Reach (M_cncref24_permitted : Fn) (N5 : Lp) : Fn := modelF Tryz.prog (C_cncref24_Reach_1 M_cncref24_permitted N5) 64 153 sig_cncref24_Reach osig_cncref24_Reach
theorem st_cncref24_Reach_5_eq (M_cncref24_permitted : Fn) (v0 v1 v2 v3 v4 v5 v6 v7 v8 v9 v10 v11 : Int) : st_cncref24_Reach_5 M_cncref24_permitted [I v0, I v1, I v2, I v3, I v4, I v5, I v6, I v7, I v8, I v9, I v10, I v11] =
 bif decide (v2 > 0) then
 (M_cncref24_permitted [I v3, I v4, I v5, I v6, I v7, I v8, I v9, I v10, I v11, I v0, I (IntKind.i64.wrap (v1 + v2))]).bind fun o2 =>
 bif bA o2 0 then
 some (0, [I v0, I (IntKind.i64.wrap (v1 + v2)), I (v2.fdiv (2 ^ min (Int.toNat 1) IntKind.i64.bits)), I v3, I v4, I v5, I v6, I v7, I v8, I v9, I v10, I v11])
 else
 some (0, [I v0, I v1, I (v2.fdiv (2 ^ min (Int.toNat 1) IntKind.i64.bits)), I v3, I v4, I v5, I v6, I v7, I v8, I v9, I v10, I v11])
 else
 some (1, [I v1]) := by kernel_rfl
theorem mf_cncref24_Reach_eq (M_cncref24_permitted : Fn) (N5 : Lp) (x0 x1 x2 x3 x4 x5 x6 x7 x8 x9 : Int) : mf_cncref24_Reach M_cncref24_permitted N5 [I x0, I x1, I x2, I x3, I x4, I x5, I x6, I x7, I x8, I x9] =
 bif x0 == x3 && (x1 == x4 && (x2 == x5 && true)) then
 some [I 0]
 else
 bif x6 == x3 && (x7 == x4 && (x8 == x5 && true)) then
 some [I 0]
 else
 (N5 [I x9, I 0, I 16777216, I x0, I x1, I x2, I x3, I x4, I x5, I x6, I x7, I x8]).bind fun o3 =>
 bif o3.1.beq 1 then
 bif decide (gA o3.2 0 < 16) then
 some [I 0]
 else
 some [jA o3.2 0]
 else
 none := by kernel_rfl
def l_cncref24_Reach_5 := loopC (st_cncref24_Reach_5 m_cncref24_permitted )
def m_cncref24_Reach := mf_cncref24_Reach m_cncref24_permitted l_cncref24_Reach_5
theorem sp_cncref24_Reach : SpecOK Tryz.prog (C_cncref24_Reach_0 m_cncref24_permitted) := specOK_of rfl ⟨r_cncref24_permitted, trivial⟩
theorem r_cncref24_Reach : RowOK Tryz.prog (153, spOf sig_cncref24_Reach osig_cncref24_Reach m_cncref24_Reach) := row_of (C := (C_cncref24_Reach_1 m_cncref24_permitted l_cncref24_Reach_5)) (L := 64) (by kernel_rfl) ((FnOK.bare rfl rfl rfl).loop sp_cncref24_Reach eqOk mixOk (by kernel_rfl) (by kernel_rfl)) sp_cncref24_Reach eqOk mixOk (by kernel_rfl) (by kernel_rfl)
def sig_cncref24_Corner : Sk := { tmps := [TS.v true [ci, ci, ci], TS.v true [ci, ci, ci], TS.v true [ci, ci, ci], tf [ci]], boxes := [], rows := [] }
def osig_cncref24_Corner : Sk := { tmps := [tf [CS.sl kPt]], boxes := [], rows := [] }
def C_cncref24_Corner_0 (M_cncref24_Rounded M_cncref24_Pieces M_cncref24_Toward M_cncref24_Reach : Fn) : Cfg := { spec := lookS [(72, spOf sig_cncref24_Rounded osig_cncref24_Rounded M_cncref24_Rounded), (155, spOf sig_cncref24_Pieces osig_cncref24_Pieces M_cncref24_Pieces), (154, spOf sig_cncref24_Toward osig_cncref24_Toward M_cncref24_Toward), (153, spOf sig_cncref24_Reach osig_cncref24_Reach M_cncref24_Reach)], eqOk := eqAll, ownOff := ownOff, prom := fun b => bif Nat.beq b 9 then [(15, 25)] else [], unroll := [13] }
def sk_cncref24_Corner_9 : Sk := { tmps := [td, td, td, td, td, tf [CS.ptr 5 0], td, td, td, td, tf [CS.ptr 10 0], td, tf [CS.ptr 12 0], td, tf [ci], tf [CS.own 15 3], tf [ci]] ++ dd 80, boxes := [(5, 25, [ci, ci, ci]), (10, 25, [ci, ci, ci]), (12, 25, [ci, ci, ci])], rows := [(15, 25, kPt)] }
def ex_cncref24_Corner_9 : List (Ex × Sk) := [(Ex.exit 0, { tmps := [td, td, td, td, td, td, td, td, td, td, td, td, td, td, td, tf [CS.own 15 3]] ++ dd 81, boxes := [], rows := [(15, 25, kPt)] })]
def st_cncref24_Corner_9 (M_cncref24_Rounded M_cncref24_Pieces M_cncref24_Toward M_cncref24_Reach : Fn) : Lp := stepL Tryz.prog (C_cncref24_Corner_0 M_cncref24_Rounded M_cncref24_Pieces M_cncref24_Toward M_cncref24_Reach) 64 9 (bodyOf Tryz.prog 135 9) sk_cncref24_Corner_9 ex_cncref24_Corner_9
def C_cncref24_Corner_1 (M_cncref24_Rounded M_cncref24_Pieces M_cncref24_Toward M_cncref24_Reach : Fn) (N9 : Lp) : Cfg := (C_cncref24_Corner_0 M_cncref24_Rounded M_cncref24_Pieces M_cncref24_Toward M_cncref24_Reach).loop 9 sk_cncref24_Corner_9 ex_cncref24_Corner_9 N9
def mf_cncref24_Corner (M_cncref24_Rounded M_cncref24_Pieces M_cncref24_Toward M_cncref24_Reach : Fn) (N9 : Lp) : Fn := modelF Tryz.prog (C_cncref24_Corner_1 M_cncref24_Rounded M_cncref24_Pieces M_cncref24_Toward M_cncref24_Reach N9) 64 135 sig_cncref24_Corner osig_cncref24_Corner
theorem st_cncref24_Corner_9_eq (M_cncref24_Rounded M_cncref24_Pieces M_cncref24_Toward M_cncref24_Reach : Fn) (v0 : Rw) (v1 v2 v3 v4 v5 v6 v7 v8 v9 v10 v11 : Int) : st_cncref24_Corner_9 M_cncref24_Rounded M_cncref24_Pieces M_cncref24_Toward M_cncref24_Reach [.view kPt v0, I v1, I v2, I v3, I v4, I v5, I v6, I v7, I v8, I v9, I v10, I v11] =
 bif decide (v2 <= v1) then
 (M_cncref24_Rounded [I (IntKind.i64.wrap (IntKind.i64.wrap (IntKind.i64.wrap (IntKind.i64.wrap (v1 - v2) * IntKind.i64.wrap (v1 - v2)) * IntKind.i64.wrap (v6 - v3)) + IntKind.i64.wrap (IntKind.i64.wrap (v2 * v2) * IntKind.i64.wrap (v9 - v3)))), I (IntKind.i64.wrap (v1 * v1))]).bind fun o19 =>
 (M_cncref24_Rounded [I (IntKind.i64.wrap (IntKind.i64.wrap (IntKind.i64.wrap (IntKind.i64.wrap (v1 - v2) * IntKind.i64.wrap (v1 - v2)) * IntKind.i64.wrap (v7 - v4)) + IntKind.i64.wrap (IntKind.i64.wrap (v2 * v2) * IntKind.i64.wrap (v10 - v4)))), I (IntKind.i64.wrap (v1 * v1))]).bind fun o20 =>
 (M_cncref24_Rounded [I (IntKind.i64.wrap (IntKind.i64.wrap (IntKind.i64.wrap (IntKind.i64.wrap (v1 - v2) * IntKind.i64.wrap (v1 - v2)) * IntKind.i64.wrap (v8 - v5)) + IntKind.i64.wrap (IntKind.i64.wrap (v2 * v2) * IntKind.i64.wrap (v11 - v5)))), I (IntKind.i64.wrap (v1 * v1))]).bind fun o21 =>
 bif ((v0 ++ [[I (IntKind.i64.wrap (v3 + gA o19 0)), I (IntKind.i64.wrap (v4 + gA o20 0)), I (IntKind.i64.wrap (v5 + gA o21 0))]]).length * 24).ble 140737488355328 then
 some (0, [.view kPt (v0 ++ [[I (IntKind.i64.wrap (v3 + gA o19 0)), I (IntKind.i64.wrap (v4 + gA o20 0)), I (IntKind.i64.wrap (v5 + gA o21 0))]]), I v1, I (IntKind.i64.wrap (v2 + 1)), I v3, I v4, I v5, I v6, I v7, I v8, I v9, I v10, I v11])
 else
 none
 else
 some (1, [.view kPt v0]) := by kernel_rfl
theorem mf_cncref24_Corner_eq (M_cncref24_Rounded M_cncref24_Pieces M_cncref24_Toward M_cncref24_Reach : Fn) (N9 : Lp) (x0 x1 x2 x3 x4 x5 x6 x7 x8 x9 : Int) : mf_cncref24_Corner M_cncref24_Rounded M_cncref24_Pieces M_cncref24_Toward M_cncref24_Reach N9 [I x0, I x1, I x2, I x3, I x4, I x5, I x6, I x7, I x8, I x9] =
 (M_cncref24_Reach [I x0, I x1, I x2, I x3, I x4, I x5, I x6, I x7, I x8, I x9]).bind fun o22 =>
 bif gA o22 0 == 0 then
 some [.view kPt [[I x3, I x4, I x5]]]
 else
 (M_cncref24_Toward [I x3, I x4, I x5, I x0, I x1, I x2, jA o22 0]).bind fun o23 =>
 (M_cncref24_Toward [I x3, I x4, I x5, I x6, I x7, I x8, jA o22 0]).bind fun o24 =>
 (M_cncref24_Pieces [jA o23 0, jA o23 1, jA o23 2, I x3, I x4, I x5, jA o24 0, jA o24 1, jA o24 2]).bind fun o25 =>
 (N9 [.view kPt [], jA o25 0, I 0, I x3, I x4, I x5, jA o23 0, jA o23 1, jA o23 2, jA o24 0, jA o24 1, jA o24 2]).bind fun o26 =>
 bif o26.1.beq 1 then
 some [.view kPt (wA o26.2 0)]
 else
 none := by kernel_rfl
def l_cncref24_Corner_9 := loopC (st_cncref24_Corner_9 m_cncref24_Rounded m_cncref24_Pieces m_cncref24_Toward m_cncref24_Reach )
def m_cncref24_Corner := mf_cncref24_Corner m_cncref24_Rounded m_cncref24_Pieces m_cncref24_Toward m_cncref24_Reach l_cncref24_Corner_9
theorem sp_cncref24_Corner : SpecOK Tryz.prog (C_cncref24_Corner_0 m_cncref24_Rounded m_cncref24_Pieces m_cncref24_Toward m_cncref24_Reach) := specOK_of rfl ⟨r_cncref24_Rounded, r_cncref24_Pieces, r_cncref24_Toward, r_cncref24_Reach, trivial⟩
theorem r_cncref24_Corner : RowOK Tryz.prog (135, spOf sig_cncref24_Corner osig_cncref24_Corner m_cncref24_Corner) := row_of (C := (C_cncref24_Corner_1 m_cncref24_Rounded m_cncref24_Pieces m_cncref24_Toward m_cncref24_Reach l_cncref24_Corner_9)) (L := 64) (by kernel_rfl) ((FnOK.bare rfl rfl rfl).loop sp_cncref24_Corner eqOk mixOk (by kernel_rfl) (by kernel_rfl)) sp_cncref24_Corner eqOk mixOk (by kernel_rfl) (by kernel_rfl)
def sig_cncref23_Fine : Sk := { tmps := [TS.v true [ci, ci, ci]], boxes := [], rows := [] }
def osig_cncref23_Fine : Sk := { tmps := [TS.v true [ci, ci, ci]], boxes := [], rows := [] }
def C_cncref23_Fine_0 : Cfg := { spec := lookS [], eqOk := eqAll, ownOff := ownOff }
def mf_cncref23_Fine : Fn := modelF Tryz.prog C_cncref23_Fine_0 64 81 sig_cncref23_Fine osig_cncref23_Fine
theorem mf_cncref23_Fine_eq (x0 x1 x2 : Int) : mf_cncref23_Fine [I x0, I x1, I x2] =
 some [I (IntKind.i64.wrap (x0 * 16)), I (IntKind.i64.wrap (x1 * 16)), I (IntKind.i64.wrap (x2 * 16))] := by kernel_rfl
def m_cncref23_Fine := mf_cncref23_Fine 
theorem sp_cncref23_Fine : SpecOK Tryz.prog (C_cncref23_Fine_0 ) := specOK_of rfl trivial
theorem r_cncref23_Fine : RowOK Tryz.prog (81, spOf sig_cncref23_Fine osig_cncref23_Fine m_cncref23_Fine) := row_of (C := C_cncref23_Fine_0) (L := 64) (by kernel_rfl) (FnOK.bare rfl rfl rfl) sp_cncref23_Fine eqOk mixOk (by kernel_rfl) (by kernel_rfl)
def sig_cncref25_joined : Sk := { tmps := [tf [CS.sl kItm], tf [ci], tf [ci]], boxes := [], rows := [] }
def osig_cncref25_joined : Sk := { tmps := [tf [CS.sl kPt]], boxes := [], rows := [] }
def C_cncref25_joined_0 (M_cncref24_Corner M_cncref23_Fine M_cncref25_Center : Fn) : Cfg := { spec := lookS [(135, spOf sig_cncref24_Corner osig_cncref24_Corner M_cncref24_Corner), (81, spOf sig_cncref23_Fine osig_cncref23_Fine M_cncref23_Fine), (90, spOf sig_cncref25_Center osig_cncref25_Center M_cncref25_Center)], eqOk := eqAll, ownOff := ownOff }
def mf_cncref25_joined (M_cncref24_Corner M_cncref23_Fine M_cncref25_Center : Fn) : Fn := modelF Tryz.prog (C_cncref25_joined_0 M_cncref24_Corner M_cncref23_Fine M_cncref25_Center) 64 115 sig_cncref25_joined osig_cncref25_joined
theorem mf_cncref25_joined_eq (M_cncref24_Corner M_cncref23_Fine M_cncref25_Center : Fn) (x0 : Rw) (x1 x2 : Int) : mf_cncref25_joined M_cncref24_Corner M_cncref23_Fine M_cncref25_Center [.view kItm x0, I x1, I x2] =
 bif decide (0 <= x1) && decide (x1 < (x0.length : Int)) then
 (M_cncref25_Center [jA (nth [] x0 x1.toNat) 0, jA (nth [] x0 x1.toNat) 1, jA (nth [] x0 x1.toNat) 2, jA (nth [] x0 x1.toNat) 3, jA (nth [] x0 x1.toNat) 4, jA (nth [] x0 x1.toNat) 5, jA (nth [] x0 x1.toNat) 6, jA (nth [] x0 x1.toNat) 7, jA (nth [] x0 x1.toNat) 8, jA (nth [] x0 x1.toNat) 9, jA (nth [] x0 x1.toNat) 10, jA (nth [] x0 x1.toNat) 11, jA (nth [] x0 x1.toNat) 12, B (bA (nth [] x0 x1.toNat) 13), jA (nth [] x0 x1.toNat) 14, B (bA (nth [] x0 x1.toNat) 15), jA (nth [] x0 x1.toNat) 16, jA (nth [] x0 x1.toNat) 17, jA (nth [] x0 x1.toNat) 18, jA (nth [] x0 x1.toNat) 19, jA (nth [] x0 x1.toNat) 20, B (bA (nth [] x0 x1.toNat) 21)]).bind fun o4 =>
 bif decide (0 <= x1) && decide (x1 < (x0.length : Int)) then
 (M_cncref23_Fine [jA (nth [] x0 x1.toNat) 5, jA (nth [] x0 x1.toNat) 6, jA (nth [] x0 x1.toNat) 7]).bind fun o5 =>
 bif decide (0 <= x2) && decide (x2 < (x0.length : Int)) then
 (M_cncref25_Center [jA (nth [] x0 x2.toNat) 0, jA (nth [] x0 x2.toNat) 1, jA (nth [] x0 x2.toNat) 2, jA (nth [] x0 x2.toNat) 3, jA (nth [] x0 x2.toNat) 4, jA (nth [] x0 x2.toNat) 5, jA (nth [] x0 x2.toNat) 6, jA (nth [] x0 x2.toNat) 7, jA (nth [] x0 x2.toNat) 8, jA (nth [] x0 x2.toNat) 9, jA (nth [] x0 x2.toNat) 10, jA (nth [] x0 x2.toNat) 11, jA (nth [] x0 x2.toNat) 12, B (bA (nth [] x0 x2.toNat) 13), jA (nth [] x0 x2.toNat) 14, B (bA (nth [] x0 x2.toNat) 15), jA (nth [] x0 x2.toNat) 16, jA (nth [] x0 x2.toNat) 17, jA (nth [] x0 x2.toNat) 18, jA (nth [] x0 x2.toNat) 19, jA (nth [] x0 x2.toNat) 20, B (bA (nth [] x0 x2.toNat) 21)]).bind fun o6 =>
 bif decide (0 <= x1) && decide (x1 < (x0.length : Int)) then
 (M_cncref24_Corner [jA o4 0, jA o4 1, jA o4 2, jA o5 0, jA o5 1, jA o5 2, jA o6 0, jA o6 1, jA o6 2, I (IntKind.i64.wrap (gA (nth [] x0 x1.toNat) 18 * 16))]).bind fun o7 =>
 some [.view kPt (wA o7 0)]
 else
 none
 else
 none
 else
 none
 else
 none := by kernel_rfl
def m_cncref25_joined := mf_cncref25_joined m_cncref24_Corner m_cncref23_Fine m_cncref25_Center 
theorem sp_cncref25_joined : SpecOK Tryz.prog (C_cncref25_joined_0 m_cncref24_Corner m_cncref23_Fine m_cncref25_Center) := specOK_of rfl ⟨r_cncref24_Corner, r_cncref23_Fine, r_cncref25_Center, trivial⟩
theorem r_cncref25_joined : RowOK Tryz.prog (115, spOf sig_cncref25_joined osig_cncref25_joined m_cncref25_joined) := row_of (C := (C_cncref25_joined_0 m_cncref24_Corner m_cncref23_Fine m_cncref25_Center)) (L := 64) (by kernel_rfl) (FnOK.bare rfl rfl rfl) sp_cncref25_joined eqOk mixOk (by kernel_rfl) (by kernel_rfl)
def sig_cncref23_Space : Sk := { tmps := [tf [ci], tf [ci], tf [ci], tf [ci]], boxes := [], rows := [] }
def osig_cncref23_Space : Sk := { tmps := [TS.v true [ci, ci, ci]], boxes := [], rows := [] }
def C_cncref23_Space_0 : Cfg := { spec := lookS [], eqOk := eqAll, ownOff := ownOff }
def mf_cncref23_Space : Fn := modelF Tryz.prog C_cncref23_Space_0 64 125 sig_cncref23_Space osig_cncref23_Space
theorem mf_cncref23_Space_eq (x0 x1 x2 x3 : Int) : mf_cncref23_Space [I x0, I x1, I x2, I x3] =
 bif x3 == 17 then
 some [I x0, I x1, I x2]
 else
 bif x3 == 18 then
 some [I x1, I x2, I x0]
 else
 bif x3 == 19 then
 some [I x2, I x0, I x1]
 else
 some [I 0, I 0, I 0] := by kernel_rfl
def m_cncref23_Space := mf_cncref23_Space 
theorem sp_cncref23_Space : SpecOK Tryz.prog (C_cncref23_Space_0 ) := specOK_of rfl trivial
theorem r_cncref23_Space : RowOK Tryz.prog (125, spOf sig_cncref23_Space osig_cncref23_Space m_cncref23_Space) := row_of (C := C_cncref23_Space_0) (L := 64) (by kernel_rfl) (FnOK.bare rfl rfl rfl) sp_cncref23_Space eqOk mixOk (by kernel_rfl) (by kernel_rfl)
def sig_cncref23_Plane : Sk := { tmps := [TS.v true [ci, ci, ci], tf [ci]], boxes := [], rows := [] }
def osig_cncref23_Plane : Sk := { tmps := [TS.tup [(false, [ci]), (false, [ci]), (false, [ci])]], boxes := [], rows := [] }
def C_cncref23_Plane_0 : Cfg := { spec := lookS [], eqOk := eqAll, ownOff := ownOff }
def mf_cncref23_Plane : Fn := modelF Tryz.prog C_cncref23_Plane_0 64 123 sig_cncref23_Plane osig_cncref23_Plane
theorem mf_cncref23_Plane_eq (x0 x1 x2 x3 : Int) : mf_cncref23_Plane [I x0, I x1, I x2, I x3] =
 bif x3 == 17 then
 some [I x0, I x1, I x2]
 else
 bif x3 == 18 then
 some [I x2, I x0, I x1]
 else
 bif x3 == 19 then
 some [I x1, I x2, I x0]
 else
 some [I 0, I 0, I 0] := by kernel_rfl
def m_cncref23_Plane := mf_cncref23_Plane 
theorem sp_cncref23_Plane : SpecOK Tryz.prog (C_cncref23_Plane_0 ) := specOK_of rfl trivial
theorem r_cncref23_Plane : RowOK Tryz.prog (123, spOf sig_cncref23_Plane osig_cncref23_Plane m_cncref23_Plane) := row_of (C := C_cncref23_Plane_0) (L := 64) (by kernel_rfl) (FnOK.bare rfl rfl rfl) sp_cncref23_Plane eqOk mixOk (by kernel_rfl) (by kernel_rfl)
def sig_cncref23_half : Sk := { tmps := [tf [ci], tf [ci]], boxes := [], rows := [] }
def osig_cncref23_half : Sk := { tmps := [tf [ci]], boxes := [], rows := [] }
def C_cncref23_half_0 : Cfg := { spec := lookS [], eqOk := eqAll, ownOff := ownOff }
def mf_cncref23_half : Fn := modelF Tryz.prog C_cncref23_half_0 64 183 sig_cncref23_half osig_cncref23_half
theorem mf_cncref23_half_eq (x0 x1 : Int) : mf_cncref23_half [I x0, I x1] =
 some [I ((IntKind.i64.wrap (IntKind.i64.wrap (x0 + x1) + 1)).fdiv (2 ^ min (Int.toNat 1) IntKind.i64.bits))] := by kernel_rfl
def m_cncref23_half := mf_cncref23_half 
theorem sp_cncref23_half : SpecOK Tryz.prog (C_cncref23_half_0 ) := specOK_of rfl trivial
theorem r_cncref23_half : RowOK Tryz.prog (183, spOf sig_cncref23_half osig_cncref23_half m_cncref23_half) := row_of (C := C_cncref23_half_0) (L := 64) (by kernel_rfl) (FnOK.bare rfl rfl rfl) sp_cncref23_half eqOk mixOk (by kernel_rfl) (by kernel_rfl)
def sig_cncref23_Cross : Sk := { tmps := [TS.v true [ci, ci, ci, ci], TS.v true [ci, ci, ci, ci]], boxes := [], rows := [] }
def osig_cncref23_Cross : Sk := { tmps := [tf [ci]], boxes := [], rows := [] }
def C_cncref23_Cross_0 : Cfg := { spec := lookS [], eqOk := eqAll, ownOff := ownOff }
def mf_cncref23_Cross : Fn := modelF Tryz.prog C_cncref23_Cross_0 64 150 sig_cncref23_Cross osig_cncref23_Cross
theorem mf_cncref23_Cross_eq (x0 x1 x2 x3 x4 x5 x6 x7 : Int) : mf_cncref23_Cross [I x0, I x1, I x2, I x3, I x4, I x5, I x6, I x7] =
 some [I (IntKind.i64.wrap (IntKind.i64.wrap (x0 * x5) - IntKind.i64.wrap (x1 * x4)))] := by kernel_rfl
def m_cncref23_Cross := mf_cncref23_Cross 
theorem sp_cncref23_Cross : SpecOK Tryz.prog (C_cncref23_Cross_0 ) := specOK_of rfl trivial
theorem r_cncref23_Cross : RowOK Tryz.prog (150, spOf sig_cncref23_Cross osig_cncref23_Cross m_cncref23_Cross) := row_of (C := C_cncref23_Cross_0) (L := 64) (by kernel_rfl) (FnOK.bare rfl rfl rfl) sp_cncref23_Cross eqOk mixOk (by kernel_rfl) (by kernel_rfl)
def sig_cncref23_Dot : Sk := { tmps := [TS.v true [ci, ci, ci, ci], TS.v true [ci, ci, ci, ci]], boxes := [], rows := [] }
def osig_cncref23_Dot : Sk := { tmps := [tf [ci]], boxes := [], rows := [] }
def C_cncref23_Dot_0 : Cfg := { spec := lookS [], eqOk := eqAll, ownOff := ownOff }
def mf_cncref23_Dot : Fn := modelF Tryz.prog C_cncref23_Dot_0 64 148 sig_cncref23_Dot osig_cncref23_Dot
theorem mf_cncref23_Dot_eq (x0 x1 x2 x3 x4 x5 x6 x7 : Int) : mf_cncref23_Dot [I x0, I x1, I x2, I x3, I x4, I x5, I x6, I x7] =
 some [I (IntKind.i64.wrap (IntKind.i64.wrap (x0 * x4) + IntKind.i64.wrap (x1 * x5)))] := by kernel_rfl
def m_cncref23_Dot := mf_cncref23_Dot 
theorem sp_cncref23_Dot : SpecOK Tryz.prog (C_cncref23_Dot_0 ) := specOK_of rfl trivial
theorem r_cncref23_Dot : RowOK Tryz.prog (148, spOf sig_cncref23_Dot osig_cncref23_Dot m_cncref23_Dot) := row_of (C := C_cncref23_Dot_0) (L := 64) (by kernel_rfl) (FnOK.bare rfl rfl rfl) sp_cncref23_Dot eqOk mixOk (by kernel_rfl) (by kernel_rfl)
def sig_cncref23_Middle : Sk := { tmps := [TS.v true [ci, ci, ci, ci], TS.v true [ci, ci, ci, ci], tf [ci], tf [CS.bool]], boxes := [], rows := [] }
def osig_cncref23_Middle : Sk := { tmps := [TS.tup [(true, [ci, ci, ci, ci]), (false, [CS.bool])]], boxes := [], rows := [] }
def C_cncref23_Middle_0 (M_cncref23_Near M_cncref23_half M_cncref23_Cross M_cncref23_Dot : Fn) : Cfg := { spec := lookS [(172, spOf sig_cncref23_Near osig_cncref23_Near M_cncref23_Near), (183, spOf sig_cncref23_half osig_cncref23_half M_cncref23_half), (150, spOf sig_cncref23_Cross osig_cncref23_Cross M_cncref23_Cross), (148, spOf sig_cncref23_Dot osig_cncref23_Dot M_cncref23_Dot)], eqOk := eqAll, ownOff := ownOff }
def mf_cncref23_Middle (M_cncref23_Near M_cncref23_half M_cncref23_Cross M_cncref23_Dot : Fn) : Fn := modelF Tryz.prog (C_cncref23_Middle_0 M_cncref23_Near M_cncref23_half M_cncref23_Cross M_cncref23_Dot) 64 170 sig_cncref23_Middle osig_cncref23_Middle
theorem mf_cncref23_Middle_eq (M_cncref23_Near M_cncref23_half M_cncref23_Cross M_cncref23_Dot : Fn) (x0 x1 x2 x3 x4 x5 x6 x7 x8 : Int) (x9 : Bool) : mf_cncref23_Middle M_cncref23_Near M_cncref23_half M_cncref23_Cross M_cncref23_Dot [I x0, I x1, I x2, I x3, I x4, I x5, I x6, I x7, I x8, B x9] =
 bif x8 != 1 then
 bif x8 != -1 then
 some [I 0, I 0, I 0, I 0, B false]
 else
 bif x9 then
 bif IntKind.i64.wrap (0 - x0) == 0 then
 bif IntKind.i64.wrap (0 - x1) == 0 then
 some [I 0, I 0, I 0, I 0, B false]
 else
 (M_cncref23_half [I x2, I x6]).bind fun o104 =>
 (M_cncref23_Near [I (IntKind.i64.wrap (0 - x0)), jA o104 0, I (IntKind.i64.wrap (IntKind.i64.wrap (IntKind.i64.wrap (0 - x0) * IntKind.i64.wrap (0 - x0)) + IntKind.i64.wrap (IntKind.i64.wrap (0 - x1) * IntKind.i64.wrap (0 - x1))))]).bind fun o105 =>
 (M_cncref23_Near [I (IntKind.i64.wrap (0 - x1)), jA o104 0, I (IntKind.i64.wrap (IntKind.i64.wrap (IntKind.i64.wrap (0 - x0) * IntKind.i64.wrap (0 - x0)) + IntKind.i64.wrap (IntKind.i64.wrap (0 - x1) * IntKind.i64.wrap (0 - x1))))]).bind fun o106 =>
 (M_cncref23_half [I x3, I x7]).bind fun o107 =>
 some [jA o105 0, jA o106 0, jA o104 0, jA o107 0, B true]
 else
 (M_cncref23_half [I x2, I x6]).bind fun o108 =>
 (M_cncref23_Near [I (IntKind.i64.wrap (0 - x0)), jA o108 0, I (IntKind.i64.wrap (IntKind.i64.wrap (IntKind.i64.wrap (0 - x0) * IntKind.i64.wrap (0 - x0)) + IntKind.i64.wrap (IntKind.i64.wrap (0 - x1) * IntKind.i64.wrap (0 - x1))))]).bind fun o109 =>
 (M_cncref23_Near [I (IntKind.i64.wrap (0 - x1)), jA o108 0, I (IntKind.i64.wrap (IntKind.i64.wrap (IntKind.i64.wrap (0 - x0) * IntKind.i64.wrap (0 - x0)) + IntKind.i64.wrap (IntKind.i64.wrap (0 - x1) * IntKind.i64.wrap (0 - x1))))]).bind fun o110 =>
 (M_cncref23_half [I x3, I x7]).bind fun o111 =>
 some [jA o109 0, jA o110 0, jA o108 0, jA o111 0, B true]
 else
 (M_cncref23_Dot [I x0, I x1, I x2, I x3, I x4, I x5, I x6, I x7]).bind fun o112 =>
 bif decide (gA o112 0 > 0) then
 (M_cncref23_Cross [I x0, I x1, I x2, I x3, I x4, I x5, I x6, I x7]).bind fun o113 =>
 bif decide (IntKind.i64.wrap (gA o113 0 * x8) > 0) then
 bif IntKind.i64.wrap (x0 + x4) == 0 then
 bif IntKind.i64.wrap (x1 + x5) == 0 then
 some [I 0, I 0, I 0, I 0, B false]
 else
 (M_cncref23_half [I x2, I x6]).bind fun o114 =>
 (M_cncref23_Near [I (IntKind.i64.wrap (x0 + x4)), jA o114 0, I (IntKind.i64.wrap (IntKind.i64.wrap (IntKind.i64.wrap (x0 + x4) * IntKind.i64.wrap (x0 + x4)) + IntKind.i64.wrap (IntKind.i64.wrap (x1 + x5) * IntKind.i64.wrap (x1 + x5))))]).bind fun o115 =>
 (M_cncref23_Near [I (IntKind.i64.wrap (x1 + x5)), jA o114 0, I (IntKind.i64.wrap (IntKind.i64.wrap (IntKind.i64.wrap (x0 + x4) * IntKind.i64.wrap (x0 + x4)) + IntKind.i64.wrap (IntKind.i64.wrap (x1 + x5) * IntKind.i64.wrap (x1 + x5))))]).bind fun o116 =>
 (M_cncref23_half [I x3, I x7]).bind fun o117 =>
 some [jA o115 0, jA o116 0, jA o114 0, jA o117 0, B true]
 else
 (M_cncref23_half [I x2, I x6]).bind fun o118 =>
 (M_cncref23_Near [I (IntKind.i64.wrap (x0 + x4)), jA o118 0, I (IntKind.i64.wrap (IntKind.i64.wrap (IntKind.i64.wrap (x0 + x4) * IntKind.i64.wrap (x0 + x4)) + IntKind.i64.wrap (IntKind.i64.wrap (x1 + x5) * IntKind.i64.wrap (x1 + x5))))]).bind fun o119 =>
 (M_cncref23_Near [I (IntKind.i64.wrap (x1 + x5)), jA o118 0, I (IntKind.i64.wrap (IntKind.i64.wrap (IntKind.i64.wrap (x0 + x4) * IntKind.i64.wrap (x0 + x4)) + IntKind.i64.wrap (IntKind.i64.wrap (x1 + x5) * IntKind.i64.wrap (x1 + x5))))]).bind fun o120 =>
 (M_cncref23_half [I x3, I x7]).bind fun o121 =>
 some [jA o119 0, jA o120 0, jA o118 0, jA o121 0, B true]
 else
 (M_cncref23_Dot [I x0, I x1, I x2, I x3, I x4, I x5, I x6, I x7]).bind fun o122 =>
 bif decide (gA o122 0 > 0) then
 bif IntKind.i64.wrap (0 - IntKind.i64.wrap (x0 + x4)) == 0 then
 bif IntKind.i64.wrap (0 - IntKind.i64.wrap (x1 + x5)) == 0 then
 some [I 0, I 0, I 0, I 0, B false]
 else
 (M_cncref23_half [I x2, I x6]).bind fun o123 =>
 (M_cncref23_Near [I (IntKind.i64.wrap (0 - IntKind.i64.wrap (x0 + x4))), jA o123 0, I (IntKind.i64.wrap (IntKind.i64.wrap (IntKind.i64.wrap (0 - IntKind.i64.wrap (x0 + x4)) * IntKind.i64.wrap (0 - IntKind.i64.wrap (x0 + x4))) + IntKind.i64.wrap (IntKind.i64.wrap (0 - IntKind.i64.wrap (x1 + x5)) * IntKind.i64.wrap (0 - IntKind.i64.wrap (x1 + x5)))))]).bind fun o124 =>
 (M_cncref23_Near [I (IntKind.i64.wrap (0 - IntKind.i64.wrap (x1 + x5))), jA o123 0, I (IntKind.i64.wrap (IntKind.i64.wrap (IntKind.i64.wrap (0 - IntKind.i64.wrap (x0 + x4)) * IntKind.i64.wrap (0 - IntKind.i64.wrap (x0 + x4))) + IntKind.i64.wrap (IntKind.i64.wrap (0 - IntKind.i64.wrap (x1 + x5)) * IntKind.i64.wrap (0 - IntKind.i64.wrap (x1 + x5)))))]).bind fun o125 =>
 (M_cncref23_half [I x3, I x7]).bind fun o126 =>
 some [jA o124 0, jA o125 0, jA o123 0, jA o126 0, B true]
 else
 (M_cncref23_half [I x2, I x6]).bind fun o127 =>
 (M_cncref23_Near [I (IntKind.i64.wrap (0 - IntKind.i64.wrap (x0 + x4))), jA o127 0, I (IntKind.i64.wrap (IntKind.i64.wrap (IntKind.i64.wrap (0 - IntKind.i64.wrap (x0 + x4)) * IntKind.i64.wrap (0 - IntKind.i64.wrap (x0 + x4))) + IntKind.i64.wrap (IntKind.i64.wrap (0 - IntKind.i64.wrap (x1 + x5)) * IntKind.i64.wrap (0 - IntKind.i64.wrap (x1 + x5)))))]).bind fun o128 =>
 (M_cncref23_Near [I (IntKind.i64.wrap (0 - IntKind.i64.wrap (x1 + x5))), jA o127 0, I (IntKind.i64.wrap (IntKind.i64.wrap (IntKind.i64.wrap (0 - IntKind.i64.wrap (x0 + x4)) * IntKind.i64.wrap (0 - IntKind.i64.wrap (x0 + x4))) + IntKind.i64.wrap (IntKind.i64.wrap (0 - IntKind.i64.wrap (x1 + x5)) * IntKind.i64.wrap (0 - IntKind.i64.wrap (x1 + x5)))))]).bind fun o129 =>
 (M_cncref23_half [I x3, I x7]).bind fun o130 =>
 some [jA o128 0, jA o129 0, jA o127 0, jA o130 0, B true]
 else
 bif IntKind.i64.wrap (x8 * IntKind.i64.wrap (x5 - x1)) == 0 then
 bif IntKind.i64.wrap (x8 * IntKind.i64.wrap (x0 - x4)) == 0 then
 some [I 0, I 0, I 0, I 0, B false]
 else
 (M_cncref23_half [I x2, I x6]).bind fun o131 =>
 (M_cncref23_Near [I (IntKind.i64.wrap (x8 * IntKind.i64.wrap (x5 - x1))), jA o131 0, I (IntKind.i64.wrap (IntKind.i64.wrap (IntKind.i64.wrap (x8 * IntKind.i64.wrap (x5 - x1)) * IntKind.i64.wrap (x8 * IntKind.i64.wrap (x5 - x1))) + IntKind.i64.wrap (IntKind.i64.wrap (x8 * IntKind.i64.wrap (x0 - x4)) * IntKind.i64.wrap (x8 * IntKind.i64.wrap (x0 - x4)))))]).bind fun o132 =>
 (M_cncref23_Near [I (IntKind.i64.wrap (x8 * IntKind.i64.wrap (x0 - x4))), jA o131 0, I (IntKind.i64.wrap (IntKind.i64.wrap (IntKind.i64.wrap (x8 * IntKind.i64.wrap (x5 - x1)) * IntKind.i64.wrap (x8 * IntKind.i64.wrap (x5 - x1))) + IntKind.i64.wrap (IntKind.i64.wrap (x8 * IntKind.i64.wrap (x0 - x4)) * IntKind.i64.wrap (x8 * IntKind.i64.wrap (x0 - x4)))))]).bind fun o133 =>
 (M_cncref23_half [I x3, I x7]).bind fun o134 =>
 some [jA o132 0, jA o133 0, jA o131 0, jA o134 0, B true]
 else
 (M_cncref23_half [I x2, I x6]).bind fun o135 =>
 (M_cncref23_Near [I (IntKind.i64.wrap (x8 * IntKind.i64.wrap (x5 - x1))), jA o135 0, I (IntKind.i64.wrap (IntKind.i64.wrap (IntKind.i64.wrap (x8 * IntKind.i64.wrap (x5 - x1)) * IntKind.i64.wrap (x8 * IntKind.i64.wrap (x5 - x1))) + IntKind.i64.wrap (IntKind.i64.wrap (x8 * IntKind.i64.wrap (x0 - x4)) * IntKind.i64.wrap (x8 * IntKind.i64.wrap (x0 - x4)))))]).bind fun o136 =>
 (M_cncref23_Near [I (IntKind.i64.wrap (x8 * IntKind.i64.wrap (x0 - x4))), jA o135 0, I (IntKind.i64.wrap (IntKind.i64.wrap (IntKind.i64.wrap (x8 * IntKind.i64.wrap (x5 - x1)) * IntKind.i64.wrap (x8 * IntKind.i64.wrap (x5 - x1))) + IntKind.i64.wrap (IntKind.i64.wrap (x8 * IntKind.i64.wrap (x0 - x4)) * IntKind.i64.wrap (x8 * IntKind.i64.wrap (x0 - x4)))))]).bind fun o137 =>
 (M_cncref23_half [I x3, I x7]).bind fun o138 =>
 some [jA o136 0, jA o137 0, jA o135 0, jA o138 0, B true]
 else
 (M_cncref23_Dot [I x0, I x1, I x2, I x3, I x4, I x5, I x6, I x7]).bind fun o139 =>
 bif decide (gA o139 0 > 0) then
 bif IntKind.i64.wrap (0 - IntKind.i64.wrap (x0 + x4)) == 0 then
 bif IntKind.i64.wrap (0 - IntKind.i64.wrap (x1 + x5)) == 0 then
 some [I 0, I 0, I 0, I 0, B false]
 else
 (M_cncref23_half [I x2, I x6]).bind fun o140 =>
 (M_cncref23_Near [I (IntKind.i64.wrap (0 - IntKind.i64.wrap (x0 + x4))), jA o140 0, I (IntKind.i64.wrap (IntKind.i64.wrap (IntKind.i64.wrap (0 - IntKind.i64.wrap (x0 + x4)) * IntKind.i64.wrap (0 - IntKind.i64.wrap (x0 + x4))) + IntKind.i64.wrap (IntKind.i64.wrap (0 - IntKind.i64.wrap (x1 + x5)) * IntKind.i64.wrap (0 - IntKind.i64.wrap (x1 + x5)))))]).bind fun o141 =>
 (M_cncref23_Near [I (IntKind.i64.wrap (0 - IntKind.i64.wrap (x1 + x5))), jA o140 0, I (IntKind.i64.wrap (IntKind.i64.wrap (IntKind.i64.wrap (0 - IntKind.i64.wrap (x0 + x4)) * IntKind.i64.wrap (0 - IntKind.i64.wrap (x0 + x4))) + IntKind.i64.wrap (IntKind.i64.wrap (0 - IntKind.i64.wrap (x1 + x5)) * IntKind.i64.wrap (0 - IntKind.i64.wrap (x1 + x5)))))]).bind fun o142 =>
 (M_cncref23_half [I x3, I x7]).bind fun o143 =>
 some [jA o141 0, jA o142 0, jA o140 0, jA o143 0, B true]
 else
 (M_cncref23_half [I x2, I x6]).bind fun o144 =>
 (M_cncref23_Near [I (IntKind.i64.wrap (0 - IntKind.i64.wrap (x0 + x4))), jA o144 0, I (IntKind.i64.wrap (IntKind.i64.wrap (IntKind.i64.wrap (0 - IntKind.i64.wrap (x0 + x4)) * IntKind.i64.wrap (0 - IntKind.i64.wrap (x0 + x4))) + IntKind.i64.wrap (IntKind.i64.wrap (0 - IntKind.i64.wrap (x1 + x5)) * IntKind.i64.wrap (0 - IntKind.i64.wrap (x1 + x5)))))]).bind fun o145 =>
 (M_cncref23_Near [I (IntKind.i64.wrap (0 - IntKind.i64.wrap (x1 + x5))), jA o144 0, I (IntKind.i64.wrap (IntKind.i64.wrap (IntKind.i64.wrap (0 - IntKind.i64.wrap (x0 + x4)) * IntKind.i64.wrap (0 - IntKind.i64.wrap (x0 + x4))) + IntKind.i64.wrap (IntKind.i64.wrap (0 - IntKind.i64.wrap (x1 + x5)) * IntKind.i64.wrap (0 - IntKind.i64.wrap (x1 + x5)))))]).bind fun o146 =>
 (M_cncref23_half [I x3, I x7]).bind fun o147 =>
 some [jA o145 0, jA o146 0, jA o144 0, jA o147 0, B true]
 else
 bif IntKind.i64.wrap (x8 * IntKind.i64.wrap (x5 - x1)) == 0 then
 bif IntKind.i64.wrap (x8 * IntKind.i64.wrap (x0 - x4)) == 0 then
 some [I 0, I 0, I 0, I 0, B false]
 else
 (M_cncref23_half [I x2, I x6]).bind fun o148 =>
 (M_cncref23_Near [I (IntKind.i64.wrap (x8 * IntKind.i64.wrap (x5 - x1))), jA o148 0, I (IntKind.i64.wrap (IntKind.i64.wrap (IntKind.i64.wrap (x8 * IntKind.i64.wrap (x5 - x1)) * IntKind.i64.wrap (x8 * IntKind.i64.wrap (x5 - x1))) + IntKind.i64.wrap (IntKind.i64.wrap (x8 * IntKind.i64.wrap (x0 - x4)) * IntKind.i64.wrap (x8 * IntKind.i64.wrap (x0 - x4)))))]).bind fun o149 =>
 (M_cncref23_Near [I (IntKind.i64.wrap (x8 * IntKind.i64.wrap (x0 - x4))), jA o148 0, I (IntKind.i64.wrap (IntKind.i64.wrap (IntKind.i64.wrap (x8 * IntKind.i64.wrap (x5 - x1)) * IntKind.i64.wrap (x8 * IntKind.i64.wrap (x5 - x1))) + IntKind.i64.wrap (IntKind.i64.wrap (x8 * IntKind.i64.wrap (x0 - x4)) * IntKind.i64.wrap (x8 * IntKind.i64.wrap (x0 - x4)))))]).bind fun o150 =>
 (M_cncref23_half [I x3, I x7]).bind fun o151 =>
 some [jA o149 0, jA o150 0, jA o148 0, jA o151 0, B true]
 else
 (M_cncref23_half [I x2, I x6]).bind fun o152 =>
 (M_cncref23_Near [I (IntKind.i64.wrap (x8 * IntKind.i64.wrap (x5 - x1))), jA o152 0, I (IntKind.i64.wrap (IntKind.i64.wrap (IntKind.i64.wrap (x8 * IntKind.i64.wrap (x5 - x1)) * IntKind.i64.wrap (x8 * IntKind.i64.wrap (x5 - x1))) + IntKind.i64.wrap (IntKind.i64.wrap (x8 * IntKind.i64.wrap (x0 - x4)) * IntKind.i64.wrap (x8 * IntKind.i64.wrap (x0 - x4)))))]).bind fun o153 =>
 (M_cncref23_Near [I (IntKind.i64.wrap (x8 * IntKind.i64.wrap (x0 - x4))), jA o152 0, I (IntKind.i64.wrap (IntKind.i64.wrap (IntKind.i64.wrap (x8 * IntKind.i64.wrap (x5 - x1)) * IntKind.i64.wrap (x8 * IntKind.i64.wrap (x5 - x1))) + IntKind.i64.wrap (IntKind.i64.wrap (x8 * IntKind.i64.wrap (x0 - x4)) * IntKind.i64.wrap (x8 * IntKind.i64.wrap (x0 - x4)))))]).bind fun o154 =>
 (M_cncref23_half [I x3, I x7]).bind fun o155 =>
 some [jA o153 0, jA o154 0, jA o152 0, jA o155 0, B true]
 else
 bif x9 then
 bif IntKind.i64.wrap (0 - x0) == 0 then
 bif IntKind.i64.wrap (0 - x1) == 0 then
 some [I 0, I 0, I 0, I 0, B false]
 else
 (M_cncref23_half [I x2, I x6]).bind fun o156 =>
 (M_cncref23_Near [I (IntKind.i64.wrap (0 - x0)), jA o156 0, I (IntKind.i64.wrap (IntKind.i64.wrap (IntKind.i64.wrap (0 - x0) * IntKind.i64.wrap (0 - x0)) + IntKind.i64.wrap (IntKind.i64.wrap (0 - x1) * IntKind.i64.wrap (0 - x1))))]).bind fun o157 =>
 (M_cncref23_Near [I (IntKind.i64.wrap (0 - x1)), jA o156 0, I (IntKind.i64.wrap (IntKind.i64.wrap (IntKind.i64.wrap (0 - x0) * IntKind.i64.wrap (0 - x0)) + IntKind.i64.wrap (IntKind.i64.wrap (0 - x1) * IntKind.i64.wrap (0 - x1))))]).bind fun o158 =>
 (M_cncref23_half [I x3, I x7]).bind fun o159 =>
 some [jA o157 0, jA o158 0, jA o156 0, jA o159 0, B true]
 else
 (M_cncref23_half [I x2, I x6]).bind fun o160 =>
 (M_cncref23_Near [I (IntKind.i64.wrap (0 - x0)), jA o160 0, I (IntKind.i64.wrap (IntKind.i64.wrap (IntKind.i64.wrap (0 - x0) * IntKind.i64.wrap (0 - x0)) + IntKind.i64.wrap (IntKind.i64.wrap (0 - x1) * IntKind.i64.wrap (0 - x1))))]).bind fun o161 =>
 (M_cncref23_Near [I (IntKind.i64.wrap (0 - x1)), jA o160 0, I (IntKind.i64.wrap (IntKind.i64.wrap (IntKind.i64.wrap (0 - x0) * IntKind.i64.wrap (0 - x0)) + IntKind.i64.wrap (IntKind.i64.wrap (0 - x1) * IntKind.i64.wrap (0 - x1))))]).bind fun o162 =>
 (M_cncref23_half [I x3, I x7]).bind fun o163 =>
 some [jA o161 0, jA o162 0, jA o160 0, jA o163 0, B true]
 else
 (M_cncref23_Dot [I x0, I x1, I x2, I x3, I x4, I x5, I x6, I x7]).bind fun o164 =>
 bif decide (gA o164 0 > 0) then
 (M_cncref23_Cross [I x0, I x1, I x2, I x3, I x4, I x5, I x6, I x7]).bind fun o165 =>
 bif decide (IntKind.i64.wrap (gA o165 0 * x8) > 0) then
 bif IntKind.i64.wrap (x0 + x4) == 0 then
 bif IntKind.i64.wrap (x1 + x5) == 0 then
 some [I 0, I 0, I 0, I 0, B false]
 else
 (M_cncref23_half [I x2, I x6]).bind fun o166 =>
 (M_cncref23_Near [I (IntKind.i64.wrap (x0 + x4)), jA o166 0, I (IntKind.i64.wrap (IntKind.i64.wrap (IntKind.i64.wrap (x0 + x4) * IntKind.i64.wrap (x0 + x4)) + IntKind.i64.wrap (IntKind.i64.wrap (x1 + x5) * IntKind.i64.wrap (x1 + x5))))]).bind fun o167 =>
 (M_cncref23_Near [I (IntKind.i64.wrap (x1 + x5)), jA o166 0, I (IntKind.i64.wrap (IntKind.i64.wrap (IntKind.i64.wrap (x0 + x4) * IntKind.i64.wrap (x0 + x4)) + IntKind.i64.wrap (IntKind.i64.wrap (x1 + x5) * IntKind.i64.wrap (x1 + x5))))]).bind fun o168 =>
 (M_cncref23_half [I x3, I x7]).bind fun o169 =>
 some [jA o167 0, jA o168 0, jA o166 0, jA o169 0, B true]
 else
 (M_cncref23_half [I x2, I x6]).bind fun o170 =>
 (M_cncref23_Near [I (IntKind.i64.wrap (x0 + x4)), jA o170 0, I (IntKind.i64.wrap (IntKind.i64.wrap (IntKind.i64.wrap (x0 + x4) * IntKind.i64.wrap (x0 + x4)) + IntKind.i64.wrap (IntKind.i64.wrap (x1 + x5) * IntKind.i64.wrap (x1 + x5))))]).bind fun o171 =>
 (M_cncref23_Near [I (IntKind.i64.wrap (x1 + x5)), jA o170 0, I (IntKind.i64.wrap (IntKind.i64.wrap (IntKind.i64.wrap (x0 + x4) * IntKind.i64.wrap (x0 + x4)) + IntKind.i64.wrap (IntKind.i64.wrap (x1 + x5) * IntKind.i64.wrap (x1 + x5))))]).bind fun o172 =>
 (M_cncref23_half [I x3, I x7]).bind fun o173 =>
 some [jA o171 0, jA o172 0, jA o170 0, jA o173 0, B true]
 else
 (M_cncref23_Dot [I x0, I x1, I x2, I x3, I x4, I x5, I x6, I x7]).bind fun o174 =>
 bif decide (gA o174 0 > 0) then
 bif IntKind.i64.wrap (0 - IntKind.i64.wrap (x0 + x4)) == 0 then
 bif IntKind.i64.wrap (0 - IntKind.i64.wrap (x1 + x5)) == 0 then
 some [I 0, I 0, I 0, I 0, B false]
 else
 (M_cncref23_half [I x2, I x6]).bind fun o175 =>
 (M_cncref23_Near [I (IntKind.i64.wrap (0 - IntKind.i64.wrap (x0 + x4))), jA o175 0, I (IntKind.i64.wrap (IntKind.i64.wrap (IntKind.i64.wrap (0 - IntKind.i64.wrap (x0 + x4)) * IntKind.i64.wrap (0 - IntKind.i64.wrap (x0 + x4))) + IntKind.i64.wrap (IntKind.i64.wrap (0 - IntKind.i64.wrap (x1 + x5)) * IntKind.i64.wrap (0 - IntKind.i64.wrap (x1 + x5)))))]).bind fun o176 =>
 (M_cncref23_Near [I (IntKind.i64.wrap (0 - IntKind.i64.wrap (x1 + x5))), jA o175 0, I (IntKind.i64.wrap (IntKind.i64.wrap (IntKind.i64.wrap (0 - IntKind.i64.wrap (x0 + x4)) * IntKind.i64.wrap (0 - IntKind.i64.wrap (x0 + x4))) + IntKind.i64.wrap (IntKind.i64.wrap (0 - IntKind.i64.wrap (x1 + x5)) * IntKind.i64.wrap (0 - IntKind.i64.wrap (x1 + x5)))))]).bind fun o177 =>
 (M_cncref23_half [I x3, I x7]).bind fun o178 =>
 some [jA o176 0, jA o177 0, jA o175 0, jA o178 0, B true]
 else
 (M_cncref23_half [I x2, I x6]).bind fun o179 =>
 (M_cncref23_Near [I (IntKind.i64.wrap (0 - IntKind.i64.wrap (x0 + x4))), jA o179 0, I (IntKind.i64.wrap (IntKind.i64.wrap (IntKind.i64.wrap (0 - IntKind.i64.wrap (x0 + x4)) * IntKind.i64.wrap (0 - IntKind.i64.wrap (x0 + x4))) + IntKind.i64.wrap (IntKind.i64.wrap (0 - IntKind.i64.wrap (x1 + x5)) * IntKind.i64.wrap (0 - IntKind.i64.wrap (x1 + x5)))))]).bind fun o180 =>
 (M_cncref23_Near [I (IntKind.i64.wrap (0 - IntKind.i64.wrap (x1 + x5))), jA o179 0, I (IntKind.i64.wrap (IntKind.i64.wrap (IntKind.i64.wrap (0 - IntKind.i64.wrap (x0 + x4)) * IntKind.i64.wrap (0 - IntKind.i64.wrap (x0 + x4))) + IntKind.i64.wrap (IntKind.i64.wrap (0 - IntKind.i64.wrap (x1 + x5)) * IntKind.i64.wrap (0 - IntKind.i64.wrap (x1 + x5)))))]).bind fun o181 =>
 (M_cncref23_half [I x3, I x7]).bind fun o182 =>
 some [jA o180 0, jA o181 0, jA o179 0, jA o182 0, B true]
 else
 bif IntKind.i64.wrap (x8 * IntKind.i64.wrap (x5 - x1)) == 0 then
 bif IntKind.i64.wrap (x8 * IntKind.i64.wrap (x0 - x4)) == 0 then
 some [I 0, I 0, I 0, I 0, B false]
 else
 (M_cncref23_half [I x2, I x6]).bind fun o183 =>
 (M_cncref23_Near [I (IntKind.i64.wrap (x8 * IntKind.i64.wrap (x5 - x1))), jA o183 0, I (IntKind.i64.wrap (IntKind.i64.wrap (IntKind.i64.wrap (x8 * IntKind.i64.wrap (x5 - x1)) * IntKind.i64.wrap (x8 * IntKind.i64.wrap (x5 - x1))) + IntKind.i64.wrap (IntKind.i64.wrap (x8 * IntKind.i64.wrap (x0 - x4)) * IntKind.i64.wrap (x8 * IntKind.i64.wrap (x0 - x4)))))]).bind fun o184 =>
 (M_cncref23_Near [I (IntKind.i64.wrap (x8 * IntKind.i64.wrap (x0 - x4))), jA o183 0, I (IntKind.i64.wrap (IntKind.i64.wrap (IntKind.i64.wrap (x8 * IntKind.i64.wrap (x5 - x1)) * IntKind.i64.wrap (x8 * IntKind.i64.wrap (x5 - x1))) + IntKind.i64.wrap (IntKind.i64.wrap (x8 * IntKind.i64.wrap (x0 - x4)) * IntKind.i64.wrap (x8 * IntKind.i64.wrap (x0 - x4)))))]).bind fun o185 =>
 (M_cncref23_half [I x3, I x7]).bind fun o186 =>
 some [jA o184 0, jA o185 0, jA o183 0, jA o186 0, B true]
 else
 (M_cncref23_half [I x2, I x6]).bind fun o187 =>
 (M_cncref23_Near [I (IntKind.i64.wrap (x8 * IntKind.i64.wrap (x5 - x1))), jA o187 0, I (IntKind.i64.wrap (IntKind.i64.wrap (IntKind.i64.wrap (x8 * IntKind.i64.wrap (x5 - x1)) * IntKind.i64.wrap (x8 * IntKind.i64.wrap (x5 - x1))) + IntKind.i64.wrap (IntKind.i64.wrap (x8 * IntKind.i64.wrap (x0 - x4)) * IntKind.i64.wrap (x8 * IntKind.i64.wrap (x0 - x4)))))]).bind fun o188 =>
 (M_cncref23_Near [I (IntKind.i64.wrap (x8 * IntKind.i64.wrap (x0 - x4))), jA o187 0, I (IntKind.i64.wrap (IntKind.i64.wrap (IntKind.i64.wrap (x8 * IntKind.i64.wrap (x5 - x1)) * IntKind.i64.wrap (x8 * IntKind.i64.wrap (x5 - x1))) + IntKind.i64.wrap (IntKind.i64.wrap (x8 * IntKind.i64.wrap (x0 - x4)) * IntKind.i64.wrap (x8 * IntKind.i64.wrap (x0 - x4)))))]).bind fun o189 =>
 (M_cncref23_half [I x3, I x7]).bind fun o190 =>
 some [jA o188 0, jA o189 0, jA o187 0, jA o190 0, B true]
 else
 (M_cncref23_Dot [I x0, I x1, I x2, I x3, I x4, I x5, I x6, I x7]).bind fun o191 =>
 bif decide (gA o191 0 > 0) then
 bif IntKind.i64.wrap (0 - IntKind.i64.wrap (x0 + x4)) == 0 then
 bif IntKind.i64.wrap (0 - IntKind.i64.wrap (x1 + x5)) == 0 then
 some [I 0, I 0, I 0, I 0, B false]
 else
 (M_cncref23_half [I x2, I x6]).bind fun o192 =>
 (M_cncref23_Near [I (IntKind.i64.wrap (0 - IntKind.i64.wrap (x0 + x4))), jA o192 0, I (IntKind.i64.wrap (IntKind.i64.wrap (IntKind.i64.wrap (0 - IntKind.i64.wrap (x0 + x4)) * IntKind.i64.wrap (0 - IntKind.i64.wrap (x0 + x4))) + IntKind.i64.wrap (IntKind.i64.wrap (0 - IntKind.i64.wrap (x1 + x5)) * IntKind.i64.wrap (0 - IntKind.i64.wrap (x1 + x5)))))]).bind fun o193 =>
 (M_cncref23_Near [I (IntKind.i64.wrap (0 - IntKind.i64.wrap (x1 + x5))), jA o192 0, I (IntKind.i64.wrap (IntKind.i64.wrap (IntKind.i64.wrap (0 - IntKind.i64.wrap (x0 + x4)) * IntKind.i64.wrap (0 - IntKind.i64.wrap (x0 + x4))) + IntKind.i64.wrap (IntKind.i64.wrap (0 - IntKind.i64.wrap (x1 + x5)) * IntKind.i64.wrap (0 - IntKind.i64.wrap (x1 + x5)))))]).bind fun o194 =>
 (M_cncref23_half [I x3, I x7]).bind fun o195 =>
 some [jA o193 0, jA o194 0, jA o192 0, jA o195 0, B true]
 else
 (M_cncref23_half [I x2, I x6]).bind fun o196 =>
 (M_cncref23_Near [I (IntKind.i64.wrap (0 - IntKind.i64.wrap (x0 + x4))), jA o196 0, I (IntKind.i64.wrap (IntKind.i64.wrap (IntKind.i64.wrap (0 - IntKind.i64.wrap (x0 + x4)) * IntKind.i64.wrap (0 - IntKind.i64.wrap (x0 + x4))) + IntKind.i64.wrap (IntKind.i64.wrap (0 - IntKind.i64.wrap (x1 + x5)) * IntKind.i64.wrap (0 - IntKind.i64.wrap (x1 + x5)))))]).bind fun o197 =>
 (M_cncref23_Near [I (IntKind.i64.wrap (0 - IntKind.i64.wrap (x1 + x5))), jA o196 0, I (IntKind.i64.wrap (IntKind.i64.wrap (IntKind.i64.wrap (0 - IntKind.i64.wrap (x0 + x4)) * IntKind.i64.wrap (0 - IntKind.i64.wrap (x0 + x4))) + IntKind.i64.wrap (IntKind.i64.wrap (0 - IntKind.i64.wrap (x1 + x5)) * IntKind.i64.wrap (0 - IntKind.i64.wrap (x1 + x5)))))]).bind fun o198 =>
 (M_cncref23_half [I x3, I x7]).bind fun o199 =>
 some [jA o197 0, jA o198 0, jA o196 0, jA o199 0, B true]
 else
 bif IntKind.i64.wrap (x8 * IntKind.i64.wrap (x5 - x1)) == 0 then
 bif IntKind.i64.wrap (x8 * IntKind.i64.wrap (x0 - x4)) == 0 then
 some [I 0, I 0, I 0, I 0, B false]
 else
 (M_cncref23_half [I x2, I x6]).bind fun o200 =>
 (M_cncref23_Near [I (IntKind.i64.wrap (x8 * IntKind.i64.wrap (x5 - x1))), jA o200 0, I (IntKind.i64.wrap (IntKind.i64.wrap (IntKind.i64.wrap (x8 * IntKind.i64.wrap (x5 - x1)) * IntKind.i64.wrap (x8 * IntKind.i64.wrap (x5 - x1))) + IntKind.i64.wrap (IntKind.i64.wrap (x8 * IntKind.i64.wrap (x0 - x4)) * IntKind.i64.wrap (x8 * IntKind.i64.wrap (x0 - x4)))))]).bind fun o201 =>
 (M_cncref23_Near [I (IntKind.i64.wrap (x8 * IntKind.i64.wrap (x0 - x4))), jA o200 0, I (IntKind.i64.wrap (IntKind.i64.wrap (IntKind.i64.wrap (x8 * IntKind.i64.wrap (x5 - x1)) * IntKind.i64.wrap (x8 * IntKind.i64.wrap (x5 - x1))) + IntKind.i64.wrap (IntKind.i64.wrap (x8 * IntKind.i64.wrap (x0 - x4)) * IntKind.i64.wrap (x8 * IntKind.i64.wrap (x0 - x4)))))]).bind fun o202 =>
 (M_cncref23_half [I x3, I x7]).bind fun o203 =>
 some [jA o201 0, jA o202 0, jA o200 0, jA o203 0, B true]
 else
 (M_cncref23_half [I x2, I x6]).bind fun o204 =>
 (M_cncref23_Near [I (IntKind.i64.wrap (x8 * IntKind.i64.wrap (x5 - x1))), jA o204 0, I (IntKind.i64.wrap (IntKind.i64.wrap (IntKind.i64.wrap (x8 * IntKind.i64.wrap (x5 - x1)) * IntKind.i64.wrap (x8 * IntKind.i64.wrap (x5 - x1))) + IntKind.i64.wrap (IntKind.i64.wrap (x8 * IntKind.i64.wrap (x0 - x4)) * IntKind.i64.wrap (x8 * IntKind.i64.wrap (x0 - x4)))))]).bind fun o205 =>
 (M_cncref23_Near [I (IntKind.i64.wrap (x8 * IntKind.i64.wrap (x0 - x4))), jA o204 0, I (IntKind.i64.wrap (IntKind.i64.wrap (IntKind.i64.wrap (x8 * IntKind.i64.wrap (x5 - x1)) * IntKind.i64.wrap (x8 * IntKind.i64.wrap (x5 - x1))) + IntKind.i64.wrap (IntKind.i64.wrap (x8 * IntKind.i64.wrap (x0 - x4)) * IntKind.i64.wrap (x8 * IntKind.i64.wrap (x0 - x4)))))]).bind fun o206 =>
 (M_cncref23_half [I x3, I x7]).bind fun o207 =>
 some [jA o205 0, jA o206 0, jA o204 0, jA o207 0, B true] := by kernel_rfl
def m_cncref23_Middle := mf_cncref23_Middle m_cncref23_Near m_cncref23_half m_cncref23_Cross m_cncref23_Dot 
theorem sp_cncref23_Middle : SpecOK Tryz.prog (C_cncref23_Middle_0 m_cncref23_Near m_cncref23_half m_cncref23_Cross m_cncref23_Dot) := specOK_of rfl ⟨r_cncref23_Near, r_cncref23_half, r_cncref23_Cross, r_cncref23_Dot, trivial⟩
theorem r_cncref23_Middle : RowOK Tryz.prog (170, spOf sig_cncref23_Middle osig_cncref23_Middle m_cncref23_Middle) := row_of (C := (C_cncref23_Middle_0 m_cncref23_Near m_cncref23_half m_cncref23_Cross m_cncref23_Dot)) (L := 64) (by kernel_rfl) (FnOK.bare rfl rfl rfl) sp_cncref23_Middle eqOk mixOk (by kernel_rfl) (by kernel_rfl)
def sig_cncref23_Flat : Sk := { tmps := [tf [ci], tf [ci]], boxes := [], rows := [] }
def osig_cncref23_Flat : Sk := { tmps := [tf [CS.bool]], boxes := [], rows := [] }
def C_cncref23_Flat_0 : Cfg := { spec := lookS [], eqOk := eqAll, ownOff := ownOff }
def mf_cncref23_Flat : Fn := modelF Tryz.prog C_cncref23_Flat_0 64 182 sig_cncref23_Flat osig_cncref23_Flat
theorem mf_cncref23_Flat_eq (x0 x1 : Int) : mf_cncref23_Flat [I x0, I x1] =
 some [B (decide (x1 <= IntKind.i64.wrap (IntKind.i64.wrap (IntKind.i64.wrap (8 * x0) * 4) - 64)))] := by kernel_rfl
def m_cncref23_Flat := mf_cncref23_Flat 
theorem sp_cncref23_Flat : SpecOK Tryz.prog (C_cncref23_Flat_0 ) := specOK_of rfl trivial
theorem r_cncref23_Flat : RowOK Tryz.prog (182, spOf sig_cncref23_Flat osig_cncref23_Flat m_cncref23_Flat) := row_of (C := C_cncref23_Flat_0) (L := 64) (by kernel_rfl) (FnOK.bare rfl rfl rfl) sp_cncref23_Flat eqOk mixOk (by kernel_rfl) (by kernel_rfl)
def sig_cncref23_settled : Sk := { tmps := [TS.v true [ci, ci, ci, ci], TS.v true [ci, ci, ci, ci], tf [ci], tf [CS.bool]], boxes := [], rows := [] }
def osig_cncref23_settled : Sk := { tmps := [tf [CS.bool]], boxes := [], rows := [] }
def C_cncref23_settled_0 (M_cncref23_Flat M_cncref23_Cross : Fn) : Cfg := { spec := lookS [(182, spOf sig_cncref23_Flat osig_cncref23_Flat M_cncref23_Flat), (150, spOf sig_cncref23_Cross osig_cncref23_Cross M_cncref23_Cross)], eqOk := eqAll, ownOff := ownOff }
def mf_cncref23_settled (M_cncref23_Flat M_cncref23_Cross : Fn) : Fn := modelF Tryz.prog (C_cncref23_settled_0 M_cncref23_Flat M_cncref23_Cross) 64 169 sig_cncref23_settled osig_cncref23_settled
theorem mf_cncref23_settled_eq (M_cncref23_Flat M_cncref23_Cross : Fn) (x0 x1 x2 x3 x4 x5 x6 x7 x8 : Int) (x9 : Bool) : mf_cncref23_settled M_cncref23_Flat M_cncref23_Cross [I x0, I x1, I x2, I x3, I x4, I x5, I x6, I x7, I x8, B x9] =
 bif !x9 then
 (M_cncref23_Cross [I x0, I x1, I x2, I x3, I x4, I x5, I x6, I x7]).bind fun o2 =>
 bif decide (IntKind.i64.wrap (gA o2 0 * x8) > 0) then
 (M_cncref23_Flat [I (mn x2 x6), I (IntKind.i64.wrap (IntKind.i64.wrap (IntKind.i64.wrap (x0 - x4) * IntKind.i64.wrap (x0 - x4)) + IntKind.i64.wrap (IntKind.i64.wrap (x1 - x5) * IntKind.i64.wrap (x1 - x5))))]).bind fun o3 =>
 some [B (bA o3 0)]
 else
 some [B false]
 else
 some [B false] := by kernel_rfl
def m_cncref23_settled := mf_cncref23_settled m_cncref23_Flat m_cncref23_Cross 
theorem sp_cncref23_settled : SpecOK Tryz.prog (C_cncref23_settled_0 m_cncref23_Flat m_cncref23_Cross) := specOK_of rfl ⟨r_cncref23_Flat, r_cncref23_Cross, trivial⟩
theorem r_cncref23_settled : RowOK Tryz.prog (169, spOf sig_cncref23_settled osig_cncref23_settled m_cncref23_settled) := row_of (C := (C_cncref23_settled_0 m_cncref23_Flat m_cncref23_Cross)) (L := 64) (by kernel_rfl) (FnOK.bare rfl rfl rfl) sp_cncref23_settled eqOk mixOk (by kernel_rfl) (by kernel_rfl)
def fuel_cncref23_pieces : Nat := 20
def sig_cncref23_pieces : Sk := { tmps := [TS.v true [ci, ci, ci, ci], TS.v true [ci, ci, ci, ci], tf [ci], tf [CS.bool], tf [ci]], boxes := [], rows := [] }
def osig_cncref23_pieces : Sk := { tmps := [tf [CS.own 103700 4]], boxes := [], rows := [(103700, 154, [kI, kI, kI, kI])] }
def C_cncref23_pieces_0 (M_cncref23_pieces M_cncref23_Middle M_cncref23_settled : Fn) : Cfg := { spec := lookS [(152, spOf sig_cncref23_pieces osig_cncref23_pieces M_cncref23_pieces), (170, spOf sig_cncref23_Middle osig_cncref23_Middle M_cncref23_Middle), (169, spOf sig_cncref23_settled osig_cncref23_settled M_cncref23_settled)], eqOk := eqAll, pure := fun f => !(elemN [152] f), ownOff := ownOff, rowDst := [23], rowAs := fun d => bif Nat.beq d 23 then 103700 else d, ownRes := true }
def mf_cncref23_pieces (M_cncref23_pieces M_cncref23_Middle M_cncref23_settled : Fn) : Fn := modelF Tryz.prog (C_cncref23_pieces_0 M_cncref23_pieces M_cncref23_Middle M_cncref23_settled) 64 152 sig_cncref23_pieces osig_cncref23_pieces
theorem mf_cncref23_pieces_eq (M_cncref23_pieces M_cncref23_Middle M_cncref23_settled : Fn) (x0 x1 x2 x3 x4 x5 x6 x7 x8 : Int) (x9 : Bool) (x10 : Int) : mf_cncref23_pieces M_cncref23_pieces M_cncref23_Middle M_cncref23_settled [I x0, I x1, I x2, I x3, I x4, I x5, I x6, I x7, I x8, B x9, I x10] =
 bif decide (x10 >= 16) then
 some [.view [kI, kI, kI, kI] [[I x4, I x5, I x6, I x7]]]
 else
 (M_cncref23_settled [I x0, I x1, I x2, I x3, I x4, I x5, I x6, I x7, I x8, B x9]).bind fun o4 =>
 bif bA o4 0 then
 some [.view [kI, kI, kI, kI] [[I x4, I x5, I x6, I x7]]]
 else
 (M_cncref23_Middle [I x0, I x1, I x2, I x3, I x4, I x5, I x6, I x7, I x8, B x9]).bind fun o5 =>
 (M_cncref23_pieces [I x0, I x1, I x2, I x3, jA o5 0, jA o5 1, jA o5 2, jA o5 3, I x8, B false, I (IntKind.i64.wrap (x10 + 1))]).bind fun o6 =>
 (M_cncref23_pieces [jA o5 0, jA o5 1, jA o5 2, jA o5 3, I x4, I x5, I x6, I x7, I x8, B false, I (IntKind.i64.wrap (x10 + 1))]).bind fun o7 =>
 bif ((wA o6 0 ++ wA o7 0).length * 32).ble 140737488355328 then
 some [.view [kI, kI, kI, kI] (wA o6 0 ++ wA o7 0)]
 else
 none := by kernel_rfl
def mG_cncref23_pieces (M : Fn) : Fn := mf_cncref23_pieces M m_cncref23_Middle m_cncref23_settled 
def mR_cncref23_pieces : Nat -> Fn
 | 0 => fun _ => none
 | n + 1 => mG_cncref23_pieces (mR_cncref23_pieces n)
theorem sp_cncref23_pieces {M : Fn} (h : RowOK Tryz.prog (152, spOf sig_cncref23_pieces osig_cncref23_pieces M)) : SpecOK Tryz.prog (C_cncref23_pieces_0 M m_cncref23_Middle m_cncref23_settled) := specOK_of rfl ⟨h, r_cncref23_Middle, r_cncref23_settled, trivial⟩
theorem rG_cncref23_pieces {M : Fn} (h : RowOK Tryz.prog (152, spOf sig_cncref23_pieces osig_cncref23_pieces M)) : RowOK Tryz.prog (152, spOf sig_cncref23_pieces osig_cncref23_pieces (mG_cncref23_pieces M)) := row_of (C := (C_cncref23_pieces_0 M m_cncref23_Middle m_cncref23_settled)) (L := 64) (by kernel_rfl) (FnOK.bare rfl rfl rfl) (sp_cncref23_pieces h) eqOk mixOk (by kernel_rfl) (by kernel_rfl)
theorem rR_cncref23_pieces : ∀ n, RowOK Tryz.prog (152, spOf sig_cncref23_pieces osig_cncref23_pieces (mR_cncref23_pieces n))
 | 0 => row_none
 | n + 1 => rG_cncref23_pieces (rR_cncref23_pieces n)
def m_cncref23_pieces := mR_cncref23_pieces fuel_cncref23_pieces
theorem r_cncref23_pieces : RowOK Tryz.prog (152, spOf sig_cncref23_pieces osig_cncref23_pieces m_cncref23_pieces) := rR_cncref23_pieces fuel_cncref23_pieces
def sig_cncref23_spoke : Sk := { tmps := [TS.v true [ci, ci, ci, ci]], boxes := [], rows := [] }
def osig_cncref23_spoke : Sk := { tmps := [TS.v true [ci, ci, ci, ci]], boxes := [], rows := [] }
def C_cncref23_spoke_0 (M_cncref23_root M_cncref23_Dot : Fn) : Cfg := { spec := lookS [(117, spOf sig_cncref23_root osig_cncref23_root M_cncref23_root), (148, spOf sig_cncref23_Dot osig_cncref23_Dot M_cncref23_Dot)], eqOk := eqAll, ownOff := ownOff }
def mf_cncref23_spoke (M_cncref23_root M_cncref23_Dot : Fn) : Fn := modelF Tryz.prog (C_cncref23_spoke_0 M_cncref23_root M_cncref23_Dot) 64 168 sig_cncref23_spoke osig_cncref23_spoke
theorem mf_cncref23_spoke_eq (M_cncref23_root M_cncref23_Dot : Fn) (x0 x1 x2 x3 : Int) : mf_cncref23_spoke M_cncref23_root M_cncref23_Dot [I x0, I x1, I x2, I x3] =
 (M_cncref23_Dot [I (IntKind.i64.wrap (x0 * 16)), I (IntKind.i64.wrap (x1 * 16)), I 0, I (IntKind.i64.wrap (x3 * 16)), I (IntKind.i64.wrap (x0 * 16)), I (IntKind.i64.wrap (x1 * 16)), I 0, I (IntKind.i64.wrap (x3 * 16))]).bind fun o2 =>
 (M_cncref23_root [jA o2 0]).bind fun o3 =>
 bif decide (IntKind.i64.wrap (gA o3 0 * IntKind.i64.wrap (gA o3 0 + 1)) < gA o2 0) then
 some [I (IntKind.i64.wrap (x0 * 16)), I (IntKind.i64.wrap (x1 * 16)), I (IntKind.i64.wrap (gA o3 0 + 1)), I (IntKind.i64.wrap (x3 * 16))]
 else
 some [I (IntKind.i64.wrap (x0 * 16)), I (IntKind.i64.wrap (x1 * 16)), jA o3 0, I (IntKind.i64.wrap (x3 * 16))] := by kernel_rfl
def m_cncref23_spoke := mf_cncref23_spoke m_cncref23_root m_cncref23_Dot 
theorem sp_cncref23_spoke : SpecOK Tryz.prog (C_cncref23_spoke_0 m_cncref23_root m_cncref23_Dot) := specOK_of rfl ⟨r_cncref23_root, r_cncref23_Dot, trivial⟩
theorem r_cncref23_spoke : RowOK Tryz.prog (168, spOf sig_cncref23_spoke osig_cncref23_spoke m_cncref23_spoke) := row_of (C := (C_cncref23_spoke_0 m_cncref23_root m_cncref23_Dot)) (L := 64) (by kernel_rfl) (FnOK.bare rfl rfl rfl) sp_cncref23_spoke eqOk mixOk (by kernel_rfl) (by kernel_rfl)
def sig_cncref23_ends : Sk := { tmps := [TS.v true [ci, ci, ci, ci, ci, ci, ci, ci, ci, ci, ci, ci, ci, CS.bool, ci, CS.bool, ci, ci, ci, ci, ci, CS.bool]], boxes := [], rows := [] }
def osig_cncref23_ends : Sk := { tmps := [TS.tup [(true, [ci, ci, ci, ci]), (true, [ci, ci, ci, ci])]], boxes := [], rows := [] }
def C_cncref23_ends_0 (M_cncref23_Plane : Fn) : Cfg := { spec := lookS [(123, spOf sig_cncref23_Plane osig_cncref23_Plane M_cncref23_Plane)], eqOk := eqAll, ownOff := ownOff }
def mf_cncref23_ends (M_cncref23_Plane : Fn) : Fn := modelF Tryz.prog (C_cncref23_ends_0 M_cncref23_Plane) 64 147 sig_cncref23_ends osig_cncref23_ends
theorem mf_cncref23_ends_eq (M_cncref23_Plane : Fn) (x0 x1 x2 x3 x4 x5 x6 x7 x8 x9 x10 x11 x12 : Int) (x13 : Bool) (x14 : Int) (x15 : Bool) (x16 x17 x18 x19 x20 : Int) (x21 : Bool) : mf_cncref23_ends M_cncref23_Plane [I x0, I x1, I x2, I x3, I x4, I x5, I x6, I x7, I x8, I x9, I x10, I x11, I x12, B x13, I x14, B x15, I x16, I x17, I x18, I x19, I x20, B x21] =
 (M_cncref23_Plane [I x9, I x10, I x11, I x8]).bind fun o3 =>
 (M_cncref23_Plane [I x2, I x3, I x4, I x8]).bind fun o4 =>
 (M_cncref23_Plane [I x5, I x6, I x7, I x8]).bind fun o5 =>
 some [I (IntKind.i64.wrap (gA o4 0 - gA o3 0)), I (IntKind.i64.wrap (gA o4 1 - gA o3 1)), I 0, jA o4 2, I (IntKind.i64.wrap (gA o5 0 - gA o3 0)), I (IntKind.i64.wrap (gA o5 1 - gA o3 1)), I 0, jA o5 2] := by kernel_rfl
def m_cncref23_ends := mf_cncref23_ends m_cncref23_Plane 
theorem sp_cncref23_ends : SpecOK Tryz.prog (C_cncref23_ends_0 m_cncref23_Plane) := specOK_of rfl ⟨r_cncref23_Plane, trivial⟩
theorem r_cncref23_ends : RowOK Tryz.prog (147, spOf sig_cncref23_ends osig_cncref23_ends m_cncref23_ends) := row_of (C := (C_cncref23_ends_0 m_cncref23_Plane)) (L := 64) (by kernel_rfl) (FnOK.bare rfl rfl rfl) sp_cncref23_ends eqOk mixOk (by kernel_rfl) (by kernel_rfl)
def sig_cncref23_Ends : Sk := { tmps := [TS.v true [ci, ci, ci, ci, ci, ci, ci, ci, ci, ci, ci, ci, ci, CS.bool, ci, CS.bool, ci, ci, ci, ci, ci, CS.bool]], boxes := [], rows := [] }
def osig_cncref23_Ends : Sk := { tmps := [TS.tup [(true, [ci, ci, ci, ci]), (true, [ci, ci, ci, ci])]], boxes := [], rows := [] }
def C_cncref23_Ends_0 (M_cncref23_spoke M_cncref23_ends : Fn) : Cfg := { spec := lookS [(168, spOf sig_cncref23_spoke osig_cncref23_spoke M_cncref23_spoke), (147, spOf sig_cncref23_ends osig_cncref23_ends M_cncref23_ends)], eqOk := eqAll, ownOff := ownOff }
def mf_cncref23_Ends (M_cncref23_spoke M_cncref23_ends : Fn) : Fn := modelF Tryz.prog (C_cncref23_Ends_0 M_cncref23_spoke M_cncref23_ends) 64 151 sig_cncref23_Ends osig_cncref23_Ends
theorem mf_cncref23_Ends_eq (M_cncref23_spoke M_cncref23_ends : Fn) (x0 x1 x2 x3 x4 x5 x6 x7 x8 x9 x10 x11 x12 : Int) (x13 : Bool) (x14 : Int) (x15 : Bool) (x16 x17 x18 x19 x20 : Int) (x21 : Bool) : mf_cncref23_Ends M_cncref23_spoke M_cncref23_ends [I x0, I x1, I x2, I x3, I x4, I x5, I x6, I x7, I x8, I x9, I x10, I x11, I x12, B x13, I x14, B x15, I x16, I x17, I x18, I x19, I x20, B x21] =
 (M_cncref23_ends [I x0, I x1, I x2, I x3, I x4, I x5, I x6, I x7, I x8, I x9, I x10, I x11, I x12, B x13, I x14, B x15, I x16, I x17, I x18, I x19, I x20, B x21]).bind fun o3 =>
 (M_cncref23_spoke [jA o3 0, jA o3 1, jA o3 2, jA o3 3]).bind fun o4 =>
 (M_cncref23_spoke [jA o3 4, jA o3 5, jA o3 6, jA o3 7]).bind fun o5 =>
 some [jA o4 0, jA o4 1, jA o4 2, jA o4 3, jA o5 0, jA o5 1, jA o5 2, jA o5 3] := by kernel_rfl
def m_cncref23_Ends := mf_cncref23_Ends m_cncref23_spoke m_cncref23_ends 
theorem sp_cncref23_Ends : SpecOK Tryz.prog (C_cncref23_Ends_0 m_cncref23_spoke m_cncref23_ends) := specOK_of rfl ⟨r_cncref23_spoke, r_cncref23_ends, trivial⟩
theorem r_cncref23_Ends : RowOK Tryz.prog (151, spOf sig_cncref23_Ends osig_cncref23_Ends m_cncref23_Ends) := row_of (C := (C_cncref23_Ends_0 m_cncref23_spoke m_cncref23_ends)) (L := 64) (by kernel_rfl) (FnOK.bare rfl rfl rfl) sp_cncref23_Ends eqOk mixOk (by kernel_rfl) (by kernel_rfl)
def sig_cncref01_cmp : Sk := { tmps := [tf [CS.sl [Kd.int .u64]], tf [CS.sl [Kd.int .u64]]], boxes := [], rows := [] }
def osig_cncref01_cmp : Sk := { tmps := [tf [ci]], boxes := [], rows := [] }
def C_cncref01_cmp_0 : Cfg := { spec := lookS [], eqOk := eqAll, ownOff := ownOff }
def sk_cncref01_cmp_6 : Sk := { tmps := [tf [CS.sl [Kd.int .u64]], tf [CS.sl [Kd.int .u64]], td, td, td, tf [ci]] ++ dd 35, boxes := [], rows := [] }
def ex_cncref01_cmp_6 : List (Ex × Sk) := [(Ex.ret, { tmps := [td, td, td, td, tf [ci]] ++ dd 36, boxes := [], rows := [] }), (Ex.exit 0, { tmps := [td] ++ dd 40, boxes := [], rows := [] })]
def st_cncref01_cmp_6 : Lp := stepL Tryz.prog C_cncref01_cmp_0 64 6 (bodyOf Tryz.prog 166 6) sk_cncref01_cmp_6 ex_cncref01_cmp_6
def C_cncref01_cmp_1 (N6 : Lp) : Cfg := C_cncref01_cmp_0.loop 6 sk_cncref01_cmp_6 ex_cncref01_cmp_6 N6
def mf_cncref01_cmp (N6 : Lp) : Fn := modelF Tryz.prog (C_cncref01_cmp_1 N6) 64 166 sig_cncref01_cmp osig_cncref01_cmp
theorem st_cncref01_cmp_6_eq (v0 v1 : Rw) (v2 : Int) : st_cncref01_cmp_6 [.view [Kd.int .u64] v0, .view [Kd.int .u64] v1, I v2] =
 bif decide (v2 >= 0) then
 bif decide (0 <= v2) && decide (v2 < (v0.length : Int)) then
 bif decide (0 <= v2) && decide (v2 < (v1.length : Int)) then
 bif decide (intOf (nth .dead (nth [] v0 v2.toNat) 0) < intOf (nth .dead (nth [] v1 v2.toNat) 0)) then
 some (1, [I (-1)])
 else
 bif decide (0 <= v2) && decide (v2 < (v0.length : Int)) then
 bif decide (0 <= v2) && decide (v2 < (v1.length : Int)) then
 bif decide (intOf (nth .dead (nth [] v0 v2.toNat) 0) > intOf (nth .dead (nth [] v1 v2.toNat) 0)) then
 some (1, [I 1])
 else
 some (0, [.view [Kd.int IntKind.u64] v0, .view [Kd.int IntKind.u64] v1, I (IntKind.i64.wrap (v2 - 1))])
 else
 none
 else
 none
 else
 none
 else
 none
 else
 some (2, []) := by kernel_rfl
theorem mf_cncref01_cmp_eq (N6 : Lp) (x0 x1 : Rw) : mf_cncref01_cmp N6 [.view [Kd.int .u64] x0, .view [Kd.int .u64] x1] =
 bif (x0.length : Int) != (x1.length : Int) then
 bif decide ((x0.length : Int) < (x1.length : Int)) then
 some [I (-1)]
 else
 some [I 1]
 else
 (N6 [.view [Kd.int IntKind.u64] x0, .view [Kd.int IntKind.u64] x1, I (IntKind.i64.wrap ((x0.length : Int) - 1))]).bind fun o1 =>
 bif o1.1.beq 1 then
 some [I (intOf (nth .dead o1.2 0))]
 else
 bif o1.1.beq 2 then
 some [I 0]
 else
 none := by kernel_rfl
def l_cncref01_cmp_6 := loopC (st_cncref01_cmp_6 )
def m_cncref01_cmp := mf_cncref01_cmp l_cncref01_cmp_6
theorem sp_cncref01_cmp : SpecOK Tryz.prog (C_cncref01_cmp_0 ) := specOK_of rfl trivial
theorem r_cncref01_cmp : RowOK Tryz.prog (166, spOf sig_cncref01_cmp osig_cncref01_cmp m_cncref01_cmp) := row_of (C := (C_cncref01_cmp_1 l_cncref01_cmp_6)) (L := 64) (by kernel_rfl) ((FnOK.bare rfl rfl rfl).loop sp_cncref01_cmp eqOk mixOk (by kernel_rfl) (by kernel_rfl)) sp_cncref01_cmp eqOk mixOk (by kernel_rfl) (by kernel_rfl)
def sig_cncref01_cut : Sk := { tmps := [tf [CS.sl [Kd.int .u64]]], boxes := [], rows := [] }
def osig_cncref01_cut : Sk := { tmps := [tf [CS.sl [Kd.int .u64]]], boxes := [], rows := [] }
def C_cncref01_cut_0 : Cfg := { spec := lookS [], eqOk := eqAll, ownOff := ownOff }
def sk_cncref01_cut_1 : Sk := { tmps := [tf [CS.sl [Kd.int .u64]]] ++ dd 20, boxes := [], rows := [] }
def ex_cncref01_cut_1 : List (Ex × Sk) := [(Ex.exit 0, { tmps := [tf [CS.sl [Kd.int .u64]]] ++ dd 20, boxes := [], rows := [] })]
def st_cncref01_cut_1 : Lp := stepL Tryz.prog C_cncref01_cut_0 64 1 (bodyOf Tryz.prog 191 1) sk_cncref01_cut_1 ex_cncref01_cut_1
def C_cncref01_cut_1 (N1 : Lp) : Cfg := C_cncref01_cut_0.loop 1 sk_cncref01_cut_1 ex_cncref01_cut_1 N1
def mf_cncref01_cut (N1 : Lp) : Fn := modelF Tryz.prog (C_cncref01_cut_1 N1) 64 191 sig_cncref01_cut osig_cncref01_cut
theorem st_cncref01_cut_1_eq (v0 : Rw) : st_cncref01_cut_1 [.view [Kd.int .u64] v0] =
 bif decide ((v0.length : Int) > 0) then
 bif decide (0 <= IntKind.i64.wrap ((v0.length : Int) - 1)) && decide (IntKind.i64.wrap ((v0.length : Int) - 1) < (v0.length : Int)) then
 bif intOf (nth .dead (nth [] v0 (IntKind.i64.wrap ((v0.length : Int) - 1)).toNat) 0) == 0 then
 bif decide (0 <= IntKind.i64.wrap ((v0.length : Int) - 1)) && decide (IntKind.i64.wrap ((v0.length : Int) - 1) <= (v0.length : Int)) then
 some (0, [.view [Kd.int IntKind.u64] (List.take (IntKind.i64.wrap ((v0.length : Int) - 1)).toNat v0)])
 else
 none
 else
 some (1, [.view [Kd.int IntKind.u64] v0])
 else
 none
 else
 some (1, [.view [Kd.int IntKind.u64] v0]) := by kernel_rfl
theorem mf_cncref01_cut_eq (N1 : Lp) (x0 : Rw) : mf_cncref01_cut N1 [.view [Kd.int .u64] x0] =
 (N1 [.view [Kd.int IntKind.u64] x0]).bind fun o1 =>
 bif o1.1.beq 1 then
 some [.view [Kd.int IntKind.u64] (rowsOf (nth .dead o1.2 0))]
 else
 none := by kernel_rfl
def l_cncref01_cut_1 := loopC (st_cncref01_cut_1 )
def m_cncref01_cut := mf_cncref01_cut l_cncref01_cut_1
theorem sp_cncref01_cut : SpecOK Tryz.prog (C_cncref01_cut_0 ) := specOK_of rfl trivial
theorem r_cncref01_cut : RowOK Tryz.prog (191, spOf sig_cncref01_cut osig_cncref01_cut m_cncref01_cut) := row_of (C := (C_cncref01_cut_1 l_cncref01_cut_1)) (L := 64) (by kernel_rfl) ((FnOK.bare rfl rfl rfl).loop sp_cncref01_cut eqOk mixOk (by kernel_rfl) (by kernel_rfl)) sp_cncref01_cut eqOk mixOk (by kernel_rfl) (by kernel_rfl)
def sig_cncref01_mul : Sk := { tmps := [tf [CS.sl [Kd.int .u64]], tf [CS.sl [Kd.int .u64]]], boxes := [], rows := [] }
def osig_cncref01_mul : Sk := { tmps := [tf [CS.sl [Kd.int .u64]]], boxes := [], rows := [] }
def C_cncref01_mul_0 (M_cncref01_cut : Fn) : Cfg := { spec := lookS [(191, spOf sig_cncref01_cut osig_cncref01_cut M_cncref01_cut)], eqOk := eqAll, ownOff := ownOff }
def sk_cncref01_mul_7 : Sk := { tmps := [tf [CS.sl [Kd.int .u64]], tf [CS.sl [Kd.int .u64]], td, td, td, tf [CS.own 15 1], tf [ci], tf [CS.int .u64], tf [ci]] ++ dd 63, boxes := [], rows := [(15, 123, [Kd.int .u64])] }
def ex_cncref01_mul_7 : List (Ex × Sk) := [(Ex.exit 2, { tmps := [tf [CS.sl [Kd.int .u64]], tf [CS.sl [Kd.int .u64]], td, td, td, tf [CS.own 15 1], tf [ci], tf [CS.int .u64]] ++ dd 64, boxes := [], rows := [(15, 123, [Kd.int .u64])] })]
def st_cncref01_mul_7 (M_cncref01_cut : Fn) : Lp := stepL Tryz.prog (C_cncref01_mul_0 M_cncref01_cut) 64 7 (bodyOf Tryz.prog 179 7) sk_cncref01_mul_7 ex_cncref01_mul_7
def C_cncref01_mul_1 (M_cncref01_cut : Fn) (N7 : Lp) : Cfg := (C_cncref01_mul_0 M_cncref01_cut).loop 7 sk_cncref01_mul_7 ex_cncref01_mul_7 N7
def sk_cncref01_mul_3 : Sk := { tmps := [tf [CS.sl [Kd.int .u64]], tf [CS.sl [Kd.int .u64]], td, td, td, tf [CS.own 15 1], tf [ci]] ++ dd 65, boxes := [], rows := [(15, 123, [Kd.int .u64])] }
def ex_cncref01_mul_3 : List (Ex × Sk) := [(Ex.exit 0, { tmps := [td, td, td, td, td, tf [CS.own 15 1]] ++ dd 66, boxes := [], rows := [(15, 123, [Kd.int .u64])] })]
def st_cncref01_mul_3 (M_cncref01_cut : Fn) (N7 : Lp) : Lp := stepL Tryz.prog (C_cncref01_mul_1 M_cncref01_cut N7) 64 3 (bodyOf Tryz.prog 179 3) sk_cncref01_mul_3 ex_cncref01_mul_3
def C_cncref01_mul_2 (M_cncref01_cut : Fn) (N7 N3 : Lp) : Cfg := (C_cncref01_mul_1 M_cncref01_cut N7).loop 3 sk_cncref01_mul_3 ex_cncref01_mul_3 N3
def mf_cncref01_mul (M_cncref01_cut : Fn) (N7 N3 : Lp) : Fn := modelF Tryz.prog (C_cncref01_mul_2 M_cncref01_cut N7 N3) 64 179 sig_cncref01_mul osig_cncref01_mul
theorem st_cncref01_mul_7_eq (M_cncref01_cut : Fn) (v0 v1 v2 : Rw) (v3 v4 v5 : Int) : st_cncref01_mul_7 M_cncref01_cut [.view [Kd.int .u64] v0, .view [Kd.int .u64] v1, .view [Kd.int .u64] v2, I v3, U v4, I v5] =
 bif decide (v5 < (v2.length : Int)) then
 bif decide (0 <= IntKind.i64.wrap (v3 + v5)) && decide (IntKind.i64.wrap (v3 + v5) < (v0.length : Int)) then
 bif decide (0 <= v3) && decide (v3 < (v1.length : Int)) then
 bif decide (0 <= v5) && decide (v5 < (v2.length : Int)) then
 bif decide (0 <= IntKind.i64.wrap (v3 + v5)) && decide (IntKind.i64.wrap (v3 + v5) < (v0.length : Int)) then
 some (0, [.view [Kd.int IntKind.u64] (v0.set (IntKind.i64.wrap (v3 + v5)).toNat [U (IntKind.u64.wrap (↑(BitVec.ofInt IntKind.u64.bits (IntKind.u64.wrap (IntKind.u64.wrap (intOf (nth .dead (nth [] v0 (IntKind.i64.wrap (v3 + v5)).toNat) 0) + IntKind.u64.wrap (intOf (nth .dead (nth [] v1 v3.toNat) 0) * intOf (nth .dead (nth [] v2 v5.toNat) 0))) + v4)) &&& BitVec.ofInt IntKind.u64.bits 65535).toNat : Int))]), .view [Kd.int IntKind.u64] v1, .view [Kd.int IntKind.u64] v2, I v3, U ((IntKind.u64.wrap (IntKind.u64.wrap (intOf (nth .dead (nth [] v0 (IntKind.i64.wrap (v3 + v5)).toNat) 0) + IntKind.u64.wrap (intOf (nth .dead (nth [] v1 v3.toNat) 0) * intOf (nth .dead (nth [] v2 v5.toNat) 0))) + v4)).fdiv (2 ^ min (Int.toNat 16) IntKind.u64.bits)), I (IntKind.i64.wrap (v5 + 1))])
 else
 none
 else
 none
 else
 none
 else
 none
 else
 some (1, [.view [Kd.int IntKind.u64] v0, .view [Kd.int IntKind.u64] v1, .view [Kd.int IntKind.u64] v2, I v3, U v4]) := by kernel_rfl
theorem st_cncref01_mul_3_eq (M_cncref01_cut : Fn) (N7 : Lp) (v0 v1 v2 : Rw) (v3 : Int) : st_cncref01_mul_3 M_cncref01_cut N7 [.view [Kd.int .u64] v0, .view [Kd.int .u64] v1, .view [Kd.int .u64] v2, I v3] =
 bif decide (v3 < (v1.length : Int)) then
 (N7 [.view [Kd.int IntKind.u64] v0, .view [Kd.int IntKind.u64] v1, .view [Kd.int IntKind.u64] v2, I v3, U 0, I 0]).bind fun o3 =>
 bif o3.1.beq 1 then
 bif decide (0 <= IntKind.i64.wrap (intOf (nth .dead o3.2 3) + (↑(rowsOf (nth .dead o3.2 2)).length : Int))) && decide (IntKind.i64.wrap (intOf (nth .dead o3.2 3) + (↑(rowsOf (nth .dead o3.2 2)).length : Int)) < (↑(rowsOf (nth .dead o3.2 0)).length : Int)) then
 bif decide (0 <= IntKind.i64.wrap (intOf (nth .dead o3.2 3) + (↑(rowsOf (nth .dead o3.2 2)).length : Int))) && decide (IntKind.i64.wrap (intOf (nth .dead o3.2 3) + (↑(rowsOf (nth .dead o3.2 2)).length : Int)) < (↑(rowsOf (nth .dead o3.2 0)).length : Int)) then
 some (0, [.view [Kd.int IntKind.u64] ((rowsOf (nth .dead o3.2 0)).set (IntKind.i64.wrap (intOf (nth .dead o3.2 3) + (↑(rowsOf (nth .dead o3.2 2)).length : Int))).toNat [U (IntKind.u64.wrap (intOf (nth .dead (nth [] (rowsOf (nth .dead o3.2 0)) (IntKind.i64.wrap (intOf (nth .dead o3.2 3) + (↑(rowsOf (nth .dead o3.2 2)).length : Int))).toNat) 0) + intOf (nth .dead o3.2 4)))]), .view [Kd.int IntKind.u64] (rowsOf (nth .dead o3.2 1)), .view [Kd.int IntKind.u64] (rowsOf (nth .dead o3.2 2)), I (IntKind.i64.wrap (intOf (nth .dead o3.2 3) + 1))])
 else
 none
 else
 none
 else
 none
 else
 some (1, [.view [Kd.int IntKind.u64] v0]) := by kernel_rfl
theorem mf_cncref01_mul_eq (M_cncref01_cut : Fn) (N7 N3 : Lp) (x0 x1 : Rw) : mf_cncref01_mul M_cncref01_cut N7 N3 [.view [Kd.int .u64] x0, .view [Kd.int .u64] x1] =
 bif decide (IntKind.i64.wrap ((x0.length : Int) + (x1.length : Int)) = IntKind.i64.wrap ((x0.length : Int) + (x1.length : Int))) then
 bif decide (0 <= IntKind.i64.wrap ((x0.length : Int) + (x1.length : Int))) && decide (IntKind.i64.wrap ((x0.length : Int) + (x1.length : Int)) * (↑8 : Int) <= 140737488355328) then
 (N3 [.view [Kd.int IntKind.u64] (List.replicate (IntKind.i64.wrap ((x0.length : Int) + (x1.length : Int))).toNat [U 0]), .view [Kd.int IntKind.u64] x0, .view [Kd.int IntKind.u64] x1, I 0]).bind fun o4 =>
 bif o4.1.beq 1 then
 (M_cncref01_cut [.view [Kd.int IntKind.u64] (rowsOf (nth .dead o4.2 0))]).bind fun o5 =>
 some [.view [Kd.int IntKind.u64] (rowsOf (nth .dead o5 0))]
 else
 none
 else
 none
 else
 none := by kernel_rfl
def l_cncref01_mul_7 := loopC (st_cncref01_mul_7 m_cncref01_cut )
def l_cncref01_mul_3 := loopC (st_cncref01_mul_3 m_cncref01_cut l_cncref01_mul_7)
def m_cncref01_mul := mf_cncref01_mul m_cncref01_cut l_cncref01_mul_7 l_cncref01_mul_3
theorem sp_cncref01_mul : SpecOK Tryz.prog (C_cncref01_mul_0 m_cncref01_cut) := specOK_of rfl ⟨r_cncref01_cut, trivial⟩
theorem r_cncref01_mul : RowOK Tryz.prog (179, spOf sig_cncref01_mul osig_cncref01_mul m_cncref01_mul) := row_of (C := (C_cncref01_mul_2 m_cncref01_cut l_cncref01_mul_7 l_cncref01_mul_3)) (L := 64) (by kernel_rfl) (((FnOK.bare rfl rfl rfl).loop sp_cncref01_mul eqOk mixOk (by kernel_rfl) (by kernel_rfl)).loop sp_cncref01_mul eqOk mixOk (by kernel_rfl) (by kernel_rfl)) sp_cncref01_mul eqOk mixOk (by kernel_rfl) (by kernel_rfl)
def sig_cncref01_limbs : Sk := { tmps := [tf [CS.int .u64]], boxes := [], rows := [] }
def osig_cncref01_limbs : Sk := { tmps := [tf [CS.sl [Kd.int .u64]]], boxes := [], rows := [] }
def C_cncref01_limbs_0 : Cfg := { spec := lookS [], eqOk := eqAll, ownOff := ownOff, prom := fun b => bif Nat.beq b 2 then [(3, 123)] else [] }
def sk_cncref01_limbs_2 : Sk := { tmps := [tf [CS.int .u64], td, td, tf [CS.own 3 1]] ++ dd 10, boxes := [], rows := [(3, 123, [Kd.int .u64])] }
def ex_cncref01_limbs_2 : List (Ex × Sk) := [(Ex.exit 0, { tmps := [td, td, td, tf [CS.own 3 1]] ++ dd 10, boxes := [], rows := [(3, 123, [Kd.int .u64])] })]
def st_cncref01_limbs_2 : Lp := stepL Tryz.prog C_cncref01_limbs_0 64 2 (bodyOf Tryz.prog 180 2) sk_cncref01_limbs_2 ex_cncref01_limbs_2
def C_cncref01_limbs_1 (N2 : Lp) : Cfg := C_cncref01_limbs_0.loop 2 sk_cncref01_limbs_2 ex_cncref01_limbs_2 N2
def mf_cncref01_limbs (N2 : Lp) : Fn := modelF Tryz.prog (C_cncref01_limbs_1 N2) 64 180 sig_cncref01_limbs osig_cncref01_limbs
theorem st_cncref01_limbs_2_eq (v0 : Rw) (v1 : Int) : st_cncref01_limbs_2 [.view [Kd.int .u64] v0, U v1] =
 bif decide (v1 > 0) then
 bif ((v0 ++ [[U (IntKind.u64.wrap (↑(BitVec.ofInt IntKind.u64.bits v1 &&& BitVec.ofInt IntKind.u64.bits 65535).toNat : Int))]]).length * 8).ble 140737488355328 then
 some (0, [.view [Kd.int IntKind.u64] (v0 ++ [[U (IntKind.u64.wrap (↑(BitVec.ofInt IntKind.u64.bits v1 &&& BitVec.ofInt IntKind.u64.bits 65535).toNat : Int))]]), U (v1.fdiv (2 ^ min (Int.toNat 16) IntKind.u64.bits))])
 else
 none
 else
 some (1, [.view [Kd.int IntKind.u64] v0]) := by kernel_rfl
theorem mf_cncref01_limbs_eq (N2 : Lp) (x0 : Int) : mf_cncref01_limbs N2 [U x0] =
 (N2 [.view [Kd.int IntKind.u64] [], U x0]).bind fun o1 =>
 bif o1.1.beq 1 then
 some [.view [Kd.int IntKind.u64] (rowsOf (nth .dead o1.2 0))]
 else
 none := by kernel_rfl
def l_cncref01_limbs_2 := loopC (st_cncref01_limbs_2 )
def m_cncref01_limbs := mf_cncref01_limbs l_cncref01_limbs_2
theorem sp_cncref01_limbs : SpecOK Tryz.prog (C_cncref01_limbs_0 ) := specOK_of rfl trivial
theorem r_cncref01_limbs : RowOK Tryz.prog (180, spOf sig_cncref01_limbs osig_cncref01_limbs m_cncref01_limbs) := row_of (C := (C_cncref01_limbs_1 l_cncref01_limbs_2)) (L := 64) (by kernel_rfl) ((FnOK.bare rfl rfl rfl).loop sp_cncref01_limbs eqOk mixOk (by kernel_rfl) (by kernel_rfl)) sp_cncref01_limbs eqOk mixOk (by kernel_rfl) (by kernel_rfl)
def sig_cncref01_mag : Sk := { tmps := [tf [ci]], boxes := [], rows := [] }
def osig_cncref01_mag : Sk := { tmps := [tf [CS.int .u64]], boxes := [], rows := [] }
def C_cncref01_mag_0 : Cfg := { spec := lookS [], eqOk := eqAll, ownOff := ownOff }
def mf_cncref01_mag : Fn := modelF Tryz.prog C_cncref01_mag_0 64 181 sig_cncref01_mag osig_cncref01_mag
theorem mf_cncref01_mag_eq (x0 : Int) : mf_cncref01_mag [I x0] =
 bif decide (x0 < 0) then
 some [U (IntKind.u64.wrap (IntKind.u64.wrap (IntKind.i64.wrap (0 - IntKind.i64.wrap (x0 + 1))) + 1))]
 else
 some [U (IntKind.u64.wrap x0)] := by kernel_rfl
def m_cncref01_mag := mf_cncref01_mag 
theorem sp_cncref01_mag : SpecOK Tryz.prog (C_cncref01_mag_0 ) := specOK_of rfl trivial
theorem r_cncref01_mag : RowOK Tryz.prog (181, spOf sig_cncref01_mag osig_cncref01_mag m_cncref01_mag) := row_of (C := C_cncref01_mag_0) (L := 64) (by kernel_rfl) (FnOK.bare rfl rfl rfl) sp_cncref01_mag eqOk mixOk (by kernel_rfl) (by kernel_rfl)
def sig_cncref01_product : Sk := { tmps := [tf [ci], tf [ci]], boxes := [], rows := [] }
def osig_cncref01_product : Sk := { tmps := [tf [CS.sl [Kd.int .u64]]], boxes := [], rows := [] }
def C_cncref01_product_0 (M_cncref01_mul M_cncref01_limbs M_cncref01_mag : Fn) : Cfg := { spec := lookS [(179, spOf sig_cncref01_mul osig_cncref01_mul M_cncref01_mul), (180, spOf sig_cncref01_limbs osig_cncref01_limbs M_cncref01_limbs), (181, spOf sig_cncref01_mag osig_cncref01_mag M_cncref01_mag)], eqOk := eqAll, ownOff := ownOff }
def mf_cncref01_product (M_cncref01_mul M_cncref01_limbs M_cncref01_mag : Fn) : Fn := modelF Tryz.prog (C_cncref01_product_0 M_cncref01_mul M_cncref01_limbs M_cncref01_mag) 64 167 sig_cncref01_product osig_cncref01_product
theorem mf_cncref01_product_eq (M_cncref01_mul M_cncref01_limbs M_cncref01_mag : Fn) (x0 x1 : Int) : mf_cncref01_product M_cncref01_mul M_cncref01_limbs M_cncref01_mag [I x0, I x1] =
 (M_cncref01_mag [I x0]).bind fun o5 =>
 (M_cncref01_limbs [U (intOf (nth .dead o5 0))]).bind fun o6 =>
 (M_cncref01_mag [I x1]).bind fun o7 =>
 (M_cncref01_limbs [U (intOf (nth .dead o7 0))]).bind fun o8 =>
 (M_cncref01_mul [.view [Kd.int IntKind.u64] (rowsOf (nth .dead o6 0)), .view [Kd.int IntKind.u64] (rowsOf (nth .dead o8 0))]).bind fun o9 =>
 some [.view [Kd.int IntKind.u64] (rowsOf (nth .dead o9 0))] := by kernel_rfl
def m_cncref01_product := mf_cncref01_product m_cncref01_mul m_cncref01_limbs m_cncref01_mag 
theorem sp_cncref01_product : SpecOK Tryz.prog (C_cncref01_product_0 m_cncref01_mul m_cncref01_limbs m_cncref01_mag) := specOK_of rfl ⟨r_cncref01_mul, r_cncref01_limbs, r_cncref01_mag, trivial⟩
theorem r_cncref01_product : RowOK Tryz.prog (167, spOf sig_cncref01_product osig_cncref01_product m_cncref01_product) := row_of (C := (C_cncref01_product_0 m_cncref01_mul m_cncref01_limbs m_cncref01_mag)) (L := 64) (by kernel_rfl) (FnOK.bare rfl rfl rfl) sp_cncref01_product eqOk mixOk (by kernel_rfl) (by kernel_rfl)
def sig_cncref01_sign : Sk := { tmps := [tf [ci], tf [ci]], boxes := [], rows := [] }
def osig_cncref01_sign : Sk := { tmps := [tf [ci]], boxes := [], rows := [] }
def C_cncref01_sign_0 : Cfg := { spec := lookS [], eqOk := eqAll, ownOff := ownOff }
def mf_cncref01_sign : Fn := modelF Tryz.prog C_cncref01_sign_0 64 165 sig_cncref01_sign osig_cncref01_sign
theorem mf_cncref01_sign_eq (x0 x1 : Int) : mf_cncref01_sign [I x0, I x1] =
 bif x0 == 0 then
 some [I 0]
 else
 bif x1 == 0 then
 some [I 0]
 else
 bif decide (x0 < 0) == decide (x1 < 0) then
 some [I 1]
 else
 some [I (-1)] := by kernel_rfl
def m_cncref01_sign := mf_cncref01_sign 
theorem sp_cncref01_sign : SpecOK Tryz.prog (C_cncref01_sign_0 ) := specOK_of rfl trivial
theorem r_cncref01_sign : RowOK Tryz.prog (165, spOf sig_cncref01_sign osig_cncref01_sign m_cncref01_sign) := row_of (C := C_cncref01_sign_0) (L := 64) (by kernel_rfl) (FnOK.bare rfl rfl rfl) sp_cncref01_sign eqOk mixOk (by kernel_rfl) (by kernel_rfl)
def sig_cncref01_Cmp : Sk := { tmps := [tf [ci], tf [ci], tf [ci], tf [ci]], boxes := [], rows := [] }
def osig_cncref01_Cmp : Sk := { tmps := [tf [ci]], boxes := [], rows := [] }
def C_cncref01_Cmp_0 (M_cncref01_cmp M_cncref01_product M_cncref01_sign : Fn) : Cfg := { spec := lookS [(166, spOf sig_cncref01_cmp osig_cncref01_cmp M_cncref01_cmp), (167, spOf sig_cncref01_product osig_cncref01_product M_cncref01_product), (165, spOf sig_cncref01_sign osig_cncref01_sign M_cncref01_sign)], eqOk := eqAll, ownOff := ownOff }
def mf_cncref01_Cmp (M_cncref01_cmp M_cncref01_product M_cncref01_sign : Fn) : Fn := modelF Tryz.prog (C_cncref01_Cmp_0 M_cncref01_cmp M_cncref01_product M_cncref01_sign) 64 149 sig_cncref01_Cmp osig_cncref01_Cmp
theorem mf_cncref01_Cmp_eq (M_cncref01_cmp M_cncref01_product M_cncref01_sign : Fn) (x0 x1 x2 x3 : Int) : mf_cncref01_Cmp M_cncref01_cmp M_cncref01_product M_cncref01_sign [I x0, I x1, I x2, I x3] =
 (M_cncref01_sign [I x0, I x1]).bind fun o5 =>
 (M_cncref01_sign [I x2, I x3]).bind fun o6 =>
 bif decide (intOf (nth .dead o5 0) < intOf (nth .dead o6 0)) then
 some [I (-1)]
 else
 bif decide (intOf (nth .dead o5 0) > intOf (nth .dead o6 0)) then
 some [I 1]
 else
 (M_cncref01_product [I x0, I x1]).bind fun o7 =>
 (M_cncref01_product [I x2, I x3]).bind fun o8 =>
 (M_cncref01_cmp [.view [Kd.int IntKind.u64] (rowsOf (nth .dead o7 0)), .view [Kd.int IntKind.u64] (rowsOf (nth .dead o8 0))]).bind fun o9 =>
 some [I (IntKind.i64.wrap (intOf (nth .dead o5 0) * intOf (nth .dead o9 0)))] := by kernel_rfl
def m_cncref01_Cmp := mf_cncref01_Cmp m_cncref01_cmp m_cncref01_product m_cncref01_sign 
theorem sp_cncref01_Cmp : SpecOK Tryz.prog (C_cncref01_Cmp_0 m_cncref01_cmp m_cncref01_product m_cncref01_sign) := specOK_of rfl ⟨r_cncref01_cmp, r_cncref01_product, r_cncref01_sign, trivial⟩
theorem r_cncref01_Cmp : RowOK Tryz.prog (149, spOf sig_cncref01_Cmp osig_cncref01_Cmp m_cncref01_Cmp) := row_of (C := (C_cncref01_Cmp_0 m_cncref01_cmp m_cncref01_product m_cncref01_sign)) (L := 64) (by kernel_rfl) (FnOK.bare rfl rfl rfl) sp_cncref01_Cmp eqOk mixOk (by kernel_rfl) (by kernel_rfl)
def sig_cncref23_small : Sk := { tmps := [TS.v true [ci, ci, ci], tf [ci]], boxes := [], rows := [] }
def osig_cncref23_small : Sk := { tmps := [tf [CS.bool]], boxes := [], rows := [] }
def C_cncref23_small_0 : Cfg := { spec := lookS [], eqOk := eqAll, ownOff := ownOff, unroll := [2] }
def mf_cncref23_small : Fn := modelF Tryz.prog C_cncref23_small_0 64 119 sig_cncref23_small osig_cncref23_small
theorem mf_cncref23_small_eq (x0 x1 x2 x3 : Int) : mf_cncref23_small [I x0, I x1, I x2, I x3] =
 bif decide (x0 < IntKind.i64.wrap (0 - x3)) then
 some [B false]
 else
 bif decide (x0 > x3) then
 some [B false]
 else
 bif decide (x1 < IntKind.i64.wrap (0 - x3)) then
 some [B false]
 else
 bif decide (x1 > x3) then
 some [B false]
 else
 bif decide (x2 < IntKind.i64.wrap (0 - x3)) then
 some [B false]
 else
 bif decide (x2 > x3) then
 some [B false]
 else
 some [B true] := by kernel_rfl
def m_cncref23_small := mf_cncref23_small 
theorem sp_cncref23_small : SpecOK Tryz.prog (C_cncref23_small_0 ) := specOK_of rfl trivial
theorem r_cncref23_small : RowOK Tryz.prog (119, spOf sig_cncref23_small osig_cncref23_small m_cncref23_small) := row_of (C := C_cncref23_small_0) (L := 64) (by kernel_rfl) (FnOK.bare rfl rfl rfl) sp_cncref23_small eqOk mixOk (by kernel_rfl) (by kernel_rfl)
def sig_cncref23_within : Sk := { tmps := [TS.v true [ci, ci, ci]], boxes := [], rows := [] }
def osig_cncref23_within : Sk := { tmps := [tf [CS.bool]], boxes := [], rows := [] }
def C_cncref23_within_0 (M_cncref23_small : Fn) : Cfg := { spec := lookS [(119, spOf sig_cncref23_small osig_cncref23_small M_cncref23_small)], eqOk := eqAll, ownOff := ownOff }
def mf_cncref23_within (M_cncref23_small : Fn) : Fn := modelF Tryz.prog (C_cncref23_within_0 M_cncref23_small) 64 146 sig_cncref23_within osig_cncref23_within
theorem mf_cncref23_within_eq (M_cncref23_small : Fn) (x0 x1 x2 : Int) : mf_cncref23_within M_cncref23_small [I x0, I x1, I x2] =
 (M_cncref23_small [I x0, I x1, I x2, I 1048576]).bind fun o1 =>
 some [B (bA o1 0)] := by kernel_rfl
def m_cncref23_within := mf_cncref23_within m_cncref23_small 
theorem sp_cncref23_within : SpecOK Tryz.prog (C_cncref23_within_0 m_cncref23_small) := specOK_of rfl ⟨r_cncref23_small, trivial⟩
theorem r_cncref23_within : RowOK Tryz.prog (146, spOf sig_cncref23_within osig_cncref23_within m_cncref23_within) := row_of (C := (C_cncref23_within_0 m_cncref23_small)) (L := 64) (by kernel_rfl) (FnOK.bare rfl rfl rfl) sp_cncref23_within eqOk mixOk (by kernel_rfl) (by kernel_rfl)
end Go.Bm
