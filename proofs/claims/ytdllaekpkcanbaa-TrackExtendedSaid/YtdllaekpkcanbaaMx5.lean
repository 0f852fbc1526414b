/- functions of the program and of the references, as models -/
import Derived.Test.YtdllaekpkcanbaaMx4
set_option linter.unusedSimpArgs false
set_option linter.unusedVariables false
set_option maxRecDepth 100000
noncomputable section
namespace Go.Bm
open Go.Proofs
def sig_curve_Chords : Sk := { tmps := [TS.v true [ci, ci, ci, ci, ci, ci, ci, ci, ci, ci, ci, ci, ci, CS.bool, ci, CS.bool, ci, ci, ci, ci, ci, CS.bool]], boxes := [], rows := [] }
def osig_curve_Chords : Sk := { tmps := [TS.tup [(false, [CS.sl kPt]), (false, [CS.bool])]], boxes := [], rows := [] }
def C_curve_Chords_0 (Qdt Qaz Qas Qc9 Qa3 : Fn) : Cfg := { spec := Qbq [(94, spOf sig_curve_Space osig_curve_Space Qdt), (67, spOf Qnt Qld Qaz), (93, spOf Qli Qjr Qas), (92, spOf sig_curve_Spokes osig_curve_Spokes Qc9), (66, spOf Qiw Qh0 Qa3)], eqOk := Qbu, ownOff := ownOff }
def sk_curve_Chords_9 : Sk := { tmps := [td, tf [CS.ptr 1 0], td, td, td, td, tf [ci], tf [ci], td, tf [CS.own 41 3], td, td, td, td, td, td, td, td, td, td, td, td, td, td, td, td, td, td, td, td, td, td, td, td, td, td, td, td, td, td, td, td, tf [CS.sl [kI, kI, kI, kI]], tf [ci], tf [ci]] ++ dd 22, boxes := [(1, 33, [ci, ci, ci, ci, ci, ci, ci, ci, ci, ci, ci, ci, ci, CS.bool, ci, CS.bool, ci, ci, ci, ci, ci, CS.bool])], rows := [(41, 23, kPt)] }
def ex_curve_Chords_9 : List (Ex × Sk) := [(Ex.exit 0, { tmps := [td, td, td, td, td, td, td, td, td, tf [CS.own 41 3]] ++ dd 57, boxes := [], rows := [(41, 23, kPt)] })]
def Qfe (Qdt Qaz Qas Qc9 Qa3 : Fn) : Lp := stepL Try.prog (C_curve_Chords_0 Qdt Qaz Qas Qc9 Qa3) 64 9 (Qg8 Try.prog 41 9) sk_curve_Chords_9 ex_curve_Chords_9
def C_curve_Chords_1 (Qdt Qaz Qas Qc9 Qa3 : Fn) (N9 : Lp) : Cfg := (C_curve_Chords_0 Qdt Qaz Qas Qc9 Qa3).loop 9 sk_curve_Chords_9 ex_curve_Chords_9 N9
def mf_curve_Chords (Qdt Qaz Qas Qc9 Qa3 : Fn) (N9 : Lp) : Fn := Qau Try.prog (C_curve_Chords_1 Qdt Qaz Qas Qc9 Qa3 N9) 64 41 sig_curve_Chords osig_curve_Chords
theorem st_curve_Chords_9_eq (Qdt Qaz Qas Qc9 Qa3 : Fn) (v0 : Rw) (v1 v2 : Int) (v3 : Rw) (v4 v5 v6 v7 v8 v9 v10 v11 v12 v13 v14 v15 v16 v17 v18 : Int) (v19 : Bool) (v20 : Int) (v21 : Bool) (v22 v23 v24 v25 v26 : Int) (v27 : Bool) : Qfe Qdt Qaz Qas Qc9 Qa3 [.view kPt v0, I v1, I v2, .view [kI, kI, kI, kI] v3, I v4, I v5, I v6, I v7, I v8, I v9, I v10, I v11, I v12, I v13, I v14, I v15, I v16, I v17, I v18, B v19, I v20, B v21, I v22, I v23, I v24, I v25, I v26, B v27] =
 bif decide (v5 < v4) then
 bif decide (0 <= v5) && decide (v5 < (v3.length : Int)) then
 (Qdt [I (IntKind.i64.wrap (v1 + gA (nth [] v3 v5.toNat) 0)), I (IntKind.i64.wrap (v2 + gA (nth [] v3 v5.toNat) 1)), jA (nth [] v3 v5.toNat) 3, I v14]).bind fun o14 =>
 bif decide (0 <= v5) && decide (v5 < (v0.length : Int)) then
 some (0, [.view kPt (v0.set v5.toNat [jA o14 0, jA o14 1, jA o14 2]), I v1, I v2, .view [kI, kI, kI, kI] v3, I v4, I (IntKind.i64.wrap (v5 + 1)), I v6, I v7, I v8, I v9, I v10, I v11, I v12, I v13, I v14, I v15, I v16, I v17, I v18, B v19, I v20, B v21, I v22, I v23, I v24, I v25, I v26, B v27])
 else
 none
 else
 none
 else
 some (1, [.view kPt v0]) := by kernel_rfl
theorem Qmz (Qdt Qaz Qas Qc9 Qa3 : Fn) (N9 : Lp) (x0 x1 x2 x3 x4 x5 x6 x7 x8 x9 x10 x11 x12 : Int) (x13 : Bool) (x14 : Int) (x15 : Bool) (x16 x17 x18 x19 x20 : Int) (x21 : Bool) : mf_curve_Chords Qdt Qaz Qas Qc9 Qa3 N9 [I x0, I x1, I x2, I x3, I x4, I x5, I x6, I x7, I x8, I x9, I x10, I x11, I x12, B x13, I x14, B x15, I x16, I x17, I x18, I x19, I x20, B x21] =
 (Qa3 [I x0, I x1, I x2, I x3, I x4, I x5, I x6, I x7, I x8, I x9, I x10, I x11, I x12, B x13, I x14, B x15, I x16, I x17, I x18, I x19, I x20, B x21]).bind fun o15 =>
 bif !bA o15 0 then
 some [.view kPt [], B false]
 else
 (Qc9 [I x0, I x1, I x2, I x3, I x4, I x5, I x6, I x7, I x8, I x9, I x10, I x11, I x12, B x13, I x14, B x15, I x16, I x17, I x18, I x19, I x20, B x21]).bind fun o16 =>
 bif !bA o16 1 then
 (Qas [I x2, I x3, I x4]).bind fun o17 =>
 (Qas [I x5, I x6, I x7]).bind fun o18 =>
 some [.view kPt [[jA o17 0, jA o17 1, jA o17 2], [jA o18 0, jA o18 1, jA o18 2]], B true]
 else
 (Qas [I x9, I x10, I x11]).bind fun o19 =>
 (Qaz [jA o19 0, jA o19 1, jA o19 2, I x8]).bind fun o20 =>
 bif decide ((↑(wA o16 0).length : Int) = (↑(wA o16 0).length : Int)) then
 bif decide (0 <= (↑(wA o16 0).length : Int)) && decide ((↑(wA o16 0).length : Int) * (↑24 : Int) <= 140737488355328) then
 (N9 [.view kPt (List.replicate (↑(wA o16 0).length : Int).toNat [I 0, I 0, I 0]), jA o20 0, jA o20 1, .view [kI, kI, kI, kI] (wA o16 0), I (↑(wA o16 0).length : Int), I 0, I x0, I x1, I x2, I x3, I x4, I x5, I x6, I x7, I x8, I x9, I x10, I x11, I x12, B x13, I x14, B x15, I x16, I x17, I x18, I x19, I x20, B x21]).bind fun o21 =>
 bif o21.1.beq 1 then
 some [.view kPt (wA o21.2 0), B true]
 else
 none
 else
 none
 else
 none := by kernel_rfl
def l_curve_Chords_9 := Qby (Qfe Qju Qeq Qdk Qib Qdp )
def Qkr := mf_curve_Chords Qju Qeq Qdk Qib Qdp l_curve_Chords_9
theorem sp_curve_Chords : Qar Try.prog (C_curve_Chords_0 Qju Qeq Qdk Qib Qdp) := Qae rfl ⟨r_curve_Space, r_curve_Plane, r_curve_scaled, r_curve_Spokes, r_curve_Valid, trivial⟩
theorem r_curve_Chords : Qbt Try.prog (41, spOf sig_curve_Chords osig_curve_Chords Qkr) := Qa5 (C := (C_curve_Chords_1 Qju Qeq Qdk Qib Qdp l_curve_Chords_9)) (L := 64) (by kernel_rfl) ((FnOK.bare rfl rfl rfl).loop sp_curve_Chords eqOk Qbj (by kernel_rfl) (by kernel_rfl)) sp_curve_Chords eqOk Qbj (by kernel_rfl) (by kernel_rfl)
def sig_path_points : Sk := { tmps := [tf [CS.sl kItm], tf [ci], tf [ci]], boxes := [], rows := [] }
def osig_path_points : Sk := { tmps := [tf [CS.sl kPt]], boxes := [], rows := [] }
def C_path_points_0 (Qaw Qav Qa7 Qf4 Qam Qh3 : Fn) : Cfg := { spec := Qbq [(162, spOf Qji Qhu Qaw), (139, spOf Qm2 Qkn Qav), (138, spOf sig_path_soft osig_path_soft Qa7), (176, spOf sig_path_corner osig_path_corner Qf4), (102, spOf Qg3 Qf2 Qam), (41, spOf sig_curve_Chords osig_curve_Chords Qh3)], eqOk := Qbu, ownOff := ownOff }
def mf_path_points (Qaw Qav Qa7 Qf4 Qam Qh3 : Fn) : Fn := Qau Try.prog (C_path_points_0 Qaw Qav Qa7 Qf4 Qam Qh3) 64 160 sig_path_points osig_path_points
theorem mf_path_points_eq (Qaw Qav Qa7 Qf4 Qam Qh3 : Fn) (x0 : Rw) (x1 x2 : Int) : mf_path_points Qaw Qav Qa7 Qf4 Qam Qh3 [.view kItm x0, I x1, I x2] =
 bif decide (0 <= x1) && decide (x1 < (x0.length : Int)) then
 (Qh3 [jA (nth [] x0 x1.toNat) 0, jA (nth [] x0 x1.toNat) 1, jA (nth [] x0 x1.toNat) 2, jA (nth [] x0 x1.toNat) 3, jA (nth [] x0 x1.toNat) 4, jA (nth [] x0 x1.toNat) 5, jA (nth [] x0 x1.toNat) 6, jA (nth [] x0 x1.toNat) 7, jA (nth [] x0 x1.toNat) 8, jA (nth [] x0 x1.toNat) 9, jA (nth [] x0 x1.toNat) 10, jA (nth [] x0 x1.toNat) 11, jA (nth [] x0 x1.toNat) 12, B (bA (nth [] x0 x1.toNat) 13), jA (nth [] x0 x1.toNat) 14, B (bA (nth [] x0 x1.toNat) 15), jA (nth [] x0 x1.toNat) 16, jA (nth [] x0 x1.toNat) 17, jA (nth [] x0 x1.toNat) 18, jA (nth [] x0 x1.toNat) 19, jA (nth [] x0 x1.toNat) 20, B (bA (nth [] x0 x1.toNat) 21)]).bind fun o13 =>
 (Qam [jA (nth [] x0 x1.toNat) 0, jA (nth [] x0 x1.toNat) 1, jA (nth [] x0 x1.toNat) 2, jA (nth [] x0 x1.toNat) 3, jA (nth [] x0 x1.toNat) 4, jA (nth [] x0 x1.toNat) 5, jA (nth [] x0 x1.toNat) 6, jA (nth [] x0 x1.toNat) 7, jA (nth [] x0 x1.toNat) 8, jA (nth [] x0 x1.toNat) 9, jA (nth [] x0 x1.toNat) 10, jA (nth [] x0 x1.toNat) 11, jA (nth [] x0 x1.toNat) 12, B (bA (nth [] x0 x1.toNat) 13), jA (nth [] x0 x1.toNat) 14, B (bA (nth [] x0 x1.toNat) 15), jA (nth [] x0 x1.toNat) 16, jA (nth [] x0 x1.toNat) 17, jA (nth [] x0 x1.toNat) 18, jA (nth [] x0 x1.toNat) 19, jA (nth [] x0 x1.toNat) 20, B (bA (nth [] x0 x1.toNat) 21)]).bind fun o14 =>
 bif !bA o14 0 then
 some [.view kPt (wA o13 0)]
 else
 bif decide (0 <= 1) && decide (1 <= (↑(wA o13 0).length : Int)) then
 bif decide (0 <= IntKind.i64.wrap ((↑(wA o13 0).length : Int) - 1)) && decide (IntKind.i64.wrap ((↑(wA o13 0).length : Int) - 1) <= (↑(wA o13 0).length : Int)) then
 bif decide (x2 >= 0) then
 bif decide (0 <= x2) && decide (x2 < (x0.length : Int)) then
 (Qf4 [jA (nth [] x0 x2.toNat) 0, jA (nth [] x0 x2.toNat) 1, jA (nth [] x0 x2.toNat) 2, jA (nth [] x0 x2.toNat) 3, jA (nth [] x0 x2.toNat) 4, jA (nth [] x0 x2.toNat) 5, jA (nth [] x0 x2.toNat) 6, jA (nth [] x0 x2.toNat) 7, jA (nth [] x0 x2.toNat) 8, jA (nth [] x0 x2.toNat) 9, jA (nth [] x0 x2.toNat) 10, jA (nth [] x0 x2.toNat) 11, jA (nth [] x0 x2.toNat) 12, B (bA (nth [] x0 x2.toNat) 13), jA (nth [] x0 x2.toNat) 14, B (bA (nth [] x0 x2.toNat) 15), jA (nth [] x0 x2.toNat) 16, jA (nth [] x0 x2.toNat) 17, jA (nth [] x0 x2.toNat) 18, jA (nth [] x0 x2.toNat) 19, jA (nth [] x0 x2.toNat) 20, B (bA (nth [] x0 x2.toNat) 21), jA (nth [] x0 x1.toNat) 0, jA (nth [] x0 x1.toNat) 1, jA (nth [] x0 x1.toNat) 2, jA (nth [] x0 x1.toNat) 3, jA (nth [] x0 x1.toNat) 4, jA (nth [] x0 x1.toNat) 5, jA (nth [] x0 x1.toNat) 6, jA (nth [] x0 x1.toNat) 7, jA (nth [] x0 x1.toNat) 8, jA (nth [] x0 x1.toNat) 9, jA (nth [] x0 x1.toNat) 10, jA (nth [] x0 x1.toNat) 11, jA (nth [] x0 x1.toNat) 12, B (bA (nth [] x0 x1.toNat) 13), jA (nth [] x0 x1.toNat) 14, B (bA (nth [] x0 x1.toNat) 15), jA (nth [] x0 x1.toNat) 16, jA (nth [] x0 x1.toNat) 17, jA (nth [] x0 x1.toNat) 18, jA (nth [] x0 x1.toNat) 19, jA (nth [] x0 x1.toNat) 20, B (bA (nth [] x0 x1.toNat) 21)]).bind fun o15 =>
 (Qa7 [.view kItm x0, I x1]).bind fun o16 =>
 bif bA o16 0 then
 (Qav [.view kItm x0, I x1]).bind fun o17 =>
 bif decide (0 <= gA o17 0) && decide (gA o17 0 < (x0.length : Int)) then
 (Qf4 [jA (nth [] x0 x1.toNat) 0, jA (nth [] x0 x1.toNat) 1, jA (nth [] x0 x1.toNat) 2, jA (nth [] x0 x1.toNat) 3, jA (nth [] x0 x1.toNat) 4, jA (nth [] x0 x1.toNat) 5, jA (nth [] x0 x1.toNat) 6, jA (nth [] x0 x1.toNat) 7, jA (nth [] x0 x1.toNat) 8, jA (nth [] x0 x1.toNat) 9, jA (nth [] x0 x1.toNat) 10, jA (nth [] x0 x1.toNat) 11, jA (nth [] x0 x1.toNat) 12, B (bA (nth [] x0 x1.toNat) 13), jA (nth [] x0 x1.toNat) 14, B (bA (nth [] x0 x1.toNat) 15), jA (nth [] x0 x1.toNat) 16, jA (nth [] x0 x1.toNat) 17, jA (nth [] x0 x1.toNat) 18, jA (nth [] x0 x1.toNat) 19, jA (nth [] x0 x1.toNat) 20, B (bA (nth [] x0 x1.toNat) 21), jA (nth [] x0 (gA o17 0).toNat) 0, jA (nth [] x0 (gA o17 0).toNat) 1, jA (nth [] x0 (gA o17 0).toNat) 2, jA (nth [] x0 (gA o17 0).toNat) 3, jA (nth [] x0 (gA o17 0).toNat) 4, jA (nth [] x0 (gA o17 0).toNat) 5, jA (nth [] x0 (gA o17 0).toNat) 6, jA (nth [] x0 (gA o17 0).toNat) 7, jA (nth [] x0 (gA o17 0).toNat) 8, jA (nth [] x0 (gA o17 0).toNat) 9, jA (nth [] x0 (gA o17 0).toNat) 10, jA (nth [] x0 (gA o17 0).toNat) 11, jA (nth [] x0 (gA o17 0).toNat) 12, B (bA (nth [] x0 (gA o17 0).toNat) 13), jA (nth [] x0 (gA o17 0).toNat) 14, B (bA (nth [] x0 (gA o17 0).toNat) 15), jA (nth [] x0 (gA o17 0).toNat) 16, jA (nth [] x0 (gA o17 0).toNat) 17, jA (nth [] x0 (gA o17 0).toNat) 18, jA (nth [] x0 (gA o17 0).toNat) 19, jA (nth [] x0 (gA o17 0).toNat) 20, B (bA (nth [] x0 (gA o17 0).toNat) 21)]).bind fun o18 =>
 bif (([] ++ wA o15 1).length * 24).ble 140737488355328 then
 (Qaw [jA (nth [] x0 x1.toNat) 0, jA (nth [] x0 x1.toNat) 1, jA (nth [] x0 x1.toNat) 2, jA (nth [] x0 x1.toNat) 3, jA (nth [] x0 x1.toNat) 4, jA (nth [] x0 x1.toNat) 5, jA (nth [] x0 x1.toNat) 6, jA (nth [] x0 x1.toNat) 7, jA (nth [] x0 x1.toNat) 8, jA (nth [] x0 x1.toNat) 9, jA (nth [] x0 x1.toNat) 10, jA (nth [] x0 x1.toNat) 11, jA (nth [] x0 x1.toNat) 12, B (bA (nth [] x0 x1.toNat) 13), jA (nth [] x0 x1.toNat) 14, B (bA (nth [] x0 x1.toNat) 15), jA (nth [] x0 x1.toNat) 16, jA (nth [] x0 x1.toNat) 17, jA (nth [] x0 x1.toNat) 18, jA (nth [] x0 x1.toNat) 19, jA (nth [] x0 x1.toNat) 20, B (bA (nth [] x0 x1.toNat) 21)]).bind fun o19 =>
 bif (([] ++ wA o15 1 ++ [[jA o19 0, jA o19 1, jA o19 2]]).length * 24).ble 140737488355328 then
 bif (([] ++ wA o15 1 ++ [[jA o19 0, jA o19 1, jA o19 2]] ++ wA o18 0).length * 24).ble 140737488355328 then
 some [.view kPt ([] ++ wA o15 1 ++ [[jA o19 0, jA o19 1, jA o19 2]] ++ wA o18 0)]
 else
 none
 else
 none
 else
 none
 else
 none
 else
 bif (([] ++ wA o15 1).length * 24).ble 140737488355328 then
 (Qaw [jA (nth [] x0 x1.toNat) 0, jA (nth [] x0 x1.toNat) 1, jA (nth [] x0 x1.toNat) 2, jA (nth [] x0 x1.toNat) 3, jA (nth [] x0 x1.toNat) 4, jA (nth [] x0 x1.toNat) 5, jA (nth [] x0 x1.toNat) 6, jA (nth [] x0 x1.toNat) 7, jA (nth [] x0 x1.toNat) 8, jA (nth [] x0 x1.toNat) 9, jA (nth [] x0 x1.toNat) 10, jA (nth [] x0 x1.toNat) 11, jA (nth [] x0 x1.toNat) 12, B (bA (nth [] x0 x1.toNat) 13), jA (nth [] x0 x1.toNat) 14, B (bA (nth [] x0 x1.toNat) 15), jA (nth [] x0 x1.toNat) 16, jA (nth [] x0 x1.toNat) 17, jA (nth [] x0 x1.toNat) 18, jA (nth [] x0 x1.toNat) 19, jA (nth [] x0 x1.toNat) 20, B (bA (nth [] x0 x1.toNat) 21)]).bind fun o20 =>
 bif (([] ++ wA o15 1 ++ [[jA o20 0, jA o20 1, jA o20 2]]).length * 24).ble 140737488355328 then
 bif (([] ++ wA o15 1 ++ [[jA o20 0, jA o20 1, jA o20 2]] ++ List.drop (IntKind.i64.wrap ((↑(wA o13 0).length : Int) - 1)).toNat (wA o13 0)).length * 24).ble 140737488355328 then
 some [.view kPt ([] ++ wA o15 1 ++ [[jA o20 0, jA o20 1, jA o20 2]] ++ List.drop (IntKind.i64.wrap ((↑(wA o13 0).length : Int) - 1)).toNat (wA o13 0))]
 else
 none
 else
 none
 else
 none
 else
 none
 else
 (Qa7 [.view kItm x0, I x1]).bind fun o21 =>
 bif bA o21 0 then
 (Qav [.view kItm x0, I x1]).bind fun o22 =>
 bif decide (0 <= gA o22 0) && decide (gA o22 0 < (x0.length : Int)) then
 (Qf4 [jA (nth [] x0 x1.toNat) 0, jA (nth [] x0 x1.toNat) 1, jA (nth [] x0 x1.toNat) 2, jA (nth [] x0 x1.toNat) 3, jA (nth [] x0 x1.toNat) 4, jA (nth [] x0 x1.toNat) 5, jA (nth [] x0 x1.toNat) 6, jA (nth [] x0 x1.toNat) 7, jA (nth [] x0 x1.toNat) 8, jA (nth [] x0 x1.toNat) 9, jA (nth [] x0 x1.toNat) 10, jA (nth [] x0 x1.toNat) 11, jA (nth [] x0 x1.toNat) 12, B (bA (nth [] x0 x1.toNat) 13), jA (nth [] x0 x1.toNat) 14, B (bA (nth [] x0 x1.toNat) 15), jA (nth [] x0 x1.toNat) 16, jA (nth [] x0 x1.toNat) 17, jA (nth [] x0 x1.toNat) 18, jA (nth [] x0 x1.toNat) 19, jA (nth [] x0 x1.toNat) 20, B (bA (nth [] x0 x1.toNat) 21), jA (nth [] x0 (gA o22 0).toNat) 0, jA (nth [] x0 (gA o22 0).toNat) 1, jA (nth [] x0 (gA o22 0).toNat) 2, jA (nth [] x0 (gA o22 0).toNat) 3, jA (nth [] x0 (gA o22 0).toNat) 4, jA (nth [] x0 (gA o22 0).toNat) 5, jA (nth [] x0 (gA o22 0).toNat) 6, jA (nth [] x0 (gA o22 0).toNat) 7, jA (nth [] x0 (gA o22 0).toNat) 8, jA (nth [] x0 (gA o22 0).toNat) 9, jA (nth [] x0 (gA o22 0).toNat) 10, jA (nth [] x0 (gA o22 0).toNat) 11, jA (nth [] x0 (gA o22 0).toNat) 12, B (bA (nth [] x0 (gA o22 0).toNat) 13), jA (nth [] x0 (gA o22 0).toNat) 14, B (bA (nth [] x0 (gA o22 0).toNat) 15), jA (nth [] x0 (gA o22 0).toNat) 16, jA (nth [] x0 (gA o22 0).toNat) 17, jA (nth [] x0 (gA o22 0).toNat) 18, jA (nth [] x0 (gA o22 0).toNat) 19, jA (nth [] x0 (gA o22 0).toNat) 20, B (bA (nth [] x0 (gA o22 0).toNat) 21)]).bind fun o23 =>
 bif (([] ++ List.take (Int.toNat 1) (wA o13 0)).length * 24).ble 140737488355328 then
 (Qaw [jA (nth [] x0 x1.toNat) 0, jA (nth [] x0 x1.toNat) 1, jA (nth [] x0 x1.toNat) 2, jA (nth [] x0 x1.toNat) 3, jA (nth [] x0 x1.toNat) 4, jA (nth [] x0 x1.toNat) 5, jA (nth [] x0 x1.toNat) 6, jA (nth [] x0 x1.toNat) 7, jA (nth [] x0 x1.toNat) 8, jA (nth [] x0 x1.toNat) 9, jA (nth [] x0 x1.toNat) 10, jA (nth [] x0 x1.toNat) 11, jA (nth [] x0 x1.toNat) 12, B (bA (nth [] x0 x1.toNat) 13), jA (nth [] x0 x1.toNat) 14, B (bA (nth [] x0 x1.toNat) 15), jA (nth [] x0 x1.toNat) 16, jA (nth [] x0 x1.toNat) 17, jA (nth [] x0 x1.toNat) 18, jA (nth [] x0 x1.toNat) 19, jA (nth [] x0 x1.toNat) 20, B (bA (nth [] x0 x1.toNat) 21)]).bind fun o24 =>
 bif (([] ++ List.take (Int.toNat 1) (wA o13 0) ++ [[jA o24 0, jA o24 1, jA o24 2]]).length * 24).ble 140737488355328 then
 bif (([] ++ List.take (Int.toNat 1) (wA o13 0) ++ [[jA o24 0, jA o24 1, jA o24 2]] ++ wA o23 0).length * 24).ble 140737488355328 then
 some [.view kPt ([] ++ List.take (Int.toNat 1) (wA o13 0) ++ [[jA o24 0, jA o24 1, jA o24 2]] ++ wA o23 0)]
 else
 none
 else
 none
 else
 none
 else
 none
 else
 bif (([] ++ List.take (Int.toNat 1) (wA o13 0)).length * 24).ble 140737488355328 then
 (Qaw [jA (nth [] x0 x1.toNat) 0, jA (nth [] x0 x1.toNat) 1, jA (nth [] x0 x1.toNat) 2, jA (nth [] x0 x1.toNat) 3, jA (nth [] x0 x1.toNat) 4, jA (nth [] x0 x1.toNat) 5, jA (nth [] x0 x1.toNat) 6, jA (nth [] x0 x1.toNat) 7, jA (nth [] x0 x1.toNat) 8, jA (nth [] x0 x1.toNat) 9, jA (nth [] x0 x1.toNat) 10, jA (nth [] x0 x1.toNat) 11, jA (nth [] x0 x1.toNat) 12, B (bA (nth [] x0 x1.toNat) 13), jA (nth [] x0 x1.toNat) 14, B (bA (nth [] x0 x1.toNat) 15), jA (nth [] x0 x1.toNat) 16, jA (nth [] x0 x1.toNat) 17, jA (nth [] x0 x1.toNat) 18, jA (nth [] x0 x1.toNat) 19, jA (nth [] x0 x1.toNat) 20, B (bA (nth [] x0 x1.toNat) 21)]).bind fun o25 =>
 bif (([] ++ List.take (Int.toNat 1) (wA o13 0) ++ [[jA o25 0, jA o25 1, jA o25 2]]).length * 24).ble 140737488355328 then
 bif (([] ++ List.take (Int.toNat 1) (wA o13 0) ++ [[jA o25 0, jA o25 1, jA o25 2]] ++ List.drop (IntKind.i64.wrap ((↑(wA o13 0).length : Int) - 1)).toNat (wA o13 0)).length * 24).ble 140737488355328 then
 some [.view kPt ([] ++ List.take (Int.toNat 1) (wA o13 0) ++ [[jA o25 0, jA o25 1, jA o25 2]] ++ List.drop (IntKind.i64.wrap ((↑(wA o13 0).length : Int) - 1)).toNat (wA o13 0))]
 else
 none
 else
 none
 else
 none
 else
 none
 else
 none
 else
 none := by kernel_rfl
def Qjy := mf_path_points Qdd Qdw Qex Qnj Qb6 Qkr 
theorem sp_path_points : Qar Try.prog (C_path_points_0 Qdd Qdw Qex Qnj Qb6 Qkr) := Qae rfl ⟨r_path_middle, r_path_next, r_path_soft, r_path_corner, r_path_smooth, r_curve_Chords, trivial⟩
theorem r_path_points : Qbt Try.prog (160, spOf sig_path_points osig_path_points Qjy) := Qa5 (C := (C_path_points_0 Qdd Qdw Qex Qnj Qb6 Qkr)) (L := 64) (by kernel_rfl) (FnOK.bare rfl rfl rfl) sp_path_points eqOk Qbj (by kernel_rfl) (by kernel_rfl)
def sig_path_Rate : Sk := { tmps := [TS.v true [ci, ci, ci, ci, ci, ci, ci, ci, ci, ci, ci, ci, ci, CS.bool, ci, CS.bool, ci, ci, ci, ci, ci, CS.bool], tf [ci]], boxes := [], rows := [] }
def osig_path_Rate : Sk := { tmps := [tf [ci]], boxes := [], rows := [] }
def C_path_Rate_0 (Qak : Fn) : Cfg := { spec := Qbq [(98, spOf Qgu Qft Qak)], eqOk := Qbu, ownOff := ownOff }
def mf_path_Rate (Qak : Fn) : Fn := Qau Try.prog (C_path_Rate_0 Qak) 64 50 sig_path_Rate osig_path_Rate
theorem mf_path_Rate_eq (Qak : Fn) (x0 x1 x2 x3 x4 x5 x6 x7 x8 x9 x10 x11 x12 : Int) (x13 : Bool) (x14 : Int) (x15 : Bool) (x16 x17 x18 x19 x20 : Int) (x21 : Bool) (x22 : Int) : mf_path_Rate Qak [I x0, I x1, I x2, I x3, I x4, I x5, I x6, I x7, I x8, I x9, I x10, I x11, I x12, B x13, I x14, B x15, I x16, I x17, I x18, I x19, I x20, B x21, I x22] =
 bif x0 == 1 then
 some [I 0]
 else
 bif x15 then
 (Qak [I (mn (IntKind.i64.wrap (x14 * mx x22 1)) 60000000), I 4096, I 60000, I 2]).bind fun o2 =>
 some [I (mx (gA o2 0) 1)]
 else
 (Qak [I (mn x14 60000000), I 4096, I 60000, I 2]).bind fun o3 =>
 some [I (mx (gA o3 0) 1)] := by kernel_rfl
def Qiy := mf_path_Rate Qbh 
theorem sp_path_Rate : Qar Try.prog (C_path_Rate_0 Qbh) := Qae rfl ⟨r_wide_MulDiv, trivial⟩
theorem r_path_Rate : Qbt Try.prog (50, spOf sig_path_Rate osig_path_Rate Qiy) := Qa5 (C := (C_path_Rate_0 Qbh)) (L := 64) (by kernel_rfl) (FnOK.bare rfl rfl rfl) sp_path_Rate eqOk Qbj (by kernel_rfl) (by kernel_rfl)
def Qiz : Sk := { tmps := [tf [CS.ptr 20000 0], tf [CS.sl kItm], tf [ci], tf [ci]], boxes := [(20000, 125, [ci, ci, ci, CS.own 20000 7, CS.own 20001 3, CS.bool, ci, ci, ci])], rows := [(20000, 74, kSgm), (20001, 79, kPt)] }
def Qik : Sk := { tmps := [tf [CS.bool]], boxes := [(20000, 125, [ci, ci, ci, CS.own 20000 7, CS.own 20001 3, CS.bool, ci, ci, ci])], rows := [(20000, 74, kSgm), (20001, 79, kPt)] }
def Qjh (Qaw Qam Qbx Qco Qa1 Qe1 : Fn) : Cfg := { spec := Qbq [(162, spOf Qji Qhu Qaw), (102, spOf Qg3 Qf2 Qam), (161, spOf Qkb Qjk Qbx), (160, spOf sig_path_points osig_path_points Qco), (159, spOf Qmf Qk7 Qa1), (50, spOf sig_path_Rate osig_path_Rate Qe1)], eqOk := Qbu, pure := fun f => !(Qd3 [161] f), ownOff := ownOff }
def sk_path_builder_move_6 : Sk := { tmps := [tf [CS.ptr 20000 0], td, td, td, td, td, td, td, td, tf [CS.ptr 9 0], tf [CS.ptr 10 0], td, td, td, td, td, td, td, td, td, td, td, td, td, td, td, td, td, td, td, td, td, td, td, td, tf [CS.sl kPt], tf [ci], tf [ci]] ++ dd 30, boxes := [(9, 33, [ci, ci, ci, ci, ci, ci, ci, ci, ci, ci, ci, ci, ci, CS.bool, ci, CS.bool, ci, ci, ci, ci, ci, CS.bool]), (10, 74, [ci, ci, ci, ci, ci, ci, ci]), (20000, 125, [ci, ci, ci, CS.own 20000 7, CS.own 20001 3, CS.bool, ci, ci, ci])], rows := [(20000, 74, kSgm), (20001, 79, kPt)] }
def ex_path_builder_move_6 : List (Ex × Sk) := [(Ex.exit 0, { tmps := [tf [CS.ptr 20000 0]] ++ dd 67, boxes := [(20000, 125, [ci, ci, ci, CS.own 20000 7, CS.own 20001 3, CS.bool, ci, ci, ci])], rows := [(20000, 74, kSgm), (20001, 79, kPt)] })]
def Qc0 (Qaw Qam Qbx Qco Qa1 Qe1 : Fn) : Lp := stepL Try.prog (Qjh Qaw Qam Qbx Qco Qa1 Qe1) 64 6 (Qg8 Try.prog 140 6) sk_path_builder_move_6 ex_path_builder_move_6
def C_path_builder_move_1 (Qaw Qam Qbx Qco Qa1 Qe1 : Fn) (N6 : Lp) : Cfg := (Qjh Qaw Qam Qbx Qco Qa1 Qe1).loop 6 sk_path_builder_move_6 ex_path_builder_move_6 N6
def Qkj (Qaw Qam Qbx Qco Qa1 Qe1 : Fn) (N6 : Lp) : Fn := Qau Try.prog (C_path_builder_move_1 Qaw Qam Qbx Qco Qa1 Qe1 N6) 64 140 Qiz Qik
theorem Qks (Qaw Qam Qbx Qco Qa1 Qe1 : Fn) (v0 v1 v2 : Rw) (v3 v4 v5 v6 v7 v8 v9 v10 v11 v12 v13 v14 v15 v16 v17 : Int) (v18 : Bool) (v19 : Int) (v20 : Bool) (v21 v22 v23 v24 v25 : Int) (v26 : Bool) (v27 v28 v29 v30 v31 v32 v33 v34 v35 v36 : Int) (v37 : Bool) (v38 v39 v40 : Int) : Qc0 Qaw Qam Qbx Qco Qa1 Qe1 [.view kSgm v0, .view kPt v1, .view kPt v2, I v3, I v4, I v5, I v6, I v7, I v8, I v9, I v10, I v11, I v12, I v13, I v14, I v15, I v16, I v17, B v18, I v19, B v20, I v21, I v22, I v23, I v24, I v25, B v26, I v27, I v28, I v29, I v30, I v31, I v32, I v33, I v34, I v35, I v36, B v37, I v38, I v39, I v40] =
 bif decide (v4 < v3) then
 bif decide (0 <= v4) && decide (v4 < (v2.length : Int)) then
 (Qbx [.view kSgm v0, .view kPt v1, jA (nth [] v2 v4.toNat) 0, jA (nth [] v2 v4.toNat) 1, jA (nth [] v2 v4.toNat) 2, I v27, I v28, I v29, I v30, I v31, I v32, I v33, I v34, I v35, I v36, B v37, I v38, I v39, I v40]).bind fun o12 =>
 (Qam [I v5, I v6, I v7, I v8, I v9, I v10, I v11, I v12, I v13, I v14, I v15, I v16, I v17, B v18, I v19, B v20, I v21, I v22, I v23, I v24, I v25, B v26]).bind fun o13 =>
 bif bA o13 0 then
 (Qaw [I v5, I v6, I v7, I v8, I v9, I v10, I v11, I v12, I v13, I v14, I v15, I v16, I v17, B v18, I v19, B v20, I v21, I v22, I v23, I v24, I v25, B v26]).bind fun o14 =>
 bif gA (nth [] v2 v4.toNat) 0 == gA o14 0 && (gA (nth [] v2 v4.toNat) 1 == gA o14 1 && (gA (nth [] v2 v4.toNat) 2 == gA o14 2 && true)) then
 some (0, [.view kSgm (wA o12 0), .view kPt (wA o12 1), .view kPt v2, I v3, I (IntKind.i64.wrap (v4 + 1)), I v5, I v6, I v7, I v8, I v9, I v10, I v11, I v12, I v13, I v14, I v15, I v16, I v17, B v18, I v19, B v20, I v21, I v22, I v23, I v24, I v25, B v26, I v27, I v28, I v29, I v30, I v31, I v32, I v33, jA o12 2, jA o12 3, jA o12 4, B (bA o12 5), jA o12 6, jA o12 7, jA o12 6])
 else
 some (0, [.view kSgm (wA o12 0), .view kPt (wA o12 1), .view kPt v2, I v3, I (IntKind.i64.wrap (v4 + 1)), I v5, I v6, I v7, I v8, I v9, I v10, I v11, I v12, I v13, I v14, I v15, I v16, I v17, B v18, I v19, B v20, I v21, I v22, I v23, I v24, I v25, B v26, I v27, I v28, I v29, I v30, I v31, I v32, I v33, jA o12 2, jA o12 3, jA o12 4, B (bA o12 5), jA o12 6, jA o12 7, jA o12 8])
 else
 some (0, [.view kSgm (wA o12 0), .view kPt (wA o12 1), .view kPt v2, I v3, I (IntKind.i64.wrap (v4 + 1)), I v5, I v6, I v7, I v8, I v9, I v10, I v11, I v12, I v13, I v14, I v15, I v16, I v17, B v18, I v19, B v20, I v21, I v22, I v23, I v24, I v25, B v26, I v27, I v28, I v29, I v30, I v31, I v32, I v33, jA o12 2, jA o12 3, jA o12 4, B (bA o12 5), jA o12 6, jA o12 7, jA o12 8])
 else
 none
 else
 some (1, [.view kSgm v0, .view kPt v1, I v34, I v35, I v36, B v37, I v38, I v39, I v40]) := by kernel_rfl
abbrev Qi3 (Qco : Fn) (x2 : Rw) (x3 x4 : Int) (N6 : Lp) (x0 x1 : Rw) (o15 : List AC) (x5 x6 x7 : Int) (x8 : Bool) (x9 x10 x11 : Int) (h1_0 : AC) : Option (List AC) :=
 (Qco [.view kItm x2, I x3, I x4]).bind fun o17 =>
 (N6 [.view kSgm x0, .view kPt x1, .view kPt (wA o17 0), I (↑(wA o17 0).length : Int), I 0, jA (nth [] x2 x3.toNat) 0, jA (nth [] x2 x3.toNat) 1, jA (nth [] x2 x3.toNat) 2, jA (nth [] x2 x3.toNat) 3, jA (nth [] x2 x3.toNat) 4, jA (nth [] x2 x3.toNat) 5, jA (nth [] x2 x3.toNat) 6, jA (nth [] x2 x3.toNat) 7, jA (nth [] x2 x3.toNat) 8, jA (nth [] x2 x3.toNat) 9, jA (nth [] x2 x3.toNat) 10, jA (nth [] x2 x3.toNat) 11, jA (nth [] x2 x3.toNat) 12, B (bA (nth [] x2 x3.toNat) 13), jA (nth [] x2 x3.toNat) 14, B (bA (nth [] x2 x3.toNat) 15), jA (nth [] x2 x3.toNat) 16, jA (nth [] x2 x3.toNat) 17, jA (nth [] x2 x3.toNat) 18, jA (nth [] x2 x3.toNat) 19, jA (nth [] x2 x3.toNat) 20, B (bA (nth [] x2 x3.toNat) 21), I 0, I 0, I 0, I 0, I x3, jA o15 0, h1_0, I x5, I x6, I x7, B x8, I x9, I x10, I x11]).bind fun o18 =>
 bif o18.1.beq 1 then
 some [.view kSgm (wA o18.2 0), .view kPt (wA o18.2 1), B (decide ((↑(wA o18.2 0).length : Int) <= 1048576)), jA o18.2 2, jA o18.2 3, jA o18.2 4, B (bA o18.2 5), jA o18.2 6, jA o18.2 7, jA o18.2 8]
 else
 none
attribute [go_sem] Qi3
theorem mf_path_builder_move_eq (Qaw Qam Qbx Qco Qa1 Qe1 : Fn) (N6 : Lp) (x0 x1 x2 : Rw) (x3 x4 x5 x6 x7 : Int) (x8 : Bool) (x9 x10 x11 : Int) : Qkj Qaw Qam Qbx Qco Qa1 Qe1 N6 [.view kSgm x0, .view kPt x1, .view kItm x2, I x3, I x4, I x5, I x6, I x7, B x8, I x9, I x10, I x11] =
 bif decide (0 <= x3) && decide (x3 < (x2.length : Int)) then
 (Qe1 [jA (nth [] x2 x3.toNat) 0, jA (nth [] x2 x3.toNat) 1, jA (nth [] x2 x3.toNat) 2, jA (nth [] x2 x3.toNat) 3, jA (nth [] x2 x3.toNat) 4, jA (nth [] x2 x3.toNat) 5, jA (nth [] x2 x3.toNat) 6, jA (nth [] x2 x3.toNat) 7, jA (nth [] x2 x3.toNat) 8, jA (nth [] x2 x3.toNat) 9, jA (nth [] x2 x3.toNat) 10, jA (nth [] x2 x3.toNat) 11, jA (nth [] x2 x3.toNat) 12, B (bA (nth [] x2 x3.toNat) 13), jA (nth [] x2 x3.toNat) 14, B (bA (nth [] x2 x3.toNat) 15), jA (nth [] x2 x3.toNat) 16, jA (nth [] x2 x3.toNat) 17, jA (nth [] x2 x3.toNat) 18, jA (nth [] x2 x3.toNat) 19, jA (nth [] x2 x3.toNat) 20, B (bA (nth [] x2 x3.toNat) 21), I x10]).bind fun o15 =>
 (Qa1 [jA (nth [] x2 x3.toNat) 0, jA (nth [] x2 x3.toNat) 1, jA (nth [] x2 x3.toNat) 2, jA (nth [] x2 x3.toNat) 3, jA (nth [] x2 x3.toNat) 4, jA (nth [] x2 x3.toNat) 5, jA (nth [] x2 x3.toNat) 6, jA (nth [] x2 x3.toNat) 7, jA (nth [] x2 x3.toNat) 8, jA (nth [] x2 x3.toNat) 9, jA (nth [] x2 x3.toNat) 10, jA (nth [] x2 x3.toNat) 11, jA (nth [] x2 x3.toNat) 12, B (bA (nth [] x2 x3.toNat) 13), jA (nth [] x2 x3.toNat) 14, B (bA (nth [] x2 x3.toNat) 15), jA (nth [] x2 x3.toNat) 16, jA (nth [] x2 x3.toNat) 17, jA (nth [] x2 x3.toNat) 18, jA (nth [] x2 x3.toNat) 19, jA (nth [] x2 x3.toNat) 20, B (bA (nth [] x2 x3.toNat) 21)]).bind fun o16 =>
 bif bA o16 0 then
 Qi3 Qco x2 x3 x4 N6 x0 x1 o15 x5 x6 x7 x8 x9 x10 x11 (I (mn (IntKind.i64.wrap (gA (nth [] x2 x3.toNat) 14 * 16)) 16777216))
 else
 Qi3 Qco x2 x3 x4 N6 x0 x1 o15 x5 x6 x7 x8 x9 x10 x11 (I 0)
 else
 none := by kernel_rfl
def l_path_builder_move_6 := Qby (Qc0 Qdd Qb6 Qew Qjy Qd6 Qiy )
def Qc6 := Qkj Qdd Qb6 Qew Qjy Qd6 Qiy l_path_builder_move_6
theorem sp_path_builder_move : Qar Try.prog (Qjh Qdd Qb6 Qew Qjy Qd6 Qiy) := Qae rfl ⟨r_path_middle, r_path_smooth, r_path_builder_add, r_path_points, r_path_geared, r_path_Rate, trivial⟩
theorem r_path_builder_move : Qbt Try.prog (140, spOf Qiz Qik Qc6) := Qa5 (C := (C_path_builder_move_1 Qdd Qb6 Qew Qjy Qd6 Qiy l_path_builder_move_6)) (L := 64) (by kernel_rfl) ((FnOK.bare rfl rfl rfl).loop sp_path_builder_move eqOk Qbj (by kernel_rfl) (by kernel_rfl)) sp_path_builder_move eqOk Qbj (by kernel_rfl) (by kernel_rfl)
def sig_path_check : Sk := { tmps := [TS.v true [ci, ci, ci, ci, ci, ci, ci, ci, ci, ci, ci, ci, ci, CS.bool, ci, CS.bool, ci, ci, ci, ci, ci, CS.bool]], boxes := [], rows := [] }
def osig_path_check : Sk := { tmps := [tf [ci]], boxes := [], rows := [] }
def C_path_check_0 (Qa3 Qad : Fn) : Cfg := { spec := Qbq [(66, spOf Qiw Qh0 Qa3), (137, spOf Qgs Qf3 Qad)], eqOk := Qbu, ownOff := ownOff }
def mf_path_check (Qa3 Qad : Fn) : Fn := Qau Try.prog (C_path_check_0 Qa3 Qad) 64 136 sig_path_check osig_path_check
abbrev Qgg (x0 x19 x20 : Int) : Option (List AC) :=
 bif x0 == 8 then
 bif decide (x19 < 3) then
 some [I 1]
 else
 bif decide (x19 > 5) then
 some [I 1]
 else
 bif decide (x20 < 0) then
 some [I 1]
 else
 bif decide (x20 > 30000) then
 some [I 1]
 else
 some [I 0]
 else
 some [I 0]
attribute [go_sem] Qgg
theorem mf_path_check_eq (Qa3 Qad : Fn) (x0 x1 x2 x3 x4 x5 x6 x7 x8 x9 x10 x11 x12 : Int) (x13 : Bool) (x14 : Int) (x15 : Bool) (x16 x17 x18 x19 x20 : Int) (x21 : Bool) : mf_path_check Qa3 Qad [I x0, I x1, I x2, I x3, I x4, I x5, I x6, I x7, I x8, I x9, I x10, I x11, I x12, B x13, I x14, B x15, I x16, I x17, I x18, I x19, I x20, B x21] =
 bif decide (x0 < 1) then
 some [I 1]
 else
 bif decide (x0 > 14) then
 some [I 1]
 else
 (Qad [I x0]).bind fun o4 =>
 bif bA o4 0 then
 (Qa3 [I x0, I x1, I x2, I x3, I x4, I x5, I x6, I x7, I x8, I x9, I x10, I x11, I x12, B x13, I x14, B x15, I x16, I x17, I x18, I x19, I x20, B x21]).bind fun o5 =>
 bif !bA o5 0 then
 some [I 1]
 else
 bif decide (x18 < 0) then
 some [I 1]
 else
 bif decide (x18 > 1000) then
 some [I 1]
 else
 (Qad [I x0]).bind fun o6 =>
 bif bA o6 0 then
 bif x0 != 1 then
 bif decide (x14 < 1) then
 some [I 1]
 else
 bif decide (x14 > 60000000) then
 some [I 1]
 else
 Qgg x0 x19 x20
 else
 Qgg x0 x19 x20
 else
 Qgg x0 x19 x20
 else
 (Qad [I x0]).bind fun o7 =>
 bif bA o7 0 then
 bif x0 != 1 then
 bif decide (x14 < 1) then
 some [I 1]
 else
 bif decide (x14 > 60000000) then
 some [I 1]
 else
 Qgg x0 x19 x20
 else
 Qgg x0 x19 x20
 else
 Qgg x0 x19 x20 := by kernel_rfl
def Qga := mf_path_check Qdp Qbo 
theorem sp_path_check : Qar Try.prog (C_path_check_0 Qdp Qbo) := Qae rfl ⟨r_curve_Valid, r_path_motion, trivial⟩
theorem r_path_check : Qbt Try.prog (136, spOf sig_path_check osig_path_check Qga) := Qa5 (C := (C_path_check_0 Qdp Qbo)) (L := 64) (by kernel_rfl) (FnOK.bare rfl rfl rfl) sp_path_check eqOk Qbj (by kernel_rfl) (by kernel_rfl)
def sig_path_build : Sk := { tmps := [tf [CS.sl kItm]], boxes := [], rows := [] }
def Qns : Sk := { tmps := [TS.tup [(false, [CS.ptr 13 0]), (false, [ci])]], boxes := [(13, 125, [ci, ci, ci, CS.own 1013003 7, CS.own 1013004 3, CS.bool, ci, ci, ci])], rows := [(1013003, 74, kSgm), (1013004, 79, kPt)] }
def C_path_build_0 (Qaf Qag Qav Qa7 Qad Qcc : Fn) : Cfg := { spec := Qbq [(141, spOf Qjg Qij Qaf), (140, spOf Qiz Qik Qag), (139, spOf Qm2 Qkn Qav), (138, spOf sig_path_soft osig_path_soft Qa7), (137, spOf Qgs Qf3 Qad), (136, spOf sig_path_check osig_path_check Qcc)], eqOk := Qbu, pure := fun f => !(Qd3 [141, 140] f), ownOff := ownOff }
def sk_path_build_6 : Sk := { tmps := [tf [CS.sl kItm], td, td, td, tf [CS.ptr 13 0], tf [ci], td, td, td, td, td, td, td, td, td, td, td, td, tf [CS.sl kItm], tf [ci], tf [ci]] ++ dd 87, boxes := [(13, 125, [ci, ci, ci, CS.own 1013003 7, CS.own 1013004 3, CS.bool, ci, ci, ci])], rows := [(1013003, 74, kSgm), (1013004, 79, kPt)] }
def ex_path_build_6 : List (Ex × Sk) := [(Ex.ret, { tmps := [td, td, tf [CS.ptr 13 0], tf [ci]] ++ dd 104, boxes := [(13, 125, [ci, ci, ci, CS.own 1013003 7, CS.own 1013004 3, CS.bool, ci, ci, ci])], rows := [(1013003, 74, kSgm), (1013004, 79, kPt)] }), (Ex.exit 0, { tmps := [tf [CS.sl kItm], td, td, td, tf [CS.ptr 13 0]] ++ dd 103, boxes := [(13, 125, [ci, ci, ci, CS.own 1013003 7, CS.own 1013004 3, CS.bool, ci, ci, ci])], rows := [(1013003, 74, kSgm), (1013004, 79, kPt)] })]
def Qi0 (Qaf Qag Qav Qa7 Qad Qcc : Fn) : Lp := stepL Try.prog (C_path_build_0 Qaf Qag Qav Qa7 Qad Qcc) 64 6 (Qg8 Try.prog 95 6) sk_path_build_6 ex_path_build_6
def C_path_build_1 (Qaf Qag Qav Qa7 Qad Qcc : Fn) (N6 : Lp) : Cfg := (C_path_build_0 Qaf Qag Qav Qa7 Qad Qcc).loop 6 sk_path_build_6 ex_path_build_6 N6
def sk_path_build_18 : Sk := { tmps := [tf [CS.sl kItm], td, td, td, tf [CS.ptr 13 0], tf [ci], td, td, td, td, td, td, td, td, td, td, td, td, td, td, td, td, td, td, td, td, td, td, td, td, td, td, td, td, td, td, td, td, td, td, td, td, td, td, td, td, td, td, td, td, tf [CS.sl kItm], tf [ci], tf [ci]] ++ dd 55, boxes := [(13, 125, [ci, ci, ci, CS.own 1013003 7, CS.own 1013004 3, CS.bool, ci, ci, ci])], rows := [(1013003, 74, kSgm), (1013004, 79, kPt)] }
def ex_path_build_18 : List (Ex × Sk) := [(Ex.ret, { tmps := [td, td, tf [CS.ptr 13 0], tf [ci]] ++ dd 104, boxes := [(13, 125, [ci, ci, ci, CS.own 1013003 7, CS.own 1013004 3, CS.bool, ci, ci, ci])], rows := [(1013003, 74, kSgm), (1013004, 79, kPt)] }), (Ex.exit 2, { tmps := [td, td, td, td, tf [CS.ptr 13 0]] ++ dd 103, boxes := [(13, 125, [ci, ci, ci, CS.own 1013003 7, CS.own 1013004 3, CS.bool, ci, ci, ci])], rows := [(1013003, 74, kSgm), (1013004, 79, kPt)] })]
def Qhr (Qaf Qag Qav Qa7 Qad Qcc : Fn) (N6 : Lp) : Lp := stepL Try.prog (C_path_build_1 Qaf Qag Qav Qa7 Qad Qcc N6) 64 18 (Qg8 Try.prog 95 18) sk_path_build_18 ex_path_build_18
def C_path_build_2 (Qaf Qag Qav Qa7 Qad Qcc : Fn) (N6 N18 : Lp) : Cfg := (C_path_build_1 Qaf Qag Qav Qa7 Qad Qcc N6).loop 18 sk_path_build_18 ex_path_build_18 N18
def mf_path_build (Qaf Qag Qav Qa7 Qad Qcc : Fn) (N6 N18 : Lp) : Fn := Qau Try.prog (C_path_build_2 Qaf Qag Qav Qa7 Qad Qcc N6 N18) 64 95 sig_path_build Qns
theorem st_path_build_6_eq (Qaf Qag Qav Qa7 Qad Qcc : Fn) (v0 v1 v2 : Rw) (v3 : Int) (v4 : Rw) (v5 v6 v7 v8 v9 : Int) (v10 : Bool) (v11 v12 v13 : Int) : Qi0 Qaf Qag Qav Qa7 Qad Qcc [.view kSgm v0, .view kPt v1, .view kItm v2, I v3, .view kItm v4, I v5, I v6, I v7, I v8, I v9, B v10, I v11, I v12, I v13] =
 bif decide (v6 < v5) then
 bif decide (0 <= v6) && decide (v6 < (v4.length : Int)) then
 (Qcc [jA (nth [] v4 v6.toNat) 0, jA (nth [] v4 v6.toNat) 1, jA (nth [] v4 v6.toNat) 2, jA (nth [] v4 v6.toNat) 3, jA (nth [] v4 v6.toNat) 4, jA (nth [] v4 v6.toNat) 5, jA (nth [] v4 v6.toNat) 6, jA (nth [] v4 v6.toNat) 7, jA (nth [] v4 v6.toNat) 8, jA (nth [] v4 v6.toNat) 9, jA (nth [] v4 v6.toNat) 10, jA (nth [] v4 v6.toNat) 11, jA (nth [] v4 v6.toNat) 12, B (bA (nth [] v4 v6.toNat) 13), jA (nth [] v4 v6.toNat) 14, B (bA (nth [] v4 v6.toNat) 15), jA (nth [] v4 v6.toNat) 16, jA (nth [] v4 v6.toNat) 17, jA (nth [] v4 v6.toNat) 18, jA (nth [] v4 v6.toNat) 19, jA (nth [] v4 v6.toNat) 20, B (bA (nth [] v4 v6.toNat) 21)]).bind fun o53 =>
 bif gA o53 0 != 0 then
 some (1, [.view kSgm v0, .view kPt v1, jA o53 0, I v7, I v8, I v9, B v10, I v11, I v12, I v13])
 else
 (Qad [jA (nth [] v4 v6.toNat) 0]).bind fun o54 =>
 bif !bA o54 0 then
 some (0, [.view kSgm v0, .view kPt v1, .view kItm v2, I v3, .view kItm v4, I v5, I (IntKind.i64.wrap (v6 + 1)), I v7, I v8, I v9, B v10, I v11, I v12, I v13])
 else
 bif decide (v3 >= 0) then
 bif decide (0 <= v3) && decide (v3 < (v2.length : Int)) then
 bif !(gA (nth [] v2 v3.toNat) 5 == gA (nth [] v4 v6.toNat) 2 && (gA (nth [] v2 v3.toNat) 6 == gA (nth [] v4 v6.toNat) 3 && (gA (nth [] v2 v3.toNat) 7 == gA (nth [] v4 v6.toNat) 4 && true))) then
 some (1, [.view kSgm v0, .view kPt v1, I 13, I v7, I v8, I v9, B v10, I v11, I v12, I v13])
 else
 some (0, [.view kSgm v0, .view kPt v1, .view kItm v2, I v6, .view kItm v4, I v5, I (IntKind.i64.wrap (v6 + 1)), I v7, I v8, I v9, B v10, I v11, I v12, I v13])
 else
 none
 else
 some (0, [.view kSgm v0, .view kPt v1, .view kItm v2, I v6, .view kItm v4, I v5, I (IntKind.i64.wrap (v6 + 1)), I v7, I v8, I v9, B v10, I v11, I v12, I v13])
 else
 none
 else
 some (2, [.view kSgm v0, .view kPt v1, .view kItm v2, I v7, I v8, I v9, B v10, I v11, I v12, I v13]) := by kernel_rfl
abbrev Qfl (Qag : Fn) (v0 v1 v2 : Rw) (v6 v7 v8 v9 : Int) (v10 : Bool) (v11 : Int) (h1_0 : AC) (v13 : Int) (Qaf : Fn) (v4 : Rw) (v5 : Int) (h2_0 : AC) : Option (Nat × List AC) :=
 (Qag [.view kSgm v0, .view kPt v1, .view kItm v2, I v6, h2_0, I v7, I v8, I v9, B v10, I v11, h1_0, I v13]).bind fun o57 =>
 bif !bA o57 2 then
 some (1, [.view kSgm (wA o57 0), .view kPt (wA o57 1), I 10, jA o57 3, jA o57 4, jA o57 5, B (bA o57 6), jA o57 7, jA o57 8, jA o57 9])
 else
 (Qaf [.view kSgm (wA o57 0), .view kPt (wA o57 1), .view kItm v2, I v6, jA o57 3, jA o57 4, jA o57 5, B (bA o57 6), jA o57 7, jA o57 8, jA o57 9]).bind fun o58 =>
 some (0, [.view kSgm (wA o58 0), .view kPt (wA o58 1), .view kItm v2, I v6, .view kItm v4, I v5, I (IntKind.i64.wrap (v6 + 1)), jA o58 2, jA o58 3, jA o58 4, B (bA o58 5), jA o58 6, jA o58 7, jA o58 8])
attribute [go_sem] Qfl
abbrev Qfm (Qad : Fn) (v4 : Rw) (v6 v3 : Int) (Qa7 : Fn) (v2 : Rw) (Qag : Fn) (v0 v1 : Rw) (v7 v8 v9 : Int) (v10 : Bool) (v11 v13 : Int) (Qaf : Fn) (v5 : Int) (Qav : Fn) (h1_0 : AC) : Option (Nat × List AC) :=
 (Qad [jA (nth [] v4 v6.toNat) 0]).bind fun o55 =>
 bif bA o55 0 then
 bif decide (v3 >= 0) then
 (Qa7 [.view kItm v2, I v3]).bind fun o56 =>
 bif !bA o56 0 then
 Qfl Qag v0 v1 v2 v6 v7 v8 v9 v10 v11 h1_0 v13 Qaf v4 v5 (I (-1))
 else
 (Qav [.view kItm v2, I v3]).bind fun o59 =>
 bif gA o59 0 != v6 then
 Qfl Qag v0 v1 v2 v6 v7 v8 v9 v10 v11 h1_0 v13 Qaf v4 v5 (I (-1))
 else
 Qfl Qag v0 v1 v2 v6 v7 v8 v9 v10 v11 h1_0 v13 Qaf v4 v5 (I v3)
 else
 Qfl Qag v0 v1 v2 v6 v7 v8 v9 v10 v11 h1_0 v13 Qaf v4 v5 (I v3)
 else
 (Qaf [.view kSgm v0, .view kPt v1, .view kItm v2, I v6, I v7, I v8, I v9, B v10, I v11, h1_0, I v13]).bind fun o66 =>
 some (0, [.view kSgm (wA o66 0), .view kPt (wA o66 1), .view kItm v2, I v3, .view kItm v4, I v5, I (IntKind.i64.wrap (v6 + 1)), jA o66 2, jA o66 3, jA o66 4, B (bA o66 5), jA o66 6, jA o66 7, jA o66 8])
attribute [go_sem] Qfm
theorem st_path_build_18_eq (Qaf Qag Qav Qa7 Qad Qcc : Fn) (N6 : Lp) (v0 v1 v2 : Rw) (v3 : Int) (v4 : Rw) (v5 v6 v7 v8 v9 : Int) (v10 : Bool) (v11 v12 v13 : Int) : Qhr Qaf Qag Qav Qa7 Qad Qcc N6 [.view kSgm v0, .view kPt v1, .view kItm v2, I v3, .view kItm v4, I v5, I v6, I v7, I v8, I v9, B v10, I v11, I v12, I v13] =
 bif decide (v6 < v5) then
 bif decide (0 <= v6) && decide (v6 < (v4.length : Int)) then
 bif gA (nth [] v4 v6.toNat) 0 == 8 then
 bif gA (nth [] v4 v6.toNat) 19 == 3 then
 Qfm Qad v4 v6 v3 Qa7 v2 Qag v0 v1 v7 v8 v9 v10 v11 v13 Qaf v5 Qav (jA (nth [] v4 v6.toNat) 20)
 else
 bif gA (nth [] v4 v6.toNat) 19 == 4 then
 Qfm Qad v4 v6 v3 Qa7 v2 Qag v0 v1 v7 v8 v9 v10 v11 v13 Qaf v5 Qav (jA (nth [] v4 v6.toNat) 20)
 else
 Qfm Qad v4 v6 v3 Qa7 v2 Qag v0 v1 v7 v8 v9 v10 v11 v13 Qaf v5 Qav (I v12)
 else
 Qfm Qad v4 v6 v3 Qa7 v2 Qag v0 v1 v7 v8 v9 v10 v11 v13 Qaf v5 Qav (I v12)
 else
 none
 else
 some (2, [.view kSgm v0, .view kPt v1, I v7, I v8, I v9, B v10, I v11, I v12, I v13]) := by kernel_rfl
theorem mf_path_build_eq (Qaf Qag Qav Qa7 Qad Qcc : Fn) (N6 N18 : Lp) (x0 : Rw) : mf_path_build Qaf Qag Qav Qa7 Qad Qcc N6 N18 [.view kItm x0] =
 bif decide ((x0.length : Int) > 20000) then
 some [.view kSgm [], .view kPt [], I 10, I 0, I 0, I 0, B false, I 0, I 0, I 0]
 else
 (N6 [.view kSgm [], .view kPt [], .view kItm x0, I (-1), .view kItm x0, I (x0.length : Int), I 0, I 0, I 0, I 0, B false, I 0, I 0, I 0]).bind fun o103 =>
 bif o103.1.beq 1 then
 some [.view kSgm (wA o103.2 0), .view kPt (wA o103.2 1), jA o103.2 2, jA o103.2 3, jA o103.2 4, jA o103.2 5, B (bA o103.2 6), jA o103.2 7, jA o103.2 8, jA o103.2 9]
 else
 bif o103.1.beq 2 then
 (N18 [.view kSgm (wA o103.2 0), .view kPt (wA o103.2 1), .view kItm (wA o103.2 2), I (-1), .view kItm (wA o103.2 2), I (↑(wA o103.2 2).length : Int), I 0, jA o103.2 3, jA o103.2 4, jA o103.2 5, B (bA o103.2 6), jA o103.2 7, jA o103.2 8, jA o103.2 9]).bind fun o104 =>
 bif o104.1.beq 1 then
 some [.view kSgm (wA o104.2 0), .view kPt (wA o104.2 1), jA o104.2 2, jA o104.2 3, jA o104.2 4, jA o104.2 5, B (bA o104.2 6), jA o104.2 7, jA o104.2 8, jA o104.2 9]
 else
 bif o104.1.beq 2 then
 some [.view kSgm (wA o104.2 0), .view kPt (wA o104.2 1), I 0, jA o104.2 2, jA o104.2 3, jA o104.2 4, B (bA o104.2 5), jA o104.2 6, jA o104.2 7, jA o104.2 8]
 else
 none
 else
 none := by kernel_rfl
def Qky := Qby (Qi0 Qcq Qc6 Qdw Qex Qbo Qga )
def l_path_build_18 := Qby (Qhr Qcq Qc6 Qdw Qex Qbo Qga Qky)
def Qgd := mf_path_build Qcq Qc6 Qdw Qex Qbo Qga Qky l_path_build_18
theorem sp_path_build : Qar Try.prog (C_path_build_0 Qcq Qc6 Qdw Qex Qbo Qga) := Qae rfl ⟨r_path_builder_mark, r_path_builder_move, r_path_next, r_path_soft, r_path_motion, r_path_check, trivial⟩
theorem r_path_build : Qbt Try.prog (95, spOf sig_path_build Qns Qgd) := Qa5 (C := (C_path_build_2 Qcq Qc6 Qdw Qex Qbo Qga Qky l_path_build_18)) (L := 64) (by kernel_rfl) (((FnOK.bare rfl rfl rfl).loop sp_path_build eqOk Qbj (by kernel_rfl) (by kernel_rfl)).loop sp_path_build eqOk Qbj (by kernel_rfl) (by kernel_rfl)) sp_path_build eqOk Qbj (by kernel_rfl) (by kernel_rfl)
def sig_path_Build : Sk := { tmps := [tf [CS.sl kItm]], boxes := [], rows := [] }
def osig_path_Build : Sk := { tmps := [TS.tup [(true, [ci, ci, ci, CS.sl kSgm, CS.sl kPt]), (false, [ci])]], boxes := [], rows := [] }
def C_path_Build_0 (Qca : Fn) : Cfg := { spec := Qbq [(95, spOf sig_path_build Qns Qca)], eqOk := Qbu, pure := fun f => !(Qd3 [95] f), ownOff := ownOff }
def mf_path_Build (Qca : Fn) : Fn := Qau Try.prog (C_path_Build_0 Qca) 64 43 sig_path_Build osig_path_Build
theorem mf_path_Build_eq (Qca : Fn) (x0 : Rw) : mf_path_Build Qca [.view kItm x0] =
 (Qca [.view kItm x0]).bind fun o1 =>
 bif gA o1 2 != 0 then
 some [I 0, I 0, I 0, .view kSgm [], .view kPt [], jA o1 2]
 else
 some [jA o1 3, jA o1 4, jA o1 5, .view kSgm (wA o1 0), .view kPt (wA o1 1), I 0] := by kernel_rfl
def m_path_Build := mf_path_Build Qgd 
theorem sp_path_Build : Qar Try.prog (C_path_Build_0 Qgd) := Qae rfl ⟨r_path_build, trivial⟩
theorem r_path_Build : Qbt Try.prog (43, spOf sig_path_Build osig_path_Build m_path_Build) := Qa5 (C := (C_path_Build_0 Qgd)) (L := 64) (by kernel_rfl) (FnOK.bare rfl rfl rfl) sp_path_Build eqOk Qbj (by kernel_rfl) (by kernel_rfl)
def sig_cncmill_other : Sk := { tmps := [tf [CS.ptr 20000 0]], boxes := [(20000, 138, [CS.sl Qac, ci])], rows := [] }
def Qmd : Sk := { tmps := [TS.v true [ci, ci, ci, ci, ci, ci, ci, ci, ci, ci, ci, ci, ci, CS.bool, ci, CS.bool, ci, ci, ci, ci, ci, CS.bool]], boxes := [(20000, 138, [CS.sl Qac, ci])], rows := [] }
def C_cncmill_other_0 (Qaa : Fn) : Cfg := { spec := Qbq [(61, spOf Qcr Qci Qaa)], eqOk := Qbu, pure := fun f => !(Qd3 [61] f), ownOff := ownOff }
def mf_cncmill_other (Qaa : Fn) : Fn := Qau Try.prog (C_cncmill_other_0 Qaa) 64 99 sig_cncmill_other Qmd
abbrev g_cncmill_other_1 (Qaa : Fn) (o8 : List AC) : Option (List AC) :=
 (Qaa [I 16, .view Qac (wA o8 1), jA o8 2]).bind fun o9 =>
 (Qaa [I 2, .view Qac (wA o9 1), jA o9 2]).bind fun o10 =>
 some [I 10, I 0, I 0, I 0, I 0, I 0, I 0, I 0, I 0, I 0, I 0, I 0, I 0, B false, I 0, B false, I 0, I 0, I 0, jA o9 0, I 0, B (gA o10 0 == 0), .view Qac (wA o10 1), jA o10 2]
attribute [go_sem] g_cncmill_other_1
theorem mf_cncmill_other_eq (Qaa : Fn) (x0 : Rw) (x1 : Int) : mf_cncmill_other Qaa [.view Qac x0, I x1] =
 (Qaa [I 8, .view Qac x0, I x1]).bind fun o8 =>
 bif gA o8 0 == 0 then
 g_cncmill_other_1 Qaa o8
 else
 bif gA o8 0 == 1 then
 g_cncmill_other_1 Qaa o8
 else
 bif gA o8 0 == 2 then
 (Qaa [I 5, .view Qac (wA o8 1), jA o8 2]).bind fun o13 =>
 some [I 7, I 0, I 0, I 0, I 0, I 0, I 0, I 0, I 0, I 0, I 0, I 0, I 0, B false, I 0, B false, I 0, I 0, I 0, jA o13 0, I 0, B false, .view Qac (wA o13 1), jA o13 2]
 else
 bif gA o8 0 == 3 then
 (Qaa [I 3, .view Qac (wA o8 1), jA o8 2]).bind fun o14 =>
 (Qaa [I 4000, .view Qac (wA o14 1), jA o14 2]).bind fun o15 =>
 some [I 8, I 0, I 0, I 0, I 0, I 0, I 0, I 0, I 0, I 0, I 0, I 0, I 0, B false, I 0, B false, I 0, I 0, I 0, I (IntKind.i64.wrap (3 + gA o14 0)), jA o15 0, B false, .view Qac (wA o15 1), jA o15 2]
 else
 bif gA o8 0 == 4 then
 some [I 9, I 0, I 0, I 0, I 0, I 0, I 0, I 0, I 0, I 0, I 0, I 0, I 0, B false, I 0, B false, I 0, I 0, I 0, I 8, I 0, B true, .view Qac (wA o8 1), jA o8 2]
 else
 bif gA o8 0 == 5 then
 some [I 13, I 0, I 0, I 0, I 0, I 0, I 0, I 0, I 0, I 0, I 0, I 0, I 0, B false, I 0, B false, I 0, I 0, I 0, I 0, I 0, B false, .view Qac (wA o8 1), jA o8 2]
 else
 bif gA o8 0 == 6 then
 some [I 12, I 0, I 0, I 0, I 0, I 0, I 0, I 0, I 0, I 0, I 0, I 0, I 0, B false, I 0, B false, I 0, I 0, I 0, I 0, I 0, B false, .view Qac (wA o8 1), jA o8 2]
 else
 some [I 11, I 0, I 0, I 0, I 0, I 0, I 0, I 0, I 0, I 0, I 0, I 0, I 0, B false, I 0, B false, I 0, I 0, I 0, I 1, I 0, B false, .view Qac (wA o8 1), jA o8 2] := by kernel_rfl
def Qfk := mf_cncmill_other Qao 
theorem sp_cncmill_other : Qar Try.prog (C_cncmill_other_0 Qao) := Qae rfl ⟨Qet, trivial⟩
theorem r_cncmill_other : Qbt Try.prog (99, spOf sig_cncmill_other Qmd Qfk) := Qa5 (C := (C_cncmill_other_0 Qao)) (L := 64) (by kernel_rfl) (FnOK.bare rfl rfl rfl) sp_cncmill_other eqOk Qbj (by kernel_rfl) (by kernel_rfl)
def sig_cncmill_Items : Sk := { tmps := [tf [CS.sl Qac], tf [ci], tf [CS.bool]], boxes := [], rows := [] }
def Qmm : Sk := { tmps := [tf [CS.sl kItm]], boxes := [], rows := [] }
def C_cncmill_Items_0 (Qcf Qcu Qbe Qaa Qbl : Fn) : Cfg := { spec := Qbq [(79, spOf Qm1 Qlu Qcf), (99, spOf sig_cncmill_other Qmd Qcu), (78, spOf Qhm Qg2 Qbe), (61, spOf Qcr Qci Qaa), (59, spOf Qk6 Qj8 Qbl)], eqOk := Qbu, pure := fun f => !(Qd3 [79, 99, 78, 61, 59] f), ownOff := ownOff, prom := fun b => bif Nat.beq b 4 then [(8, 33)] else [] }
def sk_cncmill_Items_4 : Sk := { tmps := [td, tf [ci], tf [CS.bool], td, td, td, td, tf [CS.ptr 101300 0], tf [CS.own 8 22], tf [CS.ptr 9 0]] ++ dd 64, boxes := [(9, 31, [ci, ci, ci]), (101300, 138, [CS.sl Qac, ci])], rows := [(8, 33, kItm)] }
def ex_cncmill_Items_4 : List (Ex × Sk) := [(Ex.exit 0, { tmps := [td, td, tf [CS.bool], td, td, td, td, td, tf [CS.own 8 22]] ++ dd 65, boxes := [], rows := [(8, 33, kItm)] })]
def Qmt (Qcf Qcu Qbe Qaa Qbl : Fn) : Lp := stepL Try.prog (C_cncmill_Items_0 Qcf Qcu Qbe Qaa Qbl) 64 4 (Qg8 Try.prog 47 4) sk_cncmill_Items_4 ex_cncmill_Items_4
def C_cncmill_Items_1 (Qcf Qcu Qbe Qaa Qbl : Fn) (N4 : Lp) : Cfg := (C_cncmill_Items_0 Qcf Qcu Qbe Qaa Qbl).loop 4 sk_cncmill_Items_4 ex_cncmill_Items_4 N4
def mf_cncmill_Items (Qcf Qcu Qbe Qaa Qbl : Fn) (N4 : Lp) : Fn := Qau Try.prog (C_cncmill_Items_1 Qcf Qcu Qbe Qaa Qbl N4) 64 47 sig_cncmill_Items Qmm
theorem st_cncmill_Items_4_eq (Qcf Qcu Qbe Qaa Qbl : Fn) (v0 : Rw) (v1 : Int) (v2 : Bool) (v3 v4 v5 : Int) (v6 : Rw) (v7 : Int) : Qmt Qcf Qcu Qbe Qaa Qbl [.view kItm v0, I v1, B v2, I v3, I v4, I v5, .view Qac v6, I v7] =
 bif decide ((v0.length : Int) < v1) then
 (Qbe [.view Qac v6, I v7]).bind fun o25 =>
 bif bA o25 0 then
 (Qaa [I 12, .view Qac (wA o25 1), jA o25 2]).bind fun o26 =>
 bif decide (gA o26 0 < 4) then
 (Qcu [.view Qac (wA o26 1), jA o26 2]).bind fun o27 =>
 bif ((v0 ++ [[jA o27 0, jA o27 1, jA o27 2, jA o27 3, jA o27 4, jA o27 5, jA o27 6, jA o27 7, jA o27 8, jA o27 9, jA o27 10, jA o27 11, jA o27 12, B (bA o27 13), jA o27 14, B (bA o27 15), jA o27 16, jA o27 17, jA o27 18, jA o27 19, jA o27 20, B (bA o27 21)]]).length * 176).ble 140737488355328 then
 some (0, [.view kItm (v0 ++ [[jA o27 0, jA o27 1, jA o27 2, jA o27 3, jA o27 4, jA o27 5, jA o27 6, jA o27 7, jA o27 8, jA o27 9, jA o27 10, jA o27 11, jA o27 12, B (bA o27 13), jA o27 14, B (bA o27 15), jA o27 16, jA o27 17, jA o27 18, jA o27 19, jA o27 20, B (bA o27 21)]]), I v1, B v2, I v3, I v4, I v5, .view Qac (wA o27 22), jA o27 23])
 else
 none
 else
 bif decide (0 <= IntKind.i64.wrap (gA o26 0 - 4)) && decide (IntKind.i64.wrap (gA o26 0 - 4) < (↑[[I 2], [I 2], [I 2], [I 3], [I 1], [I 6], [I 5], [I 4]].length : Int)) then
 (Qcf [I v3, I v4, I v5, I (Qaq (nth .dead (nth [] [[I 2], [I 2], [I 2], [I 3], [I 1], [I 6], [I 5], [I 4]] (IntKind.i64.wrap (gA o26 0 - 4)).toNat) 0)), .view Qac (wA o26 1), jA o26 2]).bind fun o28 =>
 bif gA o28 0 == 5 then
 (Qaa [I 2, .view Qac (wA o28 22), jA o28 23]).bind fun o29 =>
 (Qaa [I 3000, .view Qac (wA o29 1), jA o29 2]).bind fun o30 =>
 bif ((v0 ++ [[I 8, I 0, I 0, I 0, I 0, I 0, I 0, I 0, I 0, I 0, I 0, I 0, I 0, B false, I 0, B false, I 0, I 0, I 0, I (IntKind.i64.wrap (3 + gA o29 0)), I (IntKind.i64.wrap (200 + gA o30 0)), B false]]).length * 176).ble 140737488355328 then
 bif ((v0 ++ [[I 8, I 0, I 0, I 0, I 0, I 0, I 0, I 0, I 0, I 0, I 0, I 0, I 0, B false, I 0, B false, I 0, I 0, I 0, I (IntKind.i64.wrap (3 + gA o29 0)), I (IntKind.i64.wrap (200 + gA o30 0)), B false]] ++ [[jA o28 0, jA o28 1, jA o28 2, jA o28 3, jA o28 4, jA o28 5, jA o28 6, jA o28 7, jA o28 8, jA o28 9, jA o28 10, jA o28 11, jA o28 12, B (bA o28 13), jA o28 14, B (bA o28 15), jA o28 16, jA o28 17, jA o28 18, jA o28 19, jA o28 20, B (bA o28 21)]]).length * 176).ble 140737488355328 then
 some (0, [.view kItm (v0 ++ [[I 8, I 0, I 0, I 0, I 0, I 0, I 0, I 0, I 0, I 0, I 0, I 0, I 0, B false, I 0, B false, I 0, I 0, I 0, I (IntKind.i64.wrap (3 + gA o29 0)), I (IntKind.i64.wrap (200 + gA o30 0)), B false]] ++ [[jA o28 0, jA o28 1, jA o28 2, jA o28 3, jA o28 4, jA o28 5, jA o28 6, jA o28 7, jA o28 8, jA o28 9, jA o28 10, jA o28 11, jA o28 12, B (bA o28 13), jA o28 14, B (bA o28 15), jA o28 16, jA o28 17, jA o28 18, jA o28 19, jA o28 20, B (bA o28 21)]]), I v1, B v2, jA o28 5, jA o28 6, jA o28 7, .view Qac (wA o30 1), jA o30 2])
 else
 none
 else
 none
 else
 bif ((v0 ++ [[jA o28 0, jA o28 1, jA o28 2, jA o28 3, jA o28 4, jA o28 5, jA o28 6, jA o28 7, jA o28 8, jA o28 9, jA o28 10, jA o28 11, jA o28 12, B (bA o28 13), jA o28 14, B (bA o28 15), jA o28 16, jA o28 17, jA o28 18, jA o28 19, jA o28 20, B (bA o28 21)]]).length * 176).ble 140737488355328 then
 some (0, [.view kItm (v0 ++ [[jA o28 0, jA o28 1, jA o28 2, jA o28 3, jA o28 4, jA o28 5, jA o28 6, jA o28 7, jA o28 8, jA o28 9, jA o28 10, jA o28 11, jA o28 12, B (bA o28 13), jA o28 14, B (bA o28 15), jA o28 16, jA o28 17, jA o28 18, jA o28 19, jA o28 20, B (bA o28 21)]]), I v1, B v2, jA o28 5, jA o28 6, jA o28 7, .view Qac (wA o28 22), jA o28 23])
 else
 none
 else
 none
 else
 some (1, [.view kItm v0, B v2])
 else
 some (1, [.view kItm v0, B v2]) := by kernel_rfl
theorem mf_cncmill_Items_eq (Qcf Qcu Qbe Qaa Qbl : Fn) (N4 : Lp) (x0 : Rw) (x1 : Int) (x2 : Bool) : mf_cncmill_Items Qcf Qcu Qbe Qaa Qbl N4 [.view Qac x0, I x1, B x2] =
 (Qbl [.view Qac x0]).bind fun o31 =>
 (Qaa [I 9, .view Qac (wA o31 0), jA o31 1]).bind fun o32 =>
 (Qaa [I 9, .view Qac (wA o32 1), jA o32 2]).bind fun o33 =>
 (Qaa [I 9, .view Qac (wA o33 1), jA o33 2]).bind fun o34 =>
 (N4 [.view kItm [], I x1, B x2, I (IntKind.i64.wrap (gA o32 0 - 4)), I (IntKind.i64.wrap (gA o33 0 - 4)), I (IntKind.i64.wrap (gA o34 0 - 4)), .view Qac (wA o34 1), jA o34 2]).bind fun o35 =>
 bif o35.1.beq 1 then
 bif bA o35.2 1 then
 bif ((wA o35.2 0 ++ [[I 14, I 0, I 0, I 0, I 0, I 0, I 0, I 0, I 0, I 0, I 0, I 0, I 0, B false, I 0, B false, I 0, I 0, I 0, I 0, I 0, B false]]).length * 176).ble 140737488355328 then
 some [.view kItm (wA o35.2 0 ++ [[I 14, I 0, I 0, I 0, I 0, I 0, I 0, I 0, I 0, I 0, I 0, I 0, I 0, B false, I 0, B false, I 0, I 0, I 0, I 0, I 0, B false]])]
 else
 none
 else
 some [.view kItm (wA o35.2 0)]
 else
 none := by kernel_rfl
def l_cncmill_Items_4 := Qby (Qmt Qe0 Qfk Qcm Qao Qc8 )
def Qi4 := mf_cncmill_Items Qe0 Qfk Qcm Qao Qc8 l_cncmill_Items_4
theorem sp_cncmill_Items : Qar Try.prog (C_cncmill_Items_0 Qe0 Qfk Qcm Qao Qc8) := Qae rfl ⟨r_cncmill_motion, r_cncmill_other, r_cncmill_Source_Left, Qet, r_cncmill_From, trivial⟩
theorem r_cncmill_Items : Qbt Try.prog (47, spOf sig_cncmill_Items Qmm Qi4) := Qa5 (C := (C_cncmill_Items_1 Qe0 Qfk Qcm Qao Qc8 l_cncmill_Items_4)) (L := 64) (by kernel_rfl) ((FnOK.bare rfl rfl rfl).loop sp_cncmill_Items eqOk Qbj (by kernel_rfl) (by kernel_rfl)) sp_cncmill_Items eqOk Qbj (by kernel_rfl) (by kernel_rfl)
def sig_path_Settled : Sk := { tmps := [tf [CS.sl kItm]], boxes := [], rows := [] }
def osig_path_Settled : Sk := { tmps := [tf [ci]], boxes := [], rows := [] }
def C_path_Settled_0 (Qam Qca : Fn) : Cfg := { spec := Qbq [(102, spOf Qg3 Qf2 Qam), (95, spOf sig_path_build Qns Qca)], eqOk := Qbu, pure := fun f => !(Qd3 [95] f), ownOff := ownOff }
def sk_path_Settled_5 : Sk := { tmps := [tf [CS.sl kItm], td, td, tf [CS.ptr 100800 0], td, tf [ci]] ++ dd 47, boxes := [(100800, 125, [ci, ci, ci, CS.own 100800 7, CS.own 100801 3, CS.bool, ci, ci, ci])], rows := [(100800, 74, kSgm), (100801, 79, kPt)] }
def ex_path_Settled_5 : List (Ex × Sk) := [(Ex.ret, { tmps := [td, td, tf [ci]] ++ dd 50, boxes := [], rows := [] }), (Ex.exit 0, { tmps := [td, td, td, tf [CS.ptr 100800 0]] ++ dd 49, boxes := [(100800, 125, [ci, ci, ci, CS.own 100800 7, CS.own 100801 3, CS.bool, ci, ci, ci])], rows := [(100800, 74, kSgm), (100801, 79, kPt)] })]
def Qfh (Qam Qca : Fn) : Lp := stepL Try.prog (C_path_Settled_0 Qam Qca) 64 5 (Qg8 Try.prog 52 5) sk_path_Settled_5 ex_path_Settled_5
def C_path_Settled_1 (Qam Qca : Fn) (N5 : Lp) : Cfg := (C_path_Settled_0 Qam Qca).loop 5 sk_path_Settled_5 ex_path_Settled_5 N5
def mf_path_Settled (Qam Qca : Fn) (N5 : Lp) : Fn := Qau Try.prog (C_path_Settled_1 Qam Qca N5) 64 52 sig_path_Settled osig_path_Settled
theorem st_path_Settled_5_eq (Qam Qca : Fn) (v0 v1 v2 : Rw) (v3 v4 v5 v6 : Int) (v7 : Bool) (v8 v9 v10 : Int) : Qfh Qam Qca [.view kSgm v0, .view kPt v1, .view kItm v2, I v3, I v4, I v5, I v6, B v7, I v8, I v9, I v10] =
 bif decide (v3 >= 0) then
 bif decide (0 <= v3) && decide (v3 < (v2.length : Int)) then
 bif gA (nth [] v2 v3.toNat) 0 == 10 then
 some (0, [.view kSgm v0, .view kPt v1, .view kItm v2, I (IntKind.i64.wrap (v3 - 1)), I v4, I v5, I v6, B v7, I v8, I v9, I v10])
 else
 bif decide (0 <= v3) && decide (v3 < (v2.length : Int)) then
 (Qam [jA (nth [] v2 v3.toNat) 0, jA (nth [] v2 v3.toNat) 1, jA (nth [] v2 v3.toNat) 2, jA (nth [] v2 v3.toNat) 3, jA (nth [] v2 v3.toNat) 4, jA (nth [] v2 v3.toNat) 5, jA (nth [] v2 v3.toNat) 6, jA (nth [] v2 v3.toNat) 7, jA (nth [] v2 v3.toNat) 8, jA (nth [] v2 v3.toNat) 9, jA (nth [] v2 v3.toNat) 10, jA (nth [] v2 v3.toNat) 11, jA (nth [] v2 v3.toNat) 12, B (bA (nth [] v2 v3.toNat) 13), jA (nth [] v2 v3.toNat) 14, B (bA (nth [] v2 v3.toNat) 15), jA (nth [] v2 v3.toNat) 16, jA (nth [] v2 v3.toNat) 17, jA (nth [] v2 v3.toNat) 18, jA (nth [] v2 v3.toNat) 19, jA (nth [] v2 v3.toNat) 20, B (bA (nth [] v2 v3.toNat) 21)]).bind fun o4 =>
 bif bA o4 0 then
 bif decide (0 <= v3) && decide (v3 < (v2.length : Int)) then
 bif gA (nth [] v2 v3.toNat) 18 != 0 then
 some (1, [I v10])
 else
 some (1, [I v8])
 else
 none
 else
 some (1, [I v8])
 else
 none
 else
 none
 else
 some (2, [.view kSgm v0, .view kPt v1, I v4, I v5, I v6, B v7, I v8, I v9, I v10]) := by kernel_rfl
theorem mf_path_Settled_eq (Qam Qca : Fn) (N5 : Lp) (x0 : Rw) : mf_path_Settled Qam Qca N5 [.view kItm x0] =
 (Qca [.view kItm x0]).bind fun o5 =>
 bif gA o5 2 != 0 then
 some [I 0]
 else
 (N5 [.view kSgm (wA o5 0), .view kPt (wA o5 1), .view kItm x0, I (IntKind.i64.wrap ((x0.length : Int) - 1)), jA o5 3, jA o5 4, jA o5 5, B (bA o5 6), jA o5 7, jA o5 8, jA o5 9]).bind fun o6 =>
 bif o6.1.beq 1 then
 some [jA o6.2 0]
 else
 bif o6.1.beq 2 then
 some [jA o6.2 6]
 else
 none := by kernel_rfl
def l_path_Settled_5 := Qby (Qfh Qb6 Qgd )
def Qkq := mf_path_Settled Qb6 Qgd l_path_Settled_5
theorem sp_path_Settled : Qar Try.prog (C_path_Settled_0 Qb6 Qgd) := Qae rfl ⟨r_path_smooth, r_path_build, trivial⟩
theorem r_path_Settled : Qbt Try.prog (52, spOf sig_path_Settled osig_path_Settled Qkq) := Qa5 (C := (C_path_Settled_1 Qb6 Qgd l_path_Settled_5)) (L := 64) (by kernel_rfl) ((FnOK.bare rfl rfl rfl).loop sp_path_Settled eqOk Qbj (by kernel_rfl) (by kernel_rfl)) sp_path_Settled eqOk Qbj (by kernel_rfl) (by kernel_rfl)
end Go.Bm
