/- functions of the program and of the references, as models -/
import Derived.Test.YtdllaekpkcanbaaMx1
set_option linter.unusedSimpArgs false
set_option linter.unusedVariables false
set_option maxRecDepth 100000
noncomputable section
namespace Go.Bm
open Go.Proofs
def sig_curve_Spokes : Sk := { tmps := [TS.v true [ci, ci, ci, ci, ci, ci, ci, ci, ci, ci, ci, ci, ci, CS.bool, ci, CS.bool, ci, ci, ci, ci, ci, CS.bool]], boxes := [], rows := [] }
def osig_curve_Spokes : Sk := { tmps := [TS.tup [(false, [CS.sl [kI, kI, kI, kI]]), (false, [CS.bool])]], boxes := [], rows := [] }
def C_curve_Spokes_0 (M_curve_cutter_piece M_wide_Sqrt M_curve_dot M_curve_ends M_curve_Valid : Fn) : Cfg := { spec := lookS [(135, spOf sig_curve_cutter_piece osig_curve_cutter_piece M_curve_cutter_piece), (134, spOf sig_wide_Sqrt osig_wide_Sqrt M_wide_Sqrt), (120, spOf sig_curve_dot osig_curve_dot M_curve_dot), (119, spOf sig_curve_ends osig_curve_ends M_curve_ends), (66, spOf sig_curve_Valid osig_curve_Valid M_curve_Valid)], eqOk := eqAll, pure := fun f => !(elemN [135] f), ownOff := ownOff, rowDst := [39] }
def mf_curve_Spokes (M_curve_cutter_piece M_wide_Sqrt M_curve_dot M_curve_ends M_curve_Valid : Fn) : Fn := modelF Try.prog (C_curve_Spokes_0 M_curve_cutter_piece M_wide_Sqrt M_curve_dot M_curve_ends M_curve_Valid) 64 92 sig_curve_Spokes osig_curve_Spokes
theorem mf_curve_Spokes_eq (M_curve_cutter_piece M_wide_Sqrt M_curve_dot M_curve_ends M_curve_Valid : Fn) (x0 x1 x2 x3 x4 x5 x6 x7 x8 x9 x10 x11 x12 : Int) (x13 : Bool) (x14 : Int) (x15 : Bool) (x16 x17 x18 x19 x20 : Int) (x21 : Bool) : mf_curve_Spokes M_curve_cutter_piece M_wide_Sqrt M_curve_dot M_curve_ends M_curve_Valid [I x0, I x1, I x2, I x3, I x4, I x5, I x6, I x7, I x8, I x9, I x10, I x11, I x12, B x13, I x14, B x15, I x16, I x17, I x18, I x19, I x20, B x21] =
 bif x0 != 3 then
 some [.view [kI, kI, kI, kI] [], B false]
 else
 (M_curve_Valid [I x0, I x1, I x2, I x3, I x4, I x5, I x6, I x7, I x8, I x9, I x10, I x11, I x12, B x13, I x14, B x15, I x16, I x17, I x18, I x19, I x20, B x21]).bind fun o7 =>
 bif !bA o7 0 then
 some [.view [kI, kI, kI, kI] [], B false]
 else
 (M_curve_ends [I x0, I x1, I x2, I x3, I x4, I x5, I x6, I x7, I x8, I x9, I x10, I x11, I x12, B x13, I x14, B x15, I x16, I x17, I x18, I x19, I x20, B x21]).bind fun o8 =>
 (M_curve_dot [jA o8 0, jA o8 1, jA o8 2, jA o8 3, jA o8 0, jA o8 1, jA o8 2, jA o8 3]).bind fun o9 =>
 (M_wide_Sqrt [jA o9 0, I 2]).bind fun o10 =>
 (M_curve_dot [jA o8 4, jA o8 5, jA o8 6, jA o8 7, jA o8 4, jA o8 5, jA o8 6, jA o8 7]).bind fun o11 =>
 (M_wide_Sqrt [jA o11 0, I 2]).bind fun o12 =>
 (M_curve_cutter_piece [.view [kI, kI, kI, kI] [[jA o8 0, jA o8 1, jA o10 0, jA o8 3]], jA o8 0, jA o8 1, jA o10 0, jA o8 3, jA o8 4, jA o8 5, jA o12 0, jA o8 7, B x13, I 0, I x12]).bind fun o13 =>
 some [.view [kI, kI, kI, kI] (wA o13 0), B true] := by kernel_rfl
def m_curve_Spokes := mf_curve_Spokes m_curve_cutter_piece m_wide_Sqrt m_curve_dot m_curve_ends m_curve_Valid 
theorem sp_curve_Spokes : SpecOK Try.prog (C_curve_Spokes_0 m_curve_cutter_piece m_wide_Sqrt m_curve_dot m_curve_ends m_curve_Valid) := specOK_of rfl ⟨r_curve_cutter_piece, r_wide_Sqrt, r_curve_dot, r_curve_ends, r_curve_Valid, trivial⟩
theorem r_curve_Spokes : RowOK Try.prog (92, spOf sig_curve_Spokes osig_curve_Spokes m_curve_Spokes) := row_of (C := (C_curve_Spokes_0 m_curve_cutter_piece m_wide_Sqrt m_curve_dot m_curve_ends m_curve_Valid)) (L := 64) (by kernel_rfl) (FnOK.bare rfl rfl rfl) sp_curve_Spokes eqOk mixOk (by kernel_rfl) (by kernel_rfl)
def sig_curve_Chords : Sk := { tmps := [TS.v true [ci, ci, ci, ci, ci, ci, ci, ci, ci, ci, ci, ci, ci, CS.bool, ci, CS.bool, ci, ci, ci, ci, ci, CS.bool]], boxes := [], rows := [] }
def osig_curve_Chords : Sk := { tmps := [TS.tup [(false, [CS.sl kPt]), (false, [CS.bool])]], boxes := [], rows := [] }
def C_curve_Chords_0 (M_curve_Space M_curve_Plane M_curve_scaled M_curve_Spokes M_curve_Valid : Fn) : Cfg := { spec := lookS [(94, spOf sig_curve_Space osig_curve_Space M_curve_Space), (67, spOf sig_curve_Plane osig_curve_Plane M_curve_Plane), (93, spOf sig_curve_scaled osig_curve_scaled M_curve_scaled), (92, spOf sig_curve_Spokes osig_curve_Spokes M_curve_Spokes), (66, spOf sig_curve_Valid osig_curve_Valid M_curve_Valid)], eqOk := eqAll, ownOff := ownOff }
def sk_curve_Chords_9 : Sk := { tmps := [td, tf [CS.ptr 1 0], td, td, td, td, tf [ci], tf [ci], td, tf [CS.own 41 3], td, td, td, td, td, td, td, td, td, td, td, td, td, td, td, td, td, td, td, td, td, td, td, td, td, td, td, td, td, td, td, td, tf [CS.sl [kI, kI, kI, kI]], tf [ci], tf [ci]] ++ dd 22, boxes := [(1, 33, [ci, ci, ci, ci, ci, ci, ci, ci, ci, ci, ci, ci, ci, CS.bool, ci, CS.bool, ci, ci, ci, ci, ci, CS.bool])], rows := [(41, 23, kPt)] }
def ex_curve_Chords_9 : List (Ex × Sk) := [(Ex.exit 0, { tmps := [td, td, td, td, td, td, td, td, td, tf [CS.own 41 3]] ++ dd 57, boxes := [], rows := [(41, 23, kPt)] })]
def st_curve_Chords_9 (M_curve_Space M_curve_Plane M_curve_scaled M_curve_Spokes M_curve_Valid : Fn) : Lp := stepL Try.prog (C_curve_Chords_0 M_curve_Space M_curve_Plane M_curve_scaled M_curve_Spokes M_curve_Valid) 64 9 (bodyOf Try.prog 41 9) sk_curve_Chords_9 ex_curve_Chords_9
def C_curve_Chords_1 (M_curve_Space M_curve_Plane M_curve_scaled M_curve_Spokes M_curve_Valid : Fn) (N9 : Lp) : Cfg := (C_curve_Chords_0 M_curve_Space M_curve_Plane M_curve_scaled M_curve_Spokes M_curve_Valid).loop 9 sk_curve_Chords_9 ex_curve_Chords_9 N9
def mf_curve_Chords (M_curve_Space M_curve_Plane M_curve_scaled M_curve_Spokes M_curve_Valid : Fn) (N9 : Lp) : Fn := modelF Try.prog (C_curve_Chords_1 M_curve_Space M_curve_Plane M_curve_scaled M_curve_Spokes M_curve_Valid N9) 64 41 sig_curve_Chords osig_curve_Chords
theorem st_curve_Chords_9_eq (M_curve_Space M_curve_Plane M_curve_scaled M_curve_Spokes M_curve_Valid : Fn) (v0 : Rw) (v1 v2 : Int) (v3 : Rw) (v4 v5 v6 v7 v8 v9 v10 v11 v12 v13 v14 v15 v16 v17 v18 : Int) (v19 : Bool) (v20 : Int) (v21 : Bool) (v22 v23 v24 v25 v26 : Int) (v27 : Bool) : st_curve_Chords_9 M_curve_Space M_curve_Plane M_curve_scaled M_curve_Spokes M_curve_Valid [.view kPt v0, I v1, I v2, .view [kI, kI, kI, kI] v3, I v4, I v5, I v6, I v7, I v8, I v9, I v10, I v11, I v12, I v13, I v14, I v15, I v16, I v17, I v18, B v19, I v20, B v21, I v22, I v23, I v24, I v25, I v26, B v27] =
 bif decide (v5 < v4) then
 bif decide (0 <= v5) && decide (v5 < (v3.length : Int)) then
 (M_curve_Space [I (IntKind.i64.wrap (v1 + gA (nth [] v3 v5.toNat) 0)), I (IntKind.i64.wrap (v2 + gA (nth [] v3 v5.toNat) 1)), jA (nth [] v3 v5.toNat) 3, I v14]).bind fun o14 =>
 bif decide (0 <= v5) && decide (v5 < (v0.length : Int)) then
 some (0, [.view kPt (v0.set v5.toNat [jA o14 0, jA o14 1, jA o14 2]), I v1, I v2, .view [kI, kI, kI, kI] v3, I v4, I (IntKind.i64.wrap (v5 + 1)), I v6, I v7, I v8, I v9, I v10, I v11, I v12, I v13, I v14, I v15, I v16, I v17, I v18, B v19, I v20, B v21, I v22, I v23, I v24, I v25, I v26, B v27])
 else
 none
 else
 none
 else
 some (1, [.view kPt v0]) := by kernel_rfl
theorem mf_curve_Chords_eq (M_curve_Space M_curve_Plane M_curve_scaled M_curve_Spokes M_curve_Valid : Fn) (N9 : Lp) (x0 x1 x2 x3 x4 x5 x6 x7 x8 x9 x10 x11 x12 : Int) (x13 : Bool) (x14 : Int) (x15 : Bool) (x16 x17 x18 x19 x20 : Int) (x21 : Bool) : mf_curve_Chords M_curve_Space M_curve_Plane M_curve_scaled M_curve_Spokes M_curve_Valid N9 [I x0, I x1, I x2, I x3, I x4, I x5, I x6, I x7, I x8, I x9, I x10, I x11, I x12, B x13, I x14, B x15, I x16, I x17, I x18, I x19, I x20, B x21] =
 (M_curve_Valid [I x0, I x1, I x2, I x3, I x4, I x5, I x6, I x7, I x8, I x9, I x10, I x11, I x12, B x13, I x14, B x15, I x16, I x17, I x18, I x19, I x20, B x21]).bind fun o15 =>
 bif !bA o15 0 then
 some [.view kPt [], B false]
 else
 (M_curve_Spokes [I x0, I x1, I x2, I x3, I x4, I x5, I x6, I x7, I x8, I x9, I x10, I x11, I x12, B x13, I x14, B x15, I x16, I x17, I x18, I x19, I x20, B x21]).bind fun o16 =>
 bif !bA o16 1 then
 (M_curve_scaled [I x2, I x3, I x4]).bind fun o17 =>
 (M_curve_scaled [I x5, I x6, I x7]).bind fun o18 =>
 some [.view kPt [[jA o17 0, jA o17 1, jA o17 2], [jA o18 0, jA o18 1, jA o18 2]], B true]
 else
 (M_curve_scaled [I x9, I x10, I x11]).bind fun o19 =>
 (M_curve_Plane [jA o19 0, jA o19 1, jA o19 2, I x8]).bind fun o20 =>
 bif decide ((↑(wA o16 0).length : Int) = (↑(wA o16 0).length : Int)) then
 bif decide (0 <= (↑(wA o16 0).length : Int)) && decide ((↑(wA o16 0).length : Int) * (↑24 : Int) <= 140737488355328) then
 (N9 [.view kPt (List.replicate (↑(wA o16 0).length : Int).toNat [I 0, I 0, I 0]), jA o20 0, jA o20 1, .view [kI, kI, kI, kI] (wA o16 0), I (↑(wA o16 0).length : Int), I 0, I x0, I x1, I x2, I x3, I x4, I x5, I x6, I x7, I x8, I x9, I x10, I x11, I x12, B x13, I x14, B x15, I x16, I x17, I x18, I x19, I x20, B x21]).bind fun o21 =>
 bif o21.1.beq 1 then
 some [.view kPt (wA o21.2 0), B true]
 else
 none
 else
 none
 else
 none := by kernel_rfl
def l_curve_Chords_9 := loopC (st_curve_Chords_9 m_curve_Space m_curve_Plane m_curve_scaled m_curve_Spokes m_curve_Valid )
def m_curve_Chords := mf_curve_Chords m_curve_Space m_curve_Plane m_curve_scaled m_curve_Spokes m_curve_Valid l_curve_Chords_9
theorem sp_curve_Chords : SpecOK Try.prog (C_curve_Chords_0 m_curve_Space m_curve_Plane m_curve_scaled m_curve_Spokes m_curve_Valid) := specOK_of rfl ⟨r_curve_Space, r_curve_Plane, r_curve_scaled, r_curve_Spokes, r_curve_Valid, trivial⟩
theorem r_curve_Chords : RowOK Try.prog (41, spOf sig_curve_Chords osig_curve_Chords m_curve_Chords) := row_of (C := (C_curve_Chords_1 m_curve_Space m_curve_Plane m_curve_scaled m_curve_Spokes m_curve_Valid l_curve_Chords_9)) (L := 64) (by kernel_rfl) ((FnOK.bare rfl rfl rfl).loop sp_curve_Chords eqOk mixOk (by kernel_rfl) (by kernel_rfl)) sp_curve_Chords eqOk mixOk (by kernel_rfl) (by kernel_rfl)
def sig_path_points : Sk := { tmps := [tf [CS.sl kItm], tf [ci], tf [ci]], boxes := [], rows := [] }
def osig_path_points : Sk := { tmps := [tf [CS.sl kPt]], boxes := [], rows := [] }
def C_path_points_0 (M_path_middle M_path_next M_path_soft M_path_corner M_path_smooth M_curve_Chords : Fn) : Cfg := { spec := lookS [(162, spOf sig_path_middle osig_path_middle M_path_middle), (139, spOf sig_path_next osig_path_next M_path_next), (138, spOf sig_path_soft osig_path_soft M_path_soft), (176, spOf sig_path_corner osig_path_corner M_path_corner), (102, spOf sig_path_smooth osig_path_smooth M_path_smooth), (41, spOf sig_curve_Chords osig_curve_Chords M_curve_Chords)], eqOk := eqAll, ownOff := ownOff }
def mf_path_points (M_path_middle M_path_next M_path_soft M_path_corner M_path_smooth M_curve_Chords : Fn) : Fn := modelF Try.prog (C_path_points_0 M_path_middle M_path_next M_path_soft M_path_corner M_path_smooth M_curve_Chords) 64 160 sig_path_points osig_path_points
theorem mf_path_points_eq (M_path_middle M_path_next M_path_soft M_path_corner M_path_smooth M_curve_Chords : Fn) (x0 : Rw) (x1 x2 : Int) : mf_path_points M_path_middle M_path_next M_path_soft M_path_corner M_path_smooth M_curve_Chords [.view kItm x0, I x1, I x2] =
 bif decide (0 <= x1) && decide (x1 < (x0.length : Int)) then
 (M_curve_Chords [jA (nth [] x0 x1.toNat) 0, jA (nth [] x0 x1.toNat) 1, jA (nth [] x0 x1.toNat) 2, jA (nth [] x0 x1.toNat) 3, jA (nth [] x0 x1.toNat) 4, jA (nth [] x0 x1.toNat) 5, jA (nth [] x0 x1.toNat) 6, jA (nth [] x0 x1.toNat) 7, jA (nth [] x0 x1.toNat) 8, jA (nth [] x0 x1.toNat) 9, jA (nth [] x0 x1.toNat) 10, jA (nth [] x0 x1.toNat) 11, jA (nth [] x0 x1.toNat) 12, B (bA (nth [] x0 x1.toNat) 13), jA (nth [] x0 x1.toNat) 14, B (bA (nth [] x0 x1.toNat) 15), jA (nth [] x0 x1.toNat) 16, jA (nth [] x0 x1.toNat) 17, jA (nth [] x0 x1.toNat) 18, jA (nth [] x0 x1.toNat) 19, jA (nth [] x0 x1.toNat) 20, B (bA (nth [] x0 x1.toNat) 21)]).bind fun o13 =>
 (M_path_smooth [jA (nth [] x0 x1.toNat) 0, jA (nth [] x0 x1.toNat) 1, jA (nth [] x0 x1.toNat) 2, jA (nth [] x0 x1.toNat) 3, jA (nth [] x0 x1.toNat) 4, jA (nth [] x0 x1.toNat) 5, jA (nth [] x0 x1.toNat) 6, jA (nth [] x0 x1.toNat) 7, jA (nth [] x0 x1.toNat) 8, jA (nth [] x0 x1.toNat) 9, jA (nth [] x0 x1.toNat) 10, jA (nth [] x0 x1.toNat) 11, jA (nth [] x0 x1.toNat) 12, B (bA (nth [] x0 x1.toNat) 13), jA (nth [] x0 x1.toNat) 14, B (bA (nth [] x0 x1.toNat) 15), jA (nth [] x0 x1.toNat) 16, jA (nth [] x0 x1.toNat) 17, jA (nth [] x0 x1.toNat) 18, jA (nth [] x0 x1.toNat) 19, jA (nth [] x0 x1.toNat) 20, B (bA (nth [] x0 x1.toNat) 21)]).bind fun o14 =>
 bif !bA o14 0 then
 some [.view kPt (wA o13 0)]
 else
 bif decide (0 <= 1) && decide (1 <= (↑(wA o13 0).length : Int)) then
 bif decide (0 <= IntKind.i64.wrap ((↑(wA o13 0).length : Int) - 1)) && decide (IntKind.i64.wrap ((↑(wA o13 0).length : Int) - 1) <= (↑(wA o13 0).length : Int)) then
 bif decide (x2 >= 0) then
 bif decide (0 <= x2) && decide (x2 < (x0.length : Int)) then
 (M_path_corner [jA (nth [] x0 x2.toNat) 0, jA (nth [] x0 x2.toNat) 1, jA (nth [] x0 x2.toNat) 2, jA (nth [] x0 x2.toNat) 3, jA (nth [] x0 x2.toNat) 4, jA (nth [] x0 x2.toNat) 5, jA (nth [] x0 x2.toNat) 6, jA (nth [] x0 x2.toNat) 7, jA (nth [] x0 x2.toNat) 8, jA (nth [] x0 x2.toNat) 9, jA (nth [] x0 x2.toNat) 10, jA (nth [] x0 x2.toNat) 11, jA (nth [] x0 x2.toNat) 12, B (bA (nth [] x0 x2.toNat) 13), jA (nth [] x0 x2.toNat) 14, B (bA (nth [] x0 x2.toNat) 15), jA (nth [] x0 x2.toNat) 16, jA (nth [] x0 x2.toNat) 17, jA (nth [] x0 x2.toNat) 18, jA (nth [] x0 x2.toNat) 19, jA (nth [] x0 x2.toNat) 20, B (bA (nth [] x0 x2.toNat) 21), jA (nth [] x0 x1.toNat) 0, jA (nth [] x0 x1.toNat) 1, jA (nth [] x0 x1.toNat) 2, jA (nth [] x0 x1.toNat) 3, jA (nth [] x0 x1.toNat) 4, jA (nth [] x0 x1.toNat) 5, jA (nth [] x0 x1.toNat) 6, jA (nth [] x0 x1.toNat) 7, jA (nth [] x0 x1.toNat) 8, jA (nth [] x0 x1.toNat) 9, jA (nth [] x0 x1.toNat) 10, jA (nth [] x0 x1.toNat) 11, jA (nth [] x0 x1.toNat) 12, B (bA (nth [] x0 x1.toNat) 13), jA (nth [] x0 x1.toNat) 14, B (bA (nth [] x0 x1.toNat) 15), jA (nth [] x0 x1.toNat) 16, jA (nth [] x0 x1.toNat) 17, jA (nth [] x0 x1.toNat) 18, jA (nth [] x0 x1.toNat) 19, jA (nth [] x0 x1.toNat) 20, B (bA (nth [] x0 x1.toNat) 21)]).bind fun o15 =>
 (M_path_soft [.view kItm x0, I x1]).bind fun o16 =>
 bif bA o16 0 then
 (M_path_next [.view kItm x0, I x1]).bind fun o17 =>
 bif decide (0 <= gA o17 0) && decide (gA o17 0 < (x0.length : Int)) then
 (M_path_corner [jA (nth [] x0 x1.toNat) 0, jA (nth [] x0 x1.toNat) 1, jA (nth [] x0 x1.toNat) 2, jA (nth [] x0 x1.toNat) 3, jA (nth [] x0 x1.toNat) 4, jA (nth [] x0 x1.toNat) 5, jA (nth [] x0 x1.toNat) 6, jA (nth [] x0 x1.toNat) 7, jA (nth [] x0 x1.toNat) 8, jA (nth [] x0 x1.toNat) 9, jA (nth [] x0 x1.toNat) 10, jA (nth [] x0 x1.toNat) 11, jA (nth [] x0 x1.toNat) 12, B (bA (nth [] x0 x1.toNat) 13), jA (nth [] x0 x1.toNat) 14, B (bA (nth [] x0 x1.toNat) 15), jA (nth [] x0 x1.toNat) 16, jA (nth [] x0 x1.toNat) 17, jA (nth [] x0 x1.toNat) 18, jA (nth [] x0 x1.toNat) 19, jA (nth [] x0 x1.toNat) 20, B (bA (nth [] x0 x1.toNat) 21), jA (nth [] x0 (gA o17 0).toNat) 0, jA (nth [] x0 (gA o17 0).toNat) 1, jA (nth [] x0 (gA o17 0).toNat) 2, jA (nth [] x0 (gA o17 0).toNat) 3, jA (nth [] x0 (gA o17 0).toNat) 4, jA (nth [] x0 (gA o17 0).toNat) 5, jA (nth [] x0 (gA o17 0).toNat) 6, jA (nth [] x0 (gA o17 0).toNat) 7, jA (nth [] x0 (gA o17 0).toNat) 8, jA (nth [] x0 (gA o17 0).toNat) 9, jA (nth [] x0 (gA o17 0).toNat) 10, jA (nth [] x0 (gA o17 0).toNat) 11, jA (nth [] x0 (gA o17 0).toNat) 12, B (bA (nth [] x0 (gA o17 0).toNat) 13), jA (nth [] x0 (gA o17 0).toNat) 14, B (bA (nth [] x0 (gA o17 0).toNat) 15), jA (nth [] x0 (gA o17 0).toNat) 16, jA (nth [] x0 (gA o17 0).toNat) 17, jA (nth [] x0 (gA o17 0).toNat) 18, jA (nth [] x0 (gA o17 0).toNat) 19, jA (nth [] x0 (gA o17 0).toNat) 20, B (bA (nth [] x0 (gA o17 0).toNat) 21)]).bind fun o18 =>
 bif (([] ++ wA o15 1).length * 24).ble 140737488355328 then
 (M_path_middle [jA (nth [] x0 x1.toNat) 0, jA (nth [] x0 x1.toNat) 1, jA (nth [] x0 x1.toNat) 2, jA (nth [] x0 x1.toNat) 3, jA (nth [] x0 x1.toNat) 4, jA (nth [] x0 x1.toNat) 5, jA (nth [] x0 x1.toNat) 6, jA (nth [] x0 x1.toNat) 7, jA (nth [] x0 x1.toNat) 8, jA (nth [] x0 x1.toNat) 9, jA (nth [] x0 x1.toNat) 10, jA (nth [] x0 x1.toNat) 11, jA (nth [] x0 x1.toNat) 12, B (bA (nth [] x0 x1.toNat) 13), jA (nth [] x0 x1.toNat) 14, B (bA (nth [] x0 x1.toNat) 15), jA (nth [] x0 x1.toNat) 16, jA (nth [] x0 x1.toNat) 17, jA (nth [] x0 x1.toNat) 18, jA (nth [] x0 x1.toNat) 19, jA (nth [] x0 x1.toNat) 20, B (bA (nth [] x0 x1.toNat) 21)]).bind fun o19 =>
 bif (([] ++ wA o15 1 ++ [[jA o19 0, jA o19 1, jA o19 2]]).length * 24).ble 140737488355328 then
 bif (([] ++ wA o15 1 ++ [[jA o19 0, jA o19 1, jA o19 2]] ++ wA o18 0).length * 24).ble 140737488355328 then
 some [.view kPt ([] ++ wA o15 1 ++ [[jA o19 0, jA o19 1, jA o19 2]] ++ wA o18 0)]
 else
 none
 else
 none
 else
 none
 else
 none
 else
 bif (([] ++ wA o15 1).length * 24).ble 140737488355328 then
 (M_path_middle [jA (nth [] x0 x1.toNat) 0, jA (nth [] x0 x1.toNat) 1, jA (nth [] x0 x1.toNat) 2, jA (nth [] x0 x1.toNat) 3, jA (nth [] x0 x1.toNat) 4, jA (nth [] x0 x1.toNat) 5, jA (nth [] x0 x1.toNat) 6, jA (nth [] x0 x1.toNat) 7, jA (nth [] x0 x1.toNat) 8, jA (nth [] x0 x1.toNat) 9, jA (nth [] x0 x1.toNat) 10, jA (nth [] x0 x1.toNat) 11, jA (nth [] x0 x1.toNat) 12, B (bA (nth [] x0 x1.toNat) 13), jA (nth [] x0 x1.toNat) 14, B (bA (nth [] x0 x1.toNat) 15), jA (nth [] x0 x1.toNat) 16, jA (nth [] x0 x1.toNat) 17, jA (nth [] x0 x1.toNat) 18, jA (nth [] x0 x1.toNat) 19, jA (nth [] x0 x1.toNat) 20, B (bA (nth [] x0 x1.toNat) 21)]).bind fun o20 =>
 bif (([] ++ wA o15 1 ++ [[jA o20 0, jA o20 1, jA o20 2]]).length * 24).ble 140737488355328 then
 bif (([] ++ wA o15 1 ++ [[jA o20 0, jA o20 1, jA o20 2]] ++ List.drop (IntKind.i64.wrap ((↑(wA o13 0).length : Int) - 1)).toNat (wA o13 0)).length * 24).ble 140737488355328 then
 some [.view kPt ([] ++ wA o15 1 ++ [[jA o20 0, jA o20 1, jA o20 2]] ++ List.drop (IntKind.i64.wrap ((↑(wA o13 0).length : Int) - 1)).toNat (wA o13 0))]
 else
 none
 else
 none
 else
 none
 else
 none
 else
 (M_path_soft [.view kItm x0, I x1]).bind fun o21 =>
 bif bA o21 0 then
 (M_path_next [.view kItm x0, I x1]).bind fun o22 =>
 bif decide (0 <= gA o22 0) && decide (gA o22 0 < (x0.length : Int)) then
 (M_path_corner [jA (nth [] x0 x1.toNat) 0, jA (nth [] x0 x1.toNat) 1, jA (nth [] x0 x1.toNat) 2, jA (nth [] x0 x1.toNat) 3, jA (nth [] x0 x1.toNat) 4, jA (nth [] x0 x1.toNat) 5, jA (nth [] x0 x1.toNat) 6, jA (nth [] x0 x1.toNat) 7, jA (nth [] x0 x1.toNat) 8, jA (nth [] x0 x1.toNat) 9, jA (nth [] x0 x1.toNat) 10, jA (nth [] x0 x1.toNat) 11, jA (nth [] x0 x1.toNat) 12, B (bA (nth [] x0 x1.toNat) 13), jA (nth [] x0 x1.toNat) 14, B (bA (nth [] x0 x1.toNat) 15), jA (nth [] x0 x1.toNat) 16, jA (nth [] x0 x1.toNat) 17, jA (nth [] x0 x1.toNat) 18, jA (nth [] x0 x1.toNat) 19, jA (nth [] x0 x1.toNat) 20, B (bA (nth [] x0 x1.toNat) 21), jA (nth [] x0 (gA o22 0).toNat) 0, jA (nth [] x0 (gA o22 0).toNat) 1, jA (nth [] x0 (gA o22 0).toNat) 2, jA (nth [] x0 (gA o22 0).toNat) 3, jA (nth [] x0 (gA o22 0).toNat) 4, jA (nth [] x0 (gA o22 0).toNat) 5, jA (nth [] x0 (gA o22 0).toNat) 6, jA (nth [] x0 (gA o22 0).toNat) 7, jA (nth [] x0 (gA o22 0).toNat) 8, jA (nth [] x0 (gA o22 0).toNat) 9, jA (nth [] x0 (gA o22 0).toNat) 10, jA (nth [] x0 (gA o22 0).toNat) 11, jA (nth [] x0 (gA o22 0).toNat) 12, B (bA (nth [] x0 (gA o22 0).toNat) 13), jA (nth [] x0 (gA o22 0).toNat) 14, B (bA (nth [] x0 (gA o22 0).toNat) 15), jA (nth [] x0 (gA o22 0).toNat) 16, jA (nth [] x0 (gA o22 0).toNat) 17, jA (nth [] x0 (gA o22 0).toNat) 18, jA (nth [] x0 (gA o22 0).toNat) 19, jA (nth [] x0 (gA o22 0).toNat) 20, B (bA (nth [] x0 (gA o22 0).toNat) 21)]).bind fun o23 =>
 bif (([] ++ List.take (Int.toNat 1) (wA o13 0)).length * 24).ble 140737488355328 then
 (M_path_middle [jA (nth [] x0 x1.toNat) 0, jA (nth [] x0 x1.toNat) 1, jA (nth [] x0 x1.toNat) 2, jA (nth [] x0 x1.toNat) 3, jA (nth [] x0 x1.toNat) 4, jA (nth [] x0 x1.toNat) 5, jA (nth [] x0 x1.toNat) 6, jA (nth [] x0 x1.toNat) 7, jA (nth [] x0 x1.toNat) 8, jA (nth [] x0 x1.toNat) 9, jA (nth [] x0 x1.toNat) 10, jA (nth [] x0 x1.toNat) 11, jA (nth [] x0 x1.toNat) 12, B (bA (nth [] x0 x1.toNat) 13), jA (nth [] x0 x1.toNat) 14, B (bA (nth [] x0 x1.toNat) 15), jA (nth [] x0 x1.toNat) 16, jA (nth [] x0 x1.toNat) 17, jA (nth [] x0 x1.toNat) 18, jA (nth [] x0 x1.toNat) 19, jA (nth [] x0 x1.toNat) 20, B (bA (nth [] x0 x1.toNat) 21)]).bind fun o24 =>
 bif (([] ++ List.take (Int.toNat 1) (wA o13 0) ++ [[jA o24 0, jA o24 1, jA o24 2]]).length * 24).ble 140737488355328 then
 bif (([] ++ List.take (Int.toNat 1) (wA o13 0) ++ [[jA o24 0, jA o24 1, jA o24 2]] ++ wA o23 0).length * 24).ble 140737488355328 then
 some [.view kPt ([] ++ List.take (Int.toNat 1) (wA o13 0) ++ [[jA o24 0, jA o24 1, jA o24 2]] ++ wA o23 0)]
 else
 none
 else
 none
 else
 none
 else
 none
 else
 bif (([] ++ List.take (Int.toNat 1) (wA o13 0)).length * 24).ble 140737488355328 then
 (M_path_middle [jA (nth [] x0 x1.toNat) 0, jA (nth [] x0 x1.toNat) 1, jA (nth [] x0 x1.toNat) 2, jA (nth [] x0 x1.toNat) 3, jA (nth [] x0 x1.toNat) 4, jA (nth [] x0 x1.toNat) 5, jA (nth [] x0 x1.toNat) 6, jA (nth [] x0 x1.toNat) 7, jA (nth [] x0 x1.toNat) 8, jA (nth [] x0 x1.toNat) 9, jA (nth [] x0 x1.toNat) 10, jA (nth [] x0 x1.toNat) 11, jA (nth [] x0 x1.toNat) 12, B (bA (nth [] x0 x1.toNat) 13), jA (nth [] x0 x1.toNat) 14, B (bA (nth [] x0 x1.toNat) 15), jA (nth [] x0 x1.toNat) 16, jA (nth [] x0 x1.toNat) 17, jA (nth [] x0 x1.toNat) 18, jA (nth [] x0 x1.toNat) 19, jA (nth [] x0 x1.toNat) 20, B (bA (nth [] x0 x1.toNat) 21)]).bind fun o25 =>
 bif (([] ++ List.take (Int.toNat 1) (wA o13 0) ++ [[jA o25 0, jA o25 1, jA o25 2]]).length * 24).ble 140737488355328 then
 bif (([] ++ List.take (Int.toNat 1) (wA o13 0) ++ [[jA o25 0, jA o25 1, jA o25 2]] ++ List.drop (IntKind.i64.wrap ((↑(wA o13 0).length : Int) - 1)).toNat (wA o13 0)).length * 24).ble 140737488355328 then
 some [.view kPt ([] ++ List.take (Int.toNat 1) (wA o13 0) ++ [[jA o25 0, jA o25 1, jA o25 2]] ++ List.drop (IntKind.i64.wrap ((↑(wA o13 0).length : Int) - 1)).toNat (wA o13 0))]
 else
 none
 else
 none
 else
 none
 else
 none
 else
 none
 else
 none := by kernel_rfl
def m_path_points := mf_path_points m_path_middle m_path_next m_path_soft m_path_corner m_path_smooth m_curve_Chords 
theorem sp_path_points : SpecOK Try.prog (C_path_points_0 m_path_middle m_path_next m_path_soft m_path_corner m_path_smooth m_curve_Chords) := specOK_of rfl ⟨r_path_middle, r_path_next, r_path_soft, r_path_corner, r_path_smooth, r_curve_Chords, trivial⟩
theorem r_path_points : RowOK Try.prog (160, spOf sig_path_points osig_path_points m_path_points) := row_of (C := (C_path_points_0 m_path_middle m_path_next m_path_soft m_path_corner m_path_smooth m_curve_Chords)) (L := 64) (by kernel_rfl) (FnOK.bare rfl rfl rfl) sp_path_points eqOk mixOk (by kernel_rfl) (by kernel_rfl)
def sig_path_Rate : Sk := { tmps := [TS.v true [ci, ci, ci, ci, ci, ci, ci, ci, ci, ci, ci, ci, ci, CS.bool, ci, CS.bool, ci, ci, ci, ci, ci, CS.bool], tf [ci]], boxes := [], rows := [] }
def osig_path_Rate : Sk := { tmps := [tf [ci]], boxes := [], rows := [] }
def C_path_Rate_0 (M_wide_MulDiv : Fn) : Cfg := { spec := lookS [(98, spOf sig_wide_MulDiv osig_wide_MulDiv M_wide_MulDiv)], eqOk := eqAll, ownOff := ownOff }
def mf_path_Rate (M_wide_MulDiv : Fn) : Fn := modelF Try.prog (C_path_Rate_0 M_wide_MulDiv) 64 50 sig_path_Rate osig_path_Rate
theorem mf_path_Rate_eq (M_wide_MulDiv : Fn) (x0 x1 x2 x3 x4 x5 x6 x7 x8 x9 x10 x11 x12 : Int) (x13 : Bool) (x14 : Int) (x15 : Bool) (x16 x17 x18 x19 x20 : Int) (x21 : Bool) (x22 : Int) : mf_path_Rate M_wide_MulDiv [I x0, I x1, I x2, I x3, I x4, I x5, I x6, I x7, I x8, I x9, I x10, I x11, I x12, B x13, I x14, B x15, I x16, I x17, I x18, I x19, I x20, B x21, I x22] =
 bif x0 == 1 then
 some [I 0]
 else
 bif x15 then
 (M_wide_MulDiv [I (mn (IntKind.i64.wrap (x14 * mx x22 1)) 60000000), I 4096, I 60000, I 2]).bind fun o2 =>
 some [I (mx (gA o2 0) 1)]
 else
 (M_wide_MulDiv [I (mn x14 60000000), I 4096, I 60000, I 2]).bind fun o3 =>
 some [I (mx (gA o3 0) 1)] := by kernel_rfl
def m_path_Rate := mf_path_Rate m_wide_MulDiv 
theorem sp_path_Rate : SpecOK Try.prog (C_path_Rate_0 m_wide_MulDiv) := specOK_of rfl ⟨r_wide_MulDiv, trivial⟩
theorem r_path_Rate : RowOK Try.prog (50, spOf sig_path_Rate osig_path_Rate m_path_Rate) := row_of (C := (C_path_Rate_0 m_wide_MulDiv)) (L := 64) (by kernel_rfl) (FnOK.bare rfl rfl rfl) sp_path_Rate eqOk mixOk (by kernel_rfl) (by kernel_rfl)
def sig_path_builder_move : Sk := { tmps := [tf [CS.ptr 20000 0], tf [CS.sl kItm], tf [ci], tf [ci]], boxes := [(20000, 125, [ci, ci, ci, CS.own 20000 7, CS.own 20001 3, CS.bool, ci, ci, ci])], rows := [(20000, 74, kSgm), (20001, 79, kPt)] }
def osig_path_builder_move : Sk := { tmps := [tf [CS.bool]], boxes := [(20000, 125, [ci, ci, ci, CS.own 20000 7, CS.own 20001 3, CS.bool, ci, ci, ci])], rows := [(20000, 74, kSgm), (20001, 79, kPt)] }
def C_path_builder_move_0 (M_path_middle M_path_smooth M_path_builder_add M_path_points M_path_geared M_path_Rate : Fn) : Cfg := { spec := lookS [(162, spOf sig_path_middle osig_path_middle M_path_middle), (102, spOf sig_path_smooth osig_path_smooth M_path_smooth), (161, spOf sig_path_builder_add osig_path_builder_add M_path_builder_add), (160, spOf sig_path_points osig_path_points M_path_points), (159, spOf sig_path_geared osig_path_geared M_path_geared), (50, spOf sig_path_Rate osig_path_Rate M_path_Rate)], eqOk := eqAll, pure := fun f => !(elemN [161] f), ownOff := ownOff }
def sk_path_builder_move_6 : Sk := { tmps := [tf [CS.ptr 20000 0], td, td, td, td, td, td, td, td, tf [CS.ptr 9 0], tf [CS.ptr 10 0], td, td, td, td, td, td, td, td, td, td, td, td, td, td, td, td, td, td, td, td, td, td, td, td, tf [CS.sl kPt], tf [ci], tf [ci]] ++ dd 30, boxes := [(9, 33, [ci, ci, ci, ci, ci, ci, ci, ci, ci, ci, ci, ci, ci, CS.bool, ci, CS.bool, ci, ci, ci, ci, ci, CS.bool]), (10, 74, [ci, ci, ci, ci, ci, ci, ci]), (20000, 125, [ci, ci, ci, CS.own 20000 7, CS.own 20001 3, CS.bool, ci, ci, ci])], rows := [(20000, 74, kSgm), (20001, 79, kPt)] }
def ex_path_builder_move_6 : List (Ex × Sk) := [(Ex.exit 0, { tmps := [tf [CS.ptr 20000 0]] ++ dd 67, boxes := [(20000, 125, [ci, ci, ci, CS.own 20000 7, CS.own 20001 3, CS.bool, ci, ci, ci])], rows := [(20000, 74, kSgm), (20001, 79, kPt)] })]
def st_path_builder_move_6 (M_path_middle M_path_smooth M_path_builder_add M_path_points M_path_geared M_path_Rate : Fn) : Lp := stepL Try.prog (C_path_builder_move_0 M_path_middle M_path_smooth M_path_builder_add M_path_points M_path_geared M_path_Rate) 64 6 (bodyOf Try.prog 140 6) sk_path_builder_move_6 ex_path_builder_move_6
def C_path_builder_move_1 (M_path_middle M_path_smooth M_path_builder_add M_path_points M_path_geared M_path_Rate : Fn) (N6 : Lp) : Cfg := (C_path_builder_move_0 M_path_middle M_path_smooth M_path_builder_add M_path_points M_path_geared M_path_Rate).loop 6 sk_path_builder_move_6 ex_path_builder_move_6 N6
def mf_path_builder_move (M_path_middle M_path_smooth M_path_builder_add M_path_points M_path_geared M_path_Rate : Fn) (N6 : Lp) : Fn := modelF Try.prog (C_path_builder_move_1 M_path_middle M_path_smooth M_path_builder_add M_path_points M_path_geared M_path_Rate N6) 64 140 sig_path_builder_move osig_path_builder_move
theorem st_path_builder_move_6_eq (M_path_middle M_path_smooth M_path_builder_add M_path_points M_path_geared M_path_Rate : Fn) (v0 v1 v2 : Rw) (v3 v4 v5 v6 v7 v8 v9 v10 v11 v12 v13 v14 v15 v16 v17 : Int) (v18 : Bool) (v19 : Int) (v20 : Bool) (v21 v22 v23 v24 v25 : Int) (v26 : Bool) (v27 v28 v29 v30 v31 v32 v33 v34 v35 v36 : Int) (v37 : Bool) (v38 v39 v40 : Int) : st_path_builder_move_6 M_path_middle M_path_smooth M_path_builder_add M_path_points M_path_geared M_path_Rate [.view kSgm v0, .view kPt v1, .view kPt v2, I v3, I v4, I v5, I v6, I v7, I v8, I v9, I v10, I v11, I v12, I v13, I v14, I v15, I v16, I v17, B v18, I v19, B v20, I v21, I v22, I v23, I v24, I v25, B v26, I v27, I v28, I v29, I v30, I v31, I v32, I v33, I v34, I v35, I v36, B v37, I v38, I v39, I v40] =
 bif decide (v4 < v3) then
 bif decide (0 <= v4) && decide (v4 < (v2.length : Int)) then
 (M_path_builder_add [.view kSgm v0, .view kPt v1, jA (nth [] v2 v4.toNat) 0, jA (nth [] v2 v4.toNat) 1, jA (nth [] v2 v4.toNat) 2, I v27, I v28, I v29, I v30, I v31, I v32, I v33, I v34, I v35, I v36, B v37, I v38, I v39, I v40]).bind fun o12 =>
 (M_path_smooth [I v5, I v6, I v7, I v8, I v9, I v10, I v11, I v12, I v13, I v14, I v15, I v16, I v17, B v18, I v19, B v20, I v21, I v22, I v23, I v24, I v25, B v26]).bind fun o13 =>
 bif bA o13 0 then
 (M_path_middle [I v5, I v6, I v7, I v8, I v9, I v10, I v11, I v12, I v13, I v14, I v15, I v16, I v17, B v18, I v19, B v20, I v21, I v22, I v23, I v24, I v25, B v26]).bind fun o14 =>
 bif gA (nth [] v2 v4.toNat) 0 == gA o14 0 && (gA (nth [] v2 v4.toNat) 1 == gA o14 1 && (gA (nth [] v2 v4.toNat) 2 == gA o14 2 && true)) then
 some (0, [.view kSgm (wA o12 0), .view kPt (wA o12 1), .view kPt v2, I v3, I (IntKind.i64.wrap (v4 + 1)), I v5, I v6, I v7, I v8, I v9, I v10, I v11, I v12, I v13, I v14, I v15, I v16, I v17, B v18, I v19, B v20, I v21, I v22, I v23, I v24, I v25, B v26, I v27, I v28, I v29, I v30, I v31, I v32, I v33, jA o12 2, jA o12 3, jA o12 4, B (bA o12 5), jA o12 6, jA o12 7, jA o12 6])
 else
 some (0, [.view kSgm (wA o12 0), .view kPt (wA o12 1), .view kPt v2, I v3, I (IntKind.i64.wrap (v4 + 1)), I v5, I v6, I v7, I v8, I v9, I v10, I v11, I v12, I v13, I v14, I v15, I v16, I v17, B v18, I v19, B v20, I v21, I v22, I v23, I v24, I v25, B v26, I v27, I v28, I v29, I v30, I v31, I v32, I v33, jA o12 2, jA o12 3, jA o12 4, B (bA o12 5), jA o12 6, jA o12 7, jA o12 8])
 else
 some (0, [.view kSgm (wA o12 0), .view kPt (wA o12 1), .view kPt v2, I v3, I (IntKind.i64.wrap (v4 + 1)), I v5, I v6, I v7, I v8, I v9, I v10, I v11, I v12, I v13, I v14, I v15, I v16, I v17, B v18, I v19, B v20, I v21, I v22, I v23, I v24, I v25, B v26, I v27, I v28, I v29, I v30, I v31, I v32, I v33, jA o12 2, jA o12 3, jA o12 4, B (bA o12 5), jA o12 6, jA o12 7, jA o12 8])
 else
 none
 else
 some (1, [.view kSgm v0, .view kPt v1, I v34, I v35, I v36, B v37, I v38, I v39, I v40]) := by kernel_rfl
abbrev g_path_builder_move_1 (M_path_points : Fn) (x2 : Rw) (x3 x4 : Int) (N6 : Lp) (x0 x1 : Rw) (o15 : List AC) (x5 x6 x7 : Int) (x8 : Bool) (x9 x10 x11 : Int) (h1_0 : AC) : Option (List AC) :=
 (M_path_points [.view kItm x2, I x3, I x4]).bind fun o17 =>
 (N6 [.view kSgm x0, .view kPt x1, .view kPt (wA o17 0), I (↑(wA o17 0).length : Int), I 0, jA (nth [] x2 x3.toNat) 0, jA (nth [] x2 x3.toNat) 1, jA (nth [] x2 x3.toNat) 2, jA (nth [] x2 x3.toNat) 3, jA (nth [] x2 x3.toNat) 4, jA (nth [] x2 x3.toNat) 5, jA (nth [] x2 x3.toNat) 6, jA (nth [] x2 x3.toNat) 7, jA (nth [] x2 x3.toNat) 8, jA (nth [] x2 x3.toNat) 9, jA (nth [] x2 x3.toNat) 10, jA (nth [] x2 x3.toNat) 11, jA (nth [] x2 x3.toNat) 12, B (bA (nth [] x2 x3.toNat) 13), jA (nth [] x2 x3.toNat) 14, B (bA (nth [] x2 x3.toNat) 15), jA (nth [] x2 x3.toNat) 16, jA (nth [] x2 x3.toNat) 17, jA (nth [] x2 x3.toNat) 18, jA (nth [] x2 x3.toNat) 19, jA (nth [] x2 x3.toNat) 20, B (bA (nth [] x2 x3.toNat) 21), I 0, I 0, I 0, I 0, I x3, jA o15 0, h1_0, I x5, I x6, I x7, B x8, I x9, I x10, I x11]).bind fun o18 =>
 bif o18.1.beq 1 then
 some [.view kSgm (wA o18.2 0), .view kPt (wA o18.2 1), B (decide ((↑(wA o18.2 0).length : Int) <= 1048576)), jA o18.2 2, jA o18.2 3, jA o18.2 4, B (bA o18.2 5), jA o18.2 6, jA o18.2 7, jA o18.2 8]
 else
 none
attribute [go_sem] g_path_builder_move_1
theorem mf_path_builder_move_eq (M_path_middle M_path_smooth M_path_builder_add M_path_points M_path_geared M_path_Rate : Fn) (N6 : Lp) (x0 x1 x2 : Rw) (x3 x4 x5 x6 x7 : Int) (x8 : Bool) (x9 x10 x11 : Int) : mf_path_builder_move M_path_middle M_path_smooth M_path_builder_add M_path_points M_path_geared M_path_Rate N6 [.view kSgm x0, .view kPt x1, .view kItm x2, I x3, I x4, I x5, I x6, I x7, B x8, I x9, I x10, I x11] =
 bif decide (0 <= x3) && decide (x3 < (x2.length : Int)) then
 (M_path_Rate [jA (nth [] x2 x3.toNat) 0, jA (nth [] x2 x3.toNat) 1, jA (nth [] x2 x3.toNat) 2, jA (nth [] x2 x3.toNat) 3, jA (nth [] x2 x3.toNat) 4, jA (nth [] x2 x3.toNat) 5, jA (nth [] x2 x3.toNat) 6, jA (nth [] x2 x3.toNat) 7, jA (nth [] x2 x3.toNat) 8, jA (nth [] x2 x3.toNat) 9, jA (nth [] x2 x3.toNat) 10, jA (nth [] x2 x3.toNat) 11, jA (nth [] x2 x3.toNat) 12, B (bA (nth [] x2 x3.toNat) 13), jA (nth [] x2 x3.toNat) 14, B (bA (nth [] x2 x3.toNat) 15), jA (nth [] x2 x3.toNat) 16, jA (nth [] x2 x3.toNat) 17, jA (nth [] x2 x3.toNat) 18, jA (nth [] x2 x3.toNat) 19, jA (nth [] x2 x3.toNat) 20, B (bA (nth [] x2 x3.toNat) 21), I x10]).bind fun o15 =>
 (M_path_geared [jA (nth [] x2 x3.toNat) 0, jA (nth [] x2 x3.toNat) 1, jA (nth [] x2 x3.toNat) 2, jA (nth [] x2 x3.toNat) 3, jA (nth [] x2 x3.toNat) 4, jA (nth [] x2 x3.toNat) 5, jA (nth [] x2 x3.toNat) 6, jA (nth [] x2 x3.toNat) 7, jA (nth [] x2 x3.toNat) 8, jA (nth [] x2 x3.toNat) 9, jA (nth [] x2 x3.toNat) 10, jA (nth [] x2 x3.toNat) 11, jA (nth [] x2 x3.toNat) 12, B (bA (nth [] x2 x3.toNat) 13), jA (nth [] x2 x3.toNat) 14, B (bA (nth [] x2 x3.toNat) 15), jA (nth [] x2 x3.toNat) 16, jA (nth [] x2 x3.toNat) 17, jA (nth [] x2 x3.toNat) 18, jA (nth [] x2 x3.toNat) 19, jA (nth [] x2 x3.toNat) 20, B (bA (nth [] x2 x3.toNat) 21)]).bind fun o16 =>
 bif bA o16 0 then
 g_path_builder_move_1 M_path_points x2 x3 x4 N6 x0 x1 o15 x5 x6 x7 x8 x9 x10 x11 (I (mn (IntKind.i64.wrap (gA (nth [] x2 x3.toNat) 14 * 16)) 16777216))
 else
 g_path_builder_move_1 M_path_points x2 x3 x4 N6 x0 x1 o15 x5 x6 x7 x8 x9 x10 x11 (I 0)
 else
 none := by kernel_rfl
def l_path_builder_move_6 := loopC (st_path_builder_move_6 m_path_middle m_path_smooth m_path_builder_add m_path_points m_path_geared m_path_Rate )
def m_path_builder_move := mf_path_builder_move m_path_middle m_path_smooth m_path_builder_add m_path_points m_path_geared m_path_Rate l_path_builder_move_6
theorem sp_path_builder_move : SpecOK Try.prog (C_path_builder_move_0 m_path_middle m_path_smooth m_path_builder_add m_path_points m_path_geared m_path_Rate) := specOK_of rfl ⟨r_path_middle, r_path_smooth, r_path_builder_add, r_path_points, r_path_geared, r_path_Rate, trivial⟩
theorem r_path_builder_move : RowOK Try.prog (140, spOf sig_path_builder_move osig_path_builder_move m_path_builder_move) := row_of (C := (C_path_builder_move_1 m_path_middle m_path_smooth m_path_builder_add m_path_points m_path_geared m_path_Rate l_path_builder_move_6)) (L := 64) (by kernel_rfl) ((FnOK.bare rfl rfl rfl).loop sp_path_builder_move eqOk mixOk (by kernel_rfl) (by kernel_rfl)) sp_path_builder_move eqOk mixOk (by kernel_rfl) (by kernel_rfl)
def sig_path_check : Sk := { tmps := [TS.v true [ci, ci, ci, ci, ci, ci, ci, ci, ci, ci, ci, ci, ci, CS.bool, ci, CS.bool, ci, ci, ci, ci, ci, CS.bool]], boxes := [], rows := [] }
def osig_path_check : Sk := { tmps := [tf [ci]], boxes := [], rows := [] }
def C_path_check_0 (M_curve_Valid M_path_motion : Fn) : Cfg := { spec := lookS [(66, spOf sig_curve_Valid osig_curve_Valid M_curve_Valid), (137, spOf sig_path_motion osig_path_motion M_path_motion)], eqOk := eqAll, ownOff := ownOff }
def mf_path_check (M_curve_Valid M_path_motion : Fn) : Fn := modelF Try.prog (C_path_check_0 M_curve_Valid M_path_motion) 64 136 sig_path_check osig_path_check
abbrev g_path_check_1 (x0 x19 x20 : Int) : Option (List AC) :=
 bif x0 == 8 then
 bif decide (x19 < 3) then
 some [I 1]
 else
 bif decide (x19 > 5) then
 some [I 1]
 else
 bif decide (x20 < 0) then
 some [I 1]
 else
 bif decide (x20 > 30000) then
 some [I 1]
 else
 some [I 0]
 else
 some [I 0]
attribute [go_sem] g_path_check_1
theorem mf_path_check_eq (M_curve_Valid M_path_motion : Fn) (x0 x1 x2 x3 x4 x5 x6 x7 x8 x9 x10 x11 x12 : Int) (x13 : Bool) (x14 : Int) (x15 : Bool) (x16 x17 x18 x19 x20 : Int) (x21 : Bool) : mf_path_check M_curve_Valid M_path_motion [I x0, I x1, I x2, I x3, I x4, I x5, I x6, I x7, I x8, I x9, I x10, I x11, I x12, B x13, I x14, B x15, I x16, I x17, I x18, I x19, I x20, B x21] =
 bif decide (x0 < 1) then
 some [I 1]
 else
 bif decide (x0 > 14) then
 some [I 1]
 else
 (M_path_motion [I x0]).bind fun o4 =>
 bif bA o4 0 then
 (M_curve_Valid [I x0, I x1, I x2, I x3, I x4, I x5, I x6, I x7, I x8, I x9, I x10, I x11, I x12, B x13, I x14, B x15, I x16, I x17, I x18, I x19, I x20, B x21]).bind fun o5 =>
 bif !bA o5 0 then
 some [I 1]
 else
 bif decide (x18 < 0) then
 some [I 1]
 else
 bif decide (x18 > 1000) then
 some [I 1]
 else
 (M_path_motion [I x0]).bind fun o6 =>
 bif bA o6 0 then
 bif x0 != 1 then
 bif decide (x14 < 1) then
 some [I 1]
 else
 bif decide (x14 > 60000000) then
 some [I 1]
 else
 g_path_check_1 x0 x19 x20
 else
 g_path_check_1 x0 x19 x20
 else
 g_path_check_1 x0 x19 x20
 else
 (M_path_motion [I x0]).bind fun o7 =>
 bif bA o7 0 then
 bif x0 != 1 then
 bif decide (x14 < 1) then
 some [I 1]
 else
 bif decide (x14 > 60000000) then
 some [I 1]
 else
 g_path_check_1 x0 x19 x20
 else
 g_path_check_1 x0 x19 x20
 else
 g_path_check_1 x0 x19 x20 := by kernel_rfl
def m_path_check := mf_path_check m_curve_Valid m_path_motion 
theorem sp_path_check : SpecOK Try.prog (C_path_check_0 m_curve_Valid m_path_motion) := specOK_of rfl ⟨r_curve_Valid, r_path_motion, trivial⟩
theorem r_path_check : RowOK Try.prog (136, spOf sig_path_check osig_path_check m_path_check) := row_of (C := (C_path_check_0 m_curve_Valid m_path_motion)) (L := 64) (by kernel_rfl) (FnOK.bare rfl rfl rfl) sp_path_check eqOk mixOk (by kernel_rfl) (by kernel_rfl)
def sig_path_build : Sk := { tmps := [tf [CS.sl kItm]], boxes := [], rows := [] }
def osig_path_build : Sk := { tmps := [TS.tup [(false, [CS.ptr 13 0]), (false, [ci])]], boxes := [(13, 125, [ci, ci, ci, CS.own 1013003 7, CS.own 1013004 3, CS.bool, ci, ci, ci])], rows := [(1013003, 74, kSgm), (1013004, 79, kPt)] }
def C_path_build_0 (M_path_builder_mark M_path_builder_move M_path_next M_path_soft M_path_motion M_path_check : Fn) : Cfg := { spec := lookS [(141, spOf sig_path_builder_mark osig_path_builder_mark M_path_builder_mark), (140, spOf sig_path_builder_move osig_path_builder_move M_path_builder_move), (139, spOf sig_path_next osig_path_next M_path_next), (138, spOf sig_path_soft osig_path_soft M_path_soft), (137, spOf sig_path_motion osig_path_motion M_path_motion), (136, spOf sig_path_check osig_path_check M_path_check)], eqOk := eqAll, pure := fun f => !(elemN [141, 140] f), ownOff := ownOff }
def sk_path_build_6 : Sk := { tmps := [tf [CS.sl kItm], td, td, td, tf [CS.ptr 13 0], tf [ci], td, td, td, td, td, td, td, td, td, td, td, td, tf [CS.sl kItm], tf [ci], tf [ci]] ++ dd 87, boxes := [(13, 125, [ci, ci, ci, CS.own 1013003 7, CS.own 1013004 3, CS.bool, ci, ci, ci])], rows := [(1013003, 74, kSgm), (1013004, 79, kPt)] }
def ex_path_build_6 : List (Ex × Sk) := [(Ex.ret, { tmps := [td, td, tf [CS.ptr 13 0], tf [ci]] ++ dd 104, boxes := [(13, 125, [ci, ci, ci, CS.own 1013003 7, CS.own 1013004 3, CS.bool, ci, ci, ci])], rows := [(1013003, 74, kSgm), (1013004, 79, kPt)] }), (Ex.exit 0, { tmps := [tf [CS.sl kItm], td, td, td, tf [CS.ptr 13 0]] ++ dd 103, boxes := [(13, 125, [ci, ci, ci, CS.own 1013003 7, CS.own 1013004 3, CS.bool, ci, ci, ci])], rows := [(1013003, 74, kSgm), (1013004, 79, kPt)] })]
def st_path_build_6 (M_path_builder_mark M_path_builder_move M_path_next M_path_soft M_path_motion M_path_check : Fn) : Lp := stepL Try.prog (C_path_build_0 M_path_builder_mark M_path_builder_move M_path_next M_path_soft M_path_motion M_path_check) 64 6 (bodyOf Try.prog 95 6) sk_path_build_6 ex_path_build_6
def C_path_build_1 (M_path_builder_mark M_path_builder_move M_path_next M_path_soft M_path_motion M_path_check : Fn) (N6 : Lp) : Cfg := (C_path_build_0 M_path_builder_mark M_path_builder_move M_path_next M_path_soft M_path_motion M_path_check).loop 6 sk_path_build_6 ex_path_build_6 N6
def sk_path_build_18 : Sk := { tmps := [tf [CS.sl kItm], td, td, td, tf [CS.ptr 13 0], tf [ci], td, td, td, td, td, td, td, td, td, td, td, td, td, td, td, td, td, td, td, td, td, td, td, td, td, td, td, td, td, td, td, td, td, td, td, td, td, td, td, td, td, td, td, td, tf [CS.sl kItm], tf [ci], tf [ci]] ++ dd 55, boxes := [(13, 125, [ci, ci, ci, CS.own 1013003 7, CS.own 1013004 3, CS.bool, ci, ci, ci])], rows := [(1013003, 74, kSgm), (1013004, 79, kPt)] }
def ex_path_build_18 : List (Ex × Sk) := [(Ex.ret, { tmps := [td, td, tf [CS.ptr 13 0], tf [ci]] ++ dd 104, boxes := [(13, 125, [ci, ci, ci, CS.own 1013003 7, CS.own 1013004 3, CS.bool, ci, ci, ci])], rows := [(1013003, 74, kSgm), (1013004, 79, kPt)] }), (Ex.exit 2, { tmps := [td, td, td, td, tf [CS.ptr 13 0]] ++ dd 103, boxes := [(13, 125, [ci, ci, ci, CS.own 1013003 7, CS.own 1013004 3, CS.bool, ci, ci, ci])], rows := [(1013003, 74, kSgm), (1013004, 79, kPt)] })]
def st_path_build_18 (M_path_builder_mark M_path_builder_move M_path_next M_path_soft M_path_motion M_path_check : Fn) (N6 : Lp) : Lp := stepL Try.prog (C_path_build_1 M_path_builder_mark M_path_builder_move M_path_next M_path_soft M_path_motion M_path_check N6) 64 18 (bodyOf Try.prog 95 18) sk_path_build_18 ex_path_build_18
def C_path_build_2 (M_path_builder_mark M_path_builder_move M_path_next M_path_soft M_path_motion M_path_check : Fn) (N6 N18 : Lp) : Cfg := (C_path_build_1 M_path_builder_mark M_path_builder_move M_path_next M_path_soft M_path_motion M_path_check N6).loop 18 sk_path_build_18 ex_path_build_18 N18
def mf_path_build (M_path_builder_mark M_path_builder_move M_path_next M_path_soft M_path_motion M_path_check : Fn) (N6 N18 : Lp) : Fn := modelF Try.prog (C_path_build_2 M_path_builder_mark M_path_builder_move M_path_next M_path_soft M_path_motion M_path_check N6 N18) 64 95 sig_path_build osig_path_build
theorem st_path_build_6_eq (M_path_builder_mark M_path_builder_move M_path_next M_path_soft M_path_motion M_path_check : Fn) (v0 v1 v2 : Rw) (v3 : Int) (v4 : Rw) (v5 v6 v7 v8 v9 : Int) (v10 : Bool) (v11 v12 v13 : Int) : st_path_build_6 M_path_builder_mark M_path_builder_move M_path_next M_path_soft M_path_motion M_path_check [.view kSgm v0, .view kPt v1, .view kItm v2, I v3, .view kItm v4, I v5, I v6, I v7, I v8, I v9, B v10, I v11, I v12, I v13] =
 bif decide (v6 < v5) then
 bif decide (0 <= v6) && decide (v6 < (v4.length : Int)) then
 (M_path_check [jA (nth [] v4 v6.toNat) 0, jA (nth [] v4 v6.toNat) 1, jA (nth [] v4 v6.toNat) 2, jA (nth [] v4 v6.toNat) 3, jA (nth [] v4 v6.toNat) 4, jA (nth [] v4 v6.toNat) 5, jA (nth [] v4 v6.toNat) 6, jA (nth [] v4 v6.toNat) 7, jA (nth [] v4 v6.toNat) 8, jA (nth [] v4 v6.toNat) 9, jA (nth [] v4 v6.toNat) 10, jA (nth [] v4 v6.toNat) 11, jA (nth [] v4 v6.toNat) 12, B (bA (nth [] v4 v6.toNat) 13), jA (nth [] v4 v6.toNat) 14, B (bA (nth [] v4 v6.toNat) 15), jA (nth [] v4 v6.toNat) 16, jA (nth [] v4 v6.toNat) 17, jA (nth [] v4 v6.toNat) 18, jA (nth [] v4 v6.toNat) 19, jA (nth [] v4 v6.toNat) 20, B (bA (nth [] v4 v6.toNat) 21)]).bind fun o53 =>
 bif gA o53 0 != 0 then
 some (1, [.view kSgm v0, .view kPt v1, jA o53 0, I v7, I v8, I v9, B v10, I v11, I v12, I v13])
 else
 (M_path_motion [jA (nth [] v4 v6.toNat) 0]).bind fun o54 =>
 bif !bA o54 0 then
 some (0, [.view kSgm v0, .view kPt v1, .view kItm v2, I v3, .view kItm v4, I v5, I (IntKind.i64.wrap (v6 + 1)), I v7, I v8, I v9, B v10, I v11, I v12, I v13])
 else
 bif decide (v3 >= 0) then
 bif decide (0 <= v3) && decide (v3 < (v2.length : Int)) then
 bif !(gA (nth [] v2 v3.toNat) 5 == gA (nth [] v4 v6.toNat) 2 && (gA (nth [] v2 v3.toNat) 6 == gA (nth [] v4 v6.toNat) 3 && (gA (nth [] v2 v3.toNat) 7 == gA (nth [] v4 v6.toNat) 4 && true))) then
 some (1, [.view kSgm v0, .view kPt v1, I 13, I v7, I v8, I v9, B v10, I v11, I v12, I v13])
 else
 some (0, [.view kSgm v0, .view kPt v1, .view kItm v2, I v6, .view kItm v4, I v5, I (IntKind.i64.wrap (v6 + 1)), I v7, I v8, I v9, B v10, I v11, I v12, I v13])
 else
 none
 else
 some (0, [.view kSgm v0, .view kPt v1, .view kItm v2, I v6, .view kItm v4, I v5, I (IntKind.i64.wrap (v6 + 1)), I v7, I v8, I v9, B v10, I v11, I v12, I v13])
 else
 none
 else
 some (2, [.view kSgm v0, .view kPt v1, .view kItm v2, I v7, I v8, I v9, B v10, I v11, I v12, I v13]) := by kernel_rfl
abbrev g_s_path_build_18_2 (M_path_builder_move : Fn) (v0 v1 v2 : Rw) (v6 v7 v8 v9 : Int) (v10 : Bool) (v11 : Int) (h1_0 : AC) (v13 : Int) (M_path_builder_mark : Fn) (v4 : Rw) (v5 : Int) (h2_0 : AC) : Option (Nat × List AC) :=
 (M_path_builder_move [.view kSgm v0, .view kPt v1, .view kItm v2, I v6, h2_0, I v7, I v8, I v9, B v10, I v11, h1_0, I v13]).bind fun o57 =>
 bif !bA o57 2 then
 some (1, [.view kSgm (wA o57 0), .view kPt (wA o57 1), I 10, jA o57 3, jA o57 4, jA o57 5, B (bA o57 6), jA o57 7, jA o57 8, jA o57 9])
 else
 (M_path_builder_mark [.view kSgm (wA o57 0), .view kPt (wA o57 1), .view kItm v2, I v6, jA o57 3, jA o57 4, jA o57 5, B (bA o57 6), jA o57 7, jA o57 8, jA o57 9]).bind fun o58 =>
 some (0, [.view kSgm (wA o58 0), .view kPt (wA o58 1), .view kItm v2, I v6, .view kItm v4, I v5, I (IntKind.i64.wrap (v6 + 1)), jA o58 2, jA o58 3, jA o58 4, B (bA o58 5), jA o58 6, jA o58 7, jA o58 8])
attribute [go_sem] g_s_path_build_18_2
abbrev g_s_path_build_18_1 (M_path_motion : Fn) (v4 : Rw) (v6 v3 : Int) (M_path_soft : Fn) (v2 : Rw) (M_path_builder_move : Fn) (v0 v1 : Rw) (v7 v8 v9 : Int) (v10 : Bool) (v11 v13 : Int) (M_path_builder_mark : Fn) (v5 : Int) (M_path_next : Fn) (h1_0 : AC) : Option (Nat × List AC) :=
 (M_path_motion [jA (nth [] v4 v6.toNat) 0]).bind fun o55 =>
 bif bA o55 0 then
 bif decide (v3 >= 0) then
 (M_path_soft [.view kItm v2, I v3]).bind fun o56 =>
 bif !bA o56 0 then
 g_s_path_build_18_2 M_path_builder_move v0 v1 v2 v6 v7 v8 v9 v10 v11 h1_0 v13 M_path_builder_mark v4 v5 (I (-1))
 else
 (M_path_next [.view kItm v2, I v3]).bind fun o59 =>
 bif gA o59 0 != v6 then
 g_s_path_build_18_2 M_path_builder_move v0 v1 v2 v6 v7 v8 v9 v10 v11 h1_0 v13 M_path_builder_mark v4 v5 (I (-1))
 else
 g_s_path_build_18_2 M_path_builder_move v0 v1 v2 v6 v7 v8 v9 v10 v11 h1_0 v13 M_path_builder_mark v4 v5 (I v3)
 else
 g_s_path_build_18_2 M_path_builder_move v0 v1 v2 v6 v7 v8 v9 v10 v11 h1_0 v13 M_path_builder_mark v4 v5 (I v3)
 else
 (M_path_builder_mark [.view kSgm v0, .view kPt v1, .view kItm v2, I v6, I v7, I v8, I v9, B v10, I v11, h1_0, I v13]).bind fun o66 =>
 some (0, [.view kSgm (wA o66 0), .view kPt (wA o66 1), .view kItm v2, I v3, .view kItm v4, I v5, I (IntKind.i64.wrap (v6 + 1)), jA o66 2, jA o66 3, jA o66 4, B (bA o66 5), jA o66 6, jA o66 7, jA o66 8])
attribute [go_sem] g_s_path_build_18_1
theorem st_path_build_18_eq (M_path_builder_mark M_path_builder_move M_path_next M_path_soft M_path_motion M_path_check : Fn) (N6 : Lp) (v0 v1 v2 : Rw) (v3 : Int) (v4 : Rw) (v5 v6 v7 v8 v9 : Int) (v10 : Bool) (v11 v12 v13 : Int) : st_path_build_18 M_path_builder_mark M_path_builder_move M_path_next M_path_soft M_path_motion M_path_check N6 [.view kSgm v0, .view kPt v1, .view kItm v2, I v3, .view kItm v4, I v5, I v6, I v7, I v8, I v9, B v10, I v11, I v12, I v13] =
 bif decide (v6 < v5) then
 bif decide (0 <= v6) && decide (v6 < (v4.length : Int)) then
 bif gA (nth [] v4 v6.toNat) 0 == 8 then
 bif gA (nth [] v4 v6.toNat) 19 == 3 then
 g_s_path_build_18_1 M_path_motion v4 v6 v3 M_path_soft v2 M_path_builder_move v0 v1 v7 v8 v9 v10 v11 v13 M_path_builder_mark v5 M_path_next (jA (nth [] v4 v6.toNat) 20)
 else
 bif gA (nth [] v4 v6.toNat) 19 == 4 then
 g_s_path_build_18_1 M_path_motion v4 v6 v3 M_path_soft v2 M_path_builder_move v0 v1 v7 v8 v9 v10 v11 v13 M_path_builder_mark v5 M_path_next (jA (nth [] v4 v6.toNat) 20)
 else
 g_s_path_build_18_1 M_path_motion v4 v6 v3 M_path_soft v2 M_path_builder_move v0 v1 v7 v8 v9 v10 v11 v13 M_path_builder_mark v5 M_path_next (I v12)
 else
 g_s_path_build_18_1 M_path_motion v4 v6 v3 M_path_soft v2 M_path_builder_move v0 v1 v7 v8 v9 v10 v11 v13 M_path_builder_mark v5 M_path_next (I v12)
 else
 none
 else
 some (2, [.view kSgm v0, .view kPt v1, I v7, I v8, I v9, B v10, I v11, I v12, I v13]) := by kernel_rfl
theorem mf_path_build_eq (M_path_builder_mark M_path_builder_move M_path_next M_path_soft M_path_motion M_path_check : Fn) (N6 N18 : Lp) (x0 : Rw) : mf_path_build M_path_builder_mark M_path_builder_move M_path_next M_path_soft M_path_motion M_path_check N6 N18 [.view kItm x0] =
 bif decide ((x0.length : Int) > 20000) then
 some [.view kSgm [], .view kPt [], I 10, I 0, I 0, I 0, B false, I 0, I 0, I 0]
 else
 (N6 [.view kSgm [], .view kPt [], .view kItm x0, I (-1), .view kItm x0, I (x0.length : Int), I 0, I 0, I 0, I 0, B false, I 0, I 0, I 0]).bind fun o103 =>
 bif o103.1.beq 1 then
 some [.view kSgm (wA o103.2 0), .view kPt (wA o103.2 1), jA o103.2 2, jA o103.2 3, jA o103.2 4, jA o103.2 5, B (bA o103.2 6), jA o103.2 7, jA o103.2 8, jA o103.2 9]
 else
 bif o103.1.beq 2 then
 (N18 [.view kSgm (wA o103.2 0), .view kPt (wA o103.2 1), .view kItm (wA o103.2 2), I (-1), .view kItm (wA o103.2 2), I (↑(wA o103.2 2).length : Int), I 0, jA o103.2 3, jA o103.2 4, jA o103.2 5, B (bA o103.2 6), jA o103.2 7, jA o103.2 8, jA o103.2 9]).bind fun o104 =>
 bif o104.1.beq 1 then
 some [.view kSgm (wA o104.2 0), .view kPt (wA o104.2 1), jA o104.2 2, jA o104.2 3, jA o104.2 4, jA o104.2 5, B (bA o104.2 6), jA o104.2 7, jA o104.2 8, jA o104.2 9]
 else
 bif o104.1.beq 2 then
 some [.view kSgm (wA o104.2 0), .view kPt (wA o104.2 1), I 0, jA o104.2 2, jA o104.2 3, jA o104.2 4, B (bA o104.2 5), jA o104.2 6, jA o104.2 7, jA o104.2 8]
 else
 none
 else
 none := by kernel_rfl
def l_path_build_6 := loopC (st_path_build_6 m_path_builder_mark m_path_builder_move m_path_next m_path_soft m_path_motion m_path_check )
def l_path_build_18 := loopC (st_path_build_18 m_path_builder_mark m_path_builder_move m_path_next m_path_soft m_path_motion m_path_check l_path_build_6)
def m_path_build := mf_path_build m_path_builder_mark m_path_builder_move m_path_next m_path_soft m_path_motion m_path_check l_path_build_6 l_path_build_18
theorem sp_path_build : SpecOK Try.prog (C_path_build_0 m_path_builder_mark m_path_builder_move m_path_next m_path_soft m_path_motion m_path_check) := specOK_of rfl ⟨r_path_builder_mark, r_path_builder_move, r_path_next, r_path_soft, r_path_motion, r_path_check, trivial⟩
theorem r_path_build : RowOK Try.prog (95, spOf sig_path_build osig_path_build m_path_build) := row_of (C := (C_path_build_2 m_path_builder_mark m_path_builder_move m_path_next m_path_soft m_path_motion m_path_check l_path_build_6 l_path_build_18)) (L := 64) (by kernel_rfl) (((FnOK.bare rfl rfl rfl).loop sp_path_build eqOk mixOk (by kernel_rfl) (by kernel_rfl)).loop sp_path_build eqOk mixOk (by kernel_rfl) (by kernel_rfl)) sp_path_build eqOk mixOk (by kernel_rfl) (by kernel_rfl)
def sig_path_Build : Sk := { tmps := [tf [CS.sl kItm]], boxes := [], rows := [] }
def osig_path_Build : Sk := { tmps := [TS.tup [(true, [ci, ci, ci, CS.sl kSgm, CS.sl kPt]), (false, [ci])]], boxes := [], rows := [] }
def C_path_Build_0 (M_path_build : Fn) : Cfg := { spec := lookS [(95, spOf sig_path_build osig_path_build M_path_build)], eqOk := eqAll, pure := fun f => !(elemN [95] f), ownOff := ownOff }
def mf_path_Build (M_path_build : Fn) : Fn := modelF Try.prog (C_path_Build_0 M_path_build) 64 43 sig_path_Build osig_path_Build
theorem mf_path_Build_eq (M_path_build : Fn) (x0 : Rw) : mf_path_Build M_path_build [.view kItm x0] =
 (M_path_build [.view kItm x0]).bind fun o1 =>
 bif gA o1 2 != 0 then
 some [I 0, I 0, I 0, .view kSgm [], .view kPt [], jA o1 2]
 else
 some [jA o1 3, jA o1 4, jA o1 5, .view kSgm (wA o1 0), .view kPt (wA o1 1), I 0] := by kernel_rfl
def m_path_Build := mf_path_Build m_path_build 
theorem sp_path_Build : SpecOK Try.prog (C_path_Build_0 m_path_build) := specOK_of rfl ⟨r_path_build, trivial⟩
theorem r_path_Build : RowOK Try.prog (43, spOf sig_path_Build osig_path_Build m_path_Build) := row_of (C := (C_path_Build_0 m_path_build)) (L := 64) (by kernel_rfl) (FnOK.bare rfl rfl rfl) sp_path_Build eqOk mixOk (by kernel_rfl) (by kernel_rfl)
def sig_cncmill_Mod : Sk := { tmps := [tf [ci], tf [ci]], boxes := [], rows := [] }
def osig_cncmill_Mod : Sk := { tmps := [tf [ci]], boxes := [], rows := [] }
def C_cncmill_Mod_0 : Cfg := { spec := lookS [], eqOk := eqAll, ownOff := ownOff }
def mf_cncmill_Mod : Fn := modelF Try.prog C_cncmill_Mod_0 64 23 sig_cncmill_Mod osig_cncmill_Mod
theorem mf_cncmill_Mod_eq (x0 x1 : Int) : mf_cncmill_Mod [I x0, I x1] =
 bif decide (x1 = 0) then
 none
 else
 bif decide (x1 = 0) then
 none
 else
 some [I ((IntKind.i64.wrap (x0.tmod x1 + x1)).tmod x1)] := by kernel_rfl
def m_cncmill_Mod := mf_cncmill_Mod 
theorem sp_cncmill_Mod : SpecOK Try.prog (C_cncmill_Mod_0 ) := specOK_of rfl trivial
theorem r_cncmill_Mod : RowOK Try.prog (23, spOf sig_cncmill_Mod osig_cncmill_Mod m_cncmill_Mod) := row_of (C := C_cncmill_Mod_0) (L := 64) (by kernel_rfl) (FnOK.bare rfl rfl rfl) sp_cncmill_Mod eqOk mixOk (by kernel_rfl) (by kernel_rfl)
def sig_cncmill_Source_Next : Sk := { tmps := [tf [CS.ptr 20000 0], tf [ci]], boxes := [(20000, 138, [CS.sl kInts, ci])], rows := [] }
def osig_cncmill_Source_Next : Sk := { tmps := [tf [ci]], boxes := [(20000, 138, [CS.sl kInts, ci])], rows := [] }
def C_cncmill_Source_Next_0 (M_cncmill_Mod : Fn) : Cfg := { spec := lookS [(23, spOf sig_cncmill_Mod osig_cncmill_Mod M_cncmill_Mod)], eqOk := eqAll, ownOff := ownOff }
def mf_cncmill_Source_Next (M_cncmill_Mod : Fn) : Fn := modelF Try.prog (C_cncmill_Source_Next_0 M_cncmill_Mod) 64 61 sig_cncmill_Source_Next osig_cncmill_Source_Next
theorem mf_cncmill_Source_Next_eq (M_cncmill_Mod : Fn) (x0 : Int) (x1 : Rw) (x2 : Int) : mf_cncmill_Source_Next M_cncmill_Mod [I x0, .view kInts x1, I x2] =
 bif decide (x2 >= (x1.length : Int)) then
 some [I 0, .view kInts x1, I x2]
 else
 bif decide (0 <= x2) && decide (x2 < (x1.length : Int)) then
 (M_cncmill_Mod [jA (nth [] x1 x2.toNat) 0, I x0]).bind fun o1 =>
 some [jA o1 0, .view kInts x1, I (IntKind.i64.wrap (x2 + 1))]
 else
 none := by kernel_rfl
def m_cncmill_Source_Next := mf_cncmill_Source_Next m_cncmill_Mod 
theorem sp_cncmill_Source_Next : SpecOK Try.prog (C_cncmill_Source_Next_0 m_cncmill_Mod) := specOK_of rfl ⟨r_cncmill_Mod, trivial⟩
theorem r_cncmill_Source_Next : RowOK Try.prog (61, spOf sig_cncmill_Source_Next osig_cncmill_Source_Next m_cncmill_Source_Next) := row_of (C := (C_cncmill_Source_Next_0 m_cncmill_Mod)) (L := 64) (by kernel_rfl) (FnOK.bare rfl rfl rfl) sp_cncmill_Source_Next eqOk mixOk (by kernel_rfl) (by kernel_rfl)
def sig_cncref23_Space : Sk := { tmps := [tf [ci], tf [ci], tf [ci], tf [ci]], boxes := [], rows := [] }
def osig_cncref23_Space : Sk := { tmps := [TS.v true [ci, ci, ci]], boxes := [], rows := [] }
def C_cncref23_Space_0 : Cfg := { spec := lookS [], eqOk := eqAll, ownOff := ownOff }
def mf_cncref23_Space : Fn := modelF Try.prog C_cncref23_Space_0 64 65 sig_cncref23_Space osig_cncref23_Space
theorem mf_cncref23_Space_eq (x0 x1 x2 x3 : Int) : mf_cncref23_Space [I x0, I x1, I x2, I x3] =
 bif x3 == 17 then
 some [I x0, I x1, I x2]
 else
 bif x3 == 18 then
 some [I x1, I x2, I x0]
 else
 bif x3 == 19 then
 some [I x2, I x0, I x1]
 else
 some [I 0, I 0, I 0] := by kernel_rfl
def m_cncref23_Space := mf_cncref23_Space 
theorem sp_cncref23_Space : SpecOK Try.prog (C_cncref23_Space_0 ) := specOK_of rfl trivial
theorem r_cncref23_Space : RowOK Try.prog (65, spOf sig_cncref23_Space osig_cncref23_Space m_cncref23_Space) := row_of (C := C_cncref23_Space_0) (L := 64) (by kernel_rfl) (FnOK.bare rfl rfl rfl) sp_cncref23_Space eqOk mixOk (by kernel_rfl) (by kernel_rfl)
def sig_cncmill_turned : Sk := { tmps := [tf [ci], tf [ci]], boxes := [], rows := [] }
def osig_cncmill_turned : Sk := { tmps := [TS.tup [(false, [ci]), (false, [ci])]], boxes := [], rows := [] }
def C_cncmill_turned_0 : Cfg := { spec := lookS [], eqOk := eqAll, ownOff := ownOff }
def mf_cncmill_turned : Fn := modelF Try.prog C_cncmill_turned_0 64 112 sig_cncmill_turned osig_cncmill_turned
theorem mf_cncmill_turned_eq (x0 x1 : Int) : mf_cncmill_turned [I x0, I x1] =
 bif decide (0 <= x1.tmod 4) && decide (x1.tmod 4 < (↑[[I x0], [I 0], [I (IntKind.i64.wrap (0 - x0))], [I 0]].length : Int)) then
 bif decide (0 <= x1.tmod 4) && decide (x1.tmod 4 < (↑[[I 0], [I x0], [I 0], [I (IntKind.i64.wrap (0 - x0))]].length : Int)) then
 some [I (intOf (nth .dead (nth [] [[I x0], [I 0], [I (IntKind.i64.wrap (0 - x0))], [I 0]] (x1.tmod 4).toNat) 0)), I (intOf (nth .dead (nth [] [[I 0], [I x0], [I 0], [I (IntKind.i64.wrap (0 - x0))]] (x1.tmod 4).toNat) 0))]
 else
 none
 else
 none := by kernel_rfl
def m_cncmill_turned := mf_cncmill_turned 
theorem sp_cncmill_turned : SpecOK Try.prog (C_cncmill_turned_0 ) := specOK_of rfl trivial
theorem r_cncmill_turned : RowOK Try.prog (112, spOf sig_cncmill_turned osig_cncmill_turned m_cncmill_turned) := row_of (C := C_cncmill_turned_0) (L := 64) (by kernel_rfl) (FnOK.bare rfl rfl rfl) sp_cncmill_turned eqOk mixOk (by kernel_rfl) (by kernel_rfl)
def sig_cncref23_Plane : Sk := { tmps := [TS.v true [ci, ci, ci], tf [ci]], boxes := [], rows := [] }
def osig_cncref23_Plane : Sk := { tmps := [TS.tup [(false, [ci]), (false, [ci]), (false, [ci])]], boxes := [], rows := [] }
def C_cncref23_Plane_0 : Cfg := { spec := lookS [], eqOk := eqAll, ownOff := ownOff }
def mf_cncref23_Plane : Fn := modelF Try.prog C_cncref23_Plane_0 64 64 sig_cncref23_Plane osig_cncref23_Plane
theorem mf_cncref23_Plane_eq (x0 x1 x2 x3 : Int) : mf_cncref23_Plane [I x0, I x1, I x2, I x3] =
 bif x3 == 17 then
 some [I x0, I x1, I x2]
 else
 bif x3 == 18 then
 some [I x2, I x0, I x1]
 else
 bif x3 == 19 then
 some [I x1, I x2, I x0]
 else
 some [I 0, I 0, I 0] := by kernel_rfl
def m_cncref23_Plane := mf_cncref23_Plane 
theorem sp_cncref23_Plane : SpecOK Try.prog (C_cncref23_Plane_0 ) := specOK_of rfl trivial
theorem r_cncref23_Plane : RowOK Try.prog (64, spOf sig_cncref23_Plane osig_cncref23_Plane m_cncref23_Plane) := row_of (C := C_cncref23_Plane_0) (L := 64) (by kernel_rfl) (FnOK.bare rfl rfl rfl) sp_cncref23_Plane eqOk mixOk (by kernel_rfl) (by kernel_rfl)
def sig_cncmill_arc : Sk := { tmps := [tf [CS.ptr 20000 0], TS.v true [ci, ci, ci], tf [ci]], boxes := [(20000, 138, [CS.sl kInts, ci])], rows := [] }
def osig_cncmill_arc : Sk := { tmps := [TS.v true [ci, ci, ci, ci, ci, ci, ci, ci, ci, ci, ci, ci, ci, CS.bool, ci, CS.bool, ci, ci, ci, ci, ci, CS.bool]], boxes := [(20000, 138, [CS.sl kInts, ci])], rows := [] }
def C_cncmill_arc_0 (M_cncref23_Space M_cncmill_turned M_cncref23_Plane M_cncmill_Source_Next : Fn) : Cfg := { spec := lookS [(65, spOf sig_cncref23_Space osig_cncref23_Space M_cncref23_Space), (112, spOf sig_cncmill_turned osig_cncmill_turned M_cncmill_turned), (64, spOf sig_cncref23_Plane osig_cncref23_Plane M_cncref23_Plane), (61, spOf sig_cncmill_Source_Next osig_cncmill_Source_Next M_cncmill_Source_Next)], eqOk := eqAll, pure := fun f => !(elemN [61] f), ownOff := ownOff }
def mf_cncmill_arc (M_cncref23_Space M_cncmill_turned M_cncref23_Plane M_cncmill_Source_Next : Fn) : Fn := modelF Try.prog (C_cncmill_arc_0 M_cncref23_Space M_cncmill_turned M_cncref23_Plane M_cncmill_Source_Next) 64 60 sig_cncmill_arc osig_cncmill_arc
abbrev g_cncmill_arc_1 (M_cncmill_Source_Next M_cncref23_Space : Fn) (o23 o18 : List AC) (x0 x1 x2 : Int) (o26 o19 o22 : List AC) (h1_0 h1_1 h1_2 h1_3 : AC) : Option (List AC) :=
 (M_cncmill_Source_Next [I 4, h1_0, h1_1]).bind fun o30 =>
 bif decide (0 <= gA o30 0) && decide (gA o30 0 < (↑[[I 0], [I 0], [I 7], [I (-12)]].length : Int)) then
 (M_cncref23_Space [h1_2, h1_3, I (IntKind.i64.wrap (gA o23 2 + intOf (nth .dead (nth [] [[I 0], [I 0], [I 7], [I (-12)]] (gA o30 0).toNat) 0))), I (intOf (nth .dead (nth [] [[I 17], [I 18], [I 19]] (gA o18 0).toNat) 0))]).bind fun o31 =>
 some [I 3, I 0, I x0, I x1, I x2, jA o31 0, jA o31 1, jA o31 2, I (intOf (nth .dead (nth [] [[I 17], [I 18], [I 19]] (gA o18 0).toNat) 0)), jA o26 0, jA o26 1, jA o26 2, I (IntKind.i64.wrap (1 - IntKind.i64.wrap (gA o19 0 * 2))), B (gA o22 0 == 0), I 0, B false, I 0, I 0, I 0, I 0, I 0, B false, .view kInts (wA o30 1), jA o30 2]
 else
 none
attribute [go_sem] g_cncmill_arc_1
theorem mf_cncmill_arc_eq (M_cncref23_Space M_cncmill_turned M_cncref23_Plane M_cncmill_Source_Next : Fn) (x0 x1 x2 x3 : Int) (x4 : Rw) (x5 : Int) : mf_cncmill_arc M_cncref23_Space M_cncmill_turned M_cncref23_Plane M_cncmill_Source_Next [I x0, I x1, I x2, I x3, .view kInts x4, I x5] =
 (M_cncmill_Source_Next [I 3, .view kInts x4, I x5]).bind fun o18 =>
 bif decide (0 <= gA o18 0) && decide (gA o18 0 < (↑[[I 17], [I 18], [I 19]].length : Int)) then
 (M_cncmill_Source_Next [I 2, .view kInts (wA o18 1), jA o18 2]).bind fun o19 =>
 (M_cncmill_Source_Next [I x3, .view kInts (wA o19 1), jA o19 2]).bind fun o20 =>
 (M_cncmill_Source_Next [I 4, .view kInts (wA o20 1), jA o20 2]).bind fun o21 =>
 (M_cncmill_Source_Next [I 4, .view kInts (wA o21 1), jA o21 2]).bind fun o22 =>
 (M_cncref23_Plane [I x0, I x1, I x2, I (intOf (nth .dead (nth [] [[I 17], [I 18], [I 19]] (gA o18 0).toNat) 0))]).bind fun o23 =>
 (M_cncmill_turned [I (IntKind.i64.wrap (8 + gA o20 0)), jA o21 0]).bind fun o24 =>
 (M_cncmill_turned [I (IntKind.i64.wrap (8 + gA o20 0)), I (IntKind.i64.wrap (gA o21 0 + gA o22 0))]).bind fun o25 =>
 (M_cncref23_Space [I (IntKind.i64.wrap (gA o23 0 - gA o24 0)), I (IntKind.i64.wrap (gA o23 1 - gA o24 1)), jA o23 2, I (intOf (nth .dead (nth [] [[I 17], [I 18], [I 19]] (gA o18 0).toNat) 0))]).bind fun o26 =>
 bif decide (gA o22 0 > 0) then
 (M_cncmill_Source_Next [I 3, .view kInts (wA o22 1), jA o22 2]).bind fun o27 =>
 bif gA o27 0 == 0 then
 bif decide (IntKind.i64.wrap (8 + gA o20 0) = 0) then
 none
 else
 (M_cncmill_Source_Next [I 5, .view kInts (wA o27 1), jA o27 2]).bind fun o28 =>
 bif decide (IntKind.i64.wrap (8 + gA o20 0) = 0) then
 none
 else
 (M_cncmill_Source_Next [I 5, .view kInts (wA o28 1), jA o28 2]).bind fun o29 =>
 g_cncmill_arc_1 M_cncmill_Source_Next M_cncref23_Space o23 o18 x0 x1 x2 o26 o19 o22 (.view kInts (wA o29 1)) (jA o29 2) (I (IntKind.i64.wrap (IntKind.i64.wrap (gA o23 0 - gA o24 0) + IntKind.i64.wrap (gA o25 0 + IntKind.i64.wrap (IntKind.i64.wrap ((gA o25 0).tdiv (IntKind.i64.wrap (8 + gA o20 0))) * gA o28 0))))) (I (IntKind.i64.wrap (IntKind.i64.wrap (gA o23 1 - gA o24 1) + IntKind.i64.wrap (gA o25 1 + IntKind.i64.wrap (IntKind.i64.wrap ((gA o25 1).tdiv (IntKind.i64.wrap (8 + gA o20 0))) * gA o29 0)))))
 else
 g_cncmill_arc_1 M_cncmill_Source_Next M_cncref23_Space o23 o18 x0 x1 x2 o26 o19 o22 (.view kInts (wA o27 1)) (jA o27 2) (I (IntKind.i64.wrap (IntKind.i64.wrap (gA o23 0 - gA o24 0) + gA o25 0))) (I (IntKind.i64.wrap (IntKind.i64.wrap (gA o23 1 - gA o24 1) + gA o25 1)))
 else
 g_cncmill_arc_1 M_cncmill_Source_Next M_cncref23_Space o23 o18 x0 x1 x2 o26 o19 o22 (.view kInts (wA o22 1)) (jA o22 2) (I (IntKind.i64.wrap (IntKind.i64.wrap (gA o23 0 - gA o24 0) + gA o25 0))) (I (IntKind.i64.wrap (IntKind.i64.wrap (gA o23 1 - gA o24 1) + gA o25 1)))
 else
 none := by kernel_rfl
def m_cncmill_arc := mf_cncmill_arc m_cncref23_Space m_cncmill_turned m_cncref23_Plane m_cncmill_Source_Next 
theorem sp_cncmill_arc : SpecOK Try.prog (C_cncmill_arc_0 m_cncref23_Space m_cncmill_turned m_cncref23_Plane m_cncmill_Source_Next) := specOK_of rfl ⟨r_cncref23_Space, r_cncmill_turned, r_cncref23_Plane, r_cncmill_Source_Next, trivial⟩
theorem r_cncmill_arc : RowOK Try.prog (60, spOf sig_cncmill_arc osig_cncmill_arc m_cncmill_arc) := row_of (C := (C_cncmill_arc_0 m_cncref23_Space m_cncmill_turned m_cncref23_Plane m_cncmill_Source_Next)) (L := 64) (by kernel_rfl) (FnOK.bare rfl rfl rfl) sp_cncmill_arc eqOk mixOk (by kernel_rfl) (by kernel_rfl)
def sig_cncmill_motion : Sk := { tmps := [tf [CS.ptr 20000 0], TS.v true [ci, ci, ci], tf [ci]], boxes := [(20000, 138, [CS.sl kInts, ci])], rows := [] }
def osig_cncmill_motion : Sk := { tmps := [TS.v true [ci, ci, ci, ci, ci, ci, ci, ci, ci, ci, ci, ci, ci, CS.bool, ci, CS.bool, ci, ci, ci, ci, ci, CS.bool]], boxes := [(20000, 138, [CS.sl kInts, ci])], rows := [] }
def C_cncmill_motion_0 (M_cncmill_Source_Next M_cncmill_arc : Fn) : Cfg := { spec := lookS [(61, spOf sig_cncmill_Source_Next osig_cncmill_Source_Next M_cncmill_Source_Next), (60, spOf sig_cncmill_arc osig_cncmill_arc M_cncmill_arc)], eqOk := eqAll, pure := fun f => !(elemN [61, 60] f), ownOff := ownOff }
def mf_cncmill_motion (M_cncmill_Source_Next M_cncmill_arc : Fn) : Fn := modelF Try.prog (C_cncmill_motion_0 M_cncmill_Source_Next M_cncmill_arc) 64 79 sig_cncmill_motion osig_cncmill_motion
abbrev g_cncmill_motion_2 (M_cncmill_Source_Next : Fn) (o20 : List AC) (x3 : Int) (h1_0 h1_1 h1_2 h1_3 h1_4 h1_5 h1_6 h1_7 h1_8 h1_9 h1_10 h1_11 h1_12 h1_13 h1_16 h1_17 h1_20 h1_21 : AC) : Option (List AC) :=
 (M_cncmill_Source_Next [I 60, .view kInts (wA o20 1), jA o20 2]).bind fun o21 =>
 bif x3 == 6 then
 (M_cncmill_Source_Next [I 2, .view kInts (wA o21 1), jA o21 2]).bind fun o22 =>
 some [h1_0, h1_1, h1_2, h1_3, h1_4, h1_5, h1_6, h1_7, h1_8, h1_9, h1_10, h1_11, h1_12, h1_13, I (IntKind.i64.wrap (1 + gA o21 0)), B true, h1_16, h1_17, I 0, I (IntKind.i64.wrap (3 + gA o22 0)), h1_20, h1_21, .view kInts (wA o22 1), jA o22 2]
 else
 some [h1_0, h1_1, h1_2, h1_3, h1_4, h1_5, h1_6, h1_7, h1_8, h1_9, h1_10, h1_11, h1_12, h1_13, I (IntKind.i64.wrap (1 + gA o21 0)), B true, h1_16, h1_17, I 0, I 0, h1_20, h1_21, .view kInts (wA o21 1), jA o21 2]
attribute [go_sem] g_cncmill_motion_2
abbrev g_cncmill_motion_1 (x3 : Int) (M_cncmill_Source_Next : Fn) (h1_0 h1_1 h1_2 h1_3 h1_4 h1_5 h1_6 h1_7 h1_8 h1_9 h1_10 h1_11 h1_12 h1_13 h1_14 h1_15 h1_16 h1_17 h1_18 h1_19 h1_20 h1_21 h1_22 h1_23 : AC) : Option (List AC) :=
 bif x3 == 1 then
 some [h1_0, h1_1, h1_2, h1_3, h1_4, h1_5, h1_6, h1_7, h1_8, h1_9, h1_10, h1_11, h1_12, h1_13, h1_14, h1_15, h1_16, h1_17, h1_18, h1_19, h1_20, h1_21, h1_22, h1_23]
 else
 (M_cncmill_Source_Next [I 5, h1_22, h1_23]).bind fun o19 =>
 bif decide (0 <= gA o19 0) && decide (gA o19 0 < (↑[[I 300000], [I 1], [I 60000], [I 2000000], [I 60000000]].length : Int)) then
 (M_cncmill_Source_Next [I 5, .view kInts (wA o19 1), jA o19 2]).bind fun o20 =>
 bif decide (0 <= gA o20 0) && decide (gA o20 0 < (↑[[I 0], [I 1], [I 2], [I 4], [I 9]].length : Int)) then
 bif x3 == 5 then
 g_cncmill_motion_2 M_cncmill_Source_Next o20 x3 h1_0 h1_1 h1_2 h1_3 h1_4 h1_5 h1_6 h1_7 h1_8 h1_9 h1_10 h1_11 h1_12 h1_13 h1_16 h1_17 h1_20 h1_21
 else
 bif x3 == 6 then
 g_cncmill_motion_2 M_cncmill_Source_Next o20 x3 h1_0 h1_1 h1_2 h1_3 h1_4 h1_5 h1_6 h1_7 h1_8 h1_9 h1_10 h1_11 h1_12 h1_13 h1_16 h1_17 h1_20 h1_21
 else
 bif x3 == 4 then
 some [h1_0, h1_1, h1_2, h1_3, h1_4, h1_5, h1_6, h1_7, h1_8, h1_9, h1_10, h1_11, h1_12, h1_13, I (intOf (nth .dead (nth [] [[I 300000], [I 1], [I 60000], [I 2000000], [I 60000000]] (gA o19 0).toNat) 0)), h1_15, h1_16, h1_17, I 0, h1_19, h1_20, h1_21, .view kInts (wA o20 1), jA o20 2]
 else
 some [h1_0, h1_1, h1_2, h1_3, h1_4, h1_5, h1_6, h1_7, h1_8, h1_9, h1_10, h1_11, h1_12, h1_13, I (intOf (nth .dead (nth [] [[I 300000], [I 1], [I 60000], [I 2000000], [I 60000000]] (gA o19 0).toNat) 0)), h1_15, h1_16, h1_17, I (intOf (nth .dead (nth [] [[I 0], [I 1], [I 2], [I 4], [I 9]] (gA o20 0).toNat) 0)), h1_19, h1_20, h1_21, .view kInts (wA o20 1), jA o20 2]
 else
 none
 else
 none
attribute [go_sem] g_cncmill_motion_1
theorem mf_cncmill_motion_eq (M_cncmill_Source_Next M_cncmill_arc : Fn) (x0 x1 x2 x3 : Int) (x4 : Rw) (x5 : Int) : mf_cncmill_motion M_cncmill_Source_Next M_cncmill_arc [I x0, I x1, I x2, I x3, .view kInts x4, I x5] =
 bif x3 == 3 then
 (M_cncmill_arc [I x0, I x1, I x2, I 8, .view kInts x4, I x5]).bind fun o18 =>
 g_cncmill_motion_1 x3 M_cncmill_Source_Next (jA o18 0) (jA o18 1) (jA o18 2) (jA o18 3) (jA o18 4) (jA o18 5) (jA o18 6) (jA o18 7) (jA o18 8) (jA o18 9) (jA o18 10) (jA o18 11) (jA o18 12) (B (bA o18 13)) (jA o18 14) (B (bA o18 15)) (jA o18 16) (jA o18 17) (jA o18 18) (jA o18 19) (jA o18 20) (B (bA o18 21)) (.view kInts (wA o18 22)) (jA o18 23)
 else
 (M_cncmill_Source_Next [I 25, .view kInts x4, I x5]).bind fun o25 =>
 (M_cncmill_Source_Next [I 25, .view kInts (wA o25 1), jA o25 2]).bind fun o26 =>
 (M_cncmill_Source_Next [I 3, .view kInts (wA o26 1), jA o26 2]).bind fun o27 =>
 (M_cncmill_Source_Next [I 9, .view kInts (wA o27 1), jA o27 2]).bind fun o28 =>
 (M_cncmill_Source_Next [I 2, .view kInts (wA o28 1), jA o28 2]).bind fun o29 =>
 g_cncmill_motion_1 x3 M_cncmill_Source_Next (I x3) (I 0) (I x0) (I x1) (I x2) (I (IntKind.i64.wrap (IntKind.i64.wrap (x0 + gA o25 0) - 12))) (I (IntKind.i64.wrap (IntKind.i64.wrap (x1 + gA o26 0) - 12))) (I (IntKind.i64.wrap (IntKind.i64.wrap (x2 + IntKind.i64.wrap (gA o27 0 * gA o28 0)) - IntKind.i64.wrap (8 * gA o29 0)))) (I 0) (I 0) (I 0) (I 0) (I 0) (B false) (I 0) (B false) (I 0) (I 0) (I 0) (I 0) (I 0) (B false) (.view kInts (wA o29 1)) (jA o29 2) := by kernel_rfl
def m_cncmill_motion := mf_cncmill_motion m_cncmill_Source_Next m_cncmill_arc 
theorem sp_cncmill_motion : SpecOK Try.prog (C_cncmill_motion_0 m_cncmill_Source_Next m_cncmill_arc) := specOK_of rfl ⟨r_cncmill_Source_Next, r_cncmill_arc, trivial⟩
theorem r_cncmill_motion : RowOK Try.prog (79, spOf sig_cncmill_motion osig_cncmill_motion m_cncmill_motion) := row_of (C := (C_cncmill_motion_0 m_cncmill_Source_Next m_cncmill_arc)) (L := 64) (by kernel_rfl) (FnOK.bare rfl rfl rfl) sp_cncmill_motion eqOk mixOk (by kernel_rfl) (by kernel_rfl)
def sig_cncmill_Source_Left : Sk := { tmps := [tf [CS.ptr 20000 0]], boxes := [(20000, 138, [CS.sl kInts, ci])], rows := [] }
def osig_cncmill_Source_Left : Sk := { tmps := [tf [CS.bool]], boxes := [(20000, 138, [CS.sl kInts, ci])], rows := [] }
def C_cncmill_Source_Left_0 : Cfg := { spec := lookS [], eqOk := eqAll, ownOff := ownOff }
def mf_cncmill_Source_Left : Fn := modelF Try.prog C_cncmill_Source_Left_0 64 78 sig_cncmill_Source_Left osig_cncmill_Source_Left
theorem mf_cncmill_Source_Left_eq (x0 : Rw) (x1 : Int) : mf_cncmill_Source_Left [.view kInts x0, I x1] =
 some [B (decide (x1 < (x0.length : Int))), .view kInts x0, I x1] := by kernel_rfl
def m_cncmill_Source_Left := mf_cncmill_Source_Left 
theorem sp_cncmill_Source_Left : SpecOK Try.prog (C_cncmill_Source_Left_0 ) := specOK_of rfl trivial
theorem r_cncmill_Source_Left : RowOK Try.prog (78, spOf sig_cncmill_Source_Left osig_cncmill_Source_Left m_cncmill_Source_Left) := row_of (C := C_cncmill_Source_Left_0) (L := 64) (by kernel_rfl) (FnOK.bare rfl rfl rfl) sp_cncmill_Source_Left eqOk mixOk (by kernel_rfl) (by kernel_rfl)
def sig_cncmill_From : Sk := { tmps := [tf [CS.sl kInts]], boxes := [], rows := [] }
def osig_cncmill_From : Sk := { tmps := [tf [CS.ptr 5 0]], boxes := [(5, 138, [CS.sl kInts, ci])], rows := [] }
def C_cncmill_From_0 : Cfg := { spec := lookS [], eqOk := eqAll, ownOff := ownOff }
def mf_cncmill_From : Fn := modelF Try.prog C_cncmill_From_0 64 59 sig_cncmill_From osig_cncmill_From
theorem mf_cncmill_From_eq (x0 : Rw) : mf_cncmill_From [.view kInts x0] =
 some [.view kInts x0, I 0] := by kernel_rfl
def m_cncmill_From := mf_cncmill_From 
theorem sp_cncmill_From : SpecOK Try.prog (C_cncmill_From_0 ) := specOK_of rfl trivial
theorem r_cncmill_From : RowOK Try.prog (59, spOf sig_cncmill_From osig_cncmill_From m_cncmill_From) := row_of (C := C_cncmill_From_0) (L := 64) (by kernel_rfl) (FnOK.bare rfl rfl rfl) sp_cncmill_From eqOk mixOk (by kernel_rfl) (by kernel_rfl)
def sig_cncmill_Motions : Sk := { tmps := [tf [CS.sl kInts], tf [ci]], boxes := [], rows := [] }
def osig_cncmill_Motions : Sk := { tmps := [tf [CS.sl kItm]], boxes := [], rows := [] }
def C_cncmill_Motions_0 (M_cncmill_motion M_cncmill_Source_Left M_cncmill_Source_Next M_cncmill_From : Fn) : Cfg := { spec := lookS [(79, spOf sig_cncmill_motion osig_cncmill_motion M_cncmill_motion), (78, spOf sig_cncmill_Source_Left osig_cncmill_Source_Left M_cncmill_Source_Left), (61, spOf sig_cncmill_Source_Next osig_cncmill_Source_Next M_cncmill_Source_Next), (59, spOf sig_cncmill_From osig_cncmill_From M_cncmill_From)], eqOk := eqAll, pure := fun f => !(elemN [79, 78, 61, 59] f), ownOff := ownOff, prom := fun b => bif Nat.beq b 4 then [(6, 33)] else [] }
def sk_cncmill_Motions_4 : Sk := { tmps := [td, tf [ci], td, td, td, tf [CS.ptr 101000 0], tf [CS.own 6 22], tf [CS.ptr 7 0]] ++ dd 36, boxes := [(7, 31, [ci, ci, ci]), (101000, 138, [CS.sl kInts, ci])], rows := [(6, 33, kItm)] }
def ex_cncmill_Motions_4 : List (Ex × Sk) := [(Ex.exit 0, { tmps := [td, td, td, td, td, td, tf [CS.own 6 22]] ++ dd 37, boxes := [], rows := [(6, 33, kItm)] })]
def st_cncmill_Motions_4 (M_cncmill_motion M_cncmill_Source_Left M_cncmill_Source_Next M_cncmill_From : Fn) : Lp := stepL Try.prog (C_cncmill_Motions_0 M_cncmill_motion M_cncmill_Source_Left M_cncmill_Source_Next M_cncmill_From) 64 4 (bodyOf Try.prog 28 4) sk_cncmill_Motions_4 ex_cncmill_Motions_4
def C_cncmill_Motions_1 (M_cncmill_motion M_cncmill_Source_Left M_cncmill_Source_Next M_cncmill_From : Fn) (N4 : Lp) : Cfg := (C_cncmill_Motions_0 M_cncmill_motion M_cncmill_Source_Left M_cncmill_Source_Next M_cncmill_From).loop 4 sk_cncmill_Motions_4 ex_cncmill_Motions_4 N4
def mf_cncmill_Motions (M_cncmill_motion M_cncmill_Source_Left M_cncmill_Source_Next M_cncmill_From : Fn) (N4 : Lp) : Fn := modelF Try.prog (C_cncmill_Motions_1 M_cncmill_motion M_cncmill_Source_Left M_cncmill_Source_Next M_cncmill_From N4) 64 28 sig_cncmill_Motions osig_cncmill_Motions
theorem st_cncmill_Motions_4_eq (M_cncmill_motion M_cncmill_Source_Left M_cncmill_Source_Next M_cncmill_From : Fn) (v0 : Rw) (v1 v2 v3 v4 : Int) (v5 : Rw) (v6 : Int) : st_cncmill_Motions_4 M_cncmill_motion M_cncmill_Source_Left M_cncmill_Source_Next M_cncmill_From [.view kItm v0, I v1, I v2, I v3, I v4, .view kInts v5, I v6] =
 bif decide ((v0.length : Int) < v1) then
 (M_cncmill_Source_Left [.view kInts v5, I v6]).bind fun o19 =>
 bif bA o19 0 then
 (M_cncmill_Source_Next [I 5, .view kInts (wA o19 1), jA o19 2]).bind fun o20 =>
 bif decide (0 <= gA o20 0) && decide (gA o20 0 < (↑[[I 2], [I 2], [I 2], [I 3], [I 1]].length : Int)) then
 (M_cncmill_motion [I v2, I v3, I v4, I (intOf (nth .dead (nth [] [[I 2], [I 2], [I 2], [I 3], [I 1]] (gA o20 0).toNat) 0)), .view kInts (wA o20 1), jA o20 2]).bind fun o21 =>
 bif ((v0 ++ [[jA o21 0, jA o21 1, jA o21 2, jA o21 3, jA o21 4, jA o21 5, jA o21 6, jA o21 7, jA o21 8, jA o21 9, jA o21 10, jA o21 11, jA o21 12, B (bA o21 13), jA o21 14, B (bA o21 15), jA o21 16, jA o21 17, jA o21 18, jA o21 19, jA o21 20, B (bA o21 21)]]).length * 176).ble 140737488355328 then
 some (0, [.view kItm (v0 ++ [[jA o21 0, jA o21 1, jA o21 2, jA o21 3, jA o21 4, jA o21 5, jA o21 6, jA o21 7, jA o21 8, jA o21 9, jA o21 10, jA o21 11, jA o21 12, B (bA o21 13), jA o21 14, B (bA o21 15), jA o21 16, jA o21 17, jA o21 18, jA o21 19, jA o21 20, B (bA o21 21)]]), I v1, jA o21 5, jA o21 6, jA o21 7, .view kInts (wA o21 22), jA o21 23])
 else
 none
 else
 none
 else
 some (1, [.view kItm v0])
 else
 some (1, [.view kItm v0]) := by kernel_rfl
theorem mf_cncmill_Motions_eq (M_cncmill_motion M_cncmill_Source_Left M_cncmill_Source_Next M_cncmill_From : Fn) (N4 : Lp) (x0 : Rw) (x1 : Int) : mf_cncmill_Motions M_cncmill_motion M_cncmill_Source_Left M_cncmill_Source_Next M_cncmill_From N4 [.view kInts x0, I x1] =
 (M_cncmill_From [.view kInts x0]).bind fun o22 =>
 (M_cncmill_Source_Next [I 9, .view kInts (wA o22 0), jA o22 1]).bind fun o23 =>
 (M_cncmill_Source_Next [I 9, .view kInts (wA o23 1), jA o23 2]).bind fun o24 =>
 (M_cncmill_Source_Next [I 9, .view kInts (wA o24 1), jA o24 2]).bind fun o25 =>
 (N4 [.view kItm [], I x1, I (IntKind.i64.wrap (gA o23 0 - 4)), I (IntKind.i64.wrap (gA o24 0 - 4)), I (IntKind.i64.wrap (gA o25 0 - 4)), .view kInts (wA o25 1), jA o25 2]).bind fun o26 =>
 bif o26.1.beq 1 then
 some [.view kItm (wA o26.2 0)]
 else
 none := by kernel_rfl
def l_cncmill_Motions_4 := loopC (st_cncmill_Motions_4 m_cncmill_motion m_cncmill_Source_Left m_cncmill_Source_Next m_cncmill_From )
def m_cncmill_Motions := mf_cncmill_Motions m_cncmill_motion m_cncmill_Source_Left m_cncmill_Source_Next m_cncmill_From l_cncmill_Motions_4
theorem sp_cncmill_Motions : SpecOK Try.prog (C_cncmill_Motions_0 m_cncmill_motion m_cncmill_Source_Left m_cncmill_Source_Next m_cncmill_From) := specOK_of rfl ⟨r_cncmill_motion, r_cncmill_Source_Left, r_cncmill_Source_Next, r_cncmill_From, trivial⟩
theorem r_cncmill_Motions : RowOK Try.prog (28, spOf sig_cncmill_Motions osig_cncmill_Motions m_cncmill_Motions) := row_of (C := (C_cncmill_Motions_1 m_cncmill_motion m_cncmill_Source_Left m_cncmill_Source_Next m_cncmill_From l_cncmill_Motions_4)) (L := 64) (by kernel_rfl) ((FnOK.bare rfl rfl rfl).loop sp_cncmill_Motions eqOk mixOk (by kernel_rfl) (by kernel_rfl)) sp_cncmill_Motions eqOk mixOk (by kernel_rfl) (by kernel_rfl)
def sig_cncref25_Smooth : Sk := { tmps := [TS.v true [ci, ci, ci, ci, ci, ci, ci, ci, ci, ci, ci, ci, ci, CS.bool, ci, CS.bool, ci, ci, ci, ci, ci, CS.bool]], boxes := [], rows := [] }
def osig_cncref25_Smooth : Sk := { tmps := [tf [CS.bool]], boxes := [], rows := [] }
def C_cncref25_Smooth_0 : Cfg := { spec := lookS [], eqOk := eqAll, ownOff := ownOff }
def mf_cncref25_Smooth : Fn := modelF Try.prog C_cncref25_Smooth_0 64 100 sig_cncref25_Smooth osig_cncref25_Smooth
theorem mf_cncref25_Smooth_eq (x0 x1 x2 x3 x4 x5 x6 x7 x8 x9 x10 x11 x12 : Int) (x13 : Bool) (x14 : Int) (x15 : Bool) (x16 x17 x18 x19 x20 : Int) (x21 : Bool) : mf_cncref25_Smooth [I x0, I x1, I x2, I x3, I x4, I x5, I x6, I x7, I x8, I x9, I x10, I x11, I x12, B x13, I x14, B x15, I x16, I x17, I x18, I x19, I x20, B x21] =
 bif x0 == 2 then
 some [B !(x2 == x5 && (x3 == x6 && (x4 == x7 && true)))]
 else
 some [B false] := by kernel_rfl
def m_cncref25_Smooth := mf_cncref25_Smooth 
theorem sp_cncref25_Smooth : SpecOK Try.prog (C_cncref25_Smooth_0 ) := specOK_of rfl trivial
theorem r_cncref25_Smooth : RowOK Try.prog (100, spOf sig_cncref25_Smooth osig_cncref25_Smooth m_cncref25_Smooth) := row_of (C := C_cncref25_Smooth_0) (L := 64) (by kernel_rfl) (FnOK.bare rfl rfl rfl) sp_cncref25_Smooth eqOk mixOk (by kernel_rfl) (by kernel_rfl)
def sig_cncref25_Soft : Sk := { tmps := [tf [CS.sl kItm], tf [ci]], boxes := [], rows := [] }
def osig_cncref25_Soft : Sk := { tmps := [tf [ci]], boxes := [], rows := [] }
def C_cncref25_Soft_0 (M_cncref25_Smooth : Fn) : Cfg := { spec := lookS [(100, spOf sig_cncref25_Smooth osig_cncref25_Smooth M_cncref25_Smooth)], eqOk := eqAll, ownOff := ownOff }
def sk_cncref25_Soft_4 : Sk := { tmps := [tf [CS.sl kItm], td, td, td, td, tf [ci]] ++ dd 34, boxes := [], rows := [] }
def ex_cncref25_Soft_4 : List (Ex × Sk) := [(Ex.ret, { tmps := [td, td, td, td, tf [ci]] ++ dd 35, boxes := [], rows := [] }), (Ex.exit 0, { tmps := [td] ++ dd 39, boxes := [], rows := [] })]
def st_cncref25_Soft_4 (M_cncref25_Smooth : Fn) : Lp := stepL Try.prog (C_cncref25_Soft_0 M_cncref25_Smooth) 64 4 (bodyOf Try.prog 49 4) sk_cncref25_Soft_4 ex_cncref25_Soft_4
def C_cncref25_Soft_1 (M_cncref25_Smooth : Fn) (N4 : Lp) : Cfg := (C_cncref25_Soft_0 M_cncref25_Smooth).loop 4 sk_cncref25_Soft_4 ex_cncref25_Soft_4 N4
def mf_cncref25_Soft (M_cncref25_Smooth : Fn) (N4 : Lp) : Fn := modelF Try.prog (C_cncref25_Soft_1 M_cncref25_Smooth N4) 64 49 sig_cncref25_Soft osig_cncref25_Soft
theorem st_cncref25_Soft_4_eq (M_cncref25_Smooth : Fn) (v0 : Rw) (v1 : Int) : st_cncref25_Soft_4 M_cncref25_Smooth [.view kItm v0, I v1] =
 bif decide (v1 < (v0.length : Int)) then
 bif decide (0 <= v1) && decide (v1 < (v0.length : Int)) then
 bif gA (nth [] v0 v1.toNat) 0 == 10 then
 some (0, [.view kItm v0, I (IntKind.i64.wrap (v1 + 1))])
 else
 bif decide (0 <= v1) && decide (v1 < (v0.length : Int)) then
 (M_cncref25_Smooth [jA (nth [] v0 v1.toNat) 0, jA (nth [] v0 v1.toNat) 1, jA (nth [] v0 v1.toNat) 2, jA (nth [] v0 v1.toNat) 3, jA (nth [] v0 v1.toNat) 4, jA (nth [] v0 v1.toNat) 5, jA (nth [] v0 v1.toNat) 6, jA (nth [] v0 v1.toNat) 7, jA (nth [] v0 v1.toNat) 8, jA (nth [] v0 v1.toNat) 9, jA (nth [] v0 v1.toNat) 10, jA (nth [] v0 v1.toNat) 11, jA (nth [] v0 v1.toNat) 12, B (bA (nth [] v0 v1.toNat) 13), jA (nth [] v0 v1.toNat) 14, B (bA (nth [] v0 v1.toNat) 15), jA (nth [] v0 v1.toNat) 16, jA (nth [] v0 v1.toNat) 17, jA (nth [] v0 v1.toNat) 18, jA (nth [] v0 v1.toNat) 19, jA (nth [] v0 v1.toNat) 20, B (bA (nth [] v0 v1.toNat) 21)]).bind fun o4 =>
 bif bA o4 0 then
 some (1, [I v1])
 else
 some (1, [I (-1)])
 else
 none
 else
 none
 else
 some (2, []) := by kernel_rfl
theorem mf_cncref25_Soft_eq (M_cncref25_Smooth : Fn) (N4 : Lp) (x0 : Rw) (x1 : Int) : mf_cncref25_Soft M_cncref25_Smooth N4 [.view kItm x0, I x1] =
 bif decide (0 <= x1) && decide (x1 < (x0.length : Int)) then
 (M_cncref25_Smooth [jA (nth [] x0 x1.toNat) 0, jA (nth [] x0 x1.toNat) 1, jA (nth [] x0 x1.toNat) 2, jA (nth [] x0 x1.toNat) 3, jA (nth [] x0 x1.toNat) 4, jA (nth [] x0 x1.toNat) 5, jA (nth [] x0 x1.toNat) 6, jA (nth [] x0 x1.toNat) 7, jA (nth [] x0 x1.toNat) 8, jA (nth [] x0 x1.toNat) 9, jA (nth [] x0 x1.toNat) 10, jA (nth [] x0 x1.toNat) 11, jA (nth [] x0 x1.toNat) 12, B (bA (nth [] x0 x1.toNat) 13), jA (nth [] x0 x1.toNat) 14, B (bA (nth [] x0 x1.toNat) 15), jA (nth [] x0 x1.toNat) 16, jA (nth [] x0 x1.toNat) 17, jA (nth [] x0 x1.toNat) 18, jA (nth [] x0 x1.toNat) 19, jA (nth [] x0 x1.toNat) 20, B (bA (nth [] x0 x1.toNat) 21)]).bind fun o5 =>
 bif !bA o5 0 then
 some [I (-1)]
 else
 bif decide (0 <= x1) && decide (x1 < (x0.length : Int)) then
 bif gA (nth [] x0 x1.toNat) 18 == 0 then
 some [I (-1)]
 else
 (N4 [.view kItm x0, I (IntKind.i64.wrap (x1 + 1))]).bind fun o6 =>
 bif o6.1.beq 1 then
 some [jA o6.2 0]
 else
 bif o6.1.beq 2 then
 some [I (-1)]
 else
 none
 else
 none
 else
 none := by kernel_rfl
def l_cncref25_Soft_4 := loopC (st_cncref25_Soft_4 m_cncref25_Smooth )
def m_cncref25_Soft := mf_cncref25_Soft m_cncref25_Smooth l_cncref25_Soft_4
theorem sp_cncref25_Soft : SpecOK Try.prog (C_cncref25_Soft_0 m_cncref25_Smooth) := specOK_of rfl ⟨r_cncref25_Smooth, trivial⟩
theorem r_cncref25_Soft : RowOK Try.prog (49, spOf sig_cncref25_Soft osig_cncref25_Soft m_cncref25_Soft) := row_of (C := (C_cncref25_Soft_1 m_cncref25_Smooth l_cncref25_Soft_4)) (L := 64) (by kernel_rfl) ((FnOK.bare rfl rfl rfl).loop sp_cncref25_Soft eqOk mixOk (by kernel_rfl) (by kernel_rfl)) sp_cncref25_Soft eqOk mixOk (by kernel_rfl) (by kernel_rfl)
end Go.Bm
