/- functions of the program and of the references, as models -/
import Derived.Test.YtdllaekpkcanbaaGreatMx3
set_option linter.unusedSimpArgs false
set_option linter.unusedVariables false
set_option maxRecDepth 100000
noncomputable section
namespace Go.Bm
open Go.Proofs
def sig_path_points : Sk := { tmps := [tf [CS.sl kItm], tf [ci], tf [ci]], boxes := [], rows := [] }
def osig_path_points : Sk := { tmps := [tf [CS.sl kPt]], boxes := [], rows := [] }
def C_path_points_0 (Qbd Qbb Qby Qiy Qau M_curve_Chords : Fn) : Cfg := { spec := Qbx [(131, spOf sig_path_middle osig_path_middle Qbd), (110, spOf sig_path_next osig_path_next Qbb), (109, spOf sig_path_soft osig_path_soft Qby), (145, spOf sig_path_corner osig_path_corner Qiy), (88, spOf sig_path_smooth Qih Qau), (144, spOf sig_curve_Chords osig_curve_Chords M_curve_Chords)], eqOk := Qb2, ownOff := ownOff }
def mf_path_points (Qbd Qbb Qby Qiy Qau M_curve_Chords : Fn) : Fn := Qax Tryz.prog (C_path_points_0 Qbd Qbb Qby Qiy Qau M_curve_Chords) 64 129 sig_path_points osig_path_points
theorem mf_path_points_eq (Qbd Qbb Qby Qiy Qau M_curve_Chords : Fn) (x0 : Rw) (x1 x2 : Int) : mf_path_points Qbd Qbb Qby Qiy Qau M_curve_Chords [.view kItm x0, I x1, I x2] =
 bif decide (0 <= x1) && decide (x1 < (x0.length : Int)) then
 (M_curve_Chords [jA (nth [] x0 x1.toNat) 0, jA (nth [] x0 x1.toNat) 1, jA (nth [] x0 x1.toNat) 2, jA (nth [] x0 x1.toNat) 3, jA (nth [] x0 x1.toNat) 4, jA (nth [] x0 x1.toNat) 5, jA (nth [] x0 x1.toNat) 6, jA (nth [] x0 x1.toNat) 7, jA (nth [] x0 x1.toNat) 8, jA (nth [] x0 x1.toNat) 9, jA (nth [] x0 x1.toNat) 10, jA (nth [] x0 x1.toNat) 11, jA (nth [] x0 x1.toNat) 12, B (bA (nth [] x0 x1.toNat) 13), jA (nth [] x0 x1.toNat) 14, B (bA (nth [] x0 x1.toNat) 15), jA (nth [] x0 x1.toNat) 16, jA (nth [] x0 x1.toNat) 17, jA (nth [] x0 x1.toNat) 18, jA (nth [] x0 x1.toNat) 19, jA (nth [] x0 x1.toNat) 20, B (bA (nth [] x0 x1.toNat) 21)]).bind fun o13 =>
 (Qau [jA (nth [] x0 x1.toNat) 0, jA (nth [] x0 x1.toNat) 1, jA (nth [] x0 x1.toNat) 2, jA (nth [] x0 x1.toNat) 3, jA (nth [] x0 x1.toNat) 4, jA (nth [] x0 x1.toNat) 5, jA (nth [] x0 x1.toNat) 6, jA (nth [] x0 x1.toNat) 7, jA (nth [] x0 x1.toNat) 8, jA (nth [] x0 x1.toNat) 9, jA (nth [] x0 x1.toNat) 10, jA (nth [] x0 x1.toNat) 11, jA (nth [] x0 x1.toNat) 12, B (bA (nth [] x0 x1.toNat) 13), jA (nth [] x0 x1.toNat) 14, B (bA (nth [] x0 x1.toNat) 15), jA (nth [] x0 x1.toNat) 16, jA (nth [] x0 x1.toNat) 17, jA (nth [] x0 x1.toNat) 18, jA (nth [] x0 x1.toNat) 19, jA (nth [] x0 x1.toNat) 20, B (bA (nth [] x0 x1.toNat) 21)]).bind fun o14 =>
 bif !bA o14 0 then
 some [.view kPt (wA o13 0)]
 else
 bif decide (0 <= 1) && decide (1 <= (↑(wA o13 0).length : Int)) then
 bif decide (0 <= IntKind.i64.wrap ((↑(wA o13 0).length : Int) - 1)) && decide (IntKind.i64.wrap ((↑(wA o13 0).length : Int) - 1) <= (↑(wA o13 0).length : Int)) then
 bif decide (x2 >= 0) then
 bif decide (0 <= x2) && decide (x2 < (x0.length : Int)) then
 (Qiy [jA (nth [] x0 x2.toNat) 0, jA (nth [] x0 x2.toNat) 1, jA (nth [] x0 x2.toNat) 2, jA (nth [] x0 x2.toNat) 3, jA (nth [] x0 x2.toNat) 4, jA (nth [] x0 x2.toNat) 5, jA (nth [] x0 x2.toNat) 6, jA (nth [] x0 x2.toNat) 7, jA (nth [] x0 x2.toNat) 8, jA (nth [] x0 x2.toNat) 9, jA (nth [] x0 x2.toNat) 10, jA (nth [] x0 x2.toNat) 11, jA (nth [] x0 x2.toNat) 12, B (bA (nth [] x0 x2.toNat) 13), jA (nth [] x0 x2.toNat) 14, B (bA (nth [] x0 x2.toNat) 15), jA (nth [] x0 x2.toNat) 16, jA (nth [] x0 x2.toNat) 17, jA (nth [] x0 x2.toNat) 18, jA (nth [] x0 x2.toNat) 19, jA (nth [] x0 x2.toNat) 20, B (bA (nth [] x0 x2.toNat) 21), jA (nth [] x0 x1.toNat) 0, jA (nth [] x0 x1.toNat) 1, jA (nth [] x0 x1.toNat) 2, jA (nth [] x0 x1.toNat) 3, jA (nth [] x0 x1.toNat) 4, jA (nth [] x0 x1.toNat) 5, jA (nth [] x0 x1.toNat) 6, jA (nth [] x0 x1.toNat) 7, jA (nth [] x0 x1.toNat) 8, jA (nth [] x0 x1.toNat) 9, jA (nth [] x0 x1.toNat) 10, jA (nth [] x0 x1.toNat) 11, jA (nth [] x0 x1.toNat) 12, B (bA (nth [] x0 x1.toNat) 13), jA (nth [] x0 x1.toNat) 14, B (bA (nth [] x0 x1.toNat) 15), jA (nth [] x0 x1.toNat) 16, jA (nth [] x0 x1.toNat) 17, jA (nth [] x0 x1.toNat) 18, jA (nth [] x0 x1.toNat) 19, jA (nth [] x0 x1.toNat) 20, B (bA (nth [] x0 x1.toNat) 21)]).bind fun o15 =>
 (Qby [.view kItm x0, I x1]).bind fun o16 =>
 bif bA o16 0 then
 (Qbb [.view kItm x0, I x1]).bind fun o17 =>
 bif decide (0 <= gA o17 0) && decide (gA o17 0 < (x0.length : Int)) then
 (Qiy [jA (nth [] x0 x1.toNat) 0, jA (nth [] x0 x1.toNat) 1, jA (nth [] x0 x1.toNat) 2, jA (nth [] x0 x1.toNat) 3, jA (nth [] x0 x1.toNat) 4, jA (nth [] x0 x1.toNat) 5, jA (nth [] x0 x1.toNat) 6, jA (nth [] x0 x1.toNat) 7, jA (nth [] x0 x1.toNat) 8, jA (nth [] x0 x1.toNat) 9, jA (nth [] x0 x1.toNat) 10, jA (nth [] x0 x1.toNat) 11, jA (nth [] x0 x1.toNat) 12, B (bA (nth [] x0 x1.toNat) 13), jA (nth [] x0 x1.toNat) 14, B (bA (nth [] x0 x1.toNat) 15), jA (nth [] x0 x1.toNat) 16, jA (nth [] x0 x1.toNat) 17, jA (nth [] x0 x1.toNat) 18, jA (nth [] x0 x1.toNat) 19, jA (nth [] x0 x1.toNat) 20, B (bA (nth [] x0 x1.toNat) 21), jA (nth [] x0 (gA o17 0).toNat) 0, jA (nth [] x0 (gA o17 0).toNat) 1, jA (nth [] x0 (gA o17 0).toNat) 2, jA (nth [] x0 (gA o17 0).toNat) 3, jA (nth [] x0 (gA o17 0).toNat) 4, jA (nth [] x0 (gA o17 0).toNat) 5, jA (nth [] x0 (gA o17 0).toNat) 6, jA (nth [] x0 (gA o17 0).toNat) 7, jA (nth [] x0 (gA o17 0).toNat) 8, jA (nth [] x0 (gA o17 0).toNat) 9, jA (nth [] x0 (gA o17 0).toNat) 10, jA (nth [] x0 (gA o17 0).toNat) 11, jA (nth [] x0 (gA o17 0).toNat) 12, B (bA (nth [] x0 (gA o17 0).toNat) 13), jA (nth [] x0 (gA o17 0).toNat) 14, B (bA (nth [] x0 (gA o17 0).toNat) 15), jA (nth [] x0 (gA o17 0).toNat) 16, jA (nth [] x0 (gA o17 0).toNat) 17, jA (nth [] x0 (gA o17 0).toNat) 18, jA (nth [] x0 (gA o17 0).toNat) 19, jA (nth [] x0 (gA o17 0).toNat) 20, B (bA (nth [] x0 (gA o17 0).toNat) 21)]).bind fun o18 =>
 bif (([] ++ wA o15 1).length * 24).ble 140737488355328 then
 (Qbd [jA (nth [] x0 x1.toNat) 0, jA (nth [] x0 x1.toNat) 1, jA (nth [] x0 x1.toNat) 2, jA (nth [] x0 x1.toNat) 3, jA (nth [] x0 x1.toNat) 4, jA (nth [] x0 x1.toNat) 5, jA (nth [] x0 x1.toNat) 6, jA (nth [] x0 x1.toNat) 7, jA (nth [] x0 x1.toNat) 8, jA (nth [] x0 x1.toNat) 9, jA (nth [] x0 x1.toNat) 10, jA (nth [] x0 x1.toNat) 11, jA (nth [] x0 x1.toNat) 12, B (bA (nth [] x0 x1.toNat) 13), jA (nth [] x0 x1.toNat) 14, B (bA (nth [] x0 x1.toNat) 15), jA (nth [] x0 x1.toNat) 16, jA (nth [] x0 x1.toNat) 17, jA (nth [] x0 x1.toNat) 18, jA (nth [] x0 x1.toNat) 19, jA (nth [] x0 x1.toNat) 20, B (bA (nth [] x0 x1.toNat) 21)]).bind fun o19 =>
 bif (([] ++ wA o15 1 ++ [[jA o19 0, jA o19 1, jA o19 2]]).length * 24).ble 140737488355328 then
 bif (([] ++ wA o15 1 ++ [[jA o19 0, jA o19 1, jA o19 2]] ++ wA o18 0).length * 24).ble 140737488355328 then
 some [.view kPt ([] ++ wA o15 1 ++ [[jA o19 0, jA o19 1, jA o19 2]] ++ wA o18 0)]
 else
 none
 else
 none
 else
 none
 else
 none
 else
 bif (([] ++ wA o15 1).length * 24).ble 140737488355328 then
 (Qbd [jA (nth [] x0 x1.toNat) 0, jA (nth [] x0 x1.toNat) 1, jA (nth [] x0 x1.toNat) 2, jA (nth [] x0 x1.toNat) 3, jA (nth [] x0 x1.toNat) 4, jA (nth [] x0 x1.toNat) 5, jA (nth [] x0 x1.toNat) 6, jA (nth [] x0 x1.toNat) 7, jA (nth [] x0 x1.toNat) 8, jA (nth [] x0 x1.toNat) 9, jA (nth [] x0 x1.toNat) 10, jA (nth [] x0 x1.toNat) 11, jA (nth [] x0 x1.toNat) 12, B (bA (nth [] x0 x1.toNat) 13), jA (nth [] x0 x1.toNat) 14, B (bA (nth [] x0 x1.toNat) 15), jA (nth [] x0 x1.toNat) 16, jA (nth [] x0 x1.toNat) 17, jA (nth [] x0 x1.toNat) 18, jA (nth [] x0 x1.toNat) 19, jA (nth [] x0 x1.toNat) 20, B (bA (nth [] x0 x1.toNat) 21)]).bind fun o20 =>
 bif (([] ++ wA o15 1 ++ [[jA o20 0, jA o20 1, jA o20 2]]).length * 24).ble 140737488355328 then
 bif (([] ++ wA o15 1 ++ [[jA o20 0, jA o20 1, jA o20 2]] ++ List.drop (IntKind.i64.wrap ((↑(wA o13 0).length : Int) - 1)).toNat (wA o13 0)).length * 24).ble 140737488355328 then
 some [.view kPt ([] ++ wA o15 1 ++ [[jA o20 0, jA o20 1, jA o20 2]] ++ List.drop (IntKind.i64.wrap ((↑(wA o13 0).length : Int) - 1)).toNat (wA o13 0))]
 else
 none
 else
 none
 else
 none
 else
 none
 else
 (Qby [.view kItm x0, I x1]).bind fun o21 =>
 bif bA o21 0 then
 (Qbb [.view kItm x0, I x1]).bind fun o22 =>
 bif decide (0 <= gA o22 0) && decide (gA o22 0 < (x0.length : Int)) then
 (Qiy [jA (nth [] x0 x1.toNat) 0, jA (nth [] x0 x1.toNat) 1, jA (nth [] x0 x1.toNat) 2, jA (nth [] x0 x1.toNat) 3, jA (nth [] x0 x1.toNat) 4, jA (nth [] x0 x1.toNat) 5, jA (nth [] x0 x1.toNat) 6, jA (nth [] x0 x1.toNat) 7, jA (nth [] x0 x1.toNat) 8, jA (nth [] x0 x1.toNat) 9, jA (nth [] x0 x1.toNat) 10, jA (nth [] x0 x1.toNat) 11, jA (nth [] x0 x1.toNat) 12, B (bA (nth [] x0 x1.toNat) 13), jA (nth [] x0 x1.toNat) 14, B (bA (nth [] x0 x1.toNat) 15), jA (nth [] x0 x1.toNat) 16, jA (nth [] x0 x1.toNat) 17, jA (nth [] x0 x1.toNat) 18, jA (nth [] x0 x1.toNat) 19, jA (nth [] x0 x1.toNat) 20, B (bA (nth [] x0 x1.toNat) 21), jA (nth [] x0 (gA o22 0).toNat) 0, jA (nth [] x0 (gA o22 0).toNat) 1, jA (nth [] x0 (gA o22 0).toNat) 2, jA (nth [] x0 (gA o22 0).toNat) 3, jA (nth [] x0 (gA o22 0).toNat) 4, jA (nth [] x0 (gA o22 0).toNat) 5, jA (nth [] x0 (gA o22 0).toNat) 6, jA (nth [] x0 (gA o22 0).toNat) 7, jA (nth [] x0 (gA o22 0).toNat) 8, jA (nth [] x0 (gA o22 0).toNat) 9, jA (nth [] x0 (gA o22 0).toNat) 10, jA (nth [] x0 (gA o22 0).toNat) 11, jA (nth [] x0 (gA o22 0).toNat) 12, B (bA (nth [] x0 (gA o22 0).toNat) 13), jA (nth [] x0 (gA o22 0).toNat) 14, B (bA (nth [] x0 (gA o22 0).toNat) 15), jA (nth [] x0 (gA o22 0).toNat) 16, jA (nth [] x0 (gA o22 0).toNat) 17, jA (nth [] x0 (gA o22 0).toNat) 18, jA (nth [] x0 (gA o22 0).toNat) 19, jA (nth [] x0 (gA o22 0).toNat) 20, B (bA (nth [] x0 (gA o22 0).toNat) 21)]).bind fun o23 =>
 bif (([] ++ List.take (Int.toNat 1) (wA o13 0)).length * 24).ble 140737488355328 then
 (Qbd [jA (nth [] x0 x1.toNat) 0, jA (nth [] x0 x1.toNat) 1, jA (nth [] x0 x1.toNat) 2, jA (nth [] x0 x1.toNat) 3, jA (nth [] x0 x1.toNat) 4, jA (nth [] x0 x1.toNat) 5, jA (nth [] x0 x1.toNat) 6, jA (nth [] x0 x1.toNat) 7, jA (nth [] x0 x1.toNat) 8, jA (nth [] x0 x1.toNat) 9, jA (nth [] x0 x1.toNat) 10, jA (nth [] x0 x1.toNat) 11, jA (nth [] x0 x1.toNat) 12, B (bA (nth [] x0 x1.toNat) 13), jA (nth [] x0 x1.toNat) 14, B (bA (nth [] x0 x1.toNat) 15), jA (nth [] x0 x1.toNat) 16, jA (nth [] x0 x1.toNat) 17, jA (nth [] x0 x1.toNat) 18, jA (nth [] x0 x1.toNat) 19, jA (nth [] x0 x1.toNat) 20, B (bA (nth [] x0 x1.toNat) 21)]).bind fun o24 =>
 bif (([] ++ List.take (Int.toNat 1) (wA o13 0) ++ [[jA o24 0, jA o24 1, jA o24 2]]).length * 24).ble 140737488355328 then
 bif (([] ++ List.take (Int.toNat 1) (wA o13 0) ++ [[jA o24 0, jA o24 1, jA o24 2]] ++ wA o23 0).length * 24).ble 140737488355328 then
 some [.view kPt ([] ++ List.take (Int.toNat 1) (wA o13 0) ++ [[jA o24 0, jA o24 1, jA o24 2]] ++ wA o23 0)]
 else
 none
 else
 none
 else
 none
 else
 none
 else
 bif (([] ++ List.take (Int.toNat 1) (wA o13 0)).length * 24).ble 140737488355328 then
 (Qbd [jA (nth [] x0 x1.toNat) 0, jA (nth [] x0 x1.toNat) 1, jA (nth [] x0 x1.toNat) 2, jA (nth [] x0 x1.toNat) 3, jA (nth [] x0 x1.toNat) 4, jA (nth [] x0 x1.toNat) 5, jA (nth [] x0 x1.toNat) 6, jA (nth [] x0 x1.toNat) 7, jA (nth [] x0 x1.toNat) 8, jA (nth [] x0 x1.toNat) 9, jA (nth [] x0 x1.toNat) 10, jA (nth [] x0 x1.toNat) 11, jA (nth [] x0 x1.toNat) 12, B (bA (nth [] x0 x1.toNat) 13), jA (nth [] x0 x1.toNat) 14, B (bA (nth [] x0 x1.toNat) 15), jA (nth [] x0 x1.toNat) 16, jA (nth [] x0 x1.toNat) 17, jA (nth [] x0 x1.toNat) 18, jA (nth [] x0 x1.toNat) 19, jA (nth [] x0 x1.toNat) 20, B (bA (nth [] x0 x1.toNat) 21)]).bind fun o25 =>
 bif (([] ++ List.take (Int.toNat 1) (wA o13 0) ++ [[jA o25 0, jA o25 1, jA o25 2]]).length * 24).ble 140737488355328 then
 bif (([] ++ List.take (Int.toNat 1) (wA o13 0) ++ [[jA o25 0, jA o25 1, jA o25 2]] ++ List.drop (IntKind.i64.wrap ((↑(wA o13 0).length : Int) - 1)).toNat (wA o13 0)).length * 24).ble 140737488355328 then
 some [.view kPt ([] ++ List.take (Int.toNat 1) (wA o13 0) ++ [[jA o25 0, jA o25 1, jA o25 2]] ++ List.drop (IntKind.i64.wrap ((↑(wA o13 0).length : Int) - 1)).toNat (wA o13 0))]
 else
 none
 else
 none
 else
 none
 else
 none
 else
 none
 else
 none := by kernel_rfl
def m_path_points := mf_path_points Qep Qe8 Qgs m_path_corner Qc5 m_curve_Chords 
theorem sp_path_points : Qak Tryz.prog (C_path_points_0 Qep Qe8 Qgs m_path_corner Qc5 m_curve_Chords) := Qae rfl ⟨r_path_middle, r_path_next, r_path_soft, r_path_corner, r_path_smooth, r_curve_Chords, trivial⟩
theorem r_path_points : Qbm Tryz.prog (129, spOf sig_path_points osig_path_points m_path_points) := Qa0 (C := (C_path_points_0 Qep Qe8 Qgs m_path_corner Qc5 m_curve_Chords)) (L := 64) (by kernel_rfl) (FnOK.bare rfl rfl rfl) sp_path_points eqOk Qa9 (by kernel_rfl) (by kernel_rfl)
def sig_path_Rate : Sk := { tmps := [TS.v true [ci, ci, ci, ci, ci, ci, ci, ci, ci, ci, ci, ci, ci, CS.bool, ci, CS.bool, ci, ci, ci, ci, ci, CS.bool], tf [ci]], boxes := [], rows := [] }
def osig_path_Rate : Sk := { tmps := [tf [ci]], boxes := [], rows := [] }
def C_path_Rate_0 (Qb9 : Fn) : Cfg := { spec := Qbx [(70, spOf sig_wide_MulDiv osig_wide_MulDiv Qb9)], eqOk := Qb2, ownOff := ownOff }
def mf_path_Rate (Qb9 : Fn) : Fn := Qax Tryz.prog (C_path_Rate_0 Qb9) 64 127 sig_path_Rate osig_path_Rate
theorem mf_path_Rate_eq (Qb9 : Fn) (x0 x1 x2 x3 x4 x5 x6 x7 x8 x9 x10 x11 x12 : Int) (x13 : Bool) (x14 : Int) (x15 : Bool) (x16 x17 x18 x19 x20 : Int) (x21 : Bool) (x22 : Int) : mf_path_Rate Qb9 [I x0, I x1, I x2, I x3, I x4, I x5, I x6, I x7, I x8, I x9, I x10, I x11, I x12, B x13, I x14, B x15, I x16, I x17, I x18, I x19, I x20, B x21, I x22] =
 bif x0 == 1 then
 some [I 0]
 else
 bif x15 then
 (Qb9 [I (mn (IntKind.i64.wrap (x14 * mx x22 1)) 60000000), I 4096, I 60000, I 2]).bind fun o2 =>
 some [I (mx (gA o2 0) 1)]
 else
 (Qb9 [I (mn x14 60000000), I 4096, I 60000, I 2]).bind fun o3 =>
 some [I (mx (gA o3 0) 1)] := by kernel_rfl
def m_path_Rate := mf_path_Rate Qeq 
theorem sp_path_Rate : Qak Tryz.prog (C_path_Rate_0 Qeq) := Qae rfl ⟨r_wide_MulDiv, trivial⟩
theorem r_path_Rate : Qbm Tryz.prog (127, spOf sig_path_Rate osig_path_Rate m_path_Rate) := Qa0 (C := (C_path_Rate_0 Qeq)) (L := 64) (by kernel_rfl) (FnOK.bare rfl rfl rfl) sp_path_Rate eqOk Qa9 (by kernel_rfl) (by kernel_rfl)
def sig_path_builder_move : Sk := { tmps := [tf [CS.ptr 20000 0], tf [CS.sl kItm], tf [ci], tf [ci]], boxes := [(20000, 108, [ci, ci, ci, CS.own 20000 7, CS.own 20001 3, CS.bool, ci, ci, ci])], rows := [(20000, 78, kSgm), (20001, 80, kPt)] }
def osig_path_builder_move : Sk := { tmps := [tf [CS.bool]], boxes := [(20000, 108, [ci, ci, ci, CS.own 20000 7, CS.own 20001 3, CS.bool, ci, ci, ci])], rows := [(20000, 78, kSgm), (20001, 80, kPt)] }
def C_path_builder_move_0 (Qbd Qau Qcu Qdv Qbp Qgx : Fn) : Cfg := { spec := Qbx [(131, spOf sig_path_middle osig_path_middle Qbd), (88, spOf sig_path_smooth Qih Qau), (130, spOf sig_path_builder_add osig_path_builder_add Qcu), (129, spOf sig_path_points osig_path_points Qdv), (128, spOf sig_path_geared osig_path_geared Qbp), (127, spOf sig_path_Rate osig_path_Rate Qgx)], eqOk := Qb2, pure := fun f => !(Qft [130] f), ownOff := ownOff }
def sk_path_builder_move_6 : Sk := { tmps := [tf [CS.ptr 20000 0], td, td, td, td, td, td, td, td, tf [CS.ptr 9 0], tf [CS.ptr 10 0], td, td, td, td, td, td, td, td, td, td, td, td, td, td, td, td, td, td, td, td, td, td, td, td, tf [CS.sl kPt], tf [ci], tf [ci]] ++ dd 30, boxes := [(9, 67, [ci, ci, ci, ci, ci, ci, ci, ci, ci, ci, ci, ci, ci, CS.bool, ci, CS.bool, ci, ci, ci, ci, ci, CS.bool]), (10, 78, [ci, ci, ci, ci, ci, ci, ci]), (20000, 108, [ci, ci, ci, CS.own 20000 7, CS.own 20001 3, CS.bool, ci, ci, ci])], rows := [(20000, 78, kSgm), (20001, 80, kPt)] }
def ex_path_builder_move_6 : List (Ex × Sk) := [(Ex.exit 0, { tmps := [tf [CS.ptr 20000 0]] ++ dd 67, boxes := [(20000, 108, [ci, ci, ci, CS.own 20000 7, CS.own 20001 3, CS.bool, ci, ci, ci])], rows := [(20000, 78, kSgm), (20001, 80, kPt)] })]
def Qea (Qbd Qau Qcu Qdv Qbp Qgx : Fn) : Lp := stepL Tryz.prog (C_path_builder_move_0 Qbd Qau Qcu Qdv Qbp Qgx) 64 6 (Qf0 Tryz.prog 111 6) sk_path_builder_move_6 ex_path_builder_move_6
def C_path_builder_move_1 (Qbd Qau Qcu Qdv Qbp Qgx : Fn) (N6 : Lp) : Cfg := (C_path_builder_move_0 Qbd Qau Qcu Qdv Qbp Qgx).loop 6 sk_path_builder_move_6 ex_path_builder_move_6 N6
def mf_path_builder_move (Qbd Qau Qcu Qdv Qbp Qgx : Fn) (N6 : Lp) : Fn := Qax Tryz.prog (C_path_builder_move_1 Qbd Qau Qcu Qdv Qbp Qgx N6) 64 111 sig_path_builder_move osig_path_builder_move
theorem st_path_builder_move_6_eq (Qbd Qau Qcu Qdv Qbp Qgx : Fn) (v0 v1 v2 : Rw) (v3 v4 v5 v6 v7 v8 v9 v10 v11 v12 v13 v14 v15 v16 v17 : Int) (v18 : Bool) (v19 : Int) (v20 : Bool) (v21 v22 v23 v24 v25 : Int) (v26 : Bool) (v27 v28 v29 v30 v31 v32 v33 v34 v35 v36 : Int) (v37 : Bool) (v38 v39 v40 : Int) : Qea Qbd Qau Qcu Qdv Qbp Qgx [.view kSgm v0, .view kPt v1, .view kPt v2, I v3, I v4, I v5, I v6, I v7, I v8, I v9, I v10, I v11, I v12, I v13, I v14, I v15, I v16, I v17, B v18, I v19, B v20, I v21, I v22, I v23, I v24, I v25, B v26, I v27, I v28, I v29, I v30, I v31, I v32, I v33, I v34, I v35, I v36, B v37, I v38, I v39, I v40] =
 bif decide (v4 < v3) then
 bif decide (0 <= v4) && decide (v4 < (v2.length : Int)) then
 (Qcu [.view kSgm v0, .view kPt v1, jA (nth [] v2 v4.toNat) 0, jA (nth [] v2 v4.toNat) 1, jA (nth [] v2 v4.toNat) 2, I v27, I v28, I v29, I v30, I v31, I v32, I v33, I v34, I v35, I v36, B v37, I v38, I v39, I v40]).bind fun o12 =>
 (Qau [I v5, I v6, I v7, I v8, I v9, I v10, I v11, I v12, I v13, I v14, I v15, I v16, I v17, B v18, I v19, B v20, I v21, I v22, I v23, I v24, I v25, B v26]).bind fun o13 =>
 bif bA o13 0 then
 (Qbd [I v5, I v6, I v7, I v8, I v9, I v10, I v11, I v12, I v13, I v14, I v15, I v16, I v17, B v18, I v19, B v20, I v21, I v22, I v23, I v24, I v25, B v26]).bind fun o14 =>
 bif gA (nth [] v2 v4.toNat) 0 == gA o14 0 && (gA (nth [] v2 v4.toNat) 1 == gA o14 1 && (gA (nth [] v2 v4.toNat) 2 == gA o14 2 && true)) then
 some (0, [.view kSgm (wA o12 0), .view kPt (wA o12 1), .view kPt v2, I v3, I (IntKind.i64.wrap (v4 + 1)), I v5, I v6, I v7, I v8, I v9, I v10, I v11, I v12, I v13, I v14, I v15, I v16, I v17, B v18, I v19, B v20, I v21, I v22, I v23, I v24, I v25, B v26, I v27, I v28, I v29, I v30, I v31, I v32, I v33, jA o12 2, jA o12 3, jA o12 4, B (bA o12 5), jA o12 6, jA o12 7, jA o12 6])
 else
 some (0, [.view kSgm (wA o12 0), .view kPt (wA o12 1), .view kPt v2, I v3, I (IntKind.i64.wrap (v4 + 1)), I v5, I v6, I v7, I v8, I v9, I v10, I v11, I v12, I v13, I v14, I v15, I v16, I v17, B v18, I v19, B v20, I v21, I v22, I v23, I v24, I v25, B v26, I v27, I v28, I v29, I v30, I v31, I v32, I v33, jA o12 2, jA o12 3, jA o12 4, B (bA o12 5), jA o12 6, jA o12 7, jA o12 8])
 else
 some (0, [.view kSgm (wA o12 0), .view kPt (wA o12 1), .view kPt v2, I v3, I (IntKind.i64.wrap (v4 + 1)), I v5, I v6, I v7, I v8, I v9, I v10, I v11, I v12, I v13, I v14, I v15, I v16, I v17, B v18, I v19, B v20, I v21, I v22, I v23, I v24, I v25, B v26, I v27, I v28, I v29, I v30, I v31, I v32, I v33, jA o12 2, jA o12 3, jA o12 4, B (bA o12 5), jA o12 6, jA o12 7, jA o12 8])
 else
 none
 else
 some (1, [.view kSgm v0, .view kPt v1, I v34, I v35, I v36, B v37, I v38, I v39, I v40]) := by kernel_rfl
abbrev g_path_builder_move_1 (Qdv : Fn) (x2 : Rw) (x3 x4 : Int) (N6 : Lp) (x0 x1 : Rw) (o15 : List AC) (x5 x6 x7 : Int) (x8 : Bool) (x9 x10 x11 : Int) (h1_0 : AC) : Option (List AC) :=
 (Qdv [.view kItm x2, I x3, I x4]).bind fun o17 =>
 (N6 [.view kSgm x0, .view kPt x1, .view kPt (wA o17 0), I (↑(wA o17 0).length : Int), I 0, jA (nth [] x2 x3.toNat) 0, jA (nth [] x2 x3.toNat) 1, jA (nth [] x2 x3.toNat) 2, jA (nth [] x2 x3.toNat) 3, jA (nth [] x2 x3.toNat) 4, jA (nth [] x2 x3.toNat) 5, jA (nth [] x2 x3.toNat) 6, jA (nth [] x2 x3.toNat) 7, jA (nth [] x2 x3.toNat) 8, jA (nth [] x2 x3.toNat) 9, jA (nth [] x2 x3.toNat) 10, jA (nth [] x2 x3.toNat) 11, jA (nth [] x2 x3.toNat) 12, B (bA (nth [] x2 x3.toNat) 13), jA (nth [] x2 x3.toNat) 14, B (bA (nth [] x2 x3.toNat) 15), jA (nth [] x2 x3.toNat) 16, jA (nth [] x2 x3.toNat) 17, jA (nth [] x2 x3.toNat) 18, jA (nth [] x2 x3.toNat) 19, jA (nth [] x2 x3.toNat) 20, B (bA (nth [] x2 x3.toNat) 21), I 0, I 0, I 0, I 0, I x3, jA o15 0, h1_0, I x5, I x6, I x7, B x8, I x9, I x10, I x11]).bind fun o18 =>
 bif o18.1.beq 1 then
 some [.view kSgm (wA o18.2 0), .view kPt (wA o18.2 1), B (decide ((↑(wA o18.2 0).length : Int) <= 1048576)), jA o18.2 2, jA o18.2 3, jA o18.2 4, B (bA o18.2 5), jA o18.2 6, jA o18.2 7, jA o18.2 8]
 else
 none
attribute [go_sem] g_path_builder_move_1
theorem mf_path_builder_move_eq (Qbd Qau Qcu Qdv Qbp Qgx : Fn) (N6 : Lp) (x0 x1 x2 : Rw) (x3 x4 x5 x6 x7 : Int) (x8 : Bool) (x9 x10 x11 : Int) : mf_path_builder_move Qbd Qau Qcu Qdv Qbp Qgx N6 [.view kSgm x0, .view kPt x1, .view kItm x2, I x3, I x4, I x5, I x6, I x7, B x8, I x9, I x10, I x11] =
 bif decide (0 <= x3) && decide (x3 < (x2.length : Int)) then
 (Qgx [jA (nth [] x2 x3.toNat) 0, jA (nth [] x2 x3.toNat) 1, jA (nth [] x2 x3.toNat) 2, jA (nth [] x2 x3.toNat) 3, jA (nth [] x2 x3.toNat) 4, jA (nth [] x2 x3.toNat) 5, jA (nth [] x2 x3.toNat) 6, jA (nth [] x2 x3.toNat) 7, jA (nth [] x2 x3.toNat) 8, jA (nth [] x2 x3.toNat) 9, jA (nth [] x2 x3.toNat) 10, jA (nth [] x2 x3.toNat) 11, jA (nth [] x2 x3.toNat) 12, B (bA (nth [] x2 x3.toNat) 13), jA (nth [] x2 x3.toNat) 14, B (bA (nth [] x2 x3.toNat) 15), jA (nth [] x2 x3.toNat) 16, jA (nth [] x2 x3.toNat) 17, jA (nth [] x2 x3.toNat) 18, jA (nth [] x2 x3.toNat) 19, jA (nth [] x2 x3.toNat) 20, B (bA (nth [] x2 x3.toNat) 21), I x10]).bind fun o15 =>
 (Qbp [jA (nth [] x2 x3.toNat) 0, jA (nth [] x2 x3.toNat) 1, jA (nth [] x2 x3.toNat) 2, jA (nth [] x2 x3.toNat) 3, jA (nth [] x2 x3.toNat) 4, jA (nth [] x2 x3.toNat) 5, jA (nth [] x2 x3.toNat) 6, jA (nth [] x2 x3.toNat) 7, jA (nth [] x2 x3.toNat) 8, jA (nth [] x2 x3.toNat) 9, jA (nth [] x2 x3.toNat) 10, jA (nth [] x2 x3.toNat) 11, jA (nth [] x2 x3.toNat) 12, B (bA (nth [] x2 x3.toNat) 13), jA (nth [] x2 x3.toNat) 14, B (bA (nth [] x2 x3.toNat) 15), jA (nth [] x2 x3.toNat) 16, jA (nth [] x2 x3.toNat) 17, jA (nth [] x2 x3.toNat) 18, jA (nth [] x2 x3.toNat) 19, jA (nth [] x2 x3.toNat) 20, B (bA (nth [] x2 x3.toNat) 21)]).bind fun o16 =>
 bif bA o16 0 then
 g_path_builder_move_1 Qdv x2 x3 x4 N6 x0 x1 o15 x5 x6 x7 x8 x9 x10 x11 (I (mn (IntKind.i64.wrap (gA (nth [] x2 x3.toNat) 14 * 16)) 16777216))
 else
 g_path_builder_move_1 Qdv x2 x3 x4 N6 x0 x1 o15 x5 x6 x7 x8 x9 x10 x11 (I 0)
 else
 none := by kernel_rfl
def l_path_builder_move_6 := Qbl (Qea Qep Qc5 Qgr m_path_points Qfu m_path_Rate )
def Qed := mf_path_builder_move Qep Qc5 Qgr m_path_points Qfu m_path_Rate l_path_builder_move_6
theorem sp_path_builder_move : Qak Tryz.prog (C_path_builder_move_0 Qep Qc5 Qgr m_path_points Qfu m_path_Rate) := Qae rfl ⟨r_path_middle, r_path_smooth, r_path_builder_add, r_path_points, r_path_geared, r_path_Rate, trivial⟩
theorem r_path_builder_move : Qbm Tryz.prog (111, spOf sig_path_builder_move osig_path_builder_move Qed) := Qa0 (C := (C_path_builder_move_1 Qep Qc5 Qgr m_path_points Qfu m_path_Rate l_path_builder_move_6)) (L := 64) (by kernel_rfl) ((FnOK.bare rfl rfl rfl).loop sp_path_builder_move eqOk Qa9 (by kernel_rfl) (by kernel_rfl)) sp_path_builder_move eqOk Qa9 (by kernel_rfl) (by kernel_rfl)
def sig_path_check : Sk := { tmps := [TS.v true [ci, ci, ci, ci, ci, ci, ci, ci, ci, ci, ci, ci, ci, CS.bool, ci, CS.bool, ci, ci, ci, ci, ci, CS.bool]], boxes := [], rows := [] }
def osig_path_check : Sk := { tmps := [tf [ci]], boxes := [], rows := [] }
def C_path_check_0 (Qbs Qag : Fn) : Cfg := { spec := Qbx [(126, spOf sig_curve_Valid osig_curve_Valid Qbs), (108, spOf sig_path_motion Qil Qag)], eqOk := Qb2, ownOff := ownOff }
def mf_path_check (Qbs Qag : Fn) : Fn := Qax Tryz.prog (C_path_check_0 Qbs Qag) 64 107 sig_path_check osig_path_check
abbrev g_path_check_1 (x0 x19 x20 : Int) : Option (List AC) :=
 bif x0 == 8 then
 bif decide (x19 < 3) then
 some [I 1]
 else
 bif decide (x19 > 5) then
 some [I 1]
 else
 bif decide (x20 < 0) then
 some [I 1]
 else
 bif decide (x20 > 30000) then
 some [I 1]
 else
 some [I 0]
 else
 some [I 0]
attribute [go_sem] g_path_check_1
theorem mf_path_check_eq (Qbs Qag : Fn) (x0 x1 x2 x3 x4 x5 x6 x7 x8 x9 x10 x11 x12 : Int) (x13 : Bool) (x14 : Int) (x15 : Bool) (x16 x17 x18 x19 x20 : Int) (x21 : Bool) : mf_path_check Qbs Qag [I x0, I x1, I x2, I x3, I x4, I x5, I x6, I x7, I x8, I x9, I x10, I x11, I x12, B x13, I x14, B x15, I x16, I x17, I x18, I x19, I x20, B x21] =
 bif decide (x0 < 1) then
 some [I 1]
 else
 bif decide (x0 > 14) then
 some [I 1]
 else
 (Qag [I x0]).bind fun o4 =>
 bif bA o4 0 then
 (Qbs [I x0, I x1, I x2, I x3, I x4, I x5, I x6, I x7, I x8, I x9, I x10, I x11, I x12, B x13, I x14, B x15, I x16, I x17, I x18, I x19, I x20, B x21]).bind fun o5 =>
 bif !bA o5 0 then
 some [I 1]
 else
 bif decide (x18 < 0) then
 some [I 1]
 else
 bif decide (x18 > 1000) then
 some [I 1]
 else
 (Qag [I x0]).bind fun o6 =>
 bif bA o6 0 then
 bif x0 != 1 then
 bif decide (x14 < 1) then
 some [I 1]
 else
 bif decide (x14 > 60000000) then
 some [I 1]
 else
 g_path_check_1 x0 x19 x20
 else
 g_path_check_1 x0 x19 x20
 else
 g_path_check_1 x0 x19 x20
 else
 (Qag [I x0]).bind fun o7 =>
 bif bA o7 0 then
 bif x0 != 1 then
 bif decide (x14 < 1) then
 some [I 1]
 else
 bif decide (x14 > 60000000) then
 some [I 1]
 else
 g_path_check_1 x0 x19 x20
 else
 g_path_check_1 x0 x19 x20
 else
 g_path_check_1 x0 x19 x20 := by kernel_rfl
def Qit := mf_path_check Qe6 Qcp 
theorem sp_path_check : Qak Tryz.prog (C_path_check_0 Qe6 Qcp) := Qae rfl ⟨r_curve_Valid, r_path_motion, trivial⟩
theorem r_path_check : Qbm Tryz.prog (107, spOf sig_path_check osig_path_check Qit) := Qa0 (C := (C_path_check_0 Qe6 Qcp)) (L := 64) (by kernel_rfl) (FnOK.bare rfl rfl rfl) sp_path_check eqOk Qa9 (by kernel_rfl) (by kernel_rfl)
def sig_path_build : Sk := { tmps := [tf [CS.sl kItm]], boxes := [], rows := [] }
def osig_path_build : Sk := { tmps := [TS.tup [(false, [CS.ptr 13 0]), (false, [ci])]], boxes := [(13, 108, [ci, ci, ci, CS.own 1013003 7, CS.own 1013004 3, CS.bool, ci, ci, ci])], rows := [(1013003, 78, kSgm), (1013004, 80, kPt)] }
def C_path_build_0 (Qai Qal Qbb Qby Qag Qdb : Fn) : Cfg := { spec := Qbx [(112, spOf sig_path_builder_mark osig_path_builder_mark Qai), (111, spOf sig_path_builder_move osig_path_builder_move Qal), (110, spOf sig_path_next osig_path_next Qbb), (109, spOf sig_path_soft osig_path_soft Qby), (108, spOf sig_path_motion Qil Qag), (107, spOf sig_path_check osig_path_check Qdb)], eqOk := Qb2, pure := fun f => !(Qft [112, 111] f), ownOff := ownOff }
def sk_path_build_6 : Sk := { tmps := [tf [CS.sl kItm], td, td, td, tf [CS.ptr 13 0], tf [ci], td, td, td, td, td, td, td, td, td, td, td, td, tf [CS.sl kItm], tf [ci], tf [ci]] ++ dd 87, boxes := [(13, 108, [ci, ci, ci, CS.own 1013003 7, CS.own 1013004 3, CS.bool, ci, ci, ci])], rows := [(1013003, 78, kSgm), (1013004, 80, kPt)] }
def ex_path_build_6 : List (Ex × Sk) := [(Ex.ret, { tmps := [td, td, tf [CS.ptr 13 0], tf [ci]] ++ dd 104, boxes := [(13, 108, [ci, ci, ci, CS.own 1013003 7, CS.own 1013004 3, CS.bool, ci, ci, ci])], rows := [(1013003, 78, kSgm), (1013004, 80, kPt)] }), (Ex.exit 0, { tmps := [tf [CS.sl kItm], td, td, td, tf [CS.ptr 13 0]] ++ dd 103, boxes := [(13, 108, [ci, ci, ci, CS.own 1013003 7, CS.own 1013004 3, CS.bool, ci, ci, ci])], rows := [(1013003, 78, kSgm), (1013004, 80, kPt)] })]
def st_path_build_6 (Qai Qal Qbb Qby Qag Qdb : Fn) : Lp := stepL Tryz.prog (C_path_build_0 Qai Qal Qbb Qby Qag Qdb) 64 6 (Qf0 Tryz.prog 77 6) sk_path_build_6 ex_path_build_6
def C_path_build_1 (Qai Qal Qbb Qby Qag Qdb : Fn) (N6 : Lp) : Cfg := (C_path_build_0 Qai Qal Qbb Qby Qag Qdb).loop 6 sk_path_build_6 ex_path_build_6 N6
def sk_path_build_18 : Sk := { tmps := [tf [CS.sl kItm], td, td, td, tf [CS.ptr 13 0], tf [ci], td, td, td, td, td, td, td, td, td, td, td, td, td, td, td, td, td, td, td, td, td, td, td, td, td, td, td, td, td, td, td, td, td, td, td, td, td, td, td, td, td, td, td, td, tf [CS.sl kItm], tf [ci], tf [ci]] ++ dd 55, boxes := [(13, 108, [ci, ci, ci, CS.own 1013003 7, CS.own 1013004 3, CS.bool, ci, ci, ci])], rows := [(1013003, 78, kSgm), (1013004, 80, kPt)] }
def ex_path_build_18 : List (Ex × Sk) := [(Ex.ret, { tmps := [td, td, tf [CS.ptr 13 0], tf [ci]] ++ dd 104, boxes := [(13, 108, [ci, ci, ci, CS.own 1013003 7, CS.own 1013004 3, CS.bool, ci, ci, ci])], rows := [(1013003, 78, kSgm), (1013004, 80, kPt)] }), (Ex.exit 2, { tmps := [td, td, td, td, tf [CS.ptr 13 0]] ++ dd 103, boxes := [(13, 108, [ci, ci, ci, CS.own 1013003 7, CS.own 1013004 3, CS.bool, ci, ci, ci])], rows := [(1013003, 78, kSgm), (1013004, 80, kPt)] })]
def st_path_build_18 (Qai Qal Qbb Qby Qag Qdb : Fn) (N6 : Lp) : Lp := stepL Tryz.prog (C_path_build_1 Qai Qal Qbb Qby Qag Qdb N6) 64 18 (Qf0 Tryz.prog 77 18) sk_path_build_18 ex_path_build_18
def C_path_build_2 (Qai Qal Qbb Qby Qag Qdb : Fn) (N6 N18 : Lp) : Cfg := (C_path_build_1 Qai Qal Qbb Qby Qag Qdb N6).loop 18 sk_path_build_18 ex_path_build_18 N18
def mf_path_build (Qai Qal Qbb Qby Qag Qdb : Fn) (N6 N18 : Lp) : Fn := Qax Tryz.prog (C_path_build_2 Qai Qal Qbb Qby Qag Qdb N6 N18) 64 77 sig_path_build osig_path_build
theorem st_path_build_6_eq (Qai Qal Qbb Qby Qag Qdb : Fn) (v0 v1 v2 : Rw) (v3 : Int) (v4 : Rw) (v5 v6 v7 v8 v9 : Int) (v10 : Bool) (v11 v12 v13 : Int) : st_path_build_6 Qai Qal Qbb Qby Qag Qdb [.view kSgm v0, .view kPt v1, .view kItm v2, I v3, .view kItm v4, I v5, I v6, I v7, I v8, I v9, B v10, I v11, I v12, I v13] =
 bif decide (v6 < v5) then
 bif decide (0 <= v6) && decide (v6 < (v4.length : Int)) then
 (Qdb [jA (nth [] v4 v6.toNat) 0, jA (nth [] v4 v6.toNat) 1, jA (nth [] v4 v6.toNat) 2, jA (nth [] v4 v6.toNat) 3, jA (nth [] v4 v6.toNat) 4, jA (nth [] v4 v6.toNat) 5, jA (nth [] v4 v6.toNat) 6, jA (nth [] v4 v6.toNat) 7, jA (nth [] v4 v6.toNat) 8, jA (nth [] v4 v6.toNat) 9, jA (nth [] v4 v6.toNat) 10, jA (nth [] v4 v6.toNat) 11, jA (nth [] v4 v6.toNat) 12, B (bA (nth [] v4 v6.toNat) 13), jA (nth [] v4 v6.toNat) 14, B (bA (nth [] v4 v6.toNat) 15), jA (nth [] v4 v6.toNat) 16, jA (nth [] v4 v6.toNat) 17, jA (nth [] v4 v6.toNat) 18, jA (nth [] v4 v6.toNat) 19, jA (nth [] v4 v6.toNat) 20, B (bA (nth [] v4 v6.toNat) 21)]).bind fun o53 =>
 bif gA o53 0 != 0 then
 some (1, [.view kSgm v0, .view kPt v1, jA o53 0, I v7, I v8, I v9, B v10, I v11, I v12, I v13])
 else
 (Qag [jA (nth [] v4 v6.toNat) 0]).bind fun o54 =>
 bif !bA o54 0 then
 some (0, [.view kSgm v0, .view kPt v1, .view kItm v2, I v3, .view kItm v4, I v5, I (IntKind.i64.wrap (v6 + 1)), I v7, I v8, I v9, B v10, I v11, I v12, I v13])
 else
 bif decide (v3 >= 0) then
 bif decide (0 <= v3) && decide (v3 < (v2.length : Int)) then
 bif !(gA (nth [] v2 v3.toNat) 5 == gA (nth [] v4 v6.toNat) 2 && (gA (nth [] v2 v3.toNat) 6 == gA (nth [] v4 v6.toNat) 3 && (gA (nth [] v2 v3.toNat) 7 == gA (nth [] v4 v6.toNat) 4 && true))) then
 some (1, [.view kSgm v0, .view kPt v1, I 13, I v7, I v8, I v9, B v10, I v11, I v12, I v13])
 else
 some (0, [.view kSgm v0, .view kPt v1, .view kItm v2, I v6, .view kItm v4, I v5, I (IntKind.i64.wrap (v6 + 1)), I v7, I v8, I v9, B v10, I v11, I v12, I v13])
 else
 none
 else
 some (0, [.view kSgm v0, .view kPt v1, .view kItm v2, I v6, .view kItm v4, I v5, I (IntKind.i64.wrap (v6 + 1)), I v7, I v8, I v9, B v10, I v11, I v12, I v13])
 else
 none
 else
 some (2, [.view kSgm v0, .view kPt v1, .view kItm v2, I v7, I v8, I v9, B v10, I v11, I v12, I v13]) := by kernel_rfl
abbrev Qh0 (Qal : Fn) (v0 v1 v2 : Rw) (v6 v7 v8 v9 : Int) (v10 : Bool) (v11 : Int) (h1_0 : AC) (v13 : Int) (Qai : Fn) (v4 : Rw) (v5 : Int) (h2_0 : AC) : Option (Nat × List AC) :=
 (Qal [.view kSgm v0, .view kPt v1, .view kItm v2, I v6, h2_0, I v7, I v8, I v9, B v10, I v11, h1_0, I v13]).bind fun o57 =>
 bif !bA o57 2 then
 some (1, [.view kSgm (wA o57 0), .view kPt (wA o57 1), I 10, jA o57 3, jA o57 4, jA o57 5, B (bA o57 6), jA o57 7, jA o57 8, jA o57 9])
 else
 (Qai [.view kSgm (wA o57 0), .view kPt (wA o57 1), .view kItm v2, I v6, jA o57 3, jA o57 4, jA o57 5, B (bA o57 6), jA o57 7, jA o57 8, jA o57 9]).bind fun o58 =>
 some (0, [.view kSgm (wA o58 0), .view kPt (wA o58 1), .view kItm v2, I v6, .view kItm v4, I v5, I (IntKind.i64.wrap (v6 + 1)), jA o58 2, jA o58 3, jA o58 4, B (bA o58 5), jA o58 6, jA o58 7, jA o58 8])
attribute [go_sem] Qh0
abbrev Qia (Qag : Fn) (v4 : Rw) (v6 v3 : Int) (Qby : Fn) (v2 : Rw) (Qal : Fn) (v0 v1 : Rw) (v7 v8 v9 : Int) (v10 : Bool) (v11 v13 : Int) (Qai : Fn) (v5 : Int) (Qbb : Fn) (h1_0 : AC) : Option (Nat × List AC) :=
 (Qag [jA (nth [] v4 v6.toNat) 0]).bind fun o55 =>
 bif bA o55 0 then
 bif decide (v3 >= 0) then
 (Qby [.view kItm v2, I v3]).bind fun o56 =>
 bif !bA o56 0 then
 Qh0 Qal v0 v1 v2 v6 v7 v8 v9 v10 v11 h1_0 v13 Qai v4 v5 (I (-1))
 else
 (Qbb [.view kItm v2, I v3]).bind fun o59 =>
 bif gA o59 0 != v6 then
 Qh0 Qal v0 v1 v2 v6 v7 v8 v9 v10 v11 h1_0 v13 Qai v4 v5 (I (-1))
 else
 Qh0 Qal v0 v1 v2 v6 v7 v8 v9 v10 v11 h1_0 v13 Qai v4 v5 (I v3)
 else
 Qh0 Qal v0 v1 v2 v6 v7 v8 v9 v10 v11 h1_0 v13 Qai v4 v5 (I v3)
 else
 (Qai [.view kSgm v0, .view kPt v1, .view kItm v2, I v6, I v7, I v8, I v9, B v10, I v11, h1_0, I v13]).bind fun o66 =>
 some (0, [.view kSgm (wA o66 0), .view kPt (wA o66 1), .view kItm v2, I v3, .view kItm v4, I v5, I (IntKind.i64.wrap (v6 + 1)), jA o66 2, jA o66 3, jA o66 4, B (bA o66 5), jA o66 6, jA o66 7, jA o66 8])
attribute [go_sem] Qia
theorem st_path_build_18_eq (Qai Qal Qbb Qby Qag Qdb : Fn) (N6 : Lp) (v0 v1 v2 : Rw) (v3 : Int) (v4 : Rw) (v5 v6 v7 v8 v9 : Int) (v10 : Bool) (v11 v12 v13 : Int) : st_path_build_18 Qai Qal Qbb Qby Qag Qdb N6 [.view kSgm v0, .view kPt v1, .view kItm v2, I v3, .view kItm v4, I v5, I v6, I v7, I v8, I v9, B v10, I v11, I v12, I v13] =
 bif decide (v6 < v5) then
 bif decide (0 <= v6) && decide (v6 < (v4.length : Int)) then
 bif gA (nth [] v4 v6.toNat) 0 == 8 then
 bif gA (nth [] v4 v6.toNat) 19 == 3 then
 Qia Qag v4 v6 v3 Qby v2 Qal v0 v1 v7 v8 v9 v10 v11 v13 Qai v5 Qbb (jA (nth [] v4 v6.toNat) 20)
 else
 bif gA (nth [] v4 v6.toNat) 19 == 4 then
 Qia Qag v4 v6 v3 Qby v2 Qal v0 v1 v7 v8 v9 v10 v11 v13 Qai v5 Qbb (jA (nth [] v4 v6.toNat) 20)
 else
 Qia Qag v4 v6 v3 Qby v2 Qal v0 v1 v7 v8 v9 v10 v11 v13 Qai v5 Qbb (I v12)
 else
 Qia Qag v4 v6 v3 Qby v2 Qal v0 v1 v7 v8 v9 v10 v11 v13 Qai v5 Qbb (I v12)
 else
 none
 else
 some (2, [.view kSgm v0, .view kPt v1, I v7, I v8, I v9, B v10, I v11, I v12, I v13]) := by kernel_rfl
theorem mf_path_build_eq (Qai Qal Qbb Qby Qag Qdb : Fn) (N6 N18 : Lp) (x0 : Rw) : mf_path_build Qai Qal Qbb Qby Qag Qdb N6 N18 [.view kItm x0] =
 bif decide ((x0.length : Int) > 20000) then
 some [.view kSgm [], .view kPt [], I 10, I 0, I 0, I 0, B false, I 0, I 0, I 0]
 else
 (N6 [.view kSgm [], .view kPt [], .view kItm x0, I (-1), .view kItm x0, I (x0.length : Int), I 0, I 0, I 0, I 0, B false, I 0, I 0, I 0]).bind fun o103 =>
 bif o103.1.beq 1 then
 some [.view kSgm (wA o103.2 0), .view kPt (wA o103.2 1), jA o103.2 2, jA o103.2 3, jA o103.2 4, jA o103.2 5, B (bA o103.2 6), jA o103.2 7, jA o103.2 8, jA o103.2 9]
 else
 bif o103.1.beq 2 then
 (N18 [.view kSgm (wA o103.2 0), .view kPt (wA o103.2 1), .view kItm (wA o103.2 2), I (-1), .view kItm (wA o103.2 2), I (↑(wA o103.2 2).length : Int), I 0, jA o103.2 3, jA o103.2 4, jA o103.2 5, B (bA o103.2 6), jA o103.2 7, jA o103.2 8, jA o103.2 9]).bind fun o104 =>
 bif o104.1.beq 1 then
 some [.view kSgm (wA o104.2 0), .view kPt (wA o104.2 1), jA o104.2 2, jA o104.2 3, jA o104.2 4, jA o104.2 5, B (bA o104.2 6), jA o104.2 7, jA o104.2 8, jA o104.2 9]
 else
 bif o104.1.beq 2 then
 some [.view kSgm (wA o104.2 0), .view kPt (wA o104.2 1), I 0, jA o104.2 2, jA o104.2 3, jA o104.2 4, B (bA o104.2 5), jA o104.2 6, jA o104.2 7, jA o104.2 8]
 else
 none
 else
 none := by kernel_rfl
def l_path_build_6 := Qbl (st_path_build_6 Qdx Qed Qe8 Qgs Qcp Qit )
def l_path_build_18 := Qbl (st_path_build_18 Qdx Qed Qe8 Qgs Qcp Qit l_path_build_6)
def m_path_build := mf_path_build Qdx Qed Qe8 Qgs Qcp Qit l_path_build_6 l_path_build_18
theorem sp_path_build : Qak Tryz.prog (C_path_build_0 Qdx Qed Qe8 Qgs Qcp Qit) := Qae rfl ⟨r_path_builder_mark, r_path_builder_move, r_path_next, r_path_soft, r_path_motion, r_path_check, trivial⟩
theorem r_path_build : Qbm Tryz.prog (77, spOf sig_path_build osig_path_build m_path_build) := Qa0 (C := (C_path_build_2 Qdx Qed Qe8 Qgs Qcp Qit l_path_build_6 l_path_build_18)) (L := 64) (by kernel_rfl) (((FnOK.bare rfl rfl rfl).loop sp_path_build eqOk Qa9 (by kernel_rfl) (by kernel_rfl)).loop sp_path_build eqOk Qa9 (by kernel_rfl) (by kernel_rfl)) sp_path_build eqOk Qa9 (by kernel_rfl) (by kernel_rfl)
def sig_path_Settled : Sk := { tmps := [tf [CS.sl kItm]], boxes := [], rows := [] }
def osig_path_Settled : Sk := { tmps := [tf [ci]], boxes := [], rows := [] }
def C_path_Settled_0 (Qau Qc8 : Fn) : Cfg := { spec := Qbx [(88, spOf sig_path_smooth Qih Qau), (77, spOf sig_path_build osig_path_build Qc8)], eqOk := Qb2, pure := fun f => !(Qft [77] f), ownOff := ownOff }
def sk_path_Settled_5 : Sk := { tmps := [tf [CS.sl kItm], td, td, tf [CS.ptr 100800 0], td, tf [ci]] ++ dd 47, boxes := [(100800, 108, [ci, ci, ci, CS.own 100800 7, CS.own 100801 3, CS.bool, ci, ci, ci])], rows := [(100800, 78, kSgm), (100801, 80, kPt)] }
def ex_path_Settled_5 : List (Ex × Sk) := [(Ex.ret, { tmps := [td, td, tf [ci]] ++ dd 50, boxes := [], rows := [] }), (Ex.exit 0, { tmps := [td, td, td, tf [CS.ptr 100800 0]] ++ dd 49, boxes := [(100800, 108, [ci, ci, ci, CS.own 100800 7, CS.own 100801 3, CS.bool, ci, ci, ci])], rows := [(100800, 78, kSgm), (100801, 80, kPt)] })]
def Qhm (Qau Qc8 : Fn) : Lp := stepL Tryz.prog (C_path_Settled_0 Qau Qc8) 64 5 (Qf0 Tryz.prog 45 5) sk_path_Settled_5 ex_path_Settled_5
def C_path_Settled_1 (Qau Qc8 : Fn) (N5 : Lp) : Cfg := (C_path_Settled_0 Qau Qc8).loop 5 sk_path_Settled_5 ex_path_Settled_5 N5
def mf_path_Settled (Qau Qc8 : Fn) (N5 : Lp) : Fn := Qax Tryz.prog (C_path_Settled_1 Qau Qc8 N5) 64 45 sig_path_Settled osig_path_Settled
theorem st_path_Settled_5_eq (Qau Qc8 : Fn) (v0 v1 v2 : Rw) (v3 v4 v5 v6 : Int) (v7 : Bool) (v8 v9 v10 : Int) : Qhm Qau Qc8 [.view kSgm v0, .view kPt v1, .view kItm v2, I v3, I v4, I v5, I v6, B v7, I v8, I v9, I v10] =
 bif decide (v3 >= 0) then
 bif decide (0 <= v3) && decide (v3 < (v2.length : Int)) then
 bif gA (nth [] v2 v3.toNat) 0 == 10 then
 some (0, [.view kSgm v0, .view kPt v1, .view kItm v2, I (IntKind.i64.wrap (v3 - 1)), I v4, I v5, I v6, B v7, I v8, I v9, I v10])
 else
 bif decide (0 <= v3) && decide (v3 < (v2.length : Int)) then
 (Qau [jA (nth [] v2 v3.toNat) 0, jA (nth [] v2 v3.toNat) 1, jA (nth [] v2 v3.toNat) 2, jA (nth [] v2 v3.toNat) 3, jA (nth [] v2 v3.toNat) 4, jA (nth [] v2 v3.toNat) 5, jA (nth [] v2 v3.toNat) 6, jA (nth [] v2 v3.toNat) 7, jA (nth [] v2 v3.toNat) 8, jA (nth [] v2 v3.toNat) 9, jA (nth [] v2 v3.toNat) 10, jA (nth [] v2 v3.toNat) 11, jA (nth [] v2 v3.toNat) 12, B (bA (nth [] v2 v3.toNat) 13), jA (nth [] v2 v3.toNat) 14, B (bA (nth [] v2 v3.toNat) 15), jA (nth [] v2 v3.toNat) 16, jA (nth [] v2 v3.toNat) 17, jA (nth [] v2 v3.toNat) 18, jA (nth [] v2 v3.toNat) 19, jA (nth [] v2 v3.toNat) 20, B (bA (nth [] v2 v3.toNat) 21)]).bind fun o4 =>
 bif bA o4 0 then
 bif decide (0 <= v3) && decide (v3 < (v2.length : Int)) then
 bif gA (nth [] v2 v3.toNat) 18 != 0 then
 some (1, [I v10])
 else
 some (1, [I v8])
 else
 none
 else
 some (1, [I v8])
 else
 none
 else
 none
 else
 some (2, [.view kSgm v0, .view kPt v1, I v4, I v5, I v6, B v7, I v8, I v9, I v10]) := by kernel_rfl
theorem mf_path_Settled_eq (Qau Qc8 : Fn) (N5 : Lp) (x0 : Rw) : mf_path_Settled Qau Qc8 N5 [.view kItm x0] =
 (Qc8 [.view kItm x0]).bind fun o5 =>
 bif gA o5 2 != 0 then
 some [I 0]
 else
 (N5 [.view kSgm (wA o5 0), .view kPt (wA o5 1), .view kItm x0, I (IntKind.i64.wrap ((x0.length : Int) - 1)), jA o5 3, jA o5 4, jA o5 5, B (bA o5 6), jA o5 7, jA o5 8, jA o5 9]).bind fun o6 =>
 bif o6.1.beq 1 then
 some [jA o6.2 0]
 else
 bif o6.1.beq 2 then
 some [jA o6.2 6]
 else
 none := by kernel_rfl
def l_path_Settled_5 := Qbl (Qhm Qc5 m_path_build )
def m_path_Settled := mf_path_Settled Qc5 m_path_build l_path_Settled_5
theorem sp_path_Settled : Qak Tryz.prog (C_path_Settled_0 Qc5 m_path_build) := Qae rfl ⟨r_path_smooth, r_path_build, trivial⟩
theorem r_path_Settled : Qbm Tryz.prog (45, spOf sig_path_Settled osig_path_Settled m_path_Settled) := Qa0 (C := (C_path_Settled_1 Qc5 m_path_build l_path_Settled_5)) (L := 64) (by kernel_rfl) ((FnOK.bare rfl rfl rfl).loop sp_path_Settled eqOk Qa9 (by kernel_rfl) (by kernel_rfl)) sp_path_Settled eqOk Qa9 (by kernel_rfl) (by kernel_rfl)
def sig_cncref25_SamePath : Sk := { tmps := [TS.v true [ci, ci, ci, CS.sl kSgm, CS.sl kPt], TS.v true [ci, ci, ci, CS.sl kSgm, CS.sl kPt]], boxes := [], rows := [] }
def osig_cncref25_SamePath : Sk := { tmps := [tf [CS.bool]], boxes := [], rows := [] }
def C_cncref25_SamePath_0 : Cfg := { spec := Qbx [], eqOk := Qb2, ownOff := ownOff }
def sk_cncref25_SamePath_4 : Sk := { tmps := [td, td, tf [CS.ptr 2 0], tf [CS.ptr 3 0], td, td, td, td, td, td, td, td, td, td, td, td, td, td, td, td, td, td, td, td, td, td, td, td, td, td, td, td, tf [ci], tf [ci]] ++ dd 32, boxes := [(2, 29, [ci, ci, ci, CS.sl kSgm, CS.sl kPt]), (3, 29, [ci, ci, ci, CS.sl kSgm, CS.sl kPt])], rows := [] }
def ex_cncref25_SamePath_4 : List (Ex × Sk) := [(Ex.ret, { tmps := [td, td, td, td, tf [CS.bool]] ++ dd 61, boxes := [], rows := [] }), (Ex.exit 0, { tmps := [td, td, tf [CS.ptr 2 0], tf [CS.ptr 3 0]] ++ dd 62, boxes := [(2, 29, [ci, ci, ci, CS.sl kSgm, CS.sl kPt]), (3, 29, [ci, ci, ci, CS.sl kSgm, CS.sl kPt])], rows := [] })]
def Qie : Lp := stepL Tryz.prog C_cncref25_SamePath_0 64 4 (Qf0 Tryz.prog 44 4) sk_cncref25_SamePath_4 ex_cncref25_SamePath_4
def C_cncref25_SamePath_1 (N4 : Lp) : Cfg := C_cncref25_SamePath_0.loop 4 sk_cncref25_SamePath_4 ex_cncref25_SamePath_4 N4
def sk_cncref25_SamePath_10 : Sk := { tmps := [td, td, tf [CS.ptr 2 0], tf [CS.ptr 3 0], td, td, td, td, td, td, td, td, td, td, td, td, td, td, td, td, td, td, td, td, td, td, td, td, td, td, td, td, td, td, td, td, td, td, td, td, td, td, td, td, td, td, td, td, td, td, tf [ci], tf [ci]] ++ dd 14, boxes := [(2, 29, [ci, ci, ci, CS.sl kSgm, CS.sl kPt]), (3, 29, [ci, ci, ci, CS.sl kSgm, CS.sl kPt])], rows := [] }
def ex_cncref25_SamePath_10 : List (Ex × Sk) := [(Ex.ret, { tmps := [td, td, td, td, tf [CS.bool]] ++ dd 61, boxes := [], rows := [] }), (Ex.exit 2, { tmps := [td] ++ dd 65, boxes := [], rows := [] })]
def Qhd (N4 : Lp) : Lp := stepL Tryz.prog (C_cncref25_SamePath_1 N4) 64 10 (Qf0 Tryz.prog 44 10) sk_cncref25_SamePath_10 ex_cncref25_SamePath_10
def C_cncref25_SamePath_2 (N4 N10 : Lp) : Cfg := (C_cncref25_SamePath_1 N4).loop 10 sk_cncref25_SamePath_10 ex_cncref25_SamePath_10 N10
def mf_cncref25_SamePath (N4 N10 : Lp) : Fn := Qax Tryz.prog (C_cncref25_SamePath_2 N4 N10) 64 44 sig_cncref25_SamePath osig_cncref25_SamePath
theorem st_cncref25_SamePath_4_eq (v0 v1 v2 v3 v4 : Int) (v5 v6 : Rw) (v7 v8 v9 : Int) (v10 v11 : Rw) : Qie [I v0, I v1, I v2, I v3, I v4, .view kSgm v5, .view kPt v6, I v7, I v8, I v9, .view kSgm v10, .view kPt v11] =
 bif decide (v1 < v0) then
 bif decide (0 <= v1) && decide (v1 < (v5.length : Int)) then
 bif decide (0 <= v1) && decide (v1 < (v10.length : Int)) then
 bif !(gA (nth [] v5 v1.toNat) 0 == gA (nth [] v10 v1.toNat) 0 && (gA (nth [] v5 v1.toNat) 1 == gA (nth [] v10 v1.toNat) 1 && (gA (nth [] v5 v1.toNat) 2 == gA (nth [] v10 v1.toNat) 2 && true)) && (gA (nth [] v5 v1.toNat) 3 == gA (nth [] v10 v1.toNat) 3 && (gA (nth [] v5 v1.toNat) 4 == gA (nth [] v10 v1.toNat) 4 && (gA (nth [] v5 v1.toNat) 5 == gA (nth [] v10 v1.toNat) 5 && (gA (nth [] v5 v1.toNat) 6 == gA (nth [] v10 v1.toNat) 6 && true))))) then
 some (1, [B false])
 else
 some (0, [I v0, I (IntKind.i64.wrap (v1 + 1)), I v2, I v3, I v4, .view kSgm v5, .view kPt v6, I v7, I v8, I v9, .view kSgm v10, .view kPt v11])
 else
 none
 else
 none
 else
 some (2, [I v2, I v3, I v4, .view kSgm v5, .view kPt v6, I v7, I v8, I v9, .view kSgm v10, .view kPt v11]) := by kernel_rfl
theorem st_cncref25_SamePath_10_eq (N4 : Lp) (v0 v1 v2 v3 v4 : Int) (v5 v6 : Rw) (v7 v8 v9 : Int) (v10 v11 : Rw) : Qhd N4 [I v0, I v1, I v2, I v3, I v4, .view kSgm v5, .view kPt v6, I v7, I v8, I v9, .view kSgm v10, .view kPt v11] =
 bif decide (v1 < v0) then
 bif decide (0 <= v1) && decide (v1 < (v6.length : Int)) then
 bif decide (0 <= v1) && decide (v1 < (v11.length : Int)) then
 bif !(gA (nth [] v6 v1.toNat) 0 == gA (nth [] v11 v1.toNat) 0 && (gA (nth [] v6 v1.toNat) 1 == gA (nth [] v11 v1.toNat) 1 && (gA (nth [] v6 v1.toNat) 2 == gA (nth [] v11 v1.toNat) 2 && true))) then
 some (1, [B false])
 else
 some (0, [I v0, I (IntKind.i64.wrap (v1 + 1)), I v2, I v3, I v4, .view kSgm v5, .view kPt v6, I v7, I v8, I v9, .view kSgm v10, .view kPt v11])
 else
 none
 else
 none
 else
 some (2, []) := by kernel_rfl
theorem mf_cncref25_SamePath_eq (N4 N10 : Lp) (x0 x1 x2 : Int) (x3 x4 : Rw) (x5 x6 x7 : Int) (x8 x9 : Rw) : mf_cncref25_SamePath N4 N10 [I x0, I x1, I x2, .view kSgm x3, .view kPt x4, I x5, I x6, I x7, .view kSgm x8, .view kPt x9] =
 bif !(x0 == x5 && (x1 == x6 && (x2 == x7 && true))) then
 some [B false]
 else
 bif (x3.length : Int) != (x8.length : Int) then
 some [B false]
 else
 bif (x4.length : Int) != (x9.length : Int) then
 some [B false]
 else
 (N4 [I (x3.length : Int), I 0, I x0, I x1, I x2, .view kSgm x3, .view kPt x4, I x5, I x6, I x7, .view kSgm x8, .view kPt x9]).bind fun o3 =>
 bif o3.1.beq 1 then
 some [B (bA o3.2 0)]
 else
 bif o3.1.beq 2 then
 (N10 [I (↑(wA o3.2 4).length : Int), I 0, jA o3.2 0, jA o3.2 1, jA o3.2 2, .view kSgm (wA o3.2 3), .view kPt (wA o3.2 4), jA o3.2 5, jA o3.2 6, jA o3.2 7, .view kSgm (wA o3.2 8), .view kPt (wA o3.2 9)]).bind fun o4 =>
 bif o4.1.beq 1 then
 some [B (bA o4.2 0)]
 else
 bif o4.1.beq 2 then
 some [B true]
 else
 none
 else
 none := by kernel_rfl
def Qix := Qbl (Qie )
def l_cncref25_SamePath_10 := Qbl (Qhd Qix)
def Qh9 := mf_cncref25_SamePath Qix l_cncref25_SamePath_10
theorem sp_cncref25_SamePath : Qak Tryz.prog (C_cncref25_SamePath_0 ) := Qae rfl trivial
theorem r_cncref25_SamePath : Qbm Tryz.prog (44, spOf sig_cncref25_SamePath osig_cncref25_SamePath Qh9) := Qa0 (C := (C_cncref25_SamePath_2 Qix l_cncref25_SamePath_10)) (L := 64) (by kernel_rfl) (((FnOK.bare rfl rfl rfl).loop sp_cncref25_SamePath eqOk Qa9 (by kernel_rfl) (by kernel_rfl)).loop sp_cncref25_SamePath eqOk Qa9 (by kernel_rfl) (by kernel_rfl)) sp_cncref25_SamePath eqOk Qa9 (by kernel_rfl) (by kernel_rfl)
def sig_path_Build : Sk := { tmps := [tf [CS.sl kItm]], boxes := [], rows := [] }
def osig_path_Build : Sk := { tmps := [TS.tup [(true, [ci, ci, ci, CS.sl kSgm, CS.sl kPt]), (false, [ci])]], boxes := [], rows := [] }
def C_path_Build_0 (Qc8 : Fn) : Cfg := { spec := Qbx [(77, spOf sig_path_build osig_path_build Qc8)], eqOk := Qb2, pure := fun f => !(Qft [77] f), ownOff := ownOff }
def mf_path_Build (Qc8 : Fn) : Fn := Qax Tryz.prog (C_path_Build_0 Qc8) 64 42 sig_path_Build osig_path_Build
theorem mf_path_Build_eq (Qc8 : Fn) (x0 : Rw) : mf_path_Build Qc8 [.view kItm x0] =
 (Qc8 [.view kItm x0]).bind fun o1 =>
 bif gA o1 2 != 0 then
 some [I 0, I 0, I 0, .view kSgm [], .view kPt [], jA o1 2]
 else
 some [jA o1 3, jA o1 4, jA o1 5, .view kSgm (wA o1 0), .view kPt (wA o1 1), I 0] := by kernel_rfl
def m_path_Build := mf_path_Build m_path_build 
theorem sp_path_Build : Qak Tryz.prog (C_path_Build_0 m_path_build) := Qae rfl ⟨r_path_build, trivial⟩
theorem r_path_Build : Qbm Tryz.prog (42, spOf sig_path_Build osig_path_Build m_path_Build) := Qa0 (C := (C_path_Build_0 m_path_build)) (L := 64) (by kernel_rfl) (FnOK.bare rfl rfl rfl) sp_path_Build eqOk Qa9 (by kernel_rfl) (by kernel_rfl)
def sig_cncmill_Mod : Sk := { tmps := [tf [ci], tf [ci]], boxes := [], rows := [] }
def osig_cncmill_Mod : Sk := { tmps := [tf [ci]], boxes := [], rows := [] }
def C_cncmill_Mod_0 : Cfg := { spec := Qbx [], eqOk := Qb2, ownOff := ownOff }
def mf_cncmill_Mod : Fn := Qax Tryz.prog C_cncmill_Mod_0 64 16 sig_cncmill_Mod osig_cncmill_Mod
theorem mf_cncmill_Mod_eq (x0 x1 : Int) : mf_cncmill_Mod [I x0, I x1] =
 bif decide (x1 = 0) then
 none
 else
 bif decide (x1 = 0) then
 none
 else
 some [I ((IntKind.i64.wrap (x0.tmod x1 + x1)).tmod x1)] := by kernel_rfl
def Qfq := mf_cncmill_Mod 
theorem sp_cncmill_Mod : Qak Tryz.prog (C_cncmill_Mod_0 ) := Qae rfl trivial
theorem r_cncmill_Mod : Qbm Tryz.prog (16, spOf sig_cncmill_Mod osig_cncmill_Mod Qfq) := Qa0 (C := C_cncmill_Mod_0) (L := 64) (by kernel_rfl) (FnOK.bare rfl rfl rfl) sp_cncmill_Mod eqOk Qa9 (by kernel_rfl) (by kernel_rfl)
def Qer : Sk := { tmps := [tf [CS.ptr 20000 0], tf [ci]], boxes := [(20000, 122, [CS.sl Qbo, ci])], rows := [] }
def Qeb : Sk := { tmps := [tf [ci]], boxes := [(20000, 122, [CS.sl Qbo, ci])], rows := [] }
def C_cncmill_Source_Next_0 (Qeo : Fn) : Cfg := { spec := Qbx [(16, spOf sig_cncmill_Mod osig_cncmill_Mod Qeo)], eqOk := Qb2, ownOff := ownOff }
def mf_cncmill_Source_Next (Qeo : Fn) : Fn := Qax Tryz.prog (C_cncmill_Source_Next_0 Qeo) 64 73 Qer Qeb
theorem mf_cncmill_Source_Next_eq (Qeo : Fn) (x0 : Int) (x1 : Rw) (x2 : Int) : mf_cncmill_Source_Next Qeo [I x0, .view Qbo x1, I x2] =
 bif decide (x2 >= (x1.length : Int)) then
 some [I 0, .view Qbo x1, I x2]
 else
 bif decide (0 <= x2) && decide (x2 < (x1.length : Int)) then
 (Qeo [jA (nth [] x1 x2.toNat) 0, I x0]).bind fun o1 =>
 some [jA o1 0, .view Qbo x1, I (IntKind.i64.wrap (x2 + 1))]
 else
 none := by kernel_rfl
def Qbg := mf_cncmill_Source_Next Qfq 
theorem sp_cncmill_Source_Next : Qak Tryz.prog (C_cncmill_Source_Next_0 Qfq) := Qae rfl ⟨r_cncmill_Mod, trivial⟩
theorem r_cncmill_Source_Next : Qbm Tryz.prog (73, spOf Qer Qeb Qbg) := Qa0 (C := (C_cncmill_Source_Next_0 Qfq)) (L := 64) (by kernel_rfl) (FnOK.bare rfl rfl rfl) sp_cncmill_Source_Next eqOk Qa9 (by kernel_rfl) (by kernel_rfl)
def sig_cncmill_turned : Sk := { tmps := [tf [ci], tf [ci]], boxes := [], rows := [] }
def osig_cncmill_turned : Sk := { tmps := [TS.tup [(false, [ci]), (false, [ci])]], boxes := [], rows := [] }
def C_cncmill_turned_0 : Cfg := { spec := Qbx [], eqOk := Qb2, ownOff := ownOff }
def mf_cncmill_turned : Fn := Qax Tryz.prog C_cncmill_turned_0 64 124 sig_cncmill_turned osig_cncmill_turned
theorem mf_cncmill_turned_eq (x0 x1 : Int) : mf_cncmill_turned [I x0, I x1] =
 bif decide (0 <= x1.tmod 4) && decide (x1.tmod 4 < (↑[[I x0], [I 0], [I (IntKind.i64.wrap (0 - x0))], [I 0]].length : Int)) then
 bif decide (0 <= x1.tmod 4) && decide (x1.tmod 4 < (↑[[I 0], [I x0], [I 0], [I (IntKind.i64.wrap (0 - x0))]].length : Int)) then
 some [I (Qas (nth .dead (nth [] [[I x0], [I 0], [I (IntKind.i64.wrap (0 - x0))], [I 0]] (x1.tmod 4).toNat) 0)), I (Qas (nth .dead (nth [] [[I 0], [I x0], [I 0], [I (IntKind.i64.wrap (0 - x0))]] (x1.tmod 4).toNat) 0))]
 else
 none
 else
 none := by kernel_rfl
def Qig := mf_cncmill_turned 
theorem sp_cncmill_turned : Qak Tryz.prog (C_cncmill_turned_0 ) := Qae rfl trivial
theorem r_cncmill_turned : Qbm Tryz.prog (124, spOf sig_cncmill_turned osig_cncmill_turned Qig) := Qa0 (C := C_cncmill_turned_0) (L := 64) (by kernel_rfl) (FnOK.bare rfl rfl rfl) sp_cncmill_turned eqOk Qa9 (by kernel_rfl) (by kernel_rfl)
def sig_cncmill_arc : Sk := { tmps := [tf [CS.ptr 20000 0], TS.v true [ci, ci, ci], tf [ci]], boxes := [(20000, 122, [CS.sl Qbo, ci])], rows := [] }
def osig_cncmill_arc : Sk := { tmps := [TS.v true [ci, ci, ci, ci, ci, ci, ci, ci, ci, ci, ci, ci, ci, CS.bool, ci, CS.bool, ci, ci, ci, ci, ci, CS.bool]], boxes := [(20000, 122, [CS.sl Qbo, ci])], rows := [] }
def C_cncmill_arc_0 (Qa6 Qg3 Qaz Qaa : Fn) : Cfg := { spec := Qbx [(125, spOf sig_cncref23_Space osig_cncref23_Space Qa6), (124, spOf sig_cncmill_turned osig_cncmill_turned Qg3), (123, spOf sig_cncref23_Plane Qhx Qaz), (73, spOf Qer Qeb Qaa)], eqOk := Qb2, pure := fun f => !(Qft [73] f), ownOff := ownOff }
def mf_cncmill_arc (Qa6 Qg3 Qaz Qaa : Fn) : Fn := Qax Tryz.prog (C_cncmill_arc_0 Qa6 Qg3 Qaz Qaa) 64 106 sig_cncmill_arc osig_cncmill_arc
abbrev g_cncmill_arc_1 (Qaa Qa6 : Fn) (o23 o18 : List AC) (x0 x1 x2 : Int) (o26 o19 o22 : List AC) (h1_0 h1_1 h1_2 h1_3 : AC) : Option (List AC) :=
 (Qaa [I 4, h1_0, h1_1]).bind fun o30 =>
 bif decide (0 <= gA o30 0) && decide (gA o30 0 < (↑[[I 0], [I 0], [I 7], [I (-12)]].length : Int)) then
 (Qa6 [h1_2, h1_3, I (IntKind.i64.wrap (gA o23 2 + Qas (nth .dead (nth [] [[I 0], [I 0], [I 7], [I (-12)]] (gA o30 0).toNat) 0))), I (Qas (nth .dead (nth [] [[I 17], [I 18], [I 19]] (gA o18 0).toNat) 0))]).bind fun o31 =>
 some [I 3, I 0, I x0, I x1, I x2, jA o31 0, jA o31 1, jA o31 2, I (Qas (nth .dead (nth [] [[I 17], [I 18], [I 19]] (gA o18 0).toNat) 0)), jA o26 0, jA o26 1, jA o26 2, I (IntKind.i64.wrap (1 - IntKind.i64.wrap (gA o19 0 * 2))), B (gA o22 0 == 0), I 0, B false, I 0, I 0, I 0, I 0, I 0, B false, .view Qbo (wA o30 1), jA o30 2]
 else
 none
attribute [go_sem] g_cncmill_arc_1
theorem mf_cncmill_arc_eq (Qa6 Qg3 Qaz Qaa : Fn) (x0 x1 x2 x3 : Int) (x4 : Rw) (x5 : Int) : mf_cncmill_arc Qa6 Qg3 Qaz Qaa [I x0, I x1, I x2, I x3, .view Qbo x4, I x5] =
 (Qaa [I 3, .view Qbo x4, I x5]).bind fun o18 =>
 bif decide (0 <= gA o18 0) && decide (gA o18 0 < (↑[[I 17], [I 18], [I 19]].length : Int)) then
 (Qaa [I 2, .view Qbo (wA o18 1), jA o18 2]).bind fun o19 =>
 (Qaa [I x3, .view Qbo (wA o19 1), jA o19 2]).bind fun o20 =>
 (Qaa [I 4, .view Qbo (wA o20 1), jA o20 2]).bind fun o21 =>
 (Qaa [I 4, .view Qbo (wA o21 1), jA o21 2]).bind fun o22 =>
 (Qaz [I x0, I x1, I x2, I (Qas (nth .dead (nth [] [[I 17], [I 18], [I 19]] (gA o18 0).toNat) 0))]).bind fun o23 =>
 (Qg3 [I (IntKind.i64.wrap (8 + gA o20 0)), jA o21 0]).bind fun o24 =>
 (Qg3 [I (IntKind.i64.wrap (8 + gA o20 0)), I (IntKind.i64.wrap (gA o21 0 + gA o22 0))]).bind fun o25 =>
 (Qa6 [I (IntKind.i64.wrap (gA o23 0 - gA o24 0)), I (IntKind.i64.wrap (gA o23 1 - gA o24 1)), jA o23 2, I (Qas (nth .dead (nth [] [[I 17], [I 18], [I 19]] (gA o18 0).toNat) 0))]).bind fun o26 =>
 bif decide (gA o22 0 > 0) then
 (Qaa [I 3, .view Qbo (wA o22 1), jA o22 2]).bind fun o27 =>
 bif gA o27 0 == 0 then
 bif decide (IntKind.i64.wrap (8 + gA o20 0) = 0) then
 none
 else
 (Qaa [I 5, .view Qbo (wA o27 1), jA o27 2]).bind fun o28 =>
 bif decide (IntKind.i64.wrap (8 + gA o20 0) = 0) then
 none
 else
 (Qaa [I 5, .view Qbo (wA o28 1), jA o28 2]).bind fun o29 =>
 g_cncmill_arc_1 Qaa Qa6 o23 o18 x0 x1 x2 o26 o19 o22 (.view Qbo (wA o29 1)) (jA o29 2) (I (IntKind.i64.wrap (IntKind.i64.wrap (gA o23 0 - gA o24 0) + IntKind.i64.wrap (gA o25 0 + IntKind.i64.wrap (IntKind.i64.wrap ((gA o25 0).tdiv (IntKind.i64.wrap (8 + gA o20 0))) * gA o28 0))))) (I (IntKind.i64.wrap (IntKind.i64.wrap (gA o23 1 - gA o24 1) + IntKind.i64.wrap (gA o25 1 + IntKind.i64.wrap (IntKind.i64.wrap ((gA o25 1).tdiv (IntKind.i64.wrap (8 + gA o20 0))) * gA o29 0)))))
 else
 g_cncmill_arc_1 Qaa Qa6 o23 o18 x0 x1 x2 o26 o19 o22 (.view Qbo (wA o27 1)) (jA o27 2) (I (IntKind.i64.wrap (IntKind.i64.wrap (gA o23 0 - gA o24 0) + gA o25 0))) (I (IntKind.i64.wrap (IntKind.i64.wrap (gA o23 1 - gA o24 1) + gA o25 1)))
 else
 g_cncmill_arc_1 Qaa Qa6 o23 o18 x0 x1 x2 o26 o19 o22 (.view Qbo (wA o22 1)) (jA o22 2) (I (IntKind.i64.wrap (IntKind.i64.wrap (gA o23 0 - gA o24 0) + gA o25 0))) (I (IntKind.i64.wrap (IntKind.i64.wrap (gA o23 1 - gA o24 1) + gA o25 1)))
 else
 none := by kernel_rfl
def m_cncmill_arc := mf_cncmill_arc Qem Qig Qc4 Qbg 
theorem sp_cncmill_arc : Qak Tryz.prog (C_cncmill_arc_0 Qem Qig Qc4 Qbg) := Qae rfl ⟨r_cncref23_Space, r_cncmill_turned, r_cncref23_Plane, r_cncmill_Source_Next, trivial⟩
theorem r_cncmill_arc : Qbm Tryz.prog (106, spOf sig_cncmill_arc osig_cncmill_arc m_cncmill_arc) := Qa0 (C := (C_cncmill_arc_0 Qem Qig Qc4 Qbg)) (L := 64) (by kernel_rfl) (FnOK.bare rfl rfl rfl) sp_cncmill_arc eqOk Qa9 (by kernel_rfl) (by kernel_rfl)
def sig_cncmill_motion : Sk := { tmps := [tf [CS.ptr 20000 0], TS.v true [ci, ci, ci], tf [ci]], boxes := [(20000, 122, [CS.sl Qbo, ci])], rows := [] }
def osig_cncmill_motion : Sk := { tmps := [TS.v true [ci, ci, ci, ci, ci, ci, ci, ci, ci, ci, ci, ci, ci, CS.bool, ci, CS.bool, ci, ci, ci, ci, ci, CS.bool]], boxes := [(20000, 122, [CS.sl Qbo, ci])], rows := [] }
def C_cncmill_motion_0 (Qaa M_cncmill_arc : Fn) : Cfg := { spec := Qbx [(73, spOf Qer Qeb Qaa), (106, spOf sig_cncmill_arc osig_cncmill_arc M_cncmill_arc)], eqOk := Qb2, pure := fun f => !(Qft [73, 106] f), ownOff := ownOff }
def mf_cncmill_motion (Qaa M_cncmill_arc : Fn) : Fn := Qax Tryz.prog (C_cncmill_motion_0 Qaa M_cncmill_arc) 64 76 sig_cncmill_motion osig_cncmill_motion
abbrev g_cncmill_motion_2 (Qaa : Fn) (o20 : List AC) (x3 : Int) (h1_0 h1_1 h1_2 h1_3 h1_4 h1_5 h1_6 h1_7 h1_8 h1_9 h1_10 h1_11 h1_12 h1_13 h1_16 h1_17 h1_20 h1_21 : AC) : Option (List AC) :=
 (Qaa [I 60, .view Qbo (wA o20 1), jA o20 2]).bind fun o21 =>
 bif x3 == 6 then
 (Qaa [I 2, .view Qbo (wA o21 1), jA o21 2]).bind fun o22 =>
 some [h1_0, h1_1, h1_2, h1_3, h1_4, h1_5, h1_6, h1_7, h1_8, h1_9, h1_10, h1_11, h1_12, h1_13, I (IntKind.i64.wrap (1 + gA o21 0)), B true, h1_16, h1_17, I 0, I (IntKind.i64.wrap (3 + gA o22 0)), h1_20, h1_21, .view Qbo (wA o22 1), jA o22 2]
 else
 some [h1_0, h1_1, h1_2, h1_3, h1_4, h1_5, h1_6, h1_7, h1_8, h1_9, h1_10, h1_11, h1_12, h1_13, I (IntKind.i64.wrap (1 + gA o21 0)), B true, h1_16, h1_17, I 0, I 0, h1_20, h1_21, .view Qbo (wA o21 1), jA o21 2]
attribute [go_sem] g_cncmill_motion_2
abbrev g_cncmill_motion_1 (x3 : Int) (Qaa : Fn) (h1_0 h1_1 h1_2 h1_3 h1_4 h1_5 h1_6 h1_7 h1_8 h1_9 h1_10 h1_11 h1_12 h1_13 h1_14 h1_15 h1_16 h1_17 h1_18 h1_19 h1_20 h1_21 h1_22 h1_23 : AC) : Option (List AC) :=
 bif x3 == 1 then
 some [h1_0, h1_1, h1_2, h1_3, h1_4, h1_5, h1_6, h1_7, h1_8, h1_9, h1_10, h1_11, h1_12, h1_13, h1_14, h1_15, h1_16, h1_17, h1_18, h1_19, h1_20, h1_21, h1_22, h1_23]
 else
 (Qaa [I 5, h1_22, h1_23]).bind fun o19 =>
 bif decide (0 <= gA o19 0) && decide (gA o19 0 < (↑[[I 300000], [I 1], [I 60000], [I 2000000], [I 60000000]].length : Int)) then
 (Qaa [I 5, .view Qbo (wA o19 1), jA o19 2]).bind fun o20 =>
 bif decide (0 <= gA o20 0) && decide (gA o20 0 < (↑[[I 0], [I 1], [I 2], [I 4], [I 9]].length : Int)) then
 bif x3 == 5 then
 g_cncmill_motion_2 Qaa o20 x3 h1_0 h1_1 h1_2 h1_3 h1_4 h1_5 h1_6 h1_7 h1_8 h1_9 h1_10 h1_11 h1_12 h1_13 h1_16 h1_17 h1_20 h1_21
 else
 bif x3 == 6 then
 g_cncmill_motion_2 Qaa o20 x3 h1_0 h1_1 h1_2 h1_3 h1_4 h1_5 h1_6 h1_7 h1_8 h1_9 h1_10 h1_11 h1_12 h1_13 h1_16 h1_17 h1_20 h1_21
 else
 bif x3 == 4 then
 some [h1_0, h1_1, h1_2, h1_3, h1_4, h1_5, h1_6, h1_7, h1_8, h1_9, h1_10, h1_11, h1_12, h1_13, I (Qas (nth .dead (nth [] [[I 300000], [I 1], [I 60000], [I 2000000], [I 60000000]] (gA o19 0).toNat) 0)), h1_15, h1_16, h1_17, I 0, h1_19, h1_20, h1_21, .view Qbo (wA o20 1), jA o20 2]
 else
 some [h1_0, h1_1, h1_2, h1_3, h1_4, h1_5, h1_6, h1_7, h1_8, h1_9, h1_10, h1_11, h1_12, h1_13, I (Qas (nth .dead (nth [] [[I 300000], [I 1], [I 60000], [I 2000000], [I 60000000]] (gA o19 0).toNat) 0)), h1_15, h1_16, h1_17, I (Qas (nth .dead (nth [] [[I 0], [I 1], [I 2], [I 4], [I 9]] (gA o20 0).toNat) 0)), h1_19, h1_20, h1_21, .view Qbo (wA o20 1), jA o20 2]
 else
 none
 else
 none
attribute [go_sem] g_cncmill_motion_1
theorem mf_cncmill_motion_eq (Qaa M_cncmill_arc : Fn) (x0 x1 x2 x3 : Int) (x4 : Rw) (x5 : Int) : mf_cncmill_motion Qaa M_cncmill_arc [I x0, I x1, I x2, I x3, .view Qbo x4, I x5] =
 bif x3 == 3 then
 (M_cncmill_arc [I x0, I x1, I x2, I 8, .view Qbo x4, I x5]).bind fun o18 =>
 g_cncmill_motion_1 x3 Qaa (jA o18 0) (jA o18 1) (jA o18 2) (jA o18 3) (jA o18 4) (jA o18 5) (jA o18 6) (jA o18 7) (jA o18 8) (jA o18 9) (jA o18 10) (jA o18 11) (jA o18 12) (B (bA o18 13)) (jA o18 14) (B (bA o18 15)) (jA o18 16) (jA o18 17) (jA o18 18) (jA o18 19) (jA o18 20) (B (bA o18 21)) (.view Qbo (wA o18 22)) (jA o18 23)
 else
 (Qaa [I 25, .view Qbo x4, I x5]).bind fun o25 =>
 (Qaa [I 25, .view Qbo (wA o25 1), jA o25 2]).bind fun o26 =>
 (Qaa [I 3, .view Qbo (wA o26 1), jA o26 2]).bind fun o27 =>
 (Qaa [I 9, .view Qbo (wA o27 1), jA o27 2]).bind fun o28 =>
 (Qaa [I 2, .view Qbo (wA o28 1), jA o28 2]).bind fun o29 =>
 g_cncmill_motion_1 x3 Qaa (I x3) (I 0) (I x0) (I x1) (I x2) (I (IntKind.i64.wrap (IntKind.i64.wrap (x0 + gA o25 0) - 12))) (I (IntKind.i64.wrap (IntKind.i64.wrap (x1 + gA o26 0) - 12))) (I (IntKind.i64.wrap (IntKind.i64.wrap (x2 + IntKind.i64.wrap (gA o27 0 * gA o28 0)) - IntKind.i64.wrap (8 * gA o29 0)))) (I 0) (I 0) (I 0) (I 0) (I 0) (B false) (I 0) (B false) (I 0) (I 0) (I 0) (I 0) (I 0) (B false) (.view Qbo (wA o29 1)) (jA o29 2) := by kernel_rfl
def Qgt := mf_cncmill_motion Qbg m_cncmill_arc 
theorem sp_cncmill_motion : Qak Tryz.prog (C_cncmill_motion_0 Qbg m_cncmill_arc) := Qae rfl ⟨r_cncmill_Source_Next, r_cncmill_arc, trivial⟩
theorem r_cncmill_motion : Qbm Tryz.prog (76, spOf sig_cncmill_motion osig_cncmill_motion Qgt) := Qa0 (C := (C_cncmill_motion_0 Qbg m_cncmill_arc)) (L := 64) (by kernel_rfl) (FnOK.bare rfl rfl rfl) sp_cncmill_motion eqOk Qa9 (by kernel_rfl) (by kernel_rfl)
def sig_cncmill_other : Sk := { tmps := [tf [CS.ptr 20000 0]], boxes := [(20000, 122, [CS.sl Qbo, ci])], rows := [] }
def osig_cncmill_other : Sk := { tmps := [TS.v true [ci, ci, ci, ci, ci, ci, ci, ci, ci, ci, ci, ci, ci, CS.bool, ci, CS.bool, ci, ci, ci, ci, ci, CS.bool]], boxes := [(20000, 122, [CS.sl Qbo, ci])], rows := [] }
def C_cncmill_other_0 (Qaa : Fn) : Cfg := { spec := Qbx [(73, spOf Qer Qeb Qaa)], eqOk := Qb2, pure := fun f => !(Qft [73] f), ownOff := ownOff }
def mf_cncmill_other (Qaa : Fn) : Fn := Qax Tryz.prog (C_cncmill_other_0 Qaa) 64 75 sig_cncmill_other osig_cncmill_other
abbrev g_cncmill_other_1 (Qaa : Fn) (o8 : List AC) : Option (List AC) :=
 (Qaa [I 16, .view Qbo (wA o8 1), jA o8 2]).bind fun o9 =>
 (Qaa [I 2, .view Qbo (wA o9 1), jA o9 2]).bind fun o10 =>
 some [I 10, I 0, I 0, I 0, I 0, I 0, I 0, I 0, I 0, I 0, I 0, I 0, I 0, B false, I 0, B false, I 0, I 0, I 0, jA o9 0, I 0, B (gA o10 0 == 0), .view Qbo (wA o10 1), jA o10 2]
attribute [go_sem] g_cncmill_other_1
theorem mf_cncmill_other_eq (Qaa : Fn) (x0 : Rw) (x1 : Int) : mf_cncmill_other Qaa [.view Qbo x0, I x1] =
 (Qaa [I 8, .view Qbo x0, I x1]).bind fun o8 =>
 bif gA o8 0 == 0 then
 g_cncmill_other_1 Qaa o8
 else
 bif gA o8 0 == 1 then
 g_cncmill_other_1 Qaa o8
 else
 bif gA o8 0 == 2 then
 (Qaa [I 5, .view Qbo (wA o8 1), jA o8 2]).bind fun o13 =>
 some [I 7, I 0, I 0, I 0, I 0, I 0, I 0, I 0, I 0, I 0, I 0, I 0, I 0, B false, I 0, B false, I 0, I 0, I 0, jA o13 0, I 0, B false, .view Qbo (wA o13 1), jA o13 2]
 else
 bif gA o8 0 == 3 then
 (Qaa [I 3, .view Qbo (wA o8 1), jA o8 2]).bind fun o14 =>
 (Qaa [I 4000, .view Qbo (wA o14 1), jA o14 2]).bind fun o15 =>
 some [I 8, I 0, I 0, I 0, I 0, I 0, I 0, I 0, I 0, I 0, I 0, I 0, I 0, B false, I 0, B false, I 0, I 0, I 0, I (IntKind.i64.wrap (3 + gA o14 0)), jA o15 0, B false, .view Qbo (wA o15 1), jA o15 2]
 else
 bif gA o8 0 == 4 then
 some [I 9, I 0, I 0, I 0, I 0, I 0, I 0, I 0, I 0, I 0, I 0, I 0, I 0, B false, I 0, B false, I 0, I 0, I 0, I 8, I 0, B true, .view Qbo (wA o8 1), jA o8 2]
 else
 bif gA o8 0 == 5 then
 some [I 13, I 0, I 0, I 0, I 0, I 0, I 0, I 0, I 0, I 0, I 0, I 0, I 0, B false, I 0, B false, I 0, I 0, I 0, I 0, I 0, B false, .view Qbo (wA o8 1), jA o8 2]
 else
 bif gA o8 0 == 6 then
 some [I 12, I 0, I 0, I 0, I 0, I 0, I 0, I 0, I 0, I 0, I 0, I 0, I 0, B false, I 0, B false, I 0, I 0, I 0, I 0, I 0, B false, .view Qbo (wA o8 1), jA o8 2]
 else
 some [I 11, I 0, I 0, I 0, I 0, I 0, I 0, I 0, I 0, I 0, I 0, I 0, I 0, B false, I 0, B false, I 0, I 0, I 0, I 1, I 0, B false, .view Qbo (wA o8 1), jA o8 2] := by kernel_rfl
def Qh4 := mf_cncmill_other Qbg 
theorem sp_cncmill_other : Qak Tryz.prog (C_cncmill_other_0 Qbg) := Qae rfl ⟨r_cncmill_Source_Next, trivial⟩
theorem r_cncmill_other : Qbm Tryz.prog (75, spOf sig_cncmill_other osig_cncmill_other Qh4) := Qa0 (C := (C_cncmill_other_0 Qbg)) (L := 64) (by kernel_rfl) (FnOK.bare rfl rfl rfl) sp_cncmill_other eqOk Qa9 (by kernel_rfl) (by kernel_rfl)
def sig_cncmill_Source_Left : Sk := { tmps := [tf [CS.ptr 20000 0]], boxes := [(20000, 122, [CS.sl Qbo, ci])], rows := [] }
def osig_cncmill_Source_Left : Sk := { tmps := [tf [CS.bool]], boxes := [(20000, 122, [CS.sl Qbo, ci])], rows := [] }
def C_cncmill_Source_Left_0 : Cfg := { spec := Qbx [], eqOk := Qb2, ownOff := ownOff }
def mf_cncmill_Source_Left : Fn := Qax Tryz.prog C_cncmill_Source_Left_0 64 74 sig_cncmill_Source_Left osig_cncmill_Source_Left
theorem mf_cncmill_Source_Left_eq (x0 : Rw) (x1 : Int) : mf_cncmill_Source_Left [.view Qbo x0, I x1] =
 some [B (decide (x1 < (x0.length : Int))), .view Qbo x0, I x1] := by kernel_rfl
def Qdt := mf_cncmill_Source_Left 
theorem sp_cncmill_Source_Left : Qak Tryz.prog (C_cncmill_Source_Left_0 ) := Qae rfl trivial
theorem r_cncmill_Source_Left : Qbm Tryz.prog (74, spOf sig_cncmill_Source_Left osig_cncmill_Source_Left Qdt) := Qa0 (C := C_cncmill_Source_Left_0) (L := 64) (by kernel_rfl) (FnOK.bare rfl rfl rfl) sp_cncmill_Source_Left eqOk Qa9 (by kernel_rfl) (by kernel_rfl)
def sig_cncmill_From : Sk := { tmps := [tf [CS.sl Qbo]], boxes := [], rows := [] }
def osig_cncmill_From : Sk := { tmps := [tf [CS.ptr 5 0]], boxes := [(5, 122, [CS.sl Qbo, ci])], rows := [] }
def C_cncmill_From_0 : Cfg := { spec := Qbx [], eqOk := Qb2, ownOff := ownOff }
def mf_cncmill_From : Fn := Qax Tryz.prog C_cncmill_From_0 64 60 sig_cncmill_From osig_cncmill_From
theorem mf_cncmill_From_eq (x0 : Rw) : mf_cncmill_From [.view Qbo x0] =
 some [.view Qbo x0, I 0] := by kernel_rfl
def Qhi := mf_cncmill_From 
theorem sp_cncmill_From : Qak Tryz.prog (C_cncmill_From_0 ) := Qae rfl trivial
theorem r_cncmill_From : Qbm Tryz.prog (60, spOf sig_cncmill_From osig_cncmill_From Qhi) := Qa0 (C := C_cncmill_From_0) (L := 64) (by kernel_rfl) (FnOK.bare rfl rfl rfl) sp_cncmill_From eqOk Qa9 (by kernel_rfl) (by kernel_rfl)
end Go.Bm
