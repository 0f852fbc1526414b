/- functions of the program and of the references, as models -/
import Derived.Test.YtdllaekpkcanbaaGreatMx3
set_option linter.unusedSimpArgs false
set_option linter.unusedVariables false
set_option maxRecDepth 100000
noncomputable section
namespace Go.Bm
open Go.Proofs
def sig_path_points : Sk := { tmps := [tf [CS.sl kItm], tf [ci], tf [ci]], boxes := [], rows := [] }
def osig_path_points : Sk := { tmps := [tf [CS.sl kPt]], boxes := [], rows := [] }
def C_path_points_0 (Qbd Qbc Qb0 Qi0 Qau Qli : Fn) : Cfg := { spec := Qby [(131, spOf Qna Qlb Qbd), (110, spOf sig_path_next Qoz Qbc), (109, spOf sig_path_soft osig_path_soft Qb0), (145, spOf sig_path_corner osig_path_corner Qi0), (88, spOf Qj7 Qip Qau), (144, spOf sig_curve_Chords osig_curve_Chords Qli)], eqOk := Qb2, ownOff := ownOff }
def mf_path_points (Qbd Qbc Qb0 Qi0 Qau Qli : Fn) : Fn := Qax Tryz.prog (C_path_points_0 Qbd Qbc Qb0 Qi0 Qau Qli) 64 129 sig_path_points osig_path_points
theorem mf_path_points_eq (Qbd Qbc Qb0 Qi0 Qau Qli : Fn) (x0 : Rw) (x1 x2 : Int) : mf_path_points Qbd Qbc Qb0 Qi0 Qau Qli [.view kItm x0, I x1, I x2] =
 bif decide (0 <= x1) && decide (x1 < (x0.length : Int)) then
 (Qli [jA (nth [] x0 x1.toNat) 0, jA (nth [] x0 x1.toNat) 1, jA (nth [] x0 x1.toNat) 2, jA (nth [] x0 x1.toNat) 3, jA (nth [] x0 x1.toNat) 4, jA (nth [] x0 x1.toNat) 5, jA (nth [] x0 x1.toNat) 6, jA (nth [] x0 x1.toNat) 7, jA (nth [] x0 x1.toNat) 8, jA (nth [] x0 x1.toNat) 9, jA (nth [] x0 x1.toNat) 10, jA (nth [] x0 x1.toNat) 11, jA (nth [] x0 x1.toNat) 12, B (bA (nth [] x0 x1.toNat) 13), jA (nth [] x0 x1.toNat) 14, B (bA (nth [] x0 x1.toNat) 15), jA (nth [] x0 x1.toNat) 16, jA (nth [] x0 x1.toNat) 17, jA (nth [] x0 x1.toNat) 18, jA (nth [] x0 x1.toNat) 19, jA (nth [] x0 x1.toNat) 20, B (bA (nth [] x0 x1.toNat) 21)]).bind fun o13 =>
 (Qau [jA (nth [] x0 x1.toNat) 0, jA (nth [] x0 x1.toNat) 1, jA (nth [] x0 x1.toNat) 2, jA (nth [] x0 x1.toNat) 3, jA (nth [] x0 x1.toNat) 4, jA (nth [] x0 x1.toNat) 5, jA (nth [] x0 x1.toNat) 6, jA (nth [] x0 x1.toNat) 7, jA (nth [] x0 x1.toNat) 8, jA (nth [] x0 x1.toNat) 9, jA (nth [] x0 x1.toNat) 10, jA (nth [] x0 x1.toNat) 11, jA (nth [] x0 x1.toNat) 12, B (bA (nth [] x0 x1.toNat) 13), jA (nth [] x0 x1.toNat) 14, B (bA (nth [] x0 x1.toNat) 15), jA (nth [] x0 x1.toNat) 16, jA (nth [] x0 x1.toNat) 17, jA (nth [] x0 x1.toNat) 18, jA (nth [] x0 x1.toNat) 19, jA (nth [] x0 x1.toNat) 20, B (bA (nth [] x0 x1.toNat) 21)]).bind fun o14 =>
 bif !bA o14 0 then
 some [.view kPt (wA o13 0)]
 else
 bif decide (0 <= 1) && decide (1 <= (↑(wA o13 0).length : Int)) then
 bif decide (0 <= IntKind.i64.wrap ((↑(wA o13 0).length : Int) - 1)) && decide (IntKind.i64.wrap ((↑(wA o13 0).length : Int) - 1) <= (↑(wA o13 0).length : Int)) then
 bif decide (x2 >= 0) then
 bif decide (0 <= x2) && decide (x2 < (x0.length : Int)) then
 (Qi0 [jA (nth [] x0 x2.toNat) 0, jA (nth [] x0 x2.toNat) 1, jA (nth [] x0 x2.toNat) 2, jA (nth [] x0 x2.toNat) 3, jA (nth [] x0 x2.toNat) 4, jA (nth [] x0 x2.toNat) 5, jA (nth [] x0 x2.toNat) 6, jA (nth [] x0 x2.toNat) 7, jA (nth [] x0 x2.toNat) 8, jA (nth [] x0 x2.toNat) 9, jA (nth [] x0 x2.toNat) 10, jA (nth [] x0 x2.toNat) 11, jA (nth [] x0 x2.toNat) 12, B (bA (nth [] x0 x2.toNat) 13), jA (nth [] x0 x2.toNat) 14, B (bA (nth [] x0 x2.toNat) 15), jA (nth [] x0 x2.toNat) 16, jA (nth [] x0 x2.toNat) 17, jA (nth [] x0 x2.toNat) 18, jA (nth [] x0 x2.toNat) 19, jA (nth [] x0 x2.toNat) 20, B (bA (nth [] x0 x2.toNat) 21), jA (nth [] x0 x1.toNat) 0, jA (nth [] x0 x1.toNat) 1, jA (nth [] x0 x1.toNat) 2, jA (nth [] x0 x1.toNat) 3, jA (nth [] x0 x1.toNat) 4, jA (nth [] x0 x1.toNat) 5, jA (nth [] x0 x1.toNat) 6, jA (nth [] x0 x1.toNat) 7, jA (nth [] x0 x1.toNat) 8, jA (nth [] x0 x1.toNat) 9, jA (nth [] x0 x1.toNat) 10, jA (nth [] x0 x1.toNat) 11, jA (nth [] x0 x1.toNat) 12, B (bA (nth [] x0 x1.toNat) 13), jA (nth [] x0 x1.toNat) 14, B (bA (nth [] x0 x1.toNat) 15), jA (nth [] x0 x1.toNat) 16, jA (nth [] x0 x1.toNat) 17, jA (nth [] x0 x1.toNat) 18, jA (nth [] x0 x1.toNat) 19, jA (nth [] x0 x1.toNat) 20, B (bA (nth [] x0 x1.toNat) 21)]).bind fun o15 =>
 (Qb0 [.view kItm x0, I x1]).bind fun o16 =>
 bif bA o16 0 then
 (Qbc [.view kItm x0, I x1]).bind fun o17 =>
 bif decide (0 <= gA o17 0) && decide (gA o17 0 < (x0.length : Int)) then
 (Qi0 [jA (nth [] x0 x1.toNat) 0, jA (nth [] x0 x1.toNat) 1, jA (nth [] x0 x1.toNat) 2, jA (nth [] x0 x1.toNat) 3, jA (nth [] x0 x1.toNat) 4, jA (nth [] x0 x1.toNat) 5, jA (nth [] x0 x1.toNat) 6, jA (nth [] x0 x1.toNat) 7, jA (nth [] x0 x1.toNat) 8, jA (nth [] x0 x1.toNat) 9, jA (nth [] x0 x1.toNat) 10, jA (nth [] x0 x1.toNat) 11, jA (nth [] x0 x1.toNat) 12, B (bA (nth [] x0 x1.toNat) 13), jA (nth [] x0 x1.toNat) 14, B (bA (nth [] x0 x1.toNat) 15), jA (nth [] x0 x1.toNat) 16, jA (nth [] x0 x1.toNat) 17, jA (nth [] x0 x1.toNat) 18, jA (nth [] x0 x1.toNat) 19, jA (nth [] x0 x1.toNat) 20, B (bA (nth [] x0 x1.toNat) 21), jA (nth [] x0 (gA o17 0).toNat) 0, jA (nth [] x0 (gA o17 0).toNat) 1, jA (nth [] x0 (gA o17 0).toNat) 2, jA (nth [] x0 (gA o17 0).toNat) 3, jA (nth [] x0 (gA o17 0).toNat) 4, jA (nth [] x0 (gA o17 0).toNat) 5, jA (nth [] x0 (gA o17 0).toNat) 6, jA (nth [] x0 (gA o17 0).toNat) 7, jA (nth [] x0 (gA o17 0).toNat) 8, jA (nth [] x0 (gA o17 0).toNat) 9, jA (nth [] x0 (gA o17 0).toNat) 10, jA (nth [] x0 (gA o17 0).toNat) 11, jA (nth [] x0 (gA o17 0).toNat) 12, B (bA (nth [] x0 (gA o17 0).toNat) 13), jA (nth [] x0 (gA o17 0).toNat) 14, B (bA (nth [] x0 (gA o17 0).toNat) 15), jA (nth [] x0 (gA o17 0).toNat) 16, jA (nth [] x0 (gA o17 0).toNat) 17, jA (nth [] x0 (gA o17 0).toNat) 18, jA (nth [] x0 (gA o17 0).toNat) 19, jA (nth [] x0 (gA o17 0).toNat) 20, B (bA (nth [] x0 (gA o17 0).toNat) 21)]).bind fun o18 =>
 bif (([] ++ wA o15 1).length * 24).ble 140737488355328 then
 (Qbd [jA (nth [] x0 x1.toNat) 0, jA (nth [] x0 x1.toNat) 1, jA (nth [] x0 x1.toNat) 2, jA (nth [] x0 x1.toNat) 3, jA (nth [] x0 x1.toNat) 4, jA (nth [] x0 x1.toNat) 5, jA (nth [] x0 x1.toNat) 6, jA (nth [] x0 x1.toNat) 7, jA (nth [] x0 x1.toNat) 8, jA (nth [] x0 x1.toNat) 9, jA (nth [] x0 x1.toNat) 10, jA (nth [] x0 x1.toNat) 11, jA (nth [] x0 x1.toNat) 12, B (bA (nth [] x0 x1.toNat) 13), jA (nth [] x0 x1.toNat) 14, B (bA (nth [] x0 x1.toNat) 15), jA (nth [] x0 x1.toNat) 16, jA (nth [] x0 x1.toNat) 17, jA (nth [] x0 x1.toNat) 18, jA (nth [] x0 x1.toNat) 19, jA (nth [] x0 x1.toNat) 20, B (bA (nth [] x0 x1.toNat) 21)]).bind fun o19 =>
 bif (([] ++ wA o15 1 ++ [[jA o19 0, jA o19 1, jA o19 2]]).length * 24).ble 140737488355328 then
 bif (([] ++ wA o15 1 ++ [[jA o19 0, jA o19 1, jA o19 2]] ++ wA o18 0).length * 24).ble 140737488355328 then
 some [.view kPt ([] ++ wA o15 1 ++ [[jA o19 0, jA o19 1, jA o19 2]] ++ wA o18 0)]
 else
 none
 else
 none
 else
 none
 else
 none
 else
 bif (([] ++ wA o15 1).length * 24).ble 140737488355328 then
 (Qbd [jA (nth [] x0 x1.toNat) 0, jA (nth [] x0 x1.toNat) 1, jA (nth [] x0 x1.toNat) 2, jA (nth [] x0 x1.toNat) 3, jA (nth [] x0 x1.toNat) 4, jA (nth [] x0 x1.toNat) 5, jA (nth [] x0 x1.toNat) 6, jA (nth [] x0 x1.toNat) 7, jA (nth [] x0 x1.toNat) 8, jA (nth [] x0 x1.toNat) 9, jA (nth [] x0 x1.toNat) 10, jA (nth [] x0 x1.toNat) 11, jA (nth [] x0 x1.toNat) 12, B (bA (nth [] x0 x1.toNat) 13), jA (nth [] x0 x1.toNat) 14, B (bA (nth [] x0 x1.toNat) 15), jA (nth [] x0 x1.toNat) 16, jA (nth [] x0 x1.toNat) 17, jA (nth [] x0 x1.toNat) 18, jA (nth [] x0 x1.toNat) 19, jA (nth [] x0 x1.toNat) 20, B (bA (nth [] x0 x1.toNat) 21)]).bind fun o20 =>
 bif (([] ++ wA o15 1 ++ [[jA o20 0, jA o20 1, jA o20 2]]).length * 24).ble 140737488355328 then
 bif (([] ++ wA o15 1 ++ [[jA o20 0, jA o20 1, jA o20 2]] ++ List.drop (IntKind.i64.wrap ((↑(wA o13 0).length : Int) - 1)).toNat (wA o13 0)).length * 24).ble 140737488355328 then
 some [.view kPt ([] ++ wA o15 1 ++ [[jA o20 0, jA o20 1, jA o20 2]] ++ List.drop (IntKind.i64.wrap ((↑(wA o13 0).length : Int) - 1)).toNat (wA o13 0))]
 else
 none
 else
 none
 else
 none
 else
 none
 else
 (Qb0 [.view kItm x0, I x1]).bind fun o21 =>
 bif bA o21 0 then
 (Qbc [.view kItm x0, I x1]).bind fun o22 =>
 bif decide (0 <= gA o22 0) && decide (gA o22 0 < (x0.length : Int)) then
 (Qi0 [jA (nth [] x0 x1.toNat) 0, jA (nth [] x0 x1.toNat) 1, jA (nth [] x0 x1.toNat) 2, jA (nth [] x0 x1.toNat) 3, jA (nth [] x0 x1.toNat) 4, jA (nth [] x0 x1.toNat) 5, jA (nth [] x0 x1.toNat) 6, jA (nth [] x0 x1.toNat) 7, jA (nth [] x0 x1.toNat) 8, jA (nth [] x0 x1.toNat) 9, jA (nth [] x0 x1.toNat) 10, jA (nth [] x0 x1.toNat) 11, jA (nth [] x0 x1.toNat) 12, B (bA (nth [] x0 x1.toNat) 13), jA (nth [] x0 x1.toNat) 14, B (bA (nth [] x0 x1.toNat) 15), jA (nth [] x0 x1.toNat) 16, jA (nth [] x0 x1.toNat) 17, jA (nth [] x0 x1.toNat) 18, jA (nth [] x0 x1.toNat) 19, jA (nth [] x0 x1.toNat) 20, B (bA (nth [] x0 x1.toNat) 21), jA (nth [] x0 (gA o22 0).toNat) 0, jA (nth [] x0 (gA o22 0).toNat) 1, jA (nth [] x0 (gA o22 0).toNat) 2, jA (nth [] x0 (gA o22 0).toNat) 3, jA (nth [] x0 (gA o22 0).toNat) 4, jA (nth [] x0 (gA o22 0).toNat) 5, jA (nth [] x0 (gA o22 0).toNat) 6, jA (nth [] x0 (gA o22 0).toNat) 7, jA (nth [] x0 (gA o22 0).toNat) 8, jA (nth [] x0 (gA o22 0).toNat) 9, jA (nth [] x0 (gA o22 0).toNat) 10, jA (nth [] x0 (gA o22 0).toNat) 11, jA (nth [] x0 (gA o22 0).toNat) 12, B (bA (nth [] x0 (gA o22 0).toNat) 13), jA (nth [] x0 (gA o22 0).toNat) 14, B (bA (nth [] x0 (gA o22 0).toNat) 15), jA (nth [] x0 (gA o22 0).toNat) 16, jA (nth [] x0 (gA o22 0).toNat) 17, jA (nth [] x0 (gA o22 0).toNat) 18, jA (nth [] x0 (gA o22 0).toNat) 19, jA (nth [] x0 (gA o22 0).toNat) 20, B (bA (nth [] x0 (gA o22 0).toNat) 21)]).bind fun o23 =>
 bif (([] ++ List.take (Int.toNat 1) (wA o13 0)).length * 24).ble 140737488355328 then
 (Qbd [jA (nth [] x0 x1.toNat) 0, jA (nth [] x0 x1.toNat) 1, jA (nth [] x0 x1.toNat) 2, jA (nth [] x0 x1.toNat) 3, jA (nth [] x0 x1.toNat) 4, jA (nth [] x0 x1.toNat) 5, jA (nth [] x0 x1.toNat) 6, jA (nth [] x0 x1.toNat) 7, jA (nth [] x0 x1.toNat) 8, jA (nth [] x0 x1.toNat) 9, jA (nth [] x0 x1.toNat) 10, jA (nth [] x0 x1.toNat) 11, jA (nth [] x0 x1.toNat) 12, B (bA (nth [] x0 x1.toNat) 13), jA (nth [] x0 x1.toNat) 14, B (bA (nth [] x0 x1.toNat) 15), jA (nth [] x0 x1.toNat) 16, jA (nth [] x0 x1.toNat) 17, jA (nth [] x0 x1.toNat) 18, jA (nth [] x0 x1.toNat) 19, jA (nth [] x0 x1.toNat) 20, B (bA (nth [] x0 x1.toNat) 21)]).bind fun o24 =>
 bif (([] ++ List.take (Int.toNat 1) (wA o13 0) ++ [[jA o24 0, jA o24 1, jA o24 2]]).length * 24).ble 140737488355328 then
 bif (([] ++ List.take (Int.toNat 1) (wA o13 0) ++ [[jA o24 0, jA o24 1, jA o24 2]] ++ wA o23 0).length * 24).ble 140737488355328 then
 some [.view kPt ([] ++ List.take (Int.toNat 1) (wA o13 0) ++ [[jA o24 0, jA o24 1, jA o24 2]] ++ wA o23 0)]
 else
 none
 else
 none
 else
 none
 else
 none
 else
 bif (([] ++ List.take (Int.toNat 1) (wA o13 0)).length * 24).ble 140737488355328 then
 (Qbd [jA (nth [] x0 x1.toNat) 0, jA (nth [] x0 x1.toNat) 1, jA (nth [] x0 x1.toNat) 2, jA (nth [] x0 x1.toNat) 3, jA (nth [] x0 x1.toNat) 4, jA (nth [] x0 x1.toNat) 5, jA (nth [] x0 x1.toNat) 6, jA (nth [] x0 x1.toNat) 7, jA (nth [] x0 x1.toNat) 8, jA (nth [] x0 x1.toNat) 9, jA (nth [] x0 x1.toNat) 10, jA (nth [] x0 x1.toNat) 11, jA (nth [] x0 x1.toNat) 12, B (bA (nth [] x0 x1.toNat) 13), jA (nth [] x0 x1.toNat) 14, B (bA (nth [] x0 x1.toNat) 15), jA (nth [] x0 x1.toNat) 16, jA (nth [] x0 x1.toNat) 17, jA (nth [] x0 x1.toNat) 18, jA (nth [] x0 x1.toNat) 19, jA (nth [] x0 x1.toNat) 20, B (bA (nth [] x0 x1.toNat) 21)]).bind fun o25 =>
 bif (([] ++ List.take (Int.toNat 1) (wA o13 0) ++ [[jA o25 0, jA o25 1, jA o25 2]]).length * 24).ble 140737488355328 then
 bif (([] ++ List.take (Int.toNat 1) (wA o13 0) ++ [[jA o25 0, jA o25 1, jA o25 2]] ++ List.drop (IntKind.i64.wrap ((↑(wA o13 0).length : Int) - 1)).toNat (wA o13 0)).length * 24).ble 140737488355328 then
 some [.view kPt ([] ++ List.take (Int.toNat 1) (wA o13 0) ++ [[jA o25 0, jA o25 1, jA o25 2]] ++ List.drop (IntKind.i64.wrap ((↑(wA o13 0).length : Int) - 1)).toNat (wA o13 0))]
 else
 none
 else
 none
 else
 none
 else
 none
 else
 none
 else
 none := by kernel_rfl
def Qn1 := mf_path_points Qeo Qe8 Qg3 m_path_corner Qc6 Qo6 
theorem sp_path_points : Qaj Tryz.prog (C_path_points_0 Qeo Qe8 Qg3 m_path_corner Qc6 Qo6) := Qae rfl ⟨r_path_middle, r_path_next, r_path_soft, r_path_corner, r_path_smooth, r_curve_Chords, trivial⟩
theorem r_path_points : Qbp Tryz.prog (129, spOf sig_path_points osig_path_points Qn1) := Qa0 (C := (C_path_points_0 Qeo Qe8 Qg3 m_path_corner Qc6 Qo6)) (L := 64) (by kernel_rfl) (FnOK.bare rfl rfl rfl) sp_path_points eqOk Qa7 (by kernel_rfl) (by kernel_rfl)
def sig_path_Rate : Sk := { tmps := [TS.v true [ci, ci, ci, ci, ci, ci, ci, ci, ci, ci, ci, ci, ci, CS.bool, ci, CS.bool, ci, ci, ci, ci, ci, CS.bool], tf [ci]], boxes := [], rows := [] }
def osig_path_Rate : Sk := { tmps := [tf [ci]], boxes := [], rows := [] }
def C_path_Rate_0 (Qb8 : Fn) : Cfg := { spec := Qby [(70, spOf sig_wide_MulDiv Qpl Qb8)], eqOk := Qb2, ownOff := ownOff }
def mf_path_Rate (Qb8 : Fn) : Fn := Qax Tryz.prog (C_path_Rate_0 Qb8) 64 127 sig_path_Rate osig_path_Rate
theorem mf_path_Rate_eq (Qb8 : Fn) (x0 x1 x2 x3 x4 x5 x6 x7 x8 x9 x10 x11 x12 : Int) (x13 : Bool) (x14 : Int) (x15 : Bool) (x16 x17 x18 x19 x20 : Int) (x21 : Bool) (x22 : Int) : mf_path_Rate Qb8 [I x0, I x1, I x2, I x3, I x4, I x5, I x6, I x7, I x8, I x9, I x10, I x11, I x12, B x13, I x14, B x15, I x16, I x17, I x18, I x19, I x20, B x21, I x22] =
 bif x0 == 1 then
 some [I 0]
 else
 bif x15 then
 (Qb8 [I (mn (IntKind.i64.wrap (x14 * mx x22 1)) 60000000), I 4096, I 60000, I 2]).bind fun o2 =>
 some [I (mx (gA o2 0) 1)]
 else
 (Qb8 [I (mn x14 60000000), I 4096, I 60000, I 2]).bind fun o3 =>
 some [I (mx (gA o3 0) 1)] := by kernel_rfl
def Qmo := mf_path_Rate Qer 
theorem sp_path_Rate : Qaj Tryz.prog (C_path_Rate_0 Qer) := Qae rfl ⟨r_wide_MulDiv, trivial⟩
theorem r_path_Rate : Qbp Tryz.prog (127, spOf sig_path_Rate osig_path_Rate Qmo) := Qa0 (C := (C_path_Rate_0 Qer)) (L := 64) (by kernel_rfl) (FnOK.bare rfl rfl rfl) sp_path_Rate eqOk Qa7 (by kernel_rfl) (by kernel_rfl)
def Qnc : Sk := { tmps := [tf [CS.ptr 20000 0], tf [CS.sl kItm], tf [ci], tf [ci]], boxes := [(20000, 108, [ci, ci, ci, CS.own 20000 7, CS.own 20001 3, CS.bool, ci, ci, ci])], rows := [(20000, 78, kSgm), (20001, 80, kPt)] }
def Ql6 : Sk := { tmps := [tf [CS.bool]], boxes := [(20000, 108, [ci, ci, ci, CS.own 20000 7, CS.own 20001 3, CS.bool, ci, ci, ci])], rows := [(20000, 78, kSgm), (20001, 80, kPt)] }
def Qni (Qbd Qau Qcv Qdv Qbv Qg0 : Fn) : Cfg := { spec := Qby [(131, spOf Qna Qlb Qbd), (88, spOf Qj7 Qip Qau), (130, spOf Qog Qmt Qcv), (129, spOf sig_path_points osig_path_points Qdv), (128, spOf sig_path_geared Qpq Qbv), (127, spOf sig_path_Rate osig_path_Rate Qg0)], eqOk := Qb2, pure := fun f => !(Qfy [130] f), ownOff := ownOff }
def sk_path_builder_move_6 : Sk := { tmps := [tf [CS.ptr 20000 0], td, td, td, td, td, td, td, td, tf [CS.ptr 9 0], tf [CS.ptr 10 0], td, td, td, td, td, td, td, td, td, td, td, td, td, td, td, td, td, td, td, td, td, td, td, td, tf [CS.sl kPt], tf [ci], tf [ci]] ++ dd 30, boxes := [(9, 67, [ci, ci, ci, ci, ci, ci, ci, ci, ci, ci, ci, ci, ci, CS.bool, ci, CS.bool, ci, ci, ci, ci, ci, CS.bool]), (10, 78, [ci, ci, ci, ci, ci, ci, ci]), (20000, 108, [ci, ci, ci, CS.own 20000 7, CS.own 20001 3, CS.bool, ci, ci, ci])], rows := [(20000, 78, kSgm), (20001, 80, kPt)] }
def ex_path_builder_move_6 : List (Ex × Sk) := [(Ex.exit 0, { tmps := [tf [CS.ptr 20000 0]] ++ dd 67, boxes := [(20000, 108, [ci, ci, ci, CS.own 20000 7, CS.own 20001 3, CS.bool, ci, ci, ci])], rows := [(20000, 78, kSgm), (20001, 80, kPt)] })]
def Qea (Qbd Qau Qcv Qdv Qbv Qg0 : Fn) : Lp := Qkk Tryz.prog (Qni Qbd Qau Qcv Qdv Qbv Qg0) 64 6 (Qfk Tryz.prog 111 6) sk_path_builder_move_6 ex_path_builder_move_6
def C_path_builder_move_1 (Qbd Qau Qcv Qdv Qbv Qg0 : Fn) (N6 : Lp) : Cfg := (Qni Qbd Qau Qcv Qdv Qbv Qg0).loop 6 sk_path_builder_move_6 ex_path_builder_move_6 N6
def Qoi (Qbd Qau Qcv Qdv Qbv Qg0 : Fn) (N6 : Lp) : Fn := Qax Tryz.prog (C_path_builder_move_1 Qbd Qau Qcv Qdv Qbv Qg0 N6) 64 111 Qnc Ql6
theorem Qpd (Qbd Qau Qcv Qdv Qbv Qg0 : Fn) (v0 v1 v2 : Rw) (v3 v4 v5 v6 v7 v8 v9 v10 v11 v12 v13 v14 v15 v16 v17 : Int) (v18 : Bool) (v19 : Int) (v20 : Bool) (v21 v22 v23 v24 v25 : Int) (v26 : Bool) (v27 v28 v29 v30 v31 v32 v33 v34 v35 v36 : Int) (v37 : Bool) (v38 v39 v40 : Int) : Qea Qbd Qau Qcv Qdv Qbv Qg0 [.view kSgm v0, .view kPt v1, .view kPt v2, I v3, I v4, I v5, I v6, I v7, I v8, I v9, I v10, I v11, I v12, I v13, I v14, I v15, I v16, I v17, B v18, I v19, B v20, I v21, I v22, I v23, I v24, I v25, B v26, I v27, I v28, I v29, I v30, I v31, I v32, I v33, I v34, I v35, I v36, B v37, I v38, I v39, I v40] =
 bif decide (v4 < v3) then
 bif decide (0 <= v4) && decide (v4 < (v2.length : Int)) then
 (Qcv [.view kSgm v0, .view kPt v1, jA (nth [] v2 v4.toNat) 0, jA (nth [] v2 v4.toNat) 1, jA (nth [] v2 v4.toNat) 2, I v27, I v28, I v29, I v30, I v31, I v32, I v33, I v34, I v35, I v36, B v37, I v38, I v39, I v40]).bind fun o12 =>
 (Qau [I v5, I v6, I v7, I v8, I v9, I v10, I v11, I v12, I v13, I v14, I v15, I v16, I v17, B v18, I v19, B v20, I v21, I v22, I v23, I v24, I v25, B v26]).bind fun o13 =>
 bif bA o13 0 then
 (Qbd [I v5, I v6, I v7, I v8, I v9, I v10, I v11, I v12, I v13, I v14, I v15, I v16, I v17, B v18, I v19, B v20, I v21, I v22, I v23, I v24, I v25, B v26]).bind fun o14 =>
 bif gA (nth [] v2 v4.toNat) 0 == gA o14 0 && (gA (nth [] v2 v4.toNat) 1 == gA o14 1 && (gA (nth [] v2 v4.toNat) 2 == gA o14 2 && true)) then
 some (0, [.view kSgm (wA o12 0), .view kPt (wA o12 1), .view kPt v2, I v3, I (IntKind.i64.wrap (v4 + 1)), I v5, I v6, I v7, I v8, I v9, I v10, I v11, I v12, I v13, I v14, I v15, I v16, I v17, B v18, I v19, B v20, I v21, I v22, I v23, I v24, I v25, B v26, I v27, I v28, I v29, I v30, I v31, I v32, I v33, jA o12 2, jA o12 3, jA o12 4, B (bA o12 5), jA o12 6, jA o12 7, jA o12 6])
 else
 some (0, [.view kSgm (wA o12 0), .view kPt (wA o12 1), .view kPt v2, I v3, I (IntKind.i64.wrap (v4 + 1)), I v5, I v6, I v7, I v8, I v9, I v10, I v11, I v12, I v13, I v14, I v15, I v16, I v17, B v18, I v19, B v20, I v21, I v22, I v23, I v24, I v25, B v26, I v27, I v28, I v29, I v30, I v31, I v32, I v33, jA o12 2, jA o12 3, jA o12 4, B (bA o12 5), jA o12 6, jA o12 7, jA o12 8])
 else
 some (0, [.view kSgm (wA o12 0), .view kPt (wA o12 1), .view kPt v2, I v3, I (IntKind.i64.wrap (v4 + 1)), I v5, I v6, I v7, I v8, I v9, I v10, I v11, I v12, I v13, I v14, I v15, I v16, I v17, B v18, I v19, B v20, I v21, I v22, I v23, I v24, I v25, B v26, I v27, I v28, I v29, I v30, I v31, I v32, I v33, jA o12 2, jA o12 3, jA o12 4, B (bA o12 5), jA o12 6, jA o12 7, jA o12 8])
 else
 none
 else
 some (1, [.view kSgm v0, .view kPt v1, I v34, I v35, I v36, B v37, I v38, I v39, I v40]) := by kernel_rfl
abbrev Qm9 (Qdv : Fn) (x2 : Rw) (x3 x4 : Int) (N6 : Lp) (x0 x1 : Rw) (o15 : List AC) (x5 x6 x7 : Int) (x8 : Bool) (x9 x10 x11 : Int) (h1_0 : AC) : Option (List AC) :=
 (Qdv [.view kItm x2, I x3, I x4]).bind fun o17 =>
 (N6 [.view kSgm x0, .view kPt x1, .view kPt (wA o17 0), I (↑(wA o17 0).length : Int), I 0, jA (nth [] x2 x3.toNat) 0, jA (nth [] x2 x3.toNat) 1, jA (nth [] x2 x3.toNat) 2, jA (nth [] x2 x3.toNat) 3, jA (nth [] x2 x3.toNat) 4, jA (nth [] x2 x3.toNat) 5, jA (nth [] x2 x3.toNat) 6, jA (nth [] x2 x3.toNat) 7, jA (nth [] x2 x3.toNat) 8, jA (nth [] x2 x3.toNat) 9, jA (nth [] x2 x3.toNat) 10, jA (nth [] x2 x3.toNat) 11, jA (nth [] x2 x3.toNat) 12, B (bA (nth [] x2 x3.toNat) 13), jA (nth [] x2 x3.toNat) 14, B (bA (nth [] x2 x3.toNat) 15), jA (nth [] x2 x3.toNat) 16, jA (nth [] x2 x3.toNat) 17, jA (nth [] x2 x3.toNat) 18, jA (nth [] x2 x3.toNat) 19, jA (nth [] x2 x3.toNat) 20, B (bA (nth [] x2 x3.toNat) 21), I 0, I 0, I 0, I 0, I x3, jA o15 0, h1_0, I x5, I x6, I x7, B x8, I x9, I x10, I x11]).bind fun o18 =>
 bif o18.1.beq 1 then
 some [.view kSgm (wA o18.2 0), .view kPt (wA o18.2 1), B (decide ((↑(wA o18.2 0).length : Int) <= 1048576)), jA o18.2 2, jA o18.2 3, jA o18.2 4, B (bA o18.2 5), jA o18.2 6, jA o18.2 7, jA o18.2 8]
 else
 none
attribute [go_sem] Qm9
theorem mf_path_builder_move_eq (Qbd Qau Qcv Qdv Qbv Qg0 : Fn) (N6 : Lp) (x0 x1 x2 : Rw) (x3 x4 x5 x6 x7 : Int) (x8 : Bool) (x9 x10 x11 : Int) : Qoi Qbd Qau Qcv Qdv Qbv Qg0 N6 [.view kSgm x0, .view kPt x1, .view kItm x2, I x3, I x4, I x5, I x6, I x7, B x8, I x9, I x10, I x11] =
 bif decide (0 <= x3) && decide (x3 < (x2.length : Int)) then
 (Qg0 [jA (nth [] x2 x3.toNat) 0, jA (nth [] x2 x3.toNat) 1, jA (nth [] x2 x3.toNat) 2, jA (nth [] x2 x3.toNat) 3, jA (nth [] x2 x3.toNat) 4, jA (nth [] x2 x3.toNat) 5, jA (nth [] x2 x3.toNat) 6, jA (nth [] x2 x3.toNat) 7, jA (nth [] x2 x3.toNat) 8, jA (nth [] x2 x3.toNat) 9, jA (nth [] x2 x3.toNat) 10, jA (nth [] x2 x3.toNat) 11, jA (nth [] x2 x3.toNat) 12, B (bA (nth [] x2 x3.toNat) 13), jA (nth [] x2 x3.toNat) 14, B (bA (nth [] x2 x3.toNat) 15), jA (nth [] x2 x3.toNat) 16, jA (nth [] x2 x3.toNat) 17, jA (nth [] x2 x3.toNat) 18, jA (nth [] x2 x3.toNat) 19, jA (nth [] x2 x3.toNat) 20, B (bA (nth [] x2 x3.toNat) 21), I x10]).bind fun o15 =>
 (Qbv [jA (nth [] x2 x3.toNat) 0, jA (nth [] x2 x3.toNat) 1, jA (nth [] x2 x3.toNat) 2, jA (nth [] x2 x3.toNat) 3, jA (nth [] x2 x3.toNat) 4, jA (nth [] x2 x3.toNat) 5, jA (nth [] x2 x3.toNat) 6, jA (nth [] x2 x3.toNat) 7, jA (nth [] x2 x3.toNat) 8, jA (nth [] x2 x3.toNat) 9, jA (nth [] x2 x3.toNat) 10, jA (nth [] x2 x3.toNat) 11, jA (nth [] x2 x3.toNat) 12, B (bA (nth [] x2 x3.toNat) 13), jA (nth [] x2 x3.toNat) 14, B (bA (nth [] x2 x3.toNat) 15), jA (nth [] x2 x3.toNat) 16, jA (nth [] x2 x3.toNat) 17, jA (nth [] x2 x3.toNat) 18, jA (nth [] x2 x3.toNat) 19, jA (nth [] x2 x3.toNat) 20, B (bA (nth [] x2 x3.toNat) 21)]).bind fun o16 =>
 bif bA o16 0 then
 Qm9 Qdv x2 x3 x4 N6 x0 x1 o15 x5 x6 x7 x8 x9 x10 x11 (I (mn (IntKind.i64.wrap (gA (nth [] x2 x3.toNat) 14 * 16)) 16777216))
 else
 Qm9 Qdv x2 x3 x4 N6 x0 x1 o15 x5 x6 x7 x8 x9 x10 x11 (I 0)
 else
 none := by kernel_rfl
def l_path_builder_move_6 := Qbn (Qea Qeo Qc6 Qgm Qn1 Qfp Qmo )
def Qec := Qoi Qeo Qc6 Qgm Qn1 Qfp Qmo l_path_builder_move_6
theorem sp_path_builder_move : Qaj Tryz.prog (Qni Qeo Qc6 Qgm Qn1 Qfp Qmo) := Qae rfl ⟨r_path_middle, r_path_smooth, r_path_builder_add, r_path_points, r_path_geared, r_path_Rate, trivial⟩
theorem r_path_builder_move : Qbp Tryz.prog (111, spOf Qnc Ql6 Qec) := Qa0 (C := (C_path_builder_move_1 Qeo Qc6 Qgm Qn1 Qfp Qmo l_path_builder_move_6)) (L := 64) (by kernel_rfl) ((FnOK.bare rfl rfl rfl).loop sp_path_builder_move eqOk Qa7 (by kernel_rfl) (by kernel_rfl)) sp_path_builder_move eqOk Qa7 (by kernel_rfl) (by kernel_rfl)
def sig_path_check : Sk := { tmps := [TS.v true [ci, ci, ci, ci, ci, ci, ci, ci, ci, ci, ci, ci, ci, CS.bool, ci, CS.bool, ci, ci, ci, ci, ci, CS.bool]], boxes := [], rows := [] }
def osig_path_check : Sk := { tmps := [tf [ci]], boxes := [], rows := [] }
def C_path_check_0 (Qbt Qag : Fn) : Cfg := { spec := Qby [(126, spOf Qms Qk8 Qbt), (108, spOf Qjv Qio Qag)], eqOk := Qb2, ownOff := ownOff }
def mf_path_check (Qbt Qag : Fn) : Fn := Qax Tryz.prog (C_path_check_0 Qbt Qag) 64 107 sig_path_check osig_path_check
abbrev Qjk (x0 x19 x20 : Int) : Option (List AC) :=
 bif x0 == 8 then
 bif decide (x19 < 3) then
 some [I 1]
 else
 bif decide (x19 > 5) then
 some [I 1]
 else
 bif decide (x20 < 0) then
 some [I 1]
 else
 bif decide (x20 > 30000) then
 some [I 1]
 else
 some [I 0]
 else
 some [I 0]
attribute [go_sem] Qjk
theorem mf_path_check_eq (Qbt Qag : Fn) (x0 x1 x2 x3 x4 x5 x6 x7 x8 x9 x10 x11 x12 : Int) (x13 : Bool) (x14 : Int) (x15 : Bool) (x16 x17 x18 x19 x20 : Int) (x21 : Bool) : mf_path_check Qbt Qag [I x0, I x1, I x2, I x3, I x4, I x5, I x6, I x7, I x8, I x9, I x10, I x11, I x12, B x13, I x14, B x15, I x16, I x17, I x18, I x19, I x20, B x21] =
 bif decide (x0 < 1) then
 some [I 1]
 else
 bif decide (x0 > 14) then
 some [I 1]
 else
 (Qag [I x0]).bind fun o4 =>
 bif bA o4 0 then
 (Qbt [I x0, I x1, I x2, I x3, I x4, I x5, I x6, I x7, I x8, I x9, I x10, I x11, I x12, B x13, I x14, B x15, I x16, I x17, I x18, I x19, I x20, B x21]).bind fun o5 =>
 bif !bA o5 0 then
 some [I 1]
 else
 bif decide (x18 < 0) then
 some [I 1]
 else
 bif decide (x18 > 1000) then
 some [I 1]
 else
 (Qag [I x0]).bind fun o6 =>
 bif bA o6 0 then
 bif x0 != 1 then
 bif decide (x14 < 1) then
 some [I 1]
 else
 bif decide (x14 > 60000000) then
 some [I 1]
 else
 Qjk x0 x19 x20
 else
 Qjk x0 x19 x20
 else
 Qjk x0 x19 x20
 else
 (Qag [I x0]).bind fun o7 =>
 bif bA o7 0 then
 bif x0 != 1 then
 bif decide (x14 < 1) then
 some [I 1]
 else
 bif decide (x14 > 60000000) then
 some [I 1]
 else
 Qjk x0 x19 x20
 else
 Qjk x0 x19 x20
 else
 Qjk x0 x19 x20 := by kernel_rfl
def Qix := mf_path_check Qe4 Qcq 
theorem sp_path_check : Qaj Tryz.prog (C_path_check_0 Qe4 Qcq) := Qae rfl ⟨r_curve_Valid, r_path_motion, trivial⟩
theorem r_path_check : Qbp Tryz.prog (107, spOf sig_path_check osig_path_check Qix) := Qa0 (C := (C_path_check_0 Qe4 Qcq)) (L := 64) (by kernel_rfl) (FnOK.bare rfl rfl rfl) sp_path_check eqOk Qa7 (by kernel_rfl) (by kernel_rfl)
def sig_path_build : Sk := { tmps := [tf [CS.sl kItm]], boxes := [], rows := [] }
def osig_path_build : Sk := { tmps := [TS.tup [(false, [CS.ptr 13 0]), (false, [ci])]], boxes := [(13, 108, [ci, ci, ci, CS.own 1013003 7, CS.own 1013004 3, CS.bool, ci, ci, ci])], rows := [(1013003, 78, kSgm), (1013004, 80, kPt)] }
def C_path_build_0 (Qai Qam Qbc Qb0 Qag Qdb : Fn) : Cfg := { spec := Qby [(112, spOf Qmx Ql5 Qai), (111, spOf Qnc Ql6 Qam), (110, spOf sig_path_next Qoz Qbc), (109, spOf sig_path_soft osig_path_soft Qb0), (108, spOf Qjv Qio Qag), (107, spOf sig_path_check osig_path_check Qdb)], eqOk := Qb2, pure := fun f => !(Qfy [112, 111] f), ownOff := ownOff }
def sk_path_build_6 : Sk := { tmps := [tf [CS.sl kItm], td, td, td, tf [CS.ptr 13 0], tf [ci], td, td, td, td, td, td, td, td, td, td, td, td, tf [CS.sl kItm], tf [ci], tf [ci]] ++ dd 87, boxes := [(13, 108, [ci, ci, ci, CS.own 1013003 7, CS.own 1013004 3, CS.bool, ci, ci, ci])], rows := [(1013003, 78, kSgm), (1013004, 80, kPt)] }
def ex_path_build_6 : List (Ex × Sk) := [(Ex.ret, { tmps := [td, td, tf [CS.ptr 13 0], tf [ci]] ++ dd 104, boxes := [(13, 108, [ci, ci, ci, CS.own 1013003 7, CS.own 1013004 3, CS.bool, ci, ci, ci])], rows := [(1013003, 78, kSgm), (1013004, 80, kPt)] }), (Ex.exit 0, { tmps := [tf [CS.sl kItm], td, td, td, tf [CS.ptr 13 0]] ++ dd 103, boxes := [(13, 108, [ci, ci, ci, CS.own 1013003 7, CS.own 1013004 3, CS.bool, ci, ci, ci])], rows := [(1013003, 78, kSgm), (1013004, 80, kPt)] })]
def Qmp (Qai Qam Qbc Qb0 Qag Qdb : Fn) : Lp := Qkk Tryz.prog (C_path_build_0 Qai Qam Qbc Qb0 Qag Qdb) 64 6 (Qfk Tryz.prog 77 6) sk_path_build_6 ex_path_build_6
def C_path_build_1 (Qai Qam Qbc Qb0 Qag Qdb : Fn) (N6 : Lp) : Cfg := (C_path_build_0 Qai Qam Qbc Qb0 Qag Qdb).loop 6 sk_path_build_6 ex_path_build_6 N6
def sk_path_build_18 : Sk := { tmps := [tf [CS.sl kItm], td, td, td, tf [CS.ptr 13 0], tf [ci], td, td, td, td, td, td, td, td, td, td, td, td, td, td, td, td, td, td, td, td, td, td, td, td, td, td, td, td, td, td, td, td, td, td, td, td, td, td, td, td, td, td, td, td, tf [CS.sl kItm], tf [ci], tf [ci]] ++ dd 55, boxes := [(13, 108, [ci, ci, ci, CS.own 1013003 7, CS.own 1013004 3, CS.bool, ci, ci, ci])], rows := [(1013003, 78, kSgm), (1013004, 80, kPt)] }
def ex_path_build_18 : List (Ex × Sk) := [(Ex.ret, { tmps := [td, td, tf [CS.ptr 13 0], tf [ci]] ++ dd 104, boxes := [(13, 108, [ci, ci, ci, CS.own 1013003 7, CS.own 1013004 3, CS.bool, ci, ci, ci])], rows := [(1013003, 78, kSgm), (1013004, 80, kPt)] }), (Ex.exit 2, { tmps := [td, td, td, td, tf [CS.ptr 13 0]] ++ dd 103, boxes := [(13, 108, [ci, ci, ci, CS.own 1013003 7, CS.own 1013004 3, CS.bool, ci, ci, ci])], rows := [(1013003, 78, kSgm), (1013004, 80, kPt)] })]
def Qk5 (Qai Qam Qbc Qb0 Qag Qdb : Fn) (N6 : Lp) : Lp := Qkk Tryz.prog (C_path_build_1 Qai Qam Qbc Qb0 Qag Qdb N6) 64 18 (Qfk Tryz.prog 77 18) sk_path_build_18 ex_path_build_18
def C_path_build_2 (Qai Qam Qbc Qb0 Qag Qdb : Fn) (N6 N18 : Lp) : Cfg := (C_path_build_1 Qai Qam Qbc Qb0 Qag Qdb N6).loop 18 sk_path_build_18 ex_path_build_18 N18
def mf_path_build (Qai Qam Qbc Qb0 Qag Qdb : Fn) (N6 N18 : Lp) : Fn := Qax Tryz.prog (C_path_build_2 Qai Qam Qbc Qb0 Qag Qdb N6 N18) 64 77 sig_path_build osig_path_build
theorem st_path_build_6_eq (Qai Qam Qbc Qb0 Qag Qdb : Fn) (v0 v1 v2 : Rw) (v3 : Int) (v4 : Rw) (v5 v6 v7 v8 v9 : Int) (v10 : Bool) (v11 v12 v13 : Int) : Qmp Qai Qam Qbc Qb0 Qag Qdb [.view kSgm v0, .view kPt v1, .view kItm v2, I v3, .view kItm v4, I v5, I v6, I v7, I v8, I v9, B v10, I v11, I v12, I v13] =
 bif decide (v6 < v5) then
 bif decide (0 <= v6) && decide (v6 < (v4.length : Int)) then
 (Qdb [jA (nth [] v4 v6.toNat) 0, jA (nth [] v4 v6.toNat) 1, jA (nth [] v4 v6.toNat) 2, jA (nth [] v4 v6.toNat) 3, jA (nth [] v4 v6.toNat) 4, jA (nth [] v4 v6.toNat) 5, jA (nth [] v4 v6.toNat) 6, jA (nth [] v4 v6.toNat) 7, jA (nth [] v4 v6.toNat) 8, jA (nth [] v4 v6.toNat) 9, jA (nth [] v4 v6.toNat) 10, jA (nth [] v4 v6.toNat) 11, jA (nth [] v4 v6.toNat) 12, B (bA (nth [] v4 v6.toNat) 13), jA (nth [] v4 v6.toNat) 14, B (bA (nth [] v4 v6.toNat) 15), jA (nth [] v4 v6.toNat) 16, jA (nth [] v4 v6.toNat) 17, jA (nth [] v4 v6.toNat) 18, jA (nth [] v4 v6.toNat) 19, jA (nth [] v4 v6.toNat) 20, B (bA (nth [] v4 v6.toNat) 21)]).bind fun o53 =>
 bif gA o53 0 != 0 then
 some (1, [.view kSgm v0, .view kPt v1, jA o53 0, I v7, I v8, I v9, B v10, I v11, I v12, I v13])
 else
 (Qag [jA (nth [] v4 v6.toNat) 0]).bind fun o54 =>
 bif !bA o54 0 then
 some (0, [.view kSgm v0, .view kPt v1, .view kItm v2, I v3, .view kItm v4, I v5, I (IntKind.i64.wrap (v6 + 1)), I v7, I v8, I v9, B v10, I v11, I v12, I v13])
 else
 bif decide (v3 >= 0) then
 bif decide (0 <= v3) && decide (v3 < (v2.length : Int)) then
 bif !(gA (nth [] v2 v3.toNat) 5 == gA (nth [] v4 v6.toNat) 2 && (gA (nth [] v2 v3.toNat) 6 == gA (nth [] v4 v6.toNat) 3 && (gA (nth [] v2 v3.toNat) 7 == gA (nth [] v4 v6.toNat) 4 && true))) then
 some (1, [.view kSgm v0, .view kPt v1, I 13, I v7, I v8, I v9, B v10, I v11, I v12, I v13])
 else
 some (0, [.view kSgm v0, .view kPt v1, .view kItm v2, I v6, .view kItm v4, I v5, I (IntKind.i64.wrap (v6 + 1)), I v7, I v8, I v9, B v10, I v11, I v12, I v13])
 else
 none
 else
 some (0, [.view kSgm v0, .view kPt v1, .view kItm v2, I v6, .view kItm v4, I v5, I (IntKind.i64.wrap (v6 + 1)), I v7, I v8, I v9, B v10, I v11, I v12, I v13])
 else
 none
 else
 some (2, [.view kSgm v0, .view kPt v1, .view kItm v2, I v7, I v8, I v9, B v10, I v11, I v12, I v13]) := by kernel_rfl
abbrev Qib (Qam : Fn) (v0 v1 v2 : Rw) (v6 v7 v8 v9 : Int) (v10 : Bool) (v11 : Int) (h1_0 : AC) (v13 : Int) (Qai : Fn) (v4 : Rw) (v5 : Int) (h2_0 : AC) : Option (Nat × List AC) :=
 (Qam [.view kSgm v0, .view kPt v1, .view kItm v2, I v6, h2_0, I v7, I v8, I v9, B v10, I v11, h1_0, I v13]).bind fun o57 =>
 bif !bA o57 2 then
 some (1, [.view kSgm (wA o57 0), .view kPt (wA o57 1), I 10, jA o57 3, jA o57 4, jA o57 5, B (bA o57 6), jA o57 7, jA o57 8, jA o57 9])
 else
 (Qai [.view kSgm (wA o57 0), .view kPt (wA o57 1), .view kItm v2, I v6, jA o57 3, jA o57 4, jA o57 5, B (bA o57 6), jA o57 7, jA o57 8, jA o57 9]).bind fun o58 =>
 some (0, [.view kSgm (wA o58 0), .view kPt (wA o58 1), .view kItm v2, I v6, .view kItm v4, I v5, I (IntKind.i64.wrap (v6 + 1)), jA o58 2, jA o58 3, jA o58 4, B (bA o58 5), jA o58 6, jA o58 7, jA o58 8])
attribute [go_sem] Qib
abbrev Qhy (Qag : Fn) (v4 : Rw) (v6 v3 : Int) (Qb0 : Fn) (v2 : Rw) (Qam : Fn) (v0 v1 : Rw) (v7 v8 v9 : Int) (v10 : Bool) (v11 v13 : Int) (Qai : Fn) (v5 : Int) (Qbc : Fn) (h1_0 : AC) : Option (Nat × List AC) :=
 (Qag [jA (nth [] v4 v6.toNat) 0]).bind fun o55 =>
 bif bA o55 0 then
 bif decide (v3 >= 0) then
 (Qb0 [.view kItm v2, I v3]).bind fun o56 =>
 bif !bA o56 0 then
 Qib Qam v0 v1 v2 v6 v7 v8 v9 v10 v11 h1_0 v13 Qai v4 v5 (I (-1))
 else
 (Qbc [.view kItm v2, I v3]).bind fun o59 =>
 bif gA o59 0 != v6 then
 Qib Qam v0 v1 v2 v6 v7 v8 v9 v10 v11 h1_0 v13 Qai v4 v5 (I (-1))
 else
 Qib Qam v0 v1 v2 v6 v7 v8 v9 v10 v11 h1_0 v13 Qai v4 v5 (I v3)
 else
 Qib Qam v0 v1 v2 v6 v7 v8 v9 v10 v11 h1_0 v13 Qai v4 v5 (I v3)
 else
 (Qai [.view kSgm v0, .view kPt v1, .view kItm v2, I v6, I v7, I v8, I v9, B v10, I v11, h1_0, I v13]).bind fun o66 =>
 some (0, [.view kSgm (wA o66 0), .view kPt (wA o66 1), .view kItm v2, I v3, .view kItm v4, I v5, I (IntKind.i64.wrap (v6 + 1)), jA o66 2, jA o66 3, jA o66 4, B (bA o66 5), jA o66 6, jA o66 7, jA o66 8])
attribute [go_sem] Qhy
theorem st_path_build_18_eq (Qai Qam Qbc Qb0 Qag Qdb : Fn) (N6 : Lp) (v0 v1 v2 : Rw) (v3 : Int) (v4 : Rw) (v5 v6 v7 v8 v9 : Int) (v10 : Bool) (v11 v12 v13 : Int) : Qk5 Qai Qam Qbc Qb0 Qag Qdb N6 [.view kSgm v0, .view kPt v1, .view kItm v2, I v3, .view kItm v4, I v5, I v6, I v7, I v8, I v9, B v10, I v11, I v12, I v13] =
 bif decide (v6 < v5) then
 bif decide (0 <= v6) && decide (v6 < (v4.length : Int)) then
 bif gA (nth [] v4 v6.toNat) 0 == 8 then
 bif gA (nth [] v4 v6.toNat) 19 == 3 then
 Qhy Qag v4 v6 v3 Qb0 v2 Qam v0 v1 v7 v8 v9 v10 v11 v13 Qai v5 Qbc (jA (nth [] v4 v6.toNat) 20)
 else
 bif gA (nth [] v4 v6.toNat) 19 == 4 then
 Qhy Qag v4 v6 v3 Qb0 v2 Qam v0 v1 v7 v8 v9 v10 v11 v13 Qai v5 Qbc (jA (nth [] v4 v6.toNat) 20)
 else
 Qhy Qag v4 v6 v3 Qb0 v2 Qam v0 v1 v7 v8 v9 v10 v11 v13 Qai v5 Qbc (I v12)
 else
 Qhy Qag v4 v6 v3 Qb0 v2 Qam v0 v1 v7 v8 v9 v10 v11 v13 Qai v5 Qbc (I v12)
 else
 none
 else
 some (2, [.view kSgm v0, .view kPt v1, I v7, I v8, I v9, B v10, I v11, I v12, I v13]) := by kernel_rfl
theorem mf_path_build_eq (Qai Qam Qbc Qb0 Qag Qdb : Fn) (N6 N18 : Lp) (x0 : Rw) : mf_path_build Qai Qam Qbc Qb0 Qag Qdb N6 N18 [.view kItm x0] =
 bif decide ((x0.length : Int) > 20000) then
 some [.view kSgm [], .view kPt [], I 10, I 0, I 0, I 0, B false, I 0, I 0, I 0]
 else
 (N6 [.view kSgm [], .view kPt [], .view kItm x0, I (-1), .view kItm x0, I (x0.length : Int), I 0, I 0, I 0, I 0, B false, I 0, I 0, I 0]).bind fun o103 =>
 bif o103.1.beq 1 then
 some [.view kSgm (wA o103.2 0), .view kPt (wA o103.2 1), jA o103.2 2, jA o103.2 3, jA o103.2 4, jA o103.2 5, B (bA o103.2 6), jA o103.2 7, jA o103.2 8, jA o103.2 9]
 else
 bif o103.1.beq 2 then
 (N18 [.view kSgm (wA o103.2 0), .view kPt (wA o103.2 1), .view kItm (wA o103.2 2), I (-1), .view kItm (wA o103.2 2), I (↑(wA o103.2 2).length : Int), I 0, jA o103.2 3, jA o103.2 4, jA o103.2 5, B (bA o103.2 6), jA o103.2 7, jA o103.2 8, jA o103.2 9]).bind fun o104 =>
 bif o104.1.beq 1 then
 some [.view kSgm (wA o104.2 0), .view kPt (wA o104.2 1), jA o104.2 2, jA o104.2 3, jA o104.2 4, jA o104.2 5, B (bA o104.2 6), jA o104.2 7, jA o104.2 8, jA o104.2 9]
 else
 bif o104.1.beq 2 then
 some [.view kSgm (wA o104.2 0), .view kPt (wA o104.2 1), I 0, jA o104.2 2, jA o104.2 3, jA o104.2 4, B (bA o104.2 5), jA o104.2 6, jA o104.2 7, jA o104.2 8]
 else
 none
 else
 none := by kernel_rfl
def Qpb := Qbn (Qmp Qdw Qec Qe8 Qg3 Qcq Qix )
def l_path_build_18 := Qbn (Qk5 Qdw Qec Qe8 Qg3 Qcq Qix Qpb)
def Qi4 := mf_path_build Qdw Qec Qe8 Qg3 Qcq Qix Qpb l_path_build_18
theorem sp_path_build : Qaj Tryz.prog (C_path_build_0 Qdw Qec Qe8 Qg3 Qcq Qix) := Qae rfl ⟨r_path_builder_mark, r_path_builder_move, r_path_next, r_path_soft, r_path_motion, r_path_check, trivial⟩
theorem r_path_build : Qbp Tryz.prog (77, spOf sig_path_build osig_path_build Qi4) := Qa0 (C := (C_path_build_2 Qdw Qec Qe8 Qg3 Qcq Qix Qpb l_path_build_18)) (L := 64) (by kernel_rfl) (((FnOK.bare rfl rfl rfl).loop sp_path_build eqOk Qa7 (by kernel_rfl) (by kernel_rfl)).loop sp_path_build eqOk Qa7 (by kernel_rfl) (by kernel_rfl)) sp_path_build eqOk Qa7 (by kernel_rfl) (by kernel_rfl)
def sig_path_Settled : Sk := { tmps := [tf [CS.sl kItm]], boxes := [], rows := [] }
def osig_path_Settled : Sk := { tmps := [tf [ci]], boxes := [], rows := [] }
def C_path_Settled_0 (Qau Qc7 : Fn) : Cfg := { spec := Qby [(88, spOf Qj7 Qip Qau), (77, spOf sig_path_build osig_path_build Qc7)], eqOk := Qb2, pure := fun f => !(Qfy [77] f), ownOff := ownOff }
def sk_path_Settled_5 : Sk := { tmps := [tf [CS.sl kItm], td, td, tf [CS.ptr 100800 0], td, tf [ci]] ++ dd 47, boxes := [(100800, 108, [ci, ci, ci, CS.own 100800 7, CS.own 100801 3, CS.bool, ci, ci, ci])], rows := [(100800, 78, kSgm), (100801, 80, kPt)] }
def ex_path_Settled_5 : List (Ex × Sk) := [(Ex.ret, { tmps := [td, td, tf [ci]] ++ dd 50, boxes := [], rows := [] }), (Ex.exit 0, { tmps := [td, td, td, tf [CS.ptr 100800 0]] ++ dd 49, boxes := [(100800, 108, [ci, ci, ci, CS.own 100800 7, CS.own 100801 3, CS.bool, ci, ci, ci])], rows := [(100800, 78, kSgm), (100801, 80, kPt)] })]
def Qhu (Qau Qc7 : Fn) : Lp := Qkk Tryz.prog (C_path_Settled_0 Qau Qc7) 64 5 (Qfk Tryz.prog 45 5) sk_path_Settled_5 ex_path_Settled_5
def C_path_Settled_1 (Qau Qc7 : Fn) (N5 : Lp) : Cfg := (C_path_Settled_0 Qau Qc7).loop 5 sk_path_Settled_5 ex_path_Settled_5 N5
def mf_path_Settled (Qau Qc7 : Fn) (N5 : Lp) : Fn := Qax Tryz.prog (C_path_Settled_1 Qau Qc7 N5) 64 45 sig_path_Settled osig_path_Settled
theorem st_path_Settled_5_eq (Qau Qc7 : Fn) (v0 v1 v2 : Rw) (v3 v4 v5 v6 : Int) (v7 : Bool) (v8 v9 v10 : Int) : Qhu Qau Qc7 [.view kSgm v0, .view kPt v1, .view kItm v2, I v3, I v4, I v5, I v6, B v7, I v8, I v9, I v10] =
 bif decide (v3 >= 0) then
 bif decide (0 <= v3) && decide (v3 < (v2.length : Int)) then
 bif gA (nth [] v2 v3.toNat) 0 == 10 then
 some (0, [.view kSgm v0, .view kPt v1, .view kItm v2, I (IntKind.i64.wrap (v3 - 1)), I v4, I v5, I v6, B v7, I v8, I v9, I v10])
 else
 bif decide (0 <= v3) && decide (v3 < (v2.length : Int)) then
 (Qau [jA (nth [] v2 v3.toNat) 0, jA (nth [] v2 v3.toNat) 1, jA (nth [] v2 v3.toNat) 2, jA (nth [] v2 v3.toNat) 3, jA (nth [] v2 v3.toNat) 4, jA (nth [] v2 v3.toNat) 5, jA (nth [] v2 v3.toNat) 6, jA (nth [] v2 v3.toNat) 7, jA (nth [] v2 v3.toNat) 8, jA (nth [] v2 v3.toNat) 9, jA (nth [] v2 v3.toNat) 10, jA (nth [] v2 v3.toNat) 11, jA (nth [] v2 v3.toNat) 12, B (bA (nth [] v2 v3.toNat) 13), jA (nth [] v2 v3.toNat) 14, B (bA (nth [] v2 v3.toNat) 15), jA (nth [] v2 v3.toNat) 16, jA (nth [] v2 v3.toNat) 17, jA (nth [] v2 v3.toNat) 18, jA (nth [] v2 v3.toNat) 19, jA (nth [] v2 v3.toNat) 20, B (bA (nth [] v2 v3.toNat) 21)]).bind fun o4 =>
 bif bA o4 0 then
 bif decide (0 <= v3) && decide (v3 < (v2.length : Int)) then
 bif gA (nth [] v2 v3.toNat) 18 != 0 then
 some (1, [I v10])
 else
 some (1, [I v8])
 else
 none
 else
 some (1, [I v8])
 else
 none
 else
 none
 else
 some (2, [.view kSgm v0, .view kPt v1, I v4, I v5, I v6, B v7, I v8, I v9, I v10]) := by kernel_rfl
theorem mf_path_Settled_eq (Qau Qc7 : Fn) (N5 : Lp) (x0 : Rw) : mf_path_Settled Qau Qc7 N5 [.view kItm x0] =
 (Qc7 [.view kItm x0]).bind fun o5 =>
 bif gA o5 2 != 0 then
 some [I 0]
 else
 (N5 [.view kSgm (wA o5 0), .view kPt (wA o5 1), .view kItm x0, I (IntKind.i64.wrap ((x0.length : Int) - 1)), jA o5 3, jA o5 4, jA o5 5, B (bA o5 6), jA o5 7, jA o5 8, jA o5 9]).bind fun o6 =>
 bif o6.1.beq 1 then
 some [jA o6.2 0]
 else
 bif o6.1.beq 2 then
 some [jA o6.2 6]
 else
 none := by kernel_rfl
def l_path_Settled_5 := Qbn (Qhu Qc6 Qi4 )
def Qo0 := mf_path_Settled Qc6 Qi4 l_path_Settled_5
theorem sp_path_Settled : Qaj Tryz.prog (C_path_Settled_0 Qc6 Qi4) := Qae rfl ⟨r_path_smooth, r_path_build, trivial⟩
theorem r_path_Settled : Qbp Tryz.prog (45, spOf sig_path_Settled osig_path_Settled Qo0) := Qa0 (C := (C_path_Settled_1 Qc6 Qi4 l_path_Settled_5)) (L := 64) (by kernel_rfl) ((FnOK.bare rfl rfl rfl).loop sp_path_Settled eqOk Qa7 (by kernel_rfl) (by kernel_rfl)) sp_path_Settled eqOk Qa7 (by kernel_rfl) (by kernel_rfl)
def sig_path_inside : Sk := { tmps := [TS.v true [ci, ci, ci]], boxes := [], rows := [] }
def osig_path_inside : Sk := { tmps := [tf [CS.bool]], boxes := [], rows := [] }
def C_path_inside_0 : Cfg := { spec := Qby [], eqOk := Qb2, ownOff := ownOff, unroll := [2] }
def mf_path_inside : Fn := Qax Tryz.prog C_path_inside_0 64 91 sig_path_inside osig_path_inside
theorem mf_path_inside_eq (x0 x1 x2 : Int) : mf_path_inside [I x0, I x1, I x2] =
 bif decide (x0 < -16777216) then
 some [B false]
 else
 bif decide (x0 > 16777216) then
 some [B false]
 else
 bif decide (x1 < -16777216) then
 some [B false]
 else
 bif decide (x1 > 16777216) then
 some [B false]
 else
 bif decide (x2 < -16777216) then
 some [B false]
 else
 bif decide (x2 > 16777216) then
 some [B false]
 else
 some [B true] := by kernel_rfl
def Qgg := mf_path_inside 
theorem sp_path_inside : Qaj Tryz.prog (C_path_inside_0 ) := Qae rfl trivial
theorem r_path_inside : Qbp Tryz.prog (91, spOf sig_path_inside osig_path_inside Qgg) := Qa0 (C := C_path_inside_0) (L := 64) (by kernel_rfl) (FnOK.bare rfl rfl rfl) sp_path_inside eqOk Qa7 (by kernel_rfl) (by kernel_rfl)
def sig_path_Valid : Sk := { tmps := [TS.v true [ci, ci, ci, CS.sl kSgm, CS.sl kPt]], boxes := [], rows := [] }
def osig_path_Valid : Sk := { tmps := [tf [CS.bool]], boxes := [], rows := [] }
def C_path_Valid_0 (Qal Qct : Fn) : Cfg := { spec := Qby [(92, spOf Qk6 Qj9 Qal), (91, spOf sig_path_inside osig_path_inside Qct)], eqOk := Qb2, ownOff := ownOff }
def sk_path_Valid_5 : Sk := { tmps := [td, tf [CS.ptr 1 0], td, tf [CS.ptr 3 0], tf [ci], tf [ci], td, td, td, td, td, td, td, td, td, td, td, td, td, td, td, td, td, td, td, td, td, td, td, td, tf [CS.sl kSgm], tf [ci], tf [ci]] ++ dd 90, boxes := [(1, 29, [ci, ci, ci, CS.sl kSgm, CS.sl kPt]), (3, 25, [ci, ci, ci])], rows := [] }
def ex_path_Valid_5 : List (Ex × Sk) := [(Ex.ret, { tmps := [td, td, tf [CS.bool]] ++ dd 120, boxes := [], rows := [] }), (Ex.exit 0, { tmps := [td, tf [CS.ptr 1 0], td, td, td, tf [ci]] ++ dd 117, boxes := [(1, 29, [ci, ci, ci, CS.sl kSgm, CS.sl kPt])], rows := [] })]
def st_path_Valid_5 (Qal Qct : Fn) : Lp := Qkk Tryz.prog (C_path_Valid_0 Qal Qct) 64 5 (Qfk Tryz.prog 47 5) sk_path_Valid_5 ex_path_Valid_5
def C_path_Valid_1 (Qal Qct : Fn) (N5 : Lp) : Cfg := (C_path_Valid_0 Qal Qct).loop 5 sk_path_Valid_5 ex_path_Valid_5 N5
def sk_path_Valid_15 : Sk := { tmps := [td, td, td, td, td, tf [ci], td, td, tf [ci], td, td, td, td, td, td, td, td, td, td, td, td, td, td, td, td, td, td, td, td, td, td, td, td, td, td, td, td, td, td, td, td, td, td, td, td, td, td, td, td, td, td, td, td, td, td, td, td, td, td, td, td, td, td, td, td, td, td, td, td, td, td, td, td, td, td, td, td, td, td, td, td, td, td, td, td, td, td, td, td, tf [CS.sl kPt], tf [ci], tf [ci]] ++ dd 31, boxes := [], rows := [] }
def ex_path_Valid_15 : List (Ex × Sk) := [(Ex.ret, { tmps := [td, td, tf [CS.bool]] ++ dd 120, boxes := [], rows := [] }), (Ex.exit 2, { tmps := [td] ++ dd 122, boxes := [], rows := [] })]
def Qpo (Qal Qct : Fn) (N5 : Lp) : Lp := Qkk Tryz.prog (C_path_Valid_1 Qal Qct N5) 64 15 (Qfk Tryz.prog 47 15) sk_path_Valid_15 ex_path_Valid_15
def C_path_Valid_2 (Qal Qct : Fn) (N5 N15 : Lp) : Cfg := (C_path_Valid_1 Qal Qct N5).loop 15 sk_path_Valid_15 ex_path_Valid_15 N15
def mf_path_Valid (Qal Qct : Fn) (N5 N15 : Lp) : Fn := Qax Tryz.prog (C_path_Valid_2 Qal Qct N5 N15) 64 47 sig_path_Valid osig_path_Valid
theorem st_path_Valid_5_eq (Qal Qct : Fn) (v0 v1 : Int) (v2 : Rw) (v3 v4 v5 v6 v7 : Int) (v8 v9 : Rw) (v10 v11 v12 : Int) : st_path_Valid_5 Qal Qct [I v0, I v1, .view kSgm v2, I v3, I v4, I v5, I v6, I v7, .view kSgm v8, .view kPt v9, I v10, I v11, I v12] =
 bif decide (v4 < v3) then
 bif decide (0 <= v4) && decide (v4 < (v2.length : Int)) then
 (Qct [jA (nth [] v2 v4.toNat) 0, jA (nth [] v2 v4.toNat) 1, jA (nth [] v2 v4.toNat) 2]).bind fun o8 =>
 bif !bA o8 0 then
 some (1, [B false])
 else
 bif gA (nth [] v2 v4.toNat) 0 == v10 && (gA (nth [] v2 v4.toNat) 1 == v11 && (gA (nth [] v2 v4.toNat) 2 == v12 && true)) then
 some (1, [B false])
 else
 (Qal [I v10, I v11, I v12, jA (nth [] v2 v4.toNat) 0, jA (nth [] v2 v4.toNat) 1, jA (nth [] v2 v4.toNat) 2]).bind fun o9 =>
 bif gA (nth [] v2 v4.toNat) 3 != gA o9 0 then
 some (1, [B false])
 else
 bif decide (gA (nth [] v2 v4.toNat) 4 < v0) then
 some (1, [B false])
 else
 bif decide (gA (nth [] v2 v4.toNat) 5 < 0) then
 some (1, [B false])
 else
 bif decide (gA (nth [] v2 v4.toNat) 5 > 16777216) then
 some (1, [B false])
 else
 bif decide (gA (nth [] v2 v4.toNat) 6 < 0) then
 some (1, [B false])
 else
 bif decide (gA (nth [] v2 v4.toNat) 6 > 16777216) then
 some (1, [B false])
 else
 some (0, [jA (nth [] v2 v4.toNat) 4, I (IntKind.i64.wrap (v1 + gA (nth [] v2 v4.toNat) 3)), .view kSgm v2, I v3, I (IntKind.i64.wrap (v4 + 1)), I v5, I v6, I v7, .view kSgm v8, .view kPt v9, jA (nth [] v2 v4.toNat) 0, jA (nth [] v2 v4.toNat) 1, jA (nth [] v2 v4.toNat) 2])
 else
 none
 else
 some (2, [I v1, I v5, I v6, I v7, .view kSgm v8, .view kPt v9]) := by kernel_rfl
theorem st_path_Valid_15_eq (Qal Qct : Fn) (N5 : Lp) (v0 v1 : Int) (v2 : Rw) (v3 v4 : Int) : Qpo Qal Qct N5 [I v0, I v1, .view kPt v2, I v3, I v4] =
 bif decide (v4 < v3) then
 bif decide (0 <= v4) && decide (v4 < (v2.length : Int)) then
 bif decide (gA (nth [] v2 v4.toNat) 0 < v1) then
 some (1, [B false])
 else
 bif decide (gA (nth [] v2 v4.toNat) 0 > v0) then
 some (1, [B false])
 else
 bif decide (gA (nth [] v2 v4.toNat) 1 < 1) then
 some (1, [B false])
 else
 bif decide (gA (nth [] v2 v4.toNat) 1 > 6) then
 some (1, [B false])
 else
 bif decide (gA (nth [] v2 v4.toNat) 2 < 0) then
 some (1, [B false])
 else
 some (0, [I v0, jA (nth [] v2 v4.toNat) 0, .view kPt v2, I v3, I (IntKind.i64.wrap (v4 + 1))])
 else
 none
 else
 some (2, []) := by kernel_rfl
theorem mf_path_Valid_eq (Qal Qct : Fn) (N5 N15 : Lp) (x0 x1 x2 : Int) (x3 x4 : Rw) : mf_path_Valid Qal Qct N5 N15 [I x0, I x1, I x2, .view kSgm x3, .view kPt x4] =
 bif decide ((x3.length : Int) > 1048576) then
 some [B false]
 else
 bif decide ((x4.length : Int) > 80000) then
 some [B false]
 else
 (Qct [I x0, I x1, I x2]).bind fun o10 =>
 bif !bA o10 0 then
 some [B false]
 else
 (N5 [I 0, I 0, .view kSgm x3, I (x3.length : Int), I 0, I x0, I x1, I x2, .view kSgm x3, .view kPt x4, I x0, I x1, I x2]).bind fun o11 =>
 bif o11.1.beq 1 then
 some [B (bA o11.2 0)]
 else
 bif o11.1.beq 2 then
 (N15 [jA o11.2 0, I 0, .view kPt (wA o11.2 5), I (↑(wA o11.2 5).length : Int), I 0]).bind fun o12 =>
 bif o12.1.beq 1 then
 some [B (bA o12.2 0)]
 else
 bif o12.1.beq 2 then
 some [B true]
 else
 none
 else
 none := by kernel_rfl
def Qov := Qbn (st_path_Valid_5 Qcz Qgg )
def l_path_Valid_15 := Qbn (Qpo Qcz Qgg Qov)
def m_path_Valid := mf_path_Valid Qcz Qgg Qov l_path_Valid_15
theorem sp_path_Valid : Qaj Tryz.prog (C_path_Valid_0 Qcz Qgg) := Qae rfl ⟨r_curve_Length, r_path_inside, trivial⟩
theorem r_path_Valid : Qbp Tryz.prog (47, spOf sig_path_Valid osig_path_Valid m_path_Valid) := Qa0 (C := (C_path_Valid_2 Qcz Qgg Qov l_path_Valid_15)) (L := 64) (by kernel_rfl) (((FnOK.bare rfl rfl rfl).loop sp_path_Valid eqOk Qa7 (by kernel_rfl) (by kernel_rfl)).loop sp_path_Valid eqOk Qa7 (by kernel_rfl) (by kernel_rfl)) sp_path_Valid eqOk Qa7 (by kernel_rfl) (by kernel_rfl)
def Qm7 : Sk := { tmps := [TS.v true [ci, ci, ci, CS.sl kSgm, CS.sl kPt], TS.v true [ci, ci, ci, CS.sl kSgm, CS.sl kPt]], boxes := [], rows := [] }
def Qlw : Sk := { tmps := [tf [CS.bool]], boxes := [], rows := [] }
def C_cncref25_SamePath_0 : Cfg := { spec := Qby [], eqOk := Qb2, ownOff := ownOff }
def sk_cncref25_SamePath_4 : Sk := { tmps := [td, td, tf [CS.ptr 2 0], tf [CS.ptr 3 0], td, td, td, td, td, td, td, td, td, td, td, td, td, td, td, td, td, td, td, td, td, td, td, td, td, td, td, td, tf [ci], tf [ci]] ++ dd 32, boxes := [(2, 29, [ci, ci, ci, CS.sl kSgm, CS.sl kPt]), (3, 29, [ci, ci, ci, CS.sl kSgm, CS.sl kPt])], rows := [] }
def ex_cncref25_SamePath_4 : List (Ex × Sk) := [(Ex.ret, { tmps := [td, td, td, td, tf [CS.bool]] ++ dd 61, boxes := [], rows := [] }), (Ex.exit 0, { tmps := [td, td, tf [CS.ptr 2 0], tf [CS.ptr 3 0]] ++ dd 62, boxes := [(2, 29, [ci, ci, ci, CS.sl kSgm, CS.sl kPt]), (3, 29, [ci, ci, ci, CS.sl kSgm, CS.sl kPt])], rows := [] })]
def Qij : Lp := Qkk Tryz.prog C_cncref25_SamePath_0 64 4 (Qfk Tryz.prog 44 4) sk_cncref25_SamePath_4 ex_cncref25_SamePath_4
def C_cncref25_SamePath_1 (N4 : Lp) : Cfg := C_cncref25_SamePath_0.loop 4 sk_cncref25_SamePath_4 ex_cncref25_SamePath_4 N4
def sk_cncref25_SamePath_10 : Sk := { tmps := [td, td, tf [CS.ptr 2 0], tf [CS.ptr 3 0], td, td, td, td, td, td, td, td, td, td, td, td, td, td, td, td, td, td, td, td, td, td, td, td, td, td, td, td, td, td, td, td, td, td, td, td, td, td, td, td, td, td, td, td, td, td, tf [ci], tf [ci]] ++ dd 14, boxes := [(2, 29, [ci, ci, ci, CS.sl kSgm, CS.sl kPt]), (3, 29, [ci, ci, ci, CS.sl kSgm, CS.sl kPt])], rows := [] }
def ex_cncref25_SamePath_10 : List (Ex × Sk) := [(Ex.ret, { tmps := [td, td, td, td, tf [CS.bool]] ++ dd 61, boxes := [], rows := [] }), (Ex.exit 2, { tmps := [td] ++ dd 65, boxes := [], rows := [] })]
def Qhd (N4 : Lp) : Lp := Qkk Tryz.prog (C_cncref25_SamePath_1 N4) 64 10 (Qfk Tryz.prog 44 10) sk_cncref25_SamePath_10 ex_cncref25_SamePath_10
def C_cncref25_SamePath_2 (N4 N10 : Lp) : Cfg := (C_cncref25_SamePath_1 N4).loop 10 sk_cncref25_SamePath_10 ex_cncref25_SamePath_10 N10
def Qn7 (N4 N10 : Lp) : Fn := Qax Tryz.prog (C_cncref25_SamePath_2 N4 N10) 64 44 Qm7 Qlw
theorem Qpc (v0 v1 v2 v3 v4 : Int) (v5 v6 : Rw) (v7 v8 v9 : Int) (v10 v11 : Rw) : Qij [I v0, I v1, I v2, I v3, I v4, .view kSgm v5, .view kPt v6, I v7, I v8, I v9, .view kSgm v10, .view kPt v11] =
 bif decide (v1 < v0) then
 bif decide (0 <= v1) && decide (v1 < (v5.length : Int)) then
 bif decide (0 <= v1) && decide (v1 < (v10.length : Int)) then
 bif !(gA (nth [] v5 v1.toNat) 0 == gA (nth [] v10 v1.toNat) 0 && (gA (nth [] v5 v1.toNat) 1 == gA (nth [] v10 v1.toNat) 1 && (gA (nth [] v5 v1.toNat) 2 == gA (nth [] v10 v1.toNat) 2 && true)) && (gA (nth [] v5 v1.toNat) 3 == gA (nth [] v10 v1.toNat) 3 && (gA (nth [] v5 v1.toNat) 4 == gA (nth [] v10 v1.toNat) 4 && (gA (nth [] v5 v1.toNat) 5 == gA (nth [] v10 v1.toNat) 5 && (gA (nth [] v5 v1.toNat) 6 == gA (nth [] v10 v1.toNat) 6 && true))))) then
 some (1, [B false])
 else
 some (0, [I v0, I (IntKind.i64.wrap (v1 + 1)), I v2, I v3, I v4, .view kSgm v5, .view kPt v6, I v7, I v8, I v9, .view kSgm v10, .view kPt v11])
 else
 none
 else
 none
 else
 some (2, [I v2, I v3, I v4, .view kSgm v5, .view kPt v6, I v7, I v8, I v9, .view kSgm v10, .view kPt v11]) := by kernel_rfl
theorem Qn4 (N4 : Lp) (v0 v1 v2 v3 v4 : Int) (v5 v6 : Rw) (v7 v8 v9 : Int) (v10 v11 : Rw) : Qhd N4 [I v0, I v1, I v2, I v3, I v4, .view kSgm v5, .view kPt v6, I v7, I v8, I v9, .view kSgm v10, .view kPt v11] =
 bif decide (v1 < v0) then
 bif decide (0 <= v1) && decide (v1 < (v6.length : Int)) then
 bif decide (0 <= v1) && decide (v1 < (v11.length : Int)) then
 bif !(gA (nth [] v6 v1.toNat) 0 == gA (nth [] v11 v1.toNat) 0 && (gA (nth [] v6 v1.toNat) 1 == gA (nth [] v11 v1.toNat) 1 && (gA (nth [] v6 v1.toNat) 2 == gA (nth [] v11 v1.toNat) 2 && true))) then
 some (1, [B false])
 else
 some (0, [I v0, I (IntKind.i64.wrap (v1 + 1)), I v2, I v3, I v4, .view kSgm v5, .view kPt v6, I v7, I v8, I v9, .view kSgm v10, .view kPt v11])
 else
 none
 else
 none
 else
 some (2, []) := by kernel_rfl
theorem mf_cncref25_SamePath_eq (N4 N10 : Lp) (x0 x1 x2 : Int) (x3 x4 : Rw) (x5 x6 x7 : Int) (x8 x9 : Rw) : Qn7 N4 N10 [I x0, I x1, I x2, .view kSgm x3, .view kPt x4, I x5, I x6, I x7, .view kSgm x8, .view kPt x9] =
 bif !(x0 == x5 && (x1 == x6 && (x2 == x7 && true))) then
 some [B false]
 else
 bif (x3.length : Int) != (x8.length : Int) then
 some [B false]
 else
 bif (x4.length : Int) != (x9.length : Int) then
 some [B false]
 else
 (N4 [I (x3.length : Int), I 0, I x0, I x1, I x2, .view kSgm x3, .view kPt x4, I x5, I x6, I x7, .view kSgm x8, .view kPt x9]).bind fun o3 =>
 bif o3.1.beq 1 then
 some [B (bA o3.2 0)]
 else
 bif o3.1.beq 2 then
 (N10 [I (↑(wA o3.2 4).length : Int), I 0, jA o3.2 0, jA o3.2 1, jA o3.2 2, .view kSgm (wA o3.2 3), .view kPt (wA o3.2 4), jA o3.2 5, jA o3.2 6, jA o3.2 7, .view kSgm (wA o3.2 8), .view kPt (wA o3.2 9)]).bind fun o4 =>
 bif o4.1.beq 1 then
 some [B (bA o4.2 0)]
 else
 bif o4.1.beq 2 then
 some [B true]
 else
 none
 else
 none := by kernel_rfl
def Qi1 := Qbn (Qij )
def Ql4 := Qbn (Qhd Qi1)
def Qh0 := Qn7 Qi1 Ql4
theorem Qoe : Qaj Tryz.prog (C_cncref25_SamePath_0 ) := Qae rfl trivial
theorem r_cncref25_SamePath : Qbp Tryz.prog (44, spOf Qm7 Qlw Qh0) := Qa0 (C := (C_cncref25_SamePath_2 Qi1 Ql4)) (L := 64) (by kernel_rfl) (((FnOK.bare rfl rfl rfl).loop Qoe eqOk Qa7 (by kernel_rfl) (by kernel_rfl)).loop Qoe eqOk Qa7 (by kernel_rfl) (by kernel_rfl)) Qoe eqOk Qa7 (by kernel_rfl) (by kernel_rfl)
def sig_path_Build : Sk := { tmps := [tf [CS.sl kItm]], boxes := [], rows := [] }
def osig_path_Build : Sk := { tmps := [TS.tup [(true, [ci, ci, ci, CS.sl kSgm, CS.sl kPt]), (false, [ci])]], boxes := [], rows := [] }
def C_path_Build_0 (Qc7 : Fn) : Cfg := { spec := Qby [(77, spOf sig_path_build osig_path_build Qc7)], eqOk := Qb2, pure := fun f => !(Qfy [77] f), ownOff := ownOff }
def mf_path_Build (Qc7 : Fn) : Fn := Qax Tryz.prog (C_path_Build_0 Qc7) 64 42 sig_path_Build osig_path_Build
theorem mf_path_Build_eq (Qc7 : Fn) (x0 : Rw) : mf_path_Build Qc7 [.view kItm x0] =
 (Qc7 [.view kItm x0]).bind fun o1 =>
 bif gA o1 2 != 0 then
 some [I 0, I 0, I 0, .view kSgm [], .view kPt [], jA o1 2]
 else
 some [jA o1 3, jA o1 4, jA o1 5, .view kSgm (wA o1 0), .view kPt (wA o1 1), I 0] := by kernel_rfl
def m_path_Build := mf_path_Build Qi4 
theorem sp_path_Build : Qaj Tryz.prog (C_path_Build_0 Qi4) := Qae rfl ⟨r_path_build, trivial⟩
theorem r_path_Build : Qbp Tryz.prog (42, spOf sig_path_Build osig_path_Build m_path_Build) := Qa0 (C := (C_path_Build_0 Qi4)) (L := 64) (by kernel_rfl) (FnOK.bare rfl rfl rfl) sp_path_Build eqOk Qa7 (by kernel_rfl) (by kernel_rfl)
def sig_cncmill_Mod : Sk := { tmps := [tf [ci], tf [ci]], boxes := [], rows := [] }
def Qpp : Sk := { tmps := [tf [ci]], boxes := [], rows := [] }
def C_cncmill_Mod_0 : Cfg := { spec := Qby [], eqOk := Qb2, ownOff := ownOff }
def mf_cncmill_Mod : Fn := Qax Tryz.prog C_cncmill_Mod_0 64 16 sig_cncmill_Mod Qpp
theorem mf_cncmill_Mod_eq (x0 x1 : Int) : mf_cncmill_Mod [I x0, I x1] =
 bif decide (x1 = 0) then
 none
 else
 bif decide (x1 = 0) then
 none
 else
 some [I ((IntKind.i64.wrap (x0.tmod x1 + x1)).tmod x1)] := by kernel_rfl
def Qhe := mf_cncmill_Mod 
theorem sp_cncmill_Mod : Qaj Tryz.prog (C_cncmill_Mod_0 ) := Qae rfl trivial
theorem r_cncmill_Mod : Qbp Tryz.prog (16, spOf sig_cncmill_Mod Qpp Qhe) := Qa0 (C := C_cncmill_Mod_0) (L := 64) (by kernel_rfl) (FnOK.bare rfl rfl rfl) sp_cncmill_Mod eqOk Qa7 (by kernel_rfl) (by kernel_rfl)
def Qes : Sk := { tmps := [tf [CS.ptr 20000 0], tf [ci]], boxes := [(20000, 122, [CS.sl Qbr, ci])], rows := [] }
def Qeb : Sk := { tmps := [tf [ci]], boxes := [(20000, 122, [CS.sl Qbr, ci])], rows := [] }
def Qkt (Qeq : Fn) : Cfg := { spec := Qby [(16, spOf sig_cncmill_Mod Qpp Qeq)], eqOk := Qb2, ownOff := ownOff }
def Qlx (Qeq : Fn) : Fn := Qax Tryz.prog (Qkt Qeq) 64 73 Qes Qeb
theorem mf_cncmill_Source_Next_eq (Qeq : Fn) (x0 : Int) (x1 : Rw) (x2 : Int) : Qlx Qeq [I x0, .view Qbr x1, I x2] =
 bif decide (x2 >= (x1.length : Int)) then
 some [I 0, .view Qbr x1, I x2]
 else
 bif decide (0 <= x2) && decide (x2 < (x1.length : Int)) then
 (Qeq [jA (nth [] x1 x2.toNat) 0, I x0]).bind fun o1 =>
 some [jA o1 0, .view Qbr x1, I (IntKind.i64.wrap (x2 + 1))]
 else
 none := by kernel_rfl
def Qbg := Qlx Qhe 
theorem sp_cncmill_Source_Next : Qaj Tryz.prog (Qkt Qhe) := Qae rfl ⟨r_cncmill_Mod, trivial⟩
theorem Qi8 : Qbp Tryz.prog (73, spOf Qes Qeb Qbg) := Qa0 (C := (Qkt Qhe)) (L := 64) (by kernel_rfl) (FnOK.bare rfl rfl rfl) sp_cncmill_Source_Next eqOk Qa7 (by kernel_rfl) (by kernel_rfl)
def sig_cncmill_turned : Sk := { tmps := [tf [ci], tf [ci]], boxes := [], rows := [] }
def Qpu : Sk := { tmps := [TS.tup [(false, [ci]), (false, [ci])]], boxes := [], rows := [] }
def C_cncmill_turned_0 : Cfg := { spec := Qby [], eqOk := Qb2, ownOff := ownOff }
def mf_cncmill_turned : Fn := Qax Tryz.prog C_cncmill_turned_0 64 124 sig_cncmill_turned Qpu
theorem mf_cncmill_turned_eq (x0 x1 : Int) : mf_cncmill_turned [I x0, I x1] =
 bif decide (0 <= x1.tmod 4) && decide (x1.tmod 4 < (↑[[I x0], [I 0], [I (IntKind.i64.wrap (0 - x0))], [I 0]].length : Int)) then
 bif decide (0 <= x1.tmod 4) && decide (x1.tmod 4 < (↑[[I 0], [I x0], [I 0], [I (IntKind.i64.wrap (0 - x0))]].length : Int)) then
 some [I (Qa1 (nth .dead (nth [] [[I x0], [I 0], [I (IntKind.i64.wrap (0 - x0))], [I 0]] (x1.tmod 4).toNat) 0)), I (Qa1 (nth .dead (nth [] [[I 0], [I x0], [I 0], [I (IntKind.i64.wrap (0 - x0))]] (x1.tmod 4).toNat) 0))]
 else
 none
 else
 none := by kernel_rfl
def Qin := mf_cncmill_turned 
theorem sp_cncmill_turned : Qaj Tryz.prog (C_cncmill_turned_0 ) := Qae rfl trivial
theorem r_cncmill_turned : Qbp Tryz.prog (124, spOf sig_cncmill_turned Qpu Qin) := Qa0 (C := C_cncmill_turned_0) (L := 64) (by kernel_rfl) (FnOK.bare rfl rfl rfl) sp_cncmill_turned eqOk Qa7 (by kernel_rfl) (by kernel_rfl)
def sig_cncmill_arc : Sk := { tmps := [tf [CS.ptr 20000 0], TS.v true [ci, ci, ci], tf [ci]], boxes := [(20000, 122, [CS.sl Qbr, ci])], rows := [] }
def osig_cncmill_arc : Sk := { tmps := [TS.v true [ci, ci, ci, ci, ci, ci, ci, ci, ci, ci, ci, ci, ci, CS.bool, ci, CS.bool, ci, ci, ci, ci, ci, CS.bool]], boxes := [(20000, 122, [CS.sl Qbr, ci])], rows := [] }
def C_cncmill_arc_0 (Qa8 Qgx Qaz Qaa : Fn) : Cfg := { spec := Qby [(125, spOf Qmh Qk2 Qa8), (124, spOf sig_cncmill_turned Qpu Qgx), (123, spOf Qi3 Qh3 Qaz), (73, spOf Qes Qeb Qaa)], eqOk := Qb2, pure := fun f => !(Qfy [73] f), ownOff := ownOff }
def mf_cncmill_arc (Qa8 Qgx Qaz Qaa : Fn) : Fn := Qax Tryz.prog (C_cncmill_arc_0 Qa8 Qgx Qaz Qaa) 64 106 sig_cncmill_arc osig_cncmill_arc
abbrev g_cncmill_arc_1 (Qaa Qa8 : Fn) (o23 o18 : List AC) (x0 x1 x2 : Int) (o26 o19 o22 : List AC) (h1_0 h1_1 h1_2 h1_3 : AC) : Option (List AC) :=
 (Qaa [I 4, h1_0, h1_1]).bind fun o30 =>
 bif decide (0 <= gA o30 0) && decide (gA o30 0 < (↑[[I 0], [I 0], [I 7], [I (-12)]].length : Int)) then
 (Qa8 [h1_2, h1_3, I (IntKind.i64.wrap (gA o23 2 + Qa1 (nth .dead (nth [] [[I 0], [I 0], [I 7], [I (-12)]] (gA o30 0).toNat) 0))), I (Qa1 (nth .dead (nth [] [[I 17], [I 18], [I 19]] (gA o18 0).toNat) 0))]).bind fun o31 =>
 some [I 3, I 0, I x0, I x1, I x2, jA o31 0, jA o31 1, jA o31 2, I (Qa1 (nth .dead (nth [] [[I 17], [I 18], [I 19]] (gA o18 0).toNat) 0)), jA o26 0, jA o26 1, jA o26 2, I (IntKind.i64.wrap (1 - IntKind.i64.wrap (gA o19 0 * 2))), B (gA o22 0 == 0), I 0, B false, I 0, I 0, I 0, I 0, I 0, B false, .view Qbr (wA o30 1), jA o30 2]
 else
 none
attribute [go_sem] g_cncmill_arc_1
theorem mf_cncmill_arc_eq (Qa8 Qgx Qaz Qaa : Fn) (x0 x1 x2 x3 : Int) (x4 : Rw) (x5 : Int) : mf_cncmill_arc Qa8 Qgx Qaz Qaa [I x0, I x1, I x2, I x3, .view Qbr x4, I x5] =
 (Qaa [I 3, .view Qbr x4, I x5]).bind fun o18 =>
 bif decide (0 <= gA o18 0) && decide (gA o18 0 < (↑[[I 17], [I 18], [I 19]].length : Int)) then
 (Qaa [I 2, .view Qbr (wA o18 1), jA o18 2]).bind fun o19 =>
 (Qaa [I x3, .view Qbr (wA o19 1), jA o19 2]).bind fun o20 =>
 (Qaa [I 4, .view Qbr (wA o20 1), jA o20 2]).bind fun o21 =>
 (Qaa [I 4, .view Qbr (wA o21 1), jA o21 2]).bind fun o22 =>
 (Qaz [I x0, I x1, I x2, I (Qa1 (nth .dead (nth [] [[I 17], [I 18], [I 19]] (gA o18 0).toNat) 0))]).bind fun o23 =>
 (Qgx [I (IntKind.i64.wrap (8 + gA o20 0)), jA o21 0]).bind fun o24 =>
 (Qgx [I (IntKind.i64.wrap (8 + gA o20 0)), I (IntKind.i64.wrap (gA o21 0 + gA o22 0))]).bind fun o25 =>
 (Qa8 [I (IntKind.i64.wrap (gA o23 0 - gA o24 0)), I (IntKind.i64.wrap (gA o23 1 - gA o24 1)), jA o23 2, I (Qa1 (nth .dead (nth [] [[I 17], [I 18], [I 19]] (gA o18 0).toNat) 0))]).bind fun o26 =>
 bif decide (gA o22 0 > 0) then
 (Qaa [I 3, .view Qbr (wA o22 1), jA o22 2]).bind fun o27 =>
 bif gA o27 0 == 0 then
 bif decide (IntKind.i64.wrap (8 + gA o20 0) = 0) then
 none
 else
 (Qaa [I 5, .view Qbr (wA o27 1), jA o27 2]).bind fun o28 =>
 bif decide (IntKind.i64.wrap (8 + gA o20 0) = 0) then
 none
 else
 (Qaa [I 5, .view Qbr (wA o28 1), jA o28 2]).bind fun o29 =>
 g_cncmill_arc_1 Qaa Qa8 o23 o18 x0 x1 x2 o26 o19 o22 (.view Qbr (wA o29 1)) (jA o29 2) (I (IntKind.i64.wrap (IntKind.i64.wrap (gA o23 0 - gA o24 0) + IntKind.i64.wrap (gA o25 0 + IntKind.i64.wrap (IntKind.i64.wrap ((gA o25 0).tdiv (IntKind.i64.wrap (8 + gA o20 0))) * gA o28 0))))) (I (IntKind.i64.wrap (IntKind.i64.wrap (gA o23 1 - gA o24 1) + IntKind.i64.wrap (gA o25 1 + IntKind.i64.wrap (IntKind.i64.wrap ((gA o25 1).tdiv (IntKind.i64.wrap (8 + gA o20 0))) * gA o29 0)))))
 else
 g_cncmill_arc_1 Qaa Qa8 o23 o18 x0 x1 x2 o26 o19 o22 (.view Qbr (wA o27 1)) (jA o27 2) (I (IntKind.i64.wrap (IntKind.i64.wrap (gA o23 0 - gA o24 0) + gA o25 0))) (I (IntKind.i64.wrap (IntKind.i64.wrap (gA o23 1 - gA o24 1) + gA o25 1)))
 else
 g_cncmill_arc_1 Qaa Qa8 o23 o18 x0 x1 x2 o26 o19 o22 (.view Qbr (wA o22 1)) (jA o22 2) (I (IntKind.i64.wrap (IntKind.i64.wrap (gA o23 0 - gA o24 0) + gA o25 0))) (I (IntKind.i64.wrap (IntKind.i64.wrap (gA o23 1 - gA o24 1) + gA o25 1)))
 else
 none := by kernel_rfl
def m_cncmill_arc := mf_cncmill_arc Qek Qin Qc4 Qbg 
theorem sp_cncmill_arc : Qaj Tryz.prog (C_cncmill_arc_0 Qek Qin Qc4 Qbg) := Qae rfl ⟨r_cncref23_Space, r_cncmill_turned, r_cncref23_Plane, Qi8, trivial⟩
theorem r_cncmill_arc : Qbp Tryz.prog (106, spOf sig_cncmill_arc osig_cncmill_arc m_cncmill_arc) := Qa0 (C := (C_cncmill_arc_0 Qek Qin Qc4 Qbg)) (L := 64) (by kernel_rfl) (FnOK.bare rfl rfl rfl) sp_cncmill_arc eqOk Qa7 (by kernel_rfl) (by kernel_rfl)
def sig_cncmill_motion : Sk := { tmps := [tf [CS.ptr 20000 0], TS.v true [ci, ci, ci], tf [ci]], boxes := [(20000, 122, [CS.sl Qbr, ci])], rows := [] }
def osig_cncmill_motion : Sk := { tmps := [TS.v true [ci, ci, ci, ci, ci, ci, ci, ci, ci, ci, ci, ci, ci, CS.bool, ci, CS.bool, ci, ci, ci, ci, ci, CS.bool]], boxes := [(20000, 122, [CS.sl Qbr, ci])], rows := [] }
def C_cncmill_motion_0 (Qaa Qn2 : Fn) : Cfg := { spec := Qby [(73, spOf Qes Qeb Qaa), (106, spOf sig_cncmill_arc osig_cncmill_arc Qn2)], eqOk := Qb2, pure := fun f => !(Qfy [73, 106] f), ownOff := ownOff }
def mf_cncmill_motion (Qaa Qn2 : Fn) : Fn := Qax Tryz.prog (C_cncmill_motion_0 Qaa Qn2) 64 76 sig_cncmill_motion osig_cncmill_motion
abbrev g_cncmill_motion_2 (Qaa : Fn) (o20 : List AC) (x3 : Int) (h1_0 h1_1 h1_2 h1_3 h1_4 h1_5 h1_6 h1_7 h1_8 h1_9 h1_10 h1_11 h1_12 h1_13 h1_16 h1_17 h1_20 h1_21 : AC) : Option (List AC) :=
 (Qaa [I 60, .view Qbr (wA o20 1), jA o20 2]).bind fun o21 =>
 bif x3 == 6 then
 (Qaa [I 2, .view Qbr (wA o21 1), jA o21 2]).bind fun o22 =>
 some [h1_0, h1_1, h1_2, h1_3, h1_4, h1_5, h1_6, h1_7, h1_8, h1_9, h1_10, h1_11, h1_12, h1_13, I (IntKind.i64.wrap (1 + gA o21 0)), B true, h1_16, h1_17, I 0, I (IntKind.i64.wrap (3 + gA o22 0)), h1_20, h1_21, .view Qbr (wA o22 1), jA o22 2]
 else
 some [h1_0, h1_1, h1_2, h1_3, h1_4, h1_5, h1_6, h1_7, h1_8, h1_9, h1_10, h1_11, h1_12, h1_13, I (IntKind.i64.wrap (1 + gA o21 0)), B true, h1_16, h1_17, I 0, I 0, h1_20, h1_21, .view Qbr (wA o21 1), jA o21 2]
attribute [go_sem] g_cncmill_motion_2
abbrev g_cncmill_motion_1 (x3 : Int) (Qaa : Fn) (h1_0 h1_1 h1_2 h1_3 h1_4 h1_5 h1_6 h1_7 h1_8 h1_9 h1_10 h1_11 h1_12 h1_13 h1_14 h1_15 h1_16 h1_17 h1_18 h1_19 h1_20 h1_21 h1_22 h1_23 : AC) : Option (List AC) :=
 bif x3 == 1 then
 some [h1_0, h1_1, h1_2, h1_3, h1_4, h1_5, h1_6, h1_7, h1_8, h1_9, h1_10, h1_11, h1_12, h1_13, h1_14, h1_15, h1_16, h1_17, h1_18, h1_19, h1_20, h1_21, h1_22, h1_23]
 else
 (Qaa [I 5, h1_22, h1_23]).bind fun o19 =>
 bif decide (0 <= gA o19 0) && decide (gA o19 0 < (↑[[I 300000], [I 1], [I 60000], [I 2000000], [I 60000000]].length : Int)) then
 (Qaa [I 5, .view Qbr (wA o19 1), jA o19 2]).bind fun o20 =>
 bif decide (0 <= gA o20 0) && decide (gA o20 0 < (↑[[I 0], [I 1], [I 2], [I 4], [I 9]].length : Int)) then
 bif x3 == 5 then
 g_cncmill_motion_2 Qaa o20 x3 h1_0 h1_1 h1_2 h1_3 h1_4 h1_5 h1_6 h1_7 h1_8 h1_9 h1_10 h1_11 h1_12 h1_13 h1_16 h1_17 h1_20 h1_21
 else
 bif x3 == 6 then
 g_cncmill_motion_2 Qaa o20 x3 h1_0 h1_1 h1_2 h1_3 h1_4 h1_5 h1_6 h1_7 h1_8 h1_9 h1_10 h1_11 h1_12 h1_13 h1_16 h1_17 h1_20 h1_21
 else
 bif x3 == 4 then
 some [h1_0, h1_1, h1_2, h1_3, h1_4, h1_5, h1_6, h1_7, h1_8, h1_9, h1_10, h1_11, h1_12, h1_13, I (Qa1 (nth .dead (nth [] [[I 300000], [I 1], [I 60000], [I 2000000], [I 60000000]] (gA o19 0).toNat) 0)), h1_15, h1_16, h1_17, I 0, h1_19, h1_20, h1_21, .view Qbr (wA o20 1), jA o20 2]
 else
 some [h1_0, h1_1, h1_2, h1_3, h1_4, h1_5, h1_6, h1_7, h1_8, h1_9, h1_10, h1_11, h1_12, h1_13, I (Qa1 (nth .dead (nth [] [[I 300000], [I 1], [I 60000], [I 2000000], [I 60000000]] (gA o19 0).toNat) 0)), h1_15, h1_16, h1_17, I (Qa1 (nth .dead (nth [] [[I 0], [I 1], [I 2], [I 4], [I 9]] (gA o20 0).toNat) 0)), h1_19, h1_20, h1_21, .view Qbr (wA o20 1), jA o20 2]
 else
 none
 else
 none
attribute [go_sem] g_cncmill_motion_1
theorem mf_cncmill_motion_eq (Qaa Qn2 : Fn) (x0 x1 x2 x3 : Int) (x4 : Rw) (x5 : Int) : mf_cncmill_motion Qaa Qn2 [I x0, I x1, I x2, I x3, .view Qbr x4, I x5] =
 bif x3 == 3 then
 (Qn2 [I x0, I x1, I x2, I 8, .view Qbr x4, I x5]).bind fun o18 =>
 g_cncmill_motion_1 x3 Qaa (jA o18 0) (jA o18 1) (jA o18 2) (jA o18 3) (jA o18 4) (jA o18 5) (jA o18 6) (jA o18 7) (jA o18 8) (jA o18 9) (jA o18 10) (jA o18 11) (jA o18 12) (B (bA o18 13)) (jA o18 14) (B (bA o18 15)) (jA o18 16) (jA o18 17) (jA o18 18) (jA o18 19) (jA o18 20) (B (bA o18 21)) (.view Qbr (wA o18 22)) (jA o18 23)
 else
 (Qaa [I 25, .view Qbr x4, I x5]).bind fun o25 =>
 (Qaa [I 25, .view Qbr (wA o25 1), jA o25 2]).bind fun o26 =>
 (Qaa [I 3, .view Qbr (wA o26 1), jA o26 2]).bind fun o27 =>
 (Qaa [I 9, .view Qbr (wA o27 1), jA o27 2]).bind fun o28 =>
 (Qaa [I 2, .view Qbr (wA o28 1), jA o28 2]).bind fun o29 =>
 g_cncmill_motion_1 x3 Qaa (I x3) (I 0) (I x0) (I x1) (I x2) (I (IntKind.i64.wrap (IntKind.i64.wrap (x0 + gA o25 0) - 12))) (I (IntKind.i64.wrap (IntKind.i64.wrap (x1 + gA o26 0) - 12))) (I (IntKind.i64.wrap (IntKind.i64.wrap (x2 + IntKind.i64.wrap (gA o27 0 * gA o28 0)) - IntKind.i64.wrap (8 * gA o29 0)))) (I 0) (I 0) (I 0) (I 0) (I 0) (B false) (I 0) (B false) (I 0) (I 0) (I 0) (I 0) (I 0) (B false) (.view Qbr (wA o29 1)) (jA o29 2) := by kernel_rfl
def Qgv := mf_cncmill_motion Qbg m_cncmill_arc 
theorem sp_cncmill_motion : Qaj Tryz.prog (C_cncmill_motion_0 Qbg m_cncmill_arc) := Qae rfl ⟨Qi8, r_cncmill_arc, trivial⟩
theorem r_cncmill_motion : Qbp Tryz.prog (76, spOf sig_cncmill_motion osig_cncmill_motion Qgv) := Qa0 (C := (C_cncmill_motion_0 Qbg m_cncmill_arc)) (L := 64) (by kernel_rfl) (FnOK.bare rfl rfl rfl) sp_cncmill_motion eqOk Qa7 (by kernel_rfl) (by kernel_rfl)
def sig_cncmill_other : Sk := { tmps := [tf [CS.ptr 20000 0]], boxes := [(20000, 122, [CS.sl Qbr, ci])], rows := [] }
def osig_cncmill_other : Sk := { tmps := [TS.v true [ci, ci, ci, ci, ci, ci, ci, ci, ci, ci, ci, ci, ci, CS.bool, ci, CS.bool, ci, ci, ci, ci, ci, CS.bool]], boxes := [(20000, 122, [CS.sl Qbr, ci])], rows := [] }
def C_cncmill_other_0 (Qaa : Fn) : Cfg := { spec := Qby [(73, spOf Qes Qeb Qaa)], eqOk := Qb2, pure := fun f => !(Qfy [73] f), ownOff := ownOff }
def mf_cncmill_other (Qaa : Fn) : Fn := Qax Tryz.prog (C_cncmill_other_0 Qaa) 64 75 sig_cncmill_other osig_cncmill_other
abbrev g_cncmill_other_1 (Qaa : Fn) (o8 : List AC) : Option (List AC) :=
 (Qaa [I 16, .view Qbr (wA o8 1), jA o8 2]).bind fun o9 =>
 (Qaa [I 2, .view Qbr (wA o9 1), jA o9 2]).bind fun o10 =>
 some [I 10, I 0, I 0, I 0, I 0, I 0, I 0, I 0, I 0, I 0, I 0, I 0, I 0, B false, I 0, B false, I 0, I 0, I 0, jA o9 0, I 0, B (gA o10 0 == 0), .view Qbr (wA o10 1), jA o10 2]
attribute [go_sem] g_cncmill_other_1
theorem mf_cncmill_other_eq (Qaa : Fn) (x0 : Rw) (x1 : Int) : mf_cncmill_other Qaa [.view Qbr x0, I x1] =
 (Qaa [I 8, .view Qbr x0, I x1]).bind fun o8 =>
 bif gA o8 0 == 0 then
 g_cncmill_other_1 Qaa o8
 else
 bif gA o8 0 == 1 then
 g_cncmill_other_1 Qaa o8
 else
 bif gA o8 0 == 2 then
 (Qaa [I 5, .view Qbr (wA o8 1), jA o8 2]).bind fun o13 =>
 some [I 7, I 0, I 0, I 0, I 0, I 0, I 0, I 0, I 0, I 0, I 0, I 0, I 0, B false, I 0, B false, I 0, I 0, I 0, jA o13 0, I 0, B false, .view Qbr (wA o13 1), jA o13 2]
 else
 bif gA o8 0 == 3 then
 (Qaa [I 3, .view Qbr (wA o8 1), jA o8 2]).bind fun o14 =>
 (Qaa [I 4000, .view Qbr (wA o14 1), jA o14 2]).bind fun o15 =>
 some [I 8, I 0, I 0, I 0, I 0, I 0, I 0, I 0, I 0, I 0, I 0, I 0, I 0, B false, I 0, B false, I 0, I 0, I 0, I (IntKind.i64.wrap (3 + gA o14 0)), jA o15 0, B false, .view Qbr (wA o15 1), jA o15 2]
 else
 bif gA o8 0 == 4 then
 some [I 9, I 0, I 0, I 0, I 0, I 0, I 0, I 0, I 0, I 0, I 0, I 0, I 0, B false, I 0, B false, I 0, I 0, I 0, I 8, I 0, B true, .view Qbr (wA o8 1), jA o8 2]
 else
 bif gA o8 0 == 5 then
 some [I 13, I 0, I 0, I 0, I 0, I 0, I 0, I 0, I 0, I 0, I 0, I 0, I 0, B false, I 0, B false, I 0, I 0, I 0, I 0, I 0, B false, .view Qbr (wA o8 1), jA o8 2]
 else
 bif gA o8 0 == 6 then
 some [I 12, I 0, I 0, I 0, I 0, I 0, I 0, I 0, I 0, I 0, I 0, I 0, I 0, B false, I 0, B false, I 0, I 0, I 0, I 0, I 0, B false, .view Qbr (wA o8 1), jA o8 2]
 else
 some [I 11, I 0, I 0, I 0, I 0, I 0, I 0, I 0, I 0, I 0, I 0, I 0, I 0, B false, I 0, B false, I 0, I 0, I 0, I 1, I 0, B false, .view Qbr (wA o8 1), jA o8 2] := by kernel_rfl
def Qif := mf_cncmill_other Qbg 
theorem sp_cncmill_other : Qaj Tryz.prog (C_cncmill_other_0 Qbg) := Qae rfl ⟨Qi8, trivial⟩
theorem r_cncmill_other : Qbp Tryz.prog (75, spOf sig_cncmill_other osig_cncmill_other Qif) := Qa0 (C := (C_cncmill_other_0 Qbg)) (L := 64) (by kernel_rfl) (FnOK.bare rfl rfl rfl) sp_cncmill_other eqOk Qa7 (by kernel_rfl) (by kernel_rfl)
def Qkm : Sk := { tmps := [tf [CS.ptr 20000 0]], boxes := [(20000, 122, [CS.sl Qbr, ci])], rows := [] }
def Qkf : Sk := { tmps := [tf [CS.bool]], boxes := [(20000, 122, [CS.sl Qbr, ci])], rows := [] }
def Qkq : Cfg := { spec := Qby [], eqOk := Qb2, ownOff := ownOff }
def mf_cncmill_Source_Left : Fn := Qax Tryz.prog Qkq 64 74 Qkm Qkf
theorem mf_cncmill_Source_Left_eq (x0 : Rw) (x1 : Int) : mf_cncmill_Source_Left [.view Qbr x0, I x1] =
 some [B (decide (x1 < (x0.length : Int))), .view Qbr x0, I x1] := by kernel_rfl
def Qds := mf_cncmill_Source_Left 
theorem sp_cncmill_Source_Left : Qaj Tryz.prog (Qkq ) := Qae rfl trivial
theorem r_cncmill_Source_Left : Qbp Tryz.prog (74, spOf Qkm Qkf Qds) := Qa0 (C := Qkq) (L := 64) (by kernel_rfl) (FnOK.bare rfl rfl rfl) sp_cncmill_Source_Left eqOk Qa7 (by kernel_rfl) (by kernel_rfl)
end Go.Bm
