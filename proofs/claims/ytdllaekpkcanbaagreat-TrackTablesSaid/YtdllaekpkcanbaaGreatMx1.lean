/- functions of the program and of the references, as models -/
import Derived.Test.YtdllaekpkcanbaaGreatSeShelf
import Derived.Test.YtdllaekpkcanbaaGreatSeExt
import Derived.Test.YtdllaekpkcanbaaGreatSePre
import Derived.Test.YtdllaekpkcanbaaGreatBmTy
set_option linter.unusedSimpArgs false
set_option linter.unusedVariables false
set_option maxRecDepth 100000
noncomputable section
namespace Go.Bm
open Go.Proofs
def sig_cncref26_Floor : Sk := { tmps := [tf [ci], tf [ci]], boxes := [], rows := [] }
def osig_cncref26_Floor : Sk := { tmps := [tf [ci]], boxes := [], rows := [] }
def C_cncref26_Floor_0 : Cfg := { spec := lookS [], eqOk := eqAll, ownOff := ownOff }
def mf_cncref26_Floor : Fn := modelF Tryz.prog C_cncref26_Floor_0 64 120 sig_cncref26_Floor osig_cncref26_Floor
theorem mf_cncref26_Floor_eq (x0 x1 : Int) : mf_cncref26_Floor [I x0, I x1] =
 bif decide (x1 = 0) then
 none
 else
 bif decide (x1 = 0) then
 none
 else
 bif decide (x0.tmod x1 < 0) then
 some [I (IntKind.i64.wrap (IntKind.i64.wrap (x0.tdiv x1) - 1))]
 else
 some [I (IntKind.i64.wrap (x0.tdiv x1))] := by kernel_rfl
def m_cncref26_Floor := mf_cncref26_Floor 
theorem sp_cncref26_Floor : SpecOK Tryz.prog (C_cncref26_Floor_0 ) := specOK_of rfl trivial
theorem r_cncref26_Floor : RowOK Tryz.prog (120, spOf sig_cncref26_Floor osig_cncref26_Floor m_cncref26_Floor) := row_of (C := C_cncref26_Floor_0) (L := 64) (by kernel_rfl) (FnOK.bare rfl rfl rfl) sp_cncref26_Floor eqOk mixOk (by kernel_rfl) (by kernel_rfl)
def sig_cncref26_Steps : Sk := { tmps := [TS.v true [ci, ci, ci, ci, ci, ci, ci, ci, ci, CS.sl kInts], tf [ci]], boxes := [], rows := [] }
def osig_cncref26_Steps : Sk := { tmps := [tf [ci]], boxes := [], rows := [] }
def C_cncref26_Steps_0 (M_cncref26_Floor : Fn) : Cfg := { spec := lookS [(120, spOf sig_cncref26_Floor osig_cncref26_Floor M_cncref26_Floor)], eqOk := eqAll, ownOff := ownOff }
def mf_cncref26_Steps (M_cncref26_Floor : Fn) : Fn := modelF Tryz.prog (C_cncref26_Steps_0 M_cncref26_Floor) 64 97 sig_cncref26_Steps osig_cncref26_Steps
theorem mf_cncref26_Steps_eq (M_cncref26_Floor : Fn) (x0 x1 x2 x3 x4 x5 x6 x7 x8 : Int) (x9 : Rw) (x10 : Int) : mf_cncref26_Steps M_cncref26_Floor [I x0, I x1, I x2, I x3, I x4, I x5, I x6, I x7, I x8, .view kInts x9, I x10] =
 (M_cncref26_Floor [I (IntKind.i64.wrap (IntKind.i64.wrap (2 * x10) + x0)), I (IntKind.i64.wrap (2 * x0))]).bind fun o1 =>
 some [jA o1 0] := by kernel_rfl
def m_cncref26_Steps := mf_cncref26_Steps m_cncref26_Floor 
theorem sp_cncref26_Steps : SpecOK Tryz.prog (C_cncref26_Steps_0 m_cncref26_Floor) := specOK_of rfl ⟨r_cncref26_Floor, trivial⟩
theorem r_cncref26_Steps : RowOK Tryz.prog (97, spOf sig_cncref26_Steps osig_cncref26_Steps m_cncref26_Steps) := row_of (C := (C_cncref26_Steps_0 m_cncref26_Floor)) (L := 64) (by kernel_rfl) (FnOK.bare rfl rfl rfl) sp_cncref26_Steps eqOk mixOk (by kernel_rfl) (by kernel_rfl)
def sig_cncref27_Correct : Sk := { tmps := [TS.v true [ci, ci, ci, ci, ci, ci, ci, ci, ci, CS.sl kInts], tf [ci]], boxes := [], rows := [] }
def osig_cncref27_Correct : Sk := { tmps := [tf [ci]], boxes := [], rows := [] }
def C_cncref27_Correct_0 (M_cncref26_Floor : Fn) : Cfg := { spec := lookS [(120, spOf sig_cncref26_Floor osig_cncref26_Floor M_cncref26_Floor)], eqOk := eqAll, ownOff := ownOff }
def mf_cncref27_Correct (M_cncref26_Floor : Fn) : Fn := modelF Tryz.prog (C_cncref27_Correct_0 M_cncref26_Floor) 64 98 sig_cncref27_Correct osig_cncref27_Correct
theorem mf_cncref27_Correct_eq (M_cncref26_Floor : Fn) (x0 x1 x2 x3 x4 x5 x6 x7 x8 : Int) (x9 : Rw) (x10 : Int) : mf_cncref27_Correct M_cncref26_Floor [I x0, I x1, I x2, I x3, I x4, I x5, I x6, I x7, I x8, .view kInts x9, I x10] =
 bif (x9.length : Int) == 0 then
 some [I 0]
 else
 bif decide (x10 <= x7) then
 bif decide (0 <= 0) && decide (0 < (x9.length : Int)) then
 some [jA (nth [] x9 0) 0]
 else
 none
 else
 bif decide (x8 = 0) then
 none
 else
 bif decide (IntKind.i64.wrap ((IntKind.i64.wrap (x10 - x7)).tdiv x8) >= IntKind.i64.wrap ((x9.length : Int) - 1)) then
 bif decide (0 <= IntKind.i64.wrap ((x9.length : Int) - 1)) && decide (IntKind.i64.wrap ((x9.length : Int) - 1) < (x9.length : Int)) then
 some [jA (nth [] x9 (IntKind.i64.wrap ((x9.length : Int) - 1)).toNat) 0]
 else
 none
 else
 bif decide (0 <= IntKind.i64.wrap ((IntKind.i64.wrap (x10 - x7)).tdiv x8)) && decide (IntKind.i64.wrap ((IntKind.i64.wrap (x10 - x7)).tdiv x8) < (x9.length : Int)) then
 bif decide (0 <= IntKind.i64.wrap (IntKind.i64.wrap ((IntKind.i64.wrap (x10 - x7)).tdiv x8) + 1)) && decide (IntKind.i64.wrap (IntKind.i64.wrap ((IntKind.i64.wrap (x10 - x7)).tdiv x8) + 1) < (x9.length : Int)) then
 bif decide (0 <= IntKind.i64.wrap ((IntKind.i64.wrap (x10 - x7)).tdiv x8)) && decide (IntKind.i64.wrap ((IntKind.i64.wrap (x10 - x7)).tdiv x8) < (x9.length : Int)) then
 (M_cncref26_Floor [I (IntKind.i64.wrap (IntKind.i64.wrap (IntKind.i64.wrap (2 * IntKind.i64.wrap (intOf (nth .dead (nth [] x9 (IntKind.i64.wrap (IntKind.i64.wrap ((IntKind.i64.wrap (x10 - x7)).tdiv x8) + 1)).toNat) 0) - intOf (nth .dead (nth [] x9 (IntKind.i64.wrap ((IntKind.i64.wrap (x10 - x7)).tdiv x8)).toNat) 0))) * IntKind.i64.wrap (IntKind.i64.wrap (x10 - x7) - IntKind.i64.wrap (IntKind.i64.wrap ((IntKind.i64.wrap (x10 - x7)).tdiv x8) * x8))) + x8)), I (IntKind.i64.wrap (2 * x8))]).bind fun o1 =>
 some [I (IntKind.i64.wrap (intOf (nth .dead (nth [] x9 (IntKind.i64.wrap ((IntKind.i64.wrap (x10 - x7)).tdiv x8)).toNat) 0) + gA o1 0))]
 else
 none
 else
 none
 else
 none := by kernel_rfl
def m_cncref27_Correct := mf_cncref27_Correct m_cncref26_Floor 
theorem sp_cncref27_Correct : SpecOK Tryz.prog (C_cncref27_Correct_0 m_cncref26_Floor) := specOK_of rfl ⟨r_cncref26_Floor, trivial⟩
theorem r_cncref27_Correct : RowOK Tryz.prog (98, spOf sig_cncref27_Correct osig_cncref27_Correct m_cncref27_Correct) := row_of (C := (C_cncref27_Correct_0 m_cncref26_Floor)) (L := 64) (by kernel_rfl) (FnOK.bare rfl rfl rfl) sp_cncref27_Correct eqOk mixOk (by kernel_rfl) (by kernel_rfl)
def sig_cncref27_Motor : Sk := { tmps := [TS.v true [ci, ci, ci, ci, ci, ci, ci, ci, ci, CS.sl kInts], tf [ci]], boxes := [], rows := [] }
def osig_cncref27_Motor : Sk := { tmps := [tf [ci]], boxes := [], rows := [] }
def C_cncref27_Motor_0 (M_cncref26_Steps M_cncref27_Correct : Fn) : Cfg := { spec := lookS [(97, spOf sig_cncref26_Steps osig_cncref26_Steps M_cncref26_Steps), (98, spOf sig_cncref27_Correct osig_cncref27_Correct M_cncref27_Correct)], eqOk := eqAll, ownOff := ownOff }
def mf_cncref27_Motor (M_cncref26_Steps M_cncref27_Correct : Fn) : Fn := modelF Tryz.prog (C_cncref27_Motor_0 M_cncref26_Steps M_cncref27_Correct) 64 58 sig_cncref27_Motor osig_cncref27_Motor
theorem mf_cncref27_Motor_eq (M_cncref26_Steps M_cncref27_Correct : Fn) (x0 x1 x2 x3 x4 x5 x6 x7 x8 : Int) (x9 : Rw) (x10 : Int) : mf_cncref27_Motor M_cncref26_Steps M_cncref27_Correct [I x0, I x1, I x2, I x3, I x4, I x5, I x6, I x7, I x8, .view kInts x9, I x10] =
 (M_cncref27_Correct [I x0, I x1, I x2, I x3, I x4, I x5, I x6, I x7, I x8, .view kInts x9, I x10]).bind fun o2 =>
 (M_cncref26_Steps [I x0, I x1, I x2, I x3, I x4, I x5, I x6, I x7, I x8, .view kInts x9, I (IntKind.i64.wrap (x10 + gA o2 0))]).bind fun o3 =>
 some [jA o3 0] := by kernel_rfl
def m_cncref27_Motor := mf_cncref27_Motor m_cncref26_Steps m_cncref27_Correct 
theorem sp_cncref27_Motor : SpecOK Tryz.prog (C_cncref27_Motor_0 m_cncref26_Steps m_cncref27_Correct) := specOK_of rfl ⟨r_cncref26_Steps, r_cncref27_Correct, trivial⟩
theorem r_cncref27_Motor : RowOK Tryz.prog (58, spOf sig_cncref27_Motor osig_cncref27_Motor m_cncref27_Motor) := row_of (C := (C_cncref27_Motor_0 m_cncref26_Steps m_cncref27_Correct)) (L := 64) (by kernel_rfl) (FnOK.bare rfl rfl rfl) sp_cncref27_Motor eqOk mixOk (by kernel_rfl) (by kernel_rfl)
def sig_cncref24_Rounded : Sk := { tmps := [tf [ci], tf [ci]], boxes := [], rows := [] }
def osig_cncref24_Rounded : Sk := { tmps := [tf [ci]], boxes := [], rows := [] }
def C_cncref24_Rounded_0 : Cfg := { spec := lookS [], eqOk := eqAll, ownOff := ownOff }
def mf_cncref24_Rounded : Fn := modelF Tryz.prog C_cncref24_Rounded_0 64 72 sig_cncref24_Rounded osig_cncref24_Rounded
theorem mf_cncref24_Rounded_eq (x0 x1 : Int) : mf_cncref24_Rounded [I x0, I x1] =
 bif decide (IntKind.i64.wrap (2 * x1) = 0) then
 none
 else
 bif decide (IntKind.i64.wrap (2 * x1) = 0) then
 none
 else
 bif decide ((IntKind.i64.wrap (IntKind.i64.wrap (2 * x0) + x1)).tmod (IntKind.i64.wrap (2 * x1)) < 0) then
 some [I (IntKind.i64.wrap (IntKind.i64.wrap ((IntKind.i64.wrap (IntKind.i64.wrap (2 * x0) + x1)).tdiv (IntKind.i64.wrap (2 * x1))) - 1))]
 else
 some [I (IntKind.i64.wrap ((IntKind.i64.wrap (IntKind.i64.wrap (2 * x0) + x1)).tdiv (IntKind.i64.wrap (2 * x1))))] := by kernel_rfl
def m_cncref24_Rounded := mf_cncref24_Rounded 
theorem sp_cncref24_Rounded : SpecOK Tryz.prog (C_cncref24_Rounded_0 ) := specOK_of rfl trivial
theorem r_cncref24_Rounded : RowOK Tryz.prog (72, spOf sig_cncref24_Rounded osig_cncref24_Rounded m_cncref24_Rounded) := row_of (C := C_cncref24_Rounded_0) (L := 64) (by kernel_rfl) (FnOK.bare rfl rfl rfl) sp_cncref24_Rounded eqOk mixOk (by kernel_rfl) (by kernel_rfl)
def sig_cncref25_Begin : Sk := { tmps := [TS.v true [ci, ci, ci, CS.sl kSgm, CS.sl kPt], tf [ci]], boxes := [], rows := [] }
def osig_cncref25_Begin : Sk := { tmps := [TS.v true [ci, ci, ci]], boxes := [], rows := [] }
def C_cncref25_Begin_0 : Cfg := { spec := lookS [], eqOk := eqAll, ownOff := ownOff }
def mf_cncref25_Begin : Fn := modelF Tryz.prog C_cncref25_Begin_0 64 71 sig_cncref25_Begin osig_cncref25_Begin
theorem mf_cncref25_Begin_eq (x0 x1 x2 : Int) (x3 x4 : Rw) (x5 : Int) : mf_cncref25_Begin [I x0, I x1, I x2, .view kSgm x3, .view kPt x4, I x5] =
 bif decide (x5 <= 0) then
 some [I x0, I x1, I x2]
 else
 bif decide (0 <= IntKind.i64.wrap (x5 - 1)) && decide (IntKind.i64.wrap (x5 - 1) < (x3.length : Int)) then
 some [jA (nth [] x3 (IntKind.i64.wrap (x5 - 1)).toNat) 0, jA (nth [] x3 (IntKind.i64.wrap (x5 - 1)).toNat) 1, jA (nth [] x3 (IntKind.i64.wrap (x5 - 1)).toNat) 2]
 else
 none := by kernel_rfl
def m_cncref25_Begin := mf_cncref25_Begin 
theorem sp_cncref25_Begin : SpecOK Tryz.prog (C_cncref25_Begin_0 ) := specOK_of rfl trivial
theorem r_cncref25_Begin : RowOK Tryz.prog (71, spOf sig_cncref25_Begin osig_cncref25_Begin m_cncref25_Begin) := row_of (C := C_cncref25_Begin_0) (L := 64) (by kernel_rfl) (FnOK.bare rfl rfl rfl) sp_cncref25_Begin eqOk mixOk (by kernel_rfl) (by kernel_rfl)
def sig_cncref25_Find : Sk := { tmps := [TS.v true [ci, ci, ci, CS.sl kSgm, CS.sl kPt], tf [ci]], boxes := [], rows := [] }
def osig_cncref25_Find : Sk := { tmps := [TS.tup [(false, [ci]), (false, [ci])]], boxes := [], rows := [] }
def C_cncref25_Find_0 : Cfg := { spec := lookS [], eqOk := eqAll, ownOff := ownOff }
def sk_cncref25_Find_5 : Sk := { tmps := [td, tf [ci], tf [CS.ptr 2 0], td, td, td, td, td, td, td, td, td, td, td, td, td, tf [CS.sl kSgm], tf [ci], tf [ci]] ++ dd 26, boxes := [(2, 29, [ci, ci, ci, CS.sl kSgm, CS.sl kPt])], rows := [] }
def ex_cncref25_Find_5 : List (Ex × Sk) := [(Ex.ret, { tmps := [td, td, td, td, tf [ci], tf [ci]] ++ dd 39, boxes := [], rows := [] }), (Ex.exit 0, { tmps := [td, td, tf [CS.ptr 2 0]] ++ dd 42, boxes := [(2, 29, [ci, ci, ci, CS.sl kSgm, CS.sl kPt])], rows := [] })]
def st_cncref25_Find_5 : Lp := stepL Tryz.prog C_cncref25_Find_0 64 5 (bodyOf Tryz.prog 37 5) sk_cncref25_Find_5 ex_cncref25_Find_5
def C_cncref25_Find_1 (N5 : Lp) : Cfg := C_cncref25_Find_0.loop 5 sk_cncref25_Find_5 ex_cncref25_Find_5 N5
def mf_cncref25_Find (N5 : Lp) : Fn := modelF Tryz.prog (C_cncref25_Find_1 N5) 64 37 sig_cncref25_Find osig_cncref25_Find
theorem st_cncref25_Find_5_eq (v0 : Int) (v1 : Rw) (v2 v3 v4 v5 v6 : Int) (v7 v8 : Rw) : st_cncref25_Find_5 [I v0, .view kSgm v1, I v2, I v3, I v4, I v5, I v6, .view kSgm v7, .view kPt v8] =
 bif decide (v3 < v2) then
 bif decide (0 <= v3) && decide (v3 < (v1.length : Int)) then
 bif decide (v0 < gA (nth [] v1 v3.toNat) 3) then
 some (1, [I v3, I v0])
 else
 some (0, [I (IntKind.i64.wrap (v0 - gA (nth [] v1 v3.toNat) 3)), .view kSgm v1, I v2, I (IntKind.i64.wrap (v3 + 1)), I v4, I v5, I v6, .view kSgm v7, .view kPt v8])
 else
 none
 else
 some (2, [I v4, I v5, I v6, .view kSgm v7, .view kPt v8]) := by kernel_rfl
theorem mf_cncref25_Find_eq (N5 : Lp) (x0 x1 x2 : Int) (x3 x4 : Rw) (x5 : Int) : mf_cncref25_Find N5 [I x0, I x1, I x2, .view kSgm x3, .view kPt x4, I x5] =
 bif (x3.length : Int) == 0 then
 some [I (-1), I 0]
 else
 (N5 [I (mx x5 0), .view kSgm x3, I (x3.length : Int), I 0, I x0, I x1, I x2, .view kSgm x3, .view kPt x4]).bind fun o1 =>
 bif o1.1.beq 1 then
 some [jA o1.2 0, jA o1.2 1]
 else
 bif o1.1.beq 2 then
 bif decide (0 <= IntKind.i64.wrap ((↑(wA o1.2 3).length : Int) - 1)) && decide (IntKind.i64.wrap ((↑(wA o1.2 3).length : Int) - 1) < (↑(wA o1.2 3).length : Int)) then
 some [I (IntKind.i64.wrap ((↑(wA o1.2 3).length : Int) - 1)), I (intOf (nth .dead (nth [] (wA o1.2 3) (IntKind.i64.wrap ((↑(wA o1.2 3).length : Int) - 1)).toNat) 3))]
 else
 none
 else
 none := by kernel_rfl
def l_cncref25_Find_5 := loopC (st_cncref25_Find_5 )
def m_cncref25_Find := mf_cncref25_Find l_cncref25_Find_5
theorem sp_cncref25_Find : SpecOK Tryz.prog (C_cncref25_Find_0 ) := specOK_of rfl trivial
theorem r_cncref25_Find : RowOK Tryz.prog (37, spOf sig_cncref25_Find osig_cncref25_Find m_cncref25_Find) := row_of (C := (C_cncref25_Find_1 l_cncref25_Find_5)) (L := 64) (by kernel_rfl) ((FnOK.bare rfl rfl rfl).loop sp_cncref25_Find eqOk mixOk (by kernel_rfl) (by kernel_rfl)) sp_cncref25_Find eqOk mixOk (by kernel_rfl) (by kernel_rfl)
def sig_cncref25_At : Sk := { tmps := [TS.v true [ci, ci, ci, CS.sl kSgm, CS.sl kPt], tf [ci]], boxes := [], rows := [] }
def osig_cncref25_At : Sk := { tmps := [TS.v true [ci, ci, ci]], boxes := [], rows := [] }
def C_cncref25_At_0 (M_cncref24_Rounded M_cncref25_Begin M_cncref25_Find : Fn) : Cfg := { spec := lookS [(72, spOf sig_cncref24_Rounded osig_cncref24_Rounded M_cncref24_Rounded), (71, spOf sig_cncref25_Begin osig_cncref25_Begin M_cncref25_Begin), (37, spOf sig_cncref25_Find osig_cncref25_Find M_cncref25_Find)], eqOk := eqAll, ownOff := ownOff, unroll := [6] }
def mf_cncref25_At (M_cncref24_Rounded M_cncref25_Begin M_cncref25_Find : Fn) : Fn := modelF Tryz.prog (C_cncref25_At_0 M_cncref24_Rounded M_cncref25_Begin M_cncref25_Find) 64 39 sig_cncref25_At osig_cncref25_At
theorem mf_cncref25_At_eq (M_cncref24_Rounded M_cncref25_Begin M_cncref25_Find : Fn) (x0 x1 x2 : Int) (x3 x4 : Rw) (x5 : Int) : mf_cncref25_At M_cncref24_Rounded M_cncref25_Begin M_cncref25_Find [I x0, I x1, I x2, .view kSgm x3, .view kPt x4, I x5] =
 (M_cncref25_Find [I x0, I x1, I x2, .view kSgm x3, .view kPt x4, I x5]).bind fun o5 =>
 bif decide (gA o5 0 < 0) then
 some [I x0, I x1, I x2]
 else
 bif decide (0 <= gA o5 0) && decide (gA o5 0 < (x3.length : Int)) then
 (M_cncref25_Begin [I x0, I x1, I x2, .view kSgm x3, .view kPt x4, jA o5 0]).bind fun o6 =>
 (M_cncref24_Rounded [I (IntKind.i64.wrap (IntKind.i64.wrap (gA (nth [] x3 (gA o5 0).toNat) 0 - gA o6 0) * gA o5 1)), jA (nth [] x3 (gA o5 0).toNat) 3]).bind fun o7 =>
 (M_cncref24_Rounded [I (IntKind.i64.wrap (IntKind.i64.wrap (gA (nth [] x3 (gA o5 0).toNat) 1 - gA o6 1) * gA o5 1)), jA (nth [] x3 (gA o5 0).toNat) 3]).bind fun o8 =>
 (M_cncref24_Rounded [I (IntKind.i64.wrap (IntKind.i64.wrap (gA (nth [] x3 (gA o5 0).toNat) 2 - gA o6 2) * gA o5 1)), jA (nth [] x3 (gA o5 0).toNat) 3]).bind fun o9 =>
 some [I (IntKind.i64.wrap (gA o6 0 + gA o7 0)), I (IntKind.i64.wrap (gA o6 1 + gA o8 0)), I (IntKind.i64.wrap (gA o6 2 + gA o9 0))]
 else
 none := by kernel_rfl
def m_cncref25_At := mf_cncref25_At m_cncref24_Rounded m_cncref25_Begin m_cncref25_Find 
theorem sp_cncref25_At : SpecOK Tryz.prog (C_cncref25_At_0 m_cncref24_Rounded m_cncref25_Begin m_cncref25_Find) := specOK_of rfl ⟨r_cncref24_Rounded, r_cncref25_Begin, r_cncref25_Find, trivial⟩
theorem r_cncref25_At : RowOK Tryz.prog (39, spOf sig_cncref25_At osig_cncref25_At m_cncref25_At) := row_of (C := (C_cncref25_At_0 m_cncref24_Rounded m_cncref25_Begin m_cncref25_Find)) (L := 64) (by kernel_rfl) (FnOK.bare rfl rfl rfl) sp_cncref25_At eqOk mixOk (by kernel_rfl) (by kernel_rfl)
def sig_cncref29_Nominal : Sk := { tmps := [TS.v true [ci, ci, ci, CS.sl kSgm, CS.sl kPt], TS.v true [ci, ci, ci, ci, ci, ci, ci, ci, ci, CS.sl kInts, ci, ci, ci, ci, ci, ci, ci, ci, ci, CS.sl kInts, ci, ci, ci, ci, ci, ci, ci, ci, ci, CS.sl kInts], tf [ci]], boxes := [], rows := [] }
def osig_cncref29_Nominal : Sk := { tmps := [TS.v true [ci, ci, ci]], boxes := [], rows := [] }
def C_cncref29_Nominal_0 (M_cncref27_Motor M_cncref25_At : Fn) : Cfg := { spec := lookS [(58, spOf sig_cncref27_Motor osig_cncref27_Motor M_cncref27_Motor), (39, spOf sig_cncref25_At osig_cncref25_At M_cncref25_At)], eqOk := eqAll, ownOff := ownOff, unroll := [4] }
def mf_cncref29_Nominal (M_cncref27_Motor M_cncref25_At : Fn) : Fn := modelF Tryz.prog (C_cncref29_Nominal_0 M_cncref27_Motor M_cncref25_At) 64 19 sig_cncref29_Nominal osig_cncref29_Nominal
theorem mf_cncref29_Nominal_eq (M_cncref27_Motor M_cncref25_At : Fn) (x0 x1 x2 : Int) (x3 x4 : Rw) (x5 x6 x7 x8 x9 x10 x11 x12 x13 : Int) (x14 : Rw) (x15 x16 x17 x18 x19 x20 x21 x22 x23 : Int) (x24 : Rw) (x25 x26 x27 x28 x29 x30 x31 x32 x33 : Int) (x34 : Rw) (x35 : Int) : mf_cncref29_Nominal M_cncref27_Motor M_cncref25_At [I x0, I x1, I x2, .view kSgm x3, .view kPt x4, I x5, I x6, I x7, I x8, I x9, I x10, I x11, I x12, I x13, .view kInts x14, I x15, I x16, I x17, I x18, I x19, I x20, I x21, I x22, I x23, .view kInts x24, I x25, I x26, I x27, I x28, I x29, I x30, I x31, I x32, I x33, .view kInts x34, I x35] =
 (M_cncref25_At [I x0, I x1, I x2, .view kSgm x3, .view kPt x4, I x35]).bind fun o4 =>
 (M_cncref27_Motor [I x5, I x6, I x7, I x8, I x9, I x10, I x11, I x12, I x13, .view kInts x14, jA o4 0]).bind fun o5 =>
 (M_cncref27_Motor [I x15, I x16, I x17, I x18, I x19, I x20, I x21, I x22, I x23, .view kInts x24, jA o4 1]).bind fun o6 =>
 (M_cncref27_Motor [I x25, I x26, I x27, I x28, I x29, I x30, I x31, I x32, I x33, .view kInts x34, jA o4 2]).bind fun o7 =>
 some [jA o5 0, jA o6 0, jA o7 0] := by kernel_rfl
def m_cncref29_Nominal := mf_cncref29_Nominal m_cncref27_Motor m_cncref25_At 
theorem sp_cncref29_Nominal : SpecOK Tryz.prog (C_cncref29_Nominal_0 m_cncref27_Motor m_cncref25_At) := specOK_of rfl ⟨r_cncref27_Motor, r_cncref25_At, trivial⟩
theorem r_cncref29_Nominal : RowOK Tryz.prog (19, spOf sig_cncref29_Nominal osig_cncref29_Nominal m_cncref29_Nominal) := row_of (C := (C_cncref29_Nominal_0 m_cncref27_Motor m_cncref25_At)) (L := 64) (by kernel_rfl) (FnOK.bare rfl rfl rfl) sp_cncref29_Nominal eqOk mixOk (by kernel_rfl) (by kernel_rfl)
def sig_backlash_Shift : Sk := { tmps := [TS.v true [ci, ci, ci, ci, ci, ci, ci, ci, ci, CS.sl kInts], tf [ci]], boxes := [], rows := [] }
def osig_backlash_Shift : Sk := { tmps := [tf [ci]], boxes := [], rows := [] }
def C_backlash_Shift_0 : Cfg := { spec := lookS [], eqOk := eqAll, ownOff := ownOff }
def mf_backlash_Shift : Fn := modelF Tryz.prog C_backlash_Shift_0 64 53 sig_backlash_Shift osig_backlash_Shift
theorem mf_backlash_Shift_eq (x0 x1 x2 x3 x4 x5 x6 x7 x8 : Int) (x9 : Rw) (x10 : Int) : mf_backlash_Shift [I x0, I x1, I x2, I x3, I x4, I x5, I x6, I x7, I x8, .view kInts x9, I x10] =
 bif x10 == -1 then
 some [I (IntKind.i64.wrap (0 - x6))]
 else
 some [I 0] := by kernel_rfl
def m_backlash_Shift := mf_backlash_Shift 
theorem sp_backlash_Shift : SpecOK Tryz.prog (C_backlash_Shift_0 ) := specOK_of rfl trivial
theorem r_backlash_Shift : RowOK Tryz.prog (53, spOf sig_backlash_Shift osig_backlash_Shift m_backlash_Shift) := row_of (C := C_backlash_Shift_0) (L := 64) (by kernel_rfl) (FnOK.bare rfl rfl rfl) sp_backlash_Shift eqOk mixOk (by kernel_rfl) (by kernel_rfl)
def sig_track_shift : Sk := { tmps := [TS.v true [ci, ci, ci, ci, ci, ci, ci, ci, ci, CS.sl kInts], TS.v true [ci, ci, ci, ci, ci, ci, ci, ci, ci, ci], tf [ci], tf [ci]], boxes := [], rows := [] }
def osig_track_shift : Sk := { tmps := [tf [ci]], boxes := [], rows := [] }
def C_track_shift_0 (M_backlash_Shift : Fn) : Cfg := { spec := lookS [(53, spOf sig_backlash_Shift osig_backlash_Shift M_backlash_Shift)], eqOk := eqAll, ownOff := ownOff }
def mf_track_shift (M_backlash_Shift : Fn) : Fn := modelF Tryz.prog (C_track_shift_0 M_backlash_Shift) 64 54 sig_track_shift osig_track_shift
theorem mf_track_shift_eq (M_backlash_Shift : Fn) (x0 x1 x2 x3 x4 x5 x6 x7 x8 : Int) (x9 : Rw) (x10 x11 x12 x13 x14 x15 x16 x17 x18 x19 x20 x21 : Int) : mf_track_shift M_backlash_Shift [I x0, I x1, I x2, I x3, I x4, I x5, I x6, I x7, I x8, .view kInts x9, I x10, I x11, I x12, I x13, I x14, I x15, I x16, I x17, I x18, I x19, I x20, I x21] =
 bif x13 != 0 then
 bif decide (x20 = (↑0 : Int)) then
 (M_backlash_Shift [I x0, I x1, I x2, I x3, I x4, I x5, I x6, I x7, I x8, .view kInts x9, I x17]).bind fun o30 =>
 some [jA o30 0]
 else
 bif decide (x20 = (↑(0 + 1) : Int)) then
 (M_backlash_Shift [I x0, I x1, I x2, I x3, I x4, I x5, I x6, I x7, I x8, .view kInts x9, I x18]).bind fun o31 =>
 some [jA o31 0]
 else
 bif decide (x20 = (↑(0 + 1 + 1) : Int)) then
 (M_backlash_Shift [I x0, I x1, I x2, I x3, I x4, I x5, I x6, I x7, I x8, .view kInts x9, I x19]).bind fun o32 =>
 some [jA o32 0]
 else
 none
 else
 bif decide (x20 = (↑0 : Int)) then
 bif decide (x20 = (↑0 : Int)) then
 bif x14 == x17 then
 bif decide (x20 = (↑0 : Int)) then
 (M_backlash_Shift [I x0, I x1, I x2, I x3, I x4, I x5, I x6, I x7, I x8, .view kInts x9, I x17]).bind fun o33 =>
 some [jA o33 0]
 else
 bif decide (x20 = (↑(0 + 1) : Int)) then
 (M_backlash_Shift [I x0, I x1, I x2, I x3, I x4, I x5, I x6, I x7, I x8, .view kInts x9, I x18]).bind fun o34 =>
 some [jA o34 0]
 else
 bif decide (x20 = (↑(0 + 1 + 1) : Int)) then
 (M_backlash_Shift [I x0, I x1, I x2, I x3, I x4, I x5, I x6, I x7, I x8, .view kInts x9, I x19]).bind fun o35 =>
 some [jA o35 0]
 else
 none
 else
 bif decide (x20 = (↑0 : Int)) then
 bif x17 == -1 then
 some [I (IntKind.i64.wrap (0 - mn (IntKind.i64.wrap (x21 - x10)) x6))]
 else
 some [I (IntKind.i64.wrap (mn (IntKind.i64.wrap (x21 - x10)) x6 - x6))]
 else
 bif decide (x20 = (↑(0 + 1) : Int)) then
 bif x18 == -1 then
 some [I (IntKind.i64.wrap (0 - mn (IntKind.i64.wrap (x21 - x10)) x6))]
 else
 some [I (IntKind.i64.wrap (mn (IntKind.i64.wrap (x21 - x10)) x6 - x6))]
 else
 bif decide (x20 = (↑(0 + 1 + 1) : Int)) then
 bif x19 == -1 then
 some [I (IntKind.i64.wrap (0 - mn (IntKind.i64.wrap (x21 - x10)) x6))]
 else
 some [I (IntKind.i64.wrap (mn (IntKind.i64.wrap (x21 - x10)) x6 - x6))]
 else
 none
 else
 bif decide (x20 = (↑(0 + 1) : Int)) then
 bif x14 == x18 then
 bif decide (x20 = (↑0 : Int)) then
 (M_backlash_Shift [I x0, I x1, I x2, I x3, I x4, I x5, I x6, I x7, I x8, .view kInts x9, I x17]).bind fun o36 =>
 some [jA o36 0]
 else
 bif decide (x20 = (↑(0 + 1) : Int)) then
 (M_backlash_Shift [I x0, I x1, I x2, I x3, I x4, I x5, I x6, I x7, I x8, .view kInts x9, I x18]).bind fun o37 =>
 some [jA o37 0]
 else
 bif decide (x20 = (↑(0 + 1 + 1) : Int)) then
 (M_backlash_Shift [I x0, I x1, I x2, I x3, I x4, I x5, I x6, I x7, I x8, .view kInts x9, I x19]).bind fun o38 =>
 some [jA o38 0]
 else
 none
 else
 bif decide (x20 = (↑0 : Int)) then
 bif x17 == -1 then
 some [I (IntKind.i64.wrap (0 - mn (IntKind.i64.wrap (x21 - x10)) x6))]
 else
 some [I (IntKind.i64.wrap (mn (IntKind.i64.wrap (x21 - x10)) x6 - x6))]
 else
 bif decide (x20 = (↑(0 + 1) : Int)) then
 bif x18 == -1 then
 some [I (IntKind.i64.wrap (0 - mn (IntKind.i64.wrap (x21 - x10)) x6))]
 else
 some [I (IntKind.i64.wrap (mn (IntKind.i64.wrap (x21 - x10)) x6 - x6))]
 else
 bif decide (x20 = (↑(0 + 1 + 1) : Int)) then
 bif x19 == -1 then
 some [I (IntKind.i64.wrap (0 - mn (IntKind.i64.wrap (x21 - x10)) x6))]
 else
 some [I (IntKind.i64.wrap (mn (IntKind.i64.wrap (x21 - x10)) x6 - x6))]
 else
 none
 else
 bif decide (x20 = (↑(0 + 1 + 1) : Int)) then
 bif x14 == x19 then
 bif decide (x20 = (↑0 : Int)) then
 (M_backlash_Shift [I x0, I x1, I x2, I x3, I x4, I x5, I x6, I x7, I x8, .view kInts x9, I x17]).bind fun o39 =>
 some [jA o39 0]
 else
 bif decide (x20 = (↑(0 + 1) : Int)) then
 (M_backlash_Shift [I x0, I x1, I x2, I x3, I x4, I x5, I x6, I x7, I x8, .view kInts x9, I x18]).bind fun o40 =>
 some [jA o40 0]
 else
 bif decide (x20 = (↑(0 + 1 + 1) : Int)) then
 (M_backlash_Shift [I x0, I x1, I x2, I x3, I x4, I x5, I x6, I x7, I x8, .view kInts x9, I x19]).bind fun o41 =>
 some [jA o41 0]
 else
 none
 else
 bif decide (x20 = (↑0 : Int)) then
 bif x17 == -1 then
 some [I (IntKind.i64.wrap (0 - mn (IntKind.i64.wrap (x21 - x10)) x6))]
 else
 some [I (IntKind.i64.wrap (mn (IntKind.i64.wrap (x21 - x10)) x6 - x6))]
 else
 bif decide (x20 = (↑(0 + 1) : Int)) then
 bif x18 == -1 then
 some [I (IntKind.i64.wrap (0 - mn (IntKind.i64.wrap (x21 - x10)) x6))]
 else
 some [I (IntKind.i64.wrap (mn (IntKind.i64.wrap (x21 - x10)) x6 - x6))]
 else
 bif decide (x20 = (↑(0 + 1 + 1) : Int)) then
 bif x19 == -1 then
 some [I (IntKind.i64.wrap (0 - mn (IntKind.i64.wrap (x21 - x10)) x6))]
 else
 some [I (IntKind.i64.wrap (mn (IntKind.i64.wrap (x21 - x10)) x6 - x6))]
 else
 none
 else
 none
 else
 bif decide (x20 = (↑(0 + 1) : Int)) then
 bif decide (x20 = (↑0 : Int)) then
 bif x15 == x17 then
 bif decide (x20 = (↑0 : Int)) then
 (M_backlash_Shift [I x0, I x1, I x2, I x3, I x4, I x5, I x6, I x7, I x8, .view kInts x9, I x17]).bind fun o42 =>
 some [jA o42 0]
 else
 bif decide (x20 = (↑(0 + 1) : Int)) then
 (M_backlash_Shift [I x0, I x1, I x2, I x3, I x4, I x5, I x6, I x7, I x8, .view kInts x9, I x18]).bind fun o43 =>
 some [jA o43 0]
 else
 bif decide (x20 = (↑(0 + 1 + 1) : Int)) then
 (M_backlash_Shift [I x0, I x1, I x2, I x3, I x4, I x5, I x6, I x7, I x8, .view kInts x9, I x19]).bind fun o44 =>
 some [jA o44 0]
 else
 none
 else
 bif decide (x20 = (↑0 : Int)) then
 bif x17 == -1 then
 some [I (IntKind.i64.wrap (0 - mn (IntKind.i64.wrap (x21 - x10)) x6))]
 else
 some [I (IntKind.i64.wrap (mn (IntKind.i64.wrap (x21 - x10)) x6 - x6))]
 else
 bif decide (x20 = (↑(0 + 1) : Int)) then
 bif x18 == -1 then
 some [I (IntKind.i64.wrap (0 - mn (IntKind.i64.wrap (x21 - x10)) x6))]
 else
 some [I (IntKind.i64.wrap (mn (IntKind.i64.wrap (x21 - x10)) x6 - x6))]
 else
 bif decide (x20 = (↑(0 + 1 + 1) : Int)) then
 bif x19 == -1 then
 some [I (IntKind.i64.wrap (0 - mn (IntKind.i64.wrap (x21 - x10)) x6))]
 else
 some [I (IntKind.i64.wrap (mn (IntKind.i64.wrap (x21 - x10)) x6 - x6))]
 else
 none
 else
 bif decide (x20 = (↑(0 + 1) : Int)) then
 bif x15 == x18 then
 bif decide (x20 = (↑0 : Int)) then
 (M_backlash_Shift [I x0, I x1, I x2, I x3, I x4, I x5, I x6, I x7, I x8, .view kInts x9, I x17]).bind fun o45 =>
 some [jA o45 0]
 else
 bif decide (x20 = (↑(0 + 1) : Int)) then
 (M_backlash_Shift [I x0, I x1, I x2, I x3, I x4, I x5, I x6, I x7, I x8, .view kInts x9, I x18]).bind fun o46 =>
 some [jA o46 0]
 else
 bif decide (x20 = (↑(0 + 1 + 1) : Int)) then
 (M_backlash_Shift [I x0, I x1, I x2, I x3, I x4, I x5, I x6, I x7, I x8, .view kInts x9, I x19]).bind fun o47 =>
 some [jA o47 0]
 else
 none
 else
 bif decide (x20 = (↑0 : Int)) then
 bif x17 == -1 then
 some [I (IntKind.i64.wrap (0 - mn (IntKind.i64.wrap (x21 - x10)) x6))]
 else
 some [I (IntKind.i64.wrap (mn (IntKind.i64.wrap (x21 - x10)) x6 - x6))]
 else
 bif decide (x20 = (↑(0 + 1) : Int)) then
 bif x18 == -1 then
 some [I (IntKind.i64.wrap (0 - mn (IntKind.i64.wrap (x21 - x10)) x6))]
 else
 some [I (IntKind.i64.wrap (mn (IntKind.i64.wrap (x21 - x10)) x6 - x6))]
 else
 bif decide (x20 = (↑(0 + 1 + 1) : Int)) then
 bif x19 == -1 then
 some [I (IntKind.i64.wrap (0 - mn (IntKind.i64.wrap (x21 - x10)) x6))]
 else
 some [I (IntKind.i64.wrap (mn (IntKind.i64.wrap (x21 - x10)) x6 - x6))]
 else
 none
 else
 bif decide (x20 = (↑(0 + 1 + 1) : Int)) then
 bif x15 == x19 then
 bif decide (x20 = (↑0 : Int)) then
 (M_backlash_Shift [I x0, I x1, I x2, I x3, I x4, I x5, I x6, I x7, I x8, .view kInts x9, I x17]).bind fun o48 =>
 some [jA o48 0]
 else
 bif decide (x20 = (↑(0 + 1) : Int)) then
 (M_backlash_Shift [I x0, I x1, I x2, I x3, I x4, I x5, I x6, I x7, I x8, .view kInts x9, I x18]).bind fun o49 =>
 some [jA o49 0]
 else
 bif decide (x20 = (↑(0 + 1 + 1) : Int)) then
 (M_backlash_Shift [I x0, I x1, I x2, I x3, I x4, I x5, I x6, I x7, I x8, .view kInts x9, I x19]).bind fun o50 =>
 some [jA o50 0]
 else
 none
 else
 bif decide (x20 = (↑0 : Int)) then
 bif x17 == -1 then
 some [I (IntKind.i64.wrap (0 - mn (IntKind.i64.wrap (x21 - x10)) x6))]
 else
 some [I (IntKind.i64.wrap (mn (IntKind.i64.wrap (x21 - x10)) x6 - x6))]
 else
 bif decide (x20 = (↑(0 + 1) : Int)) then
 bif x18 == -1 then
 some [I (IntKind.i64.wrap (0 - mn (IntKind.i64.wrap (x21 - x10)) x6))]
 else
 some [I (IntKind.i64.wrap (mn (IntKind.i64.wrap (x21 - x10)) x6 - x6))]
 else
 bif decide (x20 = (↑(0 + 1 + 1) : Int)) then
 bif x19 == -1 then
 some [I (IntKind.i64.wrap (0 - mn (IntKind.i64.wrap (x21 - x10)) x6))]
 else
 some [I (IntKind.i64.wrap (mn (IntKind.i64.wrap (x21 - x10)) x6 - x6))]
 else
 none
 else
 none
 else
 bif decide (x20 = (↑(0 + 1 + 1) : Int)) then
 bif decide (x20 = (↑0 : Int)) then
 bif x16 == x17 then
 bif decide (x20 = (↑0 : Int)) then
 (M_backlash_Shift [I x0, I x1, I x2, I x3, I x4, I x5, I x6, I x7, I x8, .view kInts x9, I x17]).bind fun o51 =>
 some [jA o51 0]
 else
 bif decide (x20 = (↑(0 + 1) : Int)) then
 (M_backlash_Shift [I x0, I x1, I x2, I x3, I x4, I x5, I x6, I x7, I x8, .view kInts x9, I x18]).bind fun o52 =>
 some [jA o52 0]
 else
 bif decide (x20 = (↑(0 + 1 + 1) : Int)) then
 (M_backlash_Shift [I x0, I x1, I x2, I x3, I x4, I x5, I x6, I x7, I x8, .view kInts x9, I x19]).bind fun o53 =>
 some [jA o53 0]
 else
 none
 else
 bif decide (x20 = (↑0 : Int)) then
 bif x17 == -1 then
 some [I (IntKind.i64.wrap (0 - mn (IntKind.i64.wrap (x21 - x10)) x6))]
 else
 some [I (IntKind.i64.wrap (mn (IntKind.i64.wrap (x21 - x10)) x6 - x6))]
 else
 bif decide (x20 = (↑(0 + 1) : Int)) then
 bif x18 == -1 then
 some [I (IntKind.i64.wrap (0 - mn (IntKind.i64.wrap (x21 - x10)) x6))]
 else
 some [I (IntKind.i64.wrap (mn (IntKind.i64.wrap (x21 - x10)) x6 - x6))]
 else
 bif decide (x20 = (↑(0 + 1 + 1) : Int)) then
 bif x19 == -1 then
 some [I (IntKind.i64.wrap (0 - mn (IntKind.i64.wrap (x21 - x10)) x6))]
 else
 some [I (IntKind.i64.wrap (mn (IntKind.i64.wrap (x21 - x10)) x6 - x6))]
 else
 none
 else
 bif decide (x20 = (↑(0 + 1) : Int)) then
 bif x16 == x18 then
 bif decide (x20 = (↑0 : Int)) then
 (M_backlash_Shift [I x0, I x1, I x2, I x3, I x4, I x5, I x6, I x7, I x8, .view kInts x9, I x17]).bind fun o54 =>
 some [jA o54 0]
 else
 bif decide (x20 = (↑(0 + 1) : Int)) then
 (M_backlash_Shift [I x0, I x1, I x2, I x3, I x4, I x5, I x6, I x7, I x8, .view kInts x9, I x18]).bind fun o55 =>
 some [jA o55 0]
 else
 bif decide (x20 = (↑(0 + 1 + 1) : Int)) then
 (M_backlash_Shift [I x0, I x1, I x2, I x3, I x4, I x5, I x6, I x7, I x8, .view kInts x9, I x19]).bind fun o56 =>
 some [jA o56 0]
 else
 none
 else
 bif decide (x20 = (↑0 : Int)) then
 bif x17 == -1 then
 some [I (IntKind.i64.wrap (0 - mn (IntKind.i64.wrap (x21 - x10)) x6))]
 else
 some [I (IntKind.i64.wrap (mn (IntKind.i64.wrap (x21 - x10)) x6 - x6))]
 else
 bif decide (x20 = (↑(0 + 1) : Int)) then
 bif x18 == -1 then
 some [I (IntKind.i64.wrap (0 - mn (IntKind.i64.wrap (x21 - x10)) x6))]
 else
 some [I (IntKind.i64.wrap (mn (IntKind.i64.wrap (x21 - x10)) x6 - x6))]
 else
 bif decide (x20 = (↑(0 + 1 + 1) : Int)) then
 bif x19 == -1 then
 some [I (IntKind.i64.wrap (0 - mn (IntKind.i64.wrap (x21 - x10)) x6))]
 else
 some [I (IntKind.i64.wrap (mn (IntKind.i64.wrap (x21 - x10)) x6 - x6))]
 else
 none
 else
 bif decide (x20 = (↑(0 + 1 + 1) : Int)) then
 bif x16 == x19 then
 bif decide (x20 = (↑0 : Int)) then
 (M_backlash_Shift [I x0, I x1, I x2, I x3, I x4, I x5, I x6, I x7, I x8, .view kInts x9, I x17]).bind fun o57 =>
 some [jA o57 0]
 else
 bif decide (x20 = (↑(0 + 1) : Int)) then
 (M_backlash_Shift [I x0, I x1, I x2, I x3, I x4, I x5, I x6, I x7, I x8, .view kInts x9, I x18]).bind fun o58 =>
 some [jA o58 0]
 else
 bif decide (x20 = (↑(0 + 1 + 1) : Int)) then
 (M_backlash_Shift [I x0, I x1, I x2, I x3, I x4, I x5, I x6, I x7, I x8, .view kInts x9, I x19]).bind fun o59 =>
 some [jA o59 0]
 else
 none
 else
 bif decide (x20 = (↑0 : Int)) then
 bif x17 == -1 then
 some [I (IntKind.i64.wrap (0 - mn (IntKind.i64.wrap (x21 - x10)) x6))]
 else
 some [I (IntKind.i64.wrap (mn (IntKind.i64.wrap (x21 - x10)) x6 - x6))]
 else
 bif decide (x20 = (↑(0 + 1) : Int)) then
 bif x18 == -1 then
 some [I (IntKind.i64.wrap (0 - mn (IntKind.i64.wrap (x21 - x10)) x6))]
 else
 some [I (IntKind.i64.wrap (mn (IntKind.i64.wrap (x21 - x10)) x6 - x6))]
 else
 bif decide (x20 = (↑(0 + 1 + 1) : Int)) then
 bif x19 == -1 then
 some [I (IntKind.i64.wrap (0 - mn (IntKind.i64.wrap (x21 - x10)) x6))]
 else
 some [I (IntKind.i64.wrap (mn (IntKind.i64.wrap (x21 - x10)) x6 - x6))]
 else
 none
 else
 none
 else
 none := by kernel_rfl
def m_track_shift := mf_track_shift m_backlash_Shift 
theorem sp_track_shift : SpecOK Tryz.prog (C_track_shift_0 m_backlash_Shift) := specOK_of rfl ⟨r_backlash_Shift, trivial⟩
theorem r_track_shift : RowOK Tryz.prog (54, spOf sig_track_shift osig_track_shift m_track_shift) := row_of (C := (C_track_shift_0 m_backlash_Shift)) (L := 64) (by kernel_rfl) (FnOK.bare rfl rfl rfl) sp_track_shift eqOk mixOk (by kernel_rfl) (by kernel_rfl)
def sig_axis_Steps : Sk := { tmps := [TS.v true [ci, ci, ci, ci, ci, ci, ci, ci, ci, CS.sl kInts], tf [ci]], boxes := [], rows := [] }
def osig_axis_Steps : Sk := { tmps := [tf [ci]], boxes := [], rows := [] }
def C_axis_Steps_0 : Cfg := { spec := lookS [], eqOk := eqAll, ownOff := ownOff }
def mf_axis_Steps : Fn := modelF Tryz.prog C_axis_Steps_0 64 95 sig_axis_Steps osig_axis_Steps
theorem mf_axis_Steps_eq (x0 x1 x2 x3 x4 x5 x6 x7 x8 : Int) (x9 : Rw) (x10 : Int) : mf_axis_Steps [I x0, I x1, I x2, I x3, I x4, I x5, I x6, I x7, I x8, .view kInts x9, I x10] =
 bif decide (x0 <= 0) then
 some [I 0]
 else
 bif decide (IntKind.i64.wrap (2 * x0) <= 0) then
 some [I 0]
 else
 bif decide (IntKind.i64.wrap (2 * x0) = 0) then
 none
 else
 bif decide (IntKind.i64.wrap (2 * x0) = 0) then
 none
 else
 bif decide ((IntKind.i64.wrap (IntKind.i64.wrap (2 * x10) + x0)).tmod (IntKind.i64.wrap (2 * x0)) < 0) then
 some [I (IntKind.i64.wrap (IntKind.i64.wrap ((IntKind.i64.wrap (IntKind.i64.wrap (2 * x10) + x0)).tdiv (IntKind.i64.wrap (2 * x0))) - 1))]
 else
 some [I (IntKind.i64.wrap ((IntKind.i64.wrap (IntKind.i64.wrap (2 * x10) + x0)).tdiv (IntKind.i64.wrap (2 * x0))))] := by kernel_rfl
def m_axis_Steps := mf_axis_Steps 
theorem sp_axis_Steps : SpecOK Tryz.prog (C_axis_Steps_0 ) := specOK_of rfl trivial
theorem r_axis_Steps : RowOK Tryz.prog (95, spOf sig_axis_Steps osig_axis_Steps m_axis_Steps) := row_of (C := C_axis_Steps_0) (L := 64) (by kernel_rfl) (FnOK.bare rfl rfl rfl) sp_axis_Steps eqOk mixOk (by kernel_rfl) (by kernel_rfl)
def sig_wide_signed : Sk := { tmps := [tf [CS.int .u64], tf [CS.bool]], boxes := [], rows := [] }
def osig_wide_signed : Sk := { tmps := [TS.tup [(false, [ci]), (false, [CS.bool])]], boxes := [], rows := [] }
def C_wide_signed_0 : Cfg := { spec := lookS [], eqOk := eqAll, ownOff := ownOff }
def mf_wide_signed : Fn := modelF Tryz.prog C_wide_signed_0 64 105 sig_wide_signed osig_wide_signed
theorem mf_wide_signed_eq (x0 : Int) (x1 : Bool) : mf_wide_signed [U x0, B x1] =
 bif x1 then
 bif decide (x0 <= 9223372036854775808) then
 some [I (IntKind.i64.wrap (IntKind.u64.wrap (0 - x0))), B true]
 else
 bif !x1 then
 bif decide (x0 < 9223372036854775808) then
 some [I (IntKind.i64.wrap x0), B true]
 else
 some [I 0, B false]
 else
 some [I 0, B false]
 else
 bif !x1 then
 bif decide (x0 < 9223372036854775808) then
 some [I (IntKind.i64.wrap x0), B true]
 else
 some [I 0, B false]
 else
 some [I 0, B false] := by kernel_rfl
def m_wide_signed := mf_wide_signed 
theorem sp_wide_signed : SpecOK Tryz.prog (C_wide_signed_0 ) := specOK_of rfl trivial
theorem r_wide_signed : RowOK Tryz.prog (105, spOf sig_wide_signed osig_wide_signed m_wide_signed) := row_of (C := C_wide_signed_0) (L := 64) (by kernel_rfl) (FnOK.bare rfl rfl rfl) sp_wide_signed eqOk mixOk (by kernel_rfl) (by kernel_rfl)
def sig_wide_grows : Sk := { tmps := [tf [ci], tf [ci], tf [CS.bool], tf [CS.bool]], boxes := [], rows := [] }
def osig_wide_grows : Sk := { tmps := [tf [CS.bool]], boxes := [], rows := [] }
def C_wide_grows_0 : Cfg := { spec := lookS [], eqOk := eqAll, ownOff := ownOff }
def mf_wide_grows : Fn := modelF Tryz.prog C_wide_grows_0 64 104 sig_wide_grows osig_wide_grows
theorem mf_wide_grows_eq (x0 x1 : Int) (x2 x3 : Bool) : mf_wide_grows [I x0, I x1, B x2, B x3] =
 bif x0 == 0 then
 bif x2 then
 some [B x3]
 else
 some [B false]
 else
 bif x0 == 1 then
 bif x2 then
 some [B !x3]
 else
 some [B false]
 else
 bif decide (x1 > 0) then
 some [B true]
 else
 bif x1 == 0 then
 some [B !x3]
 else
 some [B false] := by kernel_rfl
def m_wide_grows := mf_wide_grows 
theorem sp_wide_grows : SpecOK Tryz.prog (C_wide_grows_0 ) := specOK_of rfl trivial
theorem r_wide_grows : RowOK Tryz.prog (104, spOf sig_wide_grows osig_wide_grows m_wide_grows) := row_of (C := C_wide_grows_0) (L := 64) (by kernel_rfl) (FnOK.bare rfl rfl rfl) sp_wide_grows eqOk mixOk (by kernel_rfl) (by kernel_rfl)
def sig_wide_sign : Sk := { tmps := [tf [ci], tf [ci]], boxes := [], rows := [] }
def osig_wide_sign : Sk := { tmps := [tf [ci]], boxes := [], rows := [] }
def C_wide_sign_0 : Cfg := { spec := lookS [], eqOk := eqAll, ownOff := ownOff }
def mf_wide_sign : Fn := modelF Tryz.prog C_wide_sign_0 64 103 sig_wide_sign osig_wide_sign
theorem mf_wide_sign_eq (x0 x1 : Int) : mf_wide_sign [I x0, I x1] =
 bif x0 == 0 then
 some [I 0]
 else
 bif x1 == 0 then
 some [I 0]
 else
 bif decide (x0 < 0) == decide (x1 < 0) then
 some [I 1]
 else
 some [I (-1)] := by kernel_rfl
def m_wide_sign := mf_wide_sign 
theorem sp_wide_sign : SpecOK Tryz.prog (C_wide_sign_0 ) := specOK_of rfl trivial
theorem r_wide_sign : RowOK Tryz.prog (103, spOf sig_wide_sign osig_wide_sign m_wide_sign) := row_of (C := C_wide_sign_0) (L := 64) (by kernel_rfl) (FnOK.bare rfl rfl rfl) sp_wide_sign eqOk mixOk (by kernel_rfl) (by kernel_rfl)
def sig_bits_Div64 : Sk := { tmps := [tf [CS.int .u64], tf [CS.int .u64], tf [CS.int .u64]], boxes := [], rows := [] }
def osig_bits_Div64 : Sk := { tmps := [TS.tup [(false, [CS.int .u64]), (false, [CS.int .u64])]], boxes := [], rows := [] }
def C_bits_Div64_0 (M_bits_LeadingZeros64 : Fn) : Cfg := { spec := lookS [(122, spOf sig_bits_LeadingZeros64 osig_bits_LeadingZeros64 M_bits_LeadingZeros64)], eqOk := eqAll, ownOff := ownOff }
def sk_bits_Div64_17 : Sk := { tmps := [td, td, tf [CS.int .u64], td, td, td, td, td, tf [CS.int .u64], tf [CS.int .u64], tf [CS.int .u64], tf [CS.int .u64], td, tf [CS.int .u64], tf [CS.int .u64], tf [CS.int .u64], tf [CS.int .u64]] ++ dd 118, boxes := [], rows := [] }
def ex_bits_Div64_17 : List (Ex × Sk) := [(Ex.exit 0, { tmps := [td, td, tf [CS.int .u64], td, td, td, td, td, tf [CS.int .u64], tf [CS.int .u64], tf [CS.int .u64], tf [CS.int .u64], td, tf [CS.int .u64], tf [CS.int .u64], tf [CS.int .u64]] ++ dd 119, boxes := [], rows := [] })]
def st_bits_Div64_17 (M_bits_LeadingZeros64 : Fn) : Lp := stepL Tryz.prog (C_bits_Div64_0 M_bits_LeadingZeros64) 64 17 (bodyOf Tryz.prog 102 17) sk_bits_Div64_17 ex_bits_Div64_17
def C_bits_Div64_1 (M_bits_LeadingZeros64 : Fn) (N17 : Lp) : Cfg := (C_bits_Div64_0 M_bits_LeadingZeros64).loop 17 sk_bits_Div64_17 ex_bits_Div64_17 N17
def sk_bits_Div64_24 : Sk := { tmps := [td, td, tf [CS.int .u64], td, td, td, td, td, tf [CS.int .u64], tf [CS.int .u64], tf [CS.int .u64], td, td, td, tf [CS.int .u64], tf [CS.int .u64], tf [CS.int .u64], tf [CS.int .u64], tf [CS.int .u64]] ++ dd 116, boxes := [], rows := [] }
def ex_bits_Div64_24 : List (Ex × Sk) := [(Ex.exit 2, { tmps := [td, td, tf [CS.int .u64], td, td, td, td, td, tf [CS.int .u64], td, td, td, td, td, tf [CS.int .u64], tf [CS.int .u64], td, tf [CS.int .u64], tf [CS.int .u64]] ++ dd 116, boxes := [], rows := [] })]
def st_bits_Div64_24 (M_bits_LeadingZeros64 : Fn) (N17 : Lp) : Lp := stepL Tryz.prog (C_bits_Div64_1 M_bits_LeadingZeros64 N17) 64 24 (bodyOf Tryz.prog 102 24) sk_bits_Div64_24 ex_bits_Div64_24
def C_bits_Div64_2 (M_bits_LeadingZeros64 : Fn) (N17 N24 : Lp) : Cfg := (C_bits_Div64_1 M_bits_LeadingZeros64 N17).loop 24 sk_bits_Div64_24 ex_bits_Div64_24 N24
def mf_bits_Div64 (M_bits_LeadingZeros64 : Fn) (N17 N24 : Lp) : Fn := modelF Tryz.prog (C_bits_Div64_2 M_bits_LeadingZeros64 N17 N24) 64 102 sig_bits_Div64 osig_bits_Div64
theorem mf_bits_Div64_eq (M_bits_LeadingZeros64 : Fn) (N17 N24 : Lp) (x0 x1 x2 : Int) : mf_bits_Div64 M_bits_LeadingZeros64 N17 N24 [U x0, U x1, U x2] =
 bif x2 == 0 then
 none
 else
 bif decide (x2 <= x0) then
 none
 else
 bif x0 == 0 then
 bif decide (x2 = 0) then
 none
 else
 bif decide (x2 = 0) then
 none
 else
 some [U (IntKind.u64.wrap (x1.tdiv x2)), U (x1.tmod x2)]
 else
 (M_bits_LeadingZeros64 [U x2]).bind fun o6 =>
 bif decide (IntKind.u64.wrap (gA o6 0) < 0) then
 none
 else
 bif decide (IntKind.u64.wrap (gA o6 0) < 0) then
 none
 else
 bif decide (IntKind.u64.wrap (64 - IntKind.u64.wrap (gA o6 0)) < 0) then
 none
 else
 bif decide (IntKind.u64.wrap (gA o6 0) < 0) then
 none
 else
 bif decide ((IntKind.u64.wrap (x2 * 2 ^ min (IntKind.u64.wrap (gA o6 0)).toNat IntKind.u64.bits)).fdiv (2 ^ min (Int.toNat 32) IntKind.u64.bits) = 0) then
 none
 else
 (N17 [U (IntKind.u64.wrap (x2 * 2 ^ min (IntKind.u64.wrap (gA o6 0)).toNat IntKind.u64.bits)), U (IntKind.u64.wrap (gA o6 0)), U ((IntKind.u64.wrap (x2 * 2 ^ min (IntKind.u64.wrap (gA o6 0)).toNat IntKind.u64.bits)).fdiv (2 ^ min (Int.toNat 32) IntKind.u64.bits)), U (IntKind.u64.wrap (↑(BitVec.ofInt IntKind.u64.bits (IntKind.u64.wrap (x2 * 2 ^ min (IntKind.u64.wrap (gA o6 0)).toNat IntKind.u64.bits)) &&& BitVec.ofInt IntKind.u64.bits 4294967295).toNat : Int)), U (IntKind.u64.wrap (↑(BitVec.ofInt IntKind.u64.bits (IntKind.u64.wrap (x0 * 2 ^ min (IntKind.u64.wrap (gA o6 0)).toNat IntKind.u64.bits)) ||| BitVec.ofInt IntKind.u64.bits (x1.fdiv (2 ^ min (IntKind.u64.wrap (64 - IntKind.u64.wrap (gA o6 0))).toNat IntKind.u64.bits))).toNat : Int)), U ((IntKind.u64.wrap (x1 * 2 ^ min (IntKind.u64.wrap (gA o6 0)).toNat IntKind.u64.bits)).fdiv (2 ^ min (Int.toNat 32) IntKind.u64.bits)), U (IntKind.u64.wrap (↑(BitVec.ofInt IntKind.u64.bits (IntKind.u64.wrap (x1 * 2 ^ min (IntKind.u64.wrap (gA o6 0)).toNat IntKind.u64.bits)) &&& BitVec.ofInt IntKind.u64.bits 4294967295).toNat : Int)), U (IntKind.u64.wrap ((IntKind.u64.wrap (↑(BitVec.ofInt IntKind.u64.bits (IntKind.u64.wrap (x0 * 2 ^ min (IntKind.u64.wrap (gA o6 0)).toNat IntKind.u64.bits)) ||| BitVec.ofInt IntKind.u64.bits (x1.fdiv (2 ^ min (IntKind.u64.wrap (64 - IntKind.u64.wrap (gA o6 0))).toNat IntKind.u64.bits))).toNat : Int)).tdiv ((IntKind.u64.wrap (x2 * 2 ^ min (IntKind.u64.wrap (gA o6 0)).toNat IntKind.u64.bits)).fdiv (2 ^ min (Int.toNat 32) IntKind.u64.bits)))), U (IntKind.u64.wrap (IntKind.u64.wrap (↑(BitVec.ofInt IntKind.u64.bits (IntKind.u64.wrap (x0 * 2 ^ min (IntKind.u64.wrap (gA o6 0)).toNat IntKind.u64.bits)) ||| BitVec.ofInt IntKind.u64.bits (x1.fdiv (2 ^ min (IntKind.u64.wrap (64 - IntKind.u64.wrap (gA o6 0))).toNat IntKind.u64.bits))).toNat : Int) - IntKind.u64.wrap (IntKind.u64.wrap ((IntKind.u64.wrap (↑(BitVec.ofInt IntKind.u64.bits (IntKind.u64.wrap (x0 * 2 ^ min (IntKind.u64.wrap (gA o6 0)).toNat IntKind.u64.bits)) ||| BitVec.ofInt IntKind.u64.bits (x1.fdiv (2 ^ min (IntKind.u64.wrap (64 - IntKind.u64.wrap (gA o6 0))).toNat IntKind.u64.bits))).toNat : Int)).tdiv ((IntKind.u64.wrap (x2 * 2 ^ min (IntKind.u64.wrap (gA o6 0)).toNat IntKind.u64.bits)).fdiv (2 ^ min (Int.toNat 32) IntKind.u64.bits))) * (IntKind.u64.wrap (x2 * 2 ^ min (IntKind.u64.wrap (gA o6 0)).toNat IntKind.u64.bits)).fdiv (2 ^ min (Int.toNat 32) IntKind.u64.bits))))]).bind fun o7 =>
 bif o7.1.beq 1 then
 bif decide (gA o7.2 2 = 0) then
 none
 else
 (N24 [U (gA o7.2 0), U (gA o7.2 1), U (gA o7.2 2), U (gA o7.2 3), U (gA o7.2 6), U (gA o7.2 7), U (IntKind.u64.wrap (IntKind.u64.wrap (IntKind.u64.wrap (IntKind.u64.wrap (gA o7.2 4 * 4294967296) + gA o7.2 5) - IntKind.u64.wrap (gA o7.2 7 * gA o7.2 0)) - IntKind.u64.wrap (IntKind.u64.wrap ((IntKind.u64.wrap (IntKind.u64.wrap (IntKind.u64.wrap (gA o7.2 4 * 4294967296) + gA o7.2 5) - IntKind.u64.wrap (gA o7.2 7 * gA o7.2 0))).tdiv (gA o7.2 2)) * gA o7.2 2))), U (IntKind.u64.wrap (IntKind.u64.wrap (IntKind.u64.wrap (gA o7.2 4 * 4294967296) + gA o7.2 5) - IntKind.u64.wrap (gA o7.2 7 * gA o7.2 0))), U (IntKind.u64.wrap ((IntKind.u64.wrap (IntKind.u64.wrap (IntKind.u64.wrap (gA o7.2 4 * 4294967296) + gA o7.2 5) - IntKind.u64.wrap (gA o7.2 7 * gA o7.2 0))).tdiv (gA o7.2 2)))]).bind fun o8 =>
 bif o8.1.beq 1 then
 bif decide (gA o8.2 1 < 0) then
 none
 else
 some [U (IntKind.u64.wrap (IntKind.u64.wrap (gA o8.2 3 * 4294967296) + gA o8.2 5)), U ((IntKind.u64.wrap (IntKind.u64.wrap (IntKind.u64.wrap (gA o8.2 4 * 4294967296) + gA o8.2 2) - IntKind.u64.wrap (gA o8.2 5 * gA o8.2 0))).fdiv (2 ^ min (gA o8.2 1).toNat IntKind.u64.bits))]
 else
 none
 else
 none := by kernel_rfl
def l_bits_Div64_17 := loopC (st_bits_Div64_17 m_bits_LeadingZeros64 )
def l_bits_Div64_24 := loopC (st_bits_Div64_24 m_bits_LeadingZeros64 l_bits_Div64_17)
def m_bits_Div64 := mf_bits_Div64 m_bits_LeadingZeros64 l_bits_Div64_17 l_bits_Div64_24
theorem sp_bits_Div64 : SpecOK Tryz.prog (C_bits_Div64_0 m_bits_LeadingZeros64) := specOK_of rfl ⟨r_bits_LeadingZeros64, trivial⟩
theorem r_bits_Div64 : RowOK Tryz.prog (102, spOf sig_bits_Div64 osig_bits_Div64 m_bits_Div64) := row_of (C := (C_bits_Div64_2 m_bits_LeadingZeros64 l_bits_Div64_17 l_bits_Div64_24)) (L := 64) (by kernel_rfl) (((FnOK.bare rfl rfl rfl).loop sp_bits_Div64 eqOk mixOk (by kernel_rfl) (by kernel_rfl)).loop sp_bits_Div64 eqOk mixOk (by kernel_rfl) (by kernel_rfl)) sp_bits_Div64 eqOk mixOk (by kernel_rfl) (by kernel_rfl)
def sig_wide_product : Sk := { tmps := [tf [CS.int .u64], tf [CS.int .u64]], boxes := [], rows := [] }
def osig_wide_product : Sk := { tmps := [TS.v true [CS.int .u64, CS.int .u64]], boxes := [], rows := [] }
def C_wide_product_0 (M_bits_Mul64 : Fn) : Cfg := { spec := lookS [(121, spOf sig_bits_Mul64 osig_bits_Mul64 M_bits_Mul64)], eqOk := eqAll, ownOff := ownOff }
def mf_wide_product (M_bits_Mul64 : Fn) : Fn := modelF Tryz.prog (C_wide_product_0 M_bits_Mul64) 64 100 sig_wide_product osig_wide_product
theorem mf_wide_product_eq (M_bits_Mul64 : Fn) (x0 x1 : Int) : mf_wide_product M_bits_Mul64 [U x0, U x1] =
 (M_bits_Mul64 [U x0, U x1]).bind fun o1 =>
 some [U (gA o1 0), U (gA o1 1)] := by kernel_rfl
def m_wide_product := mf_wide_product m_bits_Mul64 
theorem sp_wide_product : SpecOK Tryz.prog (C_wide_product_0 m_bits_Mul64) := specOK_of rfl ⟨r_bits_Mul64, trivial⟩
theorem r_wide_product : RowOK Tryz.prog (100, spOf sig_wide_product osig_wide_product m_wide_product) := row_of (C := (C_wide_product_0 m_bits_Mul64)) (L := 64) (by kernel_rfl) (FnOK.bare rfl rfl rfl) sp_wide_product eqOk mixOk (by kernel_rfl) (by kernel_rfl)
def sig_wide_size : Sk := { tmps := [tf [ci]], boxes := [], rows := [] }
def osig_wide_size : Sk := { tmps := [tf [CS.int .u64]], boxes := [], rows := [] }
def C_wide_size_0 : Cfg := { spec := lookS [], eqOk := eqAll, ownOff := ownOff }
def mf_wide_size : Fn := modelF Tryz.prog C_wide_size_0 64 101 sig_wide_size osig_wide_size
theorem mf_wide_size_eq (x0 : Int) : mf_wide_size [I x0] =
 bif decide (x0 < 0) then
 some [U (IntKind.u64.wrap (IntKind.u64.wrap (IntKind.i64.wrap (0 - IntKind.i64.wrap (x0 + 1))) + 1))]
 else
 some [U (IntKind.u64.wrap x0)] := by kernel_rfl
def m_wide_size := mf_wide_size 
theorem sp_wide_size : SpecOK Tryz.prog (C_wide_size_0 ) := specOK_of rfl trivial
theorem r_wide_size : RowOK Tryz.prog (101, spOf sig_wide_size osig_wide_size m_wide_size) := row_of (C := C_wide_size_0) (L := 64) (by kernel_rfl) (FnOK.bare rfl rfl rfl) sp_wide_size eqOk mixOk (by kernel_rfl) (by kernel_rfl)
def sig_wide_known : Sk := { tmps := [tf [ci]], boxes := [], rows := [] }
def osig_wide_known : Sk := { tmps := [tf [CS.bool]], boxes := [], rows := [] }
def C_wide_known_0 : Cfg := { spec := lookS [], eqOk := eqAll, ownOff := ownOff }
def mf_wide_known : Fn := modelF Tryz.prog C_wide_known_0 64 99 sig_wide_known osig_wide_known
theorem mf_wide_known_eq (x0 : Int) : mf_wide_known [I x0] =
 bif x0 == 0 then
 some [B true]
 else
 bif x0 == 1 then
 some [B true]
 else
 some [B (x0 == 2)] := by kernel_rfl
def m_wide_known := mf_wide_known 
theorem sp_wide_known : SpecOK Tryz.prog (C_wide_known_0 ) := specOK_of rfl trivial
theorem r_wide_known : RowOK Tryz.prog (99, spOf sig_wide_known osig_wide_known m_wide_known) := row_of (C := C_wide_known_0) (L := 64) (by kernel_rfl) (FnOK.bare rfl rfl rfl) sp_wide_known eqOk mixOk (by kernel_rfl) (by kernel_rfl)
def sig_wide_MulDiv : Sk := { tmps := [tf [ci], tf [ci], tf [ci], tf [ci]], boxes := [], rows := [] }
def osig_wide_MulDiv : Sk := { tmps := [TS.tup [(false, [ci]), (false, [CS.bool])]], boxes := [], rows := [] }
def C_wide_MulDiv_0 (M_wide_signed M_wide_grows M_wide_sign M_bits_Div64 M_wide_product M_wide_size M_wide_known : Fn) : Cfg := { spec := lookS [(105, spOf sig_wide_signed osig_wide_signed M_wide_signed), (104, spOf sig_wide_grows osig_wide_grows M_wide_grows), (103, spOf sig_wide_sign osig_wide_sign M_wide_sign), (102, spOf sig_bits_Div64 osig_bits_Div64 M_bits_Div64), (100, spOf sig_wide_product osig_wide_product M_wide_product), (101, spOf sig_wide_size osig_wide_size M_wide_size), (99, spOf sig_wide_known osig_wide_known M_wide_known)], eqOk := eqAll, ownOff := ownOff }
def mf_wide_MulDiv (M_wide_signed M_wide_grows M_wide_sign M_bits_Div64 M_wide_product M_wide_size M_wide_known : Fn) : Fn := modelF Tryz.prog (C_wide_MulDiv_0 M_wide_signed M_wide_grows M_wide_sign M_bits_Div64 M_wide_product M_wide_size M_wide_known) 64 70 sig_wide_MulDiv osig_wide_MulDiv
theorem mf_wide_MulDiv_eq (M_wide_signed M_wide_grows M_wide_sign M_bits_Div64 M_wide_product M_wide_size M_wide_known : Fn) (x0 x1 x2 x3 : Int) : mf_wide_MulDiv M_wide_signed M_wide_grows M_wide_sign M_bits_Div64 M_wide_product M_wide_size M_wide_known [I x0, I x1, I x2, I x3] =
 bif x2 == 0 then
 some [I 0, B false]
 else
 (M_wide_known [I x3]).bind fun o26 =>
 bif !bA o26 0 then
 some [I 0, B false]
 else
 (M_wide_size [I x0]).bind fun o27 =>
 (M_wide_size [I x1]).bind fun o28 =>
 (M_wide_product [U (gA o27 0), U (gA o28 0)]).bind fun o29 =>
 (M_wide_size [I x2]).bind fun o30 =>
 bif decide (gA o29 0 >= gA o30 0) then
 some [I 0, B false]
 else
 (M_bits_Div64 [U (gA o29 0), U (gA o29 1), U (gA o30 0)]).bind fun o31 =>
 (M_wide_sign [I x0, I x1]).bind fun o32 =>
 bif !decide (gA o32 0 < 0) == decide (x2 < 0) then
 (M_wide_sign [I x0, I x1]).bind fun o33 =>
 bif decide (gA o31 1 > IntKind.u64.wrap (gA o30 0 - gA o31 1)) then
 (M_wide_grows [I x3, I 1, B (decide (gA o31 1 > 0)), B (gA o33 0 != 0)]).bind fun o34 =>
 bif bA o34 0 then
 bif IntKind.u64.wrap (gA o31 0 + 1) == 0 then
 some [I 0, B false]
 else
 (M_wide_signed [U (IntKind.u64.wrap (gA o31 0 + 1)), B (gA o33 0 != 0)]).bind fun o35 =>
 some [jA o35 0, B (bA o35 1)]
 else
 (M_wide_signed [U (gA o31 0), B (gA o33 0 != 0)]).bind fun o36 =>
 some [jA o36 0, B (bA o36 1)]
 else
 bif decide (gA o31 1 < IntKind.u64.wrap (gA o30 0 - gA o31 1)) then
 (M_wide_grows [I x3, I (-1), B (decide (gA o31 1 > 0)), B (gA o33 0 != 0)]).bind fun o37 =>
 bif bA o37 0 then
 bif IntKind.u64.wrap (gA o31 0 + 1) == 0 then
 some [I 0, B false]
 else
 (M_wide_signed [U (IntKind.u64.wrap (gA o31 0 + 1)), B (gA o33 0 != 0)]).bind fun o38 =>
 some [jA o38 0, B (bA o38 1)]
 else
 (M_wide_signed [U (gA o31 0), B (gA o33 0 != 0)]).bind fun o39 =>
 some [jA o39 0, B (bA o39 1)]
 else
 (M_wide_grows [I x3, I 0, B (decide (gA o31 1 > 0)), B (gA o33 0 != 0)]).bind fun o40 =>
 bif bA o40 0 then
 bif IntKind.u64.wrap (gA o31 0 + 1) == 0 then
 some [I 0, B false]
 else
 (M_wide_signed [U (IntKind.u64.wrap (gA o31 0 + 1)), B (gA o33 0 != 0)]).bind fun o41 =>
 some [jA o41 0, B (bA o41 1)]
 else
 (M_wide_signed [U (gA o31 0), B (gA o33 0 != 0)]).bind fun o42 =>
 some [jA o42 0, B (bA o42 1)]
 else
 bif decide (gA o31 1 > IntKind.u64.wrap (gA o30 0 - gA o31 1)) then
 (M_wide_grows [I x3, I 1, B (decide (gA o31 1 > 0)), B false]).bind fun o43 =>
 bif bA o43 0 then
 bif IntKind.u64.wrap (gA o31 0 + 1) == 0 then
 some [I 0, B false]
 else
 (M_wide_signed [U (IntKind.u64.wrap (gA o31 0 + 1)), B false]).bind fun o44 =>
 some [jA o44 0, B (bA o44 1)]
 else
 (M_wide_signed [U (gA o31 0), B false]).bind fun o45 =>
 some [jA o45 0, B (bA o45 1)]
 else
 bif decide (gA o31 1 < IntKind.u64.wrap (gA o30 0 - gA o31 1)) then
 (M_wide_grows [I x3, I (-1), B (decide (gA o31 1 > 0)), B false]).bind fun o46 =>
 bif bA o46 0 then
 bif IntKind.u64.wrap (gA o31 0 + 1) == 0 then
 some [I 0, B false]
 else
 (M_wide_signed [U (IntKind.u64.wrap (gA o31 0 + 1)), B false]).bind fun o47 =>
 some [jA o47 0, B (bA o47 1)]
 else
 (M_wide_signed [U (gA o31 0), B false]).bind fun o48 =>
 some [jA o48 0, B (bA o48 1)]
 else
 (M_wide_grows [I x3, I 0, B (decide (gA o31 1 > 0)), B false]).bind fun o49 =>
 bif bA o49 0 then
 bif IntKind.u64.wrap (gA o31 0 + 1) == 0 then
 some [I 0, B false]
 else
 (M_wide_signed [U (IntKind.u64.wrap (gA o31 0 + 1)), B false]).bind fun o50 =>
 some [jA o50 0, B (bA o50 1)]
 else
 (M_wide_signed [U (gA o31 0), B false]).bind fun o51 =>
 some [jA o51 0, B (bA o51 1)] := by kernel_rfl
def m_wide_MulDiv := mf_wide_MulDiv m_wide_signed m_wide_grows m_wide_sign m_bits_Div64 m_wide_product m_wide_size m_wide_known 
theorem sp_wide_MulDiv : SpecOK Tryz.prog (C_wide_MulDiv_0 m_wide_signed m_wide_grows m_wide_sign m_bits_Div64 m_wide_product m_wide_size m_wide_known) := specOK_of rfl ⟨r_wide_signed, r_wide_grows, r_wide_sign, r_bits_Div64, r_wide_product, r_wide_size, r_wide_known, trivial⟩
theorem r_wide_MulDiv : RowOK Tryz.prog (70, spOf sig_wide_MulDiv osig_wide_MulDiv m_wide_MulDiv) := row_of (C := (C_wide_MulDiv_0 m_wide_signed m_wide_grows m_wide_sign m_bits_Div64 m_wide_product m_wide_size m_wide_known)) (L := 64) (by kernel_rfl) (FnOK.bare rfl rfl rfl) sp_wide_MulDiv eqOk mixOk (by kernel_rfl) (by kernel_rfl)
def sig_pitch_Correct : Sk := { tmps := [TS.v true [ci, ci, ci, ci, ci, ci, ci, ci, ci, CS.sl kInts], tf [ci]], boxes := [], rows := [] }
def osig_pitch_Correct : Sk := { tmps := [tf [ci]], boxes := [], rows := [] }
def C_pitch_Correct_0 (M_wide_MulDiv : Fn) : Cfg := { spec := lookS [(70, spOf sig_wide_MulDiv osig_wide_MulDiv M_wide_MulDiv)], eqOk := eqAll, ownOff := ownOff }
def mf_pitch_Correct (M_wide_MulDiv : Fn) : Fn := modelF Tryz.prog (C_pitch_Correct_0 M_wide_MulDiv) 64 96 sig_pitch_Correct osig_pitch_Correct
theorem mf_pitch_Correct_eq (M_wide_MulDiv : Fn) (x0 x1 x2 x3 x4 x5 x6 x7 x8 : Int) (x9 : Rw) (x10 : Int) : mf_pitch_Correct M_wide_MulDiv [I x0, I x1, I x2, I x3, I x4, I x5, I x6, I x7, I x8, .view kInts x9, I x10] =
 bif decide (IntKind.i64.wrap ((x9.length : Int) - 1) < 0) then
 some [I 0]
 else
 bif decide (IntKind.i64.wrap (x10 - x7) <= 0) then
 bif decide (0 <= 0) && decide (0 < (x9.length : Int)) then
 some [jA (nth [] x9 0) 0]
 else
 none
 else
 bif decide (x8 <= 0) then
 bif decide (0 <= 0) && decide (0 < (x9.length : Int)) then
 some [jA (nth [] x9 0) 0]
 else
 none
 else
 bif decide (x8 = 0) then
 none
 else
 bif decide (IntKind.i64.wrap ((IntKind.i64.wrap (x10 - x7)).tdiv x8) >= IntKind.i64.wrap ((x9.length : Int) - 1)) then
 bif decide (0 <= IntKind.i64.wrap ((x9.length : Int) - 1)) && decide (IntKind.i64.wrap ((x9.length : Int) - 1) < (x9.length : Int)) then
 some [jA (nth [] x9 (IntKind.i64.wrap ((x9.length : Int) - 1)).toNat) 0]
 else
 none
 else
 bif decide (0 <= IntKind.i64.wrap (IntKind.i64.wrap ((IntKind.i64.wrap (x10 - x7)).tdiv x8) + 1)) && decide (IntKind.i64.wrap (IntKind.i64.wrap ((IntKind.i64.wrap (x10 - x7)).tdiv x8) + 1) < (x9.length : Int)) then
 bif decide (0 <= IntKind.i64.wrap ((IntKind.i64.wrap (x10 - x7)).tdiv x8)) && decide (IntKind.i64.wrap ((IntKind.i64.wrap (x10 - x7)).tdiv x8) < (x9.length : Int)) then
 (M_wide_MulDiv [I (IntKind.i64.wrap (intOf (nth .dead (nth [] x9 (IntKind.i64.wrap (IntKind.i64.wrap ((IntKind.i64.wrap (x10 - x7)).tdiv x8) + 1)).toNat) 0) - intOf (nth .dead (nth [] x9 (IntKind.i64.wrap ((IntKind.i64.wrap (x10 - x7)).tdiv x8)).toNat) 0))), I (IntKind.i64.wrap (IntKind.i64.wrap (x10 - x7) - IntKind.i64.wrap (IntKind.i64.wrap ((IntKind.i64.wrap (x10 - x7)).tdiv x8) * x8))), I x8, I 2]).bind fun o1 =>
 bif decide (0 <= IntKind.i64.wrap ((IntKind.i64.wrap (x10 - x7)).tdiv x8)) && decide (IntKind.i64.wrap ((IntKind.i64.wrap (x10 - x7)).tdiv x8) < (x9.length : Int)) then
 some [I (IntKind.i64.wrap (intOf (nth .dead (nth [] x9 (IntKind.i64.wrap ((IntKind.i64.wrap (x10 - x7)).tdiv x8)).toNat) 0) + gA o1 0))]
 else
 none
 else
 none
 else
 none := by kernel_rfl
def m_pitch_Correct := mf_pitch_Correct m_wide_MulDiv 
theorem sp_pitch_Correct : SpecOK Tryz.prog (C_pitch_Correct_0 m_wide_MulDiv) := specOK_of rfl ⟨r_wide_MulDiv, trivial⟩
theorem r_pitch_Correct : RowOK Tryz.prog (96, spOf sig_pitch_Correct osig_pitch_Correct m_pitch_Correct) := row_of (C := (C_pitch_Correct_0 m_wide_MulDiv)) (L := 64) (by kernel_rfl) (FnOK.bare rfl rfl rfl) sp_pitch_Correct eqOk mixOk (by kernel_rfl) (by kernel_rfl)
def sig_pitch_Motor : Sk := { tmps := [TS.v true [ci, ci, ci, ci, ci, ci, ci, ci, ci, CS.sl kInts], tf [ci]], boxes := [], rows := [] }
def osig_pitch_Motor : Sk := { tmps := [tf [ci]], boxes := [], rows := [] }
def C_pitch_Motor_0 (M_axis_Steps M_pitch_Correct : Fn) : Cfg := { spec := lookS [(95, spOf sig_axis_Steps osig_axis_Steps M_axis_Steps), (96, spOf sig_pitch_Correct osig_pitch_Correct M_pitch_Correct)], eqOk := eqAll, ownOff := ownOff }
def mf_pitch_Motor (M_axis_Steps M_pitch_Correct : Fn) : Fn := modelF Tryz.prog (C_pitch_Motor_0 M_axis_Steps M_pitch_Correct) 64 52 sig_pitch_Motor osig_pitch_Motor
theorem mf_pitch_Motor_eq (M_axis_Steps M_pitch_Correct : Fn) (x0 x1 x2 x3 x4 x5 x6 x7 x8 : Int) (x9 : Rw) (x10 : Int) : mf_pitch_Motor M_axis_Steps M_pitch_Correct [I x0, I x1, I x2, I x3, I x4, I x5, I x6, I x7, I x8, .view kInts x9, I x10] =
 (M_pitch_Correct [I x0, I x1, I x2, I x3, I x4, I x5, I x6, I x7, I x8, .view kInts x9, I x10]).bind fun o2 =>
 (M_axis_Steps [I x0, I x1, I x2, I x3, I x4, I x5, I x6, I x7, I x8, .view kInts x9, I (IntKind.i64.wrap (x10 + gA o2 0))]).bind fun o3 =>
 some [jA o3 0] := by kernel_rfl
def m_pitch_Motor := mf_pitch_Motor m_axis_Steps m_pitch_Correct 
theorem sp_pitch_Motor : SpecOK Tryz.prog (C_pitch_Motor_0 m_axis_Steps m_pitch_Correct) := specOK_of rfl ⟨r_axis_Steps, r_pitch_Correct, trivial⟩
theorem r_pitch_Motor : RowOK Tryz.prog (52, spOf sig_pitch_Motor osig_pitch_Motor m_pitch_Motor) := row_of (C := (C_pitch_Motor_0 m_axis_Steps m_pitch_Correct)) (L := 64) (by kernel_rfl) (FnOK.bare rfl rfl rfl) sp_pitch_Motor eqOk mixOk (by kernel_rfl) (by kernel_rfl)
def sig_track_find : Sk := { tmps := [TS.v true [CS.sl kPce, ci, ci, ci, ci, ci], tf [ci]], boxes := [], rows := [] }
def osig_track_find : Sk := { tmps := [tf [ci]], boxes := [], rows := [] }
def C_track_find_0 : Cfg := { spec := lookS [], eqOk := eqAll, ownOff := ownOff }
def sk_track_find_2 : Sk := { tmps := [td, tf [ci], tf [CS.ptr 2 0], td, td, tf [ci], tf [ci]] ++ dd 29, boxes := [(2, 35, [CS.sl kPce, ci, ci, ci, ci, ci])], rows := [] }
def ex_track_find_2 : List (Ex × Sk) := [(Ex.exit 0, { tmps := [td, td, td, td, td, td, tf [ci]] ++ dd 29, boxes := [], rows := [] })]
def st_track_find_2 : Lp := stepL Tryz.prog C_track_find_0 64 2 (bodyOf Tryz.prog 51 2) sk_track_find_2 ex_track_find_2
def C_track_find_1 (N2 : Lp) : Cfg := C_track_find_0.loop 2 sk_track_find_2 ex_track_find_2 N2
def mf_track_find (N2 : Lp) : Fn := modelF Tryz.prog (C_track_find_1 N2) 64 51 sig_track_find osig_track_find
theorem st_track_find_2_eq (v0 v1 v2 : Int) (v3 : Rw) (v4 v5 v6 v7 v8 : Int) : st_track_find_2 [I v0, I v1, I v2, .view kPce v3, I v4, I v5, I v6, I v7, I v8] =
 bif decide (v1 < v2) then
 bif decide (0 <= IntKind.i64.wrap ((IntKind.i64.wrap (v1 + v2)).tdiv 2)) && decide (IntKind.i64.wrap ((IntKind.i64.wrap (v1 + v2)).tdiv 2) < (v3.length : Int)) then
 bif decide (v0 <= IntKind.i64.wrap (intOf (nth .dead (nth [] v3 (IntKind.i64.wrap ((IntKind.i64.wrap (v1 + v2)).tdiv 2)).toNat) 0) + intOf (nth .dead (nth [] v3 (IntKind.i64.wrap ((IntKind.i64.wrap (v1 + v2)).tdiv 2)).toNat) 1))) then
 some (0, [I v0, I v1, I (IntKind.i64.wrap ((IntKind.i64.wrap (v1 + v2)).tdiv 2)), .view kPce v3, I v4, I v5, I v6, I v7, I v8])
 else
 some (0, [I v0, I (IntKind.i64.wrap (IntKind.i64.wrap ((IntKind.i64.wrap (v1 + v2)).tdiv 2) + 1)), I v2, .view kPce v3, I v4, I v5, I v6, I v7, I v8])
 else
 none
 else
 some (1, [I v2]) := by kernel_rfl
theorem mf_track_find_eq (N2 : Lp) (x0 : Rw) (x1 x2 x3 x4 x5 x6 : Int) : mf_track_find N2 [.view kPce x0, I x1, I x2, I x3, I x4, I x5, I x6] =
 (N2 [I x6, I 0, I (IntKind.i64.wrap ((x0.length : Int) - 1)), .view kPce x0, I x1, I x2, I x3, I x4, I x5]).bind fun o1 =>
 bif o1.1.beq 1 then
 some [jA o1.2 0]
 else
 none := by kernel_rfl
def l_track_find_2 := loopC (st_track_find_2 )
def m_track_find := mf_track_find l_track_find_2
theorem sp_track_find : SpecOK Tryz.prog (C_track_find_0 ) := specOK_of rfl trivial
theorem r_track_find : RowOK Tryz.prog (51, spOf sig_track_find osig_track_find m_track_find) := row_of (C := (C_track_find_1 l_track_find_2)) (L := 64) (by kernel_rfl) ((FnOK.bare rfl rfl rfl).loop sp_track_find eqOk mixOk (by kernel_rfl) (by kernel_rfl)) sp_track_find eqOk mixOk (by kernel_rfl) (by kernel_rfl)
def sig_path_Find : Sk := { tmps := [TS.v true [ci, ci, ci, CS.sl kSgm, CS.sl kPt], tf [ci]], boxes := [], rows := [] }
def osig_path_Find : Sk := { tmps := [TS.tup [(false, [ci]), (false, [ci])]], boxes := [], rows := [] }
def C_path_Find_0 : Cfg := { spec := lookS [], eqOk := eqAll, ownOff := ownOff }
def sk_path_Find_3 : Sk := { tmps := [td, tf [ci], tf [CS.ptr 2 0], td, td, td, td, td, td, td, td, tf [CS.sl kSgm], tf [ci], tf [ci]] ++ dd 24, boxes := [(2, 29, [ci, ci, ci, CS.sl kSgm, CS.sl kPt])], rows := [] }
def ex_path_Find_3 : List (Ex × Sk) := [(Ex.ret, { tmps := [td, td, td, td, tf [ci], tf [ci]] ++ dd 32, boxes := [], rows := [] }), (Ex.exit 0, { tmps := [td] ++ dd 37, boxes := [], rows := [] })]
def st_path_Find_3 : Lp := stepL Tryz.prog C_path_Find_0 64 3 (bodyOf Tryz.prog 36 3) sk_path_Find_3 ex_path_Find_3
def C_path_Find_1 (N3 : Lp) : Cfg := C_path_Find_0.loop 3 sk_path_Find_3 ex_path_Find_3 N3
def mf_path_Find (N3 : Lp) : Fn := modelF Tryz.prog (C_path_Find_1 N3) 64 36 sig_path_Find osig_path_Find
theorem st_path_Find_3_eq (v0 : Int) (v1 : Rw) (v2 v3 v4 v5 v6 : Int) (v7 v8 : Rw) : st_path_Find_3 [I v0, .view kSgm v1, I v2, I v3, I v4, I v5, I v6, .view kSgm v7, .view kPt v8] =
 bif decide (v3 < v2) then
 bif decide (0 <= v3) && decide (v3 < (v1.length : Int)) then
 bif decide (v0 < gA (nth [] v1 v3.toNat) 3) then
 some (1, [I v3, I v0])
 else
 bif v3 == IntKind.i64.wrap ((v7.length : Int) - 1) then
 some (1, [I v3, jA (nth [] v1 v3.toNat) 3])
 else
 some (0, [I (IntKind.i64.wrap (v0 - gA (nth [] v1 v3.toNat) 3)), .view kSgm v1, I v2, I (IntKind.i64.wrap (v3 + 1)), I v4, I v5, I v6, .view kSgm v7, .view kPt v8])
 else
 none
 else
 some (2, []) := by kernel_rfl
theorem mf_path_Find_eq (N3 : Lp) (x0 x1 x2 : Int) (x3 x4 : Rw) (x5 : Int) : mf_path_Find N3 [I x0, I x1, I x2, .view kSgm x3, .view kPt x4, I x5] =
 (N3 [I (mx x5 0), .view kSgm x3, I (x3.length : Int), I 0, I x0, I x1, I x2, .view kSgm x3, .view kPt x4]).bind fun o1 =>
 bif o1.1.beq 1 then
 some [jA o1.2 0, jA o1.2 1]
 else
 bif o1.1.beq 2 then
 some [I (-1), I 0]
 else
 none := by kernel_rfl
def l_path_Find_3 := loopC (st_path_Find_3 )
def m_path_Find := mf_path_Find l_path_Find_3
theorem sp_path_Find : SpecOK Tryz.prog (C_path_Find_0 ) := specOK_of rfl trivial
theorem r_path_Find : RowOK Tryz.prog (36, spOf sig_path_Find osig_path_Find m_path_Find) := row_of (C := (C_path_Find_1 l_path_Find_3)) (L := 64) (by kernel_rfl) ((FnOK.bare rfl rfl rfl).loop sp_path_Find eqOk mixOk (by kernel_rfl) (by kernel_rfl)) sp_path_Find eqOk mixOk (by kernel_rfl) (by kernel_rfl)
def sig_path_At : Sk := { tmps := [TS.v true [ci, ci, ci, CS.sl kSgm, CS.sl kPt], tf [ci]], boxes := [], rows := [] }
def osig_path_At : Sk := { tmps := [TS.v true [ci, ci, ci]], boxes := [], rows := [] }
def C_path_At_0 (M_wide_MulDiv M_path_Find : Fn) : Cfg := { spec := lookS [(70, spOf sig_wide_MulDiv osig_wide_MulDiv M_wide_MulDiv), (36, spOf sig_path_Find osig_path_Find M_path_Find)], eqOk := eqAll, ownOff := ownOff, unroll := [9] }
def mf_path_At (M_wide_MulDiv M_path_Find : Fn) : Fn := modelF Tryz.prog (C_path_At_0 M_wide_MulDiv M_path_Find) 64 38 sig_path_At osig_path_At
theorem mf_path_At_eq (M_wide_MulDiv M_path_Find : Fn) (x0 x1 x2 : Int) (x3 x4 : Rw) (x5 : Int) : mf_path_At M_wide_MulDiv M_path_Find [I x0, I x1, I x2, .view kSgm x3, .view kPt x4, I x5] =
 (M_path_Find [I x0, I x1, I x2, .view kSgm x3, .view kPt x4, I x5]).bind fun o7 =>
 bif decide (gA o7 0 < 0) then
 some [I x0, I x1, I x2]
 else
 bif decide (gA o7 0 > 0) then
 bif decide (0 <= IntKind.i64.wrap (gA o7 0 - 1)) && decide (IntKind.i64.wrap (gA o7 0 - 1) < (x3.length : Int)) then
 bif decide (0 <= gA o7 0) && decide (gA o7 0 < (x3.length : Int)) then
 (M_wide_MulDiv [I (IntKind.i64.wrap (gA (nth [] x3 (gA o7 0).toNat) 0 - gA (nth [] x3 (IntKind.i64.wrap (gA o7 0 - 1)).toNat) 0)), jA o7 1, jA (nth [] x3 (gA o7 0).toNat) 3, I 2]).bind fun o8 =>
 (M_wide_MulDiv [I (IntKind.i64.wrap (gA (nth [] x3 (gA o7 0).toNat) 1 - gA (nth [] x3 (IntKind.i64.wrap (gA o7 0 - 1)).toNat) 1)), jA o7 1, jA (nth [] x3 (gA o7 0).toNat) 3, I 2]).bind fun o9 =>
 (M_wide_MulDiv [I (IntKind.i64.wrap (gA (nth [] x3 (gA o7 0).toNat) 2 - gA (nth [] x3 (IntKind.i64.wrap (gA o7 0 - 1)).toNat) 2)), jA o7 1, jA (nth [] x3 (gA o7 0).toNat) 3, I 2]).bind fun o10 =>
 some [I (IntKind.i64.wrap (gA (nth [] x3 (IntKind.i64.wrap (gA o7 0 - 1)).toNat) 0 + gA o8 0)), I (IntKind.i64.wrap (gA (nth [] x3 (IntKind.i64.wrap (gA o7 0 - 1)).toNat) 1 + gA o9 0)), I (IntKind.i64.wrap (gA (nth [] x3 (IntKind.i64.wrap (gA o7 0 - 1)).toNat) 2 + gA o10 0))]
 else
 none
 else
 none
 else
 bif decide (0 <= gA o7 0) && decide (gA o7 0 < (x3.length : Int)) then
 (M_wide_MulDiv [I (IntKind.i64.wrap (gA (nth [] x3 (gA o7 0).toNat) 0 - x0)), jA o7 1, jA (nth [] x3 (gA o7 0).toNat) 3, I 2]).bind fun o11 =>
 (M_wide_MulDiv [I (IntKind.i64.wrap (gA (nth [] x3 (gA o7 0).toNat) 1 - x1)), jA o7 1, jA (nth [] x3 (gA o7 0).toNat) 3, I 2]).bind fun o12 =>
 (M_wide_MulDiv [I (IntKind.i64.wrap (gA (nth [] x3 (gA o7 0).toNat) 2 - x2)), jA o7 1, jA (nth [] x3 (gA o7 0).toNat) 3, I 2]).bind fun o13 =>
 some [I (IntKind.i64.wrap (x0 + gA o11 0)), I (IntKind.i64.wrap (x1 + gA o12 0)), I (IntKind.i64.wrap (x2 + gA o13 0))]
 else
 none := by kernel_rfl
def m_path_At := mf_path_At m_wide_MulDiv m_path_Find 
theorem sp_path_At : SpecOK Tryz.prog (C_path_At_0 m_wide_MulDiv m_path_Find) := specOK_of rfl ⟨r_wide_MulDiv, r_path_Find, trivial⟩
theorem r_path_At : RowOK Tryz.prog (38, spOf sig_path_At osig_path_At m_path_At) := row_of (C := (C_path_At_0 m_wide_MulDiv m_path_Find)) (L := 64) (by kernel_rfl) (FnOK.bare rfl rfl rfl) sp_path_At eqOk mixOk (by kernel_rfl) (by kernel_rfl)
def sig_track_clamp : Sk := { tmps := [tf [ci], tf [ci]], boxes := [], rows := [] }
def osig_track_clamp : Sk := { tmps := [tf [ci]], boxes := [], rows := [] }
def C_track_clamp_0 : Cfg := { spec := lookS [], eqOk := eqAll, ownOff := ownOff }
def mf_track_clamp : Fn := modelF Tryz.prog C_track_clamp_0 64 50 sig_track_clamp osig_track_clamp
theorem mf_track_clamp_eq (x0 x1 : Int) : mf_track_clamp [I x0, I x1] =
 some [I (mx 0 (mn x0 x1))] := by kernel_rfl
def m_track_clamp := mf_track_clamp 
theorem sp_track_clamp : SpecOK Tryz.prog (C_track_clamp_0 ) := specOK_of rfl trivial
theorem r_track_clamp : RowOK Tryz.prog (50, spOf sig_track_clamp osig_track_clamp m_track_clamp) := row_of (C := C_track_clamp_0) (L := 64) (by kernel_rfl) (FnOK.bare rfl rfl rfl) sp_track_clamp eqOk mixOk (by kernel_rfl) (by kernel_rfl)
def sig_track_Place : Sk := { tmps := [TS.v true [CS.sl kPce, ci, ci, ci, ci, ci], tf [ci]], boxes := [], rows := [] }
def osig_track_Place : Sk := { tmps := [tf [ci]], boxes := [], rows := [] }
def C_track_Place_0 (M_track_find M_track_clamp : Fn) : Cfg := { spec := lookS [(51, spOf sig_track_find osig_track_find M_track_find), (50, spOf sig_track_clamp osig_track_clamp M_track_clamp)], eqOk := eqAll, ownOff := ownOff }
def mf_track_Place (M_track_find M_track_clamp : Fn) : Fn := modelF Tryz.prog (C_track_Place_0 M_track_find M_track_clamp) 64 21 sig_track_Place osig_track_Place
theorem mf_track_Place_eq (M_track_find M_track_clamp : Fn) (x0 : Rw) (x1 x2 x3 x4 x5 x6 : Int) : mf_track_Place M_track_find M_track_clamp [.view kPce x0, I x1, I x2, I x3, I x4, I x5, I x6] =
 (M_track_clamp [I x6, I x1]).bind fun o2 =>
 (M_track_find [.view kPce x0, I x1, I x2, I x3, I x4, I x5, jA o2 0]).bind fun o3 =>
 bif decide (gA o3 0 < 0) then
 some [I x2]
 else
 bif decide (0 <= gA o3 0) && decide (gA o3 0 < (x0.length : Int)) then
 bif decide (0 <= gA o3 0) && decide (gA o3 0 < (x0.length : Int)) then
 bif decide (0 <= gA o3 0) && decide (gA o3 0 < (x0.length : Int)) then
 some [I (IntKind.i64.wrap (gA (nth [] x0 (gA o3 0).toNat) 2 + IntKind.i64.wrap (gA (nth [] x0 (gA o3 0).toNat) 3 * IntKind.i64.wrap (gA o2 0 - gA (nth [] x0 (gA o3 0).toNat) 0))))]
 else
 none
 else
 none
 else
 none := by kernel_rfl
def m_track_Place := mf_track_Place m_track_find m_track_clamp 
theorem sp_track_Place : SpecOK Tryz.prog (C_track_Place_0 m_track_find m_track_clamp) := specOK_of rfl ⟨r_track_find, r_track_clamp, trivial⟩
theorem r_track_Place : RowOK Tryz.prog (21, spOf sig_track_Place osig_track_Place m_track_Place) := row_of (C := (C_track_Place_0 m_track_find m_track_clamp)) (L := 64) (by kernel_rfl) (FnOK.bare rfl rfl rfl) sp_track_Place eqOk mixOk (by kernel_rfl) (by kernel_rfl)
def sig_track_Motors : Sk := { tmps := [TS.v true [ci, ci, ci, CS.sl kSgm, CS.sl kPt], TS.v true [ci, ci, ci, ci, ci, ci, ci, ci, ci, CS.sl kInts, ci, ci, ci, ci, ci, ci, ci, ci, ci, CS.sl kInts, ci, ci, ci, ci, ci, ci, ci, ci, ci, CS.sl kInts], TS.v true [CS.sl kPce, ci, ci, ci, ci, ci], tf [ci]], boxes := [], rows := [] }
def osig_track_Motors : Sk := { tmps := [TS.v true [ci, ci, ci]], boxes := [], rows := [] }
def C_track_Motors_0 (M_track_shift M_backlash_Shift M_pitch_Motor M_track_find M_path_At M_track_Place M_track_clamp : Fn) : Cfg := { spec := lookS [(54, spOf sig_track_shift osig_track_shift M_track_shift), (53, spOf sig_backlash_Shift osig_backlash_Shift M_backlash_Shift), (52, spOf sig_pitch_Motor osig_pitch_Motor M_pitch_Motor), (51, spOf sig_track_find osig_track_find M_track_find), (38, spOf sig_path_At osig_path_At M_path_At), (21, spOf sig_track_Place osig_track_Place M_track_Place), (50, spOf sig_track_clamp osig_track_clamp M_track_clamp)], eqOk := eqAll, ownOff := ownOff, unroll := [6] }
def mf_track_Motors (M_track_shift M_backlash_Shift M_pitch_Motor M_track_find M_path_At M_track_Place M_track_clamp : Fn) : Fn := modelF Tryz.prog (C_track_Motors_0 M_track_shift M_backlash_Shift M_pitch_Motor M_track_find M_path_At M_track_Place M_track_clamp) 64 17 sig_track_Motors osig_track_Motors
theorem mf_track_Motors_eq (M_track_shift M_backlash_Shift M_pitch_Motor M_track_find M_path_At M_track_Place M_track_clamp : Fn) (x0 x1 x2 : Int) (x3 x4 : Rw) (x5 x6 x7 x8 x9 x10 x11 x12 x13 : Int) (x14 : Rw) (x15 x16 x17 x18 x19 x20 x21 x22 x23 : Int) (x24 : Rw) (x25 x26 x27 x28 x29 x30 x31 x32 x33 : Int) (x34 x35 : Rw) (x36 x37 x38 x39 x40 x41 : Int) : mf_track_Motors M_track_shift M_backlash_Shift M_pitch_Motor M_track_find M_path_At M_track_Place M_track_clamp [I x0, I x1, I x2, .view kSgm x3, .view kPt x4, I x5, I x6, I x7, I x8, I x9, I x10, I x11, I x12, I x13, .view kInts x14, I x15, I x16, I x17, I x18, I x19, I x20, I x21, I x22, I x23, .view kInts x24, I x25, I x26, I x27, I x28, I x29, I x30, I x31, I x32, I x33, .view kInts x34, .view kPce x35, I x36, I x37, I x38, I x39, I x40, I x41] =
 (M_track_clamp [I x41, I x36]).bind fun o25 =>
 (M_track_Place [.view kPce x35, I x36, I x37, I x38, I x39, I x40, jA o25 0]).bind fun o26 =>
 (M_path_At [I x0, I x1, I x2, .view kSgm x3, .view kPt x4, jA o26 0]).bind fun o27 =>
 (M_track_find [.view kPce x35, I x36, I x37, I x38, I x39, I x40, jA o25 0]).bind fun o28 =>
 (M_pitch_Motor [I x5, I x6, I x7, I x8, I x9, I x10, I x11, I x12, I x13, .view kInts x14, jA o27 0]).bind fun o29 =>
 bif decide (gA o28 0 < 0) then
 (M_backlash_Shift [I x5, I x6, I x7, I x8, I x9, I x10, I x11, I x12, I x13, .view kInts x14, I x38]).bind fun o30 =>
 (M_pitch_Motor [I x15, I x16, I x17, I x18, I x19, I x20, I x21, I x22, I x23, .view kInts x24, jA o27 1]).bind fun o31 =>
 bif decide (gA o28 0 < 0) then
 (M_backlash_Shift [I x15, I x16, I x17, I x18, I x19, I x20, I x21, I x22, I x23, .view kInts x24, I x39]).bind fun o32 =>
 (M_pitch_Motor [I x25, I x26, I x27, I x28, I x29, I x30, I x31, I x32, I x33, .view kInts x34, jA o27 2]).bind fun o33 =>
 bif decide (gA o28 0 < 0) then
 (M_backlash_Shift [I x25, I x26, I x27, I x28, I x29, I x30, I x31, I x32, I x33, .view kInts x34, I x40]).bind fun o34 =>
 some [I (IntKind.i64.wrap (gA o29 0 + gA o30 0)), I (IntKind.i64.wrap (gA o31 0 + gA o32 0)), I (IntKind.i64.wrap (gA o33 0 + gA o34 0))]
 else
 bif decide (0 <= gA o28 0) && decide (gA o28 0 < (x35.length : Int)) then
 (M_track_shift [I x25, I x26, I x27, I x28, I x29, I x30, I x31, I x32, I x33, .view kInts x34, jA (nth [] x35 (gA o28 0).toNat) 0, jA (nth [] x35 (gA o28 0).toNat) 1, jA (nth [] x35 (gA o28 0).toNat) 2, jA (nth [] x35 (gA o28 0).toNat) 3, jA (nth [] x35 (gA o28 0).toNat) 4, jA (nth [] x35 (gA o28 0).toNat) 5, jA (nth [] x35 (gA o28 0).toNat) 6, jA (nth [] x35 (gA o28 0).toNat) 7, jA (nth [] x35 (gA o28 0).toNat) 8, jA (nth [] x35 (gA o28 0).toNat) 9, I (IntKind.i64.wrap (IntKind.i64.wrap (0 + 1) + 1)), jA o25 0]).bind fun o35 =>
 some [I (IntKind.i64.wrap (gA o29 0 + gA o30 0)), I (IntKind.i64.wrap (gA o31 0 + gA o32 0)), I (IntKind.i64.wrap (gA o33 0 + gA o35 0))]
 else
 none
 else
 bif decide (0 <= gA o28 0) && decide (gA o28 0 < (x35.length : Int)) then
 (M_track_shift [I x15, I x16, I x17, I x18, I x19, I x20, I x21, I x22, I x23, .view kInts x24, jA (nth [] x35 (gA o28 0).toNat) 0, jA (nth [] x35 (gA o28 0).toNat) 1, jA (nth [] x35 (gA o28 0).toNat) 2, jA (nth [] x35 (gA o28 0).toNat) 3, jA (nth [] x35 (gA o28 0).toNat) 4, jA (nth [] x35 (gA o28 0).toNat) 5, jA (nth [] x35 (gA o28 0).toNat) 6, jA (nth [] x35 (gA o28 0).toNat) 7, jA (nth [] x35 (gA o28 0).toNat) 8, jA (nth [] x35 (gA o28 0).toNat) 9, I (IntKind.i64.wrap (0 + 1)), jA o25 0]).bind fun o36 =>
 (M_pitch_Motor [I x25, I x26, I x27, I x28, I x29, I x30, I x31, I x32, I x33, .view kInts x34, jA o27 2]).bind fun o37 =>
 bif decide (gA o28 0 < 0) then
 (M_backlash_Shift [I x25, I x26, I x27, I x28, I x29, I x30, I x31, I x32, I x33, .view kInts x34, I x40]).bind fun o38 =>
 some [I (IntKind.i64.wrap (gA o29 0 + gA o30 0)), I (IntKind.i64.wrap (gA o31 0 + gA o36 0)), I (IntKind.i64.wrap (gA o37 0 + gA o38 0))]
 else
 bif decide (0 <= gA o28 0) && decide (gA o28 0 < (x35.length : Int)) then
 (M_track_shift [I x25, I x26, I x27, I x28, I x29, I x30, I x31, I x32, I x33, .view kInts x34, jA (nth [] x35 (gA o28 0).toNat) 0, jA (nth [] x35 (gA o28 0).toNat) 1, jA (nth [] x35 (gA o28 0).toNat) 2, jA (nth [] x35 (gA o28 0).toNat) 3, jA (nth [] x35 (gA o28 0).toNat) 4, jA (nth [] x35 (gA o28 0).toNat) 5, jA (nth [] x35 (gA o28 0).toNat) 6, jA (nth [] x35 (gA o28 0).toNat) 7, jA (nth [] x35 (gA o28 0).toNat) 8, jA (nth [] x35 (gA o28 0).toNat) 9, I (IntKind.i64.wrap (IntKind.i64.wrap (0 + 1) + 1)), jA o25 0]).bind fun o39 =>
 some [I (IntKind.i64.wrap (gA o29 0 + gA o30 0)), I (IntKind.i64.wrap (gA o31 0 + gA o36 0)), I (IntKind.i64.wrap (gA o37 0 + gA o39 0))]
 else
 none
 else
 none
 else
 bif decide (0 <= gA o28 0) && decide (gA o28 0 < (x35.length : Int)) then
 (M_track_shift [I x5, I x6, I x7, I x8, I x9, I x10, I x11, I x12, I x13, .view kInts x14, jA (nth [] x35 (gA o28 0).toNat) 0, jA (nth [] x35 (gA o28 0).toNat) 1, jA (nth [] x35 (gA o28 0).toNat) 2, jA (nth [] x35 (gA o28 0).toNat) 3, jA (nth [] x35 (gA o28 0).toNat) 4, jA (nth [] x35 (gA o28 0).toNat) 5, jA (nth [] x35 (gA o28 0).toNat) 6, jA (nth [] x35 (gA o28 0).toNat) 7, jA (nth [] x35 (gA o28 0).toNat) 8, jA (nth [] x35 (gA o28 0).toNat) 9, I 0, jA o25 0]).bind fun o40 =>
 (M_pitch_Motor [I x15, I x16, I x17, I x18, I x19, I x20, I x21, I x22, I x23, .view kInts x24, jA o27 1]).bind fun o41 =>
 bif decide (gA o28 0 < 0) then
 (M_backlash_Shift [I x15, I x16, I x17, I x18, I x19, I x20, I x21, I x22, I x23, .view kInts x24, I x39]).bind fun o42 =>
 (M_pitch_Motor [I x25, I x26, I x27, I x28, I x29, I x30, I x31, I x32, I x33, .view kInts x34, jA o27 2]).bind fun o43 =>
 bif decide (gA o28 0 < 0) then
 (M_backlash_Shift [I x25, I x26, I x27, I x28, I x29, I x30, I x31, I x32, I x33, .view kInts x34, I x40]).bind fun o44 =>
 some [I (IntKind.i64.wrap (gA o29 0 + gA o40 0)), I (IntKind.i64.wrap (gA o41 0 + gA o42 0)), I (IntKind.i64.wrap (gA o43 0 + gA o44 0))]
 else
 bif decide (0 <= gA o28 0) && decide (gA o28 0 < (x35.length : Int)) then
 (M_track_shift [I x25, I x26, I x27, I x28, I x29, I x30, I x31, I x32, I x33, .view kInts x34, jA (nth [] x35 (gA o28 0).toNat) 0, jA (nth [] x35 (gA o28 0).toNat) 1, jA (nth [] x35 (gA o28 0).toNat) 2, jA (nth [] x35 (gA o28 0).toNat) 3, jA (nth [] x35 (gA o28 0).toNat) 4, jA (nth [] x35 (gA o28 0).toNat) 5, jA (nth [] x35 (gA o28 0).toNat) 6, jA (nth [] x35 (gA o28 0).toNat) 7, jA (nth [] x35 (gA o28 0).toNat) 8, jA (nth [] x35 (gA o28 0).toNat) 9, I (IntKind.i64.wrap (IntKind.i64.wrap (0 + 1) + 1)), jA o25 0]).bind fun o45 =>
 some [I (IntKind.i64.wrap (gA o29 0 + gA o40 0)), I (IntKind.i64.wrap (gA o41 0 + gA o42 0)), I (IntKind.i64.wrap (gA o43 0 + gA o45 0))]
 else
 none
 else
 bif decide (0 <= gA o28 0) && decide (gA o28 0 < (x35.length : Int)) then
 (M_track_shift [I x15, I x16, I x17, I x18, I x19, I x20, I x21, I x22, I x23, .view kInts x24, jA (nth [] x35 (gA o28 0).toNat) 0, jA (nth [] x35 (gA o28 0).toNat) 1, jA (nth [] x35 (gA o28 0).toNat) 2, jA (nth [] x35 (gA o28 0).toNat) 3, jA (nth [] x35 (gA o28 0).toNat) 4, jA (nth [] x35 (gA o28 0).toNat) 5, jA (nth [] x35 (gA o28 0).toNat) 6, jA (nth [] x35 (gA o28 0).toNat) 7, jA (nth [] x35 (gA o28 0).toNat) 8, jA (nth [] x35 (gA o28 0).toNat) 9, I (IntKind.i64.wrap (0 + 1)), jA o25 0]).bind fun o46 =>
 (M_pitch_Motor [I x25, I x26, I x27, I x28, I x29, I x30, I x31, I x32, I x33, .view kInts x34, jA o27 2]).bind fun o47 =>
 bif decide (gA o28 0 < 0) then
 (M_backlash_Shift [I x25, I x26, I x27, I x28, I x29, I x30, I x31, I x32, I x33, .view kInts x34, I x40]).bind fun o48 =>
 some [I (IntKind.i64.wrap (gA o29 0 + gA o40 0)), I (IntKind.i64.wrap (gA o41 0 + gA o46 0)), I (IntKind.i64.wrap (gA o47 0 + gA o48 0))]
 else
 bif decide (0 <= gA o28 0) && decide (gA o28 0 < (x35.length : Int)) then
 (M_track_shift [I x25, I x26, I x27, I x28, I x29, I x30, I x31, I x32, I x33, .view kInts x34, jA (nth [] x35 (gA o28 0).toNat) 0, jA (nth [] x35 (gA o28 0).toNat) 1, jA (nth [] x35 (gA o28 0).toNat) 2, jA (nth [] x35 (gA o28 0).toNat) 3, jA (nth [] x35 (gA o28 0).toNat) 4, jA (nth [] x35 (gA o28 0).toNat) 5, jA (nth [] x35 (gA o28 0).toNat) 6, jA (nth [] x35 (gA o28 0).toNat) 7, jA (nth [] x35 (gA o28 0).toNat) 8, jA (nth [] x35 (gA o28 0).toNat) 9, I (IntKind.i64.wrap (IntKind.i64.wrap (0 + 1) + 1)), jA o25 0]).bind fun o49 =>
 some [I (IntKind.i64.wrap (gA o29 0 + gA o40 0)), I (IntKind.i64.wrap (gA o41 0 + gA o46 0)), I (IntKind.i64.wrap (gA o47 0 + gA o49 0))]
 else
 none
 else
 none
 else
 none := by kernel_rfl
def m_track_Motors := mf_track_Motors m_track_shift m_backlash_Shift m_pitch_Motor m_track_find m_path_At m_track_Place m_track_clamp 
theorem sp_track_Motors : SpecOK Tryz.prog (C_track_Motors_0 m_track_shift m_backlash_Shift m_pitch_Motor m_track_find m_path_At m_track_Place m_track_clamp) := specOK_of rfl ⟨r_track_shift, r_backlash_Shift, r_pitch_Motor, r_track_find, r_path_At, r_track_Place, r_track_clamp, trivial⟩
theorem r_track_Motors : RowOK Tryz.prog (17, spOf sig_track_Motors osig_track_Motors m_track_Motors) := row_of (C := (C_track_Motors_0 m_track_shift m_backlash_Shift m_pitch_Motor m_track_find m_path_At m_track_Place m_track_clamp)) (L := 64) (by kernel_rfl) (FnOK.bare rfl rfl rfl) sp_track_Motors eqOk mixOk (by kernel_rfl) (by kernel_rfl)
def sig_cncmill_Mod : Sk := { tmps := [tf [ci], tf [ci]], boxes := [], rows := [] }
def osig_cncmill_Mod : Sk := { tmps := [tf [ci]], boxes := [], rows := [] }
def C_cncmill_Mod_0 : Cfg := { spec := lookS [], eqOk := eqAll, ownOff := ownOff }
def mf_cncmill_Mod : Fn := modelF Tryz.prog C_cncmill_Mod_0 64 16 sig_cncmill_Mod osig_cncmill_Mod
theorem mf_cncmill_Mod_eq (x0 x1 : Int) : mf_cncmill_Mod [I x0, I x1] =
 bif decide (x1 = 0) then
 none
 else
 bif decide (x1 = 0) then
 none
 else
 some [I ((IntKind.i64.wrap (x0.tmod x1 + x1)).tmod x1)] := by kernel_rfl
def m_cncmill_Mod := mf_cncmill_Mod 
theorem sp_cncmill_Mod : SpecOK Tryz.prog (C_cncmill_Mod_0 ) := specOK_of rfl trivial
theorem r_cncmill_Mod : RowOK Tryz.prog (16, spOf sig_cncmill_Mod osig_cncmill_Mod m_cncmill_Mod) := row_of (C := C_cncmill_Mod_0) (L := 64) (by kernel_rfl) (FnOK.bare rfl rfl rfl) sp_cncmill_Mod eqOk mixOk (by kernel_rfl) (by kernel_rfl)
def sig_cncref29_add : Sk := { tmps := [tf [CS.ptr 20000 0], TS.v true [ci, ci, ci, ci, ci, ci, ci, ci, ci, ci]], boxes := [(20000, 35, [CS.own 20000 10, ci, ci, ci, ci, ci])], rows := [(20000, 85, kPce)] }
def osig_cncref29_add : Sk := { tmps := [TS.tup []], boxes := [(20000, 35, [CS.own 20000 10, ci, ci, ci, ci, ci])], rows := [(20000, 85, kPce)] }
def C_cncref29_add_0 : Cfg := { spec := lookS [], eqOk := eqAll, ownOff := ownOff }
def mf_cncref29_add : Fn := modelF Tryz.prog C_cncref29_add_0 64 69 sig_cncref29_add osig_cncref29_add
theorem mf_cncref29_add_eq (x0 : Rw) (x1 x2 x3 x4 x5 x6 x7 x8 x9 x10 x11 x12 x13 x14 x15 : Int) : mf_cncref29_add [.view kPce x0, I x1, I x2, I x3, I x4, I x5, I x6, I x7, I x8, I x9, I x10, I x11, I x12, I x13, I x14, I x15] =
 bif decide ((x0.length : Int) > 0) then
 bif x4 != 0 then
 bif decide (0 <= IntKind.i64.wrap ((x0.length : Int) - 1)) && decide (IntKind.i64.wrap ((x0.length : Int) - 1) < (x0.length : Int)) then
 bif gA (nth [] x0 (IntKind.i64.wrap ((x0.length : Int) - 1)).toNat) 3 == x4 then
 bif decide (0 <= IntKind.i64.wrap ((x0.length : Int) - 1)) && decide (IntKind.i64.wrap ((x0.length : Int) - 1) < (x0.length : Int)) then
 bif gA (nth [] x0 (IntKind.i64.wrap ((x0.length : Int) - 1)).toNat) 7 == x8 && (gA (nth [] x0 (IntKind.i64.wrap ((x0.length : Int) - 1)).toNat) 8 == x9 && (gA (nth [] x0 (IntKind.i64.wrap ((x0.length : Int) - 1)).toNat) 9 == x10 && true)) then
 bif decide (0 <= IntKind.i64.wrap ((x0.length : Int) - 1)) && decide (IntKind.i64.wrap ((x0.length : Int) - 1) < (x0.length : Int)) then
 bif decide (0 <= IntKind.i64.wrap ((x0.length : Int) - 1)) && decide (IntKind.i64.wrap ((x0.length : Int) - 1) < (x0.length : Int)) then
 some [.view kPce (x0.set (IntKind.i64.wrap ((x0.length : Int) - 1)).toNat [jA (nth [] x0 (IntKind.i64.wrap ((x0.length : Int) - 1)).toNat) 0, I (IntKind.i64.wrap (gA (nth [] x0 (IntKind.i64.wrap ((x0.length : Int) - 1)).toNat) 1 + x2)), jA (nth [] x0 (IntKind.i64.wrap ((x0.length : Int) - 1)).toNat) 2, jA (nth [] x0 (IntKind.i64.wrap ((x0.length : Int) - 1)).toNat) 3, jA (nth [] x0 (IntKind.i64.wrap ((x0.length : Int) - 1)).toNat) 4, jA (nth [] x0 (IntKind.i64.wrap ((x0.length : Int) - 1)).toNat) 5, jA (nth [] x0 (IntKind.i64.wrap ((x0.length : Int) - 1)).toNat) 6, jA (nth [] x0 (IntKind.i64.wrap ((x0.length : Int) - 1)).toNat) 7, jA (nth [] x0 (IntKind.i64.wrap ((x0.length : Int) - 1)).toNat) 8, jA (nth [] x0 (IntKind.i64.wrap ((x0.length : Int) - 1)).toNat) 9]), I (IntKind.i64.wrap (x11 + x2)), I x12, I x13, I x14, I x15]
 else
 none
 else
 none
 else
 bif ((x0 ++ [[I x11, I x2, I x3, I x4, I x5, I x6, I x7, I x8, I x9, I x10]]).length * 80).ble 140737488355328 then
 some [.view kPce (x0 ++ [[I x11, I x2, I x3, I x4, I x5, I x6, I x7, I x8, I x9, I x10]]), I (IntKind.i64.wrap (x11 + x2)), I x12, I x13, I x14, I x15]
 else
 none
 else
 none
 else
 bif ((x0 ++ [[I x11, I x2, I x3, I x4, I x5, I x6, I x7, I x8, I x9, I x10]]).length * 80).ble 140737488355328 then
 some [.view kPce (x0 ++ [[I x11, I x2, I x3, I x4, I x5, I x6, I x7, I x8, I x9, I x10]]), I (IntKind.i64.wrap (x11 + x2)), I x12, I x13, I x14, I x15]
 else
 none
 else
 none
 else
 bif ((x0 ++ [[I x11, I x2, I x3, I x4, I x5, I x6, I x7, I x8, I x9, I x10]]).length * 80).ble 140737488355328 then
 some [.view kPce (x0 ++ [[I x11, I x2, I x3, I x4, I x5, I x6, I x7, I x8, I x9, I x10]]), I (IntKind.i64.wrap (x11 + x2)), I x12, I x13, I x14, I x15]
 else
 none
 else
 bif ((x0 ++ [[I x11, I x2, I x3, I x4, I x5, I x6, I x7, I x8, I x9, I x10]]).length * 80).ble 140737488355328 then
 some [.view kPce (x0 ++ [[I x11, I x2, I x3, I x4, I x5, I x6, I x7, I x8, I x9, I x10]]), I (IntKind.i64.wrap (x11 + x2)), I x12, I x13, I x14, I x15]
 else
 none := by kernel_rfl
def m_cncref29_add := mf_cncref29_add 
theorem sp_cncref29_add : SpecOK Tryz.prog (C_cncref29_add_0 ) := specOK_of rfl trivial
theorem r_cncref29_add : RowOK Tryz.prog (69, spOf sig_cncref29_add osig_cncref29_add m_cncref29_add) := row_of (C := C_cncref29_add_0) (L := 64) (by kernel_rfl) (FnOK.bare rfl rfl rfl) sp_cncref29_add eqOk mixOk (by kernel_rfl) (by kernel_rfl)
def sig_cncref29_slack : Sk := { tmps := [TS.v true [ci, ci, ci, ci, ci, ci, ci, ci, ci, CS.sl kInts, ci, ci, ci, ci, ci, ci, ci, ci, ci, CS.sl kInts, ci, ci, ci, ci, ci, ci, ci, ci, ci, CS.sl kInts], TS.v true [ci, ci, ci], TS.v true [ci, ci, ci]], boxes := [], rows := [] }
def osig_cncref29_slack : Sk := { tmps := [tf [ci]], boxes := [], rows := [] }
def C_cncref29_slack_0 : Cfg := { spec := lookS [], eqOk := eqAll, ownOff := ownOff, unroll := [3] }
def mf_cncref29_slack : Fn := modelF Tryz.prog C_cncref29_slack_0 64 68 sig_cncref29_slack osig_cncref29_slack
theorem mf_cncref29_slack_eq (x0 x1 x2 x3 x4 x5 x6 x7 x8 : Int) (x9 : Rw) (x10 x11 x12 x13 x14 x15 x16 x17 x18 : Int) (x19 : Rw) (x20 x21 x22 x23 x24 x25 x26 x27 x28 : Int) (x29 : Rw) (x30 x31 x32 x33 x34 x35 : Int) : mf_cncref29_slack [I x0, I x1, I x2, I x3, I x4, I x5, I x6, I x7, I x8, .view kInts x9, I x10, I x11, I x12, I x13, I x14, I x15, I x16, I x17, I x18, .view kInts x19, I x20, I x21, I x22, I x23, I x24, I x25, I x26, I x27, I x28, .view kInts x29, I x30, I x31, I x32, I x33, I x34, I x35] =
 bif x30 != x33 then
 bif x31 != x34 then
 bif x32 != x35 then
 some [I (mx (mx (mx 0 x6) x16) x26)]
 else
 some [I (mx (mx 0 x6) x16)]
 else
 bif x32 != x35 then
 some [I (mx (mx 0 x6) x26)]
 else
 some [I (mx 0 x6)]
 else
 bif x31 != x34 then
 bif x32 != x35 then
 some [I (mx (mx 0 x16) x26)]
 else
 some [I (mx 0 x16)]
 else
 bif x32 != x35 then
 some [I (mx 0 x26)]
 else
 some [I 0] := by kernel_rfl
def m_cncref29_slack := mf_cncref29_slack 
theorem sp_cncref29_slack : SpecOK Tryz.prog (C_cncref29_slack_0 ) := specOK_of rfl trivial
theorem r_cncref29_slack : RowOK Tryz.prog (68, spOf sig_cncref29_slack osig_cncref29_slack m_cncref29_slack) := row_of (C := C_cncref29_slack_0) (L := 64) (by kernel_rfl) (FnOK.bare rfl rfl rfl) sp_cncref29_slack eqOk mixOk (by kernel_rfl) (by kernel_rfl)
def sig_cncref29_facing : Sk := { tmps := [TS.v true [ci, ci, ci, CS.sl kSgm, CS.sl kPt], TS.v true [ci, ci, ci], tf [ci], tf [ci]], boxes := [], rows := [] }
def osig_cncref29_facing : Sk := { tmps := [TS.v true [ci, ci, ci]], boxes := [], rows := [] }
def C_cncref29_facing_0 (M_cncref25_Begin : Fn) : Cfg := { spec := lookS [(71, spOf sig_cncref25_Begin osig_cncref25_Begin M_cncref25_Begin)], eqOk := eqAll, ownOff := ownOff, unroll := [3] }
def mf_cncref29_facing (M_cncref25_Begin : Fn) : Fn := modelF Tryz.prog (C_cncref29_facing_0 M_cncref25_Begin) 64 67 sig_cncref29_facing osig_cncref29_facing
theorem mf_cncref29_facing_eq (M_cncref25_Begin : Fn) (x0 x1 x2 : Int) (x3 x4 : Rw) (x5 x6 x7 x8 x9 : Int) : mf_cncref29_facing M_cncref25_Begin [I x0, I x1, I x2, .view kSgm x3, .view kPt x4, I x5, I x6, I x7, I x8, I x9] =
 (M_cncref25_Begin [I x0, I x1, I x2, .view kSgm x3, .view kPt x4, I x8]).bind fun o1 =>
 bif decide (0 <= x8) && decide (x8 < (x3.length : Int)) then
 bif decide (IntKind.i64.wrap (IntKind.i64.wrap (gA (nth [] x3 x8.toNat) 0 - gA o1 0) * x9) > 0) then
 bif decide (IntKind.i64.wrap (IntKind.i64.wrap (gA (nth [] x3 x8.toNat) 1 - gA o1 1) * x9) > 0) then
 bif decide (IntKind.i64.wrap (IntKind.i64.wrap (gA (nth [] x3 x8.toNat) 2 - gA o1 2) * x9) > 0) then
 some [I 1, I 1, I 1]
 else
 bif decide (IntKind.i64.wrap (IntKind.i64.wrap (gA (nth [] x3 x8.toNat) 2 - gA o1 2) * x9) < 0) then
 some [I 1, I 1, I (-1)]
 else
 some [I 1, I 1, I x7]
 else
 bif decide (IntKind.i64.wrap (IntKind.i64.wrap (gA (nth [] x3 x8.toNat) 1 - gA o1 1) * x9) < 0) then
 bif decide (IntKind.i64.wrap (IntKind.i64.wrap (gA (nth [] x3 x8.toNat) 2 - gA o1 2) * x9) > 0) then
 some [I 1, I (-1), I 1]
 else
 bif decide (IntKind.i64.wrap (IntKind.i64.wrap (gA (nth [] x3 x8.toNat) 2 - gA o1 2) * x9) < 0) then
 some [I 1, I (-1), I (-1)]
 else
 some [I 1, I (-1), I x7]
 else
 bif decide (IntKind.i64.wrap (IntKind.i64.wrap (gA (nth [] x3 x8.toNat) 2 - gA o1 2) * x9) > 0) then
 some [I 1, I x6, I 1]
 else
 bif decide (IntKind.i64.wrap (IntKind.i64.wrap (gA (nth [] x3 x8.toNat) 2 - gA o1 2) * x9) < 0) then
 some [I 1, I x6, I (-1)]
 else
 some [I 1, I x6, I x7]
 else
 bif decide (IntKind.i64.wrap (IntKind.i64.wrap (gA (nth [] x3 x8.toNat) 0 - gA o1 0) * x9) < 0) then
 bif decide (IntKind.i64.wrap (IntKind.i64.wrap (gA (nth [] x3 x8.toNat) 1 - gA o1 1) * x9) > 0) then
 bif decide (IntKind.i64.wrap (IntKind.i64.wrap (gA (nth [] x3 x8.toNat) 2 - gA o1 2) * x9) > 0) then
 some [I (-1), I 1, I 1]
 else
 bif decide (IntKind.i64.wrap (IntKind.i64.wrap (gA (nth [] x3 x8.toNat) 2 - gA o1 2) * x9) < 0) then
 some [I (-1), I 1, I (-1)]
 else
 some [I (-1), I 1, I x7]
 else
 bif decide (IntKind.i64.wrap (IntKind.i64.wrap (gA (nth [] x3 x8.toNat) 1 - gA o1 1) * x9) < 0) then
 bif decide (IntKind.i64.wrap (IntKind.i64.wrap (gA (nth [] x3 x8.toNat) 2 - gA o1 2) * x9) > 0) then
 some [I (-1), I (-1), I 1]
 else
 bif decide (IntKind.i64.wrap (IntKind.i64.wrap (gA (nth [] x3 x8.toNat) 2 - gA o1 2) * x9) < 0) then
 some [I (-1), I (-1), I (-1)]
 else
 some [I (-1), I (-1), I x7]
 else
 bif decide (IntKind.i64.wrap (IntKind.i64.wrap (gA (nth [] x3 x8.toNat) 2 - gA o1 2) * x9) > 0) then
 some [I (-1), I x6, I 1]
 else
 bif decide (IntKind.i64.wrap (IntKind.i64.wrap (gA (nth [] x3 x8.toNat) 2 - gA o1 2) * x9) < 0) then
 some [I (-1), I x6, I (-1)]
 else
 some [I (-1), I x6, I x7]
 else
 bif decide (IntKind.i64.wrap (IntKind.i64.wrap (gA (nth [] x3 x8.toNat) 1 - gA o1 1) * x9) > 0) then
 bif decide (IntKind.i64.wrap (IntKind.i64.wrap (gA (nth [] x3 x8.toNat) 2 - gA o1 2) * x9) > 0) then
 some [I x5, I 1, I 1]
 else
 bif decide (IntKind.i64.wrap (IntKind.i64.wrap (gA (nth [] x3 x8.toNat) 2 - gA o1 2) * x9) < 0) then
 some [I x5, I 1, I (-1)]
 else
 some [I x5, I 1, I x7]
 else
 bif decide (IntKind.i64.wrap (IntKind.i64.wrap (gA (nth [] x3 x8.toNat) 1 - gA o1 1) * x9) < 0) then
 bif decide (IntKind.i64.wrap (IntKind.i64.wrap (gA (nth [] x3 x8.toNat) 2 - gA o1 2) * x9) > 0) then
 some [I x5, I (-1), I 1]
 else
 bif decide (IntKind.i64.wrap (IntKind.i64.wrap (gA (nth [] x3 x8.toNat) 2 - gA o1 2) * x9) < 0) then
 some [I x5, I (-1), I (-1)]
 else
 some [I x5, I (-1), I x7]
 else
 bif decide (IntKind.i64.wrap (IntKind.i64.wrap (gA (nth [] x3 x8.toNat) 2 - gA o1 2) * x9) > 0) then
 some [I x5, I x6, I 1]
 else
 bif decide (IntKind.i64.wrap (IntKind.i64.wrap (gA (nth [] x3 x8.toNat) 2 - gA o1 2) * x9) < 0) then
 some [I x5, I x6, I (-1)]
 else
 some [I x5, I x6, I x7]
 else
 none := by kernel_rfl
def m_cncref29_facing := mf_cncref29_facing m_cncref25_Begin 
theorem sp_cncref29_facing : SpecOK Tryz.prog (C_cncref29_facing_0 m_cncref25_Begin) := specOK_of rfl ⟨r_cncref25_Begin, trivial⟩
theorem r_cncref29_facing : RowOK Tryz.prog (67, spOf sig_cncref29_facing osig_cncref29_facing m_cncref29_facing) := row_of (C := (C_cncref29_facing_0 m_cncref25_Begin)) (L := 64) (by kernel_rfl) (FnOK.bare rfl rfl rfl) sp_cncref29_facing eqOk mixOk (by kernel_rfl) (by kernel_rfl)
def sig_cncref25_Length : Sk := { tmps := [TS.v true [ci, ci, ci, CS.sl kSgm, CS.sl kPt]], boxes := [], rows := [] }
def osig_cncref25_Length : Sk := { tmps := [tf [ci]], boxes := [], rows := [] }
def C_cncref25_Length_0 : Cfg := { spec := lookS [], eqOk := eqAll, ownOff := ownOff }
def sk_cncref25_Length_3 : Sk := { tmps := [td, td, td, tf [ci], td, td, td, tf [CS.sl kSgm], tf [ci], tf [ci]] ++ dd 9, boxes := [], rows := [] }
def ex_cncref25_Length_3 : List (Ex × Sk) := [(Ex.exit 0, { tmps := [td, td, td, tf [ci]] ++ dd 15, boxes := [], rows := [] })]
def st_cncref25_Length_3 : Lp := stepL Tryz.prog C_cncref25_Length_0 64 3 (bodyOf Tryz.prog 25 3) sk_cncref25_Length_3 ex_cncref25_Length_3
def C_cncref25_Length_1 (N3 : Lp) : Cfg := C_cncref25_Length_0.loop 3 sk_cncref25_Length_3 ex_cncref25_Length_3 N3
def mf_cncref25_Length (N3 : Lp) : Fn := modelF Tryz.prog (C_cncref25_Length_1 N3) 64 25 sig_cncref25_Length osig_cncref25_Length
theorem st_cncref25_Length_3_eq (v0 : Int) (v1 : Rw) (v2 v3 : Int) : st_cncref25_Length_3 [I v0, .view kSgm v1, I v2, I v3] =
 bif decide (v3 < v2) then
 bif decide (0 <= v3) && decide (v3 < (v1.length : Int)) then
 some (0, [I (IntKind.i64.wrap (v0 + gA (nth [] v1 v3.toNat) 3)), .view kSgm v1, I v2, I (IntKind.i64.wrap (v3 + 1))])
 else
 none
 else
 some (1, [I v0]) := by kernel_rfl
theorem mf_cncref25_Length_eq (N3 : Lp) (x0 x1 x2 : Int) (x3 x4 : Rw) : mf_cncref25_Length N3 [I x0, I x1, I x2, .view kSgm x3, .view kPt x4] =
 (N3 [I 0, .view kSgm x3, I (x3.length : Int), I 0]).bind fun o1 =>
 bif o1.1.beq 1 then
 some [jA o1.2 0]
 else
 none := by kernel_rfl
def l_cncref25_Length_3 := loopC (st_cncref25_Length_3 )
def m_cncref25_Length := mf_cncref25_Length l_cncref25_Length_3
theorem sp_cncref25_Length : SpecOK Tryz.prog (C_cncref25_Length_0 ) := specOK_of rfl trivial
theorem r_cncref25_Length : RowOK Tryz.prog (25, spOf sig_cncref25_Length osig_cncref25_Length m_cncref25_Length) := row_of (C := (C_cncref25_Length_1 l_cncref25_Length_3)) (L := 64) (by kernel_rfl) ((FnOK.bare rfl rfl rfl).loop sp_cncref25_Length eqOk mixOk (by kernel_rfl) (by kernel_rfl)) sp_cncref25_Length eqOk mixOk (by kernel_rfl) (by kernel_rfl)
end Go.Bm
