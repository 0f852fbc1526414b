/- functions of the program and of the references, as models -/
import Derived.Test.YtdllaekpkcanbaaGreatMx6
import Derived.Test.YtdllaekpkcanbaaGreatSeAw0
import Derived.Test.YtdllaekpkcanbaaGreatSeSq
import Derived.Test.YtdllaekpkcanbaaGreatSeAw25
set_option linter.unusedSimpArgs false
set_option linter.unusedVariables false
set_option maxRecDepth 100000
noncomputable section
namespace Go.Bm
open Go.Proofs
def sig_cnclaw25_small : Sk := { tmps := [TS.v true [ci, ci, ci, CS.sl kSgm, CS.sl kPt]], boxes := [], rows := [] }
def osig_cnclaw25_small : Sk := { tmps := [tf [CS.bool]], boxes := [], rows := [] }
def C_cnclaw25_small_0 (M_cncref23_Small : Fn) : Cfg := { spec := lookS [(94, spOf sig_cncref23_Small osig_cncref23_Small M_cncref23_Small)], eqOk := eqAll, ownOff := ownOff }
def sk_cnclaw25_small_2 : Sk := { tmps := [td, tf [CS.ptr 1 0], td, td, td, td, tf [CS.sl kSgm], tf [ci], tf [ci]] ++ dd 21, boxes := [(1, 29, [ci, ci, ci, CS.sl kSgm, CS.sl kPt])], rows := [] }
def ex_cnclaw25_small_2 : List (Ex × Sk) := [(Ex.ret, { tmps := [td, td, tf [CS.bool]] ++ dd 27, boxes := [], rows := [] }), (Ex.exit 0, { tmps := [td, tf [CS.ptr 1 0]] ++ dd 28, boxes := [(1, 29, [ci, ci, ci, CS.sl kSgm, CS.sl kPt])], rows := [] })]
def st_cnclaw25_small_2 (M_cncref23_Small : Fn) : Lp := stepL Tryz.prog (C_cnclaw25_small_0 M_cncref23_Small) 64 2 (bodyOf Tryz.prog 49 2) sk_cnclaw25_small_2 ex_cnclaw25_small_2
def C_cnclaw25_small_1 (M_cncref23_Small : Fn) (N2 : Lp) : Cfg := (C_cnclaw25_small_0 M_cncref23_Small).loop 2 sk_cnclaw25_small_2 ex_cnclaw25_small_2 N2
def mf_cnclaw25_small (M_cncref23_Small : Fn) (N2 : Lp) : Fn := modelF Tryz.prog (C_cnclaw25_small_1 M_cncref23_Small N2) 64 49 sig_cnclaw25_small osig_cnclaw25_small
theorem st_cnclaw25_small_2_eq (M_cncref23_Small : Fn) (v0 : Rw) (v1 v2 v3 v4 v5 : Int) (v6 v7 : Rw) : st_cnclaw25_small_2 M_cncref23_Small [.view kSgm v0, I v1, I v2, I v3, I v4, I v5, .view kSgm v6, .view kPt v7] =
 bif decide (v2 < v1) then
 bif decide (0 <= v2) && decide (v2 < (v0.length : Int)) then
 (M_cncref23_Small [jA (nth [] v0 v2.toNat) 0, jA (nth [] v0 v2.toNat) 1, jA (nth [] v0 v2.toNat) 2]).bind fun o3 =>
 bif !bA o3 0 then
 some (1, [B false])
 else
 bif decide (gA (nth [] v0 v2.toNat) 3 < 0) then
 some (1, [B false])
 else
 bif decide (gA (nth [] v0 v2.toNat) 3 > 134217728) then
 some (1, [B false])
 else
 some (0, [.view kSgm v0, I v1, I (IntKind.i64.wrap (v2 + 1)), I v3, I v4, I v5, .view kSgm v6, .view kPt v7])
 else
 none
 else
 some (2, [I v3, I v4, I v5, .view kSgm v6, .view kPt v7]) := by kernel_rfl
theorem mf_cnclaw25_small_eq (M_cncref23_Small : Fn) (N2 : Lp) (x0 x1 x2 : Int) (x3 x4 : Rw) : mf_cnclaw25_small M_cncref23_Small N2 [I x0, I x1, I x2, .view kSgm x3, .view kPt x4] =
 (N2 [.view kSgm x3, I (x3.length : Int), I 0, I x0, I x1, I x2, .view kSgm x3, .view kPt x4]).bind fun o4 =>
 bif o4.1.beq 1 then
 some [B (bA o4.2 0)]
 else
 bif o4.1.beq 2 then
 (M_cncref23_Small [jA o4.2 0, jA o4.2 1, jA o4.2 2]).bind fun o5 =>
 some [B (bA o5 0)]
 else
 none := by kernel_rfl
def l_cnclaw25_small_2 := loopC (st_cnclaw25_small_2 m_cncref23_Small )
def m_cnclaw25_small := mf_cnclaw25_small m_cncref23_Small l_cnclaw25_small_2
theorem sp_cnclaw25_small : SpecOK Tryz.prog (C_cnclaw25_small_0 m_cncref23_Small) := specOK_of rfl ⟨r_cncref23_Small, trivial⟩
theorem r_cnclaw25_small : RowOK Tryz.prog (49, spOf sig_cnclaw25_small osig_cnclaw25_small m_cnclaw25_small) := row_of (C := (C_cnclaw25_small_1 m_cncref23_Small l_cnclaw25_small_2)) (L := 64) (by kernel_rfl) ((FnOK.bare rfl rfl rfl).loop sp_cnclaw25_small eqOk mixOk (by kernel_rfl) (by kernel_rfl)) sp_cnclaw25_small eqOk mixOk (by kernel_rfl) (by kernel_rfl)
def sig_cnclaw25_PathValid : Sk := { tmps := [TS.v true [ci, ci, ci, CS.sl kSgm, CS.sl kPt], tf [CS.sl kInts], tf [ci], tf [ci]], boxes := [], rows := [] }
def osig_cnclaw25_PathValid : Sk := { tmps := [tf [CS.bool]], boxes := [], rows := [] }
def C_cnclaw25_PathValid_0 (M_cnclaw25_small M_cncref25_Valid M_cncmill_Mod M_path_Valid M_cncmill_Path M_cnclaw25_awake : Fn) : Cfg := { spec := lookS [(49, spOf sig_cnclaw25_small osig_cnclaw25_small M_cnclaw25_small), (48, spOf sig_cncref25_Valid osig_cncref25_Valid M_cncref25_Valid), (16, spOf sig_cncmill_Mod osig_cncmill_Mod M_cncmill_Mod), (47, spOf sig_path_Valid osig_path_Valid M_path_Valid), (22, spOf sig_cncmill_Path osig_cncmill_Path M_cncmill_Path), (35, spOf sig_cnclaw25_awake osig_cnclaw25_awake M_cnclaw25_awake)], eqOk := eqAll, ownOff := ownOff }
def mf_cnclaw25_PathValid (M_cnclaw25_small M_cncref25_Valid M_cncmill_Mod M_path_Valid M_cncmill_Path M_cnclaw25_awake : Fn) : Fn := modelF Tryz.prog (C_cnclaw25_PathValid_0 M_cnclaw25_small M_cncref25_Valid M_cncmill_Mod M_path_Valid M_cncmill_Path M_cnclaw25_awake) 64 12 sig_cnclaw25_PathValid osig_cnclaw25_PathValid
abbrev g_cnclaw25_PathValid_1 (M_path_Valid : Fn) (o82 : List AC) (M_cncref25_Valid M_cnclaw25_small : Fn) (x0 x1 x2 : Int) (x3 x4 : Rw) (h1_0 h1_1 : AC) : Option (List AC) :=
 (M_path_Valid [jA o82 0, jA o82 1, jA o82 2, h1_0, h1_1]).bind fun o86 =>
 (M_cncref25_Valid [jA o82 0, jA o82 1, jA o82 2, h1_0, h1_1]).bind fun o87 =>
 bif bA o86 0 == bA o87 0 then
 (M_cnclaw25_small [I x0, I x1, I x2, .view kSgm x3, .view kPt x4]).bind fun o88 =>
 bif !bA o88 0 then
 some [B true]
 else
 (M_path_Valid [I x0, I x1, I x2, .view kSgm x3, .view kPt x4]).bind fun o89 =>
 (M_cncref25_Valid [I x0, I x1, I x2, .view kSgm x3, .view kPt x4]).bind fun o90 =>
 some [B (bA o89 0 == bA o90 0)]
 else
 some [B false]
attribute [go_sem] g_cnclaw25_PathValid_1
abbrev g_cnclaw25_PathValid_2 (M_path_Valid : Fn) (o82 : List AC) (M_cncref25_Valid M_cnclaw25_small : Fn) (x0 x1 x2 : Int) (x3 x4 : Rw) (h2_0 : Bool) (h2_1 : AC) (h2_2 : Bool) (h2_3 : AC) (h2_4 : Bool) (h2_5 h2_6 : AC) : Option (List AC) :=
 bif h2_0 then
 g_cnclaw25_PathValid_1 M_path_Valid o82 M_cncref25_Valid M_cnclaw25_small x0 x1 x2 x3 x4 h2_1 (.view kPt ([] ++ wA o82 4))
 else
 bif h2_2 then
 g_cnclaw25_PathValid_1 M_path_Valid o82 M_cncref25_Valid M_cnclaw25_small x0 x1 x2 x3 x4 h2_3 (.view kPt ([] ++ wA o82 4))
 else
 bif h2_4 then
 g_cnclaw25_PathValid_1 M_path_Valid o82 M_cncref25_Valid M_cnclaw25_small x0 x1 x2 x3 x4 h2_5 h2_6
 else
 none
attribute [go_sem] g_cnclaw25_PathValid_2
theorem mf_cnclaw25_PathValid_eq (M_cnclaw25_small M_cncref25_Valid M_cncmill_Mod M_path_Valid M_cncmill_Path M_cnclaw25_awake : Fn) (x0 x1 x2 : Int) (x3 x4 x5 : Rw) (x6 x7 : Int) : mf_cnclaw25_PathValid M_cnclaw25_small M_cncref25_Valid M_cncmill_Mod M_path_Valid M_cncmill_Path M_cnclaw25_awake [I x0, I x1, I x2, .view kSgm x3, .view kPt x4, .view kInts x5, I x6, I x7] =
 (M_cnclaw25_awake []).bind fun o81 =>
 bif !bA o81 0 then
 some [B false]
 else
 bif decide ((x3.length : Int) > 30) then
 some [B true]
 else
 bif decide ((x4.length : Int) > 30) then
 some [B true]
 else
 (M_cncmill_Path [.view kInts x5, I 4]).bind fun o82 =>
 (M_path_Valid [jA o82 0, jA o82 1, jA o82 2, .view kSgm (wA o82 3), .view kPt (wA o82 4)]).bind fun o83 =>
 bif !bA o83 0 then
 some [B false]
 else
 bif (([] ++ wA o82 3).length * 56).ble 140737488355328 then
 bif (([] ++ wA o82 4).length * 24).ble 140737488355328 then
 bif decide ((↑([] ++ wA o82 3).length : Int) > 0) then
 (M_cncmill_Mod [I x6, I (↑([] ++ wA o82 3).length : Int)]).bind fun o84 =>
 bif decide (0 <= gA o84 0) && decide (gA o84 0 < (↑([] ++ wA o82 3).length : Int)) then
 (M_cncmill_Mod [I x7, I 6]).bind fun o85 =>
 bif gA o85 0 == 0 then
 g_cnclaw25_PathValid_1 M_path_Valid o82 M_cncref25_Valid M_cnclaw25_small x0 x1 x2 x3 x4 (.view kSgm (([] ++ wA o82 3).set (gA o84 0).toNat [I (intOf (nth .dead (nth [] ([] ++ wA o82 3) (gA o84 0).toNat) 0)), I (intOf (nth .dead (nth [] ([] ++ wA o82 3) (gA o84 0).toNat) 1)), I (intOf (nth .dead (nth [] ([] ++ wA o82 3) (gA o84 0).toNat) 2)), I x6, I (intOf (nth .dead (nth [] ([] ++ wA o82 3) (gA o84 0).toNat) 4)), I (intOf (nth .dead (nth [] ([] ++ wA o82 3) (gA o84 0).toNat) 5)), I (intOf (nth .dead (nth [] ([] ++ wA o82 3) (gA o84 0).toNat) 6))])) (.view kPt ([] ++ wA o82 4))
 else
 bif gA o85 0 == 1 then
 (M_cncmill_Mod [I x6, I 3]).bind fun o91 =>
 bif decide (gA o91 0 = (↑0 : Int)) then
 g_cnclaw25_PathValid_2 M_path_Valid o82 M_cncref25_Valid M_cnclaw25_small x0 x1 x2 x3 x4 (decide (gA o91 0 = (↑0 : Int))) (.view kSgm (([] ++ wA o82 3).set (gA o84 0).toNat [I (IntKind.i64.wrap (intOf (nth .dead (nth [] ([] ++ wA o82 3) (gA o84 0).toNat) 0) + 1)), I (intOf (nth .dead (nth [] ([] ++ wA o82 3) (gA o84 0).toNat) 1)), I (intOf (nth .dead (nth [] ([] ++ wA o82 3) (gA o84 0).toNat) 2)), I (intOf (nth .dead (nth [] ([] ++ wA o82 3) (gA o84 0).toNat) 3)), I (intOf (nth .dead (nth [] ([] ++ wA o82 3) (gA o84 0).toNat) 4)), I (intOf (nth .dead (nth [] ([] ++ wA o82 3) (gA o84 0).toNat) 5)), I (intOf (nth .dead (nth [] ([] ++ wA o82 3) (gA o84 0).toNat) 6))])) (decide (gA o91 0 = (↑(0 + 1) : Int))) (.view kSgm (([] ++ wA o82 3).set (gA o84 0).toNat [I (intOf (nth .dead (nth [] ([] ++ wA o82 3) (gA o84 0).toNat) 0)), I (IntKind.i64.wrap (intOf (nth .dead (nth [] ([] ++ wA o82 3) (gA o84 0).toNat) 0) + 1)), I (intOf (nth .dead (nth [] ([] ++ wA o82 3) (gA o84 0).toNat) 2)), I (intOf (nth .dead (nth [] ([] ++ wA o82 3) (gA o84 0).toNat) 3)), I (intOf (nth .dead (nth [] ([] ++ wA o82 3) (gA o84 0).toNat) 4)), I (intOf (nth .dead (nth [] ([] ++ wA o82 3) (gA o84 0).toNat) 5)), I (intOf (nth .dead (nth [] ([] ++ wA o82 3) (gA o84 0).toNat) 6))])) (decide (gA o91 0 = (↑(0 + 1 + 1) : Int))) (.view kSgm (([] ++ wA o82 3).set (gA o84 0).toNat [I (intOf (nth .dead (nth [] ([] ++ wA o82 3) (gA o84 0).toNat) 0)), I (intOf (nth .dead (nth [] ([] ++ wA o82 3) (gA o84 0).toNat) 1)), I (IntKind.i64.wrap (intOf (nth .dead (nth [] ([] ++ wA o82 3) (gA o84 0).toNat) 0) + 1)), I (intOf (nth .dead (nth [] ([] ++ wA o82 3) (gA o84 0).toNat) 3)), I (intOf (nth .dead (nth [] ([] ++ wA o82 3) (gA o84 0).toNat) 4)), I (intOf (nth .dead (nth [] ([] ++ wA o82 3) (gA o84 0).toNat) 5)), I (intOf (nth .dead (nth [] ([] ++ wA o82 3) (gA o84 0).toNat) 6))])) (.view kPt ([] ++ wA o82 4))
 else
 bif decide (gA o91 0 = (↑(0 + 1) : Int)) then
 g_cnclaw25_PathValid_2 M_path_Valid o82 M_cncref25_Valid M_cnclaw25_small x0 x1 x2 x3 x4 (decide (gA o91 0 = (↑0 : Int))) (.view kSgm (([] ++ wA o82 3).set (gA o84 0).toNat [I (IntKind.i64.wrap (intOf (nth .dead (nth [] ([] ++ wA o82 3) (gA o84 0).toNat) 1) + 1)), I (intOf (nth .dead (nth [] ([] ++ wA o82 3) (gA o84 0).toNat) 1)), I (intOf (nth .dead (nth [] ([] ++ wA o82 3) (gA o84 0).toNat) 2)), I (intOf (nth .dead (nth [] ([] ++ wA o82 3) (gA o84 0).toNat) 3)), I (intOf (nth .dead (nth [] ([] ++ wA o82 3) (gA o84 0).toNat) 4)), I (intOf (nth .dead (nth [] ([] ++ wA o82 3) (gA o84 0).toNat) 5)), I (intOf (nth .dead (nth [] ([] ++ wA o82 3) (gA o84 0).toNat) 6))])) (decide (gA o91 0 = (↑(0 + 1) : Int))) (.view kSgm (([] ++ wA o82 3).set (gA o84 0).toNat [I (intOf (nth .dead (nth [] ([] ++ wA o82 3) (gA o84 0).toNat) 0)), I (IntKind.i64.wrap (intOf (nth .dead (nth [] ([] ++ wA o82 3) (gA o84 0).toNat) 1) + 1)), I (intOf (nth .dead (nth [] ([] ++ wA o82 3) (gA o84 0).toNat) 2)), I (intOf (nth .dead (nth [] ([] ++ wA o82 3) (gA o84 0).toNat) 3)), I (intOf (nth .dead (nth [] ([] ++ wA o82 3) (gA o84 0).toNat) 4)), I (intOf (nth .dead (nth [] ([] ++ wA o82 3) (gA o84 0).toNat) 5)), I (intOf (nth .dead (nth [] ([] ++ wA o82 3) (gA o84 0).toNat) 6))])) (decide (gA o91 0 = (↑(0 + 1 + 1) : Int))) (.view kSgm (([] ++ wA o82 3).set (gA o84 0).toNat [I (intOf (nth .dead (nth [] ([] ++ wA o82 3) (gA o84 0).toNat) 0)), I (intOf (nth .dead (nth [] ([] ++ wA o82 3) (gA o84 0).toNat) 1)), I (IntKind.i64.wrap (intOf (nth .dead (nth [] ([] ++ wA o82 3) (gA o84 0).toNat) 1) + 1)), I (intOf (nth .dead (nth [] ([] ++ wA o82 3) (gA o84 0).toNat) 3)), I (intOf (nth .dead (nth [] ([] ++ wA o82 3) (gA o84 0).toNat) 4)), I (intOf (nth .dead (nth [] ([] ++ wA o82 3) (gA o84 0).toNat) 5)), I (intOf (nth .dead (nth [] ([] ++ wA o82 3) (gA o84 0).toNat) 6))])) (.view kPt ([] ++ wA o82 4))
 else
 bif decide (gA o91 0 = (↑(0 + 1 + 1) : Int)) then
 g_cnclaw25_PathValid_2 M_path_Valid o82 M_cncref25_Valid M_cnclaw25_small x0 x1 x2 x3 x4 (decide (gA o91 0 = (↑0 : Int))) (.view kSgm (([] ++ wA o82 3).set (gA o84 0).toNat [I (IntKind.i64.wrap (intOf (nth .dead (nth [] ([] ++ wA o82 3) (gA o84 0).toNat) 2) + 1)), I (intOf (nth .dead (nth [] ([] ++ wA o82 3) (gA o84 0).toNat) 1)), I (intOf (nth .dead (nth [] ([] ++ wA o82 3) (gA o84 0).toNat) 2)), I (intOf (nth .dead (nth [] ([] ++ wA o82 3) (gA o84 0).toNat) 3)), I (intOf (nth .dead (nth [] ([] ++ wA o82 3) (gA o84 0).toNat) 4)), I (intOf (nth .dead (nth [] ([] ++ wA o82 3) (gA o84 0).toNat) 5)), I (intOf (nth .dead (nth [] ([] ++ wA o82 3) (gA o84 0).toNat) 6))])) (decide (gA o91 0 = (↑(0 + 1) : Int))) (.view kSgm (([] ++ wA o82 3).set (gA o84 0).toNat [I (intOf (nth .dead (nth [] ([] ++ wA o82 3) (gA o84 0).toNat) 0)), I (IntKind.i64.wrap (intOf (nth .dead (nth [] ([] ++ wA o82 3) (gA o84 0).toNat) 2) + 1)), I (intOf (nth .dead (nth [] ([] ++ wA o82 3) (gA o84 0).toNat) 2)), I (intOf (nth .dead (nth [] ([] ++ wA o82 3) (gA o84 0).toNat) 3)), I (intOf (nth .dead (nth [] ([] ++ wA o82 3) (gA o84 0).toNat) 4)), I (intOf (nth .dead (nth [] ([] ++ wA o82 3) (gA o84 0).toNat) 5)), I (intOf (nth .dead (nth [] ([] ++ wA o82 3) (gA o84 0).toNat) 6))])) (decide (gA o91 0 = (↑(0 + 1 + 1) : Int))) (.view kSgm (([] ++ wA o82 3).set (gA o84 0).toNat [I (intOf (nth .dead (nth [] ([] ++ wA o82 3) (gA o84 0).toNat) 0)), I (intOf (nth .dead (nth [] ([] ++ wA o82 3) (gA o84 0).toNat) 1)), I (IntKind.i64.wrap (intOf (nth .dead (nth [] ([] ++ wA o82 3) (gA o84 0).toNat) 2) + 1)), I (intOf (nth .dead (nth [] ([] ++ wA o82 3) (gA o84 0).toNat) 3)), I (intOf (nth .dead (nth [] ([] ++ wA o82 3) (gA o84 0).toNat) 4)), I (intOf (nth .dead (nth [] ([] ++ wA o82 3) (gA o84 0).toNat) 5)), I (intOf (nth .dead (nth [] ([] ++ wA o82 3) (gA o84 0).toNat) 6))])) (.view kPt ([] ++ wA o82 4))
 else
 none
 else
 bif gA o85 0 == 2 then
 g_cnclaw25_PathValid_1 M_path_Valid o82 M_cncref25_Valid M_cnclaw25_small x0 x1 x2 x3 x4 (.view kSgm (([] ++ wA o82 3).set (gA o84 0).toNat [I (intOf (nth .dead (nth [] ([] ++ wA o82 3) (gA o84 0).toNat) 0)), I (intOf (nth .dead (nth [] ([] ++ wA o82 3) (gA o84 0).toNat) 1)), I (intOf (nth .dead (nth [] ([] ++ wA o82 3) (gA o84 0).toNat) 2)), I (intOf (nth .dead (nth [] ([] ++ wA o82 3) (gA o84 0).toNat) 3)), I (intOf (nth .dead (nth [] ([] ++ wA o82 3) (gA o84 0).toNat) 4)), I x6, I (intOf (nth .dead (nth [] ([] ++ wA o82 3) (gA o84 0).toNat) 6))])) (.view kPt ([] ++ wA o82 4))
 else
 g_cnclaw25_PathValid_2 M_path_Valid o82 M_cncref25_Valid M_cnclaw25_small x0 x1 x2 x3 x4 (gA o85 0 == 3) (.view kSgm (([] ++ wA o82 3).set (gA o84 0).toNat [I (intOf (nth .dead (nth [] ([] ++ wA o82 3) (gA o84 0).toNat) 0)), I (intOf (nth .dead (nth [] ([] ++ wA o82 3) (gA o84 0).toNat) 1)), I (intOf (nth .dead (nth [] ([] ++ wA o82 3) (gA o84 0).toNat) 2)), I (intOf (nth .dead (nth [] ([] ++ wA o82 3) (gA o84 0).toNat) 3)), I (intOf (nth .dead (nth [] ([] ++ wA o82 3) (gA o84 0).toNat) 4)), I (intOf (nth .dead (nth [] ([] ++ wA o82 3) (gA o84 0).toNat) 5)), I x6])) (gA o85 0 == 4) (.view kSgm (([] ++ wA o82 3).set (gA o84 0).toNat [I (intOf (nth .dead (nth [] ([] ++ wA o82 3) (gA o84 0).toNat) 0)), I (intOf (nth .dead (nth [] ([] ++ wA o82 3) (gA o84 0).toNat) 1)), I (intOf (nth .dead (nth [] ([] ++ wA o82 3) (gA o84 0).toNat) 2)), I (intOf (nth .dead (nth [] ([] ++ wA o82 3) (gA o84 0).toNat) 3)), I x6, I (intOf (nth .dead (nth [] ([] ++ wA o82 3) (gA o84 0).toNat) 5)), I (intOf (nth .dead (nth [] ([] ++ wA o82 3) (gA o84 0).toNat) 6))])) (decide (0 <= 0) && decide (0 < (↑([] ++ wA o82 4).length : Int))) (.view kSgm ([] ++ wA o82 3)) (.view kPt (([] ++ wA o82 4).set (Int.toNat 0) [I x6, I (intOf (nth .dead (nth [] ([] ++ wA o82 4) 0) 1)), I (intOf (nth .dead (nth [] ([] ++ wA o82 4) 0) 2))]))
 else
 none
 else
 g_cnclaw25_PathValid_1 M_path_Valid o82 M_cncref25_Valid M_cnclaw25_small x0 x1 x2 x3 x4 (.view kSgm ([] ++ wA o82 3)) (.view kPt ([] ++ wA o82 4))
 else
 none
 else
 none := by kernel_rfl
def m_cnclaw25_PathValid := mf_cnclaw25_PathValid m_cnclaw25_small m_cncref25_Valid m_cncmill_Mod m_path_Valid m_cncmill_Path m_cnclaw25_awake 
theorem sp_cnclaw25_PathValid : SpecOK Tryz.prog (C_cnclaw25_PathValid_0 m_cnclaw25_small m_cncref25_Valid m_cncmill_Mod m_path_Valid m_cncmill_Path m_cnclaw25_awake) := specOK_of rfl ⟨r_cnclaw25_small, r_cncref25_Valid, r_cncmill_Mod, r_path_Valid, r_cncmill_Path, r_cnclaw25_awake, trivial⟩
theorem c_cnclaw25_PathValid : ∀ (args : List TV) (v : TV) (mem : Mem), (spOf sig_cnclaw25_PathValid osig_cnclaw25_PathValid m_cnclaw25_PathValid (TV × Mem) args ⟨[], []⟩ fun v m => some (v, m)) = some (v, mem) -> PCallM Tryz.prog 12 args ⟨[], []⟩ v mem := fun args v mem h => callM_of (f := 12) (C := (C_cnclaw25_PathValid_0 m_cnclaw25_small m_cncref25_Valid m_cncmill_Mod m_path_Valid m_cncmill_Path m_cnclaw25_awake)) (L := 64) (by kernel_rfl) (FnOK.bare rfl rfl rfl) sp_cnclaw25_PathValid eqOk mixOk (by kernel_rfl) (by kernel_rfl) args v mem h
end Go.Bm
