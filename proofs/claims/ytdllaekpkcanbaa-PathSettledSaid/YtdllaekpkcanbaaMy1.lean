/- functions of the program and of the references, as models -/
import Derived.Test.YtdllaekpkcanbaaMx5
import Derived.Test.YtdllaekpkcanbaaSeAw0
import Derived.Test.YtdllaekpkcanbaaSeSq
import Derived.Test.YtdllaekpkcanbaaSeAw25
set_option linter.unusedSimpArgs false
set_option linter.unusedVariables false
set_option maxRecDepth 100000
noncomputable section
namespace Go.Bm
open Go.Proofs
def sig_cnclaw25_curved : Sk := { tmps := [TS.v true [ci, ci, ci], TS.v true [ci, ci, ci, ci, ci, ci, ci]], boxes := [], rows := [] }
def osig_cnclaw25_curved : Sk := { tmps := [tf [CS.bool]], boxes := [], rows := [] }
def C_cnclaw25_curved_0 (M_cncref23_Length : Fn) : Cfg := { spec := lookS [(96, spOf sig_cncref23_Length osig_cncref23_Length M_cncref23_Length)], eqOk := eqAll, ownOff := ownOff }
def mf_cnclaw25_curved (M_cncref23_Length : Fn) : Fn := modelF Try.prog (C_cnclaw25_curved_0 M_cncref23_Length) 64 44 sig_cnclaw25_curved osig_cnclaw25_curved
theorem mf_cnclaw25_curved_eq (M_cncref23_Length : Fn) (x0 x1 x2 x3 x4 x5 x6 x7 x8 x9 : Int) : mf_cnclaw25_curved M_cncref23_Length [I x0, I x1, I x2, I x3, I x4, I x5, I x6, I x7, I x8, I x9] =
 (M_cncref23_Length [I x0, I x1, I x2, I x3, I x4, I x5]).bind fun o1 =>
 some [B (x6 != gA o1 0)] := by kernel_rfl
def m_cnclaw25_curved := mf_cnclaw25_curved m_cncref23_Length 
theorem sp_cnclaw25_curved : SpecOK Try.prog (C_cnclaw25_curved_0 m_cncref23_Length) := specOK_of rfl ⟨r_cncref23_Length, trivial⟩
theorem r_cnclaw25_curved : RowOK Try.prog (44, spOf sig_cnclaw25_curved osig_cnclaw25_curved m_cnclaw25_curved) := row_of (C := (C_cnclaw25_curved_0 m_cncref23_Length)) (L := 64) (by kernel_rfl) (FnOK.bare rfl rfl rfl) sp_cnclaw25_curved eqOk mixOk (by kernel_rfl) (by kernel_rfl)
def sig_cnclaw25_PathVertices : Sk := { tmps := [tf [CS.sl kInts], tf [ci]], boxes := [], rows := [] }
def osig_cnclaw25_PathVertices : Sk := { tmps := [tf [CS.bool]], boxes := [], rows := [] }
def C_cnclaw25_PathVertices_0 (M_path_Length M_cncref23_Fine M_path_At M_cnclaw25_curved M_path_Build M_cncmill_Motions M_cncmill_Mod M_cnclaw25_awake : Fn) : Cfg := { spec := lookS [(46, spOf sig_path_Length osig_path_Length M_path_Length), (25, spOf sig_cncref23_Fine osig_cncref23_Fine M_cncref23_Fine), (45, spOf sig_path_At osig_path_At M_path_At), (44, spOf sig_cnclaw25_curved osig_cnclaw25_curved M_cnclaw25_curved), (43, spOf sig_path_Build osig_path_Build M_path_Build), (28, spOf sig_cncmill_Motions osig_cncmill_Motions M_cncmill_Motions), (23, spOf sig_cncmill_Mod osig_cncmill_Mod M_cncmill_Mod), (42, spOf sig_cnclaw25_awake osig_cnclaw25_awake M_cnclaw25_awake)], eqOk := eqAll, ownOff := ownOff }
def sk_cnclaw25_PathVertices_10 : Sk := { tmps := [td, td, td, td, td, tf [CS.sl kItm], tf [CS.ptr 6 0], td, tf [CS.ptr 8 0], tf [ci], td, td, td, td, td, td, td, td, td, td, td, td, td, td, td, td, td, td, tf [CS.sl kSgm], tf [ci], tf [ci]] ++ dd 60, boxes := [(6, 51, [ci, ci, ci, CS.sl kSgm, CS.sl kPt]), (8, 23, [ci, ci, ci])], rows := [] }
def ex_cnclaw25_PathVertices_10 : List (Ex × Sk) := [(Ex.ret, { tmps := [td, td, td, td, tf [CS.bool]] ++ dd 86, boxes := [], rows := [] }), (Ex.exit 0, { tmps := [td, td, td, td, td, tf [CS.sl kItm], tf [CS.ptr 6 0], td, tf [CS.ptr 8 0], tf [ci]] ++ dd 81, boxes := [(6, 51, [ci, ci, ci, CS.sl kSgm, CS.sl kPt]), (8, 23, [ci, ci, ci])], rows := [] })]
def st_cnclaw25_PathVertices_10 (M_path_Length M_cncref23_Fine M_path_At M_cnclaw25_curved M_path_Build M_cncmill_Motions M_cncmill_Mod M_cnclaw25_awake : Fn) : Lp := stepL Try.prog (C_cnclaw25_PathVertices_0 M_path_Length M_cncref23_Fine M_path_At M_cnclaw25_curved M_path_Build M_cncmill_Motions M_cncmill_Mod M_cnclaw25_awake) 64 10 (bodyOf Try.prog 10 10) sk_cnclaw25_PathVertices_10 ex_cnclaw25_PathVertices_10
def C_cnclaw25_PathVertices_1 (M_path_Length M_cncref23_Fine M_path_At M_cnclaw25_curved M_path_Build M_cncmill_Motions M_cncmill_Mod M_cnclaw25_awake : Fn) (N10 : Lp) : Cfg := (C_cnclaw25_PathVertices_0 M_path_Length M_cncref23_Fine M_path_At M_cnclaw25_curved M_path_Build M_cncmill_Motions M_cncmill_Mod M_cnclaw25_awake).loop 10 sk_cnclaw25_PathVertices_10 ex_cnclaw25_PathVertices_10 N10
def mf_cnclaw25_PathVertices (M_path_Length M_cncref23_Fine M_path_At M_cnclaw25_curved M_path_Build M_cncmill_Motions M_cncmill_Mod M_cnclaw25_awake : Fn) (N10 : Lp) : Fn := modelF Try.prog (C_cnclaw25_PathVertices_1 M_path_Length M_cncref23_Fine M_path_At M_cnclaw25_curved M_path_Build M_cncmill_Motions M_cncmill_Mod M_cnclaw25_awake N10) 64 10 sig_cnclaw25_PathVertices osig_cnclaw25_PathVertices
theorem st_cnclaw25_PathVertices_10_eq (M_path_Length M_cncref23_Fine M_path_At M_cnclaw25_curved M_path_Build M_cncmill_Motions M_cncmill_Mod M_cnclaw25_awake : Fn) (v0 : Rw) (v1 : Int) (v2 : Rw) (v3 v4 v5 v6 v7 : Int) (v8 v9 : Rw) (v10 v11 v12 : Int) : st_cnclaw25_PathVertices_10 M_path_Length M_cncref23_Fine M_path_At M_cnclaw25_curved M_path_Build M_cncmill_Motions M_cncmill_Mod M_cnclaw25_awake [.view kItm v0, I v1, .view kSgm v2, I v3, I v4, I v5, I v6, I v7, .view kSgm v8, .view kPt v9, I v10, I v11, I v12] =
 bif decide (v4 < v3) then
 bif decide (0 <= v4) && decide (v4 < (v2.length : Int)) then
 bif decide (gA (nth [] v2 v4.toNat) 3 < 1) then
 some (1, [B false])
 else
 bif gA (nth [] v2 v4.toNat) 0 == v10 && (gA (nth [] v2 v4.toNat) 1 == v11 && (gA (nth [] v2 v4.toNat) 2 == v12 && true)) then
 some (1, [B false])
 else
 (M_cnclaw25_curved [I v10, I v11, I v12, jA (nth [] v2 v4.toNat) 0, jA (nth [] v2 v4.toNat) 1, jA (nth [] v2 v4.toNat) 2, jA (nth [] v2 v4.toNat) 3, jA (nth [] v2 v4.toNat) 4, jA (nth [] v2 v4.toNat) 5, jA (nth [] v2 v4.toNat) 6]).bind fun o14 =>
 bif bA o14 0 then
 some (1, [B false])
 else
 (M_path_At [I v5, I v6, I v7, .view kSgm v8, .view kPt v9, I (IntKind.i64.wrap (v1 + gA (nth [] v2 v4.toNat) 3))]).bind fun o15 =>
 bif !(gA o15 0 == gA (nth [] v2 v4.toNat) 0 && (gA o15 1 == gA (nth [] v2 v4.toNat) 1 && (gA o15 2 == gA (nth [] v2 v4.toNat) 2 && true))) then
 some (1, [B false])
 else
 some (0, [.view kItm v0, I (IntKind.i64.wrap (v1 + gA (nth [] v2 v4.toNat) 3)), .view kSgm v2, I v3, I (IntKind.i64.wrap (v4 + 1)), I v5, I v6, I v7, .view kSgm v8, .view kPt v9, jA (nth [] v2 v4.toNat) 0, jA (nth [] v2 v4.toNat) 1, jA (nth [] v2 v4.toNat) 2])
 else
 none
 else
 some (2, [.view kItm v0, I v1, I v5, I v6, I v7, .view kSgm v8, .view kPt v9, I v10, I v11, I v12]) := by kernel_rfl
theorem mf_cnclaw25_PathVertices_eq (M_path_Length M_cncref23_Fine M_path_At M_cnclaw25_curved M_path_Build M_cncmill_Motions M_cncmill_Mod M_cnclaw25_awake : Fn) (N10 : Lp) (x0 : Rw) (x1 : Int) : mf_cnclaw25_PathVertices M_path_Length M_cncref23_Fine M_path_At M_cnclaw25_curved M_path_Build M_cncmill_Motions M_cncmill_Mod M_cnclaw25_awake N10 [.view kInts x0, I x1] =
 (M_cnclaw25_awake []).bind fun o16 =>
 bif !bA o16 0 then
 some [B false]
 else
 (M_cncmill_Mod [I x1, I 8]).bind fun o17 =>
 (M_cncmill_Motions [.view kInts x0, jA o17 0]).bind fun o18 =>
 (M_path_Build [.view kItm (wA o18 0)]).bind fun o19 =>
 bif gA o19 5 != 0 then
 some [B false]
 else
 (N10 [.view kItm (wA o18 0), I 0, .view kSgm (wA o19 3), I (↑(wA o19 3).length : Int), I 0, jA o19 0, jA o19 1, jA o19 2, .view kSgm (wA o19 3), .view kPt (wA o19 4), jA o19 0, jA o19 1, jA o19 2]).bind fun o20 =>
 bif o20.1.beq 1 then
 some [B (bA o20.2 0)]
 else
 bif o20.1.beq 2 then
 bif (↑(wA o20.2 0).length : Int) == 0 then
 some [B (gA o20.2 1 == 0)]
 else
 bif decide (0 <= 0) && decide (0 < (↑(wA o20.2 0).length : Int)) then
 (M_cncref23_Fine [I (intOf (nth .dead (nth [] (wA o20.2 0) 0) 2)), I (intOf (nth .dead (nth [] (wA o20.2 0) 0) 3)), I (intOf (nth .dead (nth [] (wA o20.2 0) 0) 4))]).bind fun o21 =>
 bif gA o20.2 2 == gA o21 0 && (gA o20.2 3 == gA o21 1 && (gA o20.2 4 == gA o21 2 && true)) then
 bif decide (0 <= IntKind.i64.wrap ((↑(wA o20.2 0).length : Int) - 1)) && decide (IntKind.i64.wrap ((↑(wA o20.2 0).length : Int) - 1) < (↑(wA o20.2 0).length : Int)) then
 (M_cncref23_Fine [I (intOf (nth .dead (nth [] (wA o20.2 0) (IntKind.i64.wrap ((↑(wA o20.2 0).length : Int) - 1)).toNat) 5)), I (intOf (nth .dead (nth [] (wA o20.2 0) (IntKind.i64.wrap ((↑(wA o20.2 0).length : Int) - 1)).toNat) 6)), I (intOf (nth .dead (nth [] (wA o20.2 0) (IntKind.i64.wrap ((↑(wA o20.2 0).length : Int) - 1)).toNat) 7))]).bind fun o22 =>
 bif gA o20.2 7 == gA o22 0 && (gA o20.2 8 == gA o22 1 && (gA o20.2 9 == gA o22 2 && true)) then
 (M_path_Length [jA o20.2 2, jA o20.2 3, jA o20.2 4, .view kSgm (wA o20.2 5), .view kPt (wA o20.2 6)]).bind fun o23 =>
 some [B (gA o23 0 == gA o20.2 1)]
 else
 some [B false]
 else
 none
 else
 some [B false]
 else
 none
 else
 none := by kernel_rfl
def l_cnclaw25_PathVertices_10 := loopC (st_cnclaw25_PathVertices_10 m_path_Length m_cncref23_Fine m_path_At m_cnclaw25_curved m_path_Build m_cncmill_Motions m_cncmill_Mod m_cnclaw25_awake )
def m_cnclaw25_PathVertices := mf_cnclaw25_PathVertices m_path_Length m_cncref23_Fine m_path_At m_cnclaw25_curved m_path_Build m_cncmill_Motions m_cncmill_Mod m_cnclaw25_awake l_cnclaw25_PathVertices_10
theorem sp_cnclaw25_PathVertices : SpecOK Try.prog (C_cnclaw25_PathVertices_0 m_path_Length m_cncref23_Fine m_path_At m_cnclaw25_curved m_path_Build m_cncmill_Motions m_cncmill_Mod m_cnclaw25_awake) := specOK_of rfl ⟨r_path_Length, r_cncref23_Fine, r_path_At, r_cnclaw25_curved, r_path_Build, r_cncmill_Motions, r_cncmill_Mod, r_cnclaw25_awake, trivial⟩
theorem c_cnclaw25_PathVertices : ∀ (args : List TV) (v : TV) (mem : Mem), (spOf sig_cnclaw25_PathVertices osig_cnclaw25_PathVertices m_cnclaw25_PathVertices (TV × Mem) args ⟨[], []⟩ fun v m => some (v, m)) = some (v, mem) -> PCallM Try.prog 10 args ⟨[], []⟩ v mem := fun args v mem h => callM_of (f := 10) (C := (C_cnclaw25_PathVertices_1 m_path_Length m_cncref23_Fine m_path_At m_cnclaw25_curved m_path_Build m_cncmill_Motions m_cncmill_Mod m_cnclaw25_awake l_cnclaw25_PathVertices_10)) (L := 64) (by kernel_rfl) ((FnOK.bare rfl rfl rfl).loop sp_cnclaw25_PathVertices eqOk mixOk (by kernel_rfl) (by kernel_rfl)) sp_cnclaw25_PathVertices eqOk mixOk (by kernel_rfl) (by kernel_rfl) args v mem h
def sig_cnclaw25_PathMarks : Sk := { tmps := [tf [CS.sl kInts], tf [ci]], boxes := [], rows := [] }
def osig_cnclaw25_PathMarks : Sk := { tmps := [tf [CS.bool]], boxes := [], rows := [] }
def C_cnclaw25_PathMarks_0 (M_cncref23_Fine M_path_At M_cncref25_Soft M_cncref23_Motion M_path_Length M_path_Build M_cncmill_Items M_cncmill_Mod M_cnclaw25_awake : Fn) : Cfg := { spec := lookS [(25, spOf sig_cncref23_Fine osig_cncref23_Fine M_cncref23_Fine), (45, spOf sig_path_At osig_path_At M_path_At), (49, spOf sig_cncref25_Soft osig_cncref25_Soft M_cncref25_Soft), (48, spOf sig_cncref23_Motion osig_cncref23_Motion M_cncref23_Motion), (46, spOf sig_path_Length osig_path_Length M_path_Length), (43, spOf sig_path_Build osig_path_Build M_path_Build), (47, spOf sig_cncmill_Items osig_cncmill_Items M_cncmill_Items), (23, spOf sig_cncmill_Mod osig_cncmill_Mod M_cncmill_Mod), (42, spOf sig_cnclaw25_awake osig_cnclaw25_awake M_cnclaw25_awake)], eqOk := eqAll, ownOff := ownOff }
def sk_cnclaw25_PathMarks_8 : Sk := { tmps := [td, td, td, td, td, tf [CS.sl kItm], tf [CS.ptr 6 0], td, td, td, td, td, td, td, td, td, td, td, td, td, td, td, td, td, td, td, td, td, td, td, td, td, td, td, td, tf [CS.sl kPt], tf [ci], tf [ci]] ++ dd 96, boxes := [(6, 51, [ci, ci, ci, CS.sl kSgm, CS.sl kPt])], rows := [] }
def ex_cnclaw25_PathMarks_8 : List (Ex × Sk) := [(Ex.ret, { tmps := [td, td, td, td, tf [CS.bool]] ++ dd 129, boxes := [], rows := [] }), (Ex.exit 0, { tmps := [td] ++ dd 133, boxes := [], rows := [] })]
def st_cnclaw25_PathMarks_8 (M_cncref23_Fine M_path_At M_cncref25_Soft M_cncref23_Motion M_path_Length M_path_Build M_cncmill_Items M_cncmill_Mod M_cnclaw25_awake : Fn) : Lp := stepL Try.prog (C_cnclaw25_PathMarks_0 M_cncref23_Fine M_path_At M_cncref25_Soft M_cncref23_Motion M_path_Length M_path_Build M_cncmill_Items M_cncmill_Mod M_cnclaw25_awake) 64 8 (bodyOf Try.prog 11 8) sk_cnclaw25_PathMarks_8 ex_cnclaw25_PathMarks_8
def C_cnclaw25_PathMarks_1 (M_cncref23_Fine M_path_At M_cncref25_Soft M_cncref23_Motion M_path_Length M_path_Build M_cncmill_Items M_cncmill_Mod M_cnclaw25_awake : Fn) (N8 : Lp) : Cfg := (C_cnclaw25_PathMarks_0 M_cncref23_Fine M_path_At M_cncref25_Soft M_cncref23_Motion M_path_Length M_path_Build M_cncmill_Items M_cncmill_Mod M_cnclaw25_awake).loop 8 sk_cnclaw25_PathMarks_8 ex_cnclaw25_PathMarks_8 N8
def mf_cnclaw25_PathMarks (M_cncref23_Fine M_path_At M_cncref25_Soft M_cncref23_Motion M_path_Length M_path_Build M_cncmill_Items M_cncmill_Mod M_cnclaw25_awake : Fn) (N8 : Lp) : Fn := modelF Try.prog (C_cnclaw25_PathMarks_1 M_cncref23_Fine M_path_At M_cncref25_Soft M_cncref23_Motion M_path_Length M_path_Build M_cncmill_Items M_cncmill_Mod M_cnclaw25_awake N8) 64 11 sig_cnclaw25_PathMarks osig_cnclaw25_PathMarks
abbrev g_s_cnclaw25_PathMarks_8_3 (v3 : Int) (v0 v1 : Rw) (v2 v4 v5 v6 : Int) (v7 v8 : Rw) : Option (Nat × List AC) :=
 bif decide (0 <= v3) && decide (v3 < (v0.length : Int)) then
 bif gA (nth [] v0 v3.toNat) 0 == 14 then
 bif gA (nth [] v1 v3.toNat) 1 != 3 then
 some (1, [B false])
 else
 some (0, [.view kItm v0, .view kPt v1, I v2, I (IntKind.i64.wrap (v3 + 1)), I v4, I v5, I v6, .view kSgm v7, .view kPt v8])
 else
 some (0, [.view kItm v0, .view kPt v1, I v2, I (IntKind.i64.wrap (v3 + 1)), I v4, I v5, I v6, .view kSgm v7, .view kPt v8])
 else
 none
attribute [go_sem] g_s_cnclaw25_PathMarks_8_3
abbrev g_s_cnclaw25_PathMarks_8_1 (v3 : Int) (v0 v1 : Rw) (v2 v4 v5 v6 : Int) (v7 v8 : Rw) : Option (Nat × List AC) :=
 bif decide (0 <= v3) && decide (v3 < (v0.length : Int)) then
 bif gA (nth [] v0 v3.toNat) 0 == 10 then
 bif gA (nth [] v1 v3.toNat) 1 != 5 then
 some (1, [B false])
 else
 g_s_cnclaw25_PathMarks_8_3 v3 v0 v1 v2 v4 v5 v6 v7 v8
 else
 g_s_cnclaw25_PathMarks_8_3 v3 v0 v1 v2 v4 v5 v6 v7 v8
 else
 none
attribute [go_sem] g_s_cnclaw25_PathMarks_8_1
abbrev g_s_cnclaw25_PathMarks_8_2 (v3 : Int) (v0 : Rw) (M_cncref23_Motion M_cncref25_Soft M_path_At : Fn) (v4 v5 v6 : Int) (v7 v8 v1 : Rw) (M_cncref23_Fine : Fn) (v2 : Int) : Option (Nat × List AC) :=
 bif decide (0 <= v3) && decide (v3 < (v0.length : Int)) then
 (M_cncref23_Motion [jA (nth [] v0 v3.toNat) 0]).bind fun o19 =>
 bif bA o19 0 then
 (M_cncref25_Soft [.view kItm v0, I v3]).bind fun o20 =>
 bif decide (gA o20 0 < 0) then
 (M_path_At [I v4, I v5, I v6, .view kSgm v7, .view kPt v8, jA (nth [] v1 v3.toNat) 0]).bind fun o21 =>
 bif decide (0 <= v3) && decide (v3 < (v0.length : Int)) then
 (M_cncref23_Fine [jA (nth [] v0 v3.toNat) 5, jA (nth [] v0 v3.toNat) 6, jA (nth [] v0 v3.toNat) 7]).bind fun o22 =>
 bif !(gA o21 0 == gA o22 0 && (gA o21 1 == gA o22 1 && (gA o21 2 == gA o22 2 && true))) then
 some (1, [B false])
 else
 bif gA (nth [] v1 v3.toNat) 1 == 3 then
 some (1, [B false])
 else
 bif gA (nth [] v1 v3.toNat) 1 == 5 then
 some (1, [B false])
 else
 g_s_cnclaw25_PathMarks_8_1 v3 v0 v1 v2 v4 v5 v6 v7 v8
 else
 none
 else
 g_s_cnclaw25_PathMarks_8_1 v3 v0 v1 v2 v4 v5 v6 v7 v8
 else
 g_s_cnclaw25_PathMarks_8_1 v3 v0 v1 v2 v4 v5 v6 v7 v8
 else
 none
attribute [go_sem] g_s_cnclaw25_PathMarks_8_2
theorem st_cnclaw25_PathMarks_8_eq (M_cncref23_Fine M_path_At M_cncref25_Soft M_cncref23_Motion M_path_Length M_path_Build M_cncmill_Items M_cncmill_Mod M_cnclaw25_awake : Fn) (v0 v1 : Rw) (v2 v3 v4 v5 v6 : Int) (v7 v8 : Rw) : st_cnclaw25_PathMarks_8 M_cncref23_Fine M_path_At M_cncref25_Soft M_cncref23_Motion M_path_Length M_path_Build M_cncmill_Items M_cncmill_Mod M_cnclaw25_awake [.view kItm v0, .view kPt v1, I v2, I v3, I v4, I v5, I v6, .view kSgm v7, .view kPt v8] =
 bif decide (v3 < v2) then
 bif decide (0 <= v3) && decide (v3 < (v1.length : Int)) then
 bif gA (nth [] v1 v3.toNat) 2 != v3 then
 some (1, [B false])
 else
 bif decide (gA (nth [] v1 v3.toNat) 0 < 0) then
 some (1, [B false])
 else
 (M_path_Length [I v4, I v5, I v6, .view kSgm v7, .view kPt v8]).bind fun o18 =>
 bif decide (gA (nth [] v1 v3.toNat) 0 > gA o18 0) then
 some (1, [B false])
 else
 bif decide (v3 > 0) then
 bif decide (0 <= IntKind.i64.wrap (v3 - 1)) && decide (IntKind.i64.wrap (v3 - 1) < (v8.length : Int)) then
 bif decide (gA (nth [] v1 v3.toNat) 0 < gA (nth [] v8 (IntKind.i64.wrap (v3 - 1)).toNat) 0) then
 some (1, [B false])
 else
 g_s_cnclaw25_PathMarks_8_2 v3 v0 M_cncref23_Motion M_cncref25_Soft M_path_At v4 v5 v6 v7 v8 v1 M_cncref23_Fine v2
 else
 none
 else
 g_s_cnclaw25_PathMarks_8_2 v3 v0 M_cncref23_Motion M_cncref25_Soft M_path_At v4 v5 v6 v7 v8 v1 M_cncref23_Fine v2
 else
 none
 else
 some (2, []) := by kernel_rfl
theorem mf_cnclaw25_PathMarks_eq (M_cncref23_Fine M_path_At M_cncref25_Soft M_cncref23_Motion M_path_Length M_path_Build M_cncmill_Items M_cncmill_Mod M_cnclaw25_awake : Fn) (N8 : Lp) (x0 : Rw) (x1 : Int) : mf_cnclaw25_PathMarks M_cncref23_Fine M_path_At M_cncref25_Soft M_cncref23_Motion M_path_Length M_path_Build M_cncmill_Items M_cncmill_Mod M_cnclaw25_awake N8 [.view kInts x0, I x1] =
 (M_cnclaw25_awake []).bind fun o27 =>
 bif !bA o27 0 then
 some [B false]
 else
 (M_cncmill_Mod [I x1, I 10]).bind fun o28 =>
 (M_cncmill_Items [.view kInts x0, jA o28 0, B (x1.tmod 2 == 0)]).bind fun o29 =>
 (M_path_Build [.view kItm (wA o29 0)]).bind fun o30 =>
 bif gA o30 5 != 0 then
 some [B false]
 else
 bif (↑(wA o30 4).length : Int) != (↑(wA o29 0).length : Int) then
 some [B false]
 else
 (N8 [.view kItm (wA o29 0), .view kPt (wA o30 4), I (↑(wA o30 4).length : Int), I 0, jA o30 0, jA o30 1, jA o30 2, .view kSgm (wA o30 3), .view kPt (wA o30 4)]).bind fun o31 =>
 bif o31.1.beq 1 then
 some [B (bA o31.2 0)]
 else
 bif o31.1.beq 2 then
 some [B true]
 else
 none := by kernel_rfl
def l_cnclaw25_PathMarks_8 := loopC (st_cnclaw25_PathMarks_8 m_cncref23_Fine m_path_At m_cncref25_Soft m_cncref23_Motion m_path_Length m_path_Build m_cncmill_Items m_cncmill_Mod m_cnclaw25_awake )
def m_cnclaw25_PathMarks := mf_cnclaw25_PathMarks m_cncref23_Fine m_path_At m_cncref25_Soft m_cncref23_Motion m_path_Length m_path_Build m_cncmill_Items m_cncmill_Mod m_cnclaw25_awake l_cnclaw25_PathMarks_8
theorem sp_cnclaw25_PathMarks : SpecOK Try.prog (C_cnclaw25_PathMarks_0 m_cncref23_Fine m_path_At m_cncref25_Soft m_cncref23_Motion m_path_Length m_path_Build m_cncmill_Items m_cncmill_Mod m_cnclaw25_awake) := specOK_of rfl ⟨r_cncref23_Fine, r_path_At, r_cncref25_Soft, r_cncref23_Motion, r_path_Length, r_path_Build, r_cncmill_Items, r_cncmill_Mod, r_cnclaw25_awake, trivial⟩
theorem c_cnclaw25_PathMarks : ∀ (args : List TV) (v : TV) (mem : Mem), (spOf sig_cnclaw25_PathMarks osig_cnclaw25_PathMarks m_cnclaw25_PathMarks (TV × Mem) args ⟨[], []⟩ fun v m => some (v, m)) = some (v, mem) -> PCallM Try.prog 11 args ⟨[], []⟩ v mem := fun args v mem h => callM_of (f := 11) (C := (C_cnclaw25_PathMarks_1 m_cncref23_Fine m_path_At m_cncref25_Soft m_cncref23_Motion m_path_Length m_path_Build m_cncmill_Items m_cncmill_Mod m_cnclaw25_awake l_cnclaw25_PathMarks_8)) (L := 64) (by kernel_rfl) ((FnOK.bare rfl rfl rfl).loop sp_cnclaw25_PathMarks eqOk mixOk (by kernel_rfl) (by kernel_rfl)) sp_cnclaw25_PathMarks eqOk mixOk (by kernel_rfl) (by kernel_rfl) args v mem h
def sig_cnclaw25_PathSettled : Sk := { tmps := [tf [CS.sl kInts], tf [ci], tf [ci]], boxes := [], rows := [] }
def osig_cnclaw25_PathSettled : Sk := { tmps := [tf [CS.bool]], boxes := [], rows := [] }
def C_cnclaw25_PathSettled_0 (M_path_At M_path_Length M_path_Settled M_path_Build M_cncmill_Items M_cncmill_Mod M_cnclaw25_awake : Fn) : Cfg := { spec := lookS [(45, spOf sig_path_At osig_path_At M_path_At), (46, spOf sig_path_Length osig_path_Length M_path_Length), (52, spOf sig_path_Settled osig_path_Settled M_path_Settled), (43, spOf sig_path_Build osig_path_Build M_path_Build), (47, spOf sig_cncmill_Items osig_cncmill_Items M_cncmill_Items), (23, spOf sig_cncmill_Mod osig_cncmill_Mod M_cncmill_Mod), (42, spOf sig_cnclaw25_awake osig_cnclaw25_awake M_cnclaw25_awake)], eqOk := eqAll, ownOff := ownOff, unroll := [13] }
def sk_cnclaw25_PathSettled_19 : Sk := { tmps := [td, td, tf [ci], td, td, td, td, tf [CS.sl kItm], tf [ci], td, td, tf [CS.ptr 11 0], td, tf [ci], td, td, td, td, td, td, td, td, td, td, td, td, td, td, td, td, td, td, td, td, td, td, td, td, td, td, td, td, td, td, td, td, td, td, td, td, td, td, td, td, td, td, td, td, td, td, td, td, td, td, td, td, td, td, td, td, td, td, td, td, td, td, td, td, td, td, td, td, td, td, td, td, td, td, td, td, td, td, td, td, td, td, td, td, td, td, tf [CS.sl kPt], tf [ci], tf [ci]] ++ dd 25, boxes := [(11, 51, [ci, ci, ci, CS.sl kSgm, CS.sl kPt])], rows := [] }
def ex_cnclaw25_PathSettled_19 : List (Ex × Sk) := [(Ex.ret, { tmps := [td, td, td, td, td, td, tf [CS.bool]] ++ dd 121, boxes := [], rows := [] }), (Ex.exit 4, { tmps := [td, td, tf [ci], td, td, td, td, tf [CS.sl kItm], tf [ci]] ++ dd 119, boxes := [], rows := [] })]
def st_cnclaw25_PathSettled_19 (M_path_At M_path_Length M_path_Settled M_path_Build M_cncmill_Items M_cncmill_Mod M_cnclaw25_awake : Fn) : Lp := stepL Try.prog (C_cnclaw25_PathSettled_0 M_path_At M_path_Length M_path_Settled M_path_Build M_cncmill_Items M_cncmill_Mod M_cnclaw25_awake) 64 19 (bodyOf Try.prog 13 19) sk_cnclaw25_PathSettled_19 ex_cnclaw25_PathSettled_19
def C_cnclaw25_PathSettled_1 (M_path_At M_path_Length M_path_Settled M_path_Build M_cncmill_Items M_cncmill_Mod M_cnclaw25_awake : Fn) (N19 : Lp) : Cfg := (C_cnclaw25_PathSettled_0 M_path_At M_path_Length M_path_Settled M_path_Build M_cncmill_Items M_cncmill_Mod M_cnclaw25_awake).loop 19 sk_cnclaw25_PathSettled_19 ex_cnclaw25_PathSettled_19 N19
def sk_cnclaw25_PathSettled_5 : Sk := { tmps := [td, td, tf [ci], td, td, td, td, tf [CS.sl kItm], tf [ci]] ++ dd 119, boxes := [], rows := [] }
def ex_cnclaw25_PathSettled_5 : List (Ex × Sk) := [(Ex.ret, { tmps := [td, td, td, td, td, td, tf [CS.bool]] ++ dd 121, boxes := [], rows := [] }), (Ex.exit 0, { tmps := [td] ++ dd 127, boxes := [], rows := [] })]
def st_cnclaw25_PathSettled_5 (M_path_At M_path_Length M_path_Settled M_path_Build M_cncmill_Items M_cncmill_Mod M_cnclaw25_awake : Fn) (N19 : Lp) : Lp := stepL Try.prog (C_cnclaw25_PathSettled_1 M_path_At M_path_Length M_path_Settled M_path_Build M_cncmill_Items M_cncmill_Mod M_cnclaw25_awake N19) 64 5 (bodyOf Try.prog 13 5) sk_cnclaw25_PathSettled_5 ex_cnclaw25_PathSettled_5
def C_cnclaw25_PathSettled_2 (M_path_At M_path_Length M_path_Settled M_path_Build M_cncmill_Items M_cncmill_Mod M_cnclaw25_awake : Fn) (N19 N5 : Lp) : Cfg := (C_cnclaw25_PathSettled_1 M_path_At M_path_Length M_path_Settled M_path_Build M_cncmill_Items M_cncmill_Mod M_cnclaw25_awake N19).loop 5 sk_cnclaw25_PathSettled_5 ex_cnclaw25_PathSettled_5 N5
def mf_cnclaw25_PathSettled (M_path_At M_path_Length M_path_Settled M_path_Build M_cncmill_Items M_cncmill_Mod M_cnclaw25_awake : Fn) (N19 N5 : Lp) : Fn := modelF Try.prog (C_cnclaw25_PathSettled_2 M_path_At M_path_Length M_path_Settled M_path_Build M_cncmill_Items M_cncmill_Mod M_cnclaw25_awake N19 N5) 64 13 sig_cnclaw25_PathSettled osig_cnclaw25_PathSettled
theorem st_cnclaw25_PathSettled_19_eq (M_path_At M_path_Length M_path_Settled M_path_Build M_cncmill_Items M_cncmill_Mod M_cnclaw25_awake : Fn) (v0 : Int) (v1 : Rw) (v2 v3 : Int) (v4 : Rw) (v5 v6 v7 v8 v9 : Int) (v10 v11 : Rw) : st_cnclaw25_PathSettled_19 M_path_At M_path_Length M_path_Settled M_path_Build M_cncmill_Items M_cncmill_Mod M_cnclaw25_awake [I v0, .view kItm v1, I v2, I v3, .view kPt v4, I v5, I v6, I v7, I v8, I v9, .view kSgm v10, .view kPt v11] =
 bif decide (v6 < v5) then
 bif decide (0 <= v6) && decide (v6 < (v4.length : Int)) then
 bif decide (gA (nth [] v4 v6.toNat) 0 < v3) then
 bif decide (v6 >= (v11.length : Int)) then
 some (1, [B false])
 else
 bif decide (0 <= v6) && decide (v6 < (v11.length : Int)) then
 bif !(gA (nth [] v11 v6.toNat) 0 == gA (nth [] v4 v6.toNat) 0 && (gA (nth [] v11 v6.toNat) 1 == gA (nth [] v4 v6.toNat) 1 && (gA (nth [] v11 v6.toNat) 2 == gA (nth [] v4 v6.toNat) 2 && true))) then
 some (1, [B false])
 else
 some (0, [I v0, .view kItm v1, I v2, I v3, .view kPt v4, I v5, I (IntKind.i64.wrap (v6 + 1)), I v7, I v8, I v9, .view kSgm v10, .view kPt v11])
 else
 none
 else
 some (0, [I v0, .view kItm v1, I v2, I v3, .view kPt v4, I v5, I (IntKind.i64.wrap (v6 + 1)), I v7, I v8, I v9, .view kSgm v10, .view kPt v11])
 else
 none
 else
 some (2, [I v0, .view kItm v1, I v2]) := by kernel_rfl
abbrev g_s_cnclaw25_PathSettled_5_3 (N19 : Lp) (v0 : Int) (v1 : Rw) (v2 : Int) (o83 o81 o82 : List AC) : Option (Nat × List AC) :=
 (N19 [I v0, .view kItm v1, I v2, jA o83 0, .view kPt (wA o81 4), I (↑(wA o81 4).length : Int), I 0, jA o82 0, jA o82 1, jA o82 2, .view kSgm (wA o82 3), .view kPt (wA o82 4)]).bind fun o93 =>
 bif o93.1.beq 1 then
 some (1, [B (bA o93.2 0)])
 else
 bif o93.1.beq 2 then
 some (0, [jA o93.2 0, .view kItm (wA o93.2 1), I (IntKind.i64.wrap (gA o93.2 2 + 1))])
 else
 none
attribute [go_sem] g_s_cnclaw25_PathSettled_5_3
abbrev g_s_cnclaw25_PathSettled_5_1 (v2 : Int) (o81 : List AC) (M_path_At : Fn) (o83 o82 : List AC) (N19 : Lp) (v0 : Int) (v1 : Rw) : Option (Nat × List AC) :=
 bif decide (v2 > 0) then
 bif decide ((↑(wA o81 3).length : Int) > 0) then
 (M_path_At [jA o81 0, jA o81 1, jA o81 2, .view kSgm (wA o81 3), .view kPt (wA o81 4), I (mx (IntKind.i64.wrap (gA o83 0 - 1)) 0)]).bind fun o91 =>
 (M_path_At [jA o82 0, jA o82 1, jA o82 2, .view kSgm (wA o82 3), .view kPt (wA o82 4), I (mx (IntKind.i64.wrap (gA o83 0 - 1)) 0)]).bind fun o92 =>
 bif !(gA o91 0 == gA o92 0 && (gA o91 1 == gA o92 1 && (gA o91 2 == gA o92 2 && true))) then
 some (1, [B false])
 else
 g_s_cnclaw25_PathSettled_5_3 N19 v0 v1 v2 o83 o81 o82
 else
 g_s_cnclaw25_PathSettled_5_3 N19 v0 v1 v2 o83 o81 o82
 else
 g_s_cnclaw25_PathSettled_5_3 N19 v0 v1 v2 o83 o81 o82
attribute [go_sem] g_s_cnclaw25_PathSettled_5_1
abbrev g_s_cnclaw25_PathSettled_5_2 (v2 : Int) (o81 : List AC) (M_path_At : Fn) (o86 o82 o83 : List AC) (N19 : Lp) (v0 : Int) (v1 : Rw) : Option (Nat × List AC) :=
 bif decide (v2 > 0) then
 bif decide ((↑(wA o81 3).length : Int) > 0) then
 (M_path_At [jA o81 0, jA o81 1, jA o81 2, .view kSgm (wA o81 3), .view kPt (wA o81 4), jA o86 0]).bind fun o89 =>
 (M_path_At [jA o82 0, jA o82 1, jA o82 2, .view kSgm (wA o82 3), .view kPt (wA o82 4), jA o86 0]).bind fun o90 =>
 bif !(gA o89 0 == gA o90 0 && (gA o89 1 == gA o90 1 && (gA o89 2 == gA o90 2 && true))) then
 some (1, [B false])
 else
 g_s_cnclaw25_PathSettled_5_1 v2 o81 M_path_At o83 o82 N19 v0 v1
 else
 g_s_cnclaw25_PathSettled_5_1 v2 o81 M_path_At o83 o82 N19 v0 v1
 else
 g_s_cnclaw25_PathSettled_5_1 v2 o81 M_path_At o83 o82 N19 v0 v1
attribute [go_sem] g_s_cnclaw25_PathSettled_5_2
theorem st_cnclaw25_PathSettled_5_eq (M_path_At M_path_Length M_path_Settled M_path_Build M_cncmill_Items M_cncmill_Mod M_cnclaw25_awake : Fn) (N19 : Lp) (v0 : Int) (v1 : Rw) (v2 : Int) : st_cnclaw25_PathSettled_5 M_path_At M_path_Length M_path_Settled M_path_Build M_cncmill_Items M_cncmill_Mod M_cnclaw25_awake N19 [I v0, .view kItm v1, I v2] =
 bif decide (v2 <= (v1.length : Int)) then
 bif decide (0 <= v2) && decide (v2 <= (v1.length : Int)) then
 (M_path_Build [.view kItm (List.take v2.toNat v1)]).bind fun o81 =>
 (M_path_Build [.view kItm v1]).bind fun o82 =>
 bif decide (0 <= v2) && decide (v2 <= (v1.length : Int)) then
 (M_path_Settled [.view kItm (List.take v2.toNat v1)]).bind fun o83 =>
 bif gA o81 5 != 0 then
 some (1, [B false])
 else
 bif gA o82 5 != 0 then
 some (1, [B false])
 else
 bif decide (gA o83 0 < 0) then
 some (1, [B false])
 else
 (M_path_Length [jA o81 0, jA o81 1, jA o81 2, .view kSgm (wA o81 3), .view kPt (wA o81 4)]).bind fun o84 =>
 bif decide (gA o83 0 > gA o84 0) then
 some (1, [B false])
 else
 (M_path_Settled [.view kItm v1]).bind fun o85 =>
 bif decide (gA o83 0 > gA o85 0) then
 some (1, [B false])
 else
 (M_cncmill_Mod [I v0, I (IntKind.i64.wrap (gA o83 0 + 1))]).bind fun o86 =>
 bif decide (v2 > 0) then
 bif decide ((↑(wA o81 3).length : Int) > 0) then
 (M_path_At [jA o81 0, jA o81 1, jA o81 2, .view kSgm (wA o81 3), .view kPt (wA o81 4), jA o83 0]).bind fun o87 =>
 (M_path_At [jA o82 0, jA o82 1, jA o82 2, .view kSgm (wA o82 3), .view kPt (wA o82 4), jA o83 0]).bind fun o88 =>
 bif !(gA o87 0 == gA o88 0 && (gA o87 1 == gA o88 1 && (gA o87 2 == gA o88 2 && true))) then
 some (1, [B false])
 else
 g_s_cnclaw25_PathSettled_5_2 v2 o81 M_path_At o86 o82 o83 N19 v0 v1
 else
 g_s_cnclaw25_PathSettled_5_2 v2 o81 M_path_At o86 o82 o83 N19 v0 v1
 else
 g_s_cnclaw25_PathSettled_5_2 v2 o81 M_path_At o86 o82 o83 N19 v0 v1
 else
 none
 else
 none
 else
 some (2, []) := by kernel_rfl
theorem mf_cnclaw25_PathSettled_eq (M_path_At M_path_Length M_path_Settled M_path_Build M_cncmill_Items M_cncmill_Mod M_cnclaw25_awake : Fn) (N19 N5 : Lp) (x0 : Rw) (x1 x2 : Int) : mf_cnclaw25_PathSettled M_path_At M_path_Length M_path_Settled M_path_Build M_cncmill_Items M_cncmill_Mod M_cnclaw25_awake N19 N5 [.view kInts x0, I x1, I x2] =
 (M_cnclaw25_awake []).bind fun o140 =>
 bif !bA o140 0 then
 some [B false]
 else
 (M_cncmill_Mod [I x1, I 9]).bind fun o141 =>
 (M_cncmill_Items [.view kInts x0, I (IntKind.i64.wrap (1 + gA o141 0)), B false]).bind fun o142 =>
 (N5 [I x2, .view kItm (wA o142 0), I 0]).bind fun o143 =>
 bif o143.1.beq 1 then
 some [B (bA o143.2 0)]
 else
 bif o143.1.beq 2 then
 some [B true]
 else
 none := by kernel_rfl
def l_cnclaw25_PathSettled_19 := loopC (st_cnclaw25_PathSettled_19 m_path_At m_path_Length m_path_Settled m_path_Build m_cncmill_Items m_cncmill_Mod m_cnclaw25_awake )
def l_cnclaw25_PathSettled_5 := loopC (st_cnclaw25_PathSettled_5 m_path_At m_path_Length m_path_Settled m_path_Build m_cncmill_Items m_cncmill_Mod m_cnclaw25_awake l_cnclaw25_PathSettled_19)
def m_cnclaw25_PathSettled := mf_cnclaw25_PathSettled m_path_At m_path_Length m_path_Settled m_path_Build m_cncmill_Items m_cncmill_Mod m_cnclaw25_awake l_cnclaw25_PathSettled_19 l_cnclaw25_PathSettled_5
theorem sp_cnclaw25_PathSettled : SpecOK Try.prog (C_cnclaw25_PathSettled_0 m_path_At m_path_Length m_path_Settled m_path_Build m_cncmill_Items m_cncmill_Mod m_cnclaw25_awake) := specOK_of rfl ⟨r_path_At, r_path_Length, r_path_Settled, r_path_Build, r_cncmill_Items, r_cncmill_Mod, r_cnclaw25_awake, trivial⟩
theorem c_cnclaw25_PathSettled : ∀ (args : List TV) (v : TV) (mem : Mem), (spOf sig_cnclaw25_PathSettled osig_cnclaw25_PathSettled m_cnclaw25_PathSettled (TV × Mem) args ⟨[], []⟩ fun v m => some (v, m)) = some (v, mem) -> PCallM Try.prog 13 args ⟨[], []⟩ v mem := fun args v mem h => callM_of (f := 13) (C := (C_cnclaw25_PathSettled_2 m_path_At m_path_Length m_path_Settled m_path_Build m_cncmill_Items m_cncmill_Mod m_cnclaw25_awake l_cnclaw25_PathSettled_19 l_cnclaw25_PathSettled_5)) (L := 64) (by kernel_rfl) (((FnOK.bare rfl rfl rfl).loop sp_cnclaw25_PathSettled eqOk mixOk (by kernel_rfl) (by kernel_rfl)).loop sp_cnclaw25_PathSettled eqOk mixOk (by kernel_rfl) (by kernel_rfl)) sp_cnclaw25_PathSettled eqOk mixOk (by kernel_rfl) (by kernel_rfl) args v mem h
end Go.Bm
