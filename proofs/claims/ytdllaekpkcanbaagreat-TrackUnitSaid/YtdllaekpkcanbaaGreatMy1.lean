/- functions of the program and of the references, as models -/
import Derived.Test.YtdllaekpkcanbaaGreatMx5
import Derived.Test.YtdllaekpkcanbaaGreatSeAw0
import Derived.Test.YtdllaekpkcanbaaGreatSeAw29
set_option linter.unusedSimpArgs false
set_option linter.unusedVariables false
set_option maxRecDepth 100000
noncomputable section
namespace Go.Bm
open Go.Proofs
def sig_cnclaw29_run : Sk := { tmps := [tf [CS.sl kInts], tf [CS.sl kInts], tf [ci], tf [ci], tf [ci]], boxes := [], rows := [] }
def osig_cnclaw29_run : Sk := { tmps := [TS.tup [(true, [ci, ci, ci, CS.sl kSgm, CS.sl kPt, ci, ci, ci, ci, ci, ci, ci, ci, ci, CS.sl kInts, ci, ci, ci, ci, ci, ci, ci, ci, ci, CS.sl kInts, ci, ci, ci, ci, ci, ci, ci, ci, ci, CS.sl kInts, CS.sl kPce, ci, ci, ci, ci, ci]), (false, [ci])]], boxes := [], rows := [] }
def C_cnclaw29_run_0 (M_cncref29_Leg M_cncmill_Mod M_cncmill_Dirs M_cncref25_Length M_cncmill_Axes M_cncmill_Path : Fn) : Cfg := { spec := lookS [(27, spOf sig_cncref29_Leg osig_cncref29_Leg M_cncref29_Leg), (16, spOf sig_cncmill_Mod osig_cncmill_Mod M_cncmill_Mod), (24, spOf sig_cncmill_Dirs osig_cncmill_Dirs M_cncmill_Dirs), (25, spOf sig_cncref25_Length osig_cncref25_Length M_cncref25_Length), (23, spOf sig_cncmill_Axes osig_cncmill_Axes M_cncmill_Axes), (22, spOf sig_cncmill_Path osig_cncmill_Path M_cncmill_Path)], eqOk := eqAll, ownOff := ownOff }
def mf_cnclaw29_run (M_cncref29_Leg M_cncmill_Mod M_cncmill_Dirs M_cncref25_Length M_cncmill_Axes M_cncmill_Path : Fn) : Fn := modelF Tryz.prog (C_cnclaw29_run_0 M_cncref29_Leg M_cncmill_Mod M_cncmill_Dirs M_cncref25_Length M_cncmill_Axes M_cncmill_Path) 64 15 sig_cnclaw29_run osig_cnclaw29_run
theorem mf_cnclaw29_run_eq (M_cncref29_Leg M_cncmill_Mod M_cncmill_Dirs M_cncref25_Length M_cncmill_Axes M_cncmill_Path : Fn) (x0 x1 : Rw) (x2 x3 x4 : Int) : mf_cnclaw29_run M_cncref29_Leg M_cncmill_Mod M_cncmill_Dirs M_cncref25_Length M_cncmill_Axes M_cncmill_Path [.view kInts x0, .view kInts x1, I x2, I x3, I x4] =
 (M_cncmill_Path [.view kInts x0, I 5]).bind fun o7 =>
 (M_cncmill_Axes [.view kInts x1]).bind fun o8 =>
 (M_cncref25_Length [jA o7 0, jA o7 1, jA o7 2, .view kSgm (wA o7 3), .view kPt (wA o7 4)]).bind fun o9 =>
 (M_cncmill_Dirs [I x2]).bind fun o10 =>
 (M_cncmill_Mod [I x3, I (IntKind.i64.wrap (gA o9 0 + 1))]).bind fun o11 =>
 (M_cncmill_Mod [I x4, I (IntKind.i64.wrap (gA o9 0 + 1))]).bind fun o12 =>
 (M_cncref29_Leg [jA o7 0, jA o7 1, jA o7 2, .view kSgm (wA o7 3), .view kPt (wA o7 4), jA o8 0, jA o8 1, jA o8 2, jA o8 3, jA o8 4, jA o8 5, jA o8 6, jA o8 7, jA o8 8, .view kInts (wA o8 9), jA o8 10, jA o8 11, jA o8 12, jA o8 13, jA o8 14, jA o8 15, jA o8 16, jA o8 17, jA o8 18, .view kInts (wA o8 19), jA o8 20, jA o8 21, jA o8 22, jA o8 23, jA o8 24, jA o8 25, jA o8 26, jA o8 27, jA o8 28, .view kInts (wA o8 29), jA o10 0, jA o10 1, jA o10 2, jA o11 0, jA o12 0]).bind fun o13 =>
 some [jA o7 0, jA o7 1, jA o7 2, .view kSgm (wA o7 3), .view kPt (wA o7 4), jA o8 0, jA o8 1, jA o8 2, jA o8 3, jA o8 4, jA o8 5, jA o8 6, jA o8 7, jA o8 8, .view kInts (wA o8 9), jA o8 10, jA o8 11, jA o8 12, jA o8 13, jA o8 14, jA o8 15, jA o8 16, jA o8 17, jA o8 18, .view kInts (wA o8 19), jA o8 20, jA o8 21, jA o8 22, jA o8 23, jA o8 24, jA o8 25, jA o8 26, jA o8 27, jA o8 28, .view kInts (wA o8 29), .view kPce (wA o13 0), jA o13 1, jA o13 2, jA o13 3, jA o13 4, jA o13 5, jA o9 0] := by kernel_rfl
def m_cnclaw29_run := mf_cnclaw29_run m_cncref29_Leg m_cncmill_Mod m_cncmill_Dirs m_cncref25_Length m_cncmill_Axes m_cncmill_Path 
theorem sp_cnclaw29_run : SpecOK Tryz.prog (C_cnclaw29_run_0 m_cncref29_Leg m_cncmill_Mod m_cncmill_Dirs m_cncref25_Length m_cncmill_Axes m_cncmill_Path) := specOK_of rfl ⟨r_cncref29_Leg, r_cncmill_Mod, r_cncmill_Dirs, r_cncref25_Length, r_cncmill_Axes, r_cncmill_Path, trivial⟩
theorem r_cnclaw29_run : RowOK Tryz.prog (15, spOf sig_cnclaw29_run osig_cnclaw29_run m_cnclaw29_run) := row_of (C := (C_cnclaw29_run_0 m_cncref29_Leg m_cncmill_Mod m_cncmill_Dirs m_cncref25_Length m_cncmill_Axes m_cncmill_Path)) (L := 64) (by kernel_rfl) (FnOK.bare rfl rfl rfl) sp_cnclaw29_run eqOk mixOk (by kernel_rfl) (by kernel_rfl)
def sig_cnclaw29_TrackUnit : Sk := { tmps := [tf [CS.sl kInts], tf [CS.sl kInts], tf [ci], tf [ci], tf [ci]], boxes := [], rows := [] }
def osig_cnclaw29_TrackUnit : Sk := { tmps := [tf [CS.bool]], boxes := [], rows := [] }
def C_cnclaw29_TrackUnit_0 (M_track_Motors M_cnclaw29_run M_cnclaw29_awake : Fn) : Cfg := { spec := lookS [(17, spOf sig_track_Motors osig_track_Motors M_track_Motors), (15, spOf sig_cnclaw29_run osig_cnclaw29_run M_cnclaw29_run), (14, spOf sig_cnclaw29_awake osig_cnclaw29_awake M_cnclaw29_awake)], eqOk := eqAll, ownOff := ownOff, unroll := [10] }
def sk_cnclaw29_TrackUnit_6 : Sk := { tmps := [td, td, td, td, td, td, td, td, td, td, td, tf [CS.ptr 11 0], td, tf [CS.ptr 13 0], tf [ci]] ++ dd 54, boxes := [(11, 37, [ci, ci, ci, CS.sl kSgm, CS.sl kPt, ci, ci, ci, ci, ci, ci, ci, ci, ci, CS.sl kInts, ci, ci, ci, ci, ci, ci, ci, ci, ci, CS.sl kInts, ci, ci, ci, ci, ci, ci, ci, ci, ci, CS.sl kInts, CS.sl kPce, ci, ci, ci, ci, ci]), (13, 24, [ci, ci, ci])], rows := [] }
def ex_cnclaw29_TrackUnit_6 : List (Ex × Sk) := [(Ex.ret, { tmps := [td, td, td, td, td, td, td, td, td, td, tf [CS.bool]] ++ dd 58, boxes := [], rows := [] }), (Ex.exit 0, { tmps := [td] ++ dd 68, boxes := [], rows := [] })]
def st_cnclaw29_TrackUnit_6 (M_track_Motors M_cnclaw29_run M_cnclaw29_awake : Fn) : Lp := stepL Tryz.prog (C_cnclaw29_TrackUnit_0 M_track_Motors M_cnclaw29_run M_cnclaw29_awake) 64 6 (bodyOf Tryz.prog 4 6) sk_cnclaw29_TrackUnit_6 ex_cnclaw29_TrackUnit_6
def C_cnclaw29_TrackUnit_1 (M_track_Motors M_cnclaw29_run M_cnclaw29_awake : Fn) (N6 : Lp) : Cfg := (C_cnclaw29_TrackUnit_0 M_track_Motors M_cnclaw29_run M_cnclaw29_awake).loop 6 sk_cnclaw29_TrackUnit_6 ex_cnclaw29_TrackUnit_6 N6
def mf_cnclaw29_TrackUnit (M_track_Motors M_cnclaw29_run M_cnclaw29_awake : Fn) (N6 : Lp) : Fn := modelF Tryz.prog (C_cnclaw29_TrackUnit_1 M_track_Motors M_cnclaw29_run M_cnclaw29_awake N6) 64 4 sig_cnclaw29_TrackUnit osig_cnclaw29_TrackUnit
theorem st_cnclaw29_TrackUnit_6_eq (M_track_Motors M_cnclaw29_run M_cnclaw29_awake : Fn) (v0 v1 v2 v3 : Int) (v4 v5 : Rw) (v6 v7 v8 v9 v10 v11 v12 v13 v14 : Int) (v15 : Rw) (v16 v17 v18 v19 v20 v21 v22 v23 v24 : Int) (v25 : Rw) (v26 v27 v28 v29 v30 v31 v32 v33 v34 : Int) (v35 v36 : Rw) (v37 v38 v39 v40 v41 v42 v43 v44 : Int) : st_cnclaw29_TrackUnit_6 M_track_Motors M_cnclaw29_run M_cnclaw29_awake [I v0, I v1, I v2, I v3, .view kSgm v4, .view kPt v5, I v6, I v7, I v8, I v9, I v10, I v11, I v12, I v13, I v14, .view kInts v15, I v16, I v17, I v18, I v19, I v20, I v21, I v22, I v23, I v24, .view kInts v25, I v26, I v27, I v28, I v29, I v30, I v31, I v32, I v33, I v34, .view kInts v35, .view kPce v36, I v37, I v38, I v39, I v40, I v41, I v42, I v43, I v44] =
 bif decide (v0 <= v37) then
 (M_track_Motors [I v1, I v2, I v3, .view kSgm v4, .view kPt v5, I v6, I v7, I v8, I v9, I v10, I v11, I v12, I v13, I v14, .view kInts v15, I v16, I v17, I v18, I v19, I v20, I v21, I v22, I v23, I v24, .view kInts v25, I v26, I v27, I v28, I v29, I v30, I v31, I v32, I v33, I v34, .view kInts v35, .view kPce v36, I v37, I v38, I v39, I v40, I v41, I v0]).bind fun o8 =>
 bif decide (IntKind.i64.wrap (gA o8 0 - v42) > 1) then
 some (1, [B false])
 else
 bif decide (IntKind.i64.wrap (gA o8 0 - v42) < -1) then
 some (1, [B false])
 else
 bif decide (IntKind.i64.wrap (gA o8 1 - v43) > 1) then
 some (1, [B false])
 else
 bif decide (IntKind.i64.wrap (gA o8 1 - v43) < -1) then
 some (1, [B false])
 else
 bif decide (IntKind.i64.wrap (gA o8 2 - v44) > 1) then
 some (1, [B false])
 else
 bif decide (IntKind.i64.wrap (gA o8 2 - v44) < -1) then
 some (1, [B false])
 else
 some (0, [I (IntKind.i64.wrap (v0 + 1)), I v1, I v2, I v3, .view kSgm v4, .view kPt v5, I v6, I v7, I v8, I v9, I v10, I v11, I v12, I v13, I v14, .view kInts v15, I v16, I v17, I v18, I v19, I v20, I v21, I v22, I v23, I v24, .view kInts v25, I v26, I v27, I v28, I v29, I v30, I v31, I v32, I v33, I v34, .view kInts v35, .view kPce v36, I v37, I v38, I v39, I v40, I v41, jA o8 0, jA o8 1, jA o8 2])
 else
 some (2, []) := by kernel_rfl
theorem mf_cnclaw29_TrackUnit_eq (M_track_Motors M_cnclaw29_run M_cnclaw29_awake : Fn) (N6 : Lp) (x0 x1 : Rw) (x2 x3 x4 : Int) : mf_cnclaw29_TrackUnit M_track_Motors M_cnclaw29_run M_cnclaw29_awake N6 [.view kInts x0, .view kInts x1, I x2, I x3, I x4] =
 (M_cnclaw29_awake []).bind fun o9 =>
 bif !bA o9 0 then
 some [B false]
 else
 (M_cnclaw29_run [.view kInts x0, .view kInts x1, I x2, I x3, I x4]).bind fun o10 =>
 (M_track_Motors [jA o10 0, jA o10 1, jA o10 2, .view kSgm (wA o10 3), .view kPt (wA o10 4), jA o10 5, jA o10 6, jA o10 7, jA o10 8, jA o10 9, jA o10 10, jA o10 11, jA o10 12, jA o10 13, .view kInts (wA o10 14), jA o10 15, jA o10 16, jA o10 17, jA o10 18, jA o10 19, jA o10 20, jA o10 21, jA o10 22, jA o10 23, .view kInts (wA o10 24), jA o10 25, jA o10 26, jA o10 27, jA o10 28, jA o10 29, jA o10 30, jA o10 31, jA o10 32, jA o10 33, .view kInts (wA o10 34), .view kPce (wA o10 35), jA o10 36, jA o10 37, jA o10 38, jA o10 39, jA o10 40, I 0]).bind fun o11 =>
 (N6 [I 1, jA o10 0, jA o10 1, jA o10 2, .view kSgm (wA o10 3), .view kPt (wA o10 4), jA o10 5, jA o10 6, jA o10 7, jA o10 8, jA o10 9, jA o10 10, jA o10 11, jA o10 12, jA o10 13, .view kInts (wA o10 14), jA o10 15, jA o10 16, jA o10 17, jA o10 18, jA o10 19, jA o10 20, jA o10 21, jA o10 22, jA o10 23, .view kInts (wA o10 24), jA o10 25, jA o10 26, jA o10 27, jA o10 28, jA o10 29, jA o10 30, jA o10 31, jA o10 32, jA o10 33, .view kInts (wA o10 34), .view kPce (wA o10 35), jA o10 36, jA o10 37, jA o10 38, jA o10 39, jA o10 40, jA o11 0, jA o11 1, jA o11 2]).bind fun o12 =>
 bif o12.1.beq 1 then
 some [B (bA o12.2 0)]
 else
 bif o12.1.beq 2 then
 some [B true]
 else
 none := by kernel_rfl
def l_cnclaw29_TrackUnit_6 := loopC (st_cnclaw29_TrackUnit_6 m_track_Motors m_cnclaw29_run m_cnclaw29_awake )
def m_cnclaw29_TrackUnit := mf_cnclaw29_TrackUnit m_track_Motors m_cnclaw29_run m_cnclaw29_awake l_cnclaw29_TrackUnit_6
theorem sp_cnclaw29_TrackUnit : SpecOK Tryz.prog (C_cnclaw29_TrackUnit_0 m_track_Motors m_cnclaw29_run m_cnclaw29_awake) := specOK_of rfl ⟨r_track_Motors, r_cnclaw29_run, r_cnclaw29_awake, trivial⟩
theorem c_cnclaw29_TrackUnit : ∀ (args : List TV) (v : TV) (mem : Mem), (spOf sig_cnclaw29_TrackUnit osig_cnclaw29_TrackUnit m_cnclaw29_TrackUnit (TV × Mem) args ⟨[], []⟩ fun v m => some (v, m)) = some (v, mem) -> PCallM Tryz.prog 4 args ⟨[], []⟩ v mem := fun args v mem h => callM_of (f := 4) (C := (C_cnclaw29_TrackUnit_1 m_track_Motors m_cnclaw29_run m_cnclaw29_awake l_cnclaw29_TrackUnit_6)) (L := 64) (by kernel_rfl) ((FnOK.bare rfl rfl rfl).loop sp_cnclaw29_TrackUnit eqOk mixOk (by kernel_rfl) (by kernel_rfl)) sp_cnclaw29_TrackUnit eqOk mixOk (by kernel_rfl) (by kernel_rfl) args v mem h
def sig_cnclaw29_TrackWhere : Sk := { tmps := [tf [CS.sl kInts], tf [CS.sl kInts], tf [ci], tf [ci], tf [ci], tf [ci]], boxes := [], rows := [] }
def osig_cnclaw29_TrackWhere : Sk := { tmps := [tf [CS.bool]], boxes := [], rows := [] }
def C_cnclaw29_TrackWhere_0 (M_track_Place M_cncref29_Place M_track_Where M_cncmill_Mod M_cnclaw29_run M_cnclaw29_awake : Fn) : Cfg := { spec := lookS [(21, spOf sig_track_Place osig_track_Place M_track_Place), (31, spOf sig_cncref29_Place osig_cncref29_Place M_cncref29_Place), (34, spOf sig_track_Where osig_track_Where M_track_Where), (16, spOf sig_cncmill_Mod osig_cncmill_Mod M_cncmill_Mod), (15, spOf sig_cnclaw29_run osig_cnclaw29_run M_cnclaw29_run), (14, spOf sig_cnclaw29_awake osig_cnclaw29_awake M_cnclaw29_awake)], eqOk := eqAll, ownOff := ownOff, unroll := [6] }
def mf_cnclaw29_TrackWhere (M_track_Place M_cncref29_Place M_track_Where M_cncmill_Mod M_cnclaw29_run M_cnclaw29_awake : Fn) : Fn := modelF Tryz.prog (C_cnclaw29_TrackWhere_0 M_track_Place M_cncref29_Place M_track_Where M_cncmill_Mod M_cnclaw29_run M_cnclaw29_awake) 64 8 sig_cnclaw29_TrackWhere osig_cnclaw29_TrackWhere
theorem mf_cnclaw29_TrackWhere_eq (M_track_Place M_cncref29_Place M_track_Where M_cncmill_Mod M_cnclaw29_run M_cnclaw29_awake : Fn) (x0 x1 : Rw) (x2 x3 x4 x5 : Int) : mf_cnclaw29_TrackWhere M_track_Place M_cncref29_Place M_track_Where M_cncmill_Mod M_cnclaw29_run M_cnclaw29_awake [.view kInts x0, .view kInts x1, I x2, I x3, I x4, I x5] =
 (M_cnclaw29_awake []).bind fun o84 =>
 bif !bA o84 0 then
 some [B false]
 else
 (M_cnclaw29_run [.view kInts x0, .view kInts x1, I x2, I x3, I x4]).bind fun o85 =>
 (M_cncmill_Mod [I x5, I (IntKind.i64.wrap (gA o85 41 + 1))]).bind fun o86 =>
 (M_track_Where [.view kPce (wA o85 35), jA o85 36, jA o85 37, jA o85 38, jA o85 39, jA o85 40, I x5]).bind fun o87 =>
 (M_cncref29_Place [.view kPce (wA o85 35), jA o85 36, jA o85 37, jA o85 38, jA o85 39, jA o85 40, jA o85 36]).bind fun o88 =>
 (M_cncref29_Place [.view kPce (wA o85 35), jA o85 36, jA o85 37, jA o85 38, jA o85 39, jA o85 40, jA o85 36]).bind fun o89 =>
 bif decide (x5 >= mn (gA o85 37) (gA o88 0)) then
 bif !decide (gA o87 0 >= 0) == decide (x5 <= mx (gA o85 37) (gA o89 0)) then
 some [B false]
 else
 bif decide (gA o87 0 < -1) then
 some [B false]
 else
 bif decide (gA o87 0 > gA o85 36) then
 some [B false]
 else
 bif decide (gA o87 0 >= 0) then
 (M_track_Place [.view kPce (wA o85 35), jA o85 36, jA o85 37, jA o85 38, jA o85 39, jA o85 40, jA o87 0]).bind fun o90 =>
 bif gA o90 0 != x5 then
 some [B false]
 else
 bif decide (gA o87 0 > 0) then
 (M_track_Place [.view kPce (wA o85 35), jA o85 36, jA o85 37, jA o85 38, jA o85 39, jA o85 40, I (IntKind.i64.wrap (gA o87 0 - 1))]).bind fun o91 =>
 bif gA o91 0 == x5 then
 some [B false]
 else
 (M_track_Where [.view kPce (wA o85 35), jA o85 36, jA o85 37, jA o85 38, jA o85 39, jA o85 40, jA o86 0]).bind fun o92 =>
 (M_cncref29_Place [.view kPce (wA o85 35), jA o85 36, jA o85 37, jA o85 38, jA o85 39, jA o85 40, jA o85 36]).bind fun o93 =>
 (M_cncref29_Place [.view kPce (wA o85 35), jA o85 36, jA o85 37, jA o85 38, jA o85 39, jA o85 40, jA o85 36]).bind fun o94 =>
 bif decide (gA o86 0 >= mn (gA o85 37) (gA o93 0)) then
 bif !decide (gA o92 0 >= 0) == decide (gA o86 0 <= mx (gA o85 37) (gA o94 0)) then
 some [B false]
 else
 bif decide (gA o92 0 < -1) then
 some [B false]
 else
 bif decide (gA o92 0 > gA o85 36) then
 some [B false]
 else
 bif decide (gA o92 0 >= 0) then
 (M_track_Place [.view kPce (wA o85 35), jA o85 36, jA o85 37, jA o85 38, jA o85 39, jA o85 40, jA o92 0]).bind fun o95 =>
 bif gA o95 0 != gA o86 0 then
 some [B false]
 else
 bif decide (gA o92 0 > 0) then
 (M_track_Place [.view kPce (wA o85 35), jA o85 36, jA o85 37, jA o85 38, jA o85 39, jA o85 40, I (IntKind.i64.wrap (gA o92 0 - 1))]).bind fun o96 =>
 bif gA o96 0 == gA o86 0 then
 some [B false]
 else
 some [B true]
 else
 some [B true]
 else
 bif decide (gA o92 0 > 0) then
 (M_track_Place [.view kPce (wA o85 35), jA o85 36, jA o85 37, jA o85 38, jA o85 39, jA o85 40, I (IntKind.i64.wrap (gA o92 0 - 1))]).bind fun o97 =>
 bif gA o97 0 == gA o86 0 then
 some [B false]
 else
 some [B true]
 else
 some [B true]
 else
 bif !decide (gA o92 0 >= 0) == false then
 some [B false]
 else
 bif decide (gA o92 0 < -1) then
 some [B false]
 else
 bif decide (gA o92 0 > gA o85 36) then
 some [B false]
 else
 bif decide (gA o92 0 >= 0) then
 (M_track_Place [.view kPce (wA o85 35), jA o85 36, jA o85 37, jA o85 38, jA o85 39, jA o85 40, jA o92 0]).bind fun o98 =>
 bif gA o98 0 != gA o86 0 then
 some [B false]
 else
 bif decide (gA o92 0 > 0) then
 (M_track_Place [.view kPce (wA o85 35), jA o85 36, jA o85 37, jA o85 38, jA o85 39, jA o85 40, I (IntKind.i64.wrap (gA o92 0 - 1))]).bind fun o99 =>
 bif gA o99 0 == gA o86 0 then
 some [B false]
 else
 some [B true]
 else
 some [B true]
 else
 bif decide (gA o92 0 > 0) then
 (M_track_Place [.view kPce (wA o85 35), jA o85 36, jA o85 37, jA o85 38, jA o85 39, jA o85 40, I (IntKind.i64.wrap (gA o92 0 - 1))]).bind fun o100 =>
 bif gA o100 0 == gA o86 0 then
 some [B false]
 else
 some [B true]
 else
 some [B true]
 else
 (M_track_Where [.view kPce (wA o85 35), jA o85 36, jA o85 37, jA o85 38, jA o85 39, jA o85 40, jA o86 0]).bind fun o101 =>
 (M_cncref29_Place [.view kPce (wA o85 35), jA o85 36, jA o85 37, jA o85 38, jA o85 39, jA o85 40, jA o85 36]).bind fun o102 =>
 (M_cncref29_Place [.view kPce (wA o85 35), jA o85 36, jA o85 37, jA o85 38, jA o85 39, jA o85 40, jA o85 36]).bind fun o103 =>
 bif decide (gA o86 0 >= mn (gA o85 37) (gA o102 0)) then
 bif !decide (gA o101 0 >= 0) == decide (gA o86 0 <= mx (gA o85 37) (gA o103 0)) then
 some [B false]
 else
 bif decide (gA o101 0 < -1) then
 some [B false]
 else
 bif decide (gA o101 0 > gA o85 36) then
 some [B false]
 else
 bif decide (gA o101 0 >= 0) then
 (M_track_Place [.view kPce (wA o85 35), jA o85 36, jA o85 37, jA o85 38, jA o85 39, jA o85 40, jA o101 0]).bind fun o104 =>
 bif gA o104 0 != gA o86 0 then
 some [B false]
 else
 bif decide (gA o101 0 > 0) then
 (M_track_Place [.view kPce (wA o85 35), jA o85 36, jA o85 37, jA o85 38, jA o85 39, jA o85 40, I (IntKind.i64.wrap (gA o101 0 - 1))]).bind fun o105 =>
 bif gA o105 0 == gA o86 0 then
 some [B false]
 else
 some [B true]
 else
 some [B true]
 else
 bif decide (gA o101 0 > 0) then
 (M_track_Place [.view kPce (wA o85 35), jA o85 36, jA o85 37, jA o85 38, jA o85 39, jA o85 40, I (IntKind.i64.wrap (gA o101 0 - 1))]).bind fun o106 =>
 bif gA o106 0 == gA o86 0 then
 some [B false]
 else
 some [B true]
 else
 some [B true]
 else
 bif !decide (gA o101 0 >= 0) == false then
 some [B false]
 else
 bif decide (gA o101 0 < -1) then
 some [B false]
 else
 bif decide (gA o101 0 > gA o85 36) then
 some [B false]
 else
 bif decide (gA o101 0 >= 0) then
 (M_track_Place [.view kPce (wA o85 35), jA o85 36, jA o85 37, jA o85 38, jA o85 39, jA o85 40, jA o101 0]).bind fun o107 =>
 bif gA o107 0 != gA o86 0 then
 some [B false]
 else
 bif decide (gA o101 0 > 0) then
 (M_track_Place [.view kPce (wA o85 35), jA o85 36, jA o85 37, jA o85 38, jA o85 39, jA o85 40, I (IntKind.i64.wrap (gA o101 0 - 1))]).bind fun o108 =>
 bif gA o108 0 == gA o86 0 then
 some [B false]
 else
 some [B true]
 else
 some [B true]
 else
 bif decide (gA o101 0 > 0) then
 (M_track_Place [.view kPce (wA o85 35), jA o85 36, jA o85 37, jA o85 38, jA o85 39, jA o85 40, I (IntKind.i64.wrap (gA o101 0 - 1))]).bind fun o109 =>
 bif gA o109 0 == gA o86 0 then
 some [B false]
 else
 some [B true]
 else
 some [B true]
 else
 bif decide (gA o87 0 > 0) then
 (M_track_Place [.view kPce (wA o85 35), jA o85 36, jA o85 37, jA o85 38, jA o85 39, jA o85 40, I (IntKind.i64.wrap (gA o87 0 - 1))]).bind fun o110 =>
 bif gA o110 0 == x5 then
 some [B false]
 else
 (M_track_Where [.view kPce (wA o85 35), jA o85 36, jA o85 37, jA o85 38, jA o85 39, jA o85 40, jA o86 0]).bind fun o111 =>
 (M_cncref29_Place [.view kPce (wA o85 35), jA o85 36, jA o85 37, jA o85 38, jA o85 39, jA o85 40, jA o85 36]).bind fun o112 =>
 (M_cncref29_Place [.view kPce (wA o85 35), jA o85 36, jA o85 37, jA o85 38, jA o85 39, jA o85 40, jA o85 36]).bind fun o113 =>
 bif decide (gA o86 0 >= mn (gA o85 37) (gA o112 0)) then
 bif !decide (gA o111 0 >= 0) == decide (gA o86 0 <= mx (gA o85 37) (gA o113 0)) then
 some [B false]
 else
 bif decide (gA o111 0 < -1) then
 some [B false]
 else
 bif decide (gA o111 0 > gA o85 36) then
 some [B false]
 else
 bif decide (gA o111 0 >= 0) then
 (M_track_Place [.view kPce (wA o85 35), jA o85 36, jA o85 37, jA o85 38, jA o85 39, jA o85 40, jA o111 0]).bind fun o114 =>
 bif gA o114 0 != gA o86 0 then
 some [B false]
 else
 bif decide (gA o111 0 > 0) then
 (M_track_Place [.view kPce (wA o85 35), jA o85 36, jA o85 37, jA o85 38, jA o85 39, jA o85 40, I (IntKind.i64.wrap (gA o111 0 - 1))]).bind fun o115 =>
 bif gA o115 0 == gA o86 0 then
 some [B false]
 else
 some [B true]
 else
 some [B true]
 else
 bif decide (gA o111 0 > 0) then
 (M_track_Place [.view kPce (wA o85 35), jA o85 36, jA o85 37, jA o85 38, jA o85 39, jA o85 40, I (IntKind.i64.wrap (gA o111 0 - 1))]).bind fun o116 =>
 bif gA o116 0 == gA o86 0 then
 some [B false]
 else
 some [B true]
 else
 some [B true]
 else
 bif !decide (gA o111 0 >= 0) == false then
 some [B false]
 else
 bif decide (gA o111 0 < -1) then
 some [B false]
 else
 bif decide (gA o111 0 > gA o85 36) then
 some [B false]
 else
 bif decide (gA o111 0 >= 0) then
 (M_track_Place [.view kPce (wA o85 35), jA o85 36, jA o85 37, jA o85 38, jA o85 39, jA o85 40, jA o111 0]).bind fun o117 =>
 bif gA o117 0 != gA o86 0 then
 some [B false]
 else
 bif decide (gA o111 0 > 0) then
 (M_track_Place [.view kPce (wA o85 35), jA o85 36, jA o85 37, jA o85 38, jA o85 39, jA o85 40, I (IntKind.i64.wrap (gA o111 0 - 1))]).bind fun o118 =>
 bif gA o118 0 == gA o86 0 then
 some [B false]
 else
 some [B true]
 else
 some [B true]
 else
 bif decide (gA o111 0 > 0) then
 (M_track_Place [.view kPce (wA o85 35), jA o85 36, jA o85 37, jA o85 38, jA o85 39, jA o85 40, I (IntKind.i64.wrap (gA o111 0 - 1))]).bind fun o119 =>
 bif gA o119 0 == gA o86 0 then
 some [B false]
 else
 some [B true]
 else
 some [B true]
 else
 (M_track_Where [.view kPce (wA o85 35), jA o85 36, jA o85 37, jA o85 38, jA o85 39, jA o85 40, jA o86 0]).bind fun o120 =>
 (M_cncref29_Place [.view kPce (wA o85 35), jA o85 36, jA o85 37, jA o85 38, jA o85 39, jA o85 40, jA o85 36]).bind fun o121 =>
 (M_cncref29_Place [.view kPce (wA o85 35), jA o85 36, jA o85 37, jA o85 38, jA o85 39, jA o85 40, jA o85 36]).bind fun o122 =>
 bif decide (gA o86 0 >= mn (gA o85 37) (gA o121 0)) then
 bif !decide (gA o120 0 >= 0) == decide (gA o86 0 <= mx (gA o85 37) (gA o122 0)) then
 some [B false]
 else
 bif decide (gA o120 0 < -1) then
 some [B false]
 else
 bif decide (gA o120 0 > gA o85 36) then
 some [B false]
 else
 bif decide (gA o120 0 >= 0) then
 (M_track_Place [.view kPce (wA o85 35), jA o85 36, jA o85 37, jA o85 38, jA o85 39, jA o85 40, jA o120 0]).bind fun o123 =>
 bif gA o123 0 != gA o86 0 then
 some [B false]
 else
 bif decide (gA o120 0 > 0) then
 (M_track_Place [.view kPce (wA o85 35), jA o85 36, jA o85 37, jA o85 38, jA o85 39, jA o85 40, I (IntKind.i64.wrap (gA o120 0 - 1))]).bind fun o124 =>
 bif gA o124 0 == gA o86 0 then
 some [B false]
 else
 some [B true]
 else
 some [B true]
 else
 bif decide (gA o120 0 > 0) then
 (M_track_Place [.view kPce (wA o85 35), jA o85 36, jA o85 37, jA o85 38, jA o85 39, jA o85 40, I (IntKind.i64.wrap (gA o120 0 - 1))]).bind fun o125 =>
 bif gA o125 0 == gA o86 0 then
 some [B false]
 else
 some [B true]
 else
 some [B true]
 else
 bif !decide (gA o120 0 >= 0) == false then
 some [B false]
 else
 bif decide (gA o120 0 < -1) then
 some [B false]
 else
 bif decide (gA o120 0 > gA o85 36) then
 some [B false]
 else
 bif decide (gA o120 0 >= 0) then
 (M_track_Place [.view kPce (wA o85 35), jA o85 36, jA o85 37, jA o85 38, jA o85 39, jA o85 40, jA o120 0]).bind fun o126 =>
 bif gA o126 0 != gA o86 0 then
 some [B false]
 else
 bif decide (gA o120 0 > 0) then
 (M_track_Place [.view kPce (wA o85 35), jA o85 36, jA o85 37, jA o85 38, jA o85 39, jA o85 40, I (IntKind.i64.wrap (gA o120 0 - 1))]).bind fun o127 =>
 bif gA o127 0 == gA o86 0 then
 some [B false]
 else
 some [B true]
 else
 some [B true]
 else
 bif decide (gA o120 0 > 0) then
 (M_track_Place [.view kPce (wA o85 35), jA o85 36, jA o85 37, jA o85 38, jA o85 39, jA o85 40, I (IntKind.i64.wrap (gA o120 0 - 1))]).bind fun o128 =>
 bif gA o128 0 == gA o86 0 then
 some [B false]
 else
 some [B true]
 else
 some [B true]
 else
 bif !decide (gA o87 0 >= 0) == false then
 some [B false]
 else
 bif decide (gA o87 0 < -1) then
 some [B false]
 else
 bif decide (gA o87 0 > gA o85 36) then
 some [B false]
 else
 bif decide (gA o87 0 >= 0) then
 (M_track_Place [.view kPce (wA o85 35), jA o85 36, jA o85 37, jA o85 38, jA o85 39, jA o85 40, jA o87 0]).bind fun o129 =>
 bif gA o129 0 != x5 then
 some [B false]
 else
 bif decide (gA o87 0 > 0) then
 (M_track_Place [.view kPce (wA o85 35), jA o85 36, jA o85 37, jA o85 38, jA o85 39, jA o85 40, I (IntKind.i64.wrap (gA o87 0 - 1))]).bind fun o130 =>
 bif gA o130 0 == x5 then
 some [B false]
 else
 (M_track_Where [.view kPce (wA o85 35), jA o85 36, jA o85 37, jA o85 38, jA o85 39, jA o85 40, jA o86 0]).bind fun o131 =>
 (M_cncref29_Place [.view kPce (wA o85 35), jA o85 36, jA o85 37, jA o85 38, jA o85 39, jA o85 40, jA o85 36]).bind fun o132 =>
 (M_cncref29_Place [.view kPce (wA o85 35), jA o85 36, jA o85 37, jA o85 38, jA o85 39, jA o85 40, jA o85 36]).bind fun o133 =>
 bif decide (gA o86 0 >= mn (gA o85 37) (gA o132 0)) then
 bif !decide (gA o131 0 >= 0) == decide (gA o86 0 <= mx (gA o85 37) (gA o133 0)) then
 some [B false]
 else
 bif decide (gA o131 0 < -1) then
 some [B false]
 else
 bif decide (gA o131 0 > gA o85 36) then
 some [B false]
 else
 bif decide (gA o131 0 >= 0) then
 (M_track_Place [.view kPce (wA o85 35), jA o85 36, jA o85 37, jA o85 38, jA o85 39, jA o85 40, jA o131 0]).bind fun o134 =>
 bif gA o134 0 != gA o86 0 then
 some [B false]
 else
 bif decide (gA o131 0 > 0) then
 (M_track_Place [.view kPce (wA o85 35), jA o85 36, jA o85 37, jA o85 38, jA o85 39, jA o85 40, I (IntKind.i64.wrap (gA o131 0 - 1))]).bind fun o135 =>
 bif gA o135 0 == gA o86 0 then
 some [B false]
 else
 some [B true]
 else
 some [B true]
 else
 bif decide (gA o131 0 > 0) then
 (M_track_Place [.view kPce (wA o85 35), jA o85 36, jA o85 37, jA o85 38, jA o85 39, jA o85 40, I (IntKind.i64.wrap (gA o131 0 - 1))]).bind fun o136 =>
 bif gA o136 0 == gA o86 0 then
 some [B false]
 else
 some [B true]
 else
 some [B true]
 else
 bif !decide (gA o131 0 >= 0) == false then
 some [B false]
 else
 bif decide (gA o131 0 < -1) then
 some [B false]
 else
 bif decide (gA o131 0 > gA o85 36) then
 some [B false]
 else
 bif decide (gA o131 0 >= 0) then
 (M_track_Place [.view kPce (wA o85 35), jA o85 36, jA o85 37, jA o85 38, jA o85 39, jA o85 40, jA o131 0]).bind fun o137 =>
 bif gA o137 0 != gA o86 0 then
 some [B false]
 else
 bif decide (gA o131 0 > 0) then
 (M_track_Place [.view kPce (wA o85 35), jA o85 36, jA o85 37, jA o85 38, jA o85 39, jA o85 40, I (IntKind.i64.wrap (gA o131 0 - 1))]).bind fun o138 =>
 bif gA o138 0 == gA o86 0 then
 some [B false]
 else
 some [B true]
 else
 some [B true]
 else
 bif decide (gA o131 0 > 0) then
 (M_track_Place [.view kPce (wA o85 35), jA o85 36, jA o85 37, jA o85 38, jA o85 39, jA o85 40, I (IntKind.i64.wrap (gA o131 0 - 1))]).bind fun o139 =>
 bif gA o139 0 == gA o86 0 then
 some [B false]
 else
 some [B true]
 else
 some [B true]
 else
 (M_track_Where [.view kPce (wA o85 35), jA o85 36, jA o85 37, jA o85 38, jA o85 39, jA o85 40, jA o86 0]).bind fun o140 =>
 (M_cncref29_Place [.view kPce (wA o85 35), jA o85 36, jA o85 37, jA o85 38, jA o85 39, jA o85 40, jA o85 36]).bind fun o141 =>
 (M_cncref29_Place [.view kPce (wA o85 35), jA o85 36, jA o85 37, jA o85 38, jA o85 39, jA o85 40, jA o85 36]).bind fun o142 =>
 bif decide (gA o86 0 >= mn (gA o85 37) (gA o141 0)) then
 bif !decide (gA o140 0 >= 0) == decide (gA o86 0 <= mx (gA o85 37) (gA o142 0)) then
 some [B false]
 else
 bif decide (gA o140 0 < -1) then
 some [B false]
 else
 bif decide (gA o140 0 > gA o85 36) then
 some [B false]
 else
 bif decide (gA o140 0 >= 0) then
 (M_track_Place [.view kPce (wA o85 35), jA o85 36, jA o85 37, jA o85 38, jA o85 39, jA o85 40, jA o140 0]).bind fun o143 =>
 bif gA o143 0 != gA o86 0 then
 some [B false]
 else
 bif decide (gA o140 0 > 0) then
 (M_track_Place [.view kPce (wA o85 35), jA o85 36, jA o85 37, jA o85 38, jA o85 39, jA o85 40, I (IntKind.i64.wrap (gA o140 0 - 1))]).bind fun o144 =>
 bif gA o144 0 == gA o86 0 then
 some [B false]
 else
 some [B true]
 else
 some [B true]
 else
 bif decide (gA o140 0 > 0) then
 (M_track_Place [.view kPce (wA o85 35), jA o85 36, jA o85 37, jA o85 38, jA o85 39, jA o85 40, I (IntKind.i64.wrap (gA o140 0 - 1))]).bind fun o145 =>
 bif gA o145 0 == gA o86 0 then
 some [B false]
 else
 some [B true]
 else
 some [B true]
 else
 bif !decide (gA o140 0 >= 0) == false then
 some [B false]
 else
 bif decide (gA o140 0 < -1) then
 some [B false]
 else
 bif decide (gA o140 0 > gA o85 36) then
 some [B false]
 else
 bif decide (gA o140 0 >= 0) then
 (M_track_Place [.view kPce (wA o85 35), jA o85 36, jA o85 37, jA o85 38, jA o85 39, jA o85 40, jA o140 0]).bind fun o146 =>
 bif gA o146 0 != gA o86 0 then
 some [B false]
 else
 bif decide (gA o140 0 > 0) then
 (M_track_Place [.view kPce (wA o85 35), jA o85 36, jA o85 37, jA o85 38, jA o85 39, jA o85 40, I (IntKind.i64.wrap (gA o140 0 - 1))]).bind fun o147 =>
 bif gA o147 0 == gA o86 0 then
 some [B false]
 else
 some [B true]
 else
 some [B true]
 else
 bif decide (gA o140 0 > 0) then
 (M_track_Place [.view kPce (wA o85 35), jA o85 36, jA o85 37, jA o85 38, jA o85 39, jA o85 40, I (IntKind.i64.wrap (gA o140 0 - 1))]).bind fun o148 =>
 bif gA o148 0 == gA o86 0 then
 some [B false]
 else
 some [B true]
 else
 some [B true]
 else
 bif decide (gA o87 0 > 0) then
 (M_track_Place [.view kPce (wA o85 35), jA o85 36, jA o85 37, jA o85 38, jA o85 39, jA o85 40, I (IntKind.i64.wrap (gA o87 0 - 1))]).bind fun o149 =>
 bif gA o149 0 == x5 then
 some [B false]
 else
 (M_track_Where [.view kPce (wA o85 35), jA o85 36, jA o85 37, jA o85 38, jA o85 39, jA o85 40, jA o86 0]).bind fun o150 =>
 (M_cncref29_Place [.view kPce (wA o85 35), jA o85 36, jA o85 37, jA o85 38, jA o85 39, jA o85 40, jA o85 36]).bind fun o151 =>
 (M_cncref29_Place [.view kPce (wA o85 35), jA o85 36, jA o85 37, jA o85 38, jA o85 39, jA o85 40, jA o85 36]).bind fun o152 =>
 bif decide (gA o86 0 >= mn (gA o85 37) (gA o151 0)) then
 bif !decide (gA o150 0 >= 0) == decide (gA o86 0 <= mx (gA o85 37) (gA o152 0)) then
 some [B false]
 else
 bif decide (gA o150 0 < -1) then
 some [B false]
 else
 bif decide (gA o150 0 > gA o85 36) then
 some [B false]
 else
 bif decide (gA o150 0 >= 0) then
 (M_track_Place [.view kPce (wA o85 35), jA o85 36, jA o85 37, jA o85 38, jA o85 39, jA o85 40, jA o150 0]).bind fun o153 =>
 bif gA o153 0 != gA o86 0 then
 some [B false]
 else
 bif decide (gA o150 0 > 0) then
 (M_track_Place [.view kPce (wA o85 35), jA o85 36, jA o85 37, jA o85 38, jA o85 39, jA o85 40, I (IntKind.i64.wrap (gA o150 0 - 1))]).bind fun o154 =>
 bif gA o154 0 == gA o86 0 then
 some [B false]
 else
 some [B true]
 else
 some [B true]
 else
 bif decide (gA o150 0 > 0) then
 (M_track_Place [.view kPce (wA o85 35), jA o85 36, jA o85 37, jA o85 38, jA o85 39, jA o85 40, I (IntKind.i64.wrap (gA o150 0 - 1))]).bind fun o155 =>
 bif gA o155 0 == gA o86 0 then
 some [B false]
 else
 some [B true]
 else
 some [B true]
 else
 bif !decide (gA o150 0 >= 0) == false then
 some [B false]
 else
 bif decide (gA o150 0 < -1) then
 some [B false]
 else
 bif decide (gA o150 0 > gA o85 36) then
 some [B false]
 else
 bif decide (gA o150 0 >= 0) then
 (M_track_Place [.view kPce (wA o85 35), jA o85 36, jA o85 37, jA o85 38, jA o85 39, jA o85 40, jA o150 0]).bind fun o156 =>
 bif gA o156 0 != gA o86 0 then
 some [B false]
 else
 bif decide (gA o150 0 > 0) then
 (M_track_Place [.view kPce (wA o85 35), jA o85 36, jA o85 37, jA o85 38, jA o85 39, jA o85 40, I (IntKind.i64.wrap (gA o150 0 - 1))]).bind fun o157 =>
 bif gA o157 0 == gA o86 0 then
 some [B false]
 else
 some [B true]
 else
 some [B true]
 else
 bif decide (gA o150 0 > 0) then
 (M_track_Place [.view kPce (wA o85 35), jA o85 36, jA o85 37, jA o85 38, jA o85 39, jA o85 40, I (IntKind.i64.wrap (gA o150 0 - 1))]).bind fun o158 =>
 bif gA o158 0 == gA o86 0 then
 some [B false]
 else
 some [B true]
 else
 some [B true]
 else
 (M_track_Where [.view kPce (wA o85 35), jA o85 36, jA o85 37, jA o85 38, jA o85 39, jA o85 40, jA o86 0]).bind fun o159 =>
 (M_cncref29_Place [.view kPce (wA o85 35), jA o85 36, jA o85 37, jA o85 38, jA o85 39, jA o85 40, jA o85 36]).bind fun o160 =>
 (M_cncref29_Place [.view kPce (wA o85 35), jA o85 36, jA o85 37, jA o85 38, jA o85 39, jA o85 40, jA o85 36]).bind fun o161 =>
 bif decide (gA o86 0 >= mn (gA o85 37) (gA o160 0)) then
 bif !decide (gA o159 0 >= 0) == decide (gA o86 0 <= mx (gA o85 37) (gA o161 0)) then
 some [B false]
 else
 bif decide (gA o159 0 < -1) then
 some [B false]
 else
 bif decide (gA o159 0 > gA o85 36) then
 some [B false]
 else
 bif decide (gA o159 0 >= 0) then
 (M_track_Place [.view kPce (wA o85 35), jA o85 36, jA o85 37, jA o85 38, jA o85 39, jA o85 40, jA o159 0]).bind fun o162 =>
 bif gA o162 0 != gA o86 0 then
 some [B false]
 else
 bif decide (gA o159 0 > 0) then
 (M_track_Place [.view kPce (wA o85 35), jA o85 36, jA o85 37, jA o85 38, jA o85 39, jA o85 40, I (IntKind.i64.wrap (gA o159 0 - 1))]).bind fun o163 =>
 bif gA o163 0 == gA o86 0 then
 some [B false]
 else
 some [B true]
 else
 some [B true]
 else
 bif decide (gA o159 0 > 0) then
 (M_track_Place [.view kPce (wA o85 35), jA o85 36, jA o85 37, jA o85 38, jA o85 39, jA o85 40, I (IntKind.i64.wrap (gA o159 0 - 1))]).bind fun o164 =>
 bif gA o164 0 == gA o86 0 then
 some [B false]
 else
 some [B true]
 else
 some [B true]
 else
 bif !decide (gA o159 0 >= 0) == false then
 some [B false]
 else
 bif decide (gA o159 0 < -1) then
 some [B false]
 else
 bif decide (gA o159 0 > gA o85 36) then
 some [B false]
 else
 bif decide (gA o159 0 >= 0) then
 (M_track_Place [.view kPce (wA o85 35), jA o85 36, jA o85 37, jA o85 38, jA o85 39, jA o85 40, jA o159 0]).bind fun o165 =>
 bif gA o165 0 != gA o86 0 then
 some [B false]
 else
 bif decide (gA o159 0 > 0) then
 (M_track_Place [.view kPce (wA o85 35), jA o85 36, jA o85 37, jA o85 38, jA o85 39, jA o85 40, I (IntKind.i64.wrap (gA o159 0 - 1))]).bind fun o166 =>
 bif gA o166 0 == gA o86 0 then
 some [B false]
 else
 some [B true]
 else
 some [B true]
 else
 bif decide (gA o159 0 > 0) then
 (M_track_Place [.view kPce (wA o85 35), jA o85 36, jA o85 37, jA o85 38, jA o85 39, jA o85 40, I (IntKind.i64.wrap (gA o159 0 - 1))]).bind fun o167 =>
 bif gA o167 0 == gA o86 0 then
 some [B false]
 else
 some [B true]
 else
 some [B true] := by kernel_rfl
def m_cnclaw29_TrackWhere := mf_cnclaw29_TrackWhere m_track_Place m_cncref29_Place m_track_Where m_cncmill_Mod m_cnclaw29_run m_cnclaw29_awake 
theorem sp_cnclaw29_TrackWhere : SpecOK Tryz.prog (C_cnclaw29_TrackWhere_0 m_track_Place m_cncref29_Place m_track_Where m_cncmill_Mod m_cnclaw29_run m_cnclaw29_awake) := specOK_of rfl ⟨r_track_Place, r_cncref29_Place, r_track_Where, r_cncmill_Mod, r_cnclaw29_run, r_cnclaw29_awake, trivial⟩
theorem c_cnclaw29_TrackWhere : ∀ (args : List TV) (v : TV) (mem : Mem), (spOf sig_cnclaw29_TrackWhere osig_cnclaw29_TrackWhere m_cnclaw29_TrackWhere (TV × Mem) args ⟨[], []⟩ fun v m => some (v, m)) = some (v, mem) -> PCallM Tryz.prog 8 args ⟨[], []⟩ v mem := fun args v mem h => callM_of (f := 8) (C := (C_cnclaw29_TrackWhere_0 m_track_Place m_cncref29_Place m_track_Where m_cncmill_Mod m_cnclaw29_run m_cnclaw29_awake)) (L := 64) (by kernel_rfl) (FnOK.bare rfl rfl rfl) sp_cnclaw29_TrackWhere eqOk mixOk (by kernel_rfl) (by kernel_rfl) args v mem h
end Go.Bm
