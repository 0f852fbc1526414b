/- functions of the program and of the references, as models -/
import Derived.Test.YtdllaekpkcanbaaGreatMx5
import Derived.Test.YtdllaekpkcanbaaGreatSeAw0
import Derived.Test.YtdllaekpkcanbaaGreatSeAw29
set_option linter.unusedSimpArgs false
set_option linter.unusedVariables false
set_option maxRecDepth 100000
noncomputable section
namespace Go.Bm
open Go.Proofs
def sig_cnclaw29_run : Sk := { tmps := [tf [CS.sl kInts], tf [CS.sl kInts], tf [ci], tf [ci], tf [ci]], boxes := [], rows := [] }
def osig_cnclaw29_run : Sk := { tmps := [TS.tup [(true, [ci, ci, ci, CS.sl kSgm, CS.sl kPt, ci, ci, ci, ci, ci, ci, ci, ci, ci, CS.sl kInts, ci, ci, ci, ci, ci, ci, ci, ci, ci, CS.sl kInts, ci, ci, ci, ci, ci, ci, ci, ci, ci, CS.sl kInts, CS.sl kPce, ci, ci, ci, ci, ci]), (false, [ci])]], boxes := [], rows := [] }
def C_cnclaw29_run_0 (M_cncref29_Leg M_cncmill_Mod M_cncmill_Dirs M_cncref25_Length M_cncmill_Axes M_cncmill_Path : Fn) : Cfg := { spec := lookS [(27, spOf sig_cncref29_Leg osig_cncref29_Leg M_cncref29_Leg), (16, spOf sig_cncmill_Mod osig_cncmill_Mod M_cncmill_Mod), (24, spOf sig_cncmill_Dirs osig_cncmill_Dirs M_cncmill_Dirs), (25, spOf sig_cncref25_Length osig_cncref25_Length M_cncref25_Length), (23, spOf sig_cncmill_Axes osig_cncmill_Axes M_cncmill_Axes), (22, spOf sig_cncmill_Path osig_cncmill_Path M_cncmill_Path)], eqOk := eqAll, ownOff := ownOff }
def mf_cnclaw29_run (M_cncref29_Leg M_cncmill_Mod M_cncmill_Dirs M_cncref25_Length M_cncmill_Axes M_cncmill_Path : Fn) : Fn := modelF Tryz.prog (C_cnclaw29_run_0 M_cncref29_Leg M_cncmill_Mod M_cncmill_Dirs M_cncref25_Length M_cncmill_Axes M_cncmill_Path) 64 15 sig_cnclaw29_run osig_cnclaw29_run
theorem mf_cnclaw29_run_eq (M_cncref29_Leg M_cncmill_Mod M_cncmill_Dirs M_cncref25_Length M_cncmill_Axes M_cncmill_Path : Fn) (x0 x1 : Rw) (x2 x3 x4 : Int) : mf_cnclaw29_run M_cncref29_Leg M_cncmill_Mod M_cncmill_Dirs M_cncref25_Length M_cncmill_Axes M_cncmill_Path [.view kInts x0, .view kInts x1, I x2, I x3, I x4] =
 (M_cncmill_Path [.view kInts x0, I 5]).bind fun o7 =>
 (M_cncmill_Axes [.view kInts x1]).bind fun o8 =>
 (M_cncref25_Length [jA o7 0, jA o7 1, jA o7 2, .view kSgm (wA o7 3), .view kPt (wA o7 4)]).bind fun o9 =>
 (M_cncmill_Dirs [I x2]).bind fun o10 =>
 (M_cncmill_Mod [I x3, I (IntKind.i64.wrap (gA o9 0 + 1))]).bind fun o11 =>
 (M_cncmill_Mod [I x4, I (IntKind.i64.wrap (gA o9 0 + 1))]).bind fun o12 =>
 (M_cncref29_Leg [jA o7 0, jA o7 1, jA o7 2, .view kSgm (wA o7 3), .view kPt (wA o7 4), jA o8 0, jA o8 1, jA o8 2, jA o8 3, jA o8 4, jA o8 5, jA o8 6, jA o8 7, jA o8 8, .view kInts (wA o8 9), jA o8 10, jA o8 11, jA o8 12, jA o8 13, jA o8 14, jA o8 15, jA o8 16, jA o8 17, jA o8 18, .view kInts (wA o8 19), jA o8 20, jA o8 21, jA o8 22, jA o8 23, jA o8 24, jA o8 25, jA o8 26, jA o8 27, jA o8 28, .view kInts (wA o8 29), jA o10 0, jA o10 1, jA o10 2, jA o11 0, jA o12 0]).bind fun o13 =>
 some [jA o7 0, jA o7 1, jA o7 2, .view kSgm (wA o7 3), .view kPt (wA o7 4), jA o8 0, jA o8 1, jA o8 2, jA o8 3, jA o8 4, jA o8 5, jA o8 6, jA o8 7, jA o8 8, .view kInts (wA o8 9), jA o8 10, jA o8 11, jA o8 12, jA o8 13, jA o8 14, jA o8 15, jA o8 16, jA o8 17, jA o8 18, .view kInts (wA o8 19), jA o8 20, jA o8 21, jA o8 22, jA o8 23, jA o8 24, jA o8 25, jA o8 26, jA o8 27, jA o8 28, .view kInts (wA o8 29), .view kPce (wA o13 0), jA o13 1, jA o13 2, jA o13 3, jA o13 4, jA o13 5, jA o9 0] := by kernel_rfl
def m_cnclaw29_run := mf_cnclaw29_run m_cncref29_Leg m_cncmill_Mod m_cncmill_Dirs m_cncref25_Length m_cncmill_Axes m_cncmill_Path 
theorem sp_cnclaw29_run : SpecOK Tryz.prog (C_cnclaw29_run_0 m_cncref29_Leg m_cncmill_Mod m_cncmill_Dirs m_cncref25_Length m_cncmill_Axes m_cncmill_Path) := specOK_of rfl ⟨r_cncref29_Leg, r_cncmill_Mod, r_cncmill_Dirs, r_cncref25_Length, r_cncmill_Axes, r_cncmill_Path, trivial⟩
theorem r_cnclaw29_run : RowOK Tryz.prog (15, spOf sig_cnclaw29_run osig_cnclaw29_run m_cnclaw29_run) := row_of (C := (C_cnclaw29_run_0 m_cncref29_Leg m_cncmill_Mod m_cncmill_Dirs m_cncref25_Length m_cncmill_Axes m_cncmill_Path)) (L := 64) (by kernel_rfl) (FnOK.bare rfl rfl rfl) sp_cnclaw29_run eqOk mixOk (by kernel_rfl) (by kernel_rfl)
def sig_cnclaw29_TrackTables : Sk := { tmps := [tf [CS.sl kInts], tf [CS.sl kInts], tf [ci], tf [ci], tf [ci]], boxes := [], rows := [] }
def osig_cnclaw29_TrackTables : Sk := { tmps := [tf [CS.bool]], boxes := [], rows := [] }
def C_cnclaw29_TrackTables_0 (M_track_Place M_backlash_Table M_track_Motors M_cncref29_Nominal M_cnclaw29_run M_cnclaw29_awake : Fn) : Cfg := { spec := lookS [(21, spOf sig_track_Place osig_track_Place M_track_Place), (20, spOf sig_backlash_Table osig_backlash_Table M_backlash_Table), (17, spOf sig_track_Motors osig_track_Motors M_track_Motors), (19, spOf sig_cncref29_Nominal osig_cncref29_Nominal M_cncref29_Nominal), (15, spOf sig_cnclaw29_run osig_cnclaw29_run M_cnclaw29_run), (14, spOf sig_cnclaw29_awake osig_cnclaw29_awake M_cnclaw29_awake)], eqOk := eqAll, ownOff := ownOff, unroll := [10] }
def sk_cnclaw29_TrackTables_6 : Sk := { tmps := [td, td, td, td, td, td, td, td, td, td, td, tf [CS.ptr 11 0], td, tf [CS.ptr 13 0], tf [ci]] ++ dd 64, boxes := [(11, 37, [ci, ci, ci, CS.sl kSgm, CS.sl kPt, ci, ci, ci, ci, ci, ci, ci, ci, ci, CS.sl kInts, ci, ci, ci, ci, ci, ci, ci, ci, ci, CS.sl kInts, ci, ci, ci, ci, ci, ci, ci, ci, ci, CS.sl kInts, CS.sl kPce, ci, ci, ci, ci, ci]), (13, 24, [ci, ci, ci])], rows := [] }
def ex_cnclaw29_TrackTables_6 : List (Ex × Sk) := [(Ex.ret, { tmps := [td, td, td, td, td, td, td, td, td, td, tf [CS.bool]] ++ dd 68, boxes := [], rows := [] }), (Ex.exit 0, { tmps := [td] ++ dd 78, boxes := [], rows := [] })]
def st_cnclaw29_TrackTables_6 (M_track_Place M_backlash_Table M_track_Motors M_cncref29_Nominal M_cnclaw29_run M_cnclaw29_awake : Fn) : Lp := stepL Tryz.prog (C_cnclaw29_TrackTables_0 M_track_Place M_backlash_Table M_track_Motors M_cncref29_Nominal M_cnclaw29_run M_cnclaw29_awake) 64 6 (bodyOf Tryz.prog 5 6) sk_cnclaw29_TrackTables_6 ex_cnclaw29_TrackTables_6
def C_cnclaw29_TrackTables_1 (M_track_Place M_backlash_Table M_track_Motors M_cncref29_Nominal M_cnclaw29_run M_cnclaw29_awake : Fn) (N6 : Lp) : Cfg := (C_cnclaw29_TrackTables_0 M_track_Place M_backlash_Table M_track_Motors M_cncref29_Nominal M_cnclaw29_run M_cnclaw29_awake).loop 6 sk_cnclaw29_TrackTables_6 ex_cnclaw29_TrackTables_6 N6
def mf_cnclaw29_TrackTables (M_track_Place M_backlash_Table M_track_Motors M_cncref29_Nominal M_cnclaw29_run M_cnclaw29_awake : Fn) (N6 : Lp) : Fn := modelF Tryz.prog (C_cnclaw29_TrackTables_1 M_track_Place M_backlash_Table M_track_Motors M_cncref29_Nominal M_cnclaw29_run M_cnclaw29_awake N6) 64 5 sig_cnclaw29_TrackTables osig_cnclaw29_TrackTables
theorem st_cnclaw29_TrackTables_6_eq (M_track_Place M_backlash_Table M_track_Motors M_cncref29_Nominal M_cnclaw29_run M_cnclaw29_awake : Fn) (v0 v1 v2 v3 : Int) (v4 v5 : Rw) (v6 v7 v8 v9 v10 v11 v12 v13 v14 : Int) (v15 : Rw) (v16 v17 v18 v19 v20 v21 v22 v23 v24 : Int) (v25 : Rw) (v26 v27 v28 v29 v30 v31 v32 v33 v34 : Int) (v35 v36 : Rw) (v37 v38 v39 v40 v41 v42 v43 v44 : Int) : st_cnclaw29_TrackTables_6 M_track_Place M_backlash_Table M_track_Motors M_cncref29_Nominal M_cnclaw29_run M_cnclaw29_awake [I v0, I v1, I v2, I v3, .view kSgm v4, .view kPt v5, I v6, I v7, I v8, I v9, I v10, I v11, I v12, I v13, I v14, .view kInts v15, I v16, I v17, I v18, I v19, I v20, I v21, I v22, I v23, I v24, .view kInts v25, I v26, I v27, I v28, I v29, I v30, I v31, I v32, I v33, I v34, .view kInts v35, .view kPce v36, I v37, I v38, I v39, I v40, I v41, I v42, I v43, I v44] =
 bif decide (v0 <= v37) then
 (M_track_Motors [I v1, I v2, I v3, .view kSgm v4, .view kPt v5, I v6, I v7, I v8, I v9, I v10, I v11, I v12, I v13, I v14, .view kInts v15, I v16, I v17, I v18, I v19, I v20, I v21, I v22, I v23, I v24, .view kInts v25, I v26, I v27, I v28, I v29, I v30, I v31, I v32, I v33, I v34, .view kInts v35, .view kPce v36, I v37, I v38, I v39, I v40, I v41, I v0]).bind fun o13 =>
 (M_backlash_Table [I v6, I v7, I v8, I v9, I v10, I v11, I v12, I v13, I v14, .view kInts v15, I v42, jA o13 0]).bind fun o14 =>
 (M_backlash_Table [I v16, I v17, I v18, I v19, I v20, I v21, I v22, I v23, I v24, .view kInts v25, I v43, jA o13 1]).bind fun o15 =>
 (M_backlash_Table [I v26, I v27, I v28, I v29, I v30, I v31, I v32, I v33, I v34, .view kInts v35, I v44, jA o13 2]).bind fun o16 =>
 (M_track_Place [.view kPce v36, I v37, I v38, I v39, I v40, I v41, I v0]).bind fun o17 =>
 (M_cncref29_Nominal [I v1, I v2, I v3, .view kSgm v4, .view kPt v5, I v6, I v7, I v8, I v9, I v10, I v11, I v12, I v13, I v14, .view kInts v15, I v16, I v17, I v18, I v19, I v20, I v21, I v22, I v23, I v24, .view kInts v25, I v26, I v27, I v28, I v29, I v30, I v31, I v32, I v33, I v34, .view kInts v35, jA o17 0]).bind fun o18 =>
 bif !(gA o14 0 == gA o18 0 && (gA o15 0 == gA o18 1 && (gA o16 0 == gA o18 2 && true))) then
 some (1, [B false])
 else
 some (0, [I (IntKind.i64.wrap (v0 + 1)), I v1, I v2, I v3, .view kSgm v4, .view kPt v5, I v6, I v7, I v8, I v9, I v10, I v11, I v12, I v13, I v14, .view kInts v15, I v16, I v17, I v18, I v19, I v20, I v21, I v22, I v23, I v24, .view kInts v25, I v26, I v27, I v28, I v29, I v30, I v31, I v32, I v33, I v34, .view kInts v35, .view kPce v36, I v37, I v38, I v39, I v40, I v41, jA o14 0, jA o15 0, jA o16 0])
 else
 some (2, []) := by kernel_rfl
theorem mf_cnclaw29_TrackTables_eq (M_track_Place M_backlash_Table M_track_Motors M_cncref29_Nominal M_cnclaw29_run M_cnclaw29_awake : Fn) (N6 : Lp) (x0 x1 : Rw) (x2 x3 x4 : Int) : mf_cnclaw29_TrackTables M_track_Place M_backlash_Table M_track_Motors M_cncref29_Nominal M_cnclaw29_run M_cnclaw29_awake N6 [.view kInts x0, .view kInts x1, I x2, I x3, I x4] =
 (M_cnclaw29_awake []).bind fun o19 =>
 bif !bA o19 0 then
 some [B false]
 else
 (M_cnclaw29_run [.view kInts x0, .view kInts x1, I x2, I x3, I x4]).bind fun o20 =>
 (M_cncref29_Nominal [jA o20 0, jA o20 1, jA o20 2, .view kSgm (wA o20 3), .view kPt (wA o20 4), jA o20 5, jA o20 6, jA o20 7, jA o20 8, jA o20 9, jA o20 10, jA o20 11, jA o20 12, jA o20 13, .view kInts (wA o20 14), jA o20 15, jA o20 16, jA o20 17, jA o20 18, jA o20 19, jA o20 20, jA o20 21, jA o20 22, jA o20 23, .view kInts (wA o20 24), jA o20 25, jA o20 26, jA o20 27, jA o20 28, jA o20 29, jA o20 30, jA o20 31, jA o20 32, jA o20 33, .view kInts (wA o20 34), jA o20 37]).bind fun o21 =>
 (N6 [I 0, jA o20 0, jA o20 1, jA o20 2, .view kSgm (wA o20 3), .view kPt (wA o20 4), jA o20 5, jA o20 6, jA o20 7, jA o20 8, jA o20 9, jA o20 10, jA o20 11, jA o20 12, jA o20 13, .view kInts (wA o20 14), jA o20 15, jA o20 16, jA o20 17, jA o20 18, jA o20 19, jA o20 20, jA o20 21, jA o20 22, jA o20 23, .view kInts (wA o20 24), jA o20 25, jA o20 26, jA o20 27, jA o20 28, jA o20 29, jA o20 30, jA o20 31, jA o20 32, jA o20 33, .view kInts (wA o20 34), .view kPce (wA o20 35), jA o20 36, jA o20 37, jA o20 38, jA o20 39, jA o20 40, jA o21 0, jA o21 1, jA o21 2]).bind fun o22 =>
 bif o22.1.beq 1 then
 some [B (bA o22.2 0)]
 else
 bif o22.1.beq 2 then
 some [B true]
 else
 none := by kernel_rfl
def l_cnclaw29_TrackTables_6 := loopC (st_cnclaw29_TrackTables_6 m_track_Place m_backlash_Table m_track_Motors m_cncref29_Nominal m_cnclaw29_run m_cnclaw29_awake )
def m_cnclaw29_TrackTables := mf_cnclaw29_TrackTables m_track_Place m_backlash_Table m_track_Motors m_cncref29_Nominal m_cnclaw29_run m_cnclaw29_awake l_cnclaw29_TrackTables_6
theorem sp_cnclaw29_TrackTables : SpecOK Tryz.prog (C_cnclaw29_TrackTables_0 m_track_Place m_backlash_Table m_track_Motors m_cncref29_Nominal m_cnclaw29_run m_cnclaw29_awake) := specOK_of rfl ⟨r_track_Place, r_backlash_Table, r_track_Motors, r_cncref29_Nominal, r_cnclaw29_run, r_cnclaw29_awake, trivial⟩
theorem c_cnclaw29_TrackTables : ∀ (args : List TV) (v : TV) (mem : Mem), (spOf sig_cnclaw29_TrackTables osig_cnclaw29_TrackTables m_cnclaw29_TrackTables (TV × Mem) args ⟨[], []⟩ fun v m => some (v, m)) = some (v, mem) -> PCallM Tryz.prog 5 args ⟨[], []⟩ v mem := fun args v mem h => callM_of (f := 5) (C := (C_cnclaw29_TrackTables_1 m_track_Place m_backlash_Table m_track_Motors m_cncref29_Nominal m_cnclaw29_run m_cnclaw29_awake l_cnclaw29_TrackTables_6)) (L := 64) (by kernel_rfl) ((FnOK.bare rfl rfl rfl).loop sp_cnclaw29_TrackTables eqOk mixOk (by kernel_rfl) (by kernel_rfl)) sp_cnclaw29_TrackTables eqOk mixOk (by kernel_rfl) (by kernel_rfl) args v mem h
end Go.Bm
