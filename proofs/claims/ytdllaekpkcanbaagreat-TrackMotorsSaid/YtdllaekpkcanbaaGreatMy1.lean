/- functions of the program and of the references, as models -/
import Derived.Test.YtdllaekpkcanbaaGreatMx5
import Derived.Test.YtdllaekpkcanbaaGreatSeAw0
import Derived.Test.YtdllaekpkcanbaaGreatSeAw29
set_option linter.unusedSimpArgs false
set_option linter.unusedVariables false
set_option maxRecDepth 100000
noncomputable section
namespace Go.Bm
open Go.Proofs
def sig_cnclaw29_run : Sk := { tmps := [tf [CS.sl kInts], tf [CS.sl kInts], tf [ci], tf [ci], tf [ci]], boxes := [], rows := [] }
def osig_cnclaw29_run : Sk := { tmps := [TS.tup [(true, [ci, ci, ci, CS.sl kSgm, CS.sl kPt, ci, ci, ci, ci, ci, ci, ci, ci, ci, CS.sl kInts, ci, ci, ci, ci, ci, ci, ci, ci, ci, CS.sl kInts, ci, ci, ci, ci, ci, ci, ci, ci, ci, CS.sl kInts, CS.sl kPce, ci, ci, ci, ci, ci]), (false, [ci])]], boxes := [], rows := [] }
def C_cnclaw29_run_0 (M_cncref29_Leg M_cncmill_Mod M_cncmill_Dirs M_cncref25_Length M_cncmill_Axes M_cncmill_Path : Fn) : Cfg := { spec := lookS [(27, spOf sig_cncref29_Leg osig_cncref29_Leg M_cncref29_Leg), (16, spOf sig_cncmill_Mod osig_cncmill_Mod M_cncmill_Mod), (24, spOf sig_cncmill_Dirs osig_cncmill_Dirs M_cncmill_Dirs), (25, spOf sig_cncref25_Length osig_cncref25_Length M_cncref25_Length), (23, spOf sig_cncmill_Axes osig_cncmill_Axes M_cncmill_Axes), (22, spOf sig_cncmill_Path osig_cncmill_Path M_cncmill_Path)], eqOk := eqAll, ownOff := ownOff }
def mf_cnclaw29_run (M_cncref29_Leg M_cncmill_Mod M_cncmill_Dirs M_cncref25_Length M_cncmill_Axes M_cncmill_Path : Fn) : Fn := modelF Tryz.prog (C_cnclaw29_run_0 M_cncref29_Leg M_cncmill_Mod M_cncmill_Dirs M_cncref25_Length M_cncmill_Axes M_cncmill_Path) 64 15 sig_cnclaw29_run osig_cnclaw29_run
theorem mf_cnclaw29_run_eq (M_cncref29_Leg M_cncmill_Mod M_cncmill_Dirs M_cncref25_Length M_cncmill_Axes M_cncmill_Path : Fn) (x0 x1 : Rw) (x2 x3 x4 : Int) : mf_cnclaw29_run M_cncref29_Leg M_cncmill_Mod M_cncmill_Dirs M_cncref25_Length M_cncmill_Axes M_cncmill_Path [.view kInts x0, .view kInts x1, I x2, I x3, I x4] =
 (M_cncmill_Path [.view kInts x0, I 5]).bind fun o7 =>
 (M_cncmill_Axes [.view kInts x1]).bind fun o8 =>
 (M_cncref25_Length [jA o7 0, jA o7 1, jA o7 2, .view kSgm (wA o7 3), .view kPt (wA o7 4)]).bind fun o9 =>
 (M_cncmill_Dirs [I x2]).bind fun o10 =>
 (M_cncmill_Mod [I x3, I (IntKind.i64.wrap (gA o9 0 + 1))]).bind fun o11 =>
 (M_cncmill_Mod [I x4, I (IntKind.i64.wrap (gA o9 0 + 1))]).bind fun o12 =>
 (M_cncref29_Leg [jA o7 0, jA o7 1, jA o7 2, .view kSgm (wA o7 3), .view kPt (wA o7 4), jA o8 0, jA o8 1, jA o8 2, jA o8 3, jA o8 4, jA o8 5, jA o8 6, jA o8 7, jA o8 8, .view kInts (wA o8 9), jA o8 10, jA o8 11, jA o8 12, jA o8 13, jA o8 14, jA o8 15, jA o8 16, jA o8 17, jA o8 18, .view kInts (wA o8 19), jA o8 20, jA o8 21, jA o8 22, jA o8 23, jA o8 24, jA o8 25, jA o8 26, jA o8 27, jA o8 28, .view kInts (wA o8 29), jA o10 0, jA o10 1, jA o10 2, jA o11 0, jA o12 0]).bind fun o13 =>
 some [jA o7 0, jA o7 1, jA o7 2, .view kSgm (wA o7 3), .view kPt (wA o7 4), jA o8 0, jA o8 1, jA o8 2, jA o8 3, jA o8 4, jA o8 5, jA o8 6, jA o8 7, jA o8 8, .view kInts (wA o8 9), jA o8 10, jA o8 11, jA o8 12, jA o8 13, jA o8 14, jA o8 15, jA o8 16, jA o8 17, jA o8 18, .view kInts (wA o8 19), jA o8 20, jA o8 21, jA o8 22, jA o8 23, jA o8 24, jA o8 25, jA o8 26, jA o8 27, jA o8 28, .view kInts (wA o8 29), .view kPce (wA o13 0), jA o13 1, jA o13 2, jA o13 3, jA o13 4, jA o13 5, jA o9 0] := by kernel_rfl
def m_cnclaw29_run := mf_cnclaw29_run m_cncref29_Leg m_cncmill_Mod m_cncmill_Dirs m_cncref25_Length m_cncmill_Axes m_cncmill_Path 
theorem sp_cnclaw29_run : SpecOK Tryz.prog (C_cnclaw29_run_0 m_cncref29_Leg m_cncmill_Mod m_cncmill_Dirs m_cncref25_Length m_cncmill_Axes m_cncmill_Path) := specOK_of rfl ⟨r_cncref29_Leg, r_cncmill_Mod, r_cncmill_Dirs, r_cncref25_Length, r_cncmill_Axes, r_cncmill_Path, trivial⟩
theorem r_cnclaw29_run : RowOK Tryz.prog (15, spOf sig_cnclaw29_run osig_cnclaw29_run m_cnclaw29_run) := row_of (C := (C_cnclaw29_run_0 m_cncref29_Leg m_cncmill_Mod m_cncmill_Dirs m_cncref25_Length m_cncmill_Axes m_cncmill_Path)) (L := 64) (by kernel_rfl) (FnOK.bare rfl rfl rfl) sp_cnclaw29_run eqOk mixOk (by kernel_rfl) (by kernel_rfl)
def sig_cnclaw29_TrackMotors : Sk := { tmps := [tf [CS.sl kInts], tf [CS.sl kInts], tf [ci], tf [ci], tf [ci], tf [ci]], boxes := [], rows := [] }
def osig_cnclaw29_TrackMotors : Sk := { tmps := [tf [CS.bool]], boxes := [], rows := [] }
def C_cnclaw29_TrackMotors_0 (M_cncref29_Motors M_track_Motors M_cncmill_Mod M_cnclaw29_run M_cnclaw29_awake : Fn) : Cfg := { spec := lookS [(18, spOf sig_cncref29_Motors osig_cncref29_Motors M_cncref29_Motors), (17, spOf sig_track_Motors osig_track_Motors M_track_Motors), (16, spOf sig_cncmill_Mod osig_cncmill_Mod M_cncmill_Mod), (15, spOf sig_cnclaw29_run osig_cnclaw29_run M_cnclaw29_run), (14, spOf sig_cnclaw29_awake osig_cnclaw29_awake M_cnclaw29_awake)], eqOk := eqAll, ownOff := ownOff }
def sk_cnclaw29_TrackMotors_6 : Sk := { tmps := [td, td, td, td, td, tf [ci], td, td, td, td, td, td, td, tf [CS.ptr 13 0], td, tf [ci], tf [ci]] ++ dd 58, boxes := [(13, 37, [ci, ci, ci, CS.sl kSgm, CS.sl kPt, ci, ci, ci, ci, ci, ci, ci, ci, ci, CS.sl kInts, ci, ci, ci, ci, ci, ci, ci, ci, ci, CS.sl kInts, ci, ci, ci, ci, ci, ci, ci, ci, ci, CS.sl kInts, CS.sl kPce, ci, ci, ci, ci, ci])], rows := [] }
def ex_cnclaw29_TrackMotors_6 : List (Ex × Sk) := [(Ex.ret, { tmps := [td, td, td, td, td, td, td, td, td, td, td, td, tf [CS.bool]] ++ dd 62, boxes := [], rows := [] }), (Ex.exit 0, { tmps := [td, td, td, td, td, tf [ci], td, td, td, td, td, td, td, tf [CS.ptr 13 0]] ++ dd 61, boxes := [(13, 37, [ci, ci, ci, CS.sl kSgm, CS.sl kPt, ci, ci, ci, ci, ci, ci, ci, ci, ci, CS.sl kInts, ci, ci, ci, ci, ci, ci, ci, ci, ci, CS.sl kInts, ci, ci, ci, ci, ci, ci, ci, ci, ci, CS.sl kInts, CS.sl kPce, ci, ci, ci, ci, ci])], rows := [] })]
def st_cnclaw29_TrackMotors_6 (M_cncref29_Motors M_track_Motors M_cncmill_Mod M_cnclaw29_run M_cnclaw29_awake : Fn) : Lp := stepL Tryz.prog (C_cnclaw29_TrackMotors_0 M_cncref29_Motors M_track_Motors M_cncmill_Mod M_cnclaw29_run M_cnclaw29_awake) 64 6 (bodyOf Tryz.prog 3 6) sk_cnclaw29_TrackMotors_6 ex_cnclaw29_TrackMotors_6
def C_cnclaw29_TrackMotors_1 (M_cncref29_Motors M_track_Motors M_cncmill_Mod M_cnclaw29_run M_cnclaw29_awake : Fn) (N6 : Lp) : Cfg := (C_cnclaw29_TrackMotors_0 M_cncref29_Motors M_track_Motors M_cncmill_Mod M_cnclaw29_run M_cnclaw29_awake).loop 6 sk_cnclaw29_TrackMotors_6 ex_cnclaw29_TrackMotors_6 N6
def mf_cnclaw29_TrackMotors (M_cncref29_Motors M_track_Motors M_cncmill_Mod M_cnclaw29_run M_cnclaw29_awake : Fn) (N6 : Lp) : Fn := modelF Tryz.prog (C_cnclaw29_TrackMotors_1 M_cncref29_Motors M_track_Motors M_cncmill_Mod M_cnclaw29_run M_cnclaw29_awake N6) 64 3 sig_cnclaw29_TrackMotors osig_cnclaw29_TrackMotors
theorem st_cnclaw29_TrackMotors_6_eq (M_cncref29_Motors M_track_Motors M_cncmill_Mod M_cnclaw29_run M_cnclaw29_awake : Fn) (v0 v1 v2 v3 v4 v5 : Int) (v6 v7 : Rw) (v8 v9 v10 v11 v12 v13 v14 v15 v16 : Int) (v17 : Rw) (v18 v19 v20 v21 v22 v23 v24 v25 v26 : Int) (v27 : Rw) (v28 v29 v30 v31 v32 v33 v34 v35 v36 : Int) (v37 v38 : Rw) (v39 v40 v41 v42 v43 : Int) : st_cnclaw29_TrackMotors_6 M_cncref29_Motors M_track_Motors M_cncmill_Mod M_cnclaw29_run M_cnclaw29_awake [I v0, I v1, I v2, I v3, I v4, I v5, .view kSgm v6, .view kPt v7, I v8, I v9, I v10, I v11, I v12, I v13, I v14, I v15, I v16, .view kInts v17, I v18, I v19, I v20, I v21, I v22, I v23, I v24, I v25, I v26, .view kInts v27, I v28, I v29, I v30, I v31, I v32, I v33, I v34, I v35, I v36, .view kInts v37, .view kPce v38, I v39, I v40, I v41, I v42, I v43] =
 bif decide (v2 < IntKind.i64.wrap (v1 + 40)) then
 (M_track_Motors [I v3, I v4, I v5, .view kSgm v6, .view kPt v7, I v8, I v9, I v10, I v11, I v12, I v13, I v14, I v15, I v16, .view kInts v17, I v18, I v19, I v20, I v21, I v22, I v23, I v24, I v25, I v26, .view kInts v27, I v28, I v29, I v30, I v31, I v32, I v33, I v34, I v35, I v36, .view kInts v37, .view kPce v38, I v39, I v40, I v41, I v42, I v43, I v2]).bind fun o11 =>
 (M_cncref29_Motors [I v3, I v4, I v5, .view kSgm v6, .view kPt v7, I v8, I v9, I v10, I v11, I v12, I v13, I v14, I v15, I v16, .view kInts v17, I v18, I v19, I v20, I v21, I v22, I v23, I v24, I v25, I v26, .view kInts v27, I v28, I v29, I v30, I v31, I v32, I v33, I v34, I v35, I v36, .view kInts v37, .view kPce v38, I v39, I v40, I v41, I v42, I v43, I v2]).bind fun o12 =>
 bif !(gA o11 0 == gA o12 0 && (gA o11 1 == gA o12 1 && (gA o11 2 == gA o12 2 && true))) then
 some (1, [B false])
 else
 some (0, [I v0, I v1, I (IntKind.i64.wrap (v2 + 1)), I v3, I v4, I v5, .view kSgm v6, .view kPt v7, I v8, I v9, I v10, I v11, I v12, I v13, I v14, I v15, I v16, .view kInts v17, I v18, I v19, I v20, I v21, I v22, I v23, I v24, I v25, I v26, .view kInts v27, I v28, I v29, I v30, I v31, I v32, I v33, I v34, I v35, I v36, .view kInts v37, .view kPce v38, I v39, I v40, I v41, I v42, I v43])
 else
 some (2, [I v0, I v3, I v4, I v5, .view kSgm v6, .view kPt v7, I v8, I v9, I v10, I v11, I v12, I v13, I v14, I v15, I v16, .view kInts v17, I v18, I v19, I v20, I v21, I v22, I v23, I v24, I v25, I v26, .view kInts v27, I v28, I v29, I v30, I v31, I v32, I v33, I v34, I v35, I v36, .view kInts v37, .view kPce v38, I v39, I v40, I v41, I v42, I v43]) := by kernel_rfl
theorem mf_cnclaw29_TrackMotors_eq (M_cncref29_Motors M_track_Motors M_cncmill_Mod M_cnclaw29_run M_cnclaw29_awake : Fn) (N6 : Lp) (x0 x1 : Rw) (x2 x3 x4 x5 : Int) : mf_cnclaw29_TrackMotors M_cncref29_Motors M_track_Motors M_cncmill_Mod M_cnclaw29_run M_cnclaw29_awake N6 [.view kInts x0, .view kInts x1, I x2, I x3, I x4, I x5] =
 (M_cnclaw29_awake []).bind fun o13 =>
 bif !bA o13 0 then
 some [B false]
 else
 (M_cnclaw29_run [.view kInts x0, .view kInts x1, I x2, I x3, I x4]).bind fun o14 =>
 (M_cncmill_Mod [I x5, I (IntKind.i64.wrap (gA o14 36 + 1))]).bind fun o15 =>
 (N6 [I x5, jA o15 0, jA o15 0, jA o14 0, jA o14 1, jA o14 2, .view kSgm (wA o14 3), .view kPt (wA o14 4), jA o14 5, jA o14 6, jA o14 7, jA o14 8, jA o14 9, jA o14 10, jA o14 11, jA o14 12, jA o14 13, .view kInts (wA o14 14), jA o14 15, jA o14 16, jA o14 17, jA o14 18, jA o14 19, jA o14 20, jA o14 21, jA o14 22, jA o14 23, .view kInts (wA o14 24), jA o14 25, jA o14 26, jA o14 27, jA o14 28, jA o14 29, jA o14 30, jA o14 31, jA o14 32, jA o14 33, .view kInts (wA o14 34), .view kPce (wA o14 35), jA o14 36, jA o14 37, jA o14 38, jA o14 39, jA o14 40]).bind fun o16 =>
 bif o16.1.beq 1 then
 some [B (bA o16.2 0)]
 else
 bif o16.1.beq 2 then
 (M_track_Motors [jA o16.2 1, jA o16.2 2, jA o16.2 3, .view kSgm (wA o16.2 4), .view kPt (wA o16.2 5), jA o16.2 6, jA o16.2 7, jA o16.2 8, jA o16.2 9, jA o16.2 10, jA o16.2 11, jA o16.2 12, jA o16.2 13, jA o16.2 14, .view kInts (wA o16.2 15), jA o16.2 16, jA o16.2 17, jA o16.2 18, jA o16.2 19, jA o16.2 20, jA o16.2 21, jA o16.2 22, jA o16.2 23, jA o16.2 24, .view kInts (wA o16.2 25), jA o16.2 26, jA o16.2 27, jA o16.2 28, jA o16.2 29, jA o16.2 30, jA o16.2 31, jA o16.2 32, jA o16.2 33, jA o16.2 34, .view kInts (wA o16.2 35), .view kPce (wA o16.2 36), jA o16.2 37, jA o16.2 38, jA o16.2 39, jA o16.2 40, jA o16.2 41, jA o16.2 0]).bind fun o17 =>
 (M_cncref29_Motors [jA o16.2 1, jA o16.2 2, jA o16.2 3, .view kSgm (wA o16.2 4), .view kPt (wA o16.2 5), jA o16.2 6, jA o16.2 7, jA o16.2 8, jA o16.2 9, jA o16.2 10, jA o16.2 11, jA o16.2 12, jA o16.2 13, jA o16.2 14, .view kInts (wA o16.2 15), jA o16.2 16, jA o16.2 17, jA o16.2 18, jA o16.2 19, jA o16.2 20, jA o16.2 21, jA o16.2 22, jA o16.2 23, jA o16.2 24, .view kInts (wA o16.2 25), jA o16.2 26, jA o16.2 27, jA o16.2 28, jA o16.2 29, jA o16.2 30, jA o16.2 31, jA o16.2 32, jA o16.2 33, jA o16.2 34, .view kInts (wA o16.2 35), .view kPce (wA o16.2 36), jA o16.2 37, jA o16.2 38, jA o16.2 39, jA o16.2 40, jA o16.2 41, jA o16.2 0]).bind fun o18 =>
 some [B (gA o17 0 == gA o18 0 && (gA o17 1 == gA o18 1 && (gA o17 2 == gA o18 2 && true)))]
 else
 none := by kernel_rfl
def l_cnclaw29_TrackMotors_6 := loopC (st_cnclaw29_TrackMotors_6 m_cncref29_Motors m_track_Motors m_cncmill_Mod m_cnclaw29_run m_cnclaw29_awake )
def m_cnclaw29_TrackMotors := mf_cnclaw29_TrackMotors m_cncref29_Motors m_track_Motors m_cncmill_Mod m_cnclaw29_run m_cnclaw29_awake l_cnclaw29_TrackMotors_6
theorem sp_cnclaw29_TrackMotors : SpecOK Tryz.prog (C_cnclaw29_TrackMotors_0 m_cncref29_Motors m_track_Motors m_cncmill_Mod m_cnclaw29_run m_cnclaw29_awake) := specOK_of rfl ⟨r_cncref29_Motors, r_track_Motors, r_cncmill_Mod, r_cnclaw29_run, r_cnclaw29_awake, trivial⟩
theorem c_cnclaw29_TrackMotors : ∀ (args : List TV) (v : TV) (mem : Mem), (spOf sig_cnclaw29_TrackMotors osig_cnclaw29_TrackMotors m_cnclaw29_TrackMotors (TV × Mem) args ⟨[], []⟩ fun v m => some (v, m)) = some (v, mem) -> PCallM Tryz.prog 3 args ⟨[], []⟩ v mem := fun args v mem h => callM_of (f := 3) (C := (C_cnclaw29_TrackMotors_1 m_cncref29_Motors m_track_Motors m_cncmill_Mod m_cnclaw29_run m_cnclaw29_awake l_cnclaw29_TrackMotors_6)) (L := 64) (by kernel_rfl) ((FnOK.bare rfl rfl rfl).loop sp_cnclaw29_TrackMotors eqOk mixOk (by kernel_rfl) (by kernel_rfl)) sp_cnclaw29_TrackMotors eqOk mixOk (by kernel_rfl) (by kernel_rfl) args v mem h
end Go.Bm
