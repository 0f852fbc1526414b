/- functions of the program and of the references, as models -/
import Derived.Test.YtdllaekpkcanbaaGreatMx4
import Derived.Test.YtdllaekpkcanbaaGreatSeAw0
import Derived.Test.YtdllaekpkcanbaaGreatSeAw29
set_option linter.unusedSimpArgs false
set_option linter.unusedVariables false
set_option maxRecDepth 100000
namespace Go.Bm
open Go.Proofs
def sig_cnclaw29_run : Sk := { tmps := [TS.v false [CS.sl kInts], TS.v false [CS.sl kInts], TS.v false [CS.int .i64], TS.v false [CS.int .i64], TS.v false [CS.int .i64]], boxes := [], rows := [] }
def osig_cnclaw29_run : Sk := { tmps := [TS.tup [(true, [CS.int .i64, CS.int .i64, CS.int .i64, CS.sl kSgm, CS.sl kPt, CS.int .i64, CS.int .i64, CS.int .i64, CS.int .i64, CS.int .i64, CS.int .i64, CS.int .i64, CS.int .i64, CS.int .i64, CS.sl kInts, CS.int .i64, CS.int .i64, CS.int .i64, CS.int .i64, CS.int .i64, CS.int .i64, CS.int .i64, CS.int .i64, CS.int .i64, CS.sl kInts, CS.int .i64, CS.int .i64, CS.int .i64, CS.int .i64, CS.int .i64, CS.int .i64, CS.int .i64, CS.int .i64, CS.int .i64, CS.sl kInts, CS.sl kPce, CS.int .i64, CS.int .i64, CS.int .i64, CS.int .i64, CS.int .i64]), (false, [CS.int .i64])]], boxes := [], rows := [] }
noncomputable def C_cnclaw29_run_0 (M_cncref29_Leg M_cncmill_Mod M_cncmill_Dirs M_cncref25_Length M_cncmill_Axes M_cncmill_Path : List AC → Option (List AC)) : Cfg := { spec := lookS [(27, spOf sig_cncref29_Leg osig_cncref29_Leg M_cncref29_Leg), (16, spOf sig_cncmill_Mod osig_cncmill_Mod M_cncmill_Mod), (24, spOf sig_cncmill_Dirs osig_cncmill_Dirs M_cncmill_Dirs), (25, spOf sig_cncref25_Length osig_cncref25_Length M_cncref25_Length), (23, spOf sig_cncmill_Axes osig_cncmill_Axes M_cncmill_Axes), (22, spOf sig_cncmill_Path osig_cncmill_Path M_cncmill_Path)], eqOk := eqAll, ownOff := ownOff }
noncomputable def mf_cnclaw29_run (M_cncref29_Leg M_cncmill_Mod M_cncmill_Dirs M_cncref25_Length M_cncmill_Axes M_cncmill_Path : List AC → Option (List AC))  : List AC → Option (List AC) := modelF Tryz.prog (C_cnclaw29_run_0 M_cncref29_Leg M_cncmill_Mod M_cncmill_Dirs M_cncref25_Length M_cncmill_Axes M_cncmill_Path) 64 15 sig_cnclaw29_run osig_cnclaw29_run
theorem mf_cnclaw29_run_eq (M_cncref29_Leg M_cncmill_Mod M_cncmill_Dirs M_cncref25_Length M_cncmill_Axes M_cncmill_Path : List AC → Option (List AC))  (x0 x1 : List (List AC)) (x2 x3 x4 : Int) : mf_cnclaw29_run M_cncref29_Leg M_cncmill_Mod M_cncmill_Dirs M_cncref25_Length M_cncmill_Axes M_cncmill_Path  [AC.view kInts x0, AC.view kInts x1, I x2, I x3, I x4] =
 (M_cncmill_Path [AC.view kInts x0, I 5]).bind fun o7 =>
 (M_cncmill_Axes [AC.view kInts x1]).bind fun o8 =>
 (M_cncref25_Length [I (intOf (nth .dead o7 0)), I (intOf (nth .dead o7 1)), I (intOf (nth .dead o7 2)), AC.view kSgm (rowsOf (nth .dead o7 3)), AC.view kPt (rowsOf (nth .dead o7 4))]).bind fun o9 =>
 (M_cncmill_Dirs [I x2]).bind fun o10 =>
 (M_cncmill_Mod [I x3, I (IntKind.i64.wrap (intOf (nth .dead o9 0) + 1))]).bind fun o11 =>
 (M_cncmill_Mod [I x4, I (IntKind.i64.wrap (intOf (nth .dead o9 0) + 1))]).bind fun o12 =>
 (M_cncref29_Leg [I (intOf (nth .dead o7 0)), I (intOf (nth .dead o7 1)), I (intOf (nth .dead o7 2)), AC.view kSgm (rowsOf (nth .dead o7 3)), AC.view kPt (rowsOf (nth .dead o7 4)), I (intOf (nth .dead o8 0)), I (intOf (nth .dead o8 1)), I (intOf (nth .dead o8 2)), I (intOf (nth .dead o8 3)), I (intOf (nth .dead o8 4)), I (intOf (nth .dead o8 5)), I (intOf (nth .dead o8 6)), I (intOf (nth .dead o8 7)), I (intOf (nth .dead o8 8)), AC.view kInts (rowsOf (nth .dead o8 9)), I (intOf (nth .dead o8 10)), I (intOf (nth .dead o8 11)), I (intOf (nth .dead o8 12)), I (intOf (nth .dead o8 13)), I (intOf (nth .dead o8 14)), I (intOf (nth .dead o8 15)), I (intOf (nth .dead o8 16)), I (intOf (nth .dead o8 17)), I (intOf (nth .dead o8 18)), AC.view kInts (rowsOf (nth .dead o8 19)), I (intOf (nth .dead o8 20)), I (intOf (nth .dead o8 21)), I (intOf (nth .dead o8 22)), I (intOf (nth .dead o8 23)), I (intOf (nth .dead o8 24)), I (intOf (nth .dead o8 25)), I (intOf (nth .dead o8 26)), I (intOf (nth .dead o8 27)), I (intOf (nth .dead o8 28)), AC.view kInts (rowsOf (nth .dead o8 29)), I (intOf (nth .dead o10 0)), I (intOf (nth .dead o10 1)), I (intOf (nth .dead o10 2)), I (intOf (nth .dead o11 0)), I (intOf (nth .dead o12 0))]).bind fun o13 =>
 some [I (intOf (nth .dead o7 0)), I (intOf (nth .dead o7 1)), I (intOf (nth .dead o7 2)), AC.view kSgm (rowsOf (nth .dead o7 3)), AC.view kPt (rowsOf (nth .dead o7 4)), I (intOf (nth .dead o8 0)), I (intOf (nth .dead o8 1)), I (intOf (nth .dead o8 2)), I (intOf (nth .dead o8 3)), I (intOf (nth .dead o8 4)), I (intOf (nth .dead o8 5)), I (intOf (nth .dead o8 6)), I (intOf (nth .dead o8 7)), I (intOf (nth .dead o8 8)), AC.view kInts (rowsOf (nth .dead o8 9)), I (intOf (nth .dead o8 10)), I (intOf (nth .dead o8 11)), I (intOf (nth .dead o8 12)), I (intOf (nth .dead o8 13)), I (intOf (nth .dead o8 14)), I (intOf (nth .dead o8 15)), I (intOf (nth .dead o8 16)), I (intOf (nth .dead o8 17)), I (intOf (nth .dead o8 18)), AC.view kInts (rowsOf (nth .dead o8 19)), I (intOf (nth .dead o8 20)), I (intOf (nth .dead o8 21)), I (intOf (nth .dead o8 22)), I (intOf (nth .dead o8 23)), I (intOf (nth .dead o8 24)), I (intOf (nth .dead o8 25)), I (intOf (nth .dead o8 26)), I (intOf (nth .dead o8 27)), I (intOf (nth .dead o8 28)), AC.view kInts (rowsOf (nth .dead o8 29)), AC.view kPce (rowsOf (nth .dead o13 0)), I (intOf (nth .dead o13 1)), I (intOf (nth .dead o13 2)), I (intOf (nth .dead o13 3)), I (intOf (nth .dead o13 4)), I (intOf (nth .dead o13 5)), I (intOf (nth .dead o9 0))] := by kernel_rfl
noncomputable def m_cnclaw29_run := mf_cnclaw29_run m_cncref29_Leg m_cncmill_Mod m_cncmill_Dirs m_cncref25_Length m_cncmill_Axes m_cncmill_Path 
theorem sp_cnclaw29_run : SpecOK Tryz.prog (C_cnclaw29_run_0 m_cncref29_Leg m_cncmill_Mod m_cncmill_Dirs m_cncref25_Length m_cncmill_Axes m_cncmill_Path) := specOK_of rfl ⟨r_cncref29_Leg, r_cncmill_Mod, r_cncmill_Dirs, r_cncref25_Length, r_cncmill_Axes, r_cncmill_Path, trivial⟩
theorem r_cnclaw29_run : RowOK Tryz.prog (15, spOf sig_cnclaw29_run osig_cnclaw29_run m_cnclaw29_run) := row_of (C := (C_cnclaw29_run_0 m_cncref29_Leg m_cncmill_Mod m_cncmill_Dirs m_cncref25_Length m_cncmill_Axes m_cncmill_Path)) (L := 64) (sig := sig_cnclaw29_run) (osig := osig_cnclaw29_run) (by kernel_rfl) (FnOK.bare rfl rfl rfl) sp_cnclaw29_run eqOk mixOk (by kernel_rfl) (by kernel_rfl)
def sig_cnclaw29_TrackPlace : Sk := { tmps := [TS.v false [CS.sl kInts], TS.v false [CS.sl kInts], TS.v false [CS.int .i64], TS.v false [CS.int .i64], TS.v false [CS.int .i64], TS.v false [CS.int .i64]], boxes := [], rows := [] }
def osig_cnclaw29_TrackPlace : Sk := { tmps := [TS.v false [CS.bool]], boxes := [], rows := [] }
noncomputable def C_cnclaw29_TrackPlace_0 (M_cncref29_Loose M_track_Loose M_cncref29_Place M_track_Place M_cncmill_Mod M_cnclaw29_run M_cnclaw29_awake : List AC → Option (List AC)) : Cfg := { spec := lookS [(33, spOf sig_cncref29_Loose osig_cncref29_Loose M_cncref29_Loose), (32, spOf sig_track_Loose osig_track_Loose M_track_Loose), (31, spOf sig_cncref29_Place osig_cncref29_Place M_cncref29_Place), (21, spOf sig_track_Place osig_track_Place M_track_Place), (16, spOf sig_cncmill_Mod osig_cncmill_Mod M_cncmill_Mod), (15, spOf sig_cnclaw29_run osig_cnclaw29_run M_cnclaw29_run), (14, spOf sig_cnclaw29_awake osig_cnclaw29_awake M_cnclaw29_awake)], eqOk := eqAll, ownOff := ownOff, unroll := [6] }
noncomputable def mf_cnclaw29_TrackPlace (M_cncref29_Loose M_track_Loose M_cncref29_Place M_track_Place M_cncmill_Mod M_cnclaw29_run M_cnclaw29_awake : List AC → Option (List AC))  : List AC → Option (List AC) := modelF Tryz.prog (C_cnclaw29_TrackPlace_0 M_cncref29_Loose M_track_Loose M_cncref29_Place M_track_Place M_cncmill_Mod M_cnclaw29_run M_cnclaw29_awake) 64 7 sig_cnclaw29_TrackPlace osig_cnclaw29_TrackPlace
theorem mf_cnclaw29_TrackPlace_eq (M_cncref29_Loose M_track_Loose M_cncref29_Place M_track_Place M_cncmill_Mod M_cnclaw29_run M_cnclaw29_awake : List AC → Option (List AC))  (x0 x1 : List (List AC)) (x2 x3 x4 x5 : Int) : mf_cnclaw29_TrackPlace M_cncref29_Loose M_track_Loose M_cncref29_Place M_track_Place M_cncmill_Mod M_cnclaw29_run M_cnclaw29_awake  [AC.view kInts x0, AC.view kInts x1, I x2, I x3, I x4, I x5] =
 (M_cnclaw29_awake []).bind fun o19 =>
 bif !boolOf (nth .dead o19 0) then
 some [AC.bool false]
 else
 (M_cnclaw29_run [AC.view kInts x0, AC.view kInts x1, I x2, I x3, I x4]).bind fun o20 =>
 (M_cncmill_Mod [I x5, I (IntKind.i64.wrap (intOf (nth .dead o20 36) + 1))]).bind fun o21 =>
 (M_track_Place [AC.view kPce (rowsOf (nth .dead o20 35)), I (intOf (nth .dead o20 36)), I (intOf (nth .dead o20 37)), I (intOf (nth .dead o20 38)), I (intOf (nth .dead o20 39)), I (intOf (nth .dead o20 40)), I x5]).bind fun o22 =>
 (M_cncref29_Place [AC.view kPce (rowsOf (nth .dead o20 35)), I (intOf (nth .dead o20 36)), I (intOf (nth .dead o20 37)), I (intOf (nth .dead o20 38)), I (intOf (nth .dead o20 39)), I (intOf (nth .dead o20 40)), I x5]).bind fun o23 =>
 bif intOf (nth .dead o22 0) != intOf (nth .dead o23 0) then
 some [AC.bool false]
 else
 (M_track_Loose [AC.view kPce (rowsOf (nth .dead o20 35)), I (intOf (nth .dead o20 36)), I (intOf (nth .dead o20 37)), I (intOf (nth .dead o20 38)), I (intOf (nth .dead o20 39)), I (intOf (nth .dead o20 40)), I x5]).bind fun o24 =>
 (M_cncref29_Loose [AC.view kPce (rowsOf (nth .dead o20 35)), I (intOf (nth .dead o20 36)), I (intOf (nth .dead o20 37)), I (intOf (nth .dead o20 38)), I (intOf (nth .dead o20 39)), I (intOf (nth .dead o20 40)), I x5]).bind fun o25 =>
 bif !boolOf (nth .dead o24 0) == boolOf (nth .dead o25 0) then
 some [AC.bool false]
 else
 (M_track_Place [AC.view kPce (rowsOf (nth .dead o20 35)), I (intOf (nth .dead o20 36)), I (intOf (nth .dead o20 37)), I (intOf (nth .dead o20 38)), I (intOf (nth .dead o20 39)), I (intOf (nth .dead o20 40)), I (intOf (nth .dead o21 0))]).bind fun o26 =>
 (M_cncref29_Place [AC.view kPce (rowsOf (nth .dead o20 35)), I (intOf (nth .dead o20 36)), I (intOf (nth .dead o20 37)), I (intOf (nth .dead o20 38)), I (intOf (nth .dead o20 39)), I (intOf (nth .dead o20 40)), I (intOf (nth .dead o21 0))]).bind fun o27 =>
 bif intOf (nth .dead o26 0) != intOf (nth .dead o27 0) then
 some [AC.bool false]
 else
 (M_track_Loose [AC.view kPce (rowsOf (nth .dead o20 35)), I (intOf (nth .dead o20 36)), I (intOf (nth .dead o20 37)), I (intOf (nth .dead o20 38)), I (intOf (nth .dead o20 39)), I (intOf (nth .dead o20 40)), I (intOf (nth .dead o21 0))]).bind fun o28 =>
 (M_cncref29_Loose [AC.view kPce (rowsOf (nth .dead o20 35)), I (intOf (nth .dead o20 36)), I (intOf (nth .dead o20 37)), I (intOf (nth .dead o20 38)), I (intOf (nth .dead o20 39)), I (intOf (nth .dead o20 40)), I (intOf (nth .dead o21 0))]).bind fun o29 =>
 bif !boolOf (nth .dead o28 0) == boolOf (nth .dead o29 0) then
 some [AC.bool false]
 else
 (M_track_Place [AC.view kPce (rowsOf (nth .dead o20 35)), I (intOf (nth .dead o20 36)), I (intOf (nth .dead o20 37)), I (intOf (nth .dead o20 38)), I (intOf (nth .dead o20 39)), I (intOf (nth .dead o20 40)), I 0]).bind fun o30 =>
 (M_cncref29_Place [AC.view kPce (rowsOf (nth .dead o20 35)), I (intOf (nth .dead o20 36)), I (intOf (nth .dead o20 37)), I (intOf (nth .dead o20 38)), I (intOf (nth .dead o20 39)), I (intOf (nth .dead o20 40)), I 0]).bind fun o31 =>
 bif intOf (nth .dead o30 0) != intOf (nth .dead o31 0) then
 some [AC.bool false]
 else
 (M_track_Loose [AC.view kPce (rowsOf (nth .dead o20 35)), I (intOf (nth .dead o20 36)), I (intOf (nth .dead o20 37)), I (intOf (nth .dead o20 38)), I (intOf (nth .dead o20 39)), I (intOf (nth .dead o20 40)), I 0]).bind fun o32 =>
 (M_cncref29_Loose [AC.view kPce (rowsOf (nth .dead o20 35)), I (intOf (nth .dead o20 36)), I (intOf (nth .dead o20 37)), I (intOf (nth .dead o20 38)), I (intOf (nth .dead o20 39)), I (intOf (nth .dead o20 40)), I 0]).bind fun o33 =>
 bif !boolOf (nth .dead o32 0) == boolOf (nth .dead o33 0) then
 some [AC.bool false]
 else
 (M_track_Place [AC.view kPce (rowsOf (nth .dead o20 35)), I (intOf (nth .dead o20 36)), I (intOf (nth .dead o20 37)), I (intOf (nth .dead o20 38)), I (intOf (nth .dead o20 39)), I (intOf (nth .dead o20 40)), I (intOf (nth .dead o20 36))]).bind fun o34 =>
 (M_cncref29_Place [AC.view kPce (rowsOf (nth .dead o20 35)), I (intOf (nth .dead o20 36)), I (intOf (nth .dead o20 37)), I (intOf (nth .dead o20 38)), I (intOf (nth .dead o20 39)), I (intOf (nth .dead o20 40)), I (intOf (nth .dead o20 36))]).bind fun o35 =>
 bif intOf (nth .dead o34 0) != intOf (nth .dead o35 0) then
 some [AC.bool false]
 else
 (M_track_Loose [AC.view kPce (rowsOf (nth .dead o20 35)), I (intOf (nth .dead o20 36)), I (intOf (nth .dead o20 37)), I (intOf (nth .dead o20 38)), I (intOf (nth .dead o20 39)), I (intOf (nth .dead o20 40)), I (intOf (nth .dead o20 36))]).bind fun o36 =>
 (M_cncref29_Loose [AC.view kPce (rowsOf (nth .dead o20 35)), I (intOf (nth .dead o20 36)), I (intOf (nth .dead o20 37)), I (intOf (nth .dead o20 38)), I (intOf (nth .dead o20 39)), I (intOf (nth .dead o20 40)), I (intOf (nth .dead o20 36))]).bind fun o37 =>
 bif !boolOf (nth .dead o36 0) == boolOf (nth .dead o37 0) then
 some [AC.bool false]
 else
 some [AC.bool true] := by kernel_rfl
noncomputable def m_cnclaw29_TrackPlace := mf_cnclaw29_TrackPlace m_cncref29_Loose m_track_Loose m_cncref29_Place m_track_Place m_cncmill_Mod m_cnclaw29_run m_cnclaw29_awake 
theorem sp_cnclaw29_TrackPlace : SpecOK Tryz.prog (C_cnclaw29_TrackPlace_0 m_cncref29_Loose m_track_Loose m_cncref29_Place m_track_Place m_cncmill_Mod m_cnclaw29_run m_cnclaw29_awake) := specOK_of rfl ⟨r_cncref29_Loose, r_track_Loose, r_cncref29_Place, r_track_Place, r_cncmill_Mod, r_cnclaw29_run, r_cnclaw29_awake, trivial⟩
theorem c_cnclaw29_TrackPlace : ∀ (args : List TV) (v : TV) (mem : Mem), (spOf sig_cnclaw29_TrackPlace osig_cnclaw29_TrackPlace m_cnclaw29_TrackPlace (TV × Mem) args ⟨[], []⟩ fun v m => some (v, m)) = some (v, mem) → PCallM Tryz.prog 7 args ⟨[], []⟩ v mem := fun args v mem h => callM_of (f := 7) (C := (C_cnclaw29_TrackPlace_0 m_cncref29_Loose m_track_Loose m_cncref29_Place m_track_Place m_cncmill_Mod m_cnclaw29_run m_cnclaw29_awake)) (L := 64) (sig := sig_cnclaw29_TrackPlace) (osig := osig_cnclaw29_TrackPlace) (by kernel_rfl) (FnOK.bare rfl rfl rfl) sp_cnclaw29_TrackPlace eqOk mixOk (by kernel_rfl) (by kernel_rfl) args v mem h
end Go.Bm
