/- functions of the program and of the references, as models -/
import Derived.Test.YtdllaekpkcanbaaMx4
import Derived.Test.YtdllaekpkcanbaaSeAw0
import Derived.Test.YtdllaekpkcanbaaSeAw29
set_option linter.unusedSimpArgs false
set_option linter.unusedVariables false
set_option maxRecDepth 100000
noncomputable section
namespace Go.Bm
open Go.Proofs
def sig_cnclaw29_TrackReturn : Sk := { tmps := [tf [CS.sl kInts], tf [CS.sl kInts], tf [ci], tf [ci], tf [ci]], boxes := [], rows := [] }
def osig_cnclaw29_TrackReturn : Sk := { tmps := [tf [CS.bool]], boxes := [], rows := [] }
def C_cnclaw29_TrackReturn_0 (M_cncref28_Shift M_track_Motors M_track_Final M_track_Leg M_cncmill_Mod M_cncref25_Length M_cncmill_Dirs M_cncmill_Axes M_cncmill_Path M_cnclaw29_awake : Fn) : Cfg := { spec := lookS [(40, spOf sig_cncref28_Shift osig_cncref28_Shift M_cncref28_Shift), (38, spOf sig_track_Motors osig_track_Motors M_track_Motors), (39, spOf sig_track_Final osig_track_Final M_track_Final), (36, spOf sig_track_Leg osig_track_Leg M_track_Leg), (23, spOf sig_cncmill_Mod osig_cncmill_Mod M_cncmill_Mod), (35, spOf sig_cncref25_Length osig_cncref25_Length M_cncref25_Length), (34, spOf sig_cncmill_Dirs osig_cncmill_Dirs M_cncmill_Dirs), (33, spOf sig_cncmill_Axes osig_cncmill_Axes M_cncmill_Axes), (32, spOf sig_cncmill_Path osig_cncmill_Path M_cncmill_Path), (31, spOf sig_cnclaw29_awake osig_cnclaw29_awake M_cnclaw29_awake)], eqOk := eqAll, ownOff := ownOff, unroll := [13] }
def mf_cnclaw29_TrackReturn (M_cncref28_Shift M_track_Motors M_track_Final M_track_Leg M_cncmill_Mod M_cncref25_Length M_cncmill_Dirs M_cncmill_Axes M_cncmill_Path M_cnclaw29_awake : Fn) : Fn := modelF Try.prog (C_cnclaw29_TrackReturn_0 M_cncref28_Shift M_track_Motors M_track_Final M_track_Leg M_cncmill_Mod M_cncref25_Length M_cncmill_Dirs M_cncmill_Axes M_cncmill_Path M_cnclaw29_awake) 64 8 sig_cnclaw29_TrackReturn osig_cnclaw29_TrackReturn
theorem mf_cnclaw29_TrackReturn_eq (M_cncref28_Shift M_track_Motors M_track_Final M_track_Leg M_cncmill_Mod M_cncref25_Length M_cncmill_Dirs M_cncmill_Axes M_cncmill_Path M_cnclaw29_awake : Fn) (x0 x1 : Rw) (x2 x3 x4 : Int) : mf_cnclaw29_TrackReturn M_cncref28_Shift M_track_Motors M_track_Final M_track_Leg M_cncmill_Mod M_cncref25_Length M_cncmill_Dirs M_cncmill_Axes M_cncmill_Path M_cnclaw29_awake [.view kInts x0, .view kInts x1, I x2, I x3, I x4] =
 (M_cnclaw29_awake []).bind fun o21 =>
 bif !bA o21 0 then
 some [B false]
 else
 (M_cncmill_Path [.view kInts x0, I 5]).bind fun o22 =>
 (M_cncmill_Axes [.view kInts x1]).bind fun o23 =>
 (M_cncmill_Dirs [I x2]).bind fun o24 =>
 (M_cncref25_Length [jA o22 0, jA o22 1, jA o22 2, .view kSgm (wA o22 3), .view kPt (wA o22 4)]).bind fun o25 =>
 (M_cncmill_Mod [I x3, I (IntKind.i64.wrap (gA o25 0 + 1))]).bind fun o26 =>
 (M_cncmill_Mod [I x4, I (IntKind.i64.wrap (gA o25 0 + 1))]).bind fun o27 =>
 (M_track_Leg [jA o22 0, jA o22 1, jA o22 2, .view kSgm (wA o22 3), .view kPt (wA o22 4), jA o23 0, jA o23 1, jA o23 2, jA o23 3, jA o23 4, jA o23 5, jA o23 6, jA o23 7, jA o23 8, .view kInts (wA o23 9), jA o23 10, jA o23 11, jA o23 12, jA o23 13, jA o23 14, jA o23 15, jA o23 16, jA o23 17, jA o23 18, .view kInts (wA o23 19), jA o23 20, jA o23 21, jA o23 22, jA o23 23, jA o23 24, jA o23 25, jA o23 26, jA o23 27, jA o23 28, .view kInts (wA o23 29), jA o24 0, jA o24 1, jA o24 2, jA o26 0, jA o27 0]).bind fun o28 =>
 (M_track_Final [.view kPce (wA o28 0), jA o28 1, jA o28 2, jA o28 3, jA o28 4, jA o28 5]).bind fun o29 =>
 (M_track_Leg [jA o22 0, jA o22 1, jA o22 2, .view kSgm (wA o22 3), .view kPt (wA o22 4), jA o23 0, jA o23 1, jA o23 2, jA o23 3, jA o23 4, jA o23 5, jA o23 6, jA o23 7, jA o23 8, .view kInts (wA o23 9), jA o23 10, jA o23 11, jA o23 12, jA o23 13, jA o23 14, jA o23 15, jA o23 16, jA o23 17, jA o23 18, .view kInts (wA o23 19), jA o23 20, jA o23 21, jA o23 22, jA o23 23, jA o23 24, jA o23 25, jA o23 26, jA o23 27, jA o23 28, .view kInts (wA o23 29), jA o29 0, jA o29 1, jA o29 2, jA o27 0, jA o26 0]).bind fun o30 =>
 (M_track_Motors [jA o22 0, jA o22 1, jA o22 2, .view kSgm (wA o22 3), .view kPt (wA o22 4), jA o23 0, jA o23 1, jA o23 2, jA o23 3, jA o23 4, jA o23 5, jA o23 6, jA o23 7, jA o23 8, .view kInts (wA o23 9), jA o23 10, jA o23 11, jA o23 12, jA o23 13, jA o23 14, jA o23 15, jA o23 16, jA o23 17, jA o23 18, .view kInts (wA o23 19), jA o23 20, jA o23 21, jA o23 22, jA o23 23, jA o23 24, jA o23 25, jA o23 26, jA o23 27, jA o23 28, .view kInts (wA o23 29), .view kPce (wA o28 0), jA o28 1, jA o28 2, jA o28 3, jA o28 4, jA o28 5, jA o28 1]).bind fun o31 =>
 (M_track_Motors [jA o22 0, jA o22 1, jA o22 2, .view kSgm (wA o22 3), .view kPt (wA o22 4), jA o23 0, jA o23 1, jA o23 2, jA o23 3, jA o23 4, jA o23 5, jA o23 6, jA o23 7, jA o23 8, .view kInts (wA o23 9), jA o23 10, jA o23 11, jA o23 12, jA o23 13, jA o23 14, jA o23 15, jA o23 16, jA o23 17, jA o23 18, .view kInts (wA o23 19), jA o23 20, jA o23 21, jA o23 22, jA o23 23, jA o23 24, jA o23 25, jA o23 26, jA o23 27, jA o23 28, .view kInts (wA o23 29), .view kPce (wA o30 0), jA o30 1, jA o30 2, jA o30 3, jA o30 4, jA o30 5, I 0]).bind fun o32 =>
 bif !(gA o31 0 == gA o32 0 && (gA o31 1 == gA o32 1 && (gA o31 2 == gA o32 2 && true))) then
 some [B false]
 else
 (M_track_Motors [jA o22 0, jA o22 1, jA o22 2, .view kSgm (wA o22 3), .view kPt (wA o22 4), jA o23 0, jA o23 1, jA o23 2, jA o23 3, jA o23 4, jA o23 5, jA o23 6, jA o23 7, jA o23 8, .view kInts (wA o23 9), jA o23 10, jA o23 11, jA o23 12, jA o23 13, jA o23 14, jA o23 15, jA o23 16, jA o23 17, jA o23 18, .view kInts (wA o23 19), jA o23 20, jA o23 21, jA o23 22, jA o23 23, jA o23 24, jA o23 25, jA o23 26, jA o23 27, jA o23 28, .view kInts (wA o23 29), .view kPce (wA o28 0), jA o28 1, jA o28 2, jA o28 3, jA o28 4, jA o28 5, I 0]).bind fun o33 =>
 (M_track_Motors [jA o22 0, jA o22 1, jA o22 2, .view kSgm (wA o22 3), .view kPt (wA o22 4), jA o23 0, jA o23 1, jA o23 2, jA o23 3, jA o23 4, jA o23 5, jA o23 6, jA o23 7, jA o23 8, .view kInts (wA o23 9), jA o23 10, jA o23 11, jA o23 12, jA o23 13, jA o23 14, jA o23 15, jA o23 16, jA o23 17, jA o23 18, .view kInts (wA o23 19), jA o23 20, jA o23 21, jA o23 22, jA o23 23, jA o23 24, jA o23 25, jA o23 26, jA o23 27, jA o23 28, .view kInts (wA o23 29), .view kPce (wA o30 0), jA o30 1, jA o30 2, jA o30 3, jA o30 4, jA o30 5, jA o30 1]).bind fun o34 =>
 (M_track_Final [.view kPce (wA o30 0), jA o30 1, jA o30 2, jA o30 3, jA o30 4, jA o30 5]).bind fun o35 =>
 (M_cncref28_Shift [jA o23 0, jA o23 1, jA o23 2, jA o23 3, jA o23 4, jA o23 5, jA o23 6, jA o23 7, jA o23 8, .view kInts (wA o23 9), jA o24 0]).bind fun o36 =>
 (M_cncref28_Shift [jA o23 0, jA o23 1, jA o23 2, jA o23 3, jA o23 4, jA o23 5, jA o23 6, jA o23 7, jA o23 8, .view kInts (wA o23 9), jA o35 0]).bind fun o37 =>
 bif IntKind.i64.wrap (gA o33 0 - gA o36 0) != IntKind.i64.wrap (gA o34 0 - gA o37 0) then
 some [B false]
 else
 (M_cncref28_Shift [jA o23 10, jA o23 11, jA o23 12, jA o23 13, jA o23 14, jA o23 15, jA o23 16, jA o23 17, jA o23 18, .view kInts (wA o23 19), jA o24 1]).bind fun o38 =>
 (M_cncref28_Shift [jA o23 10, jA o23 11, jA o23 12, jA o23 13, jA o23 14, jA o23 15, jA o23 16, jA o23 17, jA o23 18, .view kInts (wA o23 19), jA o35 1]).bind fun o39 =>
 bif IntKind.i64.wrap (gA o33 1 - gA o38 0) != IntKind.i64.wrap (gA o34 1 - gA o39 0) then
 some [B false]
 else
 (M_cncref28_Shift [jA o23 20, jA o23 21, jA o23 22, jA o23 23, jA o23 24, jA o23 25, jA o23 26, jA o23 27, jA o23 28, .view kInts (wA o23 29), jA o24 2]).bind fun o40 =>
 (M_cncref28_Shift [jA o23 20, jA o23 21, jA o23 22, jA o23 23, jA o23 24, jA o23 25, jA o23 26, jA o23 27, jA o23 28, .view kInts (wA o23 29), jA o35 2]).bind fun o41 =>
 bif IntKind.i64.wrap (gA o33 2 - gA o40 0) != IntKind.i64.wrap (gA o34 2 - gA o41 0) then
 some [B false]
 else
 some [B true] := by kernel_rfl
def m_cnclaw29_TrackReturn := mf_cnclaw29_TrackReturn m_cncref28_Shift m_track_Motors m_track_Final m_track_Leg m_cncmill_Mod m_cncref25_Length m_cncmill_Dirs m_cncmill_Axes m_cncmill_Path m_cnclaw29_awake 
theorem sp_cnclaw29_TrackReturn : SpecOK Try.prog (C_cnclaw29_TrackReturn_0 m_cncref28_Shift m_track_Motors m_track_Final m_track_Leg m_cncmill_Mod m_cncref25_Length m_cncmill_Dirs m_cncmill_Axes m_cncmill_Path m_cnclaw29_awake) := specOK_of rfl ⟨r_cncref28_Shift, r_track_Motors, r_track_Final, r_track_Leg, r_cncmill_Mod, r_cncref25_Length, r_cncmill_Dirs, r_cncmill_Axes, r_cncmill_Path, r_cnclaw29_awake, trivial⟩
theorem c_cnclaw29_TrackReturn : ∀ (args : List TV) (v : TV) (mem : Mem), (spOf sig_cnclaw29_TrackReturn osig_cnclaw29_TrackReturn m_cnclaw29_TrackReturn (TV × Mem) args ⟨[], []⟩ fun v m => some (v, m)) = some (v, mem) -> PCallM Try.prog 8 args ⟨[], []⟩ v mem := fun args v mem h => callM_of (f := 8) (C := (C_cnclaw29_TrackReturn_0 m_cncref28_Shift m_track_Motors m_track_Final m_track_Leg m_cncmill_Mod m_cncref25_Length m_cncmill_Dirs m_cncmill_Axes m_cncmill_Path m_cnclaw29_awake)) (L := 64) (by kernel_rfl) (FnOK.bare rfl rfl rfl) sp_cnclaw29_TrackReturn eqOk mixOk (by kernel_rfl) (by kernel_rfl) args v mem h
end Go.Bm
