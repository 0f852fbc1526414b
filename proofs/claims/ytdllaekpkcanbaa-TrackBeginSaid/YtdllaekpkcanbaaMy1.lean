/- functions of the program and of the references, as models -/
import Derived.Test.YtdllaekpkcanbaaMx4
import Derived.Test.YtdllaekpkcanbaaSeAw0
import Derived.Test.YtdllaekpkcanbaaSeAw29
set_option linter.unusedSimpArgs false
set_option linter.unusedVariables false
set_option maxRecDepth 100000
noncomputable section
namespace Go.Bm
open Go.Proofs
def sig_cnclaw29_TrackBegin : Sk := { tmps := [tf [CS.sl kInts], tf [CS.sl kInts], tf [ci], tf [ci], tf [ci], tf [ci], tf [ci]], boxes := [], rows := [] }
def osig_cnclaw29_TrackBegin : Sk := { tmps := [tf [CS.bool]], boxes := [], rows := [] }
def C_cnclaw29_TrackBegin_0 (M_track_Motors M_track_Place M_track_Leg M_cncmill_Mod M_cncref25_Length M_cncmill_Dirs M_cncmill_Axes M_cncmill_Path M_cnclaw29_awake : Fn) : Cfg := { spec := lookS [(38, spOf sig_track_Motors osig_track_Motors M_track_Motors), (37, spOf sig_track_Place osig_track_Place M_track_Place), (36, spOf sig_track_Leg osig_track_Leg M_track_Leg), (23, spOf sig_cncmill_Mod osig_cncmill_Mod M_cncmill_Mod), (35, spOf sig_cncref25_Length osig_cncref25_Length M_cncref25_Length), (34, spOf sig_cncmill_Dirs osig_cncmill_Dirs M_cncmill_Dirs), (33, spOf sig_cncmill_Axes osig_cncmill_Axes M_cncmill_Axes), (32, spOf sig_cncmill_Path osig_cncmill_Path M_cncmill_Path), (31, spOf sig_cnclaw29_awake osig_cnclaw29_awake M_cnclaw29_awake)], eqOk := eqAll, ownOff := ownOff }
def mf_cnclaw29_TrackBegin (M_track_Motors M_track_Place M_track_Leg M_cncmill_Mod M_cncref25_Length M_cncmill_Dirs M_cncmill_Axes M_cncmill_Path M_cnclaw29_awake : Fn) : Fn := modelF Try.prog (C_cnclaw29_TrackBegin_0 M_track_Motors M_track_Place M_track_Leg M_cncmill_Mod M_cncref25_Length M_cncmill_Dirs M_cncmill_Axes M_cncmill_Path M_cnclaw29_awake) 64 7 sig_cnclaw29_TrackBegin osig_cnclaw29_TrackBegin
theorem mf_cnclaw29_TrackBegin_eq (M_track_Motors M_track_Place M_track_Leg M_cncmill_Mod M_cncref25_Length M_cncmill_Dirs M_cncmill_Axes M_cncmill_Path M_cnclaw29_awake : Fn) (x0 x1 : Rw) (x2 x3 x4 x5 x6 : Int) : mf_cnclaw29_TrackBegin M_track_Motors M_track_Place M_track_Leg M_cncmill_Mod M_cncref25_Length M_cncmill_Dirs M_cncmill_Axes M_cncmill_Path M_cnclaw29_awake [.view kInts x0, .view kInts x1, I x2, I x3, I x4, I x5, I x6] =
 (M_cnclaw29_awake []).bind fun o22 =>
 bif !bA o22 0 then
 some [B false]
 else
 (M_cncmill_Path [.view kInts x0, I 5]).bind fun o23 =>
 (M_cncmill_Axes [.view kInts x1]).bind fun o24 =>
 (M_cncmill_Dirs [I x2]).bind fun o25 =>
 (M_cncref25_Length [jA o23 0, jA o23 1, jA o23 2, .view kSgm (wA o23 3), .view kPt (wA o23 4)]).bind fun o26 =>
 (M_cncmill_Mod [I x3, I (IntKind.i64.wrap (gA o26 0 + 1))]).bind fun o27 =>
 (M_cncmill_Mod [I x4, I (IntKind.i64.wrap (gA o26 0 + 1))]).bind fun o28 =>
 (M_cncmill_Mod [I x5, I (IntKind.i64.wrap (mx (IntKind.i64.wrap (gA o28 0 - gA o27 0)) (IntKind.i64.wrap (gA o27 0 - gA o28 0)) + 1))]).bind fun o29 =>
 bif decide (gA o28 0 < gA o27 0) then
 (M_track_Leg [jA o23 0, jA o23 1, jA o23 2, .view kSgm (wA o23 3), .view kPt (wA o23 4), jA o24 0, jA o24 1, jA o24 2, jA o24 3, jA o24 4, jA o24 5, jA o24 6, jA o24 7, jA o24 8, .view kInts (wA o24 9), jA o24 10, jA o24 11, jA o24 12, jA o24 13, jA o24 14, jA o24 15, jA o24 16, jA o24 17, jA o24 18, .view kInts (wA o24 19), jA o24 20, jA o24 21, jA o24 22, jA o24 23, jA o24 24, jA o24 25, jA o24 26, jA o24 27, jA o24 28, .view kInts (wA o24 29), jA o25 0, jA o25 1, jA o25 2, jA o27 0, I (IntKind.i64.wrap (IntKind.i64.wrap (2 * gA o27 0) - IntKind.i64.wrap (gA o27 0 + gA o29 0)))]).bind fun o30 =>
 (M_track_Leg [jA o23 0, jA o23 1, jA o23 2, .view kSgm (wA o23 3), .view kPt (wA o23 4), jA o24 0, jA o24 1, jA o24 2, jA o24 3, jA o24 4, jA o24 5, jA o24 6, jA o24 7, jA o24 8, .view kInts (wA o24 9), jA o24 10, jA o24 11, jA o24 12, jA o24 13, jA o24 14, jA o24 15, jA o24 16, jA o24 17, jA o24 18, .view kInts (wA o24 19), jA o24 20, jA o24 21, jA o24 22, jA o24 23, jA o24 24, jA o24 25, jA o24 26, jA o24 27, jA o24 28, .view kInts (wA o24 29), jA o25 0, jA o25 1, jA o25 2, jA o27 0, jA o28 0]).bind fun o31 =>
 (M_cncmill_Mod [I x6, I (IntKind.i64.wrap (gA o30 1 + 1))]).bind fun o32 =>
 bif decide (gA o30 1 <= gA o31 1) then
 (M_track_Place [.view kPce (wA o30 0), jA o30 1, jA o30 2, jA o30 3, jA o30 4, jA o30 5, jA o32 0]).bind fun o33 =>
 (M_track_Place [.view kPce (wA o31 0), jA o31 1, jA o31 2, jA o31 3, jA o31 4, jA o31 5, jA o32 0]).bind fun o34 =>
 bif gA o33 0 == gA o34 0 then
 (M_track_Motors [jA o23 0, jA o23 1, jA o23 2, .view kSgm (wA o23 3), .view kPt (wA o23 4), jA o24 0, jA o24 1, jA o24 2, jA o24 3, jA o24 4, jA o24 5, jA o24 6, jA o24 7, jA o24 8, .view kInts (wA o24 9), jA o24 10, jA o24 11, jA o24 12, jA o24 13, jA o24 14, jA o24 15, jA o24 16, jA o24 17, jA o24 18, .view kInts (wA o24 19), jA o24 20, jA o24 21, jA o24 22, jA o24 23, jA o24 24, jA o24 25, jA o24 26, jA o24 27, jA o24 28, .view kInts (wA o24 29), .view kPce (wA o30 0), jA o30 1, jA o30 2, jA o30 3, jA o30 4, jA o30 5, jA o32 0]).bind fun o35 =>
 (M_track_Motors [jA o23 0, jA o23 1, jA o23 2, .view kSgm (wA o23 3), .view kPt (wA o23 4), jA o24 0, jA o24 1, jA o24 2, jA o24 3, jA o24 4, jA o24 5, jA o24 6, jA o24 7, jA o24 8, .view kInts (wA o24 9), jA o24 10, jA o24 11, jA o24 12, jA o24 13, jA o24 14, jA o24 15, jA o24 16, jA o24 17, jA o24 18, .view kInts (wA o24 19), jA o24 20, jA o24 21, jA o24 22, jA o24 23, jA o24 24, jA o24 25, jA o24 26, jA o24 27, jA o24 28, .view kInts (wA o24 29), .view kPce (wA o31 0), jA o31 1, jA o31 2, jA o31 3, jA o31 4, jA o31 5, jA o32 0]).bind fun o36 =>
 some [B (gA o35 0 == gA o36 0 && (gA o35 1 == gA o36 1 && (gA o35 2 == gA o36 2 && true)))]
 else
 some [B false]
 else
 some [B false]
 else
 (M_track_Leg [jA o23 0, jA o23 1, jA o23 2, .view kSgm (wA o23 3), .view kPt (wA o23 4), jA o24 0, jA o24 1, jA o24 2, jA o24 3, jA o24 4, jA o24 5, jA o24 6, jA o24 7, jA o24 8, .view kInts (wA o24 9), jA o24 10, jA o24 11, jA o24 12, jA o24 13, jA o24 14, jA o24 15, jA o24 16, jA o24 17, jA o24 18, .view kInts (wA o24 19), jA o24 20, jA o24 21, jA o24 22, jA o24 23, jA o24 24, jA o24 25, jA o24 26, jA o24 27, jA o24 28, .view kInts (wA o24 29), jA o25 0, jA o25 1, jA o25 2, jA o27 0, I (IntKind.i64.wrap (gA o27 0 + gA o29 0))]).bind fun o37 =>
 (M_track_Leg [jA o23 0, jA o23 1, jA o23 2, .view kSgm (wA o23 3), .view kPt (wA o23 4), jA o24 0, jA o24 1, jA o24 2, jA o24 3, jA o24 4, jA o24 5, jA o24 6, jA o24 7, jA o24 8, .view kInts (wA o24 9), jA o24 10, jA o24 11, jA o24 12, jA o24 13, jA o24 14, jA o24 15, jA o24 16, jA o24 17, jA o24 18, .view kInts (wA o24 19), jA o24 20, jA o24 21, jA o24 22, jA o24 23, jA o24 24, jA o24 25, jA o24 26, jA o24 27, jA o24 28, .view kInts (wA o24 29), jA o25 0, jA o25 1, jA o25 2, jA o27 0, jA o28 0]).bind fun o38 =>
 (M_cncmill_Mod [I x6, I (IntKind.i64.wrap (gA o37 1 + 1))]).bind fun o39 =>
 bif decide (gA o37 1 <= gA o38 1) then
 (M_track_Place [.view kPce (wA o37 0), jA o37 1, jA o37 2, jA o37 3, jA o37 4, jA o37 5, jA o39 0]).bind fun o40 =>
 (M_track_Place [.view kPce (wA o38 0), jA o38 1, jA o38 2, jA o38 3, jA o38 4, jA o38 5, jA o39 0]).bind fun o41 =>
 bif gA o40 0 == gA o41 0 then
 (M_track_Motors [jA o23 0, jA o23 1, jA o23 2, .view kSgm (wA o23 3), .view kPt (wA o23 4), jA o24 0, jA o24 1, jA o24 2, jA o24 3, jA o24 4, jA o24 5, jA o24 6, jA o24 7, jA o24 8, .view kInts (wA o24 9), jA o24 10, jA o24 11, jA o24 12, jA o24 13, jA o24 14, jA o24 15, jA o24 16, jA o24 17, jA o24 18, .view kInts (wA o24 19), jA o24 20, jA o24 21, jA o24 22, jA o24 23, jA o24 24, jA o24 25, jA o24 26, jA o24 27, jA o24 28, .view kInts (wA o24 29), .view kPce (wA o37 0), jA o37 1, jA o37 2, jA o37 3, jA o37 4, jA o37 5, jA o39 0]).bind fun o42 =>
 (M_track_Motors [jA o23 0, jA o23 1, jA o23 2, .view kSgm (wA o23 3), .view kPt (wA o23 4), jA o24 0, jA o24 1, jA o24 2, jA o24 3, jA o24 4, jA o24 5, jA o24 6, jA o24 7, jA o24 8, .view kInts (wA o24 9), jA o24 10, jA o24 11, jA o24 12, jA o24 13, jA o24 14, jA o24 15, jA o24 16, jA o24 17, jA o24 18, .view kInts (wA o24 19), jA o24 20, jA o24 21, jA o24 22, jA o24 23, jA o24 24, jA o24 25, jA o24 26, jA o24 27, jA o24 28, .view kInts (wA o24 29), .view kPce (wA o38 0), jA o38 1, jA o38 2, jA o38 3, jA o38 4, jA o38 5, jA o39 0]).bind fun o43 =>
 some [B (gA o42 0 == gA o43 0 && (gA o42 1 == gA o43 1 && (gA o42 2 == gA o43 2 && true)))]
 else
 some [B false]
 else
 some [B false] := by kernel_rfl
def m_cnclaw29_TrackBegin := mf_cnclaw29_TrackBegin m_track_Motors m_track_Place m_track_Leg m_cncmill_Mod m_cncref25_Length m_cncmill_Dirs m_cncmill_Axes m_cncmill_Path m_cnclaw29_awake 
theorem sp_cnclaw29_TrackBegin : SpecOK Try.prog (C_cnclaw29_TrackBegin_0 m_track_Motors m_track_Place m_track_Leg m_cncmill_Mod m_cncref25_Length m_cncmill_Dirs m_cncmill_Axes m_cncmill_Path m_cnclaw29_awake) := specOK_of rfl ⟨r_track_Motors, r_track_Place, r_track_Leg, r_cncmill_Mod, r_cncref25_Length, r_cncmill_Dirs, r_cncmill_Axes, r_cncmill_Path, r_cnclaw29_awake, trivial⟩
theorem c_cnclaw29_TrackBegin : ∀ (args : List TV) (v : TV) (mem : Mem), (spOf sig_cnclaw29_TrackBegin osig_cnclaw29_TrackBegin m_cnclaw29_TrackBegin (TV × Mem) args ⟨[], []⟩ fun v m => some (v, m)) = some (v, mem) -> PCallM Try.prog 7 args ⟨[], []⟩ v mem := fun args v mem h => callM_of (f := 7) (C := (C_cnclaw29_TrackBegin_0 m_track_Motors m_track_Place m_track_Leg m_cncmill_Mod m_cncref25_Length m_cncmill_Dirs m_cncmill_Axes m_cncmill_Path m_cnclaw29_awake)) (L := 64) (by kernel_rfl) (FnOK.bare rfl rfl rfl) sp_cnclaw29_TrackBegin eqOk mixOk (by kernel_rfl) (by kernel_rfl) args v mem h
end Go.Bm
