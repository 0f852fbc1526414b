/- functions of the program and of the references, as models -/
import Derived.Test.YtdllaekpkcanbaaGreatMx4
import Derived.Test.YtdllaekpkcanbaaGreatSeAw0
import Derived.Test.YtdllaekpkcanbaaGreatSeSq
import Derived.Test.YtdllaekpkcanbaaGreatSeAw25
set_option linter.unusedSimpArgs false
set_option linter.unusedVariables false
set_option maxRecDepth 100000
namespace Go.Bm
open Go.Proofs
def sig_cnclaw25_PathAt : Sk := { tmps := [TS.v false [CS.sl kInts], TS.v false [CS.int .i64]], boxes := [], rows := [] }
def osig_cnclaw25_PathAt : Sk := { tmps := [TS.v false [CS.bool]], boxes := [], rows := [] }
noncomputable def C_cnclaw25_PathAt_0 (M_path_Length M_cncref25_At M_path_At M_cncref25_Find M_path_Find M_cncmill_Mod M_cncref25_Length M_cncmill_Path M_cnclaw25_awake : List AC → Option (List AC)) : Cfg := { spec := lookS [(40, spOf sig_path_Length osig_path_Length M_path_Length), (39, spOf sig_cncref25_At osig_cncref25_At M_cncref25_At), (38, spOf sig_path_At osig_path_At M_path_At), (37, spOf sig_cncref25_Find osig_cncref25_Find M_cncref25_Find), (36, spOf sig_path_Find osig_path_Find M_path_Find), (16, spOf sig_cncmill_Mod osig_cncmill_Mod M_cncmill_Mod), (25, spOf sig_cncref25_Length osig_cncref25_Length M_cncref25_Length), (22, spOf sig_cncmill_Path osig_cncmill_Path M_cncmill_Path), (35, spOf sig_cnclaw25_awake osig_cnclaw25_awake M_cnclaw25_awake)], eqOk := eqAll, ownOff := ownOff, unroll := [6] }
noncomputable def mf_cnclaw25_PathAt (M_path_Length M_cncref25_At M_path_At M_cncref25_Find M_path_Find M_cncmill_Mod M_cncref25_Length M_cncmill_Path M_cnclaw25_awake : List AC → Option (List AC))  : List AC → Option (List AC) := modelF Tryz.prog (C_cnclaw25_PathAt_0 M_path_Length M_cncref25_At M_path_At M_cncref25_Find M_path_Find M_cncmill_Mod M_cncref25_Length M_cncmill_Path M_cnclaw25_awake) 64 9 sig_cnclaw25_PathAt osig_cnclaw25_PathAt
theorem mf_cnclaw25_PathAt_eq (M_path_Length M_cncref25_At M_path_At M_cncref25_Find M_path_Find M_cncmill_Mod M_cncref25_Length M_cncmill_Path M_cnclaw25_awake : List AC → Option (List AC))  (x0 : List (List AC)) (x1 : Int) : mf_cnclaw25_PathAt M_path_Length M_cncref25_At M_path_At M_cncref25_Find M_path_Find M_cncmill_Mod M_cncref25_Length M_cncmill_Path M_cnclaw25_awake  [AC.view kInts x0, I x1] =
 (M_cnclaw25_awake []).bind fun o21 =>
 bif !boolOf (nth .dead o21 0) then
 some [AC.bool false]
 else
 (M_cncmill_Path [AC.view kInts x0, I 5]).bind fun o22 =>
 (M_cncref25_Length [I (intOf (nth .dead o22 0)), I (intOf (nth .dead o22 1)), I (intOf (nth .dead o22 2)), AC.view kSgm (rowsOf (nth .dead o22 3)), AC.view kPt (rowsOf (nth .dead o22 4))]).bind fun o23 =>
 (M_cncmill_Mod [I x1, I (IntKind.i64.wrap (intOf (nth .dead o23 0) + 1))]).bind fun o24 =>
 (M_path_Find [I (intOf (nth .dead o22 0)), I (intOf (nth .dead o22 1)), I (intOf (nth .dead o22 2)), AC.view kSgm (rowsOf (nth .dead o22 3)), AC.view kPt (rowsOf (nth .dead o22 4)), I x1]).bind fun o25 =>
 (M_cncref25_Find [I (intOf (nth .dead o22 0)), I (intOf (nth .dead o22 1)), I (intOf (nth .dead o22 2)), AC.view kSgm (rowsOf (nth .dead o22 3)), AC.view kPt (rowsOf (nth .dead o22 4)), I x1]).bind fun o26 =>
 bif intOf (nth .dead o25 0) != intOf (nth .dead o26 0) then
 some [AC.bool false]
 else
 bif intOf (nth .dead o25 1) != intOf (nth .dead o26 1) then
 some [AC.bool false]
 else
 (M_path_At [I (intOf (nth .dead o22 0)), I (intOf (nth .dead o22 1)), I (intOf (nth .dead o22 2)), AC.view kSgm (rowsOf (nth .dead o22 3)), AC.view kPt (rowsOf (nth .dead o22 4)), I x1]).bind fun o27 =>
 (M_cncref25_At [I (intOf (nth .dead o22 0)), I (intOf (nth .dead o22 1)), I (intOf (nth .dead o22 2)), AC.view kSgm (rowsOf (nth .dead o22 3)), AC.view kPt (rowsOf (nth .dead o22 4)), I x1]).bind fun o28 =>
 bif !(intOf (nth .dead o27 0) == intOf (nth .dead o28 0) && (intOf (nth .dead o27 1) == intOf (nth .dead o28 1) && (intOf (nth .dead o27 2) == intOf (nth .dead o28 2) && true))) then
 some [AC.bool false]
 else
 (M_path_Find [I (intOf (nth .dead o22 0)), I (intOf (nth .dead o22 1)), I (intOf (nth .dead o22 2)), AC.view kSgm (rowsOf (nth .dead o22 3)), AC.view kPt (rowsOf (nth .dead o22 4)), I (intOf (nth .dead o24 0))]).bind fun o29 =>
 (M_cncref25_Find [I (intOf (nth .dead o22 0)), I (intOf (nth .dead o22 1)), I (intOf (nth .dead o22 2)), AC.view kSgm (rowsOf (nth .dead o22 3)), AC.view kPt (rowsOf (nth .dead o22 4)), I (intOf (nth .dead o24 0))]).bind fun o30 =>
 bif intOf (nth .dead o29 0) != intOf (nth .dead o30 0) then
 some [AC.bool false]
 else
 bif intOf (nth .dead o29 1) != intOf (nth .dead o30 1) then
 some [AC.bool false]
 else
 (M_path_At [I (intOf (nth .dead o22 0)), I (intOf (nth .dead o22 1)), I (intOf (nth .dead o22 2)), AC.view kSgm (rowsOf (nth .dead o22 3)), AC.view kPt (rowsOf (nth .dead o22 4)), I (intOf (nth .dead o24 0))]).bind fun o31 =>
 (M_cncref25_At [I (intOf (nth .dead o22 0)), I (intOf (nth .dead o22 1)), I (intOf (nth .dead o22 2)), AC.view kSgm (rowsOf (nth .dead o22 3)), AC.view kPt (rowsOf (nth .dead o22 4)), I (intOf (nth .dead o24 0))]).bind fun o32 =>
 bif !(intOf (nth .dead o31 0) == intOf (nth .dead o32 0) && (intOf (nth .dead o31 1) == intOf (nth .dead o32 1) && (intOf (nth .dead o31 2) == intOf (nth .dead o32 2) && true))) then
 some [AC.bool false]
 else
 (M_path_Find [I (intOf (nth .dead o22 0)), I (intOf (nth .dead o22 1)), I (intOf (nth .dead o22 2)), AC.view kSgm (rowsOf (nth .dead o22 3)), AC.view kPt (rowsOf (nth .dead o22 4)), I 0]).bind fun o33 =>
 (M_cncref25_Find [I (intOf (nth .dead o22 0)), I (intOf (nth .dead o22 1)), I (intOf (nth .dead o22 2)), AC.view kSgm (rowsOf (nth .dead o22 3)), AC.view kPt (rowsOf (nth .dead o22 4)), I 0]).bind fun o34 =>
 bif intOf (nth .dead o33 0) != intOf (nth .dead o34 0) then
 some [AC.bool false]
 else
 bif intOf (nth .dead o33 1) != intOf (nth .dead o34 1) then
 some [AC.bool false]
 else
 (M_path_At [I (intOf (nth .dead o22 0)), I (intOf (nth .dead o22 1)), I (intOf (nth .dead o22 2)), AC.view kSgm (rowsOf (nth .dead o22 3)), AC.view kPt (rowsOf (nth .dead o22 4)), I 0]).bind fun o35 =>
 (M_cncref25_At [I (intOf (nth .dead o22 0)), I (intOf (nth .dead o22 1)), I (intOf (nth .dead o22 2)), AC.view kSgm (rowsOf (nth .dead o22 3)), AC.view kPt (rowsOf (nth .dead o22 4)), I 0]).bind fun o36 =>
 bif !(intOf (nth .dead o35 0) == intOf (nth .dead o36 0) && (intOf (nth .dead o35 1) == intOf (nth .dead o36 1) && (intOf (nth .dead o35 2) == intOf (nth .dead o36 2) && true))) then
 some [AC.bool false]
 else
 (M_path_Find [I (intOf (nth .dead o22 0)), I (intOf (nth .dead o22 1)), I (intOf (nth .dead o22 2)), AC.view kSgm (rowsOf (nth .dead o22 3)), AC.view kPt (rowsOf (nth .dead o22 4)), I (intOf (nth .dead o23 0))]).bind fun o37 =>
 (M_cncref25_Find [I (intOf (nth .dead o22 0)), I (intOf (nth .dead o22 1)), I (intOf (nth .dead o22 2)), AC.view kSgm (rowsOf (nth .dead o22 3)), AC.view kPt (rowsOf (nth .dead o22 4)), I (intOf (nth .dead o23 0))]).bind fun o38 =>
 bif intOf (nth .dead o37 0) != intOf (nth .dead o38 0) then
 some [AC.bool false]
 else
 bif intOf (nth .dead o37 1) != intOf (nth .dead o38 1) then
 some [AC.bool false]
 else
 (M_path_At [I (intOf (nth .dead o22 0)), I (intOf (nth .dead o22 1)), I (intOf (nth .dead o22 2)), AC.view kSgm (rowsOf (nth .dead o22 3)), AC.view kPt (rowsOf (nth .dead o22 4)), I (intOf (nth .dead o23 0))]).bind fun o39 =>
 (M_cncref25_At [I (intOf (nth .dead o22 0)), I (intOf (nth .dead o22 1)), I (intOf (nth .dead o22 2)), AC.view kSgm (rowsOf (nth .dead o22 3)), AC.view kPt (rowsOf (nth .dead o22 4)), I (intOf (nth .dead o23 0))]).bind fun o40 =>
 bif !(intOf (nth .dead o39 0) == intOf (nth .dead o40 0) && (intOf (nth .dead o39 1) == intOf (nth .dead o40 1) && (intOf (nth .dead o39 2) == intOf (nth .dead o40 2) && true))) then
 some [AC.bool false]
 else
 (M_path_Length [I (intOf (nth .dead o22 0)), I (intOf (nth .dead o22 1)), I (intOf (nth .dead o22 2)), AC.view kSgm (rowsOf (nth .dead o22 3)), AC.view kPt (rowsOf (nth .dead o22 4))]).bind fun o41 =>
 some [AC.bool (intOf (nth .dead o41 0) == intOf (nth .dead o23 0))] := by kernel_rfl
noncomputable def m_cnclaw25_PathAt := mf_cnclaw25_PathAt m_path_Length m_cncref25_At m_path_At m_cncref25_Find m_path_Find m_cncmill_Mod m_cncref25_Length m_cncmill_Path m_cnclaw25_awake 
theorem sp_cnclaw25_PathAt : SpecOK Tryz.prog (C_cnclaw25_PathAt_0 m_path_Length m_cncref25_At m_path_At m_cncref25_Find m_path_Find m_cncmill_Mod m_cncref25_Length m_cncmill_Path m_cnclaw25_awake) := specOK_of rfl ⟨r_path_Length, r_cncref25_At, r_path_At, r_cncref25_Find, r_path_Find, r_cncmill_Mod, r_cncref25_Length, r_cncmill_Path, r_cnclaw25_awake, trivial⟩
theorem c_cnclaw25_PathAt : ∀ (args : List TV) (v : TV) (mem : Mem), (spOf sig_cnclaw25_PathAt osig_cnclaw25_PathAt m_cnclaw25_PathAt (TV × Mem) args ⟨[], []⟩ fun v m => some (v, m)) = some (v, mem) → PCallM Tryz.prog 9 args ⟨[], []⟩ v mem := fun args v mem h => callM_of (f := 9) (C := (C_cnclaw25_PathAt_0 m_path_Length m_cncref25_At m_path_At m_cncref25_Find m_path_Find m_cncmill_Mod m_cncref25_Length m_cncmill_Path m_cnclaw25_awake)) (L := 64) (sig := sig_cnclaw25_PathAt) (osig := osig_cnclaw25_PathAt) (by kernel_rfl) (FnOK.bare rfl rfl rfl) sp_cnclaw25_PathAt eqOk mixOk (by kernel_rfl) (by kernel_rfl) args v mem h
end Go.Bm
