/- functions of the program and of the references, as models -/
import Derived.Test.YtdllaekpkcanbaaGreatMx4
import Derived.Test.YtdllaekpkcanbaaGreatSeAw0
import Derived.Test.YtdllaekpkcanbaaGreatSeSq
import Derived.Test.YtdllaekpkcanbaaGreatSeAw25
set_option linter.unusedSimpArgs false
set_option linter.unusedVariables false
set_option maxRecDepth 100000
namespace Go.Bm
open Go.Proofs
def sig_cnclaw25_PathUnit : Sk := { tmps := [TS.v false [CS.sl kInts], TS.v false [CS.int .i64]], boxes := [], rows := [] }
def osig_cnclaw25_PathUnit : Sk := { tmps := [TS.v false [CS.bool]], boxes := [], rows := [] }
noncomputable def C_cnclaw25_PathUnit_0 (M_path_At M_cncmill_Mod M_path_Length M_cncmill_Path M_cnclaw25_awake : List AC → Option (List AC)) : Cfg := { spec := lookS [(38, spOf sig_path_At osig_path_At M_path_At), (16, spOf sig_cncmill_Mod osig_cncmill_Mod M_cncmill_Mod), (40, spOf sig_path_Length osig_path_Length M_path_Length), (22, spOf sig_cncmill_Path osig_cncmill_Path M_cncmill_Path), (35, spOf sig_cnclaw25_awake osig_cnclaw25_awake M_cnclaw25_awake)], eqOk := eqAll, ownOff := ownOff, unroll := [10] }
def sk_cnclaw25_PathUnit_6 : Sk := { tmps := [TS.dead, TS.v false [CS.int .i64], TS.dead, TS.dead, TS.dead, TS.v false [CS.ptr 5 0], TS.v false [CS.int .i64]] ++ dd 48, boxes := [(5, 29, [CS.int .i64, CS.int .i64, CS.int .i64, CS.sl kSgm, CS.sl kPt])], rows := [] }
def ex_cnclaw25_PathUnit_6 : List (Ex × Sk) := [(Ex.ret, { tmps := [TS.dead, TS.dead, TS.dead, TS.dead, TS.v false [CS.bool]] ++ dd 50, boxes := [], rows := [] }), (Ex.exit 0, { tmps := [TS.dead] ++ dd 54, boxes := [], rows := [] })]
noncomputable def st_cnclaw25_PathUnit_6 (M_path_At M_cncmill_Mod M_path_Length M_cncmill_Path M_cnclaw25_awake : List AC → Option (List AC))  : List AC → Option (Nat × List AC) := stepL Tryz.prog (C_cnclaw25_PathUnit_0 M_path_At M_cncmill_Mod M_path_Length M_cncmill_Path M_cnclaw25_awake) 64 6 (bodyOf Tryz.prog 10 6) sk_cnclaw25_PathUnit_6 ex_cnclaw25_PathUnit_6
noncomputable def C_cnclaw25_PathUnit_1 (M_path_At M_cncmill_Mod M_path_Length M_cncmill_Path M_cnclaw25_awake : List AC → Option (List AC))  (N6 : List AC → Option (Nat × List AC)) : Cfg := (C_cnclaw25_PathUnit_0 M_path_At M_cncmill_Mod M_path_Length M_cncmill_Path M_cnclaw25_awake).loop 6 sk_cnclaw25_PathUnit_6 ex_cnclaw25_PathUnit_6 N6
noncomputable def mf_cnclaw25_PathUnit (M_path_At M_cncmill_Mod M_path_Length M_cncmill_Path M_cnclaw25_awake : List AC → Option (List AC))  (N6 : List AC → Option (Nat × List AC)) : List AC → Option (List AC) := modelF Tryz.prog (C_cnclaw25_PathUnit_1 M_path_At M_cncmill_Mod M_path_Length M_cncmill_Path M_cnclaw25_awake N6) 64 10 sig_cnclaw25_PathUnit osig_cnclaw25_PathUnit
theorem st_cnclaw25_PathUnit_6_eq (M_path_At M_cncmill_Mod M_path_Length M_cncmill_Path M_cnclaw25_awake : List AC → Option (List AC))  (v0 v1 v2 v3 v4 : Int) (v5 v6 : List (List AC)) : st_cnclaw25_PathUnit_6 M_path_At M_cncmill_Mod M_path_Length M_cncmill_Path M_cnclaw25_awake  [I v0, I v1, I v2, I v3, I v4, AC.view kSgm v5, AC.view kPt v6] =
 bif decide (v1 < IntKind.i64.wrap (v0 + 300)) then
 (M_path_At [I v2, I v3, I v4, AC.view kSgm v5, AC.view kPt v6, I v1]).bind fun o11 =>
 (M_path_At [I v2, I v3, I v4, AC.view kSgm v5, AC.view kPt v6, I (IntKind.i64.wrap (v1 + 1))]).bind fun o12 =>
 bif decide (IntKind.i64.wrap (intOf (nth .dead o12 0) - intOf (nth .dead o11 0)) > 1) then
 some (1, [AC.bool false])
 else
 bif decide (IntKind.i64.wrap (intOf (nth .dead o11 0) - intOf (nth .dead o12 0)) > 1) then
 some (1, [AC.bool false])
 else
 bif decide (IntKind.i64.wrap (intOf (nth .dead o12 1) - intOf (nth .dead o11 1)) > 1) then
 some (1, [AC.bool false])
 else
 bif decide (IntKind.i64.wrap (intOf (nth .dead o11 1) - intOf (nth .dead o12 1)) > 1) then
 some (1, [AC.bool false])
 else
 bif decide (IntKind.i64.wrap (intOf (nth .dead o12 2) - intOf (nth .dead o11 2)) > 1) then
 some (1, [AC.bool false])
 else
 bif decide (IntKind.i64.wrap (intOf (nth .dead o11 2) - intOf (nth .dead o12 2)) > 1) then
 some (1, [AC.bool false])
 else
 some (0, [I v0, I (IntKind.i64.wrap (v1 + 1)), I v2, I v3, I v4, AC.view kSgm v5, AC.view kPt v6])
 else
 some (2, []) := by kernel_rfl
theorem mf_cnclaw25_PathUnit_eq (M_path_At M_cncmill_Mod M_path_Length M_cncmill_Path M_cnclaw25_awake : List AC → Option (List AC))  (N6 : List AC → Option (Nat × List AC)) (x0 : List (List AC)) (x1 : Int) : mf_cnclaw25_PathUnit M_path_At M_cncmill_Mod M_path_Length M_cncmill_Path M_cnclaw25_awake  N6 [AC.view kInts x0, I x1] =
 (M_cnclaw25_awake []).bind fun o13 =>
 bif !boolOf (nth .dead o13 0) then
 some [AC.bool false]
 else
 (M_cncmill_Path [AC.view kInts x0, I 5]).bind fun o14 =>
 (M_path_Length [I (intOf (nth .dead o14 0)), I (intOf (nth .dead o14 1)), I (intOf (nth .dead o14 2)), AC.view kSgm (rowsOf (nth .dead o14 3)), AC.view kPt (rowsOf (nth .dead o14 4))]).bind fun o15 =>
 (M_cncmill_Mod [I x1, I (IntKind.i64.wrap (intOf (nth .dead o15 0) + 1))]).bind fun o16 =>
 (N6 [I (intOf (nth .dead o16 0)), I (intOf (nth .dead o16 0)), I (intOf (nth .dead o14 0)), I (intOf (nth .dead o14 1)), I (intOf (nth .dead o14 2)), AC.view kSgm (rowsOf (nth .dead o14 3)), AC.view kPt (rowsOf (nth .dead o14 4))]).bind fun o17 =>
 bif o17.fst.beq 1 then
 some [AC.bool (boolOf (nth .dead o17.snd 0))]
 else
 bif o17.fst.beq 2 then
 some [AC.bool true]
 else
 none := by kernel_rfl
noncomputable def l_cnclaw25_PathUnit_6 := loopC (st_cnclaw25_PathUnit_6 m_path_At m_cncmill_Mod m_path_Length m_cncmill_Path m_cnclaw25_awake )
noncomputable def m_cnclaw25_PathUnit := mf_cnclaw25_PathUnit m_path_At m_cncmill_Mod m_path_Length m_cncmill_Path m_cnclaw25_awake  l_cnclaw25_PathUnit_6
theorem sp_cnclaw25_PathUnit : SpecOK Tryz.prog (C_cnclaw25_PathUnit_0 m_path_At m_cncmill_Mod m_path_Length m_cncmill_Path m_cnclaw25_awake) := specOK_of rfl ⟨r_path_At, r_cncmill_Mod, r_path_Length, r_cncmill_Path, r_cnclaw25_awake, trivial⟩
theorem c_cnclaw25_PathUnit : ∀ (args : List TV) (v : TV) (mem : Mem), (spOf sig_cnclaw25_PathUnit osig_cnclaw25_PathUnit m_cnclaw25_PathUnit (TV × Mem) args ⟨[], []⟩ fun v m => some (v, m)) = some (v, mem) → PCallM Tryz.prog 10 args ⟨[], []⟩ v mem := fun args v mem h => callM_of (f := 10) (C := (C_cnclaw25_PathUnit_1 m_path_At m_cncmill_Mod m_path_Length m_cncmill_Path m_cnclaw25_awake l_cnclaw25_PathUnit_6)) (L := 64) (sig := sig_cnclaw25_PathUnit) (osig := osig_cnclaw25_PathUnit) (by kernel_rfl) ((FnOK.bare rfl rfl rfl).loop sp_cnclaw25_PathUnit eqOk mixOk (by kernel_rfl) (by kernel_rfl)) sp_cnclaw25_PathUnit eqOk mixOk (by kernel_rfl) (by kernel_rfl) args v mem h
end Go.Bm
