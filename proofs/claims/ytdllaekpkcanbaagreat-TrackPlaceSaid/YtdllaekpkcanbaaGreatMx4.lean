/- functions of the program and of the references, as models -/
import Derived.Test.YtdllaekpkcanbaaGreatMx3
set_option linter.unusedSimpArgs false
set_option linter.unusedVariables false
set_option maxRecDepth 100000
namespace Go.Bm
open Go.Proofs
def sig_cncmill_motion : Sk := { tmps := [TS.v false [CS.ptr 20000 0], TS.v true [CS.int .i64, CS.int .i64, CS.int .i64], TS.v false [CS.int .i64]], boxes := [(20000, 122, [CS.sl kInts, CS.int .i64])], rows := [] }
def osig_cncmill_motion : Sk := { tmps := [TS.v true [CS.int .i64, CS.int .i64, CS.int .i64, CS.int .i64, CS.int .i64, CS.int .i64, CS.int .i64, CS.int .i64, CS.int .i64, CS.int .i64, CS.int .i64, CS.int .i64, CS.int .i64, CS.bool, CS.int .i64, CS.bool, CS.int .i64, CS.int .i64, CS.int .i64, CS.int .i64, CS.int .i64, CS.bool]], boxes := [(20000, 122, [CS.sl kInts, CS.int .i64])], rows := [] }
noncomputable def C_cncmill_motion_0 (M_cncmill_Source_Next M_cncmill_arc : List AC → Option (List AC)) : Cfg := { spec := lookS [(73, spOf sig_cncmill_Source_Next osig_cncmill_Source_Next M_cncmill_Source_Next), (106, spOf sig_cncmill_arc osig_cncmill_arc M_cncmill_arc)], eqOk := eqAll, pure := fun f => !(elemN [73, 106] f), ownOff := ownOff }
noncomputable def mf_cncmill_motion (M_cncmill_Source_Next M_cncmill_arc : List AC → Option (List AC))  : List AC → Option (List AC) := modelF Tryz.prog (C_cncmill_motion_0 M_cncmill_Source_Next M_cncmill_arc) 64 76 sig_cncmill_motion osig_cncmill_motion
theorem mf_cncmill_motion_eq (M_cncmill_Source_Next M_cncmill_arc : List AC → Option (List AC))  (x0 x1 x2 x3 : Int) (x4 : List (List AC)) (x5 : Int) : mf_cncmill_motion M_cncmill_Source_Next M_cncmill_arc  [I x0, I x1, I x2, I x3, AC.view kInts x4, I x5] =
 bif x3 == 3 then
 (M_cncmill_arc [I x0, I x1, I x2, I 8, AC.view kInts x4, I x5]).bind fun o18 =>
 bif x3 == 1 then
 some [I (intOf (nth .dead o18 0)), I (intOf (nth .dead o18 1)), I (intOf (nth .dead o18 2)), I (intOf (nth .dead o18 3)), I (intOf (nth .dead o18 4)), I (intOf (nth .dead o18 5)), I (intOf (nth .dead o18 6)), I (intOf (nth .dead o18 7)), I (intOf (nth .dead o18 8)), I (intOf (nth .dead o18 9)), I (intOf (nth .dead o18 10)), I (intOf (nth .dead o18 11)), I (intOf (nth .dead o18 12)), AC.bool (boolOf (nth .dead o18 13)), I (intOf (nth .dead o18 14)), AC.bool (boolOf (nth .dead o18 15)), I (intOf (nth .dead o18 16)), I (intOf (nth .dead o18 17)), I (intOf (nth .dead o18 18)), I (intOf (nth .dead o18 19)), I (intOf (nth .dead o18 20)), AC.bool (boolOf (nth .dead o18 21)), AC.view kInts (rowsOf (nth .dead o18 22)), I (intOf (nth .dead o18 23))]
 else
 (M_cncmill_Source_Next [I 5, AC.view kInts (rowsOf (nth .dead o18 22)), I (intOf (nth .dead o18 23))]).bind fun o19 =>
 bif decide (0 ≤ intOf (nth .dead o19 0)) && decide (intOf (nth .dead o19 0) < (↑[[I 300000], [I 1], [I 60000], [I 2000000], [I 60000000]].length : Int)) then
 (M_cncmill_Source_Next [I 5, AC.view kInts (rowsOf (nth .dead o19 1)), I (intOf (nth .dead o19 2))]).bind fun o20 =>
 bif decide (0 ≤ intOf (nth .dead o20 0)) && decide (intOf (nth .dead o20 0) < (↑[[I 0], [I 1], [I 2], [I 4], [I 9]].length : Int)) then
 bif x3 == 5 then
 (M_cncmill_Source_Next [I 60, AC.view kInts (rowsOf (nth .dead o20 1)), I (intOf (nth .dead o20 2))]).bind fun o21 =>
 bif x3 == 6 then
 (M_cncmill_Source_Next [I 2, AC.view kInts (rowsOf (nth .dead o21 1)), I (intOf (nth .dead o21 2))]).bind fun o22 =>
 some [I (intOf (nth .dead o18 0)), I (intOf (nth .dead o18 1)), I (intOf (nth .dead o18 2)), I (intOf (nth .dead o18 3)), I (intOf (nth .dead o18 4)), I (intOf (nth .dead o18 5)), I (intOf (nth .dead o18 6)), I (intOf (nth .dead o18 7)), I (intOf (nth .dead o18 8)), I (intOf (nth .dead o18 9)), I (intOf (nth .dead o18 10)), I (intOf (nth .dead o18 11)), I (intOf (nth .dead o18 12)), AC.bool (boolOf (nth .dead o18 13)), I (IntKind.i64.wrap (1 + intOf (nth .dead o21 0))), AC.bool true, I (intOf (nth .dead o18 16)), I (intOf (nth .dead o18 17)), I 0, I (IntKind.i64.wrap (3 + intOf (nth .dead o22 0))), I (intOf (nth .dead o18 20)), AC.bool (boolOf (nth .dead o18 21)), AC.view kInts (rowsOf (nth .dead o22 1)), I (intOf (nth .dead o22 2))]
 else
 some [I (intOf (nth .dead o18 0)), I (intOf (nth .dead o18 1)), I (intOf (nth .dead o18 2)), I (intOf (nth .dead o18 3)), I (intOf (nth .dead o18 4)), I (intOf (nth .dead o18 5)), I (intOf (nth .dead o18 6)), I (intOf (nth .dead o18 7)), I (intOf (nth .dead o18 8)), I (intOf (nth .dead o18 9)), I (intOf (nth .dead o18 10)), I (intOf (nth .dead o18 11)), I (intOf (nth .dead o18 12)), AC.bool (boolOf (nth .dead o18 13)), I (IntKind.i64.wrap (1 + intOf (nth .dead o21 0))), AC.bool true, I (intOf (nth .dead o18 16)), I (intOf (nth .dead o18 17)), I 0, I 0, I (intOf (nth .dead o18 20)), AC.bool (boolOf (nth .dead o18 21)), AC.view kInts (rowsOf (nth .dead o21 1)), I (intOf (nth .dead o21 2))]
 else
 bif x3 == 6 then
 (M_cncmill_Source_Next [I 60, AC.view kInts (rowsOf (nth .dead o20 1)), I (intOf (nth .dead o20 2))]).bind fun o23 =>
 bif x3 == 6 then
 (M_cncmill_Source_Next [I 2, AC.view kInts (rowsOf (nth .dead o23 1)), I (intOf (nth .dead o23 2))]).bind fun o24 =>
 some [I (intOf (nth .dead o18 0)), I (intOf (nth .dead o18 1)), I (intOf (nth .dead o18 2)), I (intOf (nth .dead o18 3)), I (intOf (nth .dead o18 4)), I (intOf (nth .dead o18 5)), I (intOf (nth .dead o18 6)), I (intOf (nth .dead o18 7)), I (intOf (nth .dead o18 8)), I (intOf (nth .dead o18 9)), I (intOf (nth .dead o18 10)), I (intOf (nth .dead o18 11)), I (intOf (nth .dead o18 12)), AC.bool (boolOf (nth .dead o18 13)), I (IntKind.i64.wrap (1 + intOf (nth .dead o23 0))), AC.bool true, I (intOf (nth .dead o18 16)), I (intOf (nth .dead o18 17)), I 0, I (IntKind.i64.wrap (3 + intOf (nth .dead o24 0))), I (intOf (nth .dead o18 20)), AC.bool (boolOf (nth .dead o18 21)), AC.view kInts (rowsOf (nth .dead o24 1)), I (intOf (nth .dead o24 2))]
 else
 some [I (intOf (nth .dead o18 0)), I (intOf (nth .dead o18 1)), I (intOf (nth .dead o18 2)), I (intOf (nth .dead o18 3)), I (intOf (nth .dead o18 4)), I (intOf (nth .dead o18 5)), I (intOf (nth .dead o18 6)), I (intOf (nth .dead o18 7)), I (intOf (nth .dead o18 8)), I (intOf (nth .dead o18 9)), I (intOf (nth .dead o18 10)), I (intOf (nth .dead o18 11)), I (intOf (nth .dead o18 12)), AC.bool (boolOf (nth .dead o18 13)), I (IntKind.i64.wrap (1 + intOf (nth .dead o23 0))), AC.bool true, I (intOf (nth .dead o18 16)), I (intOf (nth .dead o18 17)), I 0, I 0, I (intOf (nth .dead o18 20)), AC.bool (boolOf (nth .dead o18 21)), AC.view kInts (rowsOf (nth .dead o23 1)), I (intOf (nth .dead o23 2))]
 else
 bif x3 == 4 then
 some [I (intOf (nth .dead o18 0)), I (intOf (nth .dead o18 1)), I (intOf (nth .dead o18 2)), I (intOf (nth .dead o18 3)), I (intOf (nth .dead o18 4)), I (intOf (nth .dead o18 5)), I (intOf (nth .dead o18 6)), I (intOf (nth .dead o18 7)), I (intOf (nth .dead o18 8)), I (intOf (nth .dead o18 9)), I (intOf (nth .dead o18 10)), I (intOf (nth .dead o18 11)), I (intOf (nth .dead o18 12)), AC.bool (boolOf (nth .dead o18 13)), I (intOf (nth .dead (nth [] [[I 300000], [I 1], [I 60000], [I 2000000], [I 60000000]] (intOf (nth .dead o19 0)).toNat) 0)), AC.bool (boolOf (nth .dead o18 15)), I (intOf (nth .dead o18 16)), I (intOf (nth .dead o18 17)), I 0, I (intOf (nth .dead o18 19)), I (intOf (nth .dead o18 20)), AC.bool (boolOf (nth .dead o18 21)), AC.view kInts (rowsOf (nth .dead o20 1)), I (intOf (nth .dead o20 2))]
 else
 some [I (intOf (nth .dead o18 0)), I (intOf (nth .dead o18 1)), I (intOf (nth .dead o18 2)), I (intOf (nth .dead o18 3)), I (intOf (nth .dead o18 4)), I (intOf (nth .dead o18 5)), I (intOf (nth .dead o18 6)), I (intOf (nth .dead o18 7)), I (intOf (nth .dead o18 8)), I (intOf (nth .dead o18 9)), I (intOf (nth .dead o18 10)), I (intOf (nth .dead o18 11)), I (intOf (nth .dead o18 12)), AC.bool (boolOf (nth .dead o18 13)), I (intOf (nth .dead (nth [] [[I 300000], [I 1], [I 60000], [I 2000000], [I 60000000]] (intOf (nth .dead o19 0)).toNat) 0)), AC.bool (boolOf (nth .dead o18 15)), I (intOf (nth .dead o18 16)), I (intOf (nth .dead o18 17)), I (intOf (nth .dead (nth [] [[I 0], [I 1], [I 2], [I 4], [I 9]] (intOf (nth .dead o20 0)).toNat) 0)), I (intOf (nth .dead o18 19)), I (intOf (nth .dead o18 20)), AC.bool (boolOf (nth .dead o18 21)), AC.view kInts (rowsOf (nth .dead o20 1)), I (intOf (nth .dead o20 2))]
 else
 none
 else
 none
 else
 (M_cncmill_Source_Next [I 25, AC.view kInts x4, I x5]).bind fun o25 =>
 (M_cncmill_Source_Next [I 25, AC.view kInts (rowsOf (nth .dead o25 1)), I (intOf (nth .dead o25 2))]).bind fun o26 =>
 (M_cncmill_Source_Next [I 3, AC.view kInts (rowsOf (nth .dead o26 1)), I (intOf (nth .dead o26 2))]).bind fun o27 =>
 (M_cncmill_Source_Next [I 9, AC.view kInts (rowsOf (nth .dead o27 1)), I (intOf (nth .dead o27 2))]).bind fun o28 =>
 (M_cncmill_Source_Next [I 2, AC.view kInts (rowsOf (nth .dead o28 1)), I (intOf (nth .dead o28 2))]).bind fun o29 =>
 bif x3 == 1 then
 some [I x3, I 0, I x0, I x1, I x2, I (IntKind.i64.wrap (IntKind.i64.wrap (x0 + intOf (nth .dead o25 0)) - 12)), I (IntKind.i64.wrap (IntKind.i64.wrap (x1 + intOf (nth .dead o26 0)) - 12)), I (IntKind.i64.wrap (IntKind.i64.wrap (x2 + IntKind.i64.wrap (intOf (nth .dead o27 0) * intOf (nth .dead o28 0))) - IntKind.i64.wrap (8 * intOf (nth .dead o29 0)))), I 0, I 0, I 0, I 0, I 0, AC.bool false, I 0, AC.bool false, I 0, I 0, I 0, I 0, I 0, AC.bool false, AC.view kInts (rowsOf (nth .dead o29 1)), I (intOf (nth .dead o29 2))]
 else
 (M_cncmill_Source_Next [I 5, AC.view kInts (rowsOf (nth .dead o29 1)), I (intOf (nth .dead o29 2))]).bind fun o30 =>
 bif decide (0 ≤ intOf (nth .dead o30 0)) && decide (intOf (nth .dead o30 0) < (↑[[I 300000], [I 1], [I 60000], [I 2000000], [I 60000000]].length : Int)) then
 (M_cncmill_Source_Next [I 5, AC.view kInts (rowsOf (nth .dead o30 1)), I (intOf (nth .dead o30 2))]).bind fun o31 =>
 bif decide (0 ≤ intOf (nth .dead o31 0)) && decide (intOf (nth .dead o31 0) < (↑[[I 0], [I 1], [I 2], [I 4], [I 9]].length : Int)) then
 bif x3 == 5 then
 (M_cncmill_Source_Next [I 60, AC.view kInts (rowsOf (nth .dead o31 1)), I (intOf (nth .dead o31 2))]).bind fun o32 =>
 bif x3 == 6 then
 (M_cncmill_Source_Next [I 2, AC.view kInts (rowsOf (nth .dead o32 1)), I (intOf (nth .dead o32 2))]).bind fun o33 =>
 some [I x3, I 0, I x0, I x1, I x2, I (IntKind.i64.wrap (IntKind.i64.wrap (x0 + intOf (nth .dead o25 0)) - 12)), I (IntKind.i64.wrap (IntKind.i64.wrap (x1 + intOf (nth .dead o26 0)) - 12)), I (IntKind.i64.wrap (IntKind.i64.wrap (x2 + IntKind.i64.wrap (intOf (nth .dead o27 0) * intOf (nth .dead o28 0))) - IntKind.i64.wrap (8 * intOf (nth .dead o29 0)))), I 0, I 0, I 0, I 0, I 0, AC.bool false, I (IntKind.i64.wrap (1 + intOf (nth .dead o32 0))), AC.bool true, I 0, I 0, I 0, I (IntKind.i64.wrap (3 + intOf (nth .dead o33 0))), I 0, AC.bool false, AC.view kInts (rowsOf (nth .dead o33 1)), I (intOf (nth .dead o33 2))]
 else
 some [I x3, I 0, I x0, I x1, I x2, I (IntKind.i64.wrap (IntKind.i64.wrap (x0 + intOf (nth .dead o25 0)) - 12)), I (IntKind.i64.wrap (IntKind.i64.wrap (x1 + intOf (nth .dead o26 0)) - 12)), I (IntKind.i64.wrap (IntKind.i64.wrap (x2 + IntKind.i64.wrap (intOf (nth .dead o27 0) * intOf (nth .dead o28 0))) - IntKind.i64.wrap (8 * intOf (nth .dead o29 0)))), I 0, I 0, I 0, I 0, I 0, AC.bool false, I (IntKind.i64.wrap (1 + intOf (nth .dead o32 0))), AC.bool true, I 0, I 0, I 0, I 0, I 0, AC.bool false, AC.view kInts (rowsOf (nth .dead o32 1)), I (intOf (nth .dead o32 2))]
 else
 bif x3 == 6 then
 (M_cncmill_Source_Next [I 60, AC.view kInts (rowsOf (nth .dead o31 1)), I (intOf (nth .dead o31 2))]).bind fun o34 =>
 bif x3 == 6 then
 (M_cncmill_Source_Next [I 2, AC.view kInts (rowsOf (nth .dead o34 1)), I (intOf (nth .dead o34 2))]).bind fun o35 =>
 some [I x3, I 0, I x0, I x1, I x2, I (IntKind.i64.wrap (IntKind.i64.wrap (x0 + intOf (nth .dead o25 0)) - 12)), I (IntKind.i64.wrap (IntKind.i64.wrap (x1 + intOf (nth .dead o26 0)) - 12)), I (IntKind.i64.wrap (IntKind.i64.wrap (x2 + IntKind.i64.wrap (intOf (nth .dead o27 0) * intOf (nth .dead o28 0))) - IntKind.i64.wrap (8 * intOf (nth .dead o29 0)))), I 0, I 0, I 0, I 0, I 0, AC.bool false, I (IntKind.i64.wrap (1 + intOf (nth .dead o34 0))), AC.bool true, I 0, I 0, I 0, I (IntKind.i64.wrap (3 + intOf (nth .dead o35 0))), I 0, AC.bool false, AC.view kInts (rowsOf (nth .dead o35 1)), I (intOf (nth .dead o35 2))]
 else
 some [I x3, I 0, I x0, I x1, I x2, I (IntKind.i64.wrap (IntKind.i64.wrap (x0 + intOf (nth .dead o25 0)) - 12)), I (IntKind.i64.wrap (IntKind.i64.wrap (x1 + intOf (nth .dead o26 0)) - 12)), I (IntKind.i64.wrap (IntKind.i64.wrap (x2 + IntKind.i64.wrap (intOf (nth .dead o27 0) * intOf (nth .dead o28 0))) - IntKind.i64.wrap (8 * intOf (nth .dead o29 0)))), I 0, I 0, I 0, I 0, I 0, AC.bool false, I (IntKind.i64.wrap (1 + intOf (nth .dead o34 0))), AC.bool true, I 0, I 0, I 0, I 0, I 0, AC.bool false, AC.view kInts (rowsOf (nth .dead o34 1)), I (intOf (nth .dead o34 2))]
 else
 bif x3 == 4 then
 some [I x3, I 0, I x0, I x1, I x2, I (IntKind.i64.wrap (IntKind.i64.wrap (x0 + intOf (nth .dead o25 0)) - 12)), I (IntKind.i64.wrap (IntKind.i64.wrap (x1 + intOf (nth .dead o26 0)) - 12)), I (IntKind.i64.wrap (IntKind.i64.wrap (x2 + IntKind.i64.wrap (intOf (nth .dead o27 0) * intOf (nth .dead o28 0))) - IntKind.i64.wrap (8 * intOf (nth .dead o29 0)))), I 0, I 0, I 0, I 0, I 0, AC.bool false, I (intOf (nth .dead (nth [] [[I 300000], [I 1], [I 60000], [I 2000000], [I 60000000]] (intOf (nth .dead o30 0)).toNat) 0)), AC.bool false, I 0, I 0, I 0, I 0, I 0, AC.bool false, AC.view kInts (rowsOf (nth .dead o31 1)), I (intOf (nth .dead o31 2))]
 else
 some [I x3, I 0, I x0, I x1, I x2, I (IntKind.i64.wrap (IntKind.i64.wrap (x0 + intOf (nth .dead o25 0)) - 12)), I (IntKind.i64.wrap (IntKind.i64.wrap (x1 + intOf (nth .dead o26 0)) - 12)), I (IntKind.i64.wrap (IntKind.i64.wrap (x2 + IntKind.i64.wrap (intOf (nth .dead o27 0) * intOf (nth .dead o28 0))) - IntKind.i64.wrap (8 * intOf (nth .dead o29 0)))), I 0, I 0, I 0, I 0, I 0, AC.bool false, I (intOf (nth .dead (nth [] [[I 300000], [I 1], [I 60000], [I 2000000], [I 60000000]] (intOf (nth .dead o30 0)).toNat) 0)), AC.bool false, I 0, I 0, I (intOf (nth .dead (nth [] [[I 0], [I 1], [I 2], [I 4], [I 9]] (intOf (nth .dead o31 0)).toNat) 0)), I 0, I 0, AC.bool false, AC.view kInts (rowsOf (nth .dead o31 1)), I (intOf (nth .dead o31 2))]
 else
 none
 else
 none := by kernel_rfl
noncomputable def m_cncmill_motion := mf_cncmill_motion m_cncmill_Source_Next m_cncmill_arc 
theorem sp_cncmill_motion : SpecOK Tryz.prog (C_cncmill_motion_0 m_cncmill_Source_Next m_cncmill_arc) := specOK_of rfl ⟨r_cncmill_Source_Next, r_cncmill_arc, trivial⟩
theorem r_cncmill_motion : RowOK Tryz.prog (76, spOf sig_cncmill_motion osig_cncmill_motion m_cncmill_motion) := row_of (C := (C_cncmill_motion_0 m_cncmill_Source_Next m_cncmill_arc)) (L := 64) (sig := sig_cncmill_motion) (osig := osig_cncmill_motion) (by kernel_rfl) (FnOK.bare rfl rfl rfl) sp_cncmill_motion eqOk mixOk (by kernel_rfl) (by kernel_rfl)
def sig_cncmill_Source_Left : Sk := { tmps := [TS.v false [CS.ptr 20000 0]], boxes := [(20000, 122, [CS.sl kInts, CS.int .i64])], rows := [] }
def osig_cncmill_Source_Left : Sk := { tmps := [TS.v false [CS.bool]], boxes := [(20000, 122, [CS.sl kInts, CS.int .i64])], rows := [] }
noncomputable def C_cncmill_Source_Left_0  : Cfg := { spec := lookS [], eqOk := eqAll, ownOff := ownOff }
noncomputable def mf_cncmill_Source_Left   : List AC → Option (List AC) := modelF Tryz.prog C_cncmill_Source_Left_0 64 74 sig_cncmill_Source_Left osig_cncmill_Source_Left
theorem mf_cncmill_Source_Left_eq   (x0 : List (List AC)) (x1 : Int) : mf_cncmill_Source_Left   [AC.view kInts x0, I x1] =
 some [AC.bool (decide (x1 < (↑x0.length : Int))), AC.view kInts x0, I x1] := by kernel_rfl
noncomputable def m_cncmill_Source_Left := mf_cncmill_Source_Left  
theorem sp_cncmill_Source_Left : SpecOK Tryz.prog (C_cncmill_Source_Left_0 ) := specOK_of rfl trivial
theorem r_cncmill_Source_Left : RowOK Tryz.prog (74, spOf sig_cncmill_Source_Left osig_cncmill_Source_Left m_cncmill_Source_Left) := row_of (C := C_cncmill_Source_Left_0) (L := 64) (sig := sig_cncmill_Source_Left) (osig := osig_cncmill_Source_Left) (by kernel_rfl) (FnOK.bare rfl rfl rfl) sp_cncmill_Source_Left eqOk mixOk (by kernel_rfl) (by kernel_rfl)
def sig_cncmill_Motions : Sk := { tmps := [TS.v false [CS.sl kInts], TS.v false [CS.int .i64]], boxes := [], rows := [] }
def osig_cncmill_Motions : Sk := { tmps := [TS.v false [CS.sl kItm]], boxes := [], rows := [] }
noncomputable def C_cncmill_Motions_0 (M_cncmill_motion M_cncmill_Source_Left M_cncmill_Source_Next M_cncmill_From : List AC → Option (List AC)) : Cfg := { spec := lookS [(76, spOf sig_cncmill_motion osig_cncmill_motion M_cncmill_motion), (74, spOf sig_cncmill_Source_Left osig_cncmill_Source_Left M_cncmill_Source_Left), (73, spOf sig_cncmill_Source_Next osig_cncmill_Source_Next M_cncmill_Source_Next), (60, spOf sig_cncmill_From osig_cncmill_From M_cncmill_From)], eqOk := eqAll, pure := fun f => !(elemN [76, 74, 73, 60] f), ownOff := ownOff, prom := fun b => bif Nat.beq b 4 then [(6, 67)] else [] }
def sk_cncmill_Motions_4 : Sk := { tmps := [TS.dead, TS.v false [CS.int .i64], TS.dead, TS.dead, TS.dead, TS.v false [CS.ptr 101000 0], TS.v false [CS.own 6 22], TS.v false [CS.ptr 7 0]] ++ dd 36, boxes := [(7, 65, [CS.int .i64, CS.int .i64, CS.int .i64]), (101000, 122, [CS.sl kInts, CS.int .i64])], rows := [(6, 67, kItm)] }
def ex_cncmill_Motions_4 : List (Ex × Sk) := [(Ex.exit 0, { tmps := [TS.dead, TS.dead, TS.dead, TS.dead, TS.dead, TS.dead, TS.v false [CS.own 6 22]] ++ dd 37, boxes := [], rows := [(6, 67, kItm)] })]
noncomputable def st_cncmill_Motions_4 (M_cncmill_motion M_cncmill_Source_Left M_cncmill_Source_Next M_cncmill_From : List AC → Option (List AC))  : List AC → Option (Nat × List AC) := stepL Tryz.prog (C_cncmill_Motions_0 M_cncmill_motion M_cncmill_Source_Left M_cncmill_Source_Next M_cncmill_From) 64 4 (bodyOf Tryz.prog 59 4) sk_cncmill_Motions_4 ex_cncmill_Motions_4
noncomputable def C_cncmill_Motions_1 (M_cncmill_motion M_cncmill_Source_Left M_cncmill_Source_Next M_cncmill_From : List AC → Option (List AC))  (N4 : List AC → Option (Nat × List AC)) : Cfg := (C_cncmill_Motions_0 M_cncmill_motion M_cncmill_Source_Left M_cncmill_Source_Next M_cncmill_From).loop 4 sk_cncmill_Motions_4 ex_cncmill_Motions_4 N4
noncomputable def mf_cncmill_Motions (M_cncmill_motion M_cncmill_Source_Left M_cncmill_Source_Next M_cncmill_From : List AC → Option (List AC))  (N4 : List AC → Option (Nat × List AC)) : List AC → Option (List AC) := modelF Tryz.prog (C_cncmill_Motions_1 M_cncmill_motion M_cncmill_Source_Left M_cncmill_Source_Next M_cncmill_From N4) 64 59 sig_cncmill_Motions osig_cncmill_Motions
theorem st_cncmill_Motions_4_eq (M_cncmill_motion M_cncmill_Source_Left M_cncmill_Source_Next M_cncmill_From : List AC → Option (List AC))  (v0 : List (List AC)) (v1 v2 v3 v4 : Int) (v5 : List (List AC)) (v6 : Int) : st_cncmill_Motions_4 M_cncmill_motion M_cncmill_Source_Left M_cncmill_Source_Next M_cncmill_From  [AC.view kItm v0, I v1, I v2, I v3, I v4, AC.view kInts v5, I v6] =
 bif decide ((↑v0.length : Int) < v1) then
 (M_cncmill_Source_Left [AC.view kInts v5, I v6]).bind fun o19 =>
 bif boolOf (nth .dead o19 0) then
 (M_cncmill_Source_Next [I 5, AC.view kInts (rowsOf (nth .dead o19 1)), I (intOf (nth .dead o19 2))]).bind fun o20 =>
 bif decide (0 ≤ intOf (nth .dead o20 0)) && decide (intOf (nth .dead o20 0) < (↑[[I 2], [I 2], [I 2], [I 3], [I 1]].length : Int)) then
 (M_cncmill_motion [I v2, I v3, I v4, I (intOf (nth .dead (nth [] [[I 2], [I 2], [I 2], [I 3], [I 1]] (intOf (nth .dead o20 0)).toNat) 0)), AC.view kInts (rowsOf (nth .dead o20 1)), I (intOf (nth .dead o20 2))]).bind fun o21 =>
 bif ((v0 ++ [[I (intOf (nth .dead o21 0)), I (intOf (nth .dead o21 1)), I (intOf (nth .dead o21 2)), I (intOf (nth .dead o21 3)), I (intOf (nth .dead o21 4)), I (intOf (nth .dead o21 5)), I (intOf (nth .dead o21 6)), I (intOf (nth .dead o21 7)), I (intOf (nth .dead o21 8)), I (intOf (nth .dead o21 9)), I (intOf (nth .dead o21 10)), I (intOf (nth .dead o21 11)), I (intOf (nth .dead o21 12)), AC.bool (boolOf (nth .dead o21 13)), I (intOf (nth .dead o21 14)), AC.bool (boolOf (nth .dead o21 15)), I (intOf (nth .dead o21 16)), I (intOf (nth .dead o21 17)), I (intOf (nth .dead o21 18)), I (intOf (nth .dead o21 19)), I (intOf (nth .dead o21 20)), AC.bool (boolOf (nth .dead o21 21))]]).length * 176).ble 140737488355328 then
 some (0, [AC.view kItm (v0 ++ [[I (intOf (nth .dead o21 0)), I (intOf (nth .dead o21 1)), I (intOf (nth .dead o21 2)), I (intOf (nth .dead o21 3)), I (intOf (nth .dead o21 4)), I (intOf (nth .dead o21 5)), I (intOf (nth .dead o21 6)), I (intOf (nth .dead o21 7)), I (intOf (nth .dead o21 8)), I (intOf (nth .dead o21 9)), I (intOf (nth .dead o21 10)), I (intOf (nth .dead o21 11)), I (intOf (nth .dead o21 12)), AC.bool (boolOf (nth .dead o21 13)), I (intOf (nth .dead o21 14)), AC.bool (boolOf (nth .dead o21 15)), I (intOf (nth .dead o21 16)), I (intOf (nth .dead o21 17)), I (intOf (nth .dead o21 18)), I (intOf (nth .dead o21 19)), I (intOf (nth .dead o21 20)), AC.bool (boolOf (nth .dead o21 21))]]), I v1, I (intOf (nth .dead o21 5)), I (intOf (nth .dead o21 6)), I (intOf (nth .dead o21 7)), AC.view kInts (rowsOf (nth .dead o21 22)), I (intOf (nth .dead o21 23))])
 else
 none
 else
 none
 else
 some (1, [AC.view kItm v0])
 else
 some (1, [AC.view kItm v0]) := by kernel_rfl
theorem mf_cncmill_Motions_eq (M_cncmill_motion M_cncmill_Source_Left M_cncmill_Source_Next M_cncmill_From : List AC → Option (List AC))  (N4 : List AC → Option (Nat × List AC)) (x0 : List (List AC)) (x1 : Int) : mf_cncmill_Motions M_cncmill_motion M_cncmill_Source_Left M_cncmill_Source_Next M_cncmill_From  N4 [AC.view kInts x0, I x1] =
 (M_cncmill_From [AC.view kInts x0]).bind fun o22 =>
 (M_cncmill_Source_Next [I 9, AC.view kInts (rowsOf (nth .dead o22 0)), I (intOf (nth .dead o22 1))]).bind fun o23 =>
 (M_cncmill_Source_Next [I 9, AC.view kInts (rowsOf (nth .dead o23 1)), I (intOf (nth .dead o23 2))]).bind fun o24 =>
 (M_cncmill_Source_Next [I 9, AC.view kInts (rowsOf (nth .dead o24 1)), I (intOf (nth .dead o24 2))]).bind fun o25 =>
 (N4 [AC.view kItm [], I x1, I (IntKind.i64.wrap (intOf (nth .dead o23 0) - 4)), I (IntKind.i64.wrap (intOf (nth .dead o24 0) - 4)), I (IntKind.i64.wrap (intOf (nth .dead o25 0) - 4)), AC.view kInts (rowsOf (nth .dead o25 1)), I (intOf (nth .dead o25 2))]).bind fun o26 =>
 bif o26.fst.beq 1 then
 some [AC.view kItm (rowsOf (nth .dead o26.snd 0))]
 else
 none := by kernel_rfl
noncomputable def l_cncmill_Motions_4 := loopC (st_cncmill_Motions_4 m_cncmill_motion m_cncmill_Source_Left m_cncmill_Source_Next m_cncmill_From )
noncomputable def m_cncmill_Motions := mf_cncmill_Motions m_cncmill_motion m_cncmill_Source_Left m_cncmill_Source_Next m_cncmill_From  l_cncmill_Motions_4
theorem sp_cncmill_Motions : SpecOK Tryz.prog (C_cncmill_Motions_0 m_cncmill_motion m_cncmill_Source_Left m_cncmill_Source_Next m_cncmill_From) := specOK_of rfl ⟨r_cncmill_motion, r_cncmill_Source_Left, r_cncmill_Source_Next, r_cncmill_From, trivial⟩
theorem r_cncmill_Motions : RowOK Tryz.prog (59, spOf sig_cncmill_Motions osig_cncmill_Motions m_cncmill_Motions) := row_of (C := (C_cncmill_Motions_1 m_cncmill_motion m_cncmill_Source_Left m_cncmill_Source_Next m_cncmill_From l_cncmill_Motions_4)) (L := 64) (sig := sig_cncmill_Motions) (osig := osig_cncmill_Motions) (by kernel_rfl) ((FnOK.bare rfl rfl rfl).loop sp_cncmill_Motions eqOk mixOk (by kernel_rfl) (by kernel_rfl)) sp_cncmill_Motions eqOk mixOk (by kernel_rfl) (by kernel_rfl)
def sig_cncmill_Path : Sk := { tmps := [TS.v false [CS.sl kInts], TS.v false [CS.int .i64]], boxes := [], rows := [] }
def osig_cncmill_Path : Sk := { tmps := [TS.v true [CS.int .i64, CS.int .i64, CS.int .i64, CS.sl kSgm, CS.sl kPt]], boxes := [], rows := [] }
noncomputable def C_cncmill_Path_0 (M_cncref25_Build M_cncmill_Motions : List AC → Option (List AC)) : Cfg := { spec := lookS [(43, spOf sig_cncref25_Build osig_cncref25_Build M_cncref25_Build), (59, spOf sig_cncmill_Motions osig_cncmill_Motions M_cncmill_Motions)], eqOk := eqAll, ownOff := ownOff }
noncomputable def mf_cncmill_Path (M_cncref25_Build M_cncmill_Motions : List AC → Option (List AC))  : List AC → Option (List AC) := modelF Tryz.prog (C_cncmill_Path_0 M_cncref25_Build M_cncmill_Motions) 64 22 sig_cncmill_Path osig_cncmill_Path
theorem mf_cncmill_Path_eq (M_cncref25_Build M_cncmill_Motions : List AC → Option (List AC))  (x0 : List (List AC)) (x1 : Int) : mf_cncmill_Path M_cncref25_Build M_cncmill_Motions  [AC.view kInts x0, I x1] =
 (M_cncmill_Motions [AC.view kInts x0, I x1]).bind fun o2 =>
 (M_cncref25_Build [AC.view kItm (rowsOf (nth .dead o2 0))]).bind fun o3 =>
 some [I (intOf (nth .dead o3 0)), I (intOf (nth .dead o3 1)), I (intOf (nth .dead o3 2)), AC.view kSgm (rowsOf (nth .dead o3 3)), AC.view kPt (rowsOf (nth .dead o3 4))] := by kernel_rfl
noncomputable def m_cncmill_Path := mf_cncmill_Path m_cncref25_Build m_cncmill_Motions 
theorem sp_cncmill_Path : SpecOK Tryz.prog (C_cncmill_Path_0 m_cncref25_Build m_cncmill_Motions) := specOK_of rfl ⟨r_cncref25_Build, r_cncmill_Motions, trivial⟩
theorem r_cncmill_Path : RowOK Tryz.prog (22, spOf sig_cncmill_Path osig_cncmill_Path m_cncmill_Path) := row_of (C := (C_cncmill_Path_0 m_cncref25_Build m_cncmill_Motions)) (L := 64) (sig := sig_cncmill_Path) (osig := osig_cncmill_Path) (by kernel_rfl) (FnOK.bare rfl rfl rfl) sp_cncmill_Path eqOk mixOk (by kernel_rfl) (by kernel_rfl)
def sig_cncref29_piece : Sk := { tmps := [TS.v true [CS.sl kPce, CS.int .i64, CS.int .i64, CS.int .i64, CS.int .i64, CS.int .i64], TS.v false [CS.int .i64]], boxes := [], rows := [] }
def osig_cncref29_piece : Sk := { tmps := [TS.tup [(false, [CS.int .i64]), (false, [CS.int .i64])]], boxes := [], rows := [] }
noncomputable def C_cncref29_piece_0  : Cfg := { spec := lookS [], eqOk := eqAll, ownOff := ownOff }
def sk_cncref29_piece_3 : Sk := { tmps := [TS.dead, TS.v false [CS.int .i64], TS.dead, TS.dead, TS.dead, TS.dead, TS.dead, TS.dead, TS.dead, TS.dead, TS.dead, TS.dead, TS.dead, TS.dead, TS.v false [CS.sl kPce], TS.v false [CS.int .i64], TS.v false [CS.int .i64]] ++ dd 15, boxes := [], rows := [] }
def ex_cncref29_piece_3 : List (Ex × Sk) := [(Ex.ret, { tmps := [TS.dead, TS.dead, TS.dead, TS.dead, TS.v false [CS.int .i64], TS.v false [CS.int .i64]] ++ dd 26, boxes := [], rows := [] }), (Ex.exit 0, { tmps := [TS.dead, TS.v false [CS.int .i64]] ++ dd 30, boxes := [], rows := [] })]
noncomputable def st_cncref29_piece_3   : List AC → Option (Nat × List AC) := stepL Tryz.prog C_cncref29_piece_0 64 3 (bodyOf Tryz.prog 55 3) sk_cncref29_piece_3 ex_cncref29_piece_3
noncomputable def C_cncref29_piece_1   (N3 : List AC → Option (Nat × List AC)) : Cfg := C_cncref29_piece_0.loop 3 sk_cncref29_piece_3 ex_cncref29_piece_3 N3
noncomputable def mf_cncref29_piece   (N3 : List AC → Option (Nat × List AC)) : List AC → Option (List AC) := modelF Tryz.prog (C_cncref29_piece_1  N3) 64 55 sig_cncref29_piece osig_cncref29_piece
theorem st_cncref29_piece_3_eq   (v0 : Int) (v1 : List (List AC)) (v2 v3 : Int) : st_cncref29_piece_3   [I v0, AC.view kPce v1, I v2, I v3] =
 bif decide (v3 < v2) then
 bif decide (0 ≤ v3) && decide (v3 < (↑v1.length : Int)) then
 bif decide (v0 ≤ IntKind.i64.wrap (intOf (nth .dead (nth [] v1 v3.toNat) 0) + intOf (nth .dead (nth [] v1 v3.toNat) 1))) then
 some (1, [I v3, I v0])
 else
 some (0, [I v0, AC.view kPce v1, I v2, I (IntKind.i64.wrap (v3 + 1))])
 else
 none
 else
 some (2, [I v0]) := by kernel_rfl
theorem mf_cncref29_piece_eq   (N3 : List AC → Option (Nat × List AC)) (x0 : List (List AC)) (x1 x2 x3 x4 x5 x6 : Int) : mf_cncref29_piece   N3 [AC.view kPce x0, I x1, I x2, I x3, I x4, I x5, I x6] =
 (N3 [I (mn (mx x6 0) x1), AC.view kPce x0, I (↑x0.length : Int), I 0]).bind fun o1 =>
 bif o1.fst.beq 1 then
 some [I (intOf (nth .dead o1.snd 0)), I (intOf (nth .dead o1.snd 1))]
 else
 bif o1.fst.beq 2 then
 some [I (-1), I (intOf (nth .dead o1.snd 0))]
 else
 none := by kernel_rfl
noncomputable def l_cncref29_piece_3 := loopC (st_cncref29_piece_3  )
noncomputable def m_cncref29_piece := mf_cncref29_piece   l_cncref29_piece_3
theorem sp_cncref29_piece : SpecOK Tryz.prog (C_cncref29_piece_0 ) := specOK_of rfl trivial
theorem r_cncref29_piece : RowOK Tryz.prog (55, spOf sig_cncref29_piece osig_cncref29_piece m_cncref29_piece) := row_of (C := (C_cncref29_piece_1  l_cncref29_piece_3)) (L := 64) (sig := sig_cncref29_piece) (osig := osig_cncref29_piece) (by kernel_rfl) ((FnOK.bare rfl rfl rfl).loop sp_cncref29_piece eqOk mixOk (by kernel_rfl) (by kernel_rfl)) sp_cncref29_piece eqOk mixOk (by kernel_rfl) (by kernel_rfl)
def sig_cncref29_Loose : Sk := { tmps := [TS.v true [CS.sl kPce, CS.int .i64, CS.int .i64, CS.int .i64, CS.int .i64, CS.int .i64], TS.v false [CS.int .i64]], boxes := [], rows := [] }
def osig_cncref29_Loose : Sk := { tmps := [TS.v false [CS.bool]], boxes := [], rows := [] }
noncomputable def C_cncref29_Loose_0 (M_cncref29_piece : List AC → Option (List AC)) : Cfg := { spec := lookS [(55, spOf sig_cncref29_piece osig_cncref29_piece M_cncref29_piece)], eqOk := eqAll, ownOff := ownOff }
noncomputable def mf_cncref29_Loose (M_cncref29_piece : List AC → Option (List AC))  : List AC → Option (List AC) := modelF Tryz.prog (C_cncref29_Loose_0 M_cncref29_piece) 64 33 sig_cncref29_Loose osig_cncref29_Loose
theorem mf_cncref29_Loose_eq (M_cncref29_piece : List AC → Option (List AC))  (x0 : List (List AC)) (x1 x2 x3 x4 x5 x6 : Int) : mf_cncref29_Loose M_cncref29_piece  [AC.view kPce x0, I x1, I x2, I x3, I x4, I x5, I x6] =
 (M_cncref29_piece [AC.view kPce x0, I x1, I x2, I x3, I x4, I x5, I x6]).bind fun o1 =>
 bif decide (intOf (nth .dead o1 0) ≥ 0) then
 bif decide (0 ≤ intOf (nth .dead o1 0)) && decide (intOf (nth .dead o1 0) < (↑x0.length : Int)) then
 bif intOf (nth .dead (nth [] x0 (intOf (nth .dead o1 0)).toNat) 3) == 0 then
 bif decide (0 ≤ intOf (nth .dead o1 0)) && decide (intOf (nth .dead o1 0) < (↑x0.length : Int)) then
 bif decide (intOf (nth .dead o1 1) > intOf (nth .dead (nth [] x0 (intOf (nth .dead o1 0)).toNat) 0)) then
 bif decide (0 ≤ intOf (nth .dead o1 0)) && decide (intOf (nth .dead o1 0) < (↑x0.length : Int)) then
 bif decide (0 ≤ intOf (nth .dead o1 0)) && decide (intOf (nth .dead o1 0) < (↑x0.length : Int)) then
 some [AC.bool (decide (intOf (nth .dead o1 1) < IntKind.i64.wrap (intOf (nth .dead (nth [] x0 (intOf (nth .dead o1 0)).toNat) 0) + intOf (nth .dead (nth [] x0 (intOf (nth .dead o1 0)).toNat) 1))))]
 else
 none
 else
 none
 else
 some [AC.bool false]
 else
 none
 else
 some [AC.bool false]
 else
 none
 else
 some [AC.bool false] := by kernel_rfl
noncomputable def m_cncref29_Loose := mf_cncref29_Loose m_cncref29_piece 
theorem sp_cncref29_Loose : SpecOK Tryz.prog (C_cncref29_Loose_0 m_cncref29_piece) := specOK_of rfl ⟨r_cncref29_piece, trivial⟩
theorem r_cncref29_Loose : RowOK Tryz.prog (33, spOf sig_cncref29_Loose osig_cncref29_Loose m_cncref29_Loose) := row_of (C := (C_cncref29_Loose_0 m_cncref29_piece)) (L := 64) (sig := sig_cncref29_Loose) (osig := osig_cncref29_Loose) (by kernel_rfl) (FnOK.bare rfl rfl rfl) sp_cncref29_Loose eqOk mixOk (by kernel_rfl) (by kernel_rfl)
def sig_track_find : Sk := { tmps := [TS.v true [CS.sl kPce, CS.int .i64, CS.int .i64, CS.int .i64, CS.int .i64, CS.int .i64], TS.v false [CS.int .i64]], boxes := [], rows := [] }
def osig_track_find : Sk := { tmps := [TS.v false [CS.int .i64]], boxes := [], rows := [] }
noncomputable def C_track_find_0  : Cfg := { spec := lookS [], eqOk := eqAll, ownOff := ownOff }
def sk_track_find_2 : Sk := { tmps := [TS.dead, TS.v false [CS.int .i64], TS.v false [CS.ptr 2 0], TS.dead, TS.dead, TS.v false [CS.int .i64], TS.v false [CS.int .i64]] ++ dd 29, boxes := [(2, 35, [CS.sl kPce, CS.int .i64, CS.int .i64, CS.int .i64, CS.int .i64, CS.int .i64])], rows := [] }
def ex_track_find_2 : List (Ex × Sk) := [(Ex.exit 0, { tmps := [TS.dead, TS.dead, TS.dead, TS.dead, TS.dead, TS.dead, TS.v false [CS.int .i64]] ++ dd 29, boxes := [], rows := [] })]
noncomputable def st_track_find_2   : List AC → Option (Nat × List AC) := stepL Tryz.prog C_track_find_0 64 2 (bodyOf Tryz.prog 51 2) sk_track_find_2 ex_track_find_2
noncomputable def C_track_find_1   (N2 : List AC → Option (Nat × List AC)) : Cfg := C_track_find_0.loop 2 sk_track_find_2 ex_track_find_2 N2
noncomputable def mf_track_find   (N2 : List AC → Option (Nat × List AC)) : List AC → Option (List AC) := modelF Tryz.prog (C_track_find_1  N2) 64 51 sig_track_find osig_track_find
theorem st_track_find_2_eq   (v0 v1 v2 : Int) (v3 : List (List AC)) (v4 v5 v6 v7 v8 : Int) : st_track_find_2   [I v0, I v1, I v2, AC.view kPce v3, I v4, I v5, I v6, I v7, I v8] =
 bif decide (v1 < v2) then
 bif decide (0 ≤ IntKind.i64.wrap ((IntKind.i64.wrap (v1 + v2)).tdiv 2)) && decide (IntKind.i64.wrap ((IntKind.i64.wrap (v1 + v2)).tdiv 2) < (↑v3.length : Int)) then
 bif decide (v0 ≤ IntKind.i64.wrap (intOf (nth .dead (nth [] v3 (IntKind.i64.wrap ((IntKind.i64.wrap (v1 + v2)).tdiv 2)).toNat) 0) + intOf (nth .dead (nth [] v3 (IntKind.i64.wrap ((IntKind.i64.wrap (v1 + v2)).tdiv 2)).toNat) 1))) then
 some (0, [I v0, I v1, I (IntKind.i64.wrap ((IntKind.i64.wrap (v1 + v2)).tdiv 2)), AC.view kPce v3, I v4, I v5, I v6, I v7, I v8])
 else
 some (0, [I v0, I (IntKind.i64.wrap (IntKind.i64.wrap ((IntKind.i64.wrap (v1 + v2)).tdiv 2) + 1)), I v2, AC.view kPce v3, I v4, I v5, I v6, I v7, I v8])
 else
 none
 else
 some (1, [I v2]) := by kernel_rfl
theorem mf_track_find_eq   (N2 : List AC → Option (Nat × List AC)) (x0 : List (List AC)) (x1 x2 x3 x4 x5 x6 : Int) : mf_track_find   N2 [AC.view kPce x0, I x1, I x2, I x3, I x4, I x5, I x6] =
 (N2 [I x6, I 0, I (IntKind.i64.wrap ((↑x0.length : Int) - 1)), AC.view kPce x0, I x1, I x2, I x3, I x4, I x5]).bind fun o1 =>
 bif o1.fst.beq 1 then
 some [I (intOf (nth .dead o1.snd 0))]
 else
 none := by kernel_rfl
noncomputable def l_track_find_2 := loopC (st_track_find_2  )
noncomputable def m_track_find := mf_track_find   l_track_find_2
theorem sp_track_find : SpecOK Tryz.prog (C_track_find_0 ) := specOK_of rfl trivial
theorem r_track_find : RowOK Tryz.prog (51, spOf sig_track_find osig_track_find m_track_find) := row_of (C := (C_track_find_1  l_track_find_2)) (L := 64) (sig := sig_track_find) (osig := osig_track_find) (by kernel_rfl) ((FnOK.bare rfl rfl rfl).loop sp_track_find eqOk mixOk (by kernel_rfl) (by kernel_rfl)) sp_track_find eqOk mixOk (by kernel_rfl) (by kernel_rfl)
def sig_track_Loose : Sk := { tmps := [TS.v true [CS.sl kPce, CS.int .i64, CS.int .i64, CS.int .i64, CS.int .i64, CS.int .i64], TS.v false [CS.int .i64]], boxes := [], rows := [] }
def osig_track_Loose : Sk := { tmps := [TS.v false [CS.bool]], boxes := [], rows := [] }
noncomputable def C_track_Loose_0 (M_track_find M_track_clamp : List AC → Option (List AC)) : Cfg := { spec := lookS [(51, spOf sig_track_find osig_track_find M_track_find), (50, spOf sig_track_clamp osig_track_clamp M_track_clamp)], eqOk := eqAll, ownOff := ownOff }
noncomputable def mf_track_Loose (M_track_find M_track_clamp : List AC → Option (List AC))  : List AC → Option (List AC) := modelF Tryz.prog (C_track_Loose_0 M_track_find M_track_clamp) 64 32 sig_track_Loose osig_track_Loose
theorem mf_track_Loose_eq (M_track_find M_track_clamp : List AC → Option (List AC))  (x0 : List (List AC)) (x1 x2 x3 x4 x5 x6 : Int) : mf_track_Loose M_track_find M_track_clamp  [AC.view kPce x0, I x1, I x2, I x3, I x4, I x5, I x6] =
 (M_track_clamp [I x6, I x1]).bind fun o2 =>
 (M_track_find [AC.view kPce x0, I x1, I x2, I x3, I x4, I x5, I (intOf (nth .dead o2 0))]).bind fun o3 =>
 bif decide (intOf (nth .dead o3 0) < 0) then
 some [AC.bool false]
 else
 bif decide (0 ≤ intOf (nth .dead o3 0)) && decide (intOf (nth .dead o3 0) < (↑x0.length : Int)) then
 bif intOf (nth .dead (nth [] x0 (intOf (nth .dead o3 0)).toNat) 3) == 0 then
 bif decide (intOf (nth .dead (nth [] x0 (intOf (nth .dead o3 0)).toNat) 0) < intOf (nth .dead o2 0)) then
 some [AC.bool (decide (intOf (nth .dead o2 0) < IntKind.i64.wrap (intOf (nth .dead (nth [] x0 (intOf (nth .dead o3 0)).toNat) 0) + intOf (nth .dead (nth [] x0 (intOf (nth .dead o3 0)).toNat) 1))))]
 else
 some [AC.bool false]
 else
 some [AC.bool false]
 else
 none := by kernel_rfl
noncomputable def m_track_Loose := mf_track_Loose m_track_find m_track_clamp 
theorem sp_track_Loose : SpecOK Tryz.prog (C_track_Loose_0 m_track_find m_track_clamp) := specOK_of rfl ⟨r_track_find, r_track_clamp, trivial⟩
theorem r_track_Loose : RowOK Tryz.prog (32, spOf sig_track_Loose osig_track_Loose m_track_Loose) := row_of (C := (C_track_Loose_0 m_track_find m_track_clamp)) (L := 64) (sig := sig_track_Loose) (osig := osig_track_Loose) (by kernel_rfl) (FnOK.bare rfl rfl rfl) sp_track_Loose eqOk mixOk (by kernel_rfl) (by kernel_rfl)
def sig_cncref29_Place : Sk := { tmps := [TS.v true [CS.sl kPce, CS.int .i64, CS.int .i64, CS.int .i64, CS.int .i64, CS.int .i64], TS.v false [CS.int .i64]], boxes := [], rows := [] }
def osig_cncref29_Place : Sk := { tmps := [TS.v false [CS.int .i64]], boxes := [], rows := [] }
noncomputable def C_cncref29_Place_0 (M_cncref29_piece : List AC → Option (List AC)) : Cfg := { spec := lookS [(55, spOf sig_cncref29_piece osig_cncref29_piece M_cncref29_piece)], eqOk := eqAll, ownOff := ownOff }
noncomputable def mf_cncref29_Place (M_cncref29_piece : List AC → Option (List AC))  : List AC → Option (List AC) := modelF Tryz.prog (C_cncref29_Place_0 M_cncref29_piece) 64 31 sig_cncref29_Place osig_cncref29_Place
theorem mf_cncref29_Place_eq (M_cncref29_piece : List AC → Option (List AC))  (x0 : List (List AC)) (x1 x2 x3 x4 x5 x6 : Int) : mf_cncref29_Place M_cncref29_piece  [AC.view kPce x0, I x1, I x2, I x3, I x4, I x5, I x6] =
 (M_cncref29_piece [AC.view kPce x0, I x1, I x2, I x3, I x4, I x5, I x6]).bind fun o1 =>
 bif decide (intOf (nth .dead o1 0) < 0) then
 some [I x2]
 else
 bif decide (0 ≤ intOf (nth .dead o1 0)) && decide (intOf (nth .dead o1 0) < (↑x0.length : Int)) then
 bif decide (0 ≤ intOf (nth .dead o1 0)) && decide (intOf (nth .dead o1 0) < (↑x0.length : Int)) then
 bif decide (0 ≤ intOf (nth .dead o1 0)) && decide (intOf (nth .dead o1 0) < (↑x0.length : Int)) then
 some [I (IntKind.i64.wrap (intOf (nth .dead (nth [] x0 (intOf (nth .dead o1 0)).toNat) 2) + IntKind.i64.wrap (intOf (nth .dead (nth [] x0 (intOf (nth .dead o1 0)).toNat) 3) * IntKind.i64.wrap (intOf (nth .dead o1 1) - intOf (nth .dead (nth [] x0 (intOf (nth .dead o1 0)).toNat) 0)))))]
 else
 none
 else
 none
 else
 none := by kernel_rfl
noncomputable def m_cncref29_Place := mf_cncref29_Place m_cncref29_piece 
theorem sp_cncref29_Place : SpecOK Tryz.prog (C_cncref29_Place_0 m_cncref29_piece) := specOK_of rfl ⟨r_cncref29_piece, trivial⟩
theorem r_cncref29_Place : RowOK Tryz.prog (31, spOf sig_cncref29_Place osig_cncref29_Place m_cncref29_Place) := row_of (C := (C_cncref29_Place_0 m_cncref29_piece)) (L := 64) (sig := sig_cncref29_Place) (osig := osig_cncref29_Place) (by kernel_rfl) (FnOK.bare rfl rfl rfl) sp_cncref29_Place eqOk mixOk (by kernel_rfl) (by kernel_rfl)
def sig_track_Place : Sk := { tmps := [TS.v true [CS.sl kPce, CS.int .i64, CS.int .i64, CS.int .i64, CS.int .i64, CS.int .i64], TS.v false [CS.int .i64]], boxes := [], rows := [] }
def osig_track_Place : Sk := { tmps := [TS.v false [CS.int .i64]], boxes := [], rows := [] }
noncomputable def C_track_Place_0 (M_track_find M_track_clamp : List AC → Option (List AC)) : Cfg := { spec := lookS [(51, spOf sig_track_find osig_track_find M_track_find), (50, spOf sig_track_clamp osig_track_clamp M_track_clamp)], eqOk := eqAll, ownOff := ownOff }
noncomputable def mf_track_Place (M_track_find M_track_clamp : List AC → Option (List AC))  : List AC → Option (List AC) := modelF Tryz.prog (C_track_Place_0 M_track_find M_track_clamp) 64 21 sig_track_Place osig_track_Place
theorem mf_track_Place_eq (M_track_find M_track_clamp : List AC → Option (List AC))  (x0 : List (List AC)) (x1 x2 x3 x4 x5 x6 : Int) : mf_track_Place M_track_find M_track_clamp  [AC.view kPce x0, I x1, I x2, I x3, I x4, I x5, I x6] =
 (M_track_clamp [I x6, I x1]).bind fun o2 =>
 (M_track_find [AC.view kPce x0, I x1, I x2, I x3, I x4, I x5, I (intOf (nth .dead o2 0))]).bind fun o3 =>
 bif decide (intOf (nth .dead o3 0) < 0) then
 some [I x2]
 else
 bif decide (0 ≤ intOf (nth .dead o3 0)) && decide (intOf (nth .dead o3 0) < (↑x0.length : Int)) then
 bif decide (0 ≤ intOf (nth .dead o3 0)) && decide (intOf (nth .dead o3 0) < (↑x0.length : Int)) then
 bif decide (0 ≤ intOf (nth .dead o3 0)) && decide (intOf (nth .dead o3 0) < (↑x0.length : Int)) then
 some [I (IntKind.i64.wrap (intOf (nth .dead (nth [] x0 (intOf (nth .dead o3 0)).toNat) 2) + IntKind.i64.wrap (intOf (nth .dead (nth [] x0 (intOf (nth .dead o3 0)).toNat) 3) * IntKind.i64.wrap (intOf (nth .dead o2 0) - intOf (nth .dead (nth [] x0 (intOf (nth .dead o3 0)).toNat) 0)))))]
 else
 none
 else
 none
 else
 none := by kernel_rfl
noncomputable def m_track_Place := mf_track_Place m_track_find m_track_clamp 
theorem sp_track_Place : SpecOK Tryz.prog (C_track_Place_0 m_track_find m_track_clamp) := specOK_of rfl ⟨r_track_find, r_track_clamp, trivial⟩
theorem r_track_Place : RowOK Tryz.prog (21, spOf sig_track_Place osig_track_Place m_track_Place) := row_of (C := (C_track_Place_0 m_track_find m_track_clamp)) (L := 64) (sig := sig_track_Place) (osig := osig_track_Place) (by kernel_rfl) (FnOK.bare rfl rfl rfl) sp_track_Place eqOk mixOk (by kernel_rfl) (by kernel_rfl)
end Go.Bm
