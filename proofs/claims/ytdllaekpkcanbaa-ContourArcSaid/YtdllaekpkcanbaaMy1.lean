/- functions of the program and of the references, as models -/
import Derived.Test.YtdllaekpkcanbaaMx3
import Derived.Test.YtdllaekpkcanbaaSeAw0
import Derived.Test.YtdllaekpkcanbaaSeAw41
set_option linter.unusedSimpArgs false
set_option linter.unusedVariables false
set_option maxRecDepth 100000
noncomputable section
namespace Go.Bm
open Go.Proofs
def sig_cnclaw41_beside : Sk := { tmps := [TS.v true [ci, ci, ci], TS.v true [ci, ci, ci]], boxes := [], rows := [] }
def osig_cnclaw41_beside : Sk := { tmps := [TS.v true [ci, ci, ci]], boxes := [], rows := [] }
def C_cnclaw41_beside_0 (M_cncmill_Mod : Fn) : Cfg := { spec := lookS [(23, spOf sig_cncmill_Mod osig_cncmill_Mod M_cncmill_Mod)], eqOk := eqAll, ownOff := ownOff, unroll := [2] }
def mf_cnclaw41_beside (M_cncmill_Mod : Fn) : Fn := modelF Try.prog (C_cnclaw41_beside_0 M_cncmill_Mod) 64 19 sig_cnclaw41_beside osig_cnclaw41_beside
theorem mf_cnclaw41_beside_eq (M_cncmill_Mod : Fn) (x0 x1 x2 x3 x4 x5 : Int) : mf_cnclaw41_beside M_cncmill_Mod [I x0, I x1, I x2, I x3, I x4, I x5] =
 (M_cncmill_Mod [I x3, I 41]).bind fun o3 =>
 (M_cncmill_Mod [I x4, I 41]).bind fun o4 =>
 (M_cncmill_Mod [I x5, I 41]).bind fun o5 =>
 some [I (IntKind.i64.wrap (x0 + IntKind.i64.wrap (gA o3 0 - 20))), I (IntKind.i64.wrap (x1 + IntKind.i64.wrap (gA o4 0 - 20))), I (IntKind.i64.wrap (x2 + IntKind.i64.wrap (gA o5 0 - 20)))] := by kernel_rfl
def m_cnclaw41_beside := mf_cnclaw41_beside m_cncmill_Mod 
theorem sp_cnclaw41_beside : SpecOK Try.prog (C_cnclaw41_beside_0 m_cncmill_Mod) := specOK_of rfl ⟨r_cncmill_Mod, trivial⟩
theorem r_cnclaw41_beside : RowOK Try.prog (19, spOf sig_cnclaw41_beside osig_cnclaw41_beside m_cnclaw41_beside) := row_of (C := (C_cnclaw41_beside_0 m_cncmill_Mod)) (L := 64) (by kernel_rfl) (FnOK.bare rfl rfl rfl) sp_cnclaw41_beside eqOk mixOk (by kernel_rfl) (by kernel_rfl)
def sig_cnclaw41_ContourArc : Sk := { tmps := [tf [CS.sl kInts], tf [ci], tf [ci], TS.v true [ci, ci, ci], tf [ci]], boxes := [], rows := [] }
def osig_cnclaw41_ContourArc : Sk := { tmps := [tf [CS.bool]], boxes := [], rows := [] }
def C_cnclaw41_ContourArc_0 (M_cncref41_OnArc M_contour_OnArc M_cnclaw41_beside M_cncref23_Fine M_cncref23_Chords M_cncmill_Arc M_cncmill_Mod M_cnclaw41_awake : Fn) : Cfg := { spec := lookS [(27, spOf sig_cncref41_OnArc osig_cncref41_OnArc M_cncref41_OnArc), (26, spOf sig_contour_OnArc osig_contour_OnArc M_contour_OnArc), (19, spOf sig_cnclaw41_beside osig_cnclaw41_beside M_cnclaw41_beside), (25, spOf sig_cncref23_Fine osig_cncref23_Fine M_cncref23_Fine), (24, spOf sig_cncref23_Chords osig_cncref23_Chords M_cncref23_Chords), (22, spOf sig_cncmill_Arc osig_cncmill_Arc M_cncmill_Arc), (23, spOf sig_cncmill_Mod osig_cncmill_Mod M_cncmill_Mod), (16, spOf sig_cnclaw41_awake osig_cnclaw41_awake M_cnclaw41_awake)], eqOk := eqAll, ownOff := ownOff, unroll := [10, 15] }
def mf_cnclaw41_ContourArc (M_cncref41_OnArc M_contour_OnArc M_cnclaw41_beside M_cncref23_Fine M_cncref23_Chords M_cncmill_Arc M_cncmill_Mod M_cnclaw41_awake : Fn) : Fn := modelF Try.prog (C_cnclaw41_ContourArc_0 M_cncref41_OnArc M_contour_OnArc M_cnclaw41_beside M_cncref23_Fine M_cncref23_Chords M_cncmill_Arc M_cncmill_Mod M_cnclaw41_awake) 64 4 sig_cnclaw41_ContourArc osig_cnclaw41_ContourArc
theorem mf_cnclaw41_ContourArc_eq (M_cncref41_OnArc M_contour_OnArc M_cnclaw41_beside M_cncref23_Fine M_cncref23_Chords M_cncmill_Arc M_cncmill_Mod M_cnclaw41_awake : Fn) (x0 : Rw) (x1 x2 x3 x4 x5 x6 : Int) : mf_cnclaw41_ContourArc M_cncref41_OnArc M_contour_OnArc M_cnclaw41_beside M_cncref23_Fine M_cncref23_Chords M_cncmill_Arc M_cncmill_Mod M_cnclaw41_awake [.view kInts x0, I x1, I x2, I x3, I x4, I x5, I x6] =
 (M_cnclaw41_awake []).bind fun o19 =>
 bif !bA o19 0 then
 some [B false]
 else
 (M_cncmill_Mod [I x1, I 200]).bind fun o20 =>
 (M_cncmill_Arc [.view kInts x0, I (IntKind.i64.wrap (1 + gA o20 0))]).bind fun o21 =>
 (M_cncmill_Mod [I x6, I 40]).bind fun o22 =>
 (M_cncref23_Chords [jA o21 0, jA o21 1, jA o21 2, jA o21 3, jA o21 4, jA o21 5, jA o21 6, jA o21 7, jA o21 8, jA o21 9, jA o21 10, jA o21 11, jA o21 12, B (bA o21 13), jA o21 14, B (bA o21 15), jA o21 16, jA o21 17, jA o21 18, jA o21 19, jA o21 20, B (bA o21 21)]).bind fun o23 =>
 (M_cncmill_Mod [I x2, I (↑(wA o23 0).length : Int)]).bind fun o24 =>
 bif decide (0 <= gA o24 0) && decide (gA o24 0 < (↑(wA o23 0).length : Int)) then
 (M_cncref23_Fine [jA o21 9, jA o21 10, jA o21 11]).bind fun o25 =>
 (M_cnclaw41_beside [I (intOf (nth .dead (nth [] (wA o23 0) (gA o24 0).toNat) 0)), I (intOf (nth .dead (nth [] (wA o23 0) (gA o24 0).toNat) 1)), I (intOf (nth .dead (nth [] (wA o23 0) (gA o24 0).toNat) 2)), I x3, I x4, I x5]).bind fun o26 =>
 (M_cnclaw41_beside [jA o25 0, jA o25 1, jA o25 2, I x3, I x4, I x5]).bind fun o27 =>
 (M_cnclaw41_beside [I (IntKind.i64.wrap (IntKind.i64.wrap (2 * gA o25 0) - intOf (nth .dead (nth [] (wA o23 0) (gA o24 0).toNat) 0))), I (IntKind.i64.wrap (IntKind.i64.wrap (2 * gA o25 1) - intOf (nth .dead (nth [] (wA o23 0) (gA o24 0).toNat) 1))), I (IntKind.i64.wrap (IntKind.i64.wrap (2 * gA o25 2) - intOf (nth .dead (nth [] (wA o23 0) (gA o24 0).toNat) 2))), I x3, I x4, I x5]).bind fun o28 =>
 (M_contour_OnArc [jA o21 0, jA o21 1, jA o21 2, jA o21 3, jA o21 4, jA o21 5, jA o21 6, jA o21 7, jA o21 8, jA o21 9, jA o21 10, jA o21 11, jA o21 12, B (bA o21 13), jA o21 14, B (bA o21 15), jA o21 16, jA o21 17, jA o21 18, jA o21 19, jA o21 20, B (bA o21 21), jA o26 0, jA o26 1, jA o26 2, jA o22 0]).bind fun o29 =>
 (M_cncref41_OnArc [jA o21 0, jA o21 1, jA o21 2, jA o21 3, jA o21 4, jA o21 5, jA o21 6, jA o21 7, jA o21 8, jA o21 9, jA o21 10, jA o21 11, jA o21 12, B (bA o21 13), jA o21 14, B (bA o21 15), jA o21 16, jA o21 17, jA o21 18, jA o21 19, jA o21 20, B (bA o21 21), jA o26 0, jA o26 1, jA o26 2, jA o22 0]).bind fun o30 =>
 bif !bA o29 0 == bA o30 0 then
 some [B false]
 else
 (M_contour_OnArc [jA o21 0, jA o21 1, jA o21 2, jA o21 3, jA o21 4, jA o21 5, jA o21 6, jA o21 7, jA o21 8, jA o21 9, jA o21 10, jA o21 11, jA o21 12, B (bA o21 13), jA o21 14, B (bA o21 15), jA o21 16, jA o21 17, jA o21 18, jA o21 19, jA o21 20, B (bA o21 21), jA o27 0, jA o27 1, jA o27 2, jA o22 0]).bind fun o31 =>
 (M_cncref41_OnArc [jA o21 0, jA o21 1, jA o21 2, jA o21 3, jA o21 4, jA o21 5, jA o21 6, jA o21 7, jA o21 8, jA o21 9, jA o21 10, jA o21 11, jA o21 12, B (bA o21 13), jA o21 14, B (bA o21 15), jA o21 16, jA o21 17, jA o21 18, jA o21 19, jA o21 20, B (bA o21 21), jA o27 0, jA o27 1, jA o27 2, jA o22 0]).bind fun o32 =>
 bif !bA o31 0 == bA o32 0 then
 some [B false]
 else
 (M_contour_OnArc [jA o21 0, jA o21 1, jA o21 2, jA o21 3, jA o21 4, jA o21 5, jA o21 6, jA o21 7, jA o21 8, jA o21 9, jA o21 10, jA o21 11, jA o21 12, B (bA o21 13), jA o21 14, B (bA o21 15), jA o21 16, jA o21 17, jA o21 18, jA o21 19, jA o21 20, B (bA o21 21), jA o28 0, jA o28 1, jA o28 2, jA o22 0]).bind fun o33 =>
 (M_cncref41_OnArc [jA o21 0, jA o21 1, jA o21 2, jA o21 3, jA o21 4, jA o21 5, jA o21 6, jA o21 7, jA o21 8, jA o21 9, jA o21 10, jA o21 11, jA o21 12, B (bA o21 13), jA o21 14, B (bA o21 15), jA o21 16, jA o21 17, jA o21 18, jA o21 19, jA o21 20, B (bA o21 21), jA o28 0, jA o28 1, jA o28 2, jA o22 0]).bind fun o34 =>
 bif !bA o33 0 == bA o34 0 then
 some [B false]
 else
 (M_contour_OnArc [jA o21 0, jA o21 1, jA o21 2, jA o21 3, jA o21 4, jA o21 5, jA o21 6, jA o21 7, jA o21 8, jA o21 9, jA o21 10, jA o21 11, jA o21 12, B (bA o21 13), jA o21 14, B (bA o21 15), jA o21 16, jA o21 17, jA o21 18, jA o21 19, jA o21 20, B (bA o21 21), I (intOf (nth .dead (nth [] (wA o23 0) (gA o24 0).toNat) 0)), I (intOf (nth .dead (nth [] (wA o23 0) (gA o24 0).toNat) 1)), I (intOf (nth .dead (nth [] (wA o23 0) (gA o24 0).toNat) 2)), jA o22 0]).bind fun o35 =>
 (M_cncref41_OnArc [jA o21 0, jA o21 1, jA o21 2, jA o21 3, jA o21 4, jA o21 5, jA o21 6, jA o21 7, jA o21 8, jA o21 9, jA o21 10, jA o21 11, jA o21 12, B (bA o21 13), jA o21 14, B (bA o21 15), jA o21 16, jA o21 17, jA o21 18, jA o21 19, jA o21 20, B (bA o21 21), I (intOf (nth .dead (nth [] (wA o23 0) (gA o24 0).toNat) 0)), I (intOf (nth .dead (nth [] (wA o23 0) (gA o24 0).toNat) 1)), I (intOf (nth .dead (nth [] (wA o23 0) (gA o24 0).toNat) 2)), jA o22 0]).bind fun o36 =>
 bif !bA o35 0 == bA o36 0 then
 some [B false]
 else
 (M_contour_OnArc [jA o21 0, jA o21 1, jA o21 2, jA o21 3, jA o21 4, jA o21 5, jA o21 6, jA o21 7, jA o21 8, jA o21 9, jA o21 10, jA o21 11, jA o21 12, B (bA o21 13), jA o21 14, B (bA o21 15), jA o21 16, jA o21 17, jA o21 18, jA o21 19, jA o21 20, B (bA o21 21), I (intOf (nth .dead (nth [] (wA o23 0) (gA o24 0).toNat) 0)), I (intOf (nth .dead (nth [] (wA o23 0) (gA o24 0).toNat) 1)), I (intOf (nth .dead (nth [] (wA o23 0) (gA o24 0).toNat) 2)), I 2]).bind fun o37 =>
 some [B (bA o37 0)]
 else
 none := by kernel_rfl
def m_cnclaw41_ContourArc := mf_cnclaw41_ContourArc m_cncref41_OnArc m_contour_OnArc m_cnclaw41_beside m_cncref23_Fine m_cncref23_Chords m_cncmill_Arc m_cncmill_Mod m_cnclaw41_awake 
theorem sp_cnclaw41_ContourArc : SpecOK Try.prog (C_cnclaw41_ContourArc_0 m_cncref41_OnArc m_contour_OnArc m_cnclaw41_beside m_cncref23_Fine m_cncref23_Chords m_cncmill_Arc m_cncmill_Mod m_cnclaw41_awake) := specOK_of rfl ⟨r_cncref41_OnArc, r_contour_OnArc, r_cnclaw41_beside, r_cncref23_Fine, r_cncref23_Chords, r_cncmill_Arc, r_cncmill_Mod, r_cnclaw41_awake, trivial⟩
theorem c_cnclaw41_ContourArc : ∀ (args : List TV) (v : TV) (mem : Mem), (spOf sig_cnclaw41_ContourArc osig_cnclaw41_ContourArc m_cnclaw41_ContourArc (TV × Mem) args ⟨[], []⟩ fun v m => some (v, m)) = some (v, mem) -> PCallM Try.prog 4 args ⟨[], []⟩ v mem := fun args v mem h => callM_of (f := 4) (C := (C_cnclaw41_ContourArc_0 m_cncref41_OnArc m_contour_OnArc m_cnclaw41_beside m_cncref23_Fine m_cncref23_Chords m_cncmill_Arc m_cncmill_Mod m_cnclaw41_awake)) (L := 64) (by kernel_rfl) (FnOK.bare rfl rfl rfl) sp_cnclaw41_ContourArc eqOk mixOk (by kernel_rfl) (by kernel_rfl) args v mem h
end Go.Bm
