/- functions of the program and of the references, as models -/
import Derived.Test.YtdllaekpkcanbaaMx4
import Derived.Test.YtdllaekpkcanbaaSeAw0
import Derived.Test.YtdllaekpkcanbaaSeAw41
set_option linter.unusedSimpArgs false
set_option linter.unusedVariables false
set_option maxRecDepth 100000
noncomputable section
namespace Go.Bm
open Go.Proofs
def sig_cnclaw41_ContourChords : Sk := { tmps := [tf [CS.sl kInts], tf [ci], tf [ci], tf [ci]], boxes := [], rows := [] }
def osig_cnclaw41_ContourChords : Sk := { tmps := [tf [CS.bool]], boxes := [], rows := [] }
def C_cnclaw41_ContourChords_0 (M_contour_OnItem M_curve_Chords M_cncmill_Arc M_cncmill_Mod M_cnclaw41_awake : Fn) : Cfg := { spec := lookS [(29, spOf sig_contour_OnItem osig_contour_OnItem M_contour_OnItem), (41, spOf sig_curve_Chords osig_curve_Chords M_curve_Chords), (22, spOf sig_cncmill_Arc osig_cncmill_Arc M_cncmill_Arc), (23, spOf sig_cncmill_Mod osig_cncmill_Mod M_cncmill_Mod), (16, spOf sig_cnclaw41_awake osig_cnclaw41_awake M_cnclaw41_awake)], eqOk := eqAll, ownOff := ownOff, unroll := [10] }
def mf_cnclaw41_ContourChords (M_contour_OnItem M_curve_Chords M_cncmill_Arc M_cncmill_Mod M_cnclaw41_awake : Fn) : Fn := modelF Try.prog (C_cnclaw41_ContourChords_0 M_contour_OnItem M_curve_Chords M_cncmill_Arc M_cncmill_Mod M_cnclaw41_awake) 64 9 sig_cnclaw41_ContourChords osig_cnclaw41_ContourChords
theorem mf_cnclaw41_ContourChords_eq (M_contour_OnItem M_curve_Chords M_cncmill_Arc M_cncmill_Mod M_cnclaw41_awake : Fn) (x0 : Rw) (x1 x2 x3 : Int) : mf_cnclaw41_ContourChords M_contour_OnItem M_curve_Chords M_cncmill_Arc M_cncmill_Mod M_cnclaw41_awake [.view kInts x0, I x1, I x2, I x3] =
 (M_cnclaw41_awake []).bind fun o10 =>
 bif !bA o10 0 then
 some [B false]
 else
 (M_cncmill_Mod [I x1, I 3000]).bind fun o11 =>
 (M_cncmill_Arc [.view kInts x0, I (IntKind.i64.wrap (1 + gA o11 0))]).bind fun o12 =>
 (M_curve_Chords [jA o12 0, jA o12 1, jA o12 2, jA o12 3, jA o12 4, jA o12 5, jA o12 6, jA o12 7, jA o12 8, jA o12 9, jA o12 10, jA o12 11, jA o12 12, B (bA o12 13), jA o12 14, B (bA o12 15), jA o12 16, jA o12 17, jA o12 18, jA o12 19, jA o12 20, B (bA o12 21)]).bind fun o13 =>
 bif !bA o13 1 then
 some [B false]
 else
 bif decide ((↑(wA o13 0).length : Int) < 2) then
 some [B false]
 else
 (M_cncmill_Mod [I x2, I (IntKind.i64.wrap ((↑(wA o13 0).length : Int) - 1))]).bind fun o14 =>
 bif decide (0 <= gA o14 0) && decide (gA o14 0 < (↑(wA o13 0).length : Int)) then
 bif decide (0 <= IntKind.i64.wrap (gA o14 0 + 1)) && decide (IntKind.i64.wrap (gA o14 0 + 1) < (↑(wA o13 0).length : Int)) then
 bif decide (0 <= gA o14 0) && decide (gA o14 0 < (↑(wA o13 0).length : Int)) then
 (M_cncmill_Mod [I x3, I 65]).bind fun o15 =>
 bif decide (0 <= IntKind.i64.wrap (gA o14 0 + 1)) && decide (IntKind.i64.wrap (gA o14 0 + 1) < (↑(wA o13 0).length : Int)) then
 bif decide (0 <= gA o14 0) && decide (gA o14 0 < (↑(wA o13 0).length : Int)) then
 (M_cncmill_Mod [I x3, I 65]).bind fun o16 =>
 bif decide (0 <= IntKind.i64.wrap (gA o14 0 + 1)) && decide (IntKind.i64.wrap (gA o14 0 + 1) < (↑(wA o13 0).length : Int)) then
 bif decide (0 <= gA o14 0) && decide (gA o14 0 < (↑(wA o13 0).length : Int)) then
 (M_cncmill_Mod [I x3, I 65]).bind fun o17 =>
 (M_contour_OnItem [jA o12 0, jA o12 1, jA o12 2, jA o12 3, jA o12 4, jA o12 5, jA o12 6, jA o12 7, jA o12 8, jA o12 9, jA o12 10, jA o12 11, jA o12 12, B (bA o12 13), jA o12 14, B (bA o12 15), jA o12 16, jA o12 17, jA o12 18, jA o12 19, jA o12 20, B (bA o12 21), I (IntKind.i64.wrap (intOf (nth .dead (nth [] (wA o13 0) (gA o14 0).toNat) 0) + IntKind.i64.wrap ((IntKind.i64.wrap (IntKind.i64.wrap (intOf (nth .dead (nth [] (wA o13 0) (IntKind.i64.wrap (gA o14 0 + 1)).toNat) 0) - intOf (nth .dead (nth [] (wA o13 0) (gA o14 0).toNat) 0)) * gA o15 0)).tdiv 64))), I (IntKind.i64.wrap (intOf (nth .dead (nth [] (wA o13 0) (gA o14 0).toNat) 1) + IntKind.i64.wrap ((IntKind.i64.wrap (IntKind.i64.wrap (intOf (nth .dead (nth [] (wA o13 0) (IntKind.i64.wrap (gA o14 0 + 1)).toNat) 1) - intOf (nth .dead (nth [] (wA o13 0) (gA o14 0).toNat) 1)) * gA o16 0)).tdiv 64))), I (IntKind.i64.wrap (intOf (nth .dead (nth [] (wA o13 0) (gA o14 0).toNat) 2) + IntKind.i64.wrap ((IntKind.i64.wrap (IntKind.i64.wrap (intOf (nth .dead (nth [] (wA o13 0) (IntKind.i64.wrap (gA o14 0 + 1)).toNat) 2) - intOf (nth .dead (nth [] (wA o13 0) (gA o14 0).toNat) 2)) * gA o17 0)).tdiv 64))), I 7]).bind fun o18 =>
 bif bA o18 0 then
 bif decide (0 <= gA o14 0) && decide (gA o14 0 < (↑(wA o13 0).length : Int)) then
 (M_contour_OnItem [jA o12 0, jA o12 1, jA o12 2, jA o12 3, jA o12 4, jA o12 5, jA o12 6, jA o12 7, jA o12 8, jA o12 9, jA o12 10, jA o12 11, jA o12 12, B (bA o12 13), jA o12 14, B (bA o12 15), jA o12 16, jA o12 17, jA o12 18, jA o12 19, jA o12 20, B (bA o12 21), I (intOf (nth .dead (nth [] (wA o13 0) (gA o14 0).toNat) 0)), I (intOf (nth .dead (nth [] (wA o13 0) (gA o14 0).toNat) 1)), I (intOf (nth .dead (nth [] (wA o13 0) (gA o14 0).toNat) 2)), I 2]).bind fun o19 =>
 some [B (bA o19 0)]
 else
 none
 else
 some [B false]
 else
 none
 else
 none
 else
 none
 else
 none
 else
 none
 else
 none
 else
 none := by kernel_rfl
def m_cnclaw41_ContourChords := mf_cnclaw41_ContourChords m_contour_OnItem m_curve_Chords m_cncmill_Arc m_cncmill_Mod m_cnclaw41_awake 
theorem sp_cnclaw41_ContourChords : SpecOK Try.prog (C_cnclaw41_ContourChords_0 m_contour_OnItem m_curve_Chords m_cncmill_Arc m_cncmill_Mod m_cnclaw41_awake) := specOK_of rfl ⟨r_contour_OnItem, r_curve_Chords, r_cncmill_Arc, r_cncmill_Mod, r_cnclaw41_awake, trivial⟩
theorem c_cnclaw41_ContourChords : ∀ (args : List TV) (v : TV) (mem : Mem), (spOf sig_cnclaw41_ContourChords osig_cnclaw41_ContourChords m_cnclaw41_ContourChords (TV × Mem) args ⟨[], []⟩ fun v m => some (v, m)) = some (v, mem) -> PCallM Try.prog 9 args ⟨[], []⟩ v mem := fun args v mem h => callM_of (f := 9) (C := (C_cnclaw41_ContourChords_0 m_contour_OnItem m_curve_Chords m_cncmill_Arc m_cncmill_Mod m_cnclaw41_awake)) (L := 64) (by kernel_rfl) (FnOK.bare rfl rfl rfl) sp_cnclaw41_ContourChords eqOk mixOk (by kernel_rfl) (by kernel_rfl) args v mem h
end Go.Bm
