/- functions of the program and of the references, as models -/
import Derived.Test.YtdllaekpkcanbaaMx1
set_option linter.unusedSimpArgs false
set_option linter.unusedVariables false
set_option maxRecDepth 100000
noncomputable section
namespace Go.Bm
open Go.Proofs
def sig_cncmill_Source_Next : Sk := { tmps := [tf [CS.ptr 20000 0], tf [ci]], boxes := [(20000, 138, [CS.sl kInts, ci])], rows := [] }
def osig_cncmill_Source_Next : Sk := { tmps := [tf [ci]], boxes := [(20000, 138, [CS.sl kInts, ci])], rows := [] }
def C_cncmill_Source_Next_0 (M_cncmill_Mod : Fn) : Cfg := { spec := lookS [(23, spOf sig_cncmill_Mod osig_cncmill_Mod M_cncmill_Mod)], eqOk := eqAll, ownOff := ownOff }
def mf_cncmill_Source_Next (M_cncmill_Mod : Fn) : Fn := modelF Try.prog (C_cncmill_Source_Next_0 M_cncmill_Mod) 64 61 sig_cncmill_Source_Next osig_cncmill_Source_Next
theorem mf_cncmill_Source_Next_eq (M_cncmill_Mod : Fn) (x0 : Int) (x1 : Rw) (x2 : Int) : mf_cncmill_Source_Next M_cncmill_Mod [I x0, .view kInts x1, I x2] =
 bif decide (x2 >= (x1.length : Int)) then
 some [I 0, .view kInts x1, I x2]
 else
 bif decide (0 <= x2) && decide (x2 < (x1.length : Int)) then
 (M_cncmill_Mod [jA (nth [] x1 x2.toNat) 0, I x0]).bind fun o1 =>
 some [jA o1 0, .view kInts x1, I (IntKind.i64.wrap (x2 + 1))]
 else
 none := by kernel_rfl
def m_cncmill_Source_Next := mf_cncmill_Source_Next m_cncmill_Mod 
theorem sp_cncmill_Source_Next : SpecOK Try.prog (C_cncmill_Source_Next_0 m_cncmill_Mod) := specOK_of rfl ⟨r_cncmill_Mod, trivial⟩
theorem r_cncmill_Source_Next : RowOK Try.prog (61, spOf sig_cncmill_Source_Next osig_cncmill_Source_Next m_cncmill_Source_Next) := row_of (C := (C_cncmill_Source_Next_0 m_cncmill_Mod)) (L := 64) (by kernel_rfl) (FnOK.bare rfl rfl rfl) sp_cncmill_Source_Next eqOk mixOk (by kernel_rfl) (by kernel_rfl)
def sig_cncmill_arc : Sk := { tmps := [tf [CS.ptr 20000 0], TS.v true [ci, ci, ci], tf [ci]], boxes := [(20000, 138, [CS.sl kInts, ci])], rows := [] }
def osig_cncmill_arc : Sk := { tmps := [TS.v true [ci, ci, ci, ci, ci, ci, ci, ci, ci, ci, ci, ci, ci, CS.bool, ci, CS.bool, ci, ci, ci, ci, ci, CS.bool]], boxes := [(20000, 138, [CS.sl kInts, ci])], rows := [] }
def C_cncmill_arc_0 (M_cncref23_Space M_cncmill_turned M_cncref23_Plane M_cncmill_Source_Next : Fn) : Cfg := { spec := lookS [(65, spOf sig_cncref23_Space osig_cncref23_Space M_cncref23_Space), (112, spOf sig_cncmill_turned osig_cncmill_turned M_cncmill_turned), (64, spOf sig_cncref23_Plane osig_cncref23_Plane M_cncref23_Plane), (61, spOf sig_cncmill_Source_Next osig_cncmill_Source_Next M_cncmill_Source_Next)], eqOk := eqAll, pure := fun f => !(elemN [61] f), ownOff := ownOff }
def mf_cncmill_arc (M_cncref23_Space M_cncmill_turned M_cncref23_Plane M_cncmill_Source_Next : Fn) : Fn := modelF Try.prog (C_cncmill_arc_0 M_cncref23_Space M_cncmill_turned M_cncref23_Plane M_cncmill_Source_Next) 64 60 sig_cncmill_arc osig_cncmill_arc
abbrev g_cncmill_arc_1 (M_cncmill_Source_Next M_cncref23_Space : Fn) (o23 o18 : List AC) (x0 x1 x2 : Int) (o26 o19 o22 : List AC) (h1_0 h1_1 h1_2 h1_3 : AC) : Option (List AC) :=
 (M_cncmill_Source_Next [I 4, h1_0, h1_1]).bind fun o30 =>
 bif decide (0 <= gA o30 0) && decide (gA o30 0 < (↑[[I 0], [I 0], [I 7], [I (-12)]].length : Int)) then
 (M_cncref23_Space [h1_2, h1_3, I (IntKind.i64.wrap (gA o23 2 + intOf (nth .dead (nth [] [[I 0], [I 0], [I 7], [I (-12)]] (gA o30 0).toNat) 0))), I (intOf (nth .dead (nth [] [[I 17], [I 18], [I 19]] (gA o18 0).toNat) 0))]).bind fun o31 =>
 some [I 3, I 0, I x0, I x1, I x2, jA o31 0, jA o31 1, jA o31 2, I (intOf (nth .dead (nth [] [[I 17], [I 18], [I 19]] (gA o18 0).toNat) 0)), jA o26 0, jA o26 1, jA o26 2, I (IntKind.i64.wrap (1 - IntKind.i64.wrap (gA o19 0 * 2))), B (gA o22 0 == 0), I 0, B false, I 0, I 0, I 0, I 0, I 0, B false, .view kInts (wA o30 1), jA o30 2]
 else
 none
attribute [go_sem] g_cncmill_arc_1
theorem mf_cncmill_arc_eq (M_cncref23_Space M_cncmill_turned M_cncref23_Plane M_cncmill_Source_Next : Fn) (x0 x1 x2 x3 : Int) (x4 : Rw) (x5 : Int) : mf_cncmill_arc M_cncref23_Space M_cncmill_turned M_cncref23_Plane M_cncmill_Source_Next [I x0, I x1, I x2, I x3, .view kInts x4, I x5] =
 (M_cncmill_Source_Next [I 3, .view kInts x4, I x5]).bind fun o18 =>
 bif decide (0 <= gA o18 0) && decide (gA o18 0 < (↑[[I 17], [I 18], [I 19]].length : Int)) then
 (M_cncmill_Source_Next [I 2, .view kInts (wA o18 1), jA o18 2]).bind fun o19 =>
 (M_cncmill_Source_Next [I x3, .view kInts (wA o19 1), jA o19 2]).bind fun o20 =>
 (M_cncmill_Source_Next [I 4, .view kInts (wA o20 1), jA o20 2]).bind fun o21 =>
 (M_cncmill_Source_Next [I 4, .view kInts (wA o21 1), jA o21 2]).bind fun o22 =>
 (M_cncref23_Plane [I x0, I x1, I x2, I (intOf (nth .dead (nth [] [[I 17], [I 18], [I 19]] (gA o18 0).toNat) 0))]).bind fun o23 =>
 (M_cncmill_turned [I (IntKind.i64.wrap (8 + gA o20 0)), jA o21 0]).bind fun o24 =>
 (M_cncmill_turned [I (IntKind.i64.wrap (8 + gA o20 0)), I (IntKind.i64.wrap (gA o21 0 + gA o22 0))]).bind fun o25 =>
 (M_cncref23_Space [I (IntKind.i64.wrap (gA o23 0 - gA o24 0)), I (IntKind.i64.wrap (gA o23 1 - gA o24 1)), jA o23 2, I (intOf (nth .dead (nth [] [[I 17], [I 18], [I 19]] (gA o18 0).toNat) 0))]).bind fun o26 =>
 bif decide (gA o22 0 > 0) then
 (M_cncmill_Source_Next [I 3, .view kInts (wA o22 1), jA o22 2]).bind fun o27 =>
 bif gA o27 0 == 0 then
 bif decide (IntKind.i64.wrap (8 + gA o20 0) = 0) then
 none
 else
 (M_cncmill_Source_Next [I 5, .view kInts (wA o27 1), jA o27 2]).bind fun o28 =>
 bif decide (IntKind.i64.wrap (8 + gA o20 0) = 0) then
 none
 else
 (M_cncmill_Source_Next [I 5, .view kInts (wA o28 1), jA o28 2]).bind fun o29 =>
 g_cncmill_arc_1 M_cncmill_Source_Next M_cncref23_Space o23 o18 x0 x1 x2 o26 o19 o22 (.view kInts (wA o29 1)) (jA o29 2) (I (IntKind.i64.wrap (IntKind.i64.wrap (gA o23 0 - gA o24 0) + IntKind.i64.wrap (gA o25 0 + IntKind.i64.wrap (IntKind.i64.wrap ((gA o25 0).tdiv (IntKind.i64.wrap (8 + gA o20 0))) * gA o28 0))))) (I (IntKind.i64.wrap (IntKind.i64.wrap (gA o23 1 - gA o24 1) + IntKind.i64.wrap (gA o25 1 + IntKind.i64.wrap (IntKind.i64.wrap ((gA o25 1).tdiv (IntKind.i64.wrap (8 + gA o20 0))) * gA o29 0)))))
 else
 g_cncmill_arc_1 M_cncmill_Source_Next M_cncref23_Space o23 o18 x0 x1 x2 o26 o19 o22 (.view kInts (wA o27 1)) (jA o27 2) (I (IntKind.i64.wrap (IntKind.i64.wrap (gA o23 0 - gA o24 0) + gA o25 0))) (I (IntKind.i64.wrap (IntKind.i64.wrap (gA o23 1 - gA o24 1) + gA o25 1)))
 else
 g_cncmill_arc_1 M_cncmill_Source_Next M_cncref23_Space o23 o18 x0 x1 x2 o26 o19 o22 (.view kInts (wA o22 1)) (jA o22 2) (I (IntKind.i64.wrap (IntKind.i64.wrap (gA o23 0 - gA o24 0) + gA o25 0))) (I (IntKind.i64.wrap (IntKind.i64.wrap (gA o23 1 - gA o24 1) + gA o25 1)))
 else
 none := by kernel_rfl
def m_cncmill_arc := mf_cncmill_arc m_cncref23_Space m_cncmill_turned m_cncref23_Plane m_cncmill_Source_Next 
theorem sp_cncmill_arc : SpecOK Try.prog (C_cncmill_arc_0 m_cncref23_Space m_cncmill_turned m_cncref23_Plane m_cncmill_Source_Next) := specOK_of rfl ⟨r_cncref23_Space, r_cncmill_turned, r_cncref23_Plane, r_cncmill_Source_Next, trivial⟩
theorem r_cncmill_arc : RowOK Try.prog (60, spOf sig_cncmill_arc osig_cncmill_arc m_cncmill_arc) := row_of (C := (C_cncmill_arc_0 m_cncref23_Space m_cncmill_turned m_cncref23_Plane m_cncmill_Source_Next)) (L := 64) (by kernel_rfl) (FnOK.bare rfl rfl rfl) sp_cncmill_arc eqOk mixOk (by kernel_rfl) (by kernel_rfl)
def sig_cncmill_From : Sk := { tmps := [tf [CS.sl kInts]], boxes := [], rows := [] }
def osig_cncmill_From : Sk := { tmps := [tf [CS.ptr 5 0]], boxes := [(5, 138, [CS.sl kInts, ci])], rows := [] }
def C_cncmill_From_0 : Cfg := { spec := lookS [], eqOk := eqAll, ownOff := ownOff }
def mf_cncmill_From : Fn := modelF Try.prog C_cncmill_From_0 64 59 sig_cncmill_From osig_cncmill_From
theorem mf_cncmill_From_eq (x0 : Rw) : mf_cncmill_From [.view kInts x0] =
 some [.view kInts x0, I 0] := by kernel_rfl
def m_cncmill_From := mf_cncmill_From 
theorem sp_cncmill_From : SpecOK Try.prog (C_cncmill_From_0 ) := specOK_of rfl trivial
theorem r_cncmill_From : RowOK Try.prog (59, spOf sig_cncmill_From osig_cncmill_From m_cncmill_From) := row_of (C := C_cncmill_From_0) (L := 64) (by kernel_rfl) (FnOK.bare rfl rfl rfl) sp_cncmill_From eqOk mixOk (by kernel_rfl) (by kernel_rfl)
def sig_cncmill_Arc : Sk := { tmps := [tf [CS.sl kInts], tf [ci]], boxes := [], rows := [] }
def osig_cncmill_Arc : Sk := { tmps := [TS.v true [ci, ci, ci, ci, ci, ci, ci, ci, ci, ci, ci, ci, ci, CS.bool, ci, CS.bool, ci, ci, ci, ci, ci, CS.bool]], boxes := [], rows := [] }
def C_cncmill_Arc_0 (M_cncmill_arc M_cncmill_Source_Next M_cncmill_From : Fn) : Cfg := { spec := lookS [(60, spOf sig_cncmill_arc osig_cncmill_arc M_cncmill_arc), (61, spOf sig_cncmill_Source_Next osig_cncmill_Source_Next M_cncmill_Source_Next), (59, spOf sig_cncmill_From osig_cncmill_From M_cncmill_From)], eqOk := eqAll, pure := fun f => !(elemN [60, 61, 59] f), ownOff := ownOff }
def mf_cncmill_Arc (M_cncmill_arc M_cncmill_Source_Next M_cncmill_From : Fn) : Fn := modelF Try.prog (C_cncmill_Arc_0 M_cncmill_arc M_cncmill_Source_Next M_cncmill_From) 64 22 sig_cncmill_Arc osig_cncmill_Arc
theorem mf_cncmill_Arc_eq (M_cncmill_arc M_cncmill_Source_Next M_cncmill_From : Fn) (x0 : Rw) (x1 : Int) : mf_cncmill_Arc M_cncmill_arc M_cncmill_Source_Next M_cncmill_From [.view kInts x0, I x1] =
 (M_cncmill_From [.view kInts x0]).bind fun o5 =>
 (M_cncmill_Source_Next [I 200, .view kInts (wA o5 0), jA o5 1]).bind fun o6 =>
 (M_cncmill_Source_Next [I 200, .view kInts (wA o6 1), jA o6 2]).bind fun o7 =>
 (M_cncmill_Source_Next [I 200, .view kInts (wA o7 1), jA o7 2]).bind fun o8 =>
 (M_cncmill_arc [I (IntKind.i64.wrap (gA o6 0 - 100)), I (IntKind.i64.wrap (gA o7 0 - 100)), I (IntKind.i64.wrap (gA o8 0 - 100)), I (mx x1 1), .view kInts (wA o8 1), jA o8 2]).bind fun o9 =>
 some [jA o9 0, jA o9 1, jA o9 2, jA o9 3, jA o9 4, jA o9 5, jA o9 6, jA o9 7, jA o9 8, jA o9 9, jA o9 10, jA o9 11, jA o9 12, B (bA o9 13), jA o9 14, B (bA o9 15), jA o9 16, jA o9 17, jA o9 18, jA o9 19, jA o9 20, B (bA o9 21)] := by kernel_rfl
def m_cncmill_Arc := mf_cncmill_Arc m_cncmill_arc m_cncmill_Source_Next m_cncmill_From 
theorem sp_cncmill_Arc : SpecOK Try.prog (C_cncmill_Arc_0 m_cncmill_arc m_cncmill_Source_Next m_cncmill_From) := specOK_of rfl ⟨r_cncmill_arc, r_cncmill_Source_Next, r_cncmill_From, trivial⟩
theorem r_cncmill_Arc : RowOK Try.prog (22, spOf sig_cncmill_Arc osig_cncmill_Arc m_cncmill_Arc) := row_of (C := (C_cncmill_Arc_0 m_cncmill_arc m_cncmill_Source_Next m_cncmill_From)) (L := 64) (by kernel_rfl) (FnOK.bare rfl rfl rfl) sp_cncmill_Arc eqOk mixOk (by kernel_rfl) (by kernel_rfl)
def sig_contour_product : Sk := { tmps := [TS.v true [ci, ci, ci], TS.v true [ci, ci, ci]], boxes := [], rows := [] }
def osig_contour_product : Sk := { tmps := [tf [ci]], boxes := [], rows := [] }
def C_contour_product_0 : Cfg := { spec := lookS [], eqOk := eqAll, ownOff := ownOff }
def mf_contour_product : Fn := modelF Try.prog C_contour_product_0 64 56 sig_contour_product osig_contour_product
theorem mf_contour_product_eq (x0 x1 x2 x3 x4 x5 : Int) : mf_contour_product [I x0, I x1, I x2, I x3, I x4, I x5] =
 some [I (IntKind.i64.wrap (IntKind.i64.wrap (IntKind.i64.wrap (x0 * x3) + IntKind.i64.wrap (x1 * x4)) + IntKind.i64.wrap (x2 * x5)))] := by kernel_rfl
def m_contour_product := mf_contour_product 
theorem sp_contour_product : SpecOK Try.prog (C_contour_product_0 ) := specOK_of rfl trivial
theorem r_contour_product : RowOK Try.prog (56, spOf sig_contour_product osig_contour_product m_contour_product) := row_of (C := C_contour_product_0) (L := 64) (by kernel_rfl) (FnOK.bare rfl rfl rfl) sp_contour_product eqOk mixOk (by kernel_rfl) (by kernel_rfl)
def sig_contour_difference : Sk := { tmps := [TS.v true [ci, ci, ci], TS.v true [ci, ci, ci]], boxes := [], rows := [] }
def osig_contour_difference : Sk := { tmps := [TS.v true [ci, ci, ci]], boxes := [], rows := [] }
def C_contour_difference_0 : Cfg := { spec := lookS [], eqOk := eqAll, ownOff := ownOff, unroll := [2] }
def mf_contour_difference : Fn := modelF Try.prog C_contour_difference_0 64 55 sig_contour_difference osig_contour_difference
theorem mf_contour_difference_eq (x0 x1 x2 x3 x4 x5 : Int) : mf_contour_difference [I x0, I x1, I x2, I x3, I x4, I x5] =
 some [I (IntKind.i64.wrap (x0 - x3)), I (IntKind.i64.wrap (x1 - x4)), I (IntKind.i64.wrap (x2 - x5))] := by kernel_rfl
def m_contour_difference := mf_contour_difference 
theorem sp_contour_difference : SpecOK Try.prog (C_contour_difference_0 ) := specOK_of rfl trivial
theorem r_contour_difference : RowOK Try.prog (55, spOf sig_contour_difference osig_contour_difference m_contour_difference) := row_of (C := C_contour_difference_0) (L := 64) (by kernel_rfl) (FnOK.bare rfl rfl rfl) sp_contour_difference eqOk mixOk (by kernel_rfl) (by kernel_rfl)
def sig_contour_OnLine : Sk := { tmps := [TS.v true [ci, ci, ci], TS.v true [ci, ci, ci], TS.v true [ci, ci, ci], tf [ci]], boxes := [], rows := [] }
def osig_contour_OnLine : Sk := { tmps := [tf [CS.bool]], boxes := [], rows := [] }
def C_contour_OnLine_0 (M_wide_Cmp M_contour_product M_contour_difference : Fn) : Cfg := { spec := lookS [(57, spOf sig_wide_Cmp osig_wide_Cmp M_wide_Cmp), (56, spOf sig_contour_product osig_contour_product M_contour_product), (55, spOf sig_contour_difference osig_contour_difference M_contour_difference)], eqOk := eqAll, ownOff := ownOff }
def mf_contour_OnLine (M_wide_Cmp M_contour_product M_contour_difference : Fn) : Fn := modelF Try.prog (C_contour_OnLine_0 M_wide_Cmp M_contour_product M_contour_difference) 64 20 sig_contour_OnLine osig_contour_OnLine
theorem mf_contour_OnLine_eq (M_wide_Cmp M_contour_product M_contour_difference : Fn) (x0 x1 x2 x3 x4 x5 x6 x7 x8 x9 : Int) : mf_contour_OnLine M_wide_Cmp M_contour_product M_contour_difference [I x0, I x1, I x2, I x3, I x4, I x5, I x6, I x7, I x8, I x9] =
 (M_contour_difference [I x3, I x4, I x5, I x0, I x1, I x2]).bind fun o9 =>
 (M_contour_difference [I x6, I x7, I x8, I x0, I x1, I x2]).bind fun o10 =>
 (M_contour_difference [I x6, I x7, I x8, I x3, I x4, I x5]).bind fun o11 =>
 (M_contour_product [jA o9 0, jA o9 1, jA o9 2, jA o10 0, jA o10 1, jA o10 2]).bind fun o12 =>
 (M_contour_product [jA o9 0, jA o9 1, jA o9 2, jA o9 0, jA o9 1, jA o9 2]).bind fun o13 =>
 bif decide (gA o12 0 <= 0) then
 (M_contour_product [jA o10 0, jA o10 1, jA o10 2, jA o10 0, jA o10 1, jA o10 2]).bind fun o14 =>
 some [B (decide (gA o14 0 <= IntKind.i64.wrap (x9 * x9)))]
 else
 bif decide (gA o12 0 >= gA o13 0) then
 (M_contour_product [jA o11 0, jA o11 1, jA o11 2, jA o11 0, jA o11 1, jA o11 2]).bind fun o15 =>
 some [B (decide (gA o15 0 <= IntKind.i64.wrap (x9 * x9)))]
 else
 (M_contour_product [jA o10 0, jA o10 1, jA o10 2, jA o10 0, jA o10 1, jA o10 2]).bind fun o16 =>
 (M_wide_Cmp [I (IntKind.i64.wrap (gA o16 0 - IntKind.i64.wrap (x9 * x9))), jA o13 0, jA o12 0, jA o12 0]).bind fun o17 =>
 some [B (decide (gA o17 0 <= 0))] := by kernel_rfl
def m_contour_OnLine := mf_contour_OnLine m_wide_Cmp m_contour_product m_contour_difference 
theorem sp_contour_OnLine : SpecOK Try.prog (C_contour_OnLine_0 m_wide_Cmp m_contour_product m_contour_difference) := specOK_of rfl ⟨r_wide_Cmp, r_contour_product, r_contour_difference, trivial⟩
theorem r_contour_OnLine : RowOK Try.prog (20, spOf sig_contour_OnLine osig_contour_OnLine m_contour_OnLine) := row_of (C := (C_contour_OnLine_0 m_wide_Cmp m_contour_product m_contour_difference)) (L := 64) (by kernel_rfl) (FnOK.bare rfl rfl rfl) sp_contour_OnLine eqOk mixOk (by kernel_rfl) (by kernel_rfl)
def sig_contour_OnItem : Sk := { tmps := [TS.v true [ci, ci, ci, ci, ci, ci, ci, ci, ci, ci, ci, ci, ci, CS.bool, ci, CS.bool, ci, ci, ci, ci, ci, CS.bool], TS.v true [ci, ci, ci], tf [ci]], boxes := [], rows := [] }
def osig_contour_OnItem : Sk := { tmps := [tf [CS.bool]], boxes := [], rows := [] }
def C_contour_OnItem_0 (M_contour_OnLine M_contour_scaled M_curve_Valid M_contour_OnArc : Fn) : Cfg := { spec := lookS [(20, spOf sig_contour_OnLine osig_contour_OnLine M_contour_OnLine), (68, spOf sig_contour_scaled osig_contour_scaled M_contour_scaled), (66, spOf sig_curve_Valid osig_curve_Valid M_curve_Valid), (26, spOf sig_contour_OnArc osig_contour_OnArc M_contour_OnArc)], eqOk := eqAll, ownOff := ownOff }
def mf_contour_OnItem (M_contour_OnLine M_contour_scaled M_curve_Valid M_contour_OnArc : Fn) : Fn := modelF Try.prog (C_contour_OnItem_0 M_contour_OnLine M_contour_scaled M_curve_Valid M_contour_OnArc) 64 29 sig_contour_OnItem osig_contour_OnItem
theorem mf_contour_OnItem_eq (M_contour_OnLine M_contour_scaled M_curve_Valid M_contour_OnArc : Fn) (x0 x1 x2 x3 x4 x5 x6 x7 x8 x9 x10 x11 x12 : Int) (x13 : Bool) (x14 : Int) (x15 : Bool) (x16 x17 x18 x19 x20 : Int) (x21 : Bool) (x22 x23 x24 x25 : Int) : mf_contour_OnItem M_contour_OnLine M_contour_scaled M_curve_Valid M_contour_OnArc [I x0, I x1, I x2, I x3, I x4, I x5, I x6, I x7, I x8, I x9, I x10, I x11, I x12, B x13, I x14, B x15, I x16, I x17, I x18, I x19, I x20, B x21, I x22, I x23, I x24, I x25] =
 bif x0 == 3 then
 (M_contour_OnArc [I x0, I x1, I x2, I x3, I x4, I x5, I x6, I x7, I x8, I x9, I x10, I x11, I x12, B x13, I x14, B x15, I x16, I x17, I x18, I x19, I x20, B x21, I x22, I x23, I x24, I x25]).bind fun o5 =>
 some [B (bA o5 0)]
 else
 (M_curve_Valid [I x0, I x1, I x2, I x3, I x4, I x5, I x6, I x7, I x8, I x9, I x10, I x11, I x12, B x13, I x14, B x15, I x16, I x17, I x18, I x19, I x20, B x21]).bind fun o6 =>
 bif bA o6 0 then
 (M_contour_scaled [I x2, I x3, I x4]).bind fun o7 =>
 (M_contour_scaled [I x5, I x6, I x7]).bind fun o8 =>
 (M_contour_OnLine [jA o7 0, jA o7 1, jA o7 2, jA o8 0, jA o8 1, jA o8 2, I x22, I x23, I x24, I x25]).bind fun o9 =>
 some [B (bA o9 0)]
 else
 some [B false] := by kernel_rfl
def m_contour_OnItem := mf_contour_OnItem m_contour_OnLine m_contour_scaled m_curve_Valid m_contour_OnArc 
theorem sp_contour_OnItem : SpecOK Try.prog (C_contour_OnItem_0 m_contour_OnLine m_contour_scaled m_curve_Valid m_contour_OnArc) := specOK_of rfl ⟨r_contour_OnLine, r_contour_scaled, r_curve_Valid, r_contour_OnArc, trivial⟩
theorem r_contour_OnItem : RowOK Try.prog (29, spOf sig_contour_OnItem osig_contour_OnItem m_contour_OnItem) := row_of (C := (C_contour_OnItem_0 m_contour_OnLine m_contour_scaled m_curve_Valid m_contour_OnArc)) (L := 64) (by kernel_rfl) (FnOK.bare rfl rfl rfl) sp_contour_OnItem eqOk mixOk (by kernel_rfl) (by kernel_rfl)
abbrev g_cncmill_motion_2 (M_cncmill_Source_Next : Fn) (o20 : List AC) (x3 : Int) (h1_0 h1_1 h1_2 h1_3 h1_4 h1_5 h1_6 h1_7 h1_8 h1_9 h1_10 h1_11 h1_12 h1_13 h1_16 h1_17 h1_20 h1_21 : AC) : Option (List AC) :=
 (M_cncmill_Source_Next [I 60, .view kInts (wA o20 1), jA o20 2]).bind fun o21 =>
 bif x3 == 6 then
 (M_cncmill_Source_Next [I 2, .view kInts (wA o21 1), jA o21 2]).bind fun o22 =>
 some [h1_0, h1_1, h1_2, h1_3, h1_4, h1_5, h1_6, h1_7, h1_8, h1_9, h1_10, h1_11, h1_12, h1_13, I (IntKind.i64.wrap (1 + gA o21 0)), B true, h1_16, h1_17, I 0, I (IntKind.i64.wrap (3 + gA o22 0)), h1_20, h1_21, .view kInts (wA o22 1), jA o22 2]
 else
 some [h1_0, h1_1, h1_2, h1_3, h1_4, h1_5, h1_6, h1_7, h1_8, h1_9, h1_10, h1_11, h1_12, h1_13, I (IntKind.i64.wrap (1 + gA o21 0)), B true, h1_16, h1_17, I 0, I 0, h1_20, h1_21, .view kInts (wA o21 1), jA o21 2]
attribute [go_sem] g_cncmill_motion_2
abbrev g_cncmill_motion_1 (x3 : Int) (M_cncmill_Source_Next : Fn) (h1_0 h1_1 h1_2 h1_3 h1_4 h1_5 h1_6 h1_7 h1_8 h1_9 h1_10 h1_11 h1_12 h1_13 h1_14 h1_15 h1_16 h1_17 h1_18 h1_19 h1_20 h1_21 h1_22 h1_23 : AC) : Option (List AC) :=
 bif x3 == 1 then
 some [h1_0, h1_1, h1_2, h1_3, h1_4, h1_5, h1_6, h1_7, h1_8, h1_9, h1_10, h1_11, h1_12, h1_13, h1_14, h1_15, h1_16, h1_17, h1_18, h1_19, h1_20, h1_21, h1_22, h1_23]
 else
 (M_cncmill_Source_Next [I 5, h1_22, h1_23]).bind fun o19 =>
 bif decide (0 <= gA o19 0) && decide (gA o19 0 < (↑[[I 300000], [I 1], [I 60000], [I 2000000], [I 60000000]].length : Int)) then
 (M_cncmill_Source_Next [I 5, .view kInts (wA o19 1), jA o19 2]).bind fun o20 =>
 bif decide (0 <= gA o20 0) && decide (gA o20 0 < (↑[[I 0], [I 1], [I 2], [I 4], [I 9]].length : Int)) then
 bif x3 == 5 then
 g_cncmill_motion_2 M_cncmill_Source_Next o20 x3 h1_0 h1_1 h1_2 h1_3 h1_4 h1_5 h1_6 h1_7 h1_8 h1_9 h1_10 h1_11 h1_12 h1_13 h1_16 h1_17 h1_20 h1_21
 else
 bif x3 == 6 then
 g_cncmill_motion_2 M_cncmill_Source_Next o20 x3 h1_0 h1_1 h1_2 h1_3 h1_4 h1_5 h1_6 h1_7 h1_8 h1_9 h1_10 h1_11 h1_12 h1_13 h1_16 h1_17 h1_20 h1_21
 else
 bif x3 == 4 then
 some [h1_0, h1_1, h1_2, h1_3, h1_4, h1_5, h1_6, h1_7, h1_8, h1_9, h1_10, h1_11, h1_12, h1_13, I (intOf (nth .dead (nth [] [[I 300000], [I 1], [I 60000], [I 2000000], [I 60000000]] (gA o19 0).toNat) 0)), h1_15, h1_16, h1_17, I 0, h1_19, h1_20, h1_21, .view kInts (wA o20 1), jA o20 2]
 else
 some [h1_0, h1_1, h1_2, h1_3, h1_4, h1_5, h1_6, h1_7, h1_8, h1_9, h1_10, h1_11, h1_12, h1_13, I (intOf (nth .dead (nth [] [[I 300000], [I 1], [I 60000], [I 2000000], [I 60000000]] (gA o19 0).toNat) 0)), h1_15, h1_16, h1_17, I (intOf (nth .dead (nth [] [[I 0], [I 1], [I 2], [I 4], [I 9]] (gA o20 0).toNat) 0)), h1_19, h1_20, h1_21, .view kInts (wA o20 1), jA o20 2]
 else
 none
 else
 none
attribute [go_sem] g_cncmill_motion_1
def sig_curve_Space : Sk := { tmps := [tf [ci], tf [ci], tf [ci], tf [ci]], boxes := [], rows := [] }
def osig_curve_Space : Sk := { tmps := [TS.v true [ci, ci, ci]], boxes := [], rows := [] }
def C_curve_Space_0 (M_curve_axes : Fn) : Cfg := { spec := lookS [(118, spOf sig_curve_axes osig_curve_axes M_curve_axes)], eqOk := eqAll, ownOff := ownOff }
def mf_curve_Space (M_curve_axes : Fn) : Fn := modelF Try.prog (C_curve_Space_0 M_curve_axes) 64 94 sig_curve_Space osig_curve_Space
abbrev g_curve_Space_2 (o1 : List AC) (x2 : Int) (h2_0 h2_1 h2_2 : AC) : Option (List AC) :=
 bif decide (gA o1 2 = (↑0 : Int)) then
 some [I x2, h2_0, h2_1]
 else
 bif decide (gA o1 2 = (↑(0 + 1) : Int)) then
 some [h2_2, I x2, h2_1]
 else
 bif decide (gA o1 2 = (↑(0 + 1 + 1) : Int)) then
 some [h2_2, h2_0, I x2]
 else
 none
attribute [go_sem] g_curve_Space_2
abbrev g_curve_Space_1 (o1 : List AC) (x2 x1 : Int) (h1_0 h1_1 h1_2 : AC) : Option (List AC) :=
 bif decide (gA o1 1 = (↑0 : Int)) then
 g_curve_Space_2 o1 x2 h1_0 h1_1 (I x1)
 else
 bif decide (gA o1 1 = (↑(0 + 1) : Int)) then
 g_curve_Space_2 o1 x2 (I x1) h1_1 h1_2
 else
 bif decide (gA o1 1 = (↑(0 + 1 + 1) : Int)) then
 g_curve_Space_2 o1 x2 h1_0 (I x1) h1_2
 else
 none
attribute [go_sem] g_curve_Space_1
theorem mf_curve_Space_eq (M_curve_axes : Fn) (x0 x1 x2 x3 : Int) : mf_curve_Space M_curve_axes [I x0, I x1, I x2, I x3] =
 (M_curve_axes [I x3]).bind fun o1 =>
 bif bA o1 3 then
 bif decide (gA o1 0 = (↑0 : Int)) then
 g_curve_Space_1 o1 x2 x1 (I 0) (I 0) (I x0)
 else
 bif decide (gA o1 0 = (↑(0 + 1) : Int)) then
 g_curve_Space_1 o1 x2 x1 (I x0) (I 0) (I 0)
 else
 bif decide (gA o1 0 = (↑(0 + 1 + 1) : Int)) then
 g_curve_Space_1 o1 x2 x1 (I 0) (I x0) (I 0)
 else
 none
 else
 some [I 0, I 0, I 0] := by kernel_rfl
def m_curve_Space := mf_curve_Space m_curve_axes 
theorem sp_curve_Space : SpecOK Try.prog (C_curve_Space_0 m_curve_axes) := specOK_of rfl ⟨r_curve_axes, trivial⟩
theorem r_curve_Space : RowOK Try.prog (94, spOf sig_curve_Space osig_curve_Space m_curve_Space) := row_of (C := (C_curve_Space_0 m_curve_axes)) (L := 64) (by kernel_rfl) (FnOK.bare rfl rfl rfl) sp_curve_Space eqOk mixOk (by kernel_rfl) (by kernel_rfl)
def sig_wide_signed : Sk := { tmps := [tf [CS.int .u64], tf [CS.bool]], boxes := [], rows := [] }
def osig_wide_signed : Sk := { tmps := [TS.tup [(false, [ci]), (false, [CS.bool])]], boxes := [], rows := [] }
def C_wide_signed_0 : Cfg := { spec := lookS [], eqOk := eqAll, ownOff := ownOff }
def mf_wide_signed : Fn := modelF Try.prog C_wide_signed_0 64 146 sig_wide_signed osig_wide_signed
theorem mf_wide_signed_eq (x0 : Int) (x1 : Bool) : mf_wide_signed [U x0, B x1] =
 bif x1 then
 bif decide (x0 <= 9223372036854775808) then
 some [I (IntKind.i64.wrap (IntKind.u64.wrap (0 - x0))), B true]
 else
 bif !x1 then
 bif decide (x0 < 9223372036854775808) then
 some [I (IntKind.i64.wrap x0), B true]
 else
 some [I 0, B false]
 else
 some [I 0, B false]
 else
 bif !x1 then
 bif decide (x0 < 9223372036854775808) then
 some [I (IntKind.i64.wrap x0), B true]
 else
 some [I 0, B false]
 else
 some [I 0, B false] := by kernel_rfl
def m_wide_signed := mf_wide_signed 
theorem sp_wide_signed : SpecOK Try.prog (C_wide_signed_0 ) := specOK_of rfl trivial
theorem r_wide_signed : RowOK Try.prog (146, spOf sig_wide_signed osig_wide_signed m_wide_signed) := row_of (C := C_wide_signed_0) (L := 64) (by kernel_rfl) (FnOK.bare rfl rfl rfl) sp_wide_signed eqOk mixOk (by kernel_rfl) (by kernel_rfl)
def sig_wide_grows : Sk := { tmps := [tf [ci], tf [ci], tf [CS.bool], tf [CS.bool]], boxes := [], rows := [] }
def osig_wide_grows : Sk := { tmps := [tf [CS.bool]], boxes := [], rows := [] }
def C_wide_grows_0 : Cfg := { spec := lookS [], eqOk := eqAll, ownOff := ownOff }
def mf_wide_grows : Fn := modelF Try.prog C_wide_grows_0 64 145 sig_wide_grows osig_wide_grows
theorem mf_wide_grows_eq (x0 x1 : Int) (x2 x3 : Bool) : mf_wide_grows [I x0, I x1, B x2, B x3] =
 bif x0 == 0 then
 bif x2 then
 some [B x3]
 else
 some [B false]
 else
 bif x0 == 1 then
 bif x2 then
 some [B !x3]
 else
 some [B false]
 else
 bif decide (x1 > 0) then
 some [B true]
 else
 bif x1 == 0 then
 some [B !x3]
 else
 some [B false] := by kernel_rfl
def m_wide_grows := mf_wide_grows 
theorem sp_wide_grows : SpecOK Try.prog (C_wide_grows_0 ) := specOK_of rfl trivial
theorem r_wide_grows : RowOK Try.prog (145, spOf sig_wide_grows osig_wide_grows m_wide_grows) := row_of (C := C_wide_grows_0) (L := 64) (by kernel_rfl) (FnOK.bare rfl rfl rfl) sp_wide_grows eqOk mixOk (by kernel_rfl) (by kernel_rfl)
def sig_wide_floorRoot : Sk := { tmps := [TS.v true [CS.int .u64, CS.int .u64]], boxes := [], rows := [] }
def osig_wide_floorRoot : Sk := { tmps := [tf [CS.int .u64]], boxes := [], rows := [] }
def C_wide_floorRoot_0 (M_wide_compare M_wide_product : Fn) : Cfg := { spec := lookS [(105, spOf sig_wide_compare osig_wide_compare M_wide_compare), (106, spOf sig_wide_product osig_wide_product M_wide_product)], eqOk := eqAll, ownOff := ownOff }
def sk_wide_floorRoot_3 : Sk := { tmps := [td, tf [CS.ptr 1 0], td, tf [CS.int .u64], tf [CS.int .u64]] ++ dd 16, boxes := [(1, 134, [CS.int .u64, CS.int .u64])], rows := [] }
def ex_wide_floorRoot_3 : List (Ex × Sk) := [(Ex.exit 0, { tmps := [td, td, td, tf [CS.int .u64]] ++ dd 17, boxes := [], rows := [] })]
def st_wide_floorRoot_3 (M_wide_compare M_wide_product : Fn) : Lp := stepL Try.prog (C_wide_floorRoot_0 M_wide_compare M_wide_product) 64 3 (bodyOf Try.prog 172 3) sk_wide_floorRoot_3 ex_wide_floorRoot_3
def C_wide_floorRoot_1 (M_wide_compare M_wide_product : Fn) (N3 : Lp) : Cfg := (C_wide_floorRoot_0 M_wide_compare M_wide_product).loop 3 sk_wide_floorRoot_3 ex_wide_floorRoot_3 N3
def mf_wide_floorRoot (M_wide_compare M_wide_product : Fn) (N3 : Lp) : Fn := modelF Try.prog (C_wide_floorRoot_1 M_wide_compare M_wide_product N3) 64 172 sig_wide_floorRoot osig_wide_floorRoot
theorem st_wide_floorRoot_3_eq (M_wide_compare M_wide_product : Fn) (v0 v1 v2 v3 : Int) : st_wide_floorRoot_3 M_wide_compare M_wide_product [U v0, U v1, U v2, U v3] =
 bif decide (v1 > 0) then
 (M_wide_product [U (IntKind.u64.wrap (↑(BitVec.ofInt IntKind.u64.bits v0 ||| BitVec.ofInt IntKind.u64.bits v1).toNat : Int)), U (IntKind.u64.wrap (↑(BitVec.ofInt IntKind.u64.bits v0 ||| BitVec.ofInt IntKind.u64.bits v1).toNat : Int))]).bind fun o3 =>
 (M_wide_compare [U (gA o3 0), U (gA o3 1), U v2, U v3]).bind fun o4 =>
 bif decide (gA o4 0 <= 0) then
 some (0, [U (IntKind.u64.wrap (↑(BitVec.ofInt IntKind.u64.bits v0 ||| BitVec.ofInt IntKind.u64.bits v1).toNat : Int)), U (v1.fdiv (2 ^ min (Int.toNat 1) IntKind.u64.bits)), U v2, U v3])
 else
 some (0, [U v0, U (v1.fdiv (2 ^ min (Int.toNat 1) IntKind.u64.bits)), U v2, U v3])
 else
 some (1, [U v0]) := by kernel_rfl
theorem mf_wide_floorRoot_eq (M_wide_compare M_wide_product : Fn) (N3 : Lp) (x0 x1 : Int) : mf_wide_floorRoot M_wide_compare M_wide_product N3 [U x0, U x1] =
 (N3 [U 0, U 9223372036854775808, U x0, U x1]).bind fun o5 =>
 bif o5.1.beq 1 then
 some [U (gA o5.2 0)]
 else
 none := by kernel_rfl
def l_wide_floorRoot_3 := loopC (st_wide_floorRoot_3 m_wide_compare m_wide_product )
def m_wide_floorRoot := mf_wide_floorRoot m_wide_compare m_wide_product l_wide_floorRoot_3
theorem sp_wide_floorRoot : SpecOK Try.prog (C_wide_floorRoot_0 m_wide_compare m_wide_product) := specOK_of rfl ⟨r_wide_compare, r_wide_product, trivial⟩
theorem r_wide_floorRoot : RowOK Try.prog (172, spOf sig_wide_floorRoot osig_wide_floorRoot m_wide_floorRoot) := row_of (C := (C_wide_floorRoot_1 m_wide_compare m_wide_product l_wide_floorRoot_3)) (L := 64) (by kernel_rfl) ((FnOK.bare rfl rfl rfl).loop sp_wide_floorRoot eqOk mixOk (by kernel_rfl) (by kernel_rfl)) sp_wide_floorRoot eqOk mixOk (by kernel_rfl) (by kernel_rfl)
def sig_bits_Div64 : Sk := { tmps := [tf [CS.int .u64], tf [CS.int .u64], tf [CS.int .u64]], boxes := [], rows := [] }
def osig_bits_Div64 : Sk := { tmps := [TS.tup [(false, [CS.int .u64]), (false, [CS.int .u64])]], boxes := [], rows := [] }
def C_bits_Div64_0 (M_bits_LeadingZeros64 : Fn) : Cfg := { spec := lookS [(164, spOf sig_bits_LeadingZeros64 osig_bits_LeadingZeros64 M_bits_LeadingZeros64)], eqOk := eqAll, ownOff := ownOff }
def sk_bits_Div64_17 : Sk := { tmps := [td, td, tf [CS.int .u64], td, td, td, td, td, tf [CS.int .u64], tf [CS.int .u64], tf [CS.int .u64], tf [CS.int .u64], td, tf [CS.int .u64], tf [CS.int .u64], tf [CS.int .u64], tf [CS.int .u64]] ++ dd 118, boxes := [], rows := [] }
def ex_bits_Div64_17 : List (Ex × Sk) := [(Ex.exit 0, { tmps := [td, td, tf [CS.int .u64], td, td, td, td, td, tf [CS.int .u64], tf [CS.int .u64], tf [CS.int .u64], tf [CS.int .u64], td, tf [CS.int .u64], tf [CS.int .u64], tf [CS.int .u64]] ++ dd 119, boxes := [], rows := [] })]
def st_bits_Div64_17 (M_bits_LeadingZeros64 : Fn) : Lp := stepL Try.prog (C_bits_Div64_0 M_bits_LeadingZeros64) 64 17 (bodyOf Try.prog 144 17) sk_bits_Div64_17 ex_bits_Div64_17
def C_bits_Div64_1 (M_bits_LeadingZeros64 : Fn) (N17 : Lp) : Cfg := (C_bits_Div64_0 M_bits_LeadingZeros64).loop 17 sk_bits_Div64_17 ex_bits_Div64_17 N17
def sk_bits_Div64_24 : Sk := { tmps := [td, td, tf [CS.int .u64], td, td, td, td, td, tf [CS.int .u64], tf [CS.int .u64], tf [CS.int .u64], td, td, td, tf [CS.int .u64], tf [CS.int .u64], tf [CS.int .u64], tf [CS.int .u64], tf [CS.int .u64]] ++ dd 116, boxes := [], rows := [] }
def ex_bits_Div64_24 : List (Ex × Sk) := [(Ex.exit 2, { tmps := [td, td, tf [CS.int .u64], td, td, td, td, td, tf [CS.int .u64], td, td, td, td, td, tf [CS.int .u64], tf [CS.int .u64], td, tf [CS.int .u64], tf [CS.int .u64]] ++ dd 116, boxes := [], rows := [] })]
def st_bits_Div64_24 (M_bits_LeadingZeros64 : Fn) (N17 : Lp) : Lp := stepL Try.prog (C_bits_Div64_1 M_bits_LeadingZeros64 N17) 64 24 (bodyOf Try.prog 144 24) sk_bits_Div64_24 ex_bits_Div64_24
def C_bits_Div64_2 (M_bits_LeadingZeros64 : Fn) (N17 N24 : Lp) : Cfg := (C_bits_Div64_1 M_bits_LeadingZeros64 N17).loop 24 sk_bits_Div64_24 ex_bits_Div64_24 N24
def mf_bits_Div64 (M_bits_LeadingZeros64 : Fn) (N17 N24 : Lp) : Fn := modelF Try.prog (C_bits_Div64_2 M_bits_LeadingZeros64 N17 N24) 64 144 sig_bits_Div64 osig_bits_Div64
theorem st_bits_Div64_17_eq (M_bits_LeadingZeros64 : Fn) (v0 v1 v2 v3 v4 v5 v6 v7 v8 : Int) : st_bits_Div64_17 M_bits_LeadingZeros64 [U v0, U v1, U v2, U v3, U v4, U v5, U v6, U v7, U v8] =
 bif decide (v7 >= 4294967296) then
 bif decide (IntKind.u64.wrap (v8 + v2) >= 4294967296) then
 some (1, [U v0, U v1, U v2, U v3, U v4, U v5, U v6, U (IntKind.u64.wrap (v7 - 1))])
 else
 some (0, [U v0, U v1, U v2, U v3, U v4, U v5, U v6, U (IntKind.u64.wrap (v7 - 1)), U (IntKind.u64.wrap (v8 + v2))])
 else
 bif decide (IntKind.u64.wrap (v7 * v3) > IntKind.u64.wrap (IntKind.u64.wrap (4294967296 * v8) + v5)) then
 bif decide (IntKind.u64.wrap (v8 + v2) >= 4294967296) then
 some (1, [U v0, U v1, U v2, U v3, U v4, U v5, U v6, U (IntKind.u64.wrap (v7 - 1))])
 else
 some (0, [U v0, U v1, U v2, U v3, U v4, U v5, U v6, U (IntKind.u64.wrap (v7 - 1)), U (IntKind.u64.wrap (v8 + v2))])
 else
 some (1, [U v0, U v1, U v2, U v3, U v4, U v5, U v6, U v7]) := by kernel_rfl
theorem st_bits_Div64_24_eq (M_bits_LeadingZeros64 : Fn) (N17 : Lp) (v0 v1 v2 v3 v4 v5 v6 v7 v8 : Int) : st_bits_Div64_24 M_bits_LeadingZeros64 N17 [U v0, U v1, U v2, U v3, U v4, U v5, U v6, U v7, U v8] =
 bif decide (v8 >= 4294967296) then
 bif decide (IntKind.u64.wrap (v6 + v2) >= 4294967296) then
 some (1, [U v0, U v1, U v4, U v5, U v7, U (IntKind.u64.wrap (v8 - 1))])
 else
 some (0, [U v0, U v1, U v2, U v3, U v4, U v5, U (IntKind.u64.wrap (v6 + v2)), U v7, U (IntKind.u64.wrap (v8 - 1))])
 else
 bif decide (IntKind.u64.wrap (v8 * v3) > IntKind.u64.wrap (IntKind.u64.wrap (4294967296 * v6) + v4)) then
 bif decide (IntKind.u64.wrap (v6 + v2) >= 4294967296) then
 some (1, [U v0, U v1, U v4, U v5, U v7, U (IntKind.u64.wrap (v8 - 1))])
 else
 some (0, [U v0, U v1, U v2, U v3, U v4, U v5, U (IntKind.u64.wrap (v6 + v2)), U v7, U (IntKind.u64.wrap (v8 - 1))])
 else
 some (1, [U v0, U v1, U v4, U v5, U v7, U v8]) := by kernel_rfl
theorem mf_bits_Div64_eq (M_bits_LeadingZeros64 : Fn) (N17 N24 : Lp) (x0 x1 x2 : Int) : mf_bits_Div64 M_bits_LeadingZeros64 N17 N24 [U x0, U x1, U x2] =
 bif x2 == 0 then
 none
 else
 bif decide (x2 <= x0) then
 none
 else
 bif x0 == 0 then
 bif decide (x2 = 0) then
 none
 else
 bif decide (x2 = 0) then
 none
 else
 some [U (IntKind.u64.wrap (x1.tdiv x2)), U (x1.tmod x2)]
 else
 (M_bits_LeadingZeros64 [U x2]).bind fun o6 =>
 bif decide (IntKind.u64.wrap (gA o6 0) < 0) then
 none
 else
 bif decide (IntKind.u64.wrap (gA o6 0) < 0) then
 none
 else
 bif decide (IntKind.u64.wrap (64 - IntKind.u64.wrap (gA o6 0)) < 0) then
 none
 else
 bif decide (IntKind.u64.wrap (gA o6 0) < 0) then
 none
 else
 bif decide ((IntKind.u64.wrap (x2 * 2 ^ min (IntKind.u64.wrap (gA o6 0)).toNat IntKind.u64.bits)).fdiv (2 ^ min (Int.toNat 32) IntKind.u64.bits) = 0) then
 none
 else
 (N17 [U (IntKind.u64.wrap (x2 * 2 ^ min (IntKind.u64.wrap (gA o6 0)).toNat IntKind.u64.bits)), U (IntKind.u64.wrap (gA o6 0)), U ((IntKind.u64.wrap (x2 * 2 ^ min (IntKind.u64.wrap (gA o6 0)).toNat IntKind.u64.bits)).fdiv (2 ^ min (Int.toNat 32) IntKind.u64.bits)), U (IntKind.u64.wrap (↑(BitVec.ofInt IntKind.u64.bits (IntKind.u64.wrap (x2 * 2 ^ min (IntKind.u64.wrap (gA o6 0)).toNat IntKind.u64.bits)) &&& BitVec.ofInt IntKind.u64.bits 4294967295).toNat : Int)), U (IntKind.u64.wrap (↑(BitVec.ofInt IntKind.u64.bits (IntKind.u64.wrap (x0 * 2 ^ min (IntKind.u64.wrap (gA o6 0)).toNat IntKind.u64.bits)) ||| BitVec.ofInt IntKind.u64.bits (x1.fdiv (2 ^ min (IntKind.u64.wrap (64 - IntKind.u64.wrap (gA o6 0))).toNat IntKind.u64.bits))).toNat : Int)), U ((IntKind.u64.wrap (x1 * 2 ^ min (IntKind.u64.wrap (gA o6 0)).toNat IntKind.u64.bits)).fdiv (2 ^ min (Int.toNat 32) IntKind.u64.bits)), U (IntKind.u64.wrap (↑(BitVec.ofInt IntKind.u64.bits (IntKind.u64.wrap (x1 * 2 ^ min (IntKind.u64.wrap (gA o6 0)).toNat IntKind.u64.bits)) &&& BitVec.ofInt IntKind.u64.bits 4294967295).toNat : Int)), U (IntKind.u64.wrap ((IntKind.u64.wrap (↑(BitVec.ofInt IntKind.u64.bits (IntKind.u64.wrap (x0 * 2 ^ min (IntKind.u64.wrap (gA o6 0)).toNat IntKind.u64.bits)) ||| BitVec.ofInt IntKind.u64.bits (x1.fdiv (2 ^ min (IntKind.u64.wrap (64 - IntKind.u64.wrap (gA o6 0))).toNat IntKind.u64.bits))).toNat : Int)).tdiv ((IntKind.u64.wrap (x2 * 2 ^ min (IntKind.u64.wrap (gA o6 0)).toNat IntKind.u64.bits)).fdiv (2 ^ min (Int.toNat 32) IntKind.u64.bits)))), U (IntKind.u64.wrap (IntKind.u64.wrap (↑(BitVec.ofInt IntKind.u64.bits (IntKind.u64.wrap (x0 * 2 ^ min (IntKind.u64.wrap (gA o6 0)).toNat IntKind.u64.bits)) ||| BitVec.ofInt IntKind.u64.bits (x1.fdiv (2 ^ min (IntKind.u64.wrap (64 - IntKind.u64.wrap (gA o6 0))).toNat IntKind.u64.bits))).toNat : Int) - IntKind.u64.wrap (IntKind.u64.wrap ((IntKind.u64.wrap (↑(BitVec.ofInt IntKind.u64.bits (IntKind.u64.wrap (x0 * 2 ^ min (IntKind.u64.wrap (gA o6 0)).toNat IntKind.u64.bits)) ||| BitVec.ofInt IntKind.u64.bits (x1.fdiv (2 ^ min (IntKind.u64.wrap (64 - IntKind.u64.wrap (gA o6 0))).toNat IntKind.u64.bits))).toNat : Int)).tdiv ((IntKind.u64.wrap (x2 * 2 ^ min (IntKind.u64.wrap (gA o6 0)).toNat IntKind.u64.bits)).fdiv (2 ^ min (Int.toNat 32) IntKind.u64.bits))) * (IntKind.u64.wrap (x2 * 2 ^ min (IntKind.u64.wrap (gA o6 0)).toNat IntKind.u64.bits)).fdiv (2 ^ min (Int.toNat 32) IntKind.u64.bits))))]).bind fun o7 =>
 bif o7.1.beq 1 then
 bif decide (gA o7.2 2 = 0) then
 none
 else
 (N24 [U (gA o7.2 0), U (gA o7.2 1), U (gA o7.2 2), U (gA o7.2 3), U (gA o7.2 6), U (gA o7.2 7), U (IntKind.u64.wrap (IntKind.u64.wrap (IntKind.u64.wrap (IntKind.u64.wrap (gA o7.2 4 * 4294967296) + gA o7.2 5) - IntKind.u64.wrap (gA o7.2 7 * gA o7.2 0)) - IntKind.u64.wrap (IntKind.u64.wrap ((IntKind.u64.wrap (IntKind.u64.wrap (IntKind.u64.wrap (gA o7.2 4 * 4294967296) + gA o7.2 5) - IntKind.u64.wrap (gA o7.2 7 * gA o7.2 0))).tdiv (gA o7.2 2)) * gA o7.2 2))), U (IntKind.u64.wrap (IntKind.u64.wrap (IntKind.u64.wrap (gA o7.2 4 * 4294967296) + gA o7.2 5) - IntKind.u64.wrap (gA o7.2 7 * gA o7.2 0))), U (IntKind.u64.wrap ((IntKind.u64.wrap (IntKind.u64.wrap (IntKind.u64.wrap (gA o7.2 4 * 4294967296) + gA o7.2 5) - IntKind.u64.wrap (gA o7.2 7 * gA o7.2 0))).tdiv (gA o7.2 2)))]).bind fun o8 =>
 bif o8.1.beq 1 then
 bif decide (gA o8.2 1 < 0) then
 none
 else
 some [U (IntKind.u64.wrap (IntKind.u64.wrap (gA o8.2 3 * 4294967296) + gA o8.2 5)), U ((IntKind.u64.wrap (IntKind.u64.wrap (IntKind.u64.wrap (gA o8.2 4 * 4294967296) + gA o8.2 2) - IntKind.u64.wrap (gA o8.2 5 * gA o8.2 0))).fdiv (2 ^ min (gA o8.2 1).toNat IntKind.u64.bits))]
 else
 none
 else
 none := by kernel_rfl
def l_bits_Div64_17 := loopC (st_bits_Div64_17 m_bits_LeadingZeros64 )
def l_bits_Div64_24 := loopC (st_bits_Div64_24 m_bits_LeadingZeros64 l_bits_Div64_17)
def m_bits_Div64 := mf_bits_Div64 m_bits_LeadingZeros64 l_bits_Div64_17 l_bits_Div64_24
theorem sp_bits_Div64 : SpecOK Try.prog (C_bits_Div64_0 m_bits_LeadingZeros64) := specOK_of rfl ⟨r_bits_LeadingZeros64, trivial⟩
theorem r_bits_Div64 : RowOK Try.prog (144, spOf sig_bits_Div64 osig_bits_Div64 m_bits_Div64) := row_of (C := (C_bits_Div64_2 m_bits_LeadingZeros64 l_bits_Div64_17 l_bits_Div64_24)) (L := 64) (by kernel_rfl) (((FnOK.bare rfl rfl rfl).loop sp_bits_Div64 eqOk mixOk (by kernel_rfl) (by kernel_rfl)).loop sp_bits_Div64 eqOk mixOk (by kernel_rfl) (by kernel_rfl)) sp_bits_Div64 eqOk mixOk (by kernel_rfl) (by kernel_rfl)
def sig_wide_quotient : Sk := { tmps := [TS.v true [CS.int .u64, CS.int .u64], tf [CS.int .u64]], boxes := [], rows := [] }
def osig_wide_quotient : Sk := { tmps := [TS.tup [(true, [CS.int .u64, CS.int .u64]), (false, [CS.bool])]], boxes := [], rows := [] }
def C_wide_quotient_0 (M_bits_Div64 : Fn) : Cfg := { spec := lookS [(144, spOf sig_bits_Div64 osig_bits_Div64 M_bits_Div64)], eqOk := eqAll, ownOff := ownOff }
def mf_wide_quotient (M_bits_Div64 : Fn) : Fn := modelF Try.prog (C_wide_quotient_0 M_bits_Div64) 64 184 sig_wide_quotient osig_wide_quotient
theorem mf_wide_quotient_eq (M_bits_Div64 : Fn) (x0 x1 x2 : Int) : mf_wide_quotient M_bits_Div64 [U x0, U x1, U x2] =
 (M_bits_Div64 [U 0, U x0, U x2]).bind fun o2 =>
 (M_bits_Div64 [U (gA o2 1), U x1, U x2]).bind fun o3 =>
 some [U (gA o2 0), U (gA o3 0), B (decide (gA o3 1 > 0))] := by kernel_rfl
def m_wide_quotient := mf_wide_quotient m_bits_Div64 
theorem sp_wide_quotient : SpecOK Try.prog (C_wide_quotient_0 m_bits_Div64) := specOK_of rfl ⟨r_bits_Div64, trivial⟩
theorem r_wide_quotient : RowOK Try.prog (184, spOf sig_wide_quotient osig_wide_quotient m_wide_quotient) := row_of (C := (C_wide_quotient_0 m_bits_Div64)) (L := 64) (by kernel_rfl) (FnOK.bare rfl rfl rfl) sp_wide_quotient eqOk mixOk (by kernel_rfl) (by kernel_rfl)
def sig_wide_known : Sk := { tmps := [tf [ci]], boxes := [], rows := [] }
def osig_wide_known : Sk := { tmps := [tf [CS.bool]], boxes := [], rows := [] }
def C_wide_known_0 : Cfg := { spec := lookS [], eqOk := eqAll, ownOff := ownOff }
def mf_wide_known : Fn := modelF Try.prog C_wide_known_0 64 143 sig_wide_known osig_wide_known
theorem mf_wide_known_eq (x0 : Int) : mf_wide_known [I x0] =
 bif x0 == 0 then
 some [B true]
 else
 bif x0 == 1 then
 some [B true]
 else
 some [B (x0 == 2)] := by kernel_rfl
def m_wide_known := mf_wide_known 
theorem sp_wide_known : SpecOK Try.prog (C_wide_known_0 ) := specOK_of rfl trivial
theorem r_wide_known : RowOK Try.prog (143, spOf sig_wide_known osig_wide_known m_wide_known) := row_of (C := C_wide_known_0) (L := 64) (by kernel_rfl) (FnOK.bare rfl rfl rfl) sp_wide_known eqOk mixOk (by kernel_rfl) (by kernel_rfl)
def sig_wide_Over : Sk := { tmps := [tf [ci], tf [ci], tf [ci], tf [ci]], boxes := [], rows := [] }
def osig_wide_Over : Sk := { tmps := [TS.tup [(false, [ci]), (false, [CS.bool])]], boxes := [], rows := [] }
def C_wide_Over_0 (M_wide_signed M_wide_grows M_wide_sign M_wide_floorRoot M_wide_quotient M_wide_product M_wide_known M_wide_size : Fn) : Cfg := { spec := lookS [(146, spOf sig_wide_signed osig_wide_signed M_wide_signed), (145, spOf sig_wide_grows osig_wide_grows M_wide_grows), (104, spOf sig_wide_sign osig_wide_sign M_wide_sign), (172, spOf sig_wide_floorRoot osig_wide_floorRoot M_wide_floorRoot), (184, spOf sig_wide_quotient osig_wide_quotient M_wide_quotient), (106, spOf sig_wide_product osig_wide_product M_wide_product), (143, spOf sig_wide_known osig_wide_known M_wide_known), (107, spOf sig_wide_size osig_wide_size M_wide_size)], eqOk := eqAll, ownOff := ownOff }
def mf_wide_Over (M_wide_signed M_wide_grows M_wide_sign M_wide_floorRoot M_wide_quotient M_wide_product M_wide_known M_wide_size : Fn) : Fn := modelF Try.prog (C_wide_Over_0 M_wide_signed M_wide_grows M_wide_sign M_wide_floorRoot M_wide_quotient M_wide_product M_wide_known M_wide_size) 64 175 sig_wide_Over osig_wide_Over
abbrev g_wide_Over_1 (M_wide_grows : Fn) (x3 : Int) (M_wide_signed : Fn) (o42 : List AC) (h1_0 : Bool) (h1_1 h1_2 h1_3 h1_4 : AC) : Option (List AC) :=
 bif h1_0 then
 (M_wide_grows [I x3, h1_1, B true, h1_2]).bind fun o44 =>
 bif bA o44 0 then
 (M_wide_signed [U (IntKind.u64.wrap (IntKind.u64.wrap ((gA o42 0).tdiv 2) + 1)), h1_2]).bind fun o45 =>
 some [jA o45 0, B (bA o45 1)]
 else
 (M_wide_signed [U (IntKind.u64.wrap ((gA o42 0).tdiv 2)), h1_2]).bind fun o46 =>
 some [jA o46 0, B (bA o46 1)]
 else
 (M_wide_grows [I x3, h1_3, h1_4, h1_2]).bind fun o47 =>
 bif bA o47 0 then
 (M_wide_signed [U (IntKind.u64.wrap (IntKind.u64.wrap ((gA o42 0).tdiv 2) + 1)), h1_2]).bind fun o48 =>
 some [jA o48 0, B (bA o48 1)]
 else
 (M_wide_signed [U (IntKind.u64.wrap ((gA o42 0).tdiv 2)), h1_2]).bind fun o49 =>
 some [jA o49 0, B (bA o49 1)]
attribute [go_sem] g_wide_Over_1
theorem mf_wide_Over_eq (M_wide_signed M_wide_grows M_wide_sign M_wide_floorRoot M_wide_quotient M_wide_product M_wide_known M_wide_size : Fn) (x0 x1 x2 x3 : Int) : mf_wide_Over M_wide_signed M_wide_grows M_wide_sign M_wide_floorRoot M_wide_quotient M_wide_product M_wide_known M_wide_size [I x0, I x1, I x2, I x3] =
 (M_wide_size [I x0]).bind fun o35 =>
 bif decide (gA o35 0 > 2147483648) then
 some [I 0, B false]
 else
 (M_wide_size [I x1]).bind fun o36 =>
 bif decide (gA o36 0 > 2147483648) then
 some [I 0, B false]
 else
 bif decide (x2 < 1) then
 some [I 0, B false]
 else
 bif decide (x2 > 4611686018427387904) then
 some [I 0, B false]
 else
 (M_wide_known [I x3]).bind fun o37 =>
 bif !bA o37 0 then
 some [I 0, B false]
 else
 (M_wide_size [I x0]).bind fun o38 =>
 (M_wide_size [I x1]).bind fun o39 =>
 (M_wide_product [U (IntKind.u64.wrap (2 * IntKind.u64.wrap (gA o38 0 * gA o39 0))), U (IntKind.u64.wrap (2 * IntKind.u64.wrap (gA o38 0 * gA o39 0)))]).bind fun o40 =>
 (M_wide_quotient [U (gA o40 0), U (gA o40 1), U (IntKind.u64.wrap x2)]).bind fun o41 =>
 (M_wide_floorRoot [U (gA o41 0), U (gA o41 1)]).bind fun o42 =>
 bif bA o41 2 then
 (M_wide_sign [I x0, I x1]).bind fun o43 =>
 g_wide_Over_1 M_wide_grows x3 M_wide_signed o42 ((gA o42 0).tmod 2 == 1) (I 1) (B (decide (gA o43 0 < 0))) (I (-1)) (B true)
 else
 (M_wide_product [U (gA o42 0), U (gA o42 0)]).bind fun o50 =>
 (M_wide_sign [I x0, I x1]).bind fun o51 =>
 bif (gA o42 0).tmod 2 == 1 then
 bif !(gA o50 0 == gA o41 0 && (gA o50 1 == gA o41 1 && true)) then
 g_wide_Over_1 M_wide_grows x3 M_wide_signed o42 (!(gA o50 0 == gA o41 0 && (gA o50 1 == gA o41 1 && true))) (I 1) (B (decide (gA o51 0 < 0))) (I 1) (B ((gA o42 0).tmod 2 == 1))
 else
 g_wide_Over_1 M_wide_grows x3 M_wide_signed o42 (!(gA o50 0 == gA o41 0 && (gA o50 1 == gA o41 1 && true))) (I 0) (B (decide (gA o51 0 < 0))) (I 0) (B ((gA o42 0).tmod 2 == 1))
 else
 g_wide_Over_1 M_wide_grows x3 M_wide_signed o42 (!(gA o50 0 == gA o41 0 && (gA o50 1 == gA o41 1 && true))) (I (-1)) (B (decide (gA o51 0 < 0))) (I (-1)) (B ((gA o42 0).tmod 2 == 1)) := by kernel_rfl
def m_wide_Over := mf_wide_Over m_wide_signed m_wide_grows m_wide_sign m_wide_floorRoot m_wide_quotient m_wide_product m_wide_known m_wide_size 
theorem sp_wide_Over : SpecOK Try.prog (C_wide_Over_0 m_wide_signed m_wide_grows m_wide_sign m_wide_floorRoot m_wide_quotient m_wide_product m_wide_known m_wide_size) := specOK_of rfl ⟨r_wide_signed, r_wide_grows, r_wide_sign, r_wide_floorRoot, r_wide_quotient, r_wide_product, r_wide_known, r_wide_size, trivial⟩
theorem r_wide_Over : RowOK Try.prog (175, spOf sig_wide_Over osig_wide_Over m_wide_Over) := row_of (C := (C_wide_Over_0 m_wide_signed m_wide_grows m_wide_sign m_wide_floorRoot m_wide_quotient m_wide_product m_wide_known m_wide_size)) (L := 64) (by kernel_rfl) (FnOK.bare rfl rfl rfl) sp_wide_Over eqOk mixOk (by kernel_rfl) (by kernel_rfl)
def sig_curve_Middle : Sk := { tmps := [TS.v true [ci, ci, ci, ci], TS.v true [ci, ci, ci, ci], tf [ci], tf [CS.bool]], boxes := [], rows := [] }
def osig_curve_Middle : Sk := { tmps := [TS.tup [(true, [ci, ci, ci, ci]), (false, [CS.bool])]], boxes := [], rows := [] }
def C_curve_Middle_0 (M_wide_Over M_curve_cross M_curve_dot : Fn) : Cfg := { spec := lookS [(175, spOf sig_wide_Over osig_wide_Over M_wide_Over), (122, spOf sig_curve_cross osig_curve_cross M_curve_cross), (120, spOf sig_curve_dot osig_curve_dot M_curve_dot)], eqOk := eqAll, ownOff := ownOff }
def mf_curve_Middle (M_wide_Over M_curve_cross M_curve_dot : Fn) : Fn := modelF Try.prog (C_curve_Middle_0 M_wide_Over M_curve_cross M_curve_dot) 64 158 sig_curve_Middle osig_curve_Middle
abbrev g_curve_Middle_3 (M_wide_Over : Fn) (h1_2 : AC) (x2 x6 : Int) (h1_3 h1_4 : AC) (x3 x7 : Int) : Option (List AC) :=
 (M_wide_Over [h1_2, I ((IntKind.i64.wrap (IntKind.i64.wrap (x2 + x6) + 1)).fdiv (2 ^ min (Int.toNat 1) IntKind.i64.bits)), h1_3, I 2]).bind fun o36 =>
 (M_wide_Over [h1_4, I ((IntKind.i64.wrap (IntKind.i64.wrap (x2 + x6) + 1)).fdiv (2 ^ min (Int.toNat 1) IntKind.i64.bits)), h1_3, I 2]).bind fun o37 =>
 some [jA o36 0, jA o37 0, I ((IntKind.i64.wrap (IntKind.i64.wrap (x2 + x6) + 1)).fdiv (2 ^ min (Int.toNat 1) IntKind.i64.bits)), I ((IntKind.i64.wrap (IntKind.i64.wrap (x3 + x7) + 1)).fdiv (2 ^ min (Int.toNat 1) IntKind.i64.bits)), B true]
attribute [go_sem] g_curve_Middle_3
abbrev g_curve_Middle_1 (M_wide_Over : Fn) (x2 x6 x3 x7 : Int) (h1_0 h1_1 : Bool) (h1_2 h1_3 h1_4 : AC) : Option (List AC) :=
 bif h1_0 then
 bif h1_1 then
 some [I 0, I 0, I 0, I 0, B false]
 else
 g_curve_Middle_3 M_wide_Over h1_2 x2 x6 h1_3 h1_4 x3 x7
 else
 g_curve_Middle_3 M_wide_Over h1_2 x2 x6 h1_3 h1_4 x3 x7
attribute [go_sem] g_curve_Middle_1
abbrev g_curve_Middle_2 (x9 : Bool) (M_wide_Over : Fn) (x2 x6 x3 x7 x0 x1 : Int) (M_curve_dot : Fn) (x4 x5 x8 : Int) (M_curve_cross : Fn) : Option (List AC) :=
 bif x9 then
 g_curve_Middle_1 M_wide_Over x2 x6 x3 x7 (IntKind.i64.wrap (0 - x0) == 0) (IntKind.i64.wrap (0 - x1) == 0) (I (IntKind.i64.wrap (0 - x0))) (I (IntKind.i64.wrap (IntKind.i64.wrap (IntKind.i64.wrap (0 - x0) * IntKind.i64.wrap (0 - x0)) + IntKind.i64.wrap (IntKind.i64.wrap (0 - x1) * IntKind.i64.wrap (0 - x1))))) (I (IntKind.i64.wrap (0 - x1)))
 else
 (M_curve_dot [I x0, I x1, I x2, I x3, I x4, I x5, I x6, I x7]).bind fun o40 =>
 bif decide (gA o40 0 <= 0) then
 g_curve_Middle_1 M_wide_Over x2 x6 x3 x7 (IntKind.i64.wrap (x8 * IntKind.i64.wrap (x5 - x1)) == 0) (IntKind.i64.wrap (x8 * IntKind.i64.wrap (x0 - x4)) == 0) (I (IntKind.i64.wrap (x8 * IntKind.i64.wrap (x5 - x1)))) (I (IntKind.i64.wrap (IntKind.i64.wrap (IntKind.i64.wrap (x8 * IntKind.i64.wrap (x5 - x1)) * IntKind.i64.wrap (x8 * IntKind.i64.wrap (x5 - x1))) + IntKind.i64.wrap (IntKind.i64.wrap (x8 * IntKind.i64.wrap (x0 - x4)) * IntKind.i64.wrap (x8 * IntKind.i64.wrap (x0 - x4)))))) (I (IntKind.i64.wrap (x8 * IntKind.i64.wrap (x0 - x4))))
 else
 (M_curve_cross [I x0, I x1, I x2, I x3, I x4, I x5, I x6, I x7]).bind fun o45 =>
 bif decide (IntKind.i64.wrap (gA o45 0 * x8) <= 0) then
 g_curve_Middle_1 M_wide_Over x2 x6 x3 x7 (IntKind.i64.wrap (0 - IntKind.i64.wrap (x0 + x4)) == 0) (IntKind.i64.wrap (0 - IntKind.i64.wrap (x1 + x5)) == 0) (I (IntKind.i64.wrap (0 - IntKind.i64.wrap (x0 + x4)))) (I (IntKind.i64.wrap (IntKind.i64.wrap (IntKind.i64.wrap (0 - IntKind.i64.wrap (x0 + x4)) * IntKind.i64.wrap (0 - IntKind.i64.wrap (x0 + x4))) + IntKind.i64.wrap (IntKind.i64.wrap (0 - IntKind.i64.wrap (x1 + x5)) * IntKind.i64.wrap (0 - IntKind.i64.wrap (x1 + x5)))))) (I (IntKind.i64.wrap (0 - IntKind.i64.wrap (x1 + x5))))
 else
 g_curve_Middle_1 M_wide_Over x2 x6 x3 x7 (IntKind.i64.wrap (x0 + x4) == 0) (IntKind.i64.wrap (x1 + x5) == 0) (I (IntKind.i64.wrap (x0 + x4))) (I (IntKind.i64.wrap (IntKind.i64.wrap (IntKind.i64.wrap (x0 + x4) * IntKind.i64.wrap (x0 + x4)) + IntKind.i64.wrap (IntKind.i64.wrap (x1 + x5) * IntKind.i64.wrap (x1 + x5))))) (I (IntKind.i64.wrap (x1 + x5)))
attribute [go_sem] g_curve_Middle_2
theorem mf_curve_Middle_eq (M_wide_Over M_curve_cross M_curve_dot : Fn) (x0 x1 x2 x3 x4 x5 x6 x7 x8 : Int) (x9 : Bool) : mf_curve_Middle M_wide_Over M_curve_cross M_curve_dot [I x0, I x1, I x2, I x3, I x4, I x5, I x6, I x7, I x8, B x9] =
 bif x8 != 1 then
 bif x8 != -1 then
 some [I 0, I 0, I 0, I 0, B false]
 else
 g_curve_Middle_2 x9 M_wide_Over x2 x6 x3 x7 x0 x1 M_curve_dot x4 x5 x8 M_curve_cross
 else
 g_curve_Middle_2 x9 M_wide_Over x2 x6 x3 x7 x0 x1 M_curve_dot x4 x5 x8 M_curve_cross := by kernel_rfl
def m_curve_Middle := mf_curve_Middle m_wide_Over m_curve_cross m_curve_dot 
theorem sp_curve_Middle : SpecOK Try.prog (C_curve_Middle_0 m_wide_Over m_curve_cross m_curve_dot) := specOK_of rfl ⟨r_wide_Over, r_curve_cross, r_curve_dot, trivial⟩
theorem r_curve_Middle : RowOK Try.prog (158, spOf sig_curve_Middle osig_curve_Middle m_curve_Middle) := row_of (C := (C_curve_Middle_0 m_wide_Over m_curve_cross m_curve_dot)) (L := 64) (by kernel_rfl) (FnOK.bare rfl rfl rfl) sp_curve_Middle eqOk mixOk (by kernel_rfl) (by kernel_rfl)
def sig_curve_Flat : Sk := { tmps := [tf [ci], tf [ci]], boxes := [], rows := [] }
def osig_curve_Flat : Sk := { tmps := [tf [CS.bool]], boxes := [], rows := [] }
def C_curve_Flat_0 : Cfg := { spec := lookS [], eqOk := eqAll, ownOff := ownOff }
def mf_curve_Flat : Fn := modelF Try.prog C_curve_Flat_0 64 174 sig_curve_Flat osig_curve_Flat
theorem mf_curve_Flat_eq (x0 x1 : Int) : mf_curve_Flat [I x0, I x1] =
 some [B (decide (x1 <= IntKind.i64.wrap (IntKind.i64.wrap (IntKind.i64.wrap (8 * x0) * 4) - 64)))] := by kernel_rfl
def m_curve_Flat := mf_curve_Flat 
theorem sp_curve_Flat : SpecOK Try.prog (C_curve_Flat_0 ) := specOK_of rfl trivial
theorem r_curve_Flat : RowOK Try.prog (174, spOf sig_curve_Flat osig_curve_Flat m_curve_Flat) := row_of (C := C_curve_Flat_0) (L := 64) (by kernel_rfl) (FnOK.bare rfl rfl rfl) sp_curve_Flat eqOk mixOk (by kernel_rfl) (by kernel_rfl)
def sig_curve_cutter_settled : Sk := { tmps := [tf [CS.ptr 20000 0], TS.v true [ci, ci, ci, ci], TS.v true [ci, ci, ci, ci], tf [CS.bool]], boxes := [(20000, 153, [ci, CS.own 20000 4])], rows := [(20000, 99, [kI, kI, kI, kI])] }
def osig_curve_cutter_settled : Sk := { tmps := [tf [CS.bool]], boxes := [(20000, 153, [ci, CS.own 20000 4])], rows := [(20000, 99, [kI, kI, kI, kI])] }
def C_curve_cutter_settled_0 (M_curve_Flat M_curve_cross : Fn) : Cfg := { spec := lookS [(174, spOf sig_curve_Flat osig_curve_Flat M_curve_Flat), (122, spOf sig_curve_cross osig_curve_cross M_curve_cross)], eqOk := eqAll, ownOff := ownOff }
def mf_curve_cutter_settled (M_curve_Flat M_curve_cross : Fn) : Fn := modelF Try.prog (C_curve_cutter_settled_0 M_curve_Flat M_curve_cross) 64 157 sig_curve_cutter_settled osig_curve_cutter_settled
theorem mf_curve_cutter_settled_eq (M_curve_Flat M_curve_cross : Fn) (x0 : Rw) (x1 x2 x3 x4 x5 x6 x7 x8 : Int) (x9 : Bool) (x10 : Int) : mf_curve_cutter_settled M_curve_Flat M_curve_cross [.view [kI, kI, kI, kI] x0, I x1, I x2, I x3, I x4, I x5, I x6, I x7, I x8, B x9, I x10] =
 bif !x9 then
 (M_curve_cross [I x1, I x2, I x3, I x4, I x5, I x6, I x7, I x8]).bind fun o2 =>
 bif decide (IntKind.i64.wrap (gA o2 0 * x10) > 0) then
 (M_curve_Flat [I (mn x3 x7), I (IntKind.i64.wrap (IntKind.i64.wrap (IntKind.i64.wrap (x1 - x5) * IntKind.i64.wrap (x1 - x5)) + IntKind.i64.wrap (IntKind.i64.wrap (x2 - x6) * IntKind.i64.wrap (x2 - x6))))]).bind fun o3 =>
 some [.view [kI, kI, kI, kI] x0, B (bA o3 0), I x10]
 else
 some [.view [kI, kI, kI, kI] x0, B false, I x10]
 else
 some [.view [kI, kI, kI, kI] x0, B false, I x10] := by kernel_rfl
def m_curve_cutter_settled := mf_curve_cutter_settled m_curve_Flat m_curve_cross 
theorem sp_curve_cutter_settled : SpecOK Try.prog (C_curve_cutter_settled_0 m_curve_Flat m_curve_cross) := specOK_of rfl ⟨r_curve_Flat, r_curve_cross, trivial⟩
theorem r_curve_cutter_settled : RowOK Try.prog (157, spOf sig_curve_cutter_settled osig_curve_cutter_settled m_curve_cutter_settled) := row_of (C := (C_curve_cutter_settled_0 m_curve_Flat m_curve_cross)) (L := 64) (by kernel_rfl) (FnOK.bare rfl rfl rfl) sp_curve_cutter_settled eqOk mixOk (by kernel_rfl) (by kernel_rfl)
def fuel_curve_cutter_piece : Nat := 20
def sig_curve_cutter_piece : Sk := { tmps := [tf [CS.ptr 20000 0], TS.v true [ci, ci, ci, ci], TS.v true [ci, ci, ci, ci], tf [CS.bool], tf [ci]], boxes := [(20000, 153, [ci, CS.own 20000 4])], rows := [(20000, 99, [kI, kI, kI, kI])] }
def osig_curve_cutter_piece : Sk := { tmps := [TS.tup []], boxes := [(20000, 153, [ci, CS.own 20000 4])], rows := [(20000, 99, [kI, kI, kI, kI])] }
def C_curve_cutter_piece_0 (M_curve_cutter_piece M_curve_Middle M_curve_cutter_settled : Fn) : Cfg := { spec := lookS [(135, spOf sig_curve_cutter_piece osig_curve_cutter_piece M_curve_cutter_piece), (158, spOf sig_curve_Middle osig_curve_Middle M_curve_Middle), (157, spOf sig_curve_cutter_settled osig_curve_cutter_settled M_curve_cutter_settled)], eqOk := eqAll, pure := fun f => !(elemN [135, 157] f), ownOff := ownOff }
def mf_curve_cutter_piece (M_curve_cutter_piece M_curve_Middle M_curve_cutter_settled : Fn) : Fn := modelF Try.prog (C_curve_cutter_piece_0 M_curve_cutter_piece M_curve_Middle M_curve_cutter_settled) 64 135 sig_curve_cutter_piece osig_curve_cutter_piece
theorem mf_curve_cutter_piece_eq (M_curve_cutter_piece M_curve_Middle M_curve_cutter_settled : Fn) (x0 : Rw) (x1 x2 x3 x4 x5 x6 x7 x8 : Int) (x9 : Bool) (x10 x11 : Int) : mf_curve_cutter_piece M_curve_cutter_piece M_curve_Middle M_curve_cutter_settled [.view [kI, kI, kI, kI] x0, I x1, I x2, I x3, I x4, I x5, I x6, I x7, I x8, B x9, I x10, I x11] =
 bif decide (x10 < 16) then
 (M_curve_cutter_settled [.view [kI, kI, kI, kI] x0, I x1, I x2, I x3, I x4, I x5, I x6, I x7, I x8, B x9, I x11]).bind fun o4 =>
 bif !bA o4 1 then
 (M_curve_Middle [I x1, I x2, I x3, I x4, I x5, I x6, I x7, I x8, jA o4 2, B x9]).bind fun o5 =>
 bif bA o5 4 then
 (M_curve_cutter_piece [.view [kI, kI, kI, kI] (wA o4 0), I x1, I x2, I x3, I x4, jA o5 0, jA o5 1, jA o5 2, jA o5 3, B false, I (IntKind.i64.wrap (x10 + 1)), jA o4 2]).bind fun o6 =>
 (M_curve_cutter_piece [.view [kI, kI, kI, kI] (wA o6 0), jA o5 0, jA o5 1, jA o5 2, jA o5 3, I x5, I x6, I x7, I x8, B false, I (IntKind.i64.wrap (x10 + 1)), jA o6 1]).bind fun o7 =>
 some [.view [kI, kI, kI, kI] (wA o7 0), jA o7 1]
 else
 bif ((wA o4 0 ++ [[I x5, I x6, I x7, I x8]]).length * 32).ble 140737488355328 then
 some [.view [kI, kI, kI, kI] (wA o4 0 ++ [[I x5, I x6, I x7, I x8]]), jA o4 2]
 else
 none
 else
 bif ((wA o4 0 ++ [[I x5, I x6, I x7, I x8]]).length * 32).ble 140737488355328 then
 some [.view [kI, kI, kI, kI] (wA o4 0 ++ [[I x5, I x6, I x7, I x8]]), jA o4 2]
 else
 none
 else
 bif ((x0 ++ [[I x5, I x6, I x7, I x8]]).length * 32).ble 140737488355328 then
 some [.view [kI, kI, kI, kI] (x0 ++ [[I x5, I x6, I x7, I x8]]), I x11]
 else
 none := by kernel_rfl
def mG_curve_cutter_piece (M : Fn) : Fn := mf_curve_cutter_piece M m_curve_Middle m_curve_cutter_settled 
def mR_curve_cutter_piece : Nat -> Fn
 | 0 => fun _ => none
 | n + 1 => mG_curve_cutter_piece (mR_curve_cutter_piece n)
theorem sp_curve_cutter_piece {M : Fn} (h : RowOK Try.prog (135, spOf sig_curve_cutter_piece osig_curve_cutter_piece M)) : SpecOK Try.prog (C_curve_cutter_piece_0 M m_curve_Middle m_curve_cutter_settled) := specOK_of rfl ⟨h, r_curve_Middle, r_curve_cutter_settled, trivial⟩
theorem rG_curve_cutter_piece {M : Fn} (h : RowOK Try.prog (135, spOf sig_curve_cutter_piece osig_curve_cutter_piece M)) : RowOK Try.prog (135, spOf sig_curve_cutter_piece osig_curve_cutter_piece (mG_curve_cutter_piece M)) := row_of (C := (C_curve_cutter_piece_0 M m_curve_Middle m_curve_cutter_settled)) (L := 64) (by kernel_rfl) (FnOK.bare rfl rfl rfl) (sp_curve_cutter_piece h) eqOk mixOk (by kernel_rfl) (by kernel_rfl)
theorem rR_curve_cutter_piece : ∀ n, RowOK Try.prog (135, spOf sig_curve_cutter_piece osig_curve_cutter_piece (mR_curve_cutter_piece n))
 | 0 => row_none
 | n + 1 => rG_curve_cutter_piece (rR_curve_cutter_piece n)
def m_curve_cutter_piece := mR_curve_cutter_piece fuel_curve_cutter_piece
theorem r_curve_cutter_piece : RowOK Try.prog (135, spOf sig_curve_cutter_piece osig_curve_cutter_piece m_curve_cutter_piece) := rR_curve_cutter_piece fuel_curve_cutter_piece
def sig_wide_root : Sk := { tmps := [TS.v true [CS.int .u64, CS.int .u64], tf [ci]], boxes := [], rows := [] }
def osig_wide_root : Sk := { tmps := [TS.tup [(false, [ci]), (false, [CS.bool])]], boxes := [], rows := [] }
def C_wide_root_0 (M_wide_signed M_bits_Sub64 M_bits_Mul64 M_wide_floorRoot : Fn) : Cfg := { spec := lookS [(146, spOf sig_wide_signed osig_wide_signed M_wide_signed), (173, spOf sig_bits_Sub64 osig_bits_Sub64 M_bits_Sub64), (147, spOf sig_bits_Mul64 osig_bits_Mul64 M_bits_Mul64), (172, spOf sig_wide_floorRoot osig_wide_floorRoot M_wide_floorRoot)], eqOk := eqAll, ownOff := ownOff }
def mf_wide_root (M_wide_signed M_bits_Sub64 M_bits_Mul64 M_wide_floorRoot : Fn) : Fn := modelF Try.prog (C_wide_root_0 M_wide_signed M_bits_Sub64 M_bits_Mul64 M_wide_floorRoot) 64 156 sig_wide_root osig_wide_root
abbrev g_wide_root_1 (x2 : Int) (o17 : List AC) (M_wide_signed : Fn) (o14 o16 : List AC) : Option (List AC) :=
 bif x2 == 2 then
 bif decide (gA o17 0 > 0) then
 (M_wide_signed [U (IntKind.u64.wrap (gA o14 0 + 1)), B false]).bind fun o20 =>
 some [jA o20 0, B (bA o20 1)]
 else
 bif decide (gA o16 0 > gA o14 0) then
 (M_wide_signed [U (IntKind.u64.wrap (gA o14 0 + 1)), B false]).bind fun o21 =>
 some [jA o21 0, B (bA o21 1)]
 else
 (M_wide_signed [U (gA o14 0), B false]).bind fun o22 =>
 some [jA o22 0, B (bA o22 1)]
 else
 (M_wide_signed [U (gA o14 0), B false]).bind fun o23 =>
 some [jA o23 0, B (bA o23 1)]
attribute [go_sem] g_wide_root_1
theorem mf_wide_root_eq (M_wide_signed M_bits_Sub64 M_bits_Mul64 M_wide_floorRoot : Fn) (x0 x1 x2 : Int) : mf_wide_root M_wide_signed M_bits_Sub64 M_bits_Mul64 M_wide_floorRoot [U x0, U x1, I x2] =
 (M_wide_floorRoot [U x0, U x1]).bind fun o14 =>
 (M_bits_Mul64 [U (gA o14 0), U (gA o14 0)]).bind fun o15 =>
 (M_bits_Sub64 [U x1, U (gA o15 1), U 0]).bind fun o16 =>
 (M_bits_Sub64 [U x0, U (gA o15 0), U (gA o16 1)]).bind fun o17 =>
 bif x2 == 1 then
 bif decide (gA o17 0 > 0) then
 (M_wide_signed [U (IntKind.u64.wrap (gA o14 0 + 1)), B false]).bind fun o18 =>
 some [jA o18 0, B (bA o18 1)]
 else
 bif decide (gA o16 0 > 0) then
 (M_wide_signed [U (IntKind.u64.wrap (gA o14 0 + 1)), B false]).bind fun o19 =>
 some [jA o19 0, B (bA o19 1)]
 else
 g_wide_root_1 x2 o17 M_wide_signed o14 o16
 else
 g_wide_root_1 x2 o17 M_wide_signed o14 o16 := by kernel_rfl
def m_wide_root := mf_wide_root m_wide_signed m_bits_Sub64 m_bits_Mul64 m_wide_floorRoot 
theorem sp_wide_root : SpecOK Try.prog (C_wide_root_0 m_wide_signed m_bits_Sub64 m_bits_Mul64 m_wide_floorRoot) := specOK_of rfl ⟨r_wide_signed, r_bits_Sub64, r_bits_Mul64, r_wide_floorRoot, trivial⟩
theorem r_wide_root : RowOK Try.prog (156, spOf sig_wide_root osig_wide_root m_wide_root) := row_of (C := (C_wide_root_0 m_wide_signed m_bits_Sub64 m_bits_Mul64 m_wide_floorRoot)) (L := 64) (by kernel_rfl) (FnOK.bare rfl rfl rfl) sp_wide_root eqOk mixOk (by kernel_rfl) (by kernel_rfl)
def sig_wide_Sqrt : Sk := { tmps := [tf [ci], tf [ci]], boxes := [], rows := [] }
def osig_wide_Sqrt : Sk := { tmps := [TS.tup [(false, [ci]), (false, [CS.bool])]], boxes := [], rows := [] }
def C_wide_Sqrt_0 (M_wide_root M_wide_known : Fn) : Cfg := { spec := lookS [(156, spOf sig_wide_root osig_wide_root M_wide_root), (143, spOf sig_wide_known osig_wide_known M_wide_known)], eqOk := eqAll, ownOff := ownOff }
def mf_wide_Sqrt (M_wide_root M_wide_known : Fn) : Fn := modelF Try.prog (C_wide_Sqrt_0 M_wide_root M_wide_known) 64 134 sig_wide_Sqrt osig_wide_Sqrt
theorem mf_wide_Sqrt_eq (M_wide_root M_wide_known : Fn) (x0 x1 : Int) : mf_wide_Sqrt M_wide_root M_wide_known [I x0, I x1] =
 bif decide (x0 < 0) then
 some [I 0, B false]
 else
 (M_wide_known [I x1]).bind fun o2 =>
 bif !bA o2 0 then
 some [I 0, B false]
 else
 (M_wide_root [U 0, U (IntKind.u64.wrap x0), I x1]).bind fun o3 =>
 some [jA o3 0, B (bA o3 1)] := by kernel_rfl
def m_wide_Sqrt := mf_wide_Sqrt m_wide_root m_wide_known 
theorem sp_wide_Sqrt : SpecOK Try.prog (C_wide_Sqrt_0 m_wide_root m_wide_known) := specOK_of rfl ⟨r_wide_root, r_wide_known, trivial⟩
theorem r_wide_Sqrt : RowOK Try.prog (134, spOf sig_wide_Sqrt osig_wide_Sqrt m_wide_Sqrt) := row_of (C := (C_wide_Sqrt_0 m_wide_root m_wide_known)) (L := 64) (by kernel_rfl) (FnOK.bare rfl rfl rfl) sp_wide_Sqrt eqOk mixOk (by kernel_rfl) (by kernel_rfl)
def sig_curve_Spokes : Sk := { tmps := [TS.v true [ci, ci, ci, ci, ci, ci, ci, ci, ci, ci, ci, ci, ci, CS.bool, ci, CS.bool, ci, ci, ci, ci, ci, CS.bool]], boxes := [], rows := [] }
def osig_curve_Spokes : Sk := { tmps := [TS.tup [(false, [CS.sl [kI, kI, kI, kI]]), (false, [CS.bool])]], boxes := [], rows := [] }
def C_curve_Spokes_0 (M_curve_cutter_piece M_wide_Sqrt M_curve_dot M_curve_ends M_curve_Valid : Fn) : Cfg := { spec := lookS [(135, spOf sig_curve_cutter_piece osig_curve_cutter_piece M_curve_cutter_piece), (134, spOf sig_wide_Sqrt osig_wide_Sqrt M_wide_Sqrt), (120, spOf sig_curve_dot osig_curve_dot M_curve_dot), (119, spOf sig_curve_ends osig_curve_ends M_curve_ends), (66, spOf sig_curve_Valid osig_curve_Valid M_curve_Valid)], eqOk := eqAll, pure := fun f => !(elemN [135] f), ownOff := ownOff, rowDst := [39] }
def mf_curve_Spokes (M_curve_cutter_piece M_wide_Sqrt M_curve_dot M_curve_ends M_curve_Valid : Fn) : Fn := modelF Try.prog (C_curve_Spokes_0 M_curve_cutter_piece M_wide_Sqrt M_curve_dot M_curve_ends M_curve_Valid) 64 92 sig_curve_Spokes osig_curve_Spokes
theorem mf_curve_Spokes_eq (M_curve_cutter_piece M_wide_Sqrt M_curve_dot M_curve_ends M_curve_Valid : Fn) (x0 x1 x2 x3 x4 x5 x6 x7 x8 x9 x10 x11 x12 : Int) (x13 : Bool) (x14 : Int) (x15 : Bool) (x16 x17 x18 x19 x20 : Int) (x21 : Bool) : mf_curve_Spokes M_curve_cutter_piece M_wide_Sqrt M_curve_dot M_curve_ends M_curve_Valid [I x0, I x1, I x2, I x3, I x4, I x5, I x6, I x7, I x8, I x9, I x10, I x11, I x12, B x13, I x14, B x15, I x16, I x17, I x18, I x19, I x20, B x21] =
 bif x0 != 3 then
 some [.view [kI, kI, kI, kI] [], B false]
 else
 (M_curve_Valid [I x0, I x1, I x2, I x3, I x4, I x5, I x6, I x7, I x8, I x9, I x10, I x11, I x12, B x13, I x14, B x15, I x16, I x17, I x18, I x19, I x20, B x21]).bind fun o7 =>
 bif !bA o7 0 then
 some [.view [kI, kI, kI, kI] [], B false]
 else
 (M_curve_ends [I x0, I x1, I x2, I x3, I x4, I x5, I x6, I x7, I x8, I x9, I x10, I x11, I x12, B x13, I x14, B x15, I x16, I x17, I x18, I x19, I x20, B x21]).bind fun o8 =>
 (M_curve_dot [jA o8 0, jA o8 1, jA o8 2, jA o8 3, jA o8 0, jA o8 1, jA o8 2, jA o8 3]).bind fun o9 =>
 (M_wide_Sqrt [jA o9 0, I 2]).bind fun o10 =>
 (M_curve_dot [jA o8 4, jA o8 5, jA o8 6, jA o8 7, jA o8 4, jA o8 5, jA o8 6, jA o8 7]).bind fun o11 =>
 (M_wide_Sqrt [jA o11 0, I 2]).bind fun o12 =>
 (M_curve_cutter_piece [.view [kI, kI, kI, kI] [[jA o8 0, jA o8 1, jA o10 0, jA o8 3]], jA o8 0, jA o8 1, jA o10 0, jA o8 3, jA o8 4, jA o8 5, jA o12 0, jA o8 7, B x13, I 0, I x12]).bind fun o13 =>
 some [.view [kI, kI, kI, kI] (wA o13 0), B true] := by kernel_rfl
def m_curve_Spokes := mf_curve_Spokes m_curve_cutter_piece m_wide_Sqrt m_curve_dot m_curve_ends m_curve_Valid 
theorem sp_curve_Spokes : SpecOK Try.prog (C_curve_Spokes_0 m_curve_cutter_piece m_wide_Sqrt m_curve_dot m_curve_ends m_curve_Valid) := specOK_of rfl ⟨r_curve_cutter_piece, r_wide_Sqrt, r_curve_dot, r_curve_ends, r_curve_Valid, trivial⟩
theorem r_curve_Spokes : RowOK Try.prog (92, spOf sig_curve_Spokes osig_curve_Spokes m_curve_Spokes) := row_of (C := (C_curve_Spokes_0 m_curve_cutter_piece m_wide_Sqrt m_curve_dot m_curve_ends m_curve_Valid)) (L := 64) (by kernel_rfl) (FnOK.bare rfl rfl rfl) sp_curve_Spokes eqOk mixOk (by kernel_rfl) (by kernel_rfl)
def sig_curve_Chords : Sk := { tmps := [TS.v true [ci, ci, ci, ci, ci, ci, ci, ci, ci, ci, ci, ci, ci, CS.bool, ci, CS.bool, ci, ci, ci, ci, ci, CS.bool]], boxes := [], rows := [] }
def osig_curve_Chords : Sk := { tmps := [TS.tup [(false, [CS.sl kPt]), (false, [CS.bool])]], boxes := [], rows := [] }
def C_curve_Chords_0 (M_curve_Space M_curve_Plane M_curve_scaled M_curve_Spokes M_curve_Valid : Fn) : Cfg := { spec := lookS [(94, spOf sig_curve_Space osig_curve_Space M_curve_Space), (67, spOf sig_curve_Plane osig_curve_Plane M_curve_Plane), (93, spOf sig_curve_scaled osig_curve_scaled M_curve_scaled), (92, spOf sig_curve_Spokes osig_curve_Spokes M_curve_Spokes), (66, spOf sig_curve_Valid osig_curve_Valid M_curve_Valid)], eqOk := eqAll, ownOff := ownOff }
def sk_curve_Chords_9 : Sk := { tmps := [td, tf [CS.ptr 1 0], td, td, td, td, tf [ci], tf [ci], td, tf [CS.own 41 3], td, td, td, td, td, td, td, td, td, td, td, td, td, td, td, td, td, td, td, td, td, td, td, td, td, td, td, td, td, td, td, td, tf [CS.sl [kI, kI, kI, kI]], tf [ci], tf [ci]] ++ dd 22, boxes := [(1, 33, [ci, ci, ci, ci, ci, ci, ci, ci, ci, ci, ci, ci, ci, CS.bool, ci, CS.bool, ci, ci, ci, ci, ci, CS.bool])], rows := [(41, 23, kPt)] }
def ex_curve_Chords_9 : List (Ex × Sk) := [(Ex.exit 0, { tmps := [td, td, td, td, td, td, td, td, td, tf [CS.own 41 3]] ++ dd 57, boxes := [], rows := [(41, 23, kPt)] })]
def st_curve_Chords_9 (M_curve_Space M_curve_Plane M_curve_scaled M_curve_Spokes M_curve_Valid : Fn) : Lp := stepL Try.prog (C_curve_Chords_0 M_curve_Space M_curve_Plane M_curve_scaled M_curve_Spokes M_curve_Valid) 64 9 (bodyOf Try.prog 41 9) sk_curve_Chords_9 ex_curve_Chords_9
def C_curve_Chords_1 (M_curve_Space M_curve_Plane M_curve_scaled M_curve_Spokes M_curve_Valid : Fn) (N9 : Lp) : Cfg := (C_curve_Chords_0 M_curve_Space M_curve_Plane M_curve_scaled M_curve_Spokes M_curve_Valid).loop 9 sk_curve_Chords_9 ex_curve_Chords_9 N9
def mf_curve_Chords (M_curve_Space M_curve_Plane M_curve_scaled M_curve_Spokes M_curve_Valid : Fn) (N9 : Lp) : Fn := modelF Try.prog (C_curve_Chords_1 M_curve_Space M_curve_Plane M_curve_scaled M_curve_Spokes M_curve_Valid N9) 64 41 sig_curve_Chords osig_curve_Chords
theorem st_curve_Chords_9_eq (M_curve_Space M_curve_Plane M_curve_scaled M_curve_Spokes M_curve_Valid : Fn) (v0 : Rw) (v1 v2 : Int) (v3 : Rw) (v4 v5 v6 v7 v8 v9 v10 v11 v12 v13 v14 v15 v16 v17 v18 : Int) (v19 : Bool) (v20 : Int) (v21 : Bool) (v22 v23 v24 v25 v26 : Int) (v27 : Bool) : st_curve_Chords_9 M_curve_Space M_curve_Plane M_curve_scaled M_curve_Spokes M_curve_Valid [.view kPt v0, I v1, I v2, .view [kI, kI, kI, kI] v3, I v4, I v5, I v6, I v7, I v8, I v9, I v10, I v11, I v12, I v13, I v14, I v15, I v16, I v17, I v18, B v19, I v20, B v21, I v22, I v23, I v24, I v25, I v26, B v27] =
 bif decide (v5 < v4) then
 bif decide (0 <= v5) && decide (v5 < (v3.length : Int)) then
 (M_curve_Space [I (IntKind.i64.wrap (v1 + gA (nth [] v3 v5.toNat) 0)), I (IntKind.i64.wrap (v2 + gA (nth [] v3 v5.toNat) 1)), jA (nth [] v3 v5.toNat) 3, I v14]).bind fun o14 =>
 bif decide (0 <= v5) && decide (v5 < (v0.length : Int)) then
 some (0, [.view kPt (v0.set v5.toNat [jA o14 0, jA o14 1, jA o14 2]), I v1, I v2, .view [kI, kI, kI, kI] v3, I v4, I (IntKind.i64.wrap (v5 + 1)), I v6, I v7, I v8, I v9, I v10, I v11, I v12, I v13, I v14, I v15, I v16, I v17, I v18, B v19, I v20, B v21, I v22, I v23, I v24, I v25, I v26, B v27])
 else
 none
 else
 none
 else
 some (1, [.view kPt v0]) := by kernel_rfl
theorem mf_curve_Chords_eq (M_curve_Space M_curve_Plane M_curve_scaled M_curve_Spokes M_curve_Valid : Fn) (N9 : Lp) (x0 x1 x2 x3 x4 x5 x6 x7 x8 x9 x10 x11 x12 : Int) (x13 : Bool) (x14 : Int) (x15 : Bool) (x16 x17 x18 x19 x20 : Int) (x21 : Bool) : mf_curve_Chords M_curve_Space M_curve_Plane M_curve_scaled M_curve_Spokes M_curve_Valid N9 [I x0, I x1, I x2, I x3, I x4, I x5, I x6, I x7, I x8, I x9, I x10, I x11, I x12, B x13, I x14, B x15, I x16, I x17, I x18, I x19, I x20, B x21] =
 (M_curve_Valid [I x0, I x1, I x2, I x3, I x4, I x5, I x6, I x7, I x8, I x9, I x10, I x11, I x12, B x13, I x14, B x15, I x16, I x17, I x18, I x19, I x20, B x21]).bind fun o15 =>
 bif !bA o15 0 then
 some [.view kPt [], B false]
 else
 (M_curve_Spokes [I x0, I x1, I x2, I x3, I x4, I x5, I x6, I x7, I x8, I x9, I x10, I x11, I x12, B x13, I x14, B x15, I x16, I x17, I x18, I x19, I x20, B x21]).bind fun o16 =>
 bif !bA o16 1 then
 (M_curve_scaled [I x2, I x3, I x4]).bind fun o17 =>
 (M_curve_scaled [I x5, I x6, I x7]).bind fun o18 =>
 some [.view kPt [[jA o17 0, jA o17 1, jA o17 2], [jA o18 0, jA o18 1, jA o18 2]], B true]
 else
 (M_curve_scaled [I x9, I x10, I x11]).bind fun o19 =>
 (M_curve_Plane [jA o19 0, jA o19 1, jA o19 2, I x8]).bind fun o20 =>
 bif decide ((↑(wA o16 0).length : Int) = (↑(wA o16 0).length : Int)) then
 bif decide (0 <= (↑(wA o16 0).length : Int)) && decide ((↑(wA o16 0).length : Int) * (↑24 : Int) <= 140737488355328) then
 (N9 [.view kPt (List.replicate (↑(wA o16 0).length : Int).toNat [I 0, I 0, I 0]), jA o20 0, jA o20 1, .view [kI, kI, kI, kI] (wA o16 0), I (↑(wA o16 0).length : Int), I 0, I x0, I x1, I x2, I x3, I x4, I x5, I x6, I x7, I x8, I x9, I x10, I x11, I x12, B x13, I x14, B x15, I x16, I x17, I x18, I x19, I x20, B x21]).bind fun o21 =>
 bif o21.1.beq 1 then
 some [.view kPt (wA o21.2 0), B true]
 else
 none
 else
 none
 else
 none := by kernel_rfl
def l_curve_Chords_9 := loopC (st_curve_Chords_9 m_curve_Space m_curve_Plane m_curve_scaled m_curve_Spokes m_curve_Valid )
def m_curve_Chords := mf_curve_Chords m_curve_Space m_curve_Plane m_curve_scaled m_curve_Spokes m_curve_Valid l_curve_Chords_9
theorem sp_curve_Chords : SpecOK Try.prog (C_curve_Chords_0 m_curve_Space m_curve_Plane m_curve_scaled m_curve_Spokes m_curve_Valid) := specOK_of rfl ⟨r_curve_Space, r_curve_Plane, r_curve_scaled, r_curve_Spokes, r_curve_Valid, trivial⟩
theorem r_curve_Chords : RowOK Try.prog (41, spOf sig_curve_Chords osig_curve_Chords m_curve_Chords) := row_of (C := (C_curve_Chords_1 m_curve_Space m_curve_Plane m_curve_scaled m_curve_Spokes m_curve_Valid l_curve_Chords_9)) (L := 64) (by kernel_rfl) ((FnOK.bare rfl rfl rfl).loop sp_curve_Chords eqOk mixOk (by kernel_rfl) (by kernel_rfl)) sp_curve_Chords eqOk mixOk (by kernel_rfl) (by kernel_rfl)
abbrev g_cncmill_other_1 (M_cncmill_Source_Next : Fn) (o8 : List AC) : Option (List AC) :=
 (M_cncmill_Source_Next [I 16, .view kInts (wA o8 1), jA o8 2]).bind fun o9 =>
 (M_cncmill_Source_Next [I 2, .view kInts (wA o9 1), jA o9 2]).bind fun o10 =>
 some [I 10, I 0, I 0, I 0, I 0, I 0, I 0, I 0, I 0, I 0, I 0, I 0, I 0, B false, I 0, B false, I 0, I 0, I 0, jA o9 0, I 0, B (gA o10 0 == 0), .view kInts (wA o10 1), jA o10 2]
attribute [go_sem] g_cncmill_other_1
abbrev g_wide_MulDiv_1 (M_wide_grows : Fn) (x3 : Int) (o31 : List AC) (M_wide_signed : Fn) (h1_0 h1_1 : AC) : Option (List AC) :=
 (M_wide_grows [I x3, h1_0, B (decide (gA o31 1 > 0)), h1_1]).bind fun o34 =>
 bif bA o34 0 then
 bif IntKind.u64.wrap (gA o31 0 + 1) == 0 then
 some [I 0, B false]
 else
 (M_wide_signed [U (IntKind.u64.wrap (gA o31 0 + 1)), h1_1]).bind fun o35 =>
 some [jA o35 0, B (bA o35 1)]
 else
 (M_wide_signed [U (gA o31 0), h1_1]).bind fun o36 =>
 some [jA o36 0, B (bA o36 1)]
attribute [go_sem] g_wide_MulDiv_1
abbrev g_wide_MulDiv_2 (o31 o30 : List AC) (M_wide_grows : Fn) (x3 : Int) (M_wide_signed : Fn) (h2_0 : AC) : Option (List AC) :=
 bif decide (gA o31 1 > IntKind.u64.wrap (gA o30 0 - gA o31 1)) then
 g_wide_MulDiv_1 M_wide_grows x3 o31 M_wide_signed (I 1) h2_0
 else
 bif decide (gA o31 1 < IntKind.u64.wrap (gA o30 0 - gA o31 1)) then
 g_wide_MulDiv_1 M_wide_grows x3 o31 M_wide_signed (I (-1)) h2_0
 else
 g_wide_MulDiv_1 M_wide_grows x3 o31 M_wide_signed (I 0) h2_0
attribute [go_sem] g_wide_MulDiv_2
end Go.Bm
