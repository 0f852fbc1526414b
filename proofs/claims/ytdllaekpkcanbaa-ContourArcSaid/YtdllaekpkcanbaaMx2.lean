/- functions of the program and of the references, as models -/
import Derived.Test.YtdllaekpkcanbaaMx1
set_option linter.unusedSimpArgs false
set_option linter.unusedVariables false
set_option maxRecDepth 100000
noncomputable section
namespace Go.Bm
open Go.Proofs
def sig_cncmill_Source_Next : Sk := { tmps := [tf [CS.ptr 20000 0], tf [ci]], boxes := [(20000, 138, [CS.sl kInts, ci])], rows := [] }
def osig_cncmill_Source_Next : Sk := { tmps := [tf [ci]], boxes := [(20000, 138, [CS.sl kInts, ci])], rows := [] }
def C_cncmill_Source_Next_0 (M_cncmill_Mod : Fn) : Cfg := { spec := lookS [(23, spOf sig_cncmill_Mod osig_cncmill_Mod M_cncmill_Mod)], eqOk := eqAll, ownOff := ownOff }
def mf_cncmill_Source_Next (M_cncmill_Mod : Fn) : Fn := modelF Try.prog (C_cncmill_Source_Next_0 M_cncmill_Mod) 64 61 sig_cncmill_Source_Next osig_cncmill_Source_Next
theorem mf_cncmill_Source_Next_eq (M_cncmill_Mod : Fn) (x0 : Int) (x1 : Rw) (x2 : Int) : mf_cncmill_Source_Next M_cncmill_Mod [I x0, .view kInts x1, I x2] =
 bif decide (x2 >= (x1.length : Int)) then
 some [I 0, .view kInts x1, I x2]
 else
 bif decide (0 <= x2) && decide (x2 < (x1.length : Int)) then
 (M_cncmill_Mod [jA (nth [] x1 x2.toNat) 0, I x0]).bind fun o1 =>
 some [jA o1 0, .view kInts x1, I (IntKind.i64.wrap (x2 + 1))]
 else
 none := by kernel_rfl
def m_cncmill_Source_Next := mf_cncmill_Source_Next m_cncmill_Mod 
theorem sp_cncmill_Source_Next : SpecOK Try.prog (C_cncmill_Source_Next_0 m_cncmill_Mod) := specOK_of rfl ⟨r_cncmill_Mod, trivial⟩
theorem r_cncmill_Source_Next : RowOK Try.prog (61, spOf sig_cncmill_Source_Next osig_cncmill_Source_Next m_cncmill_Source_Next) := row_of (C := (C_cncmill_Source_Next_0 m_cncmill_Mod)) (L := 64) (by kernel_rfl) (FnOK.bare rfl rfl rfl) sp_cncmill_Source_Next eqOk mixOk (by kernel_rfl) (by kernel_rfl)
def sig_cncmill_arc : Sk := { tmps := [tf [CS.ptr 20000 0], TS.v true [ci, ci, ci], tf [ci]], boxes := [(20000, 138, [CS.sl kInts, ci])], rows := [] }
def osig_cncmill_arc : Sk := { tmps := [TS.v true [ci, ci, ci, ci, ci, ci, ci, ci, ci, ci, ci, ci, ci, CS.bool, ci, CS.bool, ci, ci, ci, ci, ci, CS.bool]], boxes := [(20000, 138, [CS.sl kInts, ci])], rows := [] }
def C_cncmill_arc_0 (M_cncref23_Space M_cncmill_turned M_cncref23_Plane M_cncmill_Source_Next : Fn) : Cfg := { spec := lookS [(65, spOf sig_cncref23_Space osig_cncref23_Space M_cncref23_Space), (112, spOf sig_cncmill_turned osig_cncmill_turned M_cncmill_turned), (64, spOf sig_cncref23_Plane osig_cncref23_Plane M_cncref23_Plane), (61, spOf sig_cncmill_Source_Next osig_cncmill_Source_Next M_cncmill_Source_Next)], eqOk := eqAll, pure := fun f => !(elemN [61] f), ownOff := ownOff }
def mf_cncmill_arc (M_cncref23_Space M_cncmill_turned M_cncref23_Plane M_cncmill_Source_Next : Fn) : Fn := modelF Try.prog (C_cncmill_arc_0 M_cncref23_Space M_cncmill_turned M_cncref23_Plane M_cncmill_Source_Next) 64 60 sig_cncmill_arc osig_cncmill_arc
abbrev g_cncmill_arc_1 (M_cncmill_Source_Next M_cncref23_Space : Fn) (o23 o18 : List AC) (x0 x1 x2 : Int) (o26 o19 o22 : List AC) (h1_0 h1_1 h1_2 h1_3 : AC) : Option (List AC) :=
 (M_cncmill_Source_Next [I 4, h1_0, h1_1]).bind fun o30 =>
 bif decide (0 <= gA o30 0) && decide (gA o30 0 < (↑[[I 0], [I 0], [I 7], [I (-12)]].length : Int)) then
 (M_cncref23_Space [h1_2, h1_3, I (IntKind.i64.wrap (gA o23 2 + intOf (nth .dead (nth [] [[I 0], [I 0], [I 7], [I (-12)]] (gA o30 0).toNat) 0))), I (intOf (nth .dead (nth [] [[I 17], [I 18], [I 19]] (gA o18 0).toNat) 0))]).bind fun o31 =>
 some [I 3, I 0, I x0, I x1, I x2, jA o31 0, jA o31 1, jA o31 2, I (intOf (nth .dead (nth [] [[I 17], [I 18], [I 19]] (gA o18 0).toNat) 0)), jA o26 0, jA o26 1, jA o26 2, I (IntKind.i64.wrap (1 - IntKind.i64.wrap (gA o19 0 * 2))), B (gA o22 0 == 0), I 0, B false, I 0, I 0, I 0, I 0, I 0, B false, .view kInts (wA o30 1), jA o30 2]
 else
 none
attribute [go_sem] g_cncmill_arc_1
theorem mf_cncmill_arc_eq (M_cncref23_Space M_cncmill_turned M_cncref23_Plane M_cncmill_Source_Next : Fn) (x0 x1 x2 x3 : Int) (x4 : Rw) (x5 : Int) : mf_cncmill_arc M_cncref23_Space M_cncmill_turned M_cncref23_Plane M_cncmill_Source_Next [I x0, I x1, I x2, I x3, .view kInts x4, I x5] =
 (M_cncmill_Source_Next [I 3, .view kInts x4, I x5]).bind fun o18 =>
 bif decide (0 <= gA o18 0) && decide (gA o18 0 < (↑[[I 17], [I 18], [I 19]].length : Int)) then
 (M_cncmill_Source_Next [I 2, .view kInts (wA o18 1), jA o18 2]).bind fun o19 =>
 (M_cncmill_Source_Next [I x3, .view kInts (wA o19 1), jA o19 2]).bind fun o20 =>
 (M_cncmill_Source_Next [I 4, .view kInts (wA o20 1), jA o20 2]).bind fun o21 =>
 (M_cncmill_Source_Next [I 4, .view kInts (wA o21 1), jA o21 2]).bind fun o22 =>
 (M_cncref23_Plane [I x0, I x1, I x2, I (intOf (nth .dead (nth [] [[I 17], [I 18], [I 19]] (gA o18 0).toNat) 0))]).bind fun o23 =>
 (M_cncmill_turned [I (IntKind.i64.wrap (8 + gA o20 0)), jA o21 0]).bind fun o24 =>
 (M_cncmill_turned [I (IntKind.i64.wrap (8 + gA o20 0)), I (IntKind.i64.wrap (gA o21 0 + gA o22 0))]).bind fun o25 =>
 (M_cncref23_Space [I (IntKind.i64.wrap (gA o23 0 - gA o24 0)), I (IntKind.i64.wrap (gA o23 1 - gA o24 1)), jA o23 2, I (intOf (nth .dead (nth [] [[I 17], [I 18], [I 19]] (gA o18 0).toNat) 0))]).bind fun o26 =>
 bif decide (gA o22 0 > 0) then
 (M_cncmill_Source_Next [I 3, .view kInts (wA o22 1), jA o22 2]).bind fun o27 =>
 bif gA o27 0 == 0 then
 bif decide (IntKind.i64.wrap (8 + gA o20 0) = 0) then
 none
 else
 (M_cncmill_Source_Next [I 5, .view kInts (wA o27 1), jA o27 2]).bind fun o28 =>
 bif decide (IntKind.i64.wrap (8 + gA o20 0) = 0) then
 none
 else
 (M_cncmill_Source_Next [I 5, .view kInts (wA o28 1), jA o28 2]).bind fun o29 =>
 g_cncmill_arc_1 M_cncmill_Source_Next M_cncref23_Space o23 o18 x0 x1 x2 o26 o19 o22 (.view kInts (wA o29 1)) (jA o29 2) (I (IntKind.i64.wrap (IntKind.i64.wrap (gA o23 0 - gA o24 0) + IntKind.i64.wrap (gA o25 0 + IntKind.i64.wrap (IntKind.i64.wrap ((gA o25 0).tdiv (IntKind.i64.wrap (8 + gA o20 0))) * gA o28 0))))) (I (IntKind.i64.wrap (IntKind.i64.wrap (gA o23 1 - gA o24 1) + IntKind.i64.wrap (gA o25 1 + IntKind.i64.wrap (IntKind.i64.wrap ((gA o25 1).tdiv (IntKind.i64.wrap (8 + gA o20 0))) * gA o29 0)))))
 else
 g_cncmill_arc_1 M_cncmill_Source_Next M_cncref23_Space o23 o18 x0 x1 x2 o26 o19 o22 (.view kInts (wA o27 1)) (jA o27 2) (I (IntKind.i64.wrap (IntKind.i64.wrap (gA o23 0 - gA o24 0) + gA o25 0))) (I (IntKind.i64.wrap (IntKind.i64.wrap (gA o23 1 - gA o24 1) + gA o25 1)))
 else
 g_cncmill_arc_1 M_cncmill_Source_Next M_cncref23_Space o23 o18 x0 x1 x2 o26 o19 o22 (.view kInts (wA o22 1)) (jA o22 2) (I (IntKind.i64.wrap (IntKind.i64.wrap (gA o23 0 - gA o24 0) + gA o25 0))) (I (IntKind.i64.wrap (IntKind.i64.wrap (gA o23 1 - gA o24 1) + gA o25 1)))
 else
 none := by kernel_rfl
def m_cncmill_arc := mf_cncmill_arc m_cncref23_Space m_cncmill_turned m_cncref23_Plane m_cncmill_Source_Next 
theorem sp_cncmill_arc : SpecOK Try.prog (C_cncmill_arc_0 m_cncref23_Space m_cncmill_turned m_cncref23_Plane m_cncmill_Source_Next) := specOK_of rfl ⟨r_cncref23_Space, r_cncmill_turned, r_cncref23_Plane, r_cncmill_Source_Next, trivial⟩
theorem r_cncmill_arc : RowOK Try.prog (60, spOf sig_cncmill_arc osig_cncmill_arc m_cncmill_arc) := row_of (C := (C_cncmill_arc_0 m_cncref23_Space m_cncmill_turned m_cncref23_Plane m_cncmill_Source_Next)) (L := 64) (by kernel_rfl) (FnOK.bare rfl rfl rfl) sp_cncmill_arc eqOk mixOk (by kernel_rfl) (by kernel_rfl)
def sig_cncmill_From : Sk := { tmps := [tf [CS.sl kInts]], boxes := [], rows := [] }
def osig_cncmill_From : Sk := { tmps := [tf [CS.ptr 5 0]], boxes := [(5, 138, [CS.sl kInts, ci])], rows := [] }
def C_cncmill_From_0 : Cfg := { spec := lookS [], eqOk := eqAll, ownOff := ownOff }
def mf_cncmill_From : Fn := modelF Try.prog C_cncmill_From_0 64 59 sig_cncmill_From osig_cncmill_From
theorem mf_cncmill_From_eq (x0 : Rw) : mf_cncmill_From [.view kInts x0] =
 some [.view kInts x0, I 0] := by kernel_rfl
def m_cncmill_From := mf_cncmill_From 
theorem sp_cncmill_From : SpecOK Try.prog (C_cncmill_From_0 ) := specOK_of rfl trivial
theorem r_cncmill_From : RowOK Try.prog (59, spOf sig_cncmill_From osig_cncmill_From m_cncmill_From) := row_of (C := C_cncmill_From_0) (L := 64) (by kernel_rfl) (FnOK.bare rfl rfl rfl) sp_cncmill_From eqOk mixOk (by kernel_rfl) (by kernel_rfl)
def sig_cncmill_Arc : Sk := { tmps := [tf [CS.sl kInts], tf [ci]], boxes := [], rows := [] }
def osig_cncmill_Arc : Sk := { tmps := [TS.v true [ci, ci, ci, ci, ci, ci, ci, ci, ci, ci, ci, ci, ci, CS.bool, ci, CS.bool, ci, ci, ci, ci, ci, CS.bool]], boxes := [], rows := [] }
def C_cncmill_Arc_0 (M_cncmill_arc M_cncmill_Source_Next M_cncmill_From : Fn) : Cfg := { spec := lookS [(60, spOf sig_cncmill_arc osig_cncmill_arc M_cncmill_arc), (61, spOf sig_cncmill_Source_Next osig_cncmill_Source_Next M_cncmill_Source_Next), (59, spOf sig_cncmill_From osig_cncmill_From M_cncmill_From)], eqOk := eqAll, pure := fun f => !(elemN [60, 61, 59] f), ownOff := ownOff }
def mf_cncmill_Arc (M_cncmill_arc M_cncmill_Source_Next M_cncmill_From : Fn) : Fn := modelF Try.prog (C_cncmill_Arc_0 M_cncmill_arc M_cncmill_Source_Next M_cncmill_From) 64 22 sig_cncmill_Arc osig_cncmill_Arc
theorem mf_cncmill_Arc_eq (M_cncmill_arc M_cncmill_Source_Next M_cncmill_From : Fn) (x0 : Rw) (x1 : Int) : mf_cncmill_Arc M_cncmill_arc M_cncmill_Source_Next M_cncmill_From [.view kInts x0, I x1] =
 (M_cncmill_From [.view kInts x0]).bind fun o5 =>
 (M_cncmill_Source_Next [I 200, .view kInts (wA o5 0), jA o5 1]).bind fun o6 =>
 (M_cncmill_Source_Next [I 200, .view kInts (wA o6 1), jA o6 2]).bind fun o7 =>
 (M_cncmill_Source_Next [I 200, .view kInts (wA o7 1), jA o7 2]).bind fun o8 =>
 (M_cncmill_arc [I (IntKind.i64.wrap (gA o6 0 - 100)), I (IntKind.i64.wrap (gA o7 0 - 100)), I (IntKind.i64.wrap (gA o8 0 - 100)), I (mx x1 1), .view kInts (wA o8 1), jA o8 2]).bind fun o9 =>
 some [jA o9 0, jA o9 1, jA o9 2, jA o9 3, jA o9 4, jA o9 5, jA o9 6, jA o9 7, jA o9 8, jA o9 9, jA o9 10, jA o9 11, jA o9 12, B (bA o9 13), jA o9 14, B (bA o9 15), jA o9 16, jA o9 17, jA o9 18, jA o9 19, jA o9 20, B (bA o9 21)] := by kernel_rfl
def m_cncmill_Arc := mf_cncmill_Arc m_cncmill_arc m_cncmill_Source_Next m_cncmill_From 
theorem sp_cncmill_Arc : SpecOK Try.prog (C_cncmill_Arc_0 m_cncmill_arc m_cncmill_Source_Next m_cncmill_From) := specOK_of rfl ⟨r_cncmill_arc, r_cncmill_Source_Next, r_cncmill_From, trivial⟩
theorem r_cncmill_Arc : RowOK Try.prog (22, spOf sig_cncmill_Arc osig_cncmill_Arc m_cncmill_Arc) := row_of (C := (C_cncmill_Arc_0 m_cncmill_arc m_cncmill_Source_Next m_cncmill_From)) (L := 64) (by kernel_rfl) (FnOK.bare rfl rfl rfl) sp_cncmill_Arc eqOk mixOk (by kernel_rfl) (by kernel_rfl)
abbrev g_cncmill_motion_2 (M_cncmill_Source_Next : Fn) (o20 : List AC) (x3 : Int) (h1_0 h1_1 h1_2 h1_3 h1_4 h1_5 h1_6 h1_7 h1_8 h1_9 h1_10 h1_11 h1_12 h1_13 h1_16 h1_17 h1_20 h1_21 : AC) : Option (List AC) :=
 (M_cncmill_Source_Next [I 60, .view kInts (wA o20 1), jA o20 2]).bind fun o21 =>
 bif x3 == 6 then
 (M_cncmill_Source_Next [I 2, .view kInts (wA o21 1), jA o21 2]).bind fun o22 =>
 some [h1_0, h1_1, h1_2, h1_3, h1_4, h1_5, h1_6, h1_7, h1_8, h1_9, h1_10, h1_11, h1_12, h1_13, I (IntKind.i64.wrap (1 + gA o21 0)), B true, h1_16, h1_17, I 0, I (IntKind.i64.wrap (3 + gA o22 0)), h1_20, h1_21, .view kInts (wA o22 1), jA o22 2]
 else
 some [h1_0, h1_1, h1_2, h1_3, h1_4, h1_5, h1_6, h1_7, h1_8, h1_9, h1_10, h1_11, h1_12, h1_13, I (IntKind.i64.wrap (1 + gA o21 0)), B true, h1_16, h1_17, I 0, I 0, h1_20, h1_21, .view kInts (wA o21 1), jA o21 2]
attribute [go_sem] g_cncmill_motion_2
abbrev g_cncmill_motion_1 (x3 : Int) (M_cncmill_Source_Next : Fn) (h1_0 h1_1 h1_2 h1_3 h1_4 h1_5 h1_6 h1_7 h1_8 h1_9 h1_10 h1_11 h1_12 h1_13 h1_14 h1_15 h1_16 h1_17 h1_18 h1_19 h1_20 h1_21 h1_22 h1_23 : AC) : Option (List AC) :=
 bif x3 == 1 then
 some [h1_0, h1_1, h1_2, h1_3, h1_4, h1_5, h1_6, h1_7, h1_8, h1_9, h1_10, h1_11, h1_12, h1_13, h1_14, h1_15, h1_16, h1_17, h1_18, h1_19, h1_20, h1_21, h1_22, h1_23]
 else
 (M_cncmill_Source_Next [I 5, h1_22, h1_23]).bind fun o19 =>
 bif decide (0 <= gA o19 0) && decide (gA o19 0 < (↑[[I 300000], [I 1], [I 60000], [I 2000000], [I 60000000]].length : Int)) then
 (M_cncmill_Source_Next [I 5, .view kInts (wA o19 1), jA o19 2]).bind fun o20 =>
 bif decide (0 <= gA o20 0) && decide (gA o20 0 < (↑[[I 0], [I 1], [I 2], [I 4], [I 9]].length : Int)) then
 bif x3 == 5 then
 g_cncmill_motion_2 M_cncmill_Source_Next o20 x3 h1_0 h1_1 h1_2 h1_3 h1_4 h1_5 h1_6 h1_7 h1_8 h1_9 h1_10 h1_11 h1_12 h1_13 h1_16 h1_17 h1_20 h1_21
 else
 bif x3 == 6 then
 g_cncmill_motion_2 M_cncmill_Source_Next o20 x3 h1_0 h1_1 h1_2 h1_3 h1_4 h1_5 h1_6 h1_7 h1_8 h1_9 h1_10 h1_11 h1_12 h1_13 h1_16 h1_17 h1_20 h1_21
 else
 bif x3 == 4 then
 some [h1_0, h1_1, h1_2, h1_3, h1_4, h1_5, h1_6, h1_7, h1_8, h1_9, h1_10, h1_11, h1_12, h1_13, I (intOf (nth .dead (nth [] [[I 300000], [I 1], [I 60000], [I 2000000], [I 60000000]] (gA o19 0).toNat) 0)), h1_15, h1_16, h1_17, I 0, h1_19, h1_20, h1_21, .view kInts (wA o20 1), jA o20 2]
 else
 some [h1_0, h1_1, h1_2, h1_3, h1_4, h1_5, h1_6, h1_7, h1_8, h1_9, h1_10, h1_11, h1_12, h1_13, I (intOf (nth .dead (nth [] [[I 300000], [I 1], [I 60000], [I 2000000], [I 60000000]] (gA o19 0).toNat) 0)), h1_15, h1_16, h1_17, I (intOf (nth .dead (nth [] [[I 0], [I 1], [I 2], [I 4], [I 9]] (gA o20 0).toNat) 0)), h1_19, h1_20, h1_21, .view kInts (wA o20 1), jA o20 2]
 else
 none
 else
 none
attribute [go_sem] g_cncmill_motion_1
abbrev g_cncmill_other_1 (M_cncmill_Source_Next : Fn) (o8 : List AC) : Option (List AC) :=
 (M_cncmill_Source_Next [I 16, .view kInts (wA o8 1), jA o8 2]).bind fun o9 =>
 (M_cncmill_Source_Next [I 2, .view kInts (wA o9 1), jA o9 2]).bind fun o10 =>
 some [I 10, I 0, I 0, I 0, I 0, I 0, I 0, I 0, I 0, I 0, I 0, I 0, I 0, B false, I 0, B false, I 0, I 0, I 0, jA o9 0, I 0, B (gA o10 0 == 0), .view kInts (wA o10 1), jA o10 2]
attribute [go_sem] g_cncmill_other_1
abbrev g_wide_MulDiv_1 (M_wide_grows : Fn) (x3 : Int) (o31 : List AC) (M_wide_signed : Fn) (h1_0 h1_1 : AC) : Option (List AC) :=
 (M_wide_grows [I x3, h1_0, B (decide (gA o31 1 > 0)), h1_1]).bind fun o34 =>
 bif bA o34 0 then
 bif IntKind.u64.wrap (gA o31 0 + 1) == 0 then
 some [I 0, B false]
 else
 (M_wide_signed [U (IntKind.u64.wrap (gA o31 0 + 1)), h1_1]).bind fun o35 =>
 some [jA o35 0, B (bA o35 1)]
 else
 (M_wide_signed [U (gA o31 0), h1_1]).bind fun o36 =>
 some [jA o36 0, B (bA o36 1)]
attribute [go_sem] g_wide_MulDiv_1
abbrev g_wide_MulDiv_2 (o31 o30 : List AC) (M_wide_grows : Fn) (x3 : Int) (M_wide_signed : Fn) (h2_0 : AC) : Option (List AC) :=
 bif decide (gA o31 1 > IntKind.u64.wrap (gA o30 0 - gA o31 1)) then
 g_wide_MulDiv_1 M_wide_grows x3 o31 M_wide_signed (I 1) h2_0
 else
 bif decide (gA o31 1 < IntKind.u64.wrap (gA o30 0 - gA o31 1)) then
 g_wide_MulDiv_1 M_wide_grows x3 o31 M_wide_signed (I (-1)) h2_0
 else
 g_wide_MulDiv_1 M_wide_grows x3 o31 M_wide_signed (I 0) h2_0
attribute [go_sem] g_wide_MulDiv_2
end Go.Bm
