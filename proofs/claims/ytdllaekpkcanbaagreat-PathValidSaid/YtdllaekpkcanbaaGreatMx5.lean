/- functions of the program and of the references, as models -/
import Derived.Test.YtdllaekpkcanbaaGreatMx4
set_option linter.unusedSimpArgs false
set_option linter.unusedVariables false
set_option maxRecDepth 100000
noncomputable section
namespace Go.Bm
open Go.Proofs
abbrev g_s_curve_ends_4_1 (M_curve_scaled M_curve_Plane : Fn) (v17 v8 v0 v1 v2 v3 v4 v5 v6 v7 v9 v10 v11 v12 v13 v14 v15 v16 v18 v19 v20 v21 : Int) (v22 : Bool) (v23 : Int) (v24 : Bool) (v25 v26 v27 v28 v29 : Int) (v30 : Bool) (v31 v32 v33 v34 v35 v36 v37 v38 v43 v44 v45 v46 v39 v40 v41 v42 : Int) (h1_0 h1_1 h1_2 : AC) : Option (Nat × List AC) :=
 (M_curve_scaled [h1_0, h1_1, h1_2]).bind fun o9 =>
 (M_curve_Plane [jA o9 0, jA o9 1, jA o9 2, I v17]).bind fun o10 =>
 bif decide (v8 = (↑0 : Int)) then
 some (0, [I v0, I v1, I v2, I v3, I v4, I v5, I v6, I v7, I (IntKind.i64.wrap (v8 + 1)), I v9, I v10, I v11, I v12, I v13, I v14, I v15, I v16, I v17, I v18, I v19, I v20, I v21, B v22, I v23, B v24, I v25, I v26, I v27, I v28, I v29, B v30, I v31, I v32, I v33, I v34, I v35, I v36, I v37, I v38, I (IntKind.i64.wrap (gA o10 0 - v0)), I (IntKind.i64.wrap (gA o10 1 - v1)), I 0, jA o10 2, I v43, I v44, I v45, I v46])
 else
 bif decide (v8 = (↑(0 + 1) : Int)) then
 some (0, [I v0, I v1, I v2, I v3, I v4, I v5, I v6, I v7, I (IntKind.i64.wrap (v8 + 1)), I v9, I v10, I v11, I v12, I v13, I v14, I v15, I v16, I v17, I v18, I v19, I v20, I v21, B v22, I v23, B v24, I v25, I v26, I v27, I v28, I v29, B v30, I v31, I v32, I v33, I v34, I v35, I v36, I v37, I v38, I v39, I v40, I v41, I v42, I (IntKind.i64.wrap (gA o10 0 - v0)), I (IntKind.i64.wrap (gA o10 1 - v1)), I 0, jA o10 2])
 else
 none
attribute [go_sem] g_s_curve_ends_4_1
abbrev g_curve_Valid_1 (M_curve_within : Fn) (x9 x10 x11 : Int) (M_curve_ends : Fn) (x0 x1 x2 x3 x4 x5 x6 x7 x8 x12 : Int) (x13 : Bool) (x14 : Int) (x15 : Bool) (x16 x17 x18 x19 x20 : Int) (x21 : Bool) (M_curve_dot M_curve_near M_curve_cross : Fn) : Option (List AC) :=
 (M_curve_within [I x9, I x10, I x11]).bind fun o20 =>
 bif !bA o20 0 then
 some [B false]
 else
 (M_curve_ends [I x0, I x1, I x2, I x3, I x4, I x5, I x6, I x7, I x8, I x9, I x10, I x11, I x12, B x13, I x14, B x15, I x16, I x17, I x18, I x19, I x20, B x21]).bind fun o21 =>
 (M_curve_dot [jA o21 0, jA o21 1, jA o21 2, jA o21 3, jA o21 0, jA o21 1, jA o21 2, jA o21 3]).bind fun o22 =>
 (M_curve_dot [jA o21 4, jA o21 5, jA o21 6, jA o21 7, jA o21 4, jA o21 5, jA o21 6, jA o21 7]).bind fun o23 =>
 bif decide (gA o22 0 < IntKind.i64.wrap (128 * 128)) then
 some [B false]
 else
 bif decide (gA o23 0 < IntKind.i64.wrap (128 * 128)) then
 some [B false]
 else
 (M_curve_near [I (IntKind.i64.wrap ((gA o22 0).tdiv 256)), I (IntKind.i64.wrap ((gA o23 0).tdiv 256))]).bind fun o24 =>
 bif !bA o24 0 then
 some [B false]
 else
 bif x13 then
 bif gA o21 0 == gA o21 4 then
 some [B (gA o21 1 == gA o21 5)]
 else
 some [B false]
 else
 (M_curve_cross [jA o21 0, jA o21 1, jA o21 2, jA o21 3, jA o21 4, jA o21 5, jA o21 6, jA o21 7]).bind fun o25 =>
 bif gA o25 0 != 0 then
 some [B true]
 else
 (M_curve_dot [jA o21 0, jA o21 1, jA o21 2, jA o21 3, jA o21 4, jA o21 5, jA o21 6, jA o21 7]).bind fun o26 =>
 some [B (decide (gA o26 0 < 0))]
attribute [go_sem] g_curve_Valid_1
abbrev g_path_builder_move_1 (M_path_points : Fn) (x2 : Rw) (x3 x4 : Int) (N6 : Lp) (x0 x1 : Rw) (o15 : List AC) (x5 x6 x7 : Int) (x8 : Bool) (x9 x10 x11 : Int) (h1_0 : AC) : Option (List AC) :=
 (M_path_points [.view kItm x2, I x3, I x4]).bind fun o17 =>
 (N6 [.view kSgm x0, .view kPt x1, .view kPt (wA o17 0), I (↑(wA o17 0).length : Int), I 0, jA (nth [] x2 x3.toNat) 0, jA (nth [] x2 x3.toNat) 1, jA (nth [] x2 x3.toNat) 2, jA (nth [] x2 x3.toNat) 3, jA (nth [] x2 x3.toNat) 4, jA (nth [] x2 x3.toNat) 5, jA (nth [] x2 x3.toNat) 6, jA (nth [] x2 x3.toNat) 7, jA (nth [] x2 x3.toNat) 8, jA (nth [] x2 x3.toNat) 9, jA (nth [] x2 x3.toNat) 10, jA (nth [] x2 x3.toNat) 11, jA (nth [] x2 x3.toNat) 12, B (bA (nth [] x2 x3.toNat) 13), jA (nth [] x2 x3.toNat) 14, B (bA (nth [] x2 x3.toNat) 15), jA (nth [] x2 x3.toNat) 16, jA (nth [] x2 x3.toNat) 17, jA (nth [] x2 x3.toNat) 18, jA (nth [] x2 x3.toNat) 19, jA (nth [] x2 x3.toNat) 20, B (bA (nth [] x2 x3.toNat) 21), I 0, I 0, I 0, I 0, I x3, jA o15 0, h1_0, I x5, I x6, I x7, B x8, I x9, I x10, I x11]).bind fun o18 =>
 bif o18.1.beq 1 then
 some [.view kSgm (wA o18.2 0), .view kPt (wA o18.2 1), B (decide ((↑(wA o18.2 0).length : Int) <= 1048576)), jA o18.2 2, jA o18.2 3, jA o18.2 4, B (bA o18.2 5), jA o18.2 6, jA o18.2 7, jA o18.2 8]
 else
 none
attribute [go_sem] g_path_builder_move_1
abbrev g_path_check_1 (x0 x19 x20 : Int) : Option (List AC) :=
 bif x0 == 8 then
 bif decide (x19 < 3) then
 some [I 1]
 else
 bif decide (x19 > 5) then
 some [I 1]
 else
 bif decide (x20 < 0) then
 some [I 1]
 else
 bif decide (x20 > 30000) then
 some [I 1]
 else
 some [I 0]
 else
 some [I 0]
attribute [go_sem] g_path_check_1
abbrev g_s_path_build_18_2 (M_path_builder_move : Fn) (v0 v1 v2 : Rw) (v6 v7 v8 v9 : Int) (v10 : Bool) (v11 : Int) (h1_0 : AC) (v13 : Int) (M_path_builder_mark : Fn) (v4 : Rw) (v5 : Int) (h2_0 : AC) : Option (Nat × List AC) :=
 (M_path_builder_move [.view kSgm v0, .view kPt v1, .view kItm v2, I v6, h2_0, I v7, I v8, I v9, B v10, I v11, h1_0, I v13]).bind fun o57 =>
 bif !bA o57 2 then
 some (1, [.view kSgm (wA o57 0), .view kPt (wA o57 1), I 10, jA o57 3, jA o57 4, jA o57 5, B (bA o57 6), jA o57 7, jA o57 8, jA o57 9])
 else
 (M_path_builder_mark [.view kSgm (wA o57 0), .view kPt (wA o57 1), .view kItm v2, I v6, jA o57 3, jA o57 4, jA o57 5, B (bA o57 6), jA o57 7, jA o57 8, jA o57 9]).bind fun o58 =>
 some (0, [.view kSgm (wA o58 0), .view kPt (wA o58 1), .view kItm v2, I v6, .view kItm v4, I v5, I (IntKind.i64.wrap (v6 + 1)), jA o58 2, jA o58 3, jA o58 4, B (bA o58 5), jA o58 6, jA o58 7, jA o58 8])
attribute [go_sem] g_s_path_build_18_2
abbrev g_s_path_build_18_1 (M_path_motion : Fn) (v4 : Rw) (v6 v3 : Int) (M_path_soft : Fn) (v2 : Rw) (M_path_builder_move : Fn) (v0 v1 : Rw) (v7 v8 v9 : Int) (v10 : Bool) (v11 v13 : Int) (M_path_builder_mark : Fn) (v5 : Int) (M_path_next : Fn) (h1_0 : AC) : Option (Nat × List AC) :=
 (M_path_motion [jA (nth [] v4 v6.toNat) 0]).bind fun o55 =>
 bif bA o55 0 then
 bif decide (v3 >= 0) then
 (M_path_soft [.view kItm v2, I v3]).bind fun o56 =>
 bif !bA o56 0 then
 g_s_path_build_18_2 M_path_builder_move v0 v1 v2 v6 v7 v8 v9 v10 v11 h1_0 v13 M_path_builder_mark v4 v5 (I (-1))
 else
 (M_path_next [.view kItm v2, I v3]).bind fun o59 =>
 bif gA o59 0 != v6 then
 g_s_path_build_18_2 M_path_builder_move v0 v1 v2 v6 v7 v8 v9 v10 v11 h1_0 v13 M_path_builder_mark v4 v5 (I (-1))
 else
 g_s_path_build_18_2 M_path_builder_move v0 v1 v2 v6 v7 v8 v9 v10 v11 h1_0 v13 M_path_builder_mark v4 v5 (I v3)
 else
 g_s_path_build_18_2 M_path_builder_move v0 v1 v2 v6 v7 v8 v9 v10 v11 h1_0 v13 M_path_builder_mark v4 v5 (I v3)
 else
 (M_path_builder_mark [.view kSgm v0, .view kPt v1, .view kItm v2, I v6, I v7, I v8, I v9, B v10, I v11, h1_0, I v13]).bind fun o66 =>
 some (0, [.view kSgm (wA o66 0), .view kPt (wA o66 1), .view kItm v2, I v3, .view kItm v4, I v5, I (IntKind.i64.wrap (v6 + 1)), jA o66 2, jA o66 3, jA o66 4, B (bA o66 5), jA o66 6, jA o66 7, jA o66 8])
attribute [go_sem] g_s_path_build_18_1
end Go.Bm
