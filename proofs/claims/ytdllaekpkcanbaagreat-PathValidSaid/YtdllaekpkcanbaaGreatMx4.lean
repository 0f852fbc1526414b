/- functions of the program and of the references, as models -/
import Derived.Test.YtdllaekpkcanbaaGreatMx3
set_option linter.unusedSimpArgs false
set_option linter.unusedVariables false
set_option maxRecDepth 100000
noncomputable section
namespace Go.Bm
open Go.Proofs
def sig_cncmill_motion : Sk := { tmps := [tf [CS.ptr 20000 0], TS.v true [ci, ci, ci], tf [ci]], boxes := [(20000, 122, [CS.sl kInts, ci])], rows := [] }
def osig_cncmill_motion : Sk := { tmps := [TS.v true [ci, ci, ci, ci, ci, ci, ci, ci, ci, ci, ci, ci, ci, CS.bool, ci, CS.bool, ci, ci, ci, ci, ci, CS.bool]], boxes := [(20000, 122, [CS.sl kInts, ci])], rows := [] }
def C_cncmill_motion_0 (M_cncmill_Source_Next M_cncmill_arc : Fn) : Cfg := { spec := lookS [(73, spOf sig_cncmill_Source_Next osig_cncmill_Source_Next M_cncmill_Source_Next), (106, spOf sig_cncmill_arc osig_cncmill_arc M_cncmill_arc)], eqOk := eqAll, pure := fun f => !(elemN [73, 106] f), ownOff := ownOff }
def mf_cncmill_motion (M_cncmill_Source_Next M_cncmill_arc : Fn) : Fn := modelF Tryz.prog (C_cncmill_motion_0 M_cncmill_Source_Next M_cncmill_arc) 64 76 sig_cncmill_motion osig_cncmill_motion
abbrev g_cncmill_motion_2 (M_cncmill_Source_Next : Fn) (o20 : List AC) (x3 : Int) (h1_0 h1_1 h1_2 h1_3 h1_4 h1_5 h1_6 h1_7 h1_8 h1_9 h1_10 h1_11 h1_12 h1_13 h1_16 h1_17 h1_20 h1_21 : AC) : Option (List AC) :=
 (M_cncmill_Source_Next [I 60, .view kInts (wA o20 1), jA o20 2]).bind fun o21 =>
 bif x3 == 6 then
 (M_cncmill_Source_Next [I 2, .view kInts (wA o21 1), jA o21 2]).bind fun o22 =>
 some [h1_0, h1_1, h1_2, h1_3, h1_4, h1_5, h1_6, h1_7, h1_8, h1_9, h1_10, h1_11, h1_12, h1_13, I (IntKind.i64.wrap (1 + gA o21 0)), B true, h1_16, h1_17, I 0, I (IntKind.i64.wrap (3 + gA o22 0)), h1_20, h1_21, .view kInts (wA o22 1), jA o22 2]
 else
 some [h1_0, h1_1, h1_2, h1_3, h1_4, h1_5, h1_6, h1_7, h1_8, h1_9, h1_10, h1_11, h1_12, h1_13, I (IntKind.i64.wrap (1 + gA o21 0)), B true, h1_16, h1_17, I 0, I 0, h1_20, h1_21, .view kInts (wA o21 1), jA o21 2]
attribute [go_sem] g_cncmill_motion_2
abbrev g_cncmill_motion_1 (x3 : Int) (M_cncmill_Source_Next : Fn) (h1_0 h1_1 h1_2 h1_3 h1_4 h1_5 h1_6 h1_7 h1_8 h1_9 h1_10 h1_11 h1_12 h1_13 h1_14 h1_15 h1_16 h1_17 h1_18 h1_19 h1_20 h1_21 h1_22 h1_23 : AC) : Option (List AC) :=
 bif x3 == 1 then
 some [h1_0, h1_1, h1_2, h1_3, h1_4, h1_5, h1_6, h1_7, h1_8, h1_9, h1_10, h1_11, h1_12, h1_13, h1_14, h1_15, h1_16, h1_17, h1_18, h1_19, h1_20, h1_21, h1_22, h1_23]
 else
 (M_cncmill_Source_Next [I 5, h1_22, h1_23]).bind fun o19 =>
 bif decide (0 <= gA o19 0) && decide (gA o19 0 < (↑[[I 300000], [I 1], [I 60000], [I 2000000], [I 60000000]].length : Int)) then
 (M_cncmill_Source_Next [I 5, .view kInts (wA o19 1), jA o19 2]).bind fun o20 =>
 bif decide (0 <= gA o20 0) && decide (gA o20 0 < (↑[[I 0], [I 1], [I 2], [I 4], [I 9]].length : Int)) then
 bif x3 == 5 then
 g_cncmill_motion_2 M_cncmill_Source_Next o20 x3 h1_0 h1_1 h1_2 h1_3 h1_4 h1_5 h1_6 h1_7 h1_8 h1_9 h1_10 h1_11 h1_12 h1_13 h1_16 h1_17 h1_20 h1_21
 else
 bif x3 == 6 then
 g_cncmill_motion_2 M_cncmill_Source_Next o20 x3 h1_0 h1_1 h1_2 h1_3 h1_4 h1_5 h1_6 h1_7 h1_8 h1_9 h1_10 h1_11 h1_12 h1_13 h1_16 h1_17 h1_20 h1_21
 else
 bif x3 == 4 then
 some [h1_0, h1_1, h1_2, h1_3, h1_4, h1_5, h1_6, h1_7, h1_8, h1_9, h1_10, h1_11, h1_12, h1_13, I (intOf (nth .dead (nth [] [[I 300000], [I 1], [I 60000], [I 2000000], [I 60000000]] (gA o19 0).toNat) 0)), h1_15, h1_16, h1_17, I 0, h1_19, h1_20, h1_21, .view kInts (wA o20 1), jA o20 2]
 else
 some [h1_0, h1_1, h1_2, h1_3, h1_4, h1_5, h1_6, h1_7, h1_8, h1_9, h1_10, h1_11, h1_12, h1_13, I (intOf (nth .dead (nth [] [[I 300000], [I 1], [I 60000], [I 2000000], [I 60000000]] (gA o19 0).toNat) 0)), h1_15, h1_16, h1_17, I (intOf (nth .dead (nth [] [[I 0], [I 1], [I 2], [I 4], [I 9]] (gA o20 0).toNat) 0)), h1_19, h1_20, h1_21, .view kInts (wA o20 1), jA o20 2]
 else
 none
 else
 none
attribute [go_sem] g_cncmill_motion_1
theorem mf_cncmill_motion_eq (M_cncmill_Source_Next M_cncmill_arc : Fn) (x0 x1 x2 x3 : Int) (x4 : Rw) (x5 : Int) : mf_cncmill_motion M_cncmill_Source_Next M_cncmill_arc [I x0, I x1, I x2, I x3, .view kInts x4, I x5] =
 bif x3 == 3 then
 (M_cncmill_arc [I x0, I x1, I x2, I 8, .view kInts x4, I x5]).bind fun o18 =>
 g_cncmill_motion_1 x3 M_cncmill_Source_Next (jA o18 0) (jA o18 1) (jA o18 2) (jA o18 3) (jA o18 4) (jA o18 5) (jA o18 6) (jA o18 7) (jA o18 8) (jA o18 9) (jA o18 10) (jA o18 11) (jA o18 12) (B (bA o18 13)) (jA o18 14) (B (bA o18 15)) (jA o18 16) (jA o18 17) (jA o18 18) (jA o18 19) (jA o18 20) (B (bA o18 21)) (.view kInts (wA o18 22)) (jA o18 23)
 else
 (M_cncmill_Source_Next [I 25, .view kInts x4, I x5]).bind fun o25 =>
 (M_cncmill_Source_Next [I 25, .view kInts (wA o25 1), jA o25 2]).bind fun o26 =>
 (M_cncmill_Source_Next [I 3, .view kInts (wA o26 1), jA o26 2]).bind fun o27 =>
 (M_cncmill_Source_Next [I 9, .view kInts (wA o27 1), jA o27 2]).bind fun o28 =>
 (M_cncmill_Source_Next [I 2, .view kInts (wA o28 1), jA o28 2]).bind fun o29 =>
 g_cncmill_motion_1 x3 M_cncmill_Source_Next (I x3) (I 0) (I x0) (I x1) (I x2) (I (IntKind.i64.wrap (IntKind.i64.wrap (x0 + gA o25 0) - 12))) (I (IntKind.i64.wrap (IntKind.i64.wrap (x1 + gA o26 0) - 12))) (I (IntKind.i64.wrap (IntKind.i64.wrap (x2 + IntKind.i64.wrap (gA o27 0 * gA o28 0)) - IntKind.i64.wrap (8 * gA o29 0)))) (I 0) (I 0) (I 0) (I 0) (I 0) (B false) (I 0) (B false) (I 0) (I 0) (I 0) (I 0) (I 0) (B false) (.view kInts (wA o29 1)) (jA o29 2) := by kernel_rfl
def m_cncmill_motion := mf_cncmill_motion m_cncmill_Source_Next m_cncmill_arc 
theorem sp_cncmill_motion : SpecOK Tryz.prog (C_cncmill_motion_0 m_cncmill_Source_Next m_cncmill_arc) := specOK_of rfl ⟨r_cncmill_Source_Next, r_cncmill_arc, trivial⟩
theorem r_cncmill_motion : RowOK Tryz.prog (76, spOf sig_cncmill_motion osig_cncmill_motion m_cncmill_motion) := row_of (C := (C_cncmill_motion_0 m_cncmill_Source_Next m_cncmill_arc)) (L := 64) (by kernel_rfl) (FnOK.bare rfl rfl rfl) sp_cncmill_motion eqOk mixOk (by kernel_rfl) (by kernel_rfl)
def sig_cncmill_Source_Left : Sk := { tmps := [tf [CS.ptr 20000 0]], boxes := [(20000, 122, [CS.sl kInts, ci])], rows := [] }
def osig_cncmill_Source_Left : Sk := { tmps := [tf [CS.bool]], boxes := [(20000, 122, [CS.sl kInts, ci])], rows := [] }
def C_cncmill_Source_Left_0 : Cfg := { spec := lookS [], eqOk := eqAll, ownOff := ownOff }
def mf_cncmill_Source_Left : Fn := modelF Tryz.prog C_cncmill_Source_Left_0 64 74 sig_cncmill_Source_Left osig_cncmill_Source_Left
theorem mf_cncmill_Source_Left_eq (x0 : Rw) (x1 : Int) : mf_cncmill_Source_Left [.view kInts x0, I x1] =
 some [B (decide (x1 < (x0.length : Int))), .view kInts x0, I x1] := by kernel_rfl
def m_cncmill_Source_Left := mf_cncmill_Source_Left 
theorem sp_cncmill_Source_Left : SpecOK Tryz.prog (C_cncmill_Source_Left_0 ) := specOK_of rfl trivial
theorem r_cncmill_Source_Left : RowOK Tryz.prog (74, spOf sig_cncmill_Source_Left osig_cncmill_Source_Left m_cncmill_Source_Left) := row_of (C := C_cncmill_Source_Left_0) (L := 64) (by kernel_rfl) (FnOK.bare rfl rfl rfl) sp_cncmill_Source_Left eqOk mixOk (by kernel_rfl) (by kernel_rfl)
def sig_cncmill_From : Sk := { tmps := [tf [CS.sl kInts]], boxes := [], rows := [] }
def osig_cncmill_From : Sk := { tmps := [tf [CS.ptr 5 0]], boxes := [(5, 122, [CS.sl kInts, ci])], rows := [] }
def C_cncmill_From_0 : Cfg := { spec := lookS [], eqOk := eqAll, ownOff := ownOff }
def mf_cncmill_From : Fn := modelF Tryz.prog C_cncmill_From_0 64 60 sig_cncmill_From osig_cncmill_From
theorem mf_cncmill_From_eq (x0 : Rw) : mf_cncmill_From [.view kInts x0] =
 some [.view kInts x0, I 0] := by kernel_rfl
def m_cncmill_From := mf_cncmill_From 
theorem sp_cncmill_From : SpecOK Tryz.prog (C_cncmill_From_0 ) := specOK_of rfl trivial
theorem r_cncmill_From : RowOK Tryz.prog (60, spOf sig_cncmill_From osig_cncmill_From m_cncmill_From) := row_of (C := C_cncmill_From_0) (L := 64) (by kernel_rfl) (FnOK.bare rfl rfl rfl) sp_cncmill_From eqOk mixOk (by kernel_rfl) (by kernel_rfl)
def sig_cncmill_Motions : Sk := { tmps := [tf [CS.sl kInts], tf [ci]], boxes := [], rows := [] }
def osig_cncmill_Motions : Sk := { tmps := [tf [CS.sl kItm]], boxes := [], rows := [] }
def C_cncmill_Motions_0 (M_cncmill_motion M_cncmill_Source_Left M_cncmill_Source_Next M_cncmill_From : Fn) : Cfg := { spec := lookS [(76, spOf sig_cncmill_motion osig_cncmill_motion M_cncmill_motion), (74, spOf sig_cncmill_Source_Left osig_cncmill_Source_Left M_cncmill_Source_Left), (73, spOf sig_cncmill_Source_Next osig_cncmill_Source_Next M_cncmill_Source_Next), (60, spOf sig_cncmill_From osig_cncmill_From M_cncmill_From)], eqOk := eqAll, pure := fun f => !(elemN [76, 74, 73, 60] f), ownOff := ownOff, prom := fun b => bif Nat.beq b 4 then [(6, 67)] else [] }
def sk_cncmill_Motions_4 : Sk := { tmps := [td, tf [ci], td, td, td, tf [CS.ptr 101000 0], tf [CS.own 6 22], tf [CS.ptr 7 0]] ++ dd 36, boxes := [(7, 65, [ci, ci, ci]), (101000, 122, [CS.sl kInts, ci])], rows := [(6, 67, kItm)] }
def ex_cncmill_Motions_4 : List (Ex × Sk) := [(Ex.exit 0, { tmps := [td, td, td, td, td, td, tf [CS.own 6 22]] ++ dd 37, boxes := [], rows := [(6, 67, kItm)] })]
def st_cncmill_Motions_4 (M_cncmill_motion M_cncmill_Source_Left M_cncmill_Source_Next M_cncmill_From : Fn) : Lp := stepL Tryz.prog (C_cncmill_Motions_0 M_cncmill_motion M_cncmill_Source_Left M_cncmill_Source_Next M_cncmill_From) 64 4 (bodyOf Tryz.prog 59 4) sk_cncmill_Motions_4 ex_cncmill_Motions_4
def C_cncmill_Motions_1 (M_cncmill_motion M_cncmill_Source_Left M_cncmill_Source_Next M_cncmill_From : Fn) (N4 : Lp) : Cfg := (C_cncmill_Motions_0 M_cncmill_motion M_cncmill_Source_Left M_cncmill_Source_Next M_cncmill_From).loop 4 sk_cncmill_Motions_4 ex_cncmill_Motions_4 N4
def mf_cncmill_Motions (M_cncmill_motion M_cncmill_Source_Left M_cncmill_Source_Next M_cncmill_From : Fn) (N4 : Lp) : Fn := modelF Tryz.prog (C_cncmill_Motions_1 M_cncmill_motion M_cncmill_Source_Left M_cncmill_Source_Next M_cncmill_From N4) 64 59 sig_cncmill_Motions osig_cncmill_Motions
theorem st_cncmill_Motions_4_eq (M_cncmill_motion M_cncmill_Source_Left M_cncmill_Source_Next M_cncmill_From : Fn) (v0 : Rw) (v1 v2 v3 v4 : Int) (v5 : Rw) (v6 : Int) : st_cncmill_Motions_4 M_cncmill_motion M_cncmill_Source_Left M_cncmill_Source_Next M_cncmill_From [.view kItm v0, I v1, I v2, I v3, I v4, .view kInts v5, I v6] =
 bif decide ((v0.length : Int) < v1) then
 (M_cncmill_Source_Left [.view kInts v5, I v6]).bind fun o19 =>
 bif bA o19 0 then
 (M_cncmill_Source_Next [I 5, .view kInts (wA o19 1), jA o19 2]).bind fun o20 =>
 bif decide (0 <= gA o20 0) && decide (gA o20 0 < (↑[[I 2], [I 2], [I 2], [I 3], [I 1]].length : Int)) then
 (M_cncmill_motion [I v2, I v3, I v4, I (intOf (nth .dead (nth [] [[I 2], [I 2], [I 2], [I 3], [I 1]] (gA o20 0).toNat) 0)), .view kInts (wA o20 1), jA o20 2]).bind fun o21 =>
 bif ((v0 ++ [[jA o21 0, jA o21 1, jA o21 2, jA o21 3, jA o21 4, jA o21 5, jA o21 6, jA o21 7, jA o21 8, jA o21 9, jA o21 10, jA o21 11, jA o21 12, B (bA o21 13), jA o21 14, B (bA o21 15), jA o21 16, jA o21 17, jA o21 18, jA o21 19, jA o21 20, B (bA o21 21)]]).length * 176).ble 140737488355328 then
 some (0, [.view kItm (v0 ++ [[jA o21 0, jA o21 1, jA o21 2, jA o21 3, jA o21 4, jA o21 5, jA o21 6, jA o21 7, jA o21 8, jA o21 9, jA o21 10, jA o21 11, jA o21 12, B (bA o21 13), jA o21 14, B (bA o21 15), jA o21 16, jA o21 17, jA o21 18, jA o21 19, jA o21 20, B (bA o21 21)]]), I v1, jA o21 5, jA o21 6, jA o21 7, .view kInts (wA o21 22), jA o21 23])
 else
 none
 else
 none
 else
 some (1, [.view kItm v0])
 else
 some (1, [.view kItm v0]) := by kernel_rfl
theorem mf_cncmill_Motions_eq (M_cncmill_motion M_cncmill_Source_Left M_cncmill_Source_Next M_cncmill_From : Fn) (N4 : Lp) (x0 : Rw) (x1 : Int) : mf_cncmill_Motions M_cncmill_motion M_cncmill_Source_Left M_cncmill_Source_Next M_cncmill_From N4 [.view kInts x0, I x1] =
 (M_cncmill_From [.view kInts x0]).bind fun o22 =>
 (M_cncmill_Source_Next [I 9, .view kInts (wA o22 0), jA o22 1]).bind fun o23 =>
 (M_cncmill_Source_Next [I 9, .view kInts (wA o23 1), jA o23 2]).bind fun o24 =>
 (M_cncmill_Source_Next [I 9, .view kInts (wA o24 1), jA o24 2]).bind fun o25 =>
 (N4 [.view kItm [], I x1, I (IntKind.i64.wrap (gA o23 0 - 4)), I (IntKind.i64.wrap (gA o24 0 - 4)), I (IntKind.i64.wrap (gA o25 0 - 4)), .view kInts (wA o25 1), jA o25 2]).bind fun o26 =>
 bif o26.1.beq 1 then
 some [.view kItm (wA o26.2 0)]
 else
 none := by kernel_rfl
def l_cncmill_Motions_4 := loopC (st_cncmill_Motions_4 m_cncmill_motion m_cncmill_Source_Left m_cncmill_Source_Next m_cncmill_From )
def m_cncmill_Motions := mf_cncmill_Motions m_cncmill_motion m_cncmill_Source_Left m_cncmill_Source_Next m_cncmill_From l_cncmill_Motions_4
theorem sp_cncmill_Motions : SpecOK Tryz.prog (C_cncmill_Motions_0 m_cncmill_motion m_cncmill_Source_Left m_cncmill_Source_Next m_cncmill_From) := specOK_of rfl ⟨r_cncmill_motion, r_cncmill_Source_Left, r_cncmill_Source_Next, r_cncmill_From, trivial⟩
theorem r_cncmill_Motions : RowOK Tryz.prog (59, spOf sig_cncmill_Motions osig_cncmill_Motions m_cncmill_Motions) := row_of (C := (C_cncmill_Motions_1 m_cncmill_motion m_cncmill_Source_Left m_cncmill_Source_Next m_cncmill_From l_cncmill_Motions_4)) (L := 64) (by kernel_rfl) ((FnOK.bare rfl rfl rfl).loop sp_cncmill_Motions eqOk mixOk (by kernel_rfl) (by kernel_rfl)) sp_cncmill_Motions eqOk mixOk (by kernel_rfl) (by kernel_rfl)
def sig_cncmill_Path : Sk := { tmps := [tf [CS.sl kInts], tf [ci]], boxes := [], rows := [] }
def osig_cncmill_Path : Sk := { tmps := [TS.v true [ci, ci, ci, CS.sl kSgm, CS.sl kPt]], boxes := [], rows := [] }
def C_cncmill_Path_0 (M_cncref25_Build M_cncmill_Motions : Fn) : Cfg := { spec := lookS [(43, spOf sig_cncref25_Build osig_cncref25_Build M_cncref25_Build), (59, spOf sig_cncmill_Motions osig_cncmill_Motions M_cncmill_Motions)], eqOk := eqAll, ownOff := ownOff }
def mf_cncmill_Path (M_cncref25_Build M_cncmill_Motions : Fn) : Fn := modelF Tryz.prog (C_cncmill_Path_0 M_cncref25_Build M_cncmill_Motions) 64 22 sig_cncmill_Path osig_cncmill_Path
theorem mf_cncmill_Path_eq (M_cncref25_Build M_cncmill_Motions : Fn) (x0 : Rw) (x1 : Int) : mf_cncmill_Path M_cncref25_Build M_cncmill_Motions [.view kInts x0, I x1] =
 (M_cncmill_Motions [.view kInts x0, I x1]).bind fun o2 =>
 (M_cncref25_Build [.view kItm (wA o2 0)]).bind fun o3 =>
 some [jA o3 0, jA o3 1, jA o3 2, .view kSgm (wA o3 3), .view kPt (wA o3 4)] := by kernel_rfl
def m_cncmill_Path := mf_cncmill_Path m_cncref25_Build m_cncmill_Motions 
theorem sp_cncmill_Path : SpecOK Tryz.prog (C_cncmill_Path_0 m_cncref25_Build m_cncmill_Motions) := specOK_of rfl ⟨r_cncref25_Build, r_cncmill_Motions, trivial⟩
theorem r_cncmill_Path : RowOK Tryz.prog (22, spOf sig_cncmill_Path osig_cncmill_Path m_cncmill_Path) := row_of (C := (C_cncmill_Path_0 m_cncref25_Build m_cncmill_Motions)) (L := 64) (by kernel_rfl) (FnOK.bare rfl rfl rfl) sp_cncmill_Path eqOk mixOk (by kernel_rfl) (by kernel_rfl)
abbrev g_wide_MulDiv_1 (M_wide_grows : Fn) (x3 : Int) (o31 : List AC) (M_wide_signed : Fn) (h1_0 h1_1 : AC) : Option (List AC) :=
 (M_wide_grows [I x3, h1_0, B (decide (gA o31 1 > 0)), h1_1]).bind fun o34 =>
 bif bA o34 0 then
 bif IntKind.u64.wrap (gA o31 0 + 1) == 0 then
 some [I 0, B false]
 else
 (M_wide_signed [U (IntKind.u64.wrap (gA o31 0 + 1)), h1_1]).bind fun o35 =>
 some [jA o35 0, B (bA o35 1)]
 else
 (M_wide_signed [U (gA o31 0), h1_1]).bind fun o36 =>
 some [jA o36 0, B (bA o36 1)]
attribute [go_sem] g_wide_MulDiv_1
abbrev g_wide_MulDiv_2 (o31 o30 : List AC) (M_wide_grows : Fn) (x3 : Int) (M_wide_signed : Fn) (h2_0 : AC) : Option (List AC) :=
 bif decide (gA o31 1 > IntKind.u64.wrap (gA o30 0 - gA o31 1)) then
 g_wide_MulDiv_1 M_wide_grows x3 o31 M_wide_signed (I 1) h2_0
 else
 bif decide (gA o31 1 < IntKind.u64.wrap (gA o30 0 - gA o31 1)) then
 g_wide_MulDiv_1 M_wide_grows x3 o31 M_wide_signed (I (-1)) h2_0
 else
 g_wide_MulDiv_1 M_wide_grows x3 o31 M_wide_signed (I 0) h2_0
attribute [go_sem] g_wide_MulDiv_2
abbrev g_cncmill_other_1 (M_cncmill_Source_Next : Fn) (o8 : List AC) : Option (List AC) :=
 (M_cncmill_Source_Next [I 16, .view kInts (wA o8 1), jA o8 2]).bind fun o9 =>
 (M_cncmill_Source_Next [I 2, .view kInts (wA o9 1), jA o9 2]).bind fun o10 =>
 some [I 10, I 0, I 0, I 0, I 0, I 0, I 0, I 0, I 0, I 0, I 0, I 0, I 0, B false, I 0, B false, I 0, I 0, I 0, jA o9 0, I 0, B (gA o10 0 == 0), .view kInts (wA o10 1), jA o10 2]
attribute [go_sem] g_cncmill_other_1
abbrev g_path_builder_mark_1 (M_path_motion : Fn) (x2 : Rw) (x3 : Int) (x1 : Rw) (x8 : Int) (x0 : Rw) (x4 x5 x6 : Int) (x7 : Bool) (x9 x10 : Int) : Option (List AC) :=
 (M_path_motion [jA (nth [] x2 x3.toNat) 0]).bind fun o6 =>
 bif bA o6 0 then
 bif ((x1 ++ [[I x8, I 2, I x3]]).length * 24).ble 140737488355328 then
 some [.view kSgm x0, .view kPt (x1 ++ [[I x8, I 2, I x3]]), I x4, I x5, I x6, B x7, I x8, I x9, I x10]
 else
 none
 else
 bif gA (nth [] x2 x3.toNat) 0 == 10 then
 bif ((x1 ++ [[I x8, I 5, I x3]]).length * 24).ble 140737488355328 then
 some [.view kSgm x0, .view kPt (x1 ++ [[I x8, I 5, I x3]]), I x4, I x5, I x6, B x7, I x8, I x9, I x10]
 else
 none
 else
 bif gA (nth [] x2 x3.toNat) 0 == 13 then
 bif ((x1 ++ [[I x8, I 4, I x3]]).length * 24).ble 140737488355328 then
 some [.view kSgm x0, .view kPt (x1 ++ [[I x8, I 4, I x3]]), I x4, I x5, I x6, B x7, I x8, I x9, I x10]
 else
 none
 else
 bif ((x1 ++ [[I x8, I 3, I x3]]).length * 24).ble 140737488355328 then
 some [.view kSgm x0, .view kPt (x1 ++ [[I x8, I 3, I x3]]), I x4, I x5, I x6, B x7, I x8, I x9, I x10]
 else
 none
attribute [go_sem] g_path_builder_mark_1
abbrev g_path_builder_add_1 (x15 : Bool) (x0 x1 : Rw) (x2 x3 x4 x16 x17 x18 x12 x13 x14 : Int) (M_curve_Length : Fn) (x9 x10 x11 : Int) (h1_0 : Bool) (h1_1 h1_2 h1_3 : AC) : Option (List AC) :=
 bif !x15 then
 some [.view kSgm x0, .view kPt x1, I x2, I x3, I x4, B true, I x16, I x17, I x18]
 else
 bif h1_0 then
 some [.view kSgm x0, .view kPt x1, I x12, I x13, I x14, B x15, I x16, I x17, I x18]
 else
 (M_curve_Length [h1_1, h1_2, h1_3, I x2, I x3, I x4]).bind fun o2 =>
 bif ((x0 ++ [[I x2, I x3, I x4, jA o2 0, I x9, I x10, I x11]]).length * 56).ble 140737488355328 then
 some [.view kSgm (x0 ++ [[I x2, I x3, I x4, jA o2 0, I x9, I x10, I x11]]), .view kPt x1, I x12, I x13, I x14, B x15, I (IntKind.i64.wrap (x16 + gA o2 0)), I x17, I x18]
 else
 none
attribute [go_sem] g_path_builder_add_1
abbrev g_wide_Over_1 (M_wide_grows : Fn) (x3 : Int) (M_wide_signed : Fn) (o42 : List AC) (h1_0 : Bool) (h1_1 h1_2 h1_3 h1_4 : AC) : Option (List AC) :=
 bif h1_0 then
 (M_wide_grows [I x3, h1_1, B true, h1_2]).bind fun o44 =>
 bif bA o44 0 then
 (M_wide_signed [U (IntKind.u64.wrap (IntKind.u64.wrap ((gA o42 0).tdiv 2) + 1)), h1_2]).bind fun o45 =>
 some [jA o45 0, B (bA o45 1)]
 else
 (M_wide_signed [U (IntKind.u64.wrap ((gA o42 0).tdiv 2)), h1_2]).bind fun o46 =>
 some [jA o46 0, B (bA o46 1)]
 else
 (M_wide_grows [I x3, h1_3, h1_4, h1_2]).bind fun o47 =>
 bif bA o47 0 then
 (M_wide_signed [U (IntKind.u64.wrap (IntKind.u64.wrap ((gA o42 0).tdiv 2) + 1)), h1_2]).bind fun o48 =>
 some [jA o48 0, B (bA o48 1)]
 else
 (M_wide_signed [U (IntKind.u64.wrap ((gA o42 0).tdiv 2)), h1_2]).bind fun o49 =>
 some [jA o49 0, B (bA o49 1)]
attribute [go_sem] g_wide_Over_1
abbrev g_curve_Space_2 (o1 : List AC) (x2 : Int) (h2_0 h2_1 h2_2 : AC) : Option (List AC) :=
 bif decide (gA o1 2 = (↑0 : Int)) then
 some [I x2, h2_0, h2_1]
 else
 bif decide (gA o1 2 = (↑(0 + 1) : Int)) then
 some [h2_2, I x2, h2_1]
 else
 bif decide (gA o1 2 = (↑(0 + 1 + 1) : Int)) then
 some [h2_2, h2_0, I x2]
 else
 none
attribute [go_sem] g_curve_Space_2
abbrev g_curve_Space_1 (o1 : List AC) (x2 x1 : Int) (h1_0 h1_1 h1_2 : AC) : Option (List AC) :=
 bif decide (gA o1 1 = (↑0 : Int)) then
 g_curve_Space_2 o1 x2 h1_0 h1_1 (I x1)
 else
 bif decide (gA o1 1 = (↑(0 + 1) : Int)) then
 g_curve_Space_2 o1 x2 (I x1) h1_1 h1_2
 else
 bif decide (gA o1 1 = (↑(0 + 1 + 1) : Int)) then
 g_curve_Space_2 o1 x2 h1_0 (I x1) h1_2
 else
 none
attribute [go_sem] g_curve_Space_1
abbrev g_curve_Plane_2 (o1 : List AC) (h1_0 : AC) (x0 x1 x2 : Int) (h2_0 : AC) : Option (List AC) :=
 bif decide (gA o1 2 = (↑0 : Int)) then
 some [h1_0, h2_0, I x0]
 else
 bif decide (gA o1 2 = (↑(0 + 1) : Int)) then
 some [h1_0, h2_0, I x1]
 else
 bif decide (gA o1 2 = (↑(0 + 1 + 1) : Int)) then
 some [h1_0, h2_0, I x2]
 else
 none
attribute [go_sem] g_curve_Plane_2
abbrev g_curve_Plane_1 (o1 : List AC) (x0 x1 x2 : Int) (h1_0 : AC) : Option (List AC) :=
 bif decide (gA o1 1 = (↑0 : Int)) then
 g_curve_Plane_2 o1 h1_0 x0 x1 x2 (I x0)
 else
 bif decide (gA o1 1 = (↑(0 + 1) : Int)) then
 g_curve_Plane_2 o1 h1_0 x0 x1 x2 (I x1)
 else
 bif decide (gA o1 1 = (↑(0 + 1 + 1) : Int)) then
 g_curve_Plane_2 o1 h1_0 x0 x1 x2 (I x2)
 else
 none
attribute [go_sem] g_curve_Plane_1
abbrev g_curve_Middle_3 (M_wide_Over : Fn) (h1_2 : AC) (x2 x6 : Int) (h1_3 h1_4 : AC) (x3 x7 : Int) : Option (List AC) :=
 (M_wide_Over [h1_2, I ((IntKind.i64.wrap (IntKind.i64.wrap (x2 + x6) + 1)).fdiv (2 ^ min (Int.toNat 1) IntKind.i64.bits)), h1_3, I 2]).bind fun o36 =>
 (M_wide_Over [h1_4, I ((IntKind.i64.wrap (IntKind.i64.wrap (x2 + x6) + 1)).fdiv (2 ^ min (Int.toNat 1) IntKind.i64.bits)), h1_3, I 2]).bind fun o37 =>
 some [jA o36 0, jA o37 0, I ((IntKind.i64.wrap (IntKind.i64.wrap (x2 + x6) + 1)).fdiv (2 ^ min (Int.toNat 1) IntKind.i64.bits)), I ((IntKind.i64.wrap (IntKind.i64.wrap (x3 + x7) + 1)).fdiv (2 ^ min (Int.toNat 1) IntKind.i64.bits)), B true]
attribute [go_sem] g_curve_Middle_3
abbrev g_curve_Middle_1 (M_wide_Over : Fn) (x2 x6 x3 x7 : Int) (h1_0 h1_1 : Bool) (h1_2 h1_3 h1_4 : AC) : Option (List AC) :=
 bif h1_0 then
 bif h1_1 then
 some [I 0, I 0, I 0, I 0, B false]
 else
 g_curve_Middle_3 M_wide_Over h1_2 x2 x6 h1_3 h1_4 x3 x7
 else
 g_curve_Middle_3 M_wide_Over h1_2 x2 x6 h1_3 h1_4 x3 x7
attribute [go_sem] g_curve_Middle_1
abbrev g_curve_Middle_2 (x9 : Bool) (M_wide_Over : Fn) (x2 x6 x3 x7 x0 x1 : Int) (M_curve_dot : Fn) (x4 x5 x8 : Int) (M_curve_cross : Fn) : Option (List AC) :=
 bif x9 then
 g_curve_Middle_1 M_wide_Over x2 x6 x3 x7 (IntKind.i64.wrap (0 - x0) == 0) (IntKind.i64.wrap (0 - x1) == 0) (I (IntKind.i64.wrap (0 - x0))) (I (IntKind.i64.wrap (IntKind.i64.wrap (IntKind.i64.wrap (0 - x0) * IntKind.i64.wrap (0 - x0)) + IntKind.i64.wrap (IntKind.i64.wrap (0 - x1) * IntKind.i64.wrap (0 - x1))))) (I (IntKind.i64.wrap (0 - x1)))
 else
 (M_curve_dot [I x0, I x1, I x2, I x3, I x4, I x5, I x6, I x7]).bind fun o40 =>
 bif decide (gA o40 0 <= 0) then
 g_curve_Middle_1 M_wide_Over x2 x6 x3 x7 (IntKind.i64.wrap (x8 * IntKind.i64.wrap (x5 - x1)) == 0) (IntKind.i64.wrap (x8 * IntKind.i64.wrap (x0 - x4)) == 0) (I (IntKind.i64.wrap (x8 * IntKind.i64.wrap (x5 - x1)))) (I (IntKind.i64.wrap (IntKind.i64.wrap (IntKind.i64.wrap (x8 * IntKind.i64.wrap (x5 - x1)) * IntKind.i64.wrap (x8 * IntKind.i64.wrap (x5 - x1))) + IntKind.i64.wrap (IntKind.i64.wrap (x8 * IntKind.i64.wrap (x0 - x4)) * IntKind.i64.wrap (x8 * IntKind.i64.wrap (x0 - x4)))))) (I (IntKind.i64.wrap (x8 * IntKind.i64.wrap (x0 - x4))))
 else
 (M_curve_cross [I x0, I x1, I x2, I x3, I x4, I x5, I x6, I x7]).bind fun o45 =>
 bif decide (IntKind.i64.wrap (gA o45 0 * x8) <= 0) then
 g_curve_Middle_1 M_wide_Over x2 x6 x3 x7 (IntKind.i64.wrap (0 - IntKind.i64.wrap (x0 + x4)) == 0) (IntKind.i64.wrap (0 - IntKind.i64.wrap (x1 + x5)) == 0) (I (IntKind.i64.wrap (0 - IntKind.i64.wrap (x0 + x4)))) (I (IntKind.i64.wrap (IntKind.i64.wrap (IntKind.i64.wrap (0 - IntKind.i64.wrap (x0 + x4)) * IntKind.i64.wrap (0 - IntKind.i64.wrap (x0 + x4))) + IntKind.i64.wrap (IntKind.i64.wrap (0 - IntKind.i64.wrap (x1 + x5)) * IntKind.i64.wrap (0 - IntKind.i64.wrap (x1 + x5)))))) (I (IntKind.i64.wrap (0 - IntKind.i64.wrap (x1 + x5))))
 else
 g_curve_Middle_1 M_wide_Over x2 x6 x3 x7 (IntKind.i64.wrap (x0 + x4) == 0) (IntKind.i64.wrap (x1 + x5) == 0) (I (IntKind.i64.wrap (x0 + x4))) (I (IntKind.i64.wrap (IntKind.i64.wrap (IntKind.i64.wrap (x0 + x4) * IntKind.i64.wrap (x0 + x4)) + IntKind.i64.wrap (IntKind.i64.wrap (x1 + x5) * IntKind.i64.wrap (x1 + x5))))) (I (IntKind.i64.wrap (x1 + x5)))
attribute [go_sem] g_curve_Middle_2
end Go.Bm
