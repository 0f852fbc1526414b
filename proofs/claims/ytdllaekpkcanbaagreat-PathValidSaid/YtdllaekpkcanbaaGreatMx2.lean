/- functions of the program and of the references, as models -/
import Derived.Test.YtdllaekpkcanbaaGreatMx1
set_option linter.unusedSimpArgs false
set_option linter.unusedVariables false
set_option maxRecDepth 100000
noncomputable section
namespace Go.Bm
open Go.Proofs
def sig_cncref23_Valid : Sk := { tmps := [TS.v true [ci, ci, ci, ci, ci, ci, ci, ci, ci, ci, ci, ci, ci, CS.bool, ci, CS.bool, ci, ci, ci, ci, ci, CS.bool]], boxes := [], rows := [] }
def osig_cncref23_Valid : Sk := { tmps := [tf [CS.bool]], boxes := [], rows := [] }
def C_cncref23_Valid_0 (M_cncref23_Cross M_cncref01_Cmp M_cncref23_Dot M_cncref23_ends M_cncref23_within M_cncref23_Motion : Fn) : Cfg := { spec := lookS [(150, spOf sig_cncref23_Cross osig_cncref23_Cross M_cncref23_Cross), (149, spOf sig_cncref01_Cmp osig_cncref01_Cmp M_cncref01_Cmp), (148, spOf sig_cncref23_Dot osig_cncref23_Dot M_cncref23_Dot), (147, spOf sig_cncref23_ends osig_cncref23_ends M_cncref23_ends), (146, spOf sig_cncref23_within osig_cncref23_within M_cncref23_within), (79, spOf sig_cncref23_Motion osig_cncref23_Motion M_cncref23_Motion)], eqOk := eqAll, ownOff := ownOff }
def mf_cncref23_Valid (M_cncref23_Cross M_cncref01_Cmp M_cncref23_Dot M_cncref23_ends M_cncref23_within M_cncref23_Motion : Fn) : Fn := modelF Tryz.prog (C_cncref23_Valid_0 M_cncref23_Cross M_cncref01_Cmp M_cncref23_Dot M_cncref23_ends M_cncref23_within M_cncref23_Motion) 64 133 sig_cncref23_Valid osig_cncref23_Valid
abbrev g_cncref23_Valid_2 (x13 : Bool) (o61 : List AC) (M_cncref23_Cross M_cncref23_Dot : Fn) : Option (List AC) :=
 bif x13 then
 bif gA o61 0 == gA o61 4 then
 some [B (gA o61 1 == gA o61 5)]
 else
 some [B false]
 else
 (M_cncref23_Cross [jA o61 0, jA o61 1, jA o61 2, jA o61 3, jA o61 4, jA o61 5, jA o61 6, jA o61 7]).bind fun o65 =>
 bif gA o65 0 != 0 then
 some [B true]
 else
 (M_cncref23_Dot [jA o61 0, jA o61 1, jA o61 2, jA o61 3, jA o61 4, jA o61 5, jA o61 6, jA o61 7]).bind fun o66 =>
 some [B (decide (gA o66 0 < 0))]
attribute [go_sem] g_cncref23_Valid_2
abbrev g_cncref23_Valid_1 (M_cncref23_within : Fn) (x9 x10 x11 : Int) (M_cncref23_ends : Fn) (x0 x1 x2 x3 x4 x5 x6 x7 x8 x12 : Int) (x13 : Bool) (x14 : Int) (x15 : Bool) (x16 x17 x18 x19 x20 : Int) (x21 : Bool) (M_cncref23_Dot M_cncref01_Cmp M_cncref23_Cross : Fn) : Option (List AC) :=
 (M_cncref23_within [I x9, I x10, I x11]).bind fun o60 =>
 bif !bA o60 0 then
 some [B false]
 else
 (M_cncref23_ends [I x0, I x1, I x2, I x3, I x4, I x5, I x6, I x7, I x8, I x9, I x10, I x11, I x12, B x13, I x14, B x15, I x16, I x17, I x18, I x19, I x20, B x21]).bind fun o61 =>
 (M_cncref23_Dot [jA o61 0, jA o61 1, jA o61 2, jA o61 3, jA o61 0, jA o61 1, jA o61 2, jA o61 3]).bind fun o62 =>
 (M_cncref23_Dot [jA o61 4, jA o61 5, jA o61 6, jA o61 7, jA o61 4, jA o61 5, jA o61 6, jA o61 7]).bind fun o63 =>
 bif decide (gA o62 0 < 64) then
 some [B false]
 else
 bif decide (gA o63 0 < 64) then
 some [B false]
 else
 bif decide (IntKind.i64.wrap (IntKind.i64.wrap (gA o62 0 + gA o63 0) - 16) > 0) then
 (M_cncref01_Cmp [I (IntKind.i64.wrap (IntKind.i64.wrap (gA o62 0 + gA o63 0) - 16)), I (IntKind.i64.wrap (IntKind.i64.wrap (gA o62 0 + gA o63 0) - 16)), I (IntKind.i64.wrap (4 * gA o62 0)), jA o63 0]).bind fun o64 =>
 bif decide (gA o64 0 > 0) then
 some [B false]
 else
 g_cncref23_Valid_2 x13 o61 M_cncref23_Cross M_cncref23_Dot
 else
 g_cncref23_Valid_2 x13 o61 M_cncref23_Cross M_cncref23_Dot
attribute [go_sem] g_cncref23_Valid_1
theorem mf_cncref23_Valid_eq (M_cncref23_Cross M_cncref01_Cmp M_cncref23_Dot M_cncref23_ends M_cncref23_within M_cncref23_Motion : Fn) (x0 x1 x2 x3 x4 x5 x6 x7 x8 x9 x10 x11 x12 : Int) (x13 : Bool) (x14 : Int) (x15 : Bool) (x16 x17 x18 x19 x20 : Int) (x21 : Bool) : mf_cncref23_Valid M_cncref23_Cross M_cncref01_Cmp M_cncref23_Dot M_cncref23_ends M_cncref23_within M_cncref23_Motion [I x0, I x1, I x2, I x3, I x4, I x5, I x6, I x7, I x8, I x9, I x10, I x11, I x12, B x13, I x14, B x15, I x16, I x17, I x18, I x19, I x20, B x21] =
 (M_cncref23_Motion [I x0]).bind fun o57 =>
 bif !bA o57 0 then
 some [B false]
 else
 (M_cncref23_within [I x2, I x3, I x4]).bind fun o58 =>
 bif !bA o58 0 then
 some [B false]
 else
 (M_cncref23_within [I x5, I x6, I x7]).bind fun o59 =>
 bif !bA o59 0 then
 some [B false]
 else
 bif x0 != 3 then
 some [B true]
 else
 bif x8 != 17 then
 bif x8 != 18 then
 bif x8 != 19 then
 some [B false]
 else
 bif x12 != 1 then
 bif x12 != -1 then
 some [B false]
 else
 g_cncref23_Valid_1 M_cncref23_within x9 x10 x11 M_cncref23_ends x0 x1 x2 x3 x4 x5 x6 x7 x8 x12 x13 x14 x15 x16 x17 x18 x19 x20 x21 M_cncref23_Dot M_cncref01_Cmp M_cncref23_Cross
 else
 g_cncref23_Valid_1 M_cncref23_within x9 x10 x11 M_cncref23_ends x0 x1 x2 x3 x4 x5 x6 x7 x8 x12 x13 x14 x15 x16 x17 x18 x19 x20 x21 M_cncref23_Dot M_cncref01_Cmp M_cncref23_Cross
 else
 bif x12 != 1 then
 bif x12 != -1 then
 some [B false]
 else
 g_cncref23_Valid_1 M_cncref23_within x9 x10 x11 M_cncref23_ends x0 x1 x2 x3 x4 x5 x6 x7 x8 x12 x13 x14 x15 x16 x17 x18 x19 x20 x21 M_cncref23_Dot M_cncref01_Cmp M_cncref23_Cross
 else
 g_cncref23_Valid_1 M_cncref23_within x9 x10 x11 M_cncref23_ends x0 x1 x2 x3 x4 x5 x6 x7 x8 x12 x13 x14 x15 x16 x17 x18 x19 x20 x21 M_cncref23_Dot M_cncref01_Cmp M_cncref23_Cross
 else
 bif x12 != 1 then
 bif x12 != -1 then
 some [B false]
 else
 g_cncref23_Valid_1 M_cncref23_within x9 x10 x11 M_cncref23_ends x0 x1 x2 x3 x4 x5 x6 x7 x8 x12 x13 x14 x15 x16 x17 x18 x19 x20 x21 M_cncref23_Dot M_cncref01_Cmp M_cncref23_Cross
 else
 g_cncref23_Valid_1 M_cncref23_within x9 x10 x11 M_cncref23_ends x0 x1 x2 x3 x4 x5 x6 x7 x8 x12 x13 x14 x15 x16 x17 x18 x19 x20 x21 M_cncref23_Dot M_cncref01_Cmp M_cncref23_Cross := by kernel_rfl
def m_cncref23_Valid := mf_cncref23_Valid m_cncref23_Cross m_cncref01_Cmp m_cncref23_Dot m_cncref23_ends m_cncref23_within m_cncref23_Motion 
theorem sp_cncref23_Valid : SpecOK Tryz.prog (C_cncref23_Valid_0 m_cncref23_Cross m_cncref01_Cmp m_cncref23_Dot m_cncref23_ends m_cncref23_within m_cncref23_Motion) := specOK_of rfl ⟨r_cncref23_Cross, r_cncref01_Cmp, r_cncref23_Dot, r_cncref23_ends, r_cncref23_within, r_cncref23_Motion, trivial⟩
theorem r_cncref23_Valid : RowOK Tryz.prog (133, spOf sig_cncref23_Valid osig_cncref23_Valid m_cncref23_Valid) := row_of (C := (C_cncref23_Valid_0 m_cncref23_Cross m_cncref01_Cmp m_cncref23_Dot m_cncref23_ends m_cncref23_within m_cncref23_Motion)) (L := 64) (by kernel_rfl) (FnOK.bare rfl rfl rfl) sp_cncref23_Valid eqOk mixOk (by kernel_rfl) (by kernel_rfl)
def sig_cncref23_Spokes : Sk := { tmps := [TS.v true [ci, ci, ci, ci, ci, ci, ci, ci, ci, ci, ci, ci, ci, CS.bool, ci, CS.bool, ci, ci, ci, ci, ci, CS.bool]], boxes := [], rows := [] }
def osig_cncref23_Spokes : Sk := { tmps := [TS.tup [(false, [CS.sl [kI, kI, kI, kI]]), (false, [CS.bool])]], boxes := [], rows := [] }
def C_cncref23_Spokes_0 (M_cncref23_pieces M_cncref23_Ends M_cncref23_Valid : Fn) : Cfg := { spec := lookS [(152, spOf sig_cncref23_pieces osig_cncref23_pieces M_cncref23_pieces), (151, spOf sig_cncref23_Ends osig_cncref23_Ends M_cncref23_Ends), (133, spOf sig_cncref23_Valid osig_cncref23_Valid M_cncref23_Valid)], eqOk := eqAll, pure := fun f => !(elemN [152] f), ownOff := ownOff, rowDst := [20] }
def mf_cncref23_Spokes (M_cncref23_pieces M_cncref23_Ends M_cncref23_Valid : Fn) : Fn := modelF Tryz.prog (C_cncref23_Spokes_0 M_cncref23_pieces M_cncref23_Ends M_cncref23_Valid) 64 134 sig_cncref23_Spokes osig_cncref23_Spokes
theorem mf_cncref23_Spokes_eq (M_cncref23_pieces M_cncref23_Ends M_cncref23_Valid : Fn) (x0 x1 x2 x3 x4 x5 x6 x7 x8 x9 x10 x11 x12 : Int) (x13 : Bool) (x14 : Int) (x15 : Bool) (x16 x17 x18 x19 x20 : Int) (x21 : Bool) : mf_cncref23_Spokes M_cncref23_pieces M_cncref23_Ends M_cncref23_Valid [I x0, I x1, I x2, I x3, I x4, I x5, I x6, I x7, I x8, I x9, I x10, I x11, I x12, B x13, I x14, B x15, I x16, I x17, I x18, I x19, I x20, B x21] =
 bif x0 != 3 then
 some [.view [kI, kI, kI, kI] [], B false]
 else
 (M_cncref23_Valid [I x0, I x1, I x2, I x3, I x4, I x5, I x6, I x7, I x8, I x9, I x10, I x11, I x12, B x13, I x14, B x15, I x16, I x17, I x18, I x19, I x20, B x21]).bind fun o3 =>
 bif !bA o3 0 then
 some [.view [kI, kI, kI, kI] [], B false]
 else
 (M_cncref23_Ends [I x0, I x1, I x2, I x3, I x4, I x5, I x6, I x7, I x8, I x9, I x10, I x11, I x12, B x13, I x14, B x15, I x16, I x17, I x18, I x19, I x20, B x21]).bind fun o4 =>
 (M_cncref23_pieces [jA o4 0, jA o4 1, jA o4 2, jA o4 3, jA o4 4, jA o4 5, jA o4 6, jA o4 7, I x12, B x13, I 0]).bind fun o5 =>
 bif (([[jA o4 0, jA o4 1, jA o4 2, jA o4 3]] ++ wA o5 0).length * 32).ble 140737488355328 then
 some [.view [kI, kI, kI, kI] ([[jA o4 0, jA o4 1, jA o4 2, jA o4 3]] ++ wA o5 0), B true]
 else
 none := by kernel_rfl
def m_cncref23_Spokes := mf_cncref23_Spokes m_cncref23_pieces m_cncref23_Ends m_cncref23_Valid 
theorem sp_cncref23_Spokes : SpecOK Tryz.prog (C_cncref23_Spokes_0 m_cncref23_pieces m_cncref23_Ends m_cncref23_Valid) := specOK_of rfl ⟨r_cncref23_pieces, r_cncref23_Ends, r_cncref23_Valid, trivial⟩
theorem r_cncref23_Spokes : RowOK Tryz.prog (134, spOf sig_cncref23_Spokes osig_cncref23_Spokes m_cncref23_Spokes) := row_of (C := (C_cncref23_Spokes_0 m_cncref23_pieces m_cncref23_Ends m_cncref23_Valid)) (L := 64) (by kernel_rfl) (FnOK.bare rfl rfl rfl) sp_cncref23_Spokes eqOk mixOk (by kernel_rfl) (by kernel_rfl)
def sig_cncref23_Chords : Sk := { tmps := [TS.v true [ci, ci, ci, ci, ci, ci, ci, ci, ci, ci, ci, ci, ci, CS.bool, ci, CS.bool, ci, ci, ci, ci, ci, CS.bool]], boxes := [], rows := [] }
def osig_cncref23_Chords : Sk := { tmps := [TS.tup [(false, [CS.sl kPt]), (false, [CS.bool])]], boxes := [], rows := [] }
def C_cncref23_Chords_0 (M_cncref23_Space M_cncref23_Plane M_cncref23_Fine M_cncref23_Spokes M_cncref23_Valid : Fn) : Cfg := { spec := lookS [(125, spOf sig_cncref23_Space osig_cncref23_Space M_cncref23_Space), (123, spOf sig_cncref23_Plane osig_cncref23_Plane M_cncref23_Plane), (81, spOf sig_cncref23_Fine osig_cncref23_Fine M_cncref23_Fine), (134, spOf sig_cncref23_Spokes osig_cncref23_Spokes M_cncref23_Spokes), (133, spOf sig_cncref23_Valid osig_cncref23_Valid M_cncref23_Valid)], eqOk := eqAll, ownOff := ownOff, prom := fun b => bif Nat.beq b 9 then [(9, 25)] else [] }
def sk_cncref23_Chords_9 : Sk := { tmps := [td, tf [CS.ptr 1 0], td, td, td, td, tf [ci], tf [ci], td, tf [CS.own 9 3], td, td, td, td, td, td, td, td, td, td, td, td, td, td, td, td, td, td, td, td, td, td, td, td, td, td, td, td, td, tf [CS.sl [kI, kI, kI, kI]], tf [ci], tf [ci]] ++ dd 21, boxes := [(1, 67, [ci, ci, ci, ci, ci, ci, ci, ci, ci, ci, ci, ci, ci, CS.bool, ci, CS.bool, ci, ci, ci, ci, ci, CS.bool])], rows := [(9, 25, kPt)] }
def ex_cncref23_Chords_9 : List (Ex × Sk) := [(Ex.exit 0, { tmps := [td, td, td, td, td, td, td, td, td, tf [CS.own 9 3]] ++ dd 53, boxes := [], rows := [(9, 25, kPt)] })]
def st_cncref23_Chords_9 (M_cncref23_Space M_cncref23_Plane M_cncref23_Fine M_cncref23_Spokes M_cncref23_Valid : Fn) : Lp := stepL Tryz.prog (C_cncref23_Chords_0 M_cncref23_Space M_cncref23_Plane M_cncref23_Fine M_cncref23_Spokes M_cncref23_Valid) 64 9 (bodyOf Tryz.prog 114 9) sk_cncref23_Chords_9 ex_cncref23_Chords_9
def C_cncref23_Chords_1 (M_cncref23_Space M_cncref23_Plane M_cncref23_Fine M_cncref23_Spokes M_cncref23_Valid : Fn) (N9 : Lp) : Cfg := (C_cncref23_Chords_0 M_cncref23_Space M_cncref23_Plane M_cncref23_Fine M_cncref23_Spokes M_cncref23_Valid).loop 9 sk_cncref23_Chords_9 ex_cncref23_Chords_9 N9
def mf_cncref23_Chords (M_cncref23_Space M_cncref23_Plane M_cncref23_Fine M_cncref23_Spokes M_cncref23_Valid : Fn) (N9 : Lp) : Fn := modelF Tryz.prog (C_cncref23_Chords_1 M_cncref23_Space M_cncref23_Plane M_cncref23_Fine M_cncref23_Spokes M_cncref23_Valid N9) 64 114 sig_cncref23_Chords osig_cncref23_Chords
theorem st_cncref23_Chords_9_eq (M_cncref23_Space M_cncref23_Plane M_cncref23_Fine M_cncref23_Spokes M_cncref23_Valid : Fn) (v0 : Rw) (v1 v2 : Int) (v3 : Rw) (v4 v5 v6 v7 v8 v9 v10 v11 v12 v13 v14 v15 v16 v17 v18 : Int) (v19 : Bool) (v20 : Int) (v21 : Bool) (v22 v23 v24 v25 v26 : Int) (v27 : Bool) : st_cncref23_Chords_9 M_cncref23_Space M_cncref23_Plane M_cncref23_Fine M_cncref23_Spokes M_cncref23_Valid [.view kPt v0, I v1, I v2, .view [kI, kI, kI, kI] v3, I v4, I v5, I v6, I v7, I v8, I v9, I v10, I v11, I v12, I v13, I v14, I v15, I v16, I v17, I v18, B v19, I v20, B v21, I v22, I v23, I v24, I v25, I v26, B v27] =
 bif decide (v5 < v4) then
 bif decide (0 <= v5) && decide (v5 < (v3.length : Int)) then
 (M_cncref23_Space [I (IntKind.i64.wrap (v1 + gA (nth [] v3 v5.toNat) 0)), I (IntKind.i64.wrap (v2 + gA (nth [] v3 v5.toNat) 1)), jA (nth [] v3 v5.toNat) 3, I v14]).bind fun o21 =>
 bif ((v0 ++ [[jA o21 0, jA o21 1, jA o21 2]]).length * 24).ble 140737488355328 then
 some (0, [.view kPt (v0 ++ [[jA o21 0, jA o21 1, jA o21 2]]), I v1, I v2, .view [kI, kI, kI, kI] v3, I v4, I (IntKind.i64.wrap (v5 + 1)), I v6, I v7, I v8, I v9, I v10, I v11, I v12, I v13, I v14, I v15, I v16, I v17, I v18, B v19, I v20, B v21, I v22, I v23, I v24, I v25, I v26, B v27])
 else
 none
 else
 none
 else
 some (1, [.view kPt v0]) := by kernel_rfl
theorem mf_cncref23_Chords_eq (M_cncref23_Space M_cncref23_Plane M_cncref23_Fine M_cncref23_Spokes M_cncref23_Valid : Fn) (N9 : Lp) (x0 x1 x2 x3 x4 x5 x6 x7 x8 x9 x10 x11 x12 : Int) (x13 : Bool) (x14 : Int) (x15 : Bool) (x16 x17 x18 x19 x20 : Int) (x21 : Bool) : mf_cncref23_Chords M_cncref23_Space M_cncref23_Plane M_cncref23_Fine M_cncref23_Spokes M_cncref23_Valid N9 [I x0, I x1, I x2, I x3, I x4, I x5, I x6, I x7, I x8, I x9, I x10, I x11, I x12, B x13, I x14, B x15, I x16, I x17, I x18, I x19, I x20, B x21] =
 (M_cncref23_Valid [I x0, I x1, I x2, I x3, I x4, I x5, I x6, I x7, I x8, I x9, I x10, I x11, I x12, B x13, I x14, B x15, I x16, I x17, I x18, I x19, I x20, B x21]).bind fun o22 =>
 bif !bA o22 0 then
 some [.view kPt [], B false]
 else
 (M_cncref23_Spokes [I x0, I x1, I x2, I x3, I x4, I x5, I x6, I x7, I x8, I x9, I x10, I x11, I x12, B x13, I x14, B x15, I x16, I x17, I x18, I x19, I x20, B x21]).bind fun o23 =>
 bif !bA o23 1 then
 (M_cncref23_Fine [I x2, I x3, I x4]).bind fun o24 =>
 (M_cncref23_Fine [I x5, I x6, I x7]).bind fun o25 =>
 some [.view kPt [[jA o24 0, jA o24 1, jA o24 2], [jA o25 0, jA o25 1, jA o25 2]], B true]
 else
 (M_cncref23_Fine [I x9, I x10, I x11]).bind fun o26 =>
 (M_cncref23_Plane [jA o26 0, jA o26 1, jA o26 2, I x8]).bind fun o27 =>
 (N9 [.view kPt [], jA o27 0, jA o27 1, .view [kI, kI, kI, kI] (wA o23 0), I (↑(wA o23 0).length : Int), I 0, I x0, I x1, I x2, I x3, I x4, I x5, I x6, I x7, I x8, I x9, I x10, I x11, I x12, B x13, I x14, B x15, I x16, I x17, I x18, I x19, I x20, B x21]).bind fun o28 =>
 bif o28.1.beq 1 then
 some [.view kPt (wA o28.2 0), B true]
 else
 none := by kernel_rfl
def l_cncref23_Chords_9 := loopC (st_cncref23_Chords_9 m_cncref23_Space m_cncref23_Plane m_cncref23_Fine m_cncref23_Spokes m_cncref23_Valid )
def m_cncref23_Chords := mf_cncref23_Chords m_cncref23_Space m_cncref23_Plane m_cncref23_Fine m_cncref23_Spokes m_cncref23_Valid l_cncref23_Chords_9
theorem sp_cncref23_Chords : SpecOK Tryz.prog (C_cncref23_Chords_0 m_cncref23_Space m_cncref23_Plane m_cncref23_Fine m_cncref23_Spokes m_cncref23_Valid) := specOK_of rfl ⟨r_cncref23_Space, r_cncref23_Plane, r_cncref23_Fine, r_cncref23_Spokes, r_cncref23_Valid, trivial⟩
theorem r_cncref23_Chords : RowOK Tryz.prog (114, spOf sig_cncref23_Chords osig_cncref23_Chords m_cncref23_Chords) := row_of (C := (C_cncref23_Chords_1 m_cncref23_Space m_cncref23_Plane m_cncref23_Fine m_cncref23_Spokes m_cncref23_Valid l_cncref23_Chords_9)) (L := 64) (by kernel_rfl) ((FnOK.bare rfl rfl rfl).loop sp_cncref23_Chords eqOk mixOk (by kernel_rfl) (by kernel_rfl)) sp_cncref23_Chords eqOk mixOk (by kernel_rfl) (by kernel_rfl)
def sig_cncref25_points : Sk := { tmps := [tf [CS.sl kItm], tf [ci], tf [ci]], boxes := [], rows := [] }
def osig_cncref25_points : Sk := { tmps := [tf [CS.sl kPt]], boxes := [], rows := [] }
def C_cncref25_points_0 (M_cncref25_Center M_cncref25_Soft M_cncref25_joined M_cncref25_Smooth M_cncref23_Chords : Fn) : Cfg := { spec := lookS [(90, spOf sig_cncref25_Center osig_cncref25_Center M_cncref25_Center), (86, spOf sig_cncref25_Soft osig_cncref25_Soft M_cncref25_Soft), (115, spOf sig_cncref25_joined osig_cncref25_joined M_cncref25_joined), (89, spOf sig_cncref25_Smooth osig_cncref25_Smooth M_cncref25_Smooth), (114, spOf sig_cncref23_Chords osig_cncref23_Chords M_cncref23_Chords)], eqOk := eqAll, ownOff := ownOff }
def mf_cncref25_points (M_cncref25_Center M_cncref25_Soft M_cncref25_joined M_cncref25_Smooth M_cncref23_Chords : Fn) : Fn := modelF Tryz.prog (C_cncref25_points_0 M_cncref25_Center M_cncref25_Soft M_cncref25_joined M_cncref25_Smooth M_cncref23_Chords) 64 84 sig_cncref25_points osig_cncref25_points
theorem mf_cncref25_points_eq (M_cncref25_Center M_cncref25_Soft M_cncref25_joined M_cncref25_Smooth M_cncref23_Chords : Fn) (x0 : Rw) (x1 x2 : Int) : mf_cncref25_points M_cncref25_Center M_cncref25_Soft M_cncref25_joined M_cncref25_Smooth M_cncref23_Chords [.view kItm x0, I x1, I x2] =
 bif decide (0 <= x1) && decide (x1 < (x0.length : Int)) then
 (M_cncref23_Chords [jA (nth [] x0 x1.toNat) 0, jA (nth [] x0 x1.toNat) 1, jA (nth [] x0 x1.toNat) 2, jA (nth [] x0 x1.toNat) 3, jA (nth [] x0 x1.toNat) 4, jA (nth [] x0 x1.toNat) 5, jA (nth [] x0 x1.toNat) 6, jA (nth [] x0 x1.toNat) 7, jA (nth [] x0 x1.toNat) 8, jA (nth [] x0 x1.toNat) 9, jA (nth [] x0 x1.toNat) 10, jA (nth [] x0 x1.toNat) 11, jA (nth [] x0 x1.toNat) 12, B (bA (nth [] x0 x1.toNat) 13), jA (nth [] x0 x1.toNat) 14, B (bA (nth [] x0 x1.toNat) 15), jA (nth [] x0 x1.toNat) 16, jA (nth [] x0 x1.toNat) 17, jA (nth [] x0 x1.toNat) 18, jA (nth [] x0 x1.toNat) 19, jA (nth [] x0 x1.toNat) 20, B (bA (nth [] x0 x1.toNat) 21)]).bind fun o11 =>
 bif decide (0 <= x1) && decide (x1 < (x0.length : Int)) then
 (M_cncref25_Smooth [jA (nth [] x0 x1.toNat) 0, jA (nth [] x0 x1.toNat) 1, jA (nth [] x0 x1.toNat) 2, jA (nth [] x0 x1.toNat) 3, jA (nth [] x0 x1.toNat) 4, jA (nth [] x0 x1.toNat) 5, jA (nth [] x0 x1.toNat) 6, jA (nth [] x0 x1.toNat) 7, jA (nth [] x0 x1.toNat) 8, jA (nth [] x0 x1.toNat) 9, jA (nth [] x0 x1.toNat) 10, jA (nth [] x0 x1.toNat) 11, jA (nth [] x0 x1.toNat) 12, B (bA (nth [] x0 x1.toNat) 13), jA (nth [] x0 x1.toNat) 14, B (bA (nth [] x0 x1.toNat) 15), jA (nth [] x0 x1.toNat) 16, jA (nth [] x0 x1.toNat) 17, jA (nth [] x0 x1.toNat) 18, jA (nth [] x0 x1.toNat) 19, jA (nth [] x0 x1.toNat) 20, B (bA (nth [] x0 x1.toNat) 21)]).bind fun o12 =>
 bif !bA o12 0 then
 some [.view kPt (wA o11 0)]
 else
 bif decide (0 <= 1) && decide (1 <= (↑(wA o11 0).length : Int)) then
 bif decide (0 <= 1) && decide (1 <= (↑(wA o11 0).length : Int)) then
 bif decide (x2 >= 0) then
 (M_cncref25_joined [.view kItm x0, I x2, I x1]).bind fun o13 =>
 bif decide (0 <= IntKind.i64.wrap ((↑(wA o13 0).length : Int).tdiv 2)) && decide (IntKind.i64.wrap ((↑(wA o13 0).length : Int).tdiv 2) <= (↑(wA o13 0).length : Int)) then
 (M_cncref25_Soft [.view kItm x0, I x1]).bind fun o14 =>
 bif decide (gA o14 0 >= 0) then
 (M_cncref25_joined [.view kItm x0, I x1, jA o14 0]).bind fun o15 =>
 bif decide (0 <= IntKind.i64.wrap (IntKind.i64.wrap ((↑(wA o15 0).length : Int).tdiv 2) + 1)) && decide (IntKind.i64.wrap (IntKind.i64.wrap ((↑(wA o15 0).length : Int).tdiv 2) + 1) <= (↑(wA o15 0).length : Int)) then
 bif (([] ++ List.drop (IntKind.i64.wrap ((↑(wA o13 0).length : Int).tdiv 2)).toNat (wA o13 0)).length * 24).ble 140737488355328 then
 bif decide (0 <= x1) && decide (x1 < (x0.length : Int)) then
 (M_cncref25_Center [jA (nth [] x0 x1.toNat) 0, jA (nth [] x0 x1.toNat) 1, jA (nth [] x0 x1.toNat) 2, jA (nth [] x0 x1.toNat) 3, jA (nth [] x0 x1.toNat) 4, jA (nth [] x0 x1.toNat) 5, jA (nth [] x0 x1.toNat) 6, jA (nth [] x0 x1.toNat) 7, jA (nth [] x0 x1.toNat) 8, jA (nth [] x0 x1.toNat) 9, jA (nth [] x0 x1.toNat) 10, jA (nth [] x0 x1.toNat) 11, jA (nth [] x0 x1.toNat) 12, B (bA (nth [] x0 x1.toNat) 13), jA (nth [] x0 x1.toNat) 14, B (bA (nth [] x0 x1.toNat) 15), jA (nth [] x0 x1.toNat) 16, jA (nth [] x0 x1.toNat) 17, jA (nth [] x0 x1.toNat) 18, jA (nth [] x0 x1.toNat) 19, jA (nth [] x0 x1.toNat) 20, B (bA (nth [] x0 x1.toNat) 21)]).bind fun o16 =>
 bif (([] ++ List.drop (IntKind.i64.wrap ((↑(wA o13 0).length : Int).tdiv 2)).toNat (wA o13 0) ++ [[jA o16 0, jA o16 1, jA o16 2]]).length * 24).ble 140737488355328 then
 bif (([] ++ List.drop (IntKind.i64.wrap ((↑(wA o13 0).length : Int).tdiv 2)).toNat (wA o13 0) ++ [[jA o16 0, jA o16 1, jA o16 2]] ++ List.take (IntKind.i64.wrap (IntKind.i64.wrap ((↑(wA o15 0).length : Int).tdiv 2) + 1)).toNat (wA o15 0)).length * 24).ble 140737488355328 then
 some [.view kPt ([] ++ List.drop (IntKind.i64.wrap ((↑(wA o13 0).length : Int).tdiv 2)).toNat (wA o13 0) ++ [[jA o16 0, jA o16 1, jA o16 2]] ++ List.take (IntKind.i64.wrap (IntKind.i64.wrap ((↑(wA o15 0).length : Int).tdiv 2) + 1)).toNat (wA o15 0))]
 else
 none
 else
 none
 else
 none
 else
 none
 else
 none
 else
 bif (([] ++ List.drop (IntKind.i64.wrap ((↑(wA o13 0).length : Int).tdiv 2)).toNat (wA o13 0)).length * 24).ble 140737488355328 then
 bif decide (0 <= x1) && decide (x1 < (x0.length : Int)) then
 (M_cncref25_Center [jA (nth [] x0 x1.toNat) 0, jA (nth [] x0 x1.toNat) 1, jA (nth [] x0 x1.toNat) 2, jA (nth [] x0 x1.toNat) 3, jA (nth [] x0 x1.toNat) 4, jA (nth [] x0 x1.toNat) 5, jA (nth [] x0 x1.toNat) 6, jA (nth [] x0 x1.toNat) 7, jA (nth [] x0 x1.toNat) 8, jA (nth [] x0 x1.toNat) 9, jA (nth [] x0 x1.toNat) 10, jA (nth [] x0 x1.toNat) 11, jA (nth [] x0 x1.toNat) 12, B (bA (nth [] x0 x1.toNat) 13), jA (nth [] x0 x1.toNat) 14, B (bA (nth [] x0 x1.toNat) 15), jA (nth [] x0 x1.toNat) 16, jA (nth [] x0 x1.toNat) 17, jA (nth [] x0 x1.toNat) 18, jA (nth [] x0 x1.toNat) 19, jA (nth [] x0 x1.toNat) 20, B (bA (nth [] x0 x1.toNat) 21)]).bind fun o17 =>
 bif (([] ++ List.drop (IntKind.i64.wrap ((↑(wA o13 0).length : Int).tdiv 2)).toNat (wA o13 0) ++ [[jA o17 0, jA o17 1, jA o17 2]]).length * 24).ble 140737488355328 then
 bif (([] ++ List.drop (IntKind.i64.wrap ((↑(wA o13 0).length : Int).tdiv 2)).toNat (wA o13 0) ++ [[jA o17 0, jA o17 1, jA o17 2]] ++ List.drop (Int.toNat 1) (wA o11 0)).length * 24).ble 140737488355328 then
 some [.view kPt ([] ++ List.drop (IntKind.i64.wrap ((↑(wA o13 0).length : Int).tdiv 2)).toNat (wA o13 0) ++ [[jA o17 0, jA o17 1, jA o17 2]] ++ List.drop (Int.toNat 1) (wA o11 0))]
 else
 none
 else
 none
 else
 none
 else
 none
 else
 none
 else
 (M_cncref25_Soft [.view kItm x0, I x1]).bind fun o18 =>
 bif decide (gA o18 0 >= 0) then
 (M_cncref25_joined [.view kItm x0, I x1, jA o18 0]).bind fun o19 =>
 bif decide (0 <= IntKind.i64.wrap (IntKind.i64.wrap ((↑(wA o19 0).length : Int).tdiv 2) + 1)) && decide (IntKind.i64.wrap (IntKind.i64.wrap ((↑(wA o19 0).length : Int).tdiv 2) + 1) <= (↑(wA o19 0).length : Int)) then
 bif (([] ++ List.take (Int.toNat 1) (wA o11 0)).length * 24).ble 140737488355328 then
 bif decide (0 <= x1) && decide (x1 < (x0.length : Int)) then
 (M_cncref25_Center [jA (nth [] x0 x1.toNat) 0, jA (nth [] x0 x1.toNat) 1, jA (nth [] x0 x1.toNat) 2, jA (nth [] x0 x1.toNat) 3, jA (nth [] x0 x1.toNat) 4, jA (nth [] x0 x1.toNat) 5, jA (nth [] x0 x1.toNat) 6, jA (nth [] x0 x1.toNat) 7, jA (nth [] x0 x1.toNat) 8, jA (nth [] x0 x1.toNat) 9, jA (nth [] x0 x1.toNat) 10, jA (nth [] x0 x1.toNat) 11, jA (nth [] x0 x1.toNat) 12, B (bA (nth [] x0 x1.toNat) 13), jA (nth [] x0 x1.toNat) 14, B (bA (nth [] x0 x1.toNat) 15), jA (nth [] x0 x1.toNat) 16, jA (nth [] x0 x1.toNat) 17, jA (nth [] x0 x1.toNat) 18, jA (nth [] x0 x1.toNat) 19, jA (nth [] x0 x1.toNat) 20, B (bA (nth [] x0 x1.toNat) 21)]).bind fun o20 =>
 bif (([] ++ List.take (Int.toNat 1) (wA o11 0) ++ [[jA o20 0, jA o20 1, jA o20 2]]).length * 24).ble 140737488355328 then
 bif (([] ++ List.take (Int.toNat 1) (wA o11 0) ++ [[jA o20 0, jA o20 1, jA o20 2]] ++ List.take (IntKind.i64.wrap (IntKind.i64.wrap ((↑(wA o19 0).length : Int).tdiv 2) + 1)).toNat (wA o19 0)).length * 24).ble 140737488355328 then
 some [.view kPt ([] ++ List.take (Int.toNat 1) (wA o11 0) ++ [[jA o20 0, jA o20 1, jA o20 2]] ++ List.take (IntKind.i64.wrap (IntKind.i64.wrap ((↑(wA o19 0).length : Int).tdiv 2) + 1)).toNat (wA o19 0))]
 else
 none
 else
 none
 else
 none
 else
 none
 else
 none
 else
 bif (([] ++ List.take (Int.toNat 1) (wA o11 0)).length * 24).ble 140737488355328 then
 bif decide (0 <= x1) && decide (x1 < (x0.length : Int)) then
 (M_cncref25_Center [jA (nth [] x0 x1.toNat) 0, jA (nth [] x0 x1.toNat) 1, jA (nth [] x0 x1.toNat) 2, jA (nth [] x0 x1.toNat) 3, jA (nth [] x0 x1.toNat) 4, jA (nth [] x0 x1.toNat) 5, jA (nth [] x0 x1.toNat) 6, jA (nth [] x0 x1.toNat) 7, jA (nth [] x0 x1.toNat) 8, jA (nth [] x0 x1.toNat) 9, jA (nth [] x0 x1.toNat) 10, jA (nth [] x0 x1.toNat) 11, jA (nth [] x0 x1.toNat) 12, B (bA (nth [] x0 x1.toNat) 13), jA (nth [] x0 x1.toNat) 14, B (bA (nth [] x0 x1.toNat) 15), jA (nth [] x0 x1.toNat) 16, jA (nth [] x0 x1.toNat) 17, jA (nth [] x0 x1.toNat) 18, jA (nth [] x0 x1.toNat) 19, jA (nth [] x0 x1.toNat) 20, B (bA (nth [] x0 x1.toNat) 21)]).bind fun o21 =>
 bif (([] ++ List.take (Int.toNat 1) (wA o11 0) ++ [[jA o21 0, jA o21 1, jA o21 2]]).length * 24).ble 140737488355328 then
 bif (([] ++ List.take (Int.toNat 1) (wA o11 0) ++ [[jA o21 0, jA o21 1, jA o21 2]] ++ List.drop (Int.toNat 1) (wA o11 0)).length * 24).ble 140737488355328 then
 some [.view kPt ([] ++ List.take (Int.toNat 1) (wA o11 0) ++ [[jA o21 0, jA o21 1, jA o21 2]] ++ List.drop (Int.toNat 1) (wA o11 0))]
 else
 none
 else
 none
 else
 none
 else
 none
 else
 none
 else
 none
 else
 none
 else
 none := by kernel_rfl
def m_cncref25_points := mf_cncref25_points m_cncref25_Center m_cncref25_Soft m_cncref25_joined m_cncref25_Smooth m_cncref23_Chords 
theorem sp_cncref25_points : SpecOK Tryz.prog (C_cncref25_points_0 m_cncref25_Center m_cncref25_Soft m_cncref25_joined m_cncref25_Smooth m_cncref23_Chords) := specOK_of rfl ⟨r_cncref25_Center, r_cncref25_Soft, r_cncref25_joined, r_cncref25_Smooth, r_cncref23_Chords, trivial⟩
theorem r_cncref25_points : RowOK Tryz.prog (84, spOf sig_cncref25_points osig_cncref25_points m_cncref25_points) := row_of (C := (C_cncref25_points_0 m_cncref25_Center m_cncref25_Soft m_cncref25_joined m_cncref25_Smooth m_cncref23_Chords)) (L := 64) (by kernel_rfl) (FnOK.bare rfl rfl rfl) sp_cncref25_points eqOk mixOk (by kernel_rfl) (by kernel_rfl)
def sig_cncref25_Rate : Sk := { tmps := [TS.v true [ci, ci, ci, ci, ci, ci, ci, ci, ci, ci, ci, ci, ci, CS.bool, ci, CS.bool, ci, ci, ci, ci, ci, CS.bool], tf [ci]], boxes := [], rows := [] }
def osig_cncref25_Rate : Sk := { tmps := [tf [ci]], boxes := [], rows := [] }
def C_cncref25_Rate_0 (M_cncref24_Rounded : Fn) : Cfg := { spec := lookS [(72, spOf sig_cncref24_Rounded osig_cncref24_Rounded M_cncref24_Rounded)], eqOk := eqAll, ownOff := ownOff }
def mf_cncref25_Rate (M_cncref24_Rounded : Fn) : Fn := modelF Tryz.prog (C_cncref25_Rate_0 M_cncref24_Rounded) 64 82 sig_cncref25_Rate osig_cncref25_Rate
theorem mf_cncref25_Rate_eq (M_cncref24_Rounded : Fn) (x0 x1 x2 x3 x4 x5 x6 x7 x8 x9 x10 x11 x12 : Int) (x13 : Bool) (x14 : Int) (x15 : Bool) (x16 x17 x18 x19 x20 : Int) (x21 : Bool) (x22 : Int) : mf_cncref25_Rate M_cncref24_Rounded [I x0, I x1, I x2, I x3, I x4, I x5, I x6, I x7, I x8, I x9, I x10, I x11, I x12, B x13, I x14, B x15, I x16, I x17, I x18, I x19, I x20, B x21, I x22] =
 bif x0 == 1 then
 some [I 0]
 else
 bif x15 then
 (M_cncref24_Rounded [I (IntKind.i64.wrap (IntKind.i64.wrap (mn (IntKind.i64.wrap (x14 * mx x22 1)) 60000000 * 16) * 256)), I 60000]).bind fun o2 =>
 some [I (mx (gA o2 0) 1)]
 else
 (M_cncref24_Rounded [I (IntKind.i64.wrap (IntKind.i64.wrap (mn x14 60000000 * 16) * 256)), I 60000]).bind fun o3 =>
 some [I (mx (gA o3 0) 1)] := by kernel_rfl
def m_cncref25_Rate := mf_cncref25_Rate m_cncref24_Rounded 
theorem sp_cncref25_Rate : SpecOK Tryz.prog (C_cncref25_Rate_0 m_cncref24_Rounded) := specOK_of rfl ⟨r_cncref24_Rounded, trivial⟩
theorem r_cncref25_Rate : RowOK Tryz.prog (82, spOf sig_cncref25_Rate osig_cncref25_Rate m_cncref25_Rate) := row_of (C := (C_cncref25_Rate_0 m_cncref24_Rounded)) (L := 64) (by kernel_rfl) (FnOK.bare rfl rfl rfl) sp_cncref25_Rate eqOk mixOk (by kernel_rfl) (by kernel_rfl)
def sig_cncref25_other : Sk := { tmps := [TS.v true [ci, ci, ci, ci, ci, ci, ci, ci, ci, ci, ci, ci, ci, CS.bool, ci, CS.bool, ci, ci, ci, ci, ci, CS.bool]], boxes := [], rows := [] }
def osig_cncref25_other : Sk := { tmps := [tf [ci]], boxes := [], rows := [] }
def C_cncref25_other_0 : Cfg := { spec := lookS [], eqOk := eqAll, ownOff := ownOff }
def mf_cncref25_other : Fn := modelF Tryz.prog C_cncref25_other_0 64 80 sig_cncref25_other osig_cncref25_other
theorem mf_cncref25_other_eq (x0 x1 x2 x3 x4 x5 x6 x7 x8 x9 x10 x11 x12 : Int) (x13 : Bool) (x14 : Int) (x15 : Bool) (x16 x17 x18 x19 x20 : Int) (x21 : Bool) : mf_cncref25_other [I x0, I x1, I x2, I x3, I x4, I x5, I x6, I x7, I x8, I x9, I x10, I x11, I x12, B x13, I x14, B x15, I x16, I x17, I x18, I x19, I x20, B x21] =
 bif x0 == 10 then
 some [I 5]
 else
 bif x0 == 13 then
 some [I 4]
 else
 some [I 3] := by kernel_rfl
def m_cncref25_other := mf_cncref25_other 
theorem sp_cncref25_other : SpecOK Tryz.prog (C_cncref25_other_0 ) := specOK_of rfl trivial
theorem r_cncref25_other : RowOK Tryz.prog (80, spOf sig_cncref25_other osig_cncref25_other m_cncref25_other) := row_of (C := C_cncref25_other_0) (L := 64) (by kernel_rfl) (FnOK.bare rfl rfl rfl) sp_cncref25_other eqOk mixOk (by kernel_rfl) (by kernel_rfl)
def sig_cncref25_wrong : Sk := { tmps := [TS.v true [ci, ci, ci, ci, ci, ci, ci, ci, ci, ci, ci, ci, ci, CS.bool, ci, CS.bool, ci, ci, ci, ci, ci, CS.bool]], boxes := [], rows := [] }
def osig_cncref25_wrong : Sk := { tmps := [tf [CS.bool]], boxes := [], rows := [] }
def C_cncref25_wrong_0 (M_cncref23_Valid M_cncref23_Motion : Fn) : Cfg := { spec := lookS [(133, spOf sig_cncref23_Valid osig_cncref23_Valid M_cncref23_Valid), (79, spOf sig_cncref23_Motion osig_cncref23_Motion M_cncref23_Motion)], eqOk := eqAll, ownOff := ownOff }
def mf_cncref25_wrong (M_cncref23_Valid M_cncref23_Motion : Fn) : Fn := modelF Tryz.prog (C_cncref25_wrong_0 M_cncref23_Valid M_cncref23_Motion) 64 113 sig_cncref25_wrong osig_cncref25_wrong
theorem mf_cncref25_wrong_eq (M_cncref23_Valid M_cncref23_Motion : Fn) (x0 x1 x2 x3 x4 x5 x6 x7 x8 x9 x10 x11 x12 : Int) (x13 : Bool) (x14 : Int) (x15 : Bool) (x16 x17 x18 x19 x20 : Int) (x21 : Bool) : mf_cncref25_wrong M_cncref23_Valid M_cncref23_Motion [I x0, I x1, I x2, I x3, I x4, I x5, I x6, I x7, I x8, I x9, I x10, I x11, I x12, B x13, I x14, B x15, I x16, I x17, I x18, I x19, I x20, B x21] =
 bif decide (x0 < 1) then
 some [B true]
 else
 bif decide (x0 > 14) then
 some [B true]
 else
 (M_cncref23_Motion [I x0]).bind fun o2 =>
 bif bA o2 0 then
 (M_cncref23_Valid [I x0, I x1, I x2, I x3, I x4, I x5, I x6, I x7, I x8, I x9, I x10, I x11, I x12, B x13, I x14, B x15, I x16, I x17, I x18, I x19, I x20, B x21]).bind fun o3 =>
 bif !bA o3 0 then
 some [B true]
 else
 bif x0 != 1 then
 bif decide (x14 < 1) then
 some [B true]
 else
 bif decide (x14 > 60000000) then
 some [B true]
 else
 bif decide (x18 < 0) then
 some [B true]
 else
 some [B (decide (x18 > 1000))]
 else
 bif decide (x18 < 0) then
 some [B true]
 else
 some [B (decide (x18 > 1000))]
 else
 bif x0 == 8 then
 bif decide (x19 < 3) then
 some [B true]
 else
 bif decide (x19 > 5) then
 some [B true]
 else
 bif decide (x20 < 0) then
 some [B true]
 else
 some [B (decide (x20 > 30000))]
 else
 some [B false] := by kernel_rfl
def m_cncref25_wrong := mf_cncref25_wrong m_cncref23_Valid m_cncref23_Motion 
theorem sp_cncref25_wrong : SpecOK Tryz.prog (C_cncref25_wrong_0 m_cncref23_Valid m_cncref23_Motion) := specOK_of rfl ⟨r_cncref23_Valid, r_cncref23_Motion, trivial⟩
theorem r_cncref25_wrong : RowOK Tryz.prog (113, spOf sig_cncref25_wrong osig_cncref25_wrong m_cncref25_wrong) := row_of (C := (C_cncref25_wrong_0 m_cncref23_Valid m_cncref23_Motion)) (L := 64) (by kernel_rfl) (FnOK.bare rfl rfl rfl) sp_cncref25_wrong eqOk mixOk (by kernel_rfl) (by kernel_rfl)
def sig_cncref25_Check : Sk := { tmps := [tf [CS.sl kItm]], boxes := [], rows := [] }
def osig_cncref25_Check : Sk := { tmps := [tf [ci]], boxes := [], rows := [] }
def C_cncref25_Check_0 (M_cncref23_Motion M_cncref25_wrong : Fn) : Cfg := { spec := lookS [(79, spOf sig_cncref23_Motion osig_cncref23_Motion M_cncref23_Motion), (113, spOf sig_cncref25_wrong osig_cncref25_wrong M_cncref25_wrong)], eqOk := eqAll, ownOff := ownOff }
def sk_cncref25_Check_5 : Sk := { tmps := [tf [CS.sl kItm], td, td, tf [ci], td, td, td, td, td, tf [CS.sl kItm], tf [ci], tf [ci]] ++ dd 24, boxes := [], rows := [] }
def ex_cncref25_Check_5 : List (Ex × Sk) := [(Ex.ret, { tmps := [td, td, tf [ci]] ++ dd 33, boxes := [], rows := [] }), (Ex.exit 0, { tmps := [td] ++ dd 35, boxes := [], rows := [] })]
def st_cncref25_Check_5 (M_cncref23_Motion M_cncref25_wrong : Fn) : Lp := stepL Tryz.prog (C_cncref25_Check_0 M_cncref23_Motion M_cncref25_wrong) 64 5 (bodyOf Tryz.prog 78 5) sk_cncref25_Check_5 ex_cncref25_Check_5
def C_cncref25_Check_1 (M_cncref23_Motion M_cncref25_wrong : Fn) (N5 : Lp) : Cfg := (C_cncref25_Check_0 M_cncref23_Motion M_cncref25_wrong).loop 5 sk_cncref25_Check_5 ex_cncref25_Check_5 N5
def mf_cncref25_Check (M_cncref23_Motion M_cncref25_wrong : Fn) (N5 : Lp) : Fn := modelF Tryz.prog (C_cncref25_Check_1 M_cncref23_Motion M_cncref25_wrong N5) 64 78 sig_cncref25_Check osig_cncref25_Check
theorem st_cncref25_Check_5_eq (M_cncref23_Motion M_cncref25_wrong : Fn) (v0 : Rw) (v1 : Int) (v2 : Rw) (v3 v4 : Int) : st_cncref25_Check_5 M_cncref23_Motion M_cncref25_wrong [.view kItm v0, I v1, .view kItm v2, I v3, I v4] =
 bif decide (v4 < v3) then
 bif decide (0 <= v4) && decide (v4 < (v2.length : Int)) then
 (M_cncref25_wrong [jA (nth [] v2 v4.toNat) 0, jA (nth [] v2 v4.toNat) 1, jA (nth [] v2 v4.toNat) 2, jA (nth [] v2 v4.toNat) 3, jA (nth [] v2 v4.toNat) 4, jA (nth [] v2 v4.toNat) 5, jA (nth [] v2 v4.toNat) 6, jA (nth [] v2 v4.toNat) 7, jA (nth [] v2 v4.toNat) 8, jA (nth [] v2 v4.toNat) 9, jA (nth [] v2 v4.toNat) 10, jA (nth [] v2 v4.toNat) 11, jA (nth [] v2 v4.toNat) 12, B (bA (nth [] v2 v4.toNat) 13), jA (nth [] v2 v4.toNat) 14, B (bA (nth [] v2 v4.toNat) 15), jA (nth [] v2 v4.toNat) 16, jA (nth [] v2 v4.toNat) 17, jA (nth [] v2 v4.toNat) 18, jA (nth [] v2 v4.toNat) 19, jA (nth [] v2 v4.toNat) 20, B (bA (nth [] v2 v4.toNat) 21)]).bind fun o3 =>
 bif bA o3 0 then
 some (1, [I 1])
 else
 (M_cncref23_Motion [jA (nth [] v2 v4.toNat) 0]).bind fun o4 =>
 bif !bA o4 0 then
 some (0, [.view kItm v0, I v1, .view kItm v2, I v3, I (IntKind.i64.wrap (v4 + 1))])
 else
 bif decide (v1 >= 0) then
 bif decide (0 <= v1) && decide (v1 < (v0.length : Int)) then
 bif !(gA (nth [] v0 v1.toNat) 5 == gA (nth [] v2 v4.toNat) 2 && (gA (nth [] v0 v1.toNat) 6 == gA (nth [] v2 v4.toNat) 3 && (gA (nth [] v0 v1.toNat) 7 == gA (nth [] v2 v4.toNat) 4 && true))) then
 some (1, [I 13])
 else
 some (0, [.view kItm v0, I v4, .view kItm v2, I v3, I (IntKind.i64.wrap (v4 + 1))])
 else
 none
 else
 some (0, [.view kItm v0, I v4, .view kItm v2, I v3, I (IntKind.i64.wrap (v4 + 1))])
 else
 none
 else
 some (2, []) := by kernel_rfl
theorem mf_cncref25_Check_eq (M_cncref23_Motion M_cncref25_wrong : Fn) (N5 : Lp) (x0 : Rw) : mf_cncref25_Check M_cncref23_Motion M_cncref25_wrong N5 [.view kItm x0] =
 bif decide ((x0.length : Int) > 20000) then
 some [I 10]
 else
 (N5 [.view kItm x0, I (-1), .view kItm x0, I (x0.length : Int), I 0]).bind fun o5 =>
 bif o5.1.beq 1 then
 some [jA o5.2 0]
 else
 bif o5.1.beq 2 then
 some [I 0]
 else
 none := by kernel_rfl
def l_cncref25_Check_5 := loopC (st_cncref25_Check_5 m_cncref23_Motion m_cncref25_wrong )
def m_cncref25_Check := mf_cncref25_Check m_cncref23_Motion m_cncref25_wrong l_cncref25_Check_5
theorem sp_cncref25_Check : SpecOK Tryz.prog (C_cncref25_Check_0 m_cncref23_Motion m_cncref25_wrong) := specOK_of rfl ⟨r_cncref23_Motion, r_cncref25_wrong, trivial⟩
theorem r_cncref25_Check : RowOK Tryz.prog (78, spOf sig_cncref25_Check osig_cncref25_Check m_cncref25_Check) := row_of (C := (C_cncref25_Check_1 m_cncref23_Motion m_cncref25_wrong l_cncref25_Check_5)) (L := 64) (by kernel_rfl) ((FnOK.bare rfl rfl rfl).loop sp_cncref25_Check eqOk mixOk (by kernel_rfl) (by kernel_rfl)) sp_cncref25_Check eqOk mixOk (by kernel_rfl) (by kernel_rfl)
end Go.Bm
