/- functions of the program and of the references, as models -/
import Derived.Test.YtdllaekpkcanbaaMx3
set_option linter.unusedSimpArgs false
set_option linter.unusedVariables false
set_option maxRecDepth 100000
noncomputable section
namespace Go.Bm
open Go.Proofs
def Qm1 : Sk := { tmps := [tf [CS.ptr 20000 0], TS.v true [ci, ci, ci], tf [ci]], boxes := [(20000, 138, [CS.sl Qac, ci])], rows := [] }
def Qlu : Sk := { tmps := [TS.v true [ci, ci, ci, ci, ci, ci, ci, ci, ci, ci, ci, ci, ci, CS.bool, ci, CS.bool, ci, ci, ci, ci, ci, CS.bool]], boxes := [(20000, 138, [CS.sl Qac, ci])], rows := [] }
def Qmv (Qaa Qjt : Fn) : Cfg := { spec := Qbq [(61, spOf Qcr Qci Qaa), (60, spOf sig_cncmill_arc osig_cncmill_arc Qjt)], eqOk := Qbu, pure := fun f => !(Qd3 [61, 60] f), ownOff := ownOff }
def mf_cncmill_motion (Qaa Qjt : Fn) : Fn := Qau Try.prog (Qmv Qaa Qjt) 64 79 Qm1 Qlu
abbrev Qmg (Qaa : Fn) (o20 : List AC) (x3 : Int) (h1_0 h1_1 h1_2 h1_3 h1_4 h1_5 h1_6 h1_7 h1_8 h1_9 h1_10 h1_11 h1_12 h1_13 h1_16 h1_17 h1_20 h1_21 : AC) : Option (List AC) :=
 (Qaa [I 60, .view Qac (wA o20 1), jA o20 2]).bind fun o21 =>
 bif x3 == 6 then
 (Qaa [I 2, .view Qac (wA o21 1), jA o21 2]).bind fun o22 =>
 some [h1_0, h1_1, h1_2, h1_3, h1_4, h1_5, h1_6, h1_7, h1_8, h1_9, h1_10, h1_11, h1_12, h1_13, I (IntKind.i64.wrap (1 + gA o21 0)), B true, h1_16, h1_17, I 0, I (IntKind.i64.wrap (3 + gA o22 0)), h1_20, h1_21, .view Qac (wA o22 1), jA o22 2]
 else
 some [h1_0, h1_1, h1_2, h1_3, h1_4, h1_5, h1_6, h1_7, h1_8, h1_9, h1_10, h1_11, h1_12, h1_13, I (IntKind.i64.wrap (1 + gA o21 0)), B true, h1_16, h1_17, I 0, I 0, h1_20, h1_21, .view Qac (wA o21 1), jA o21 2]
attribute [go_sem] Qmg
abbrev g_cncmill_motion_1 (x3 : Int) (Qaa : Fn) (h1_0 h1_1 h1_2 h1_3 h1_4 h1_5 h1_6 h1_7 h1_8 h1_9 h1_10 h1_11 h1_12 h1_13 h1_14 h1_15 h1_16 h1_17 h1_18 h1_19 h1_20 h1_21 h1_22 h1_23 : AC) : Option (List AC) :=
 bif x3 == 1 then
 some [h1_0, h1_1, h1_2, h1_3, h1_4, h1_5, h1_6, h1_7, h1_8, h1_9, h1_10, h1_11, h1_12, h1_13, h1_14, h1_15, h1_16, h1_17, h1_18, h1_19, h1_20, h1_21, h1_22, h1_23]
 else
 (Qaa [I 5, h1_22, h1_23]).bind fun o19 =>
 bif decide (0 <= gA o19 0) && decide (gA o19 0 < (↑[[I 300000], [I 1], [I 60000], [I 2000000], [I 60000000]].length : Int)) then
 (Qaa [I 5, .view Qac (wA o19 1), jA o19 2]).bind fun o20 =>
 bif decide (0 <= gA o20 0) && decide (gA o20 0 < (↑[[I 0], [I 1], [I 2], [I 4], [I 9]].length : Int)) then
 bif x3 == 5 then
 Qmg Qaa o20 x3 h1_0 h1_1 h1_2 h1_3 h1_4 h1_5 h1_6 h1_7 h1_8 h1_9 h1_10 h1_11 h1_12 h1_13 h1_16 h1_17 h1_20 h1_21
 else
 bif x3 == 6 then
 Qmg Qaa o20 x3 h1_0 h1_1 h1_2 h1_3 h1_4 h1_5 h1_6 h1_7 h1_8 h1_9 h1_10 h1_11 h1_12 h1_13 h1_16 h1_17 h1_20 h1_21
 else
 bif x3 == 4 then
 some [h1_0, h1_1, h1_2, h1_3, h1_4, h1_5, h1_6, h1_7, h1_8, h1_9, h1_10, h1_11, h1_12, h1_13, I (Qaq (nth .dead (nth [] [[I 300000], [I 1], [I 60000], [I 2000000], [I 60000000]] (gA o19 0).toNat) 0)), h1_15, h1_16, h1_17, I 0, h1_19, h1_20, h1_21, .view Qac (wA o20 1), jA o20 2]
 else
 some [h1_0, h1_1, h1_2, h1_3, h1_4, h1_5, h1_6, h1_7, h1_8, h1_9, h1_10, h1_11, h1_12, h1_13, I (Qaq (nth .dead (nth [] [[I 300000], [I 1], [I 60000], [I 2000000], [I 60000000]] (gA o19 0).toNat) 0)), h1_15, h1_16, h1_17, I (Qaq (nth .dead (nth [] [[I 0], [I 1], [I 2], [I 4], [I 9]] (gA o20 0).toNat) 0)), h1_19, h1_20, h1_21, .view Qac (wA o20 1), jA o20 2]
 else
 none
 else
 none
attribute [go_sem] g_cncmill_motion_1
theorem mf_cncmill_motion_eq (Qaa Qjt : Fn) (x0 x1 x2 x3 : Int) (x4 : Rw) (x5 : Int) : mf_cncmill_motion Qaa Qjt [I x0, I x1, I x2, I x3, .view Qac x4, I x5] =
 bif x3 == 3 then
 (Qjt [I x0, I x1, I x2, I 8, .view Qac x4, I x5]).bind fun o18 =>
 g_cncmill_motion_1 x3 Qaa (jA o18 0) (jA o18 1) (jA o18 2) (jA o18 3) (jA o18 4) (jA o18 5) (jA o18 6) (jA o18 7) (jA o18 8) (jA o18 9) (jA o18 10) (jA o18 11) (jA o18 12) (B (bA o18 13)) (jA o18 14) (B (bA o18 15)) (jA o18 16) (jA o18 17) (jA o18 18) (jA o18 19) (jA o18 20) (B (bA o18 21)) (.view Qac (wA o18 22)) (jA o18 23)
 else
 (Qaa [I 25, .view Qac x4, I x5]).bind fun o25 =>
 (Qaa [I 25, .view Qac (wA o25 1), jA o25 2]).bind fun o26 =>
 (Qaa [I 3, .view Qac (wA o26 1), jA o26 2]).bind fun o27 =>
 (Qaa [I 9, .view Qac (wA o27 1), jA o27 2]).bind fun o28 =>
 (Qaa [I 2, .view Qac (wA o28 1), jA o28 2]).bind fun o29 =>
 g_cncmill_motion_1 x3 Qaa (I x3) (I 0) (I x0) (I x1) (I x2) (I (IntKind.i64.wrap (IntKind.i64.wrap (x0 + gA o25 0) - 12))) (I (IntKind.i64.wrap (IntKind.i64.wrap (x1 + gA o26 0) - 12))) (I (IntKind.i64.wrap (IntKind.i64.wrap (x2 + IntKind.i64.wrap (gA o27 0 * gA o28 0)) - IntKind.i64.wrap (8 * gA o29 0)))) (I 0) (I 0) (I 0) (I 0) (I 0) (B false) (I 0) (B false) (I 0) (I 0) (I 0) (I 0) (I 0) (B false) (.view Qac (wA o29 1)) (jA o29 2) := by kernel_rfl
def Qe0 := mf_cncmill_motion Qao Qnw 
theorem sp_cncmill_motion : Qar Try.prog (Qmv Qao Qnw) := Qae rfl ⟨Qet, r_cncmill_arc, trivial⟩
theorem r_cncmill_motion : Qbt Try.prog (79, spOf Qm1 Qlu Qe0) := Qa5 (C := (Qmv Qao Qnw)) (L := 64) (by kernel_rfl) (FnOK.bare rfl rfl rfl) sp_cncmill_motion eqOk Qbj (by kernel_rfl) (by kernel_rfl)
def Qhm : Sk := { tmps := [tf [CS.ptr 20000 0]], boxes := [(20000, 138, [CS.sl Qac, ci])], rows := [] }
def Qg2 : Sk := { tmps := [tf [CS.bool]], boxes := [(20000, 138, [CS.sl Qac, ci])], rows := [] }
def Qhc : Cfg := { spec := Qbq [], eqOk := Qbu, ownOff := ownOff }
def mf_cncmill_Source_Left : Fn := Qau Try.prog Qhc 64 78 Qhm Qg2
theorem mf_cncmill_Source_Left_eq (x0 : Rw) (x1 : Int) : mf_cncmill_Source_Left [.view Qac x0, I x1] =
 some [B (decide (x1 < (x0.length : Int))), .view Qac x0, I x1] := by kernel_rfl
def Qcm := mf_cncmill_Source_Left 
theorem sp_cncmill_Source_Left : Qar Try.prog (Qhc ) := Qae rfl trivial
theorem r_cncmill_Source_Left : Qbt Try.prog (78, spOf Qhm Qg2 Qcm) := Qa5 (C := Qhc) (L := 64) (by kernel_rfl) (FnOK.bare rfl rfl rfl) sp_cncmill_Source_Left eqOk Qbj (by kernel_rfl) (by kernel_rfl)
def Qgs : Sk := { tmps := [tf [ci]], boxes := [], rows := [] }
def Qf3 : Sk := { tmps := [tf [CS.bool]], boxes := [], rows := [] }
def C_path_motion_0 : Cfg := { spec := Qbq [], eqOk := Qbu, ownOff := ownOff }
def mf_path_motion : Fn := Qau Try.prog C_path_motion_0 64 137 Qgs Qf3
theorem mf_path_motion_eq (x0 : Int) : mf_path_motion [I x0] =
 bif decide (x0 >= 1) then
 some [B (decide (x0 <= 6))]
 else
 some [B false] := by kernel_rfl
def Qbo := mf_path_motion 
theorem sp_path_motion : Qar Try.prog (C_path_motion_0 ) := Qae rfl trivial
theorem r_path_motion : Qbt Try.prog (137, spOf Qgs Qf3 Qbo) := Qa5 (C := C_path_motion_0) (L := 64) (by kernel_rfl) (FnOK.bare rfl rfl rfl) sp_path_motion eqOk Qbj (by kernel_rfl) (by kernel_rfl)
def Qmf : Sk := { tmps := [TS.v true [ci, ci, ci, ci, ci, ci, ci, ci, ci, ci, ci, ci, ci, CS.bool, ci, CS.bool, ci, ci, ci, ci, ci, CS.bool]], boxes := [], rows := [] }
def Qk7 : Sk := { tmps := [tf [CS.bool]], boxes := [], rows := [] }
def C_path_geared_0 : Cfg := { spec := Qbq [], eqOk := Qbu, ownOff := ownOff }
def mf_path_geared : Fn := Qau Try.prog C_path_geared_0 64 159 Qmf Qk7
theorem mf_path_geared_eq (x0 x1 x2 x3 x4 x5 x6 x7 x8 x9 x10 x11 x12 : Int) (x13 : Bool) (x14 : Int) (x15 : Bool) (x16 x17 x18 x19 x20 : Int) (x21 : Bool) : mf_path_geared [I x0, I x1, I x2, I x3, I x4, I x5, I x6, I x7, I x8, I x9, I x10, I x11, I x12, B x13, I x14, B x15, I x16, I x17, I x18, I x19, I x20, B x21] =
 bif x0 == 5 then
 some [B true]
 else
 some [B (x0 == 6)] := by kernel_rfl
def Qd6 := mf_path_geared 
theorem sp_path_geared : Qar Try.prog (C_path_geared_0 ) := Qae rfl trivial
theorem r_path_geared : Qbt Try.prog (159, spOf Qmf Qk7 Qd6) := Qa5 (C := C_path_geared_0) (L := 64) (by kernel_rfl) (FnOK.bare rfl rfl rfl) sp_path_geared eqOk Qbj (by kernel_rfl) (by kernel_rfl)
def sig_path_exact : Sk := { tmps := [tf [CS.sl kItm], tf [ci]], boxes := [], rows := [] }
def osig_path_exact : Sk := { tmps := [tf [CS.bool]], boxes := [], rows := [] }
def C_path_exact_0 (Qad Qa1 : Fn) : Cfg := { spec := Qbq [(137, spOf Qgs Qf3 Qad), (159, spOf Qmf Qk7 Qa1)], eqOk := Qbu, ownOff := ownOff }
def sk_path_exact_4 : Sk := { tmps := [td, td, td, td, td, td, td, td, td, td, td, td, td, td, td, td, td, td, td, td, td, td, td, tf [CS.sl kItm], tf [ci], tf [ci]] ++ dd 9, boxes := [], rows := [] }
def ex_path_exact_4 : List (Ex × Sk) := [(Ex.ret, { tmps := [td, td, td, td, tf [CS.bool]] ++ dd 30, boxes := [], rows := [] }), (Ex.exit 0, { tmps := [td] ++ dd 34, boxes := [], rows := [] })]
def Qfo (Qad Qa1 : Fn) : Lp := stepL Try.prog (C_path_exact_0 Qad Qa1) 64 4 (Qg8 Try.prog 163 4) sk_path_exact_4 ex_path_exact_4
def C_path_exact_1 (Qad Qa1 : Fn) (N4 : Lp) : Cfg := (C_path_exact_0 Qad Qa1).loop 4 sk_path_exact_4 ex_path_exact_4 N4
def mf_path_exact (Qad Qa1 : Fn) (N4 : Lp) : Fn := Qau Try.prog (C_path_exact_1 Qad Qa1 N4) 64 163 sig_path_exact osig_path_exact
theorem st_path_exact_4_eq (Qad Qa1 : Fn) (v0 : Rw) (v1 v2 : Int) : Qfo Qad Qa1 [.view kItm v0, I v1, I v2] =
 bif decide (v2 < v1) then
 bif decide (0 <= v2) && decide (v2 < (v0.length : Int)) then
 (Qad [jA (nth [] v0 v2.toNat) 0]).bind fun o5 =>
 bif bA o5 0 then
 (Qa1 [jA (nth [] v0 v2.toNat) 0, jA (nth [] v0 v2.toNat) 1, jA (nth [] v0 v2.toNat) 2, jA (nth [] v0 v2.toNat) 3, jA (nth [] v0 v2.toNat) 4, jA (nth [] v0 v2.toNat) 5, jA (nth [] v0 v2.toNat) 6, jA (nth [] v0 v2.toNat) 7, jA (nth [] v0 v2.toNat) 8, jA (nth [] v0 v2.toNat) 9, jA (nth [] v0 v2.toNat) 10, jA (nth [] v0 v2.toNat) 11, jA (nth [] v0 v2.toNat) 12, B (bA (nth [] v0 v2.toNat) 13), jA (nth [] v0 v2.toNat) 14, B (bA (nth [] v0 v2.toNat) 15), jA (nth [] v0 v2.toNat) 16, jA (nth [] v0 v2.toNat) 17, jA (nth [] v0 v2.toNat) 18, jA (nth [] v0 v2.toNat) 19, jA (nth [] v0 v2.toNat) 20, B (bA (nth [] v0 v2.toNat) 21)]).bind fun o6 =>
 some (1, [B (bA o6 0)])
 else
 some (0, [.view kItm v0, I v1, I (IntKind.i64.wrap (v2 + 1))])
 else
 none
 else
 some (2, []) := by kernel_rfl
theorem mf_path_exact_eq (Qad Qa1 : Fn) (N4 : Lp) (x0 : Rw) (x1 : Int) : mf_path_exact Qad Qa1 N4 [.view kItm x0, I x1] =
 bif decide (0 <= x1) && decide (x1 < (x0.length : Int)) then
 bif gA (nth [] x0 x1.toNat) 18 == 0 then
 some [B true]
 else
 bif decide (0 <= x1) && decide (x1 < (x0.length : Int)) then
 (Qa1 [jA (nth [] x0 x1.toNat) 0, jA (nth [] x0 x1.toNat) 1, jA (nth [] x0 x1.toNat) 2, jA (nth [] x0 x1.toNat) 3, jA (nth [] x0 x1.toNat) 4, jA (nth [] x0 x1.toNat) 5, jA (nth [] x0 x1.toNat) 6, jA (nth [] x0 x1.toNat) 7, jA (nth [] x0 x1.toNat) 8, jA (nth [] x0 x1.toNat) 9, jA (nth [] x0 x1.toNat) 10, jA (nth [] x0 x1.toNat) 11, jA (nth [] x0 x1.toNat) 12, B (bA (nth [] x0 x1.toNat) 13), jA (nth [] x0 x1.toNat) 14, B (bA (nth [] x0 x1.toNat) 15), jA (nth [] x0 x1.toNat) 16, jA (nth [] x0 x1.toNat) 17, jA (nth [] x0 x1.toNat) 18, jA (nth [] x0 x1.toNat) 19, jA (nth [] x0 x1.toNat) 20, B (bA (nth [] x0 x1.toNat) 21)]).bind fun o7 =>
 bif bA o7 0 then
 some [B true]
 else
 bif decide (0 <= IntKind.i64.wrap (x1 + 1)) && decide (IntKind.i64.wrap (x1 + 1) <= (x0.length : Int)) then
 (N4 [.view kItm (List.drop (IntKind.i64.wrap (x1 + 1)).toNat x0), I (↑(List.drop (IntKind.i64.wrap (x1 + 1)).toNat x0).length : Int), I 0]).bind fun o8 =>
 bif o8.1.beq 1 then
 some [B (bA o8.2 0)]
 else
 bif o8.1.beq 2 then
 some [B false]
 else
 none
 else
 none
 else
 none
 else
 none := by kernel_rfl
def l_path_exact_4 := Qby (Qfo Qbo Qd6 )
def m_path_exact := mf_path_exact Qbo Qd6 l_path_exact_4
theorem sp_path_exact : Qar Try.prog (C_path_exact_0 Qbo Qd6) := Qae rfl ⟨r_path_motion, r_path_geared, trivial⟩
theorem r_path_exact : Qbt Try.prog (163, spOf sig_path_exact osig_path_exact m_path_exact) := Qa5 (C := (C_path_exact_1 Qbo Qd6 l_path_exact_4)) (L := 64) (by kernel_rfl) ((FnOK.bare rfl rfl rfl).loop sp_path_exact eqOk Qbj (by kernel_rfl) (by kernel_rfl)) sp_path_exact eqOk Qbj (by kernel_rfl) (by kernel_rfl)
def Qjg : Sk := { tmps := [tf [CS.ptr 20000 0], tf [CS.sl kItm], tf [ci]], boxes := [(20000, 125, [ci, ci, ci, CS.own 20000 7, CS.own 20001 3, CS.bool, ci, ci, ci])], rows := [(20000, 74, kSgm), (20001, 79, kPt)] }
def Qij : Sk := { tmps := [TS.tup []], boxes := [(20000, 125, [ci, ci, ci, CS.own 20000 7, CS.own 20001 3, CS.bool, ci, ci, ci])], rows := [(20000, 74, kSgm), (20001, 79, kPt)] }
def Qi8 (Ql5 Qad : Fn) : Cfg := { spec := Qbq [(163, spOf sig_path_exact osig_path_exact Ql5), (137, spOf Qgs Qf3 Qad)], eqOk := Qbu, ownOff := ownOff }
def Qkg (Ql5 Qad : Fn) : Fn := Qau Try.prog (Qi8 Ql5 Qad) 64 141 Qjg Qij
abbrev Qjo (Qad : Fn) (x2 : Rw) (x3 : Int) (x1 : Rw) (x8 : Int) (x0 : Rw) (x4 x5 x6 : Int) (x7 : Bool) (x9 x10 : Int) : Option (List AC) :=
 (Qad [jA (nth [] x2 x3.toNat) 0]).bind fun o6 =>
 bif bA o6 0 then
 bif ((x1 ++ [[I x8, I 2, I x3]]).length * 24).ble 140737488355328 then
 some [.view kSgm x0, .view kPt (x1 ++ [[I x8, I 2, I x3]]), I x4, I x5, I x6, B x7, I x8, I x9, I x10]
 else
 none
 else
 bif gA (nth [] x2 x3.toNat) 0 == 10 then
 bif ((x1 ++ [[I x8, I 5, I x3]]).length * 24).ble 140737488355328 then
 some [.view kSgm x0, .view kPt (x1 ++ [[I x8, I 5, I x3]]), I x4, I x5, I x6, B x7, I x8, I x9, I x10]
 else
 none
 else
 bif gA (nth [] x2 x3.toNat) 0 == 13 then
 bif ((x1 ++ [[I x8, I 4, I x3]]).length * 24).ble 140737488355328 then
 some [.view kSgm x0, .view kPt (x1 ++ [[I x8, I 4, I x3]]), I x4, I x5, I x6, B x7, I x8, I x9, I x10]
 else
 none
 else
 bif ((x1 ++ [[I x8, I 3, I x3]]).length * 24).ble 140737488355328 then
 some [.view kSgm x0, .view kPt (x1 ++ [[I x8, I 3, I x3]]), I x4, I x5, I x6, B x7, I x8, I x9, I x10]
 else
 none
attribute [go_sem] Qjo
theorem mf_path_builder_mark_eq (Ql5 Qad : Fn) (x0 x1 x2 : Rw) (x3 x4 x5 x6 : Int) (x7 : Bool) (x8 x9 x10 : Int) : Qkg Ql5 Qad [.view kSgm x0, .view kPt x1, .view kItm x2, I x3, I x4, I x5, I x6, B x7, I x8, I x9, I x10] =
 bif decide (0 <= x3) && decide (x3 < (x2.length : Int)) then
 bif gA (nth [] x2 x3.toNat) 0 == 4 then
 bif ((x1 ++ [[I x8, I 6, I x3]]).length * 24).ble 140737488355328 then
 some [.view kSgm x0, .view kPt (x1 ++ [[I x8, I 6, I x3]]), I x4, I x5, I x6, B x7, I x8, I x9, I x10]
 else
 none
 else
 (Qad [jA (nth [] x2 x3.toNat) 0]).bind fun o4 =>
 bif bA o4 0 then
 (Ql5 [.view kItm x2, I x3]).bind fun o5 =>
 bif bA o5 0 then
 bif ((x1 ++ [[I x8, I 1, I x3]]).length * 24).ble 140737488355328 then
 some [.view kSgm x0, .view kPt (x1 ++ [[I x8, I 1, I x3]]), I x4, I x5, I x6, B x7, I x8, I x9, I x10]
 else
 none
 else
 Qjo Qad x2 x3 x1 x8 x0 x4 x5 x6 x7 x9 x10
 else
 Qjo Qad x2 x3 x1 x8 x0 x4 x5 x6 x7 x9 x10
 else
 none := by kernel_rfl
def Qcq := Qkg m_path_exact Qbo 
theorem sp_path_builder_mark : Qar Try.prog (Qi8 m_path_exact Qbo) := Qae rfl ⟨r_path_exact, r_path_motion, trivial⟩
theorem r_path_builder_mark : Qbt Try.prog (141, spOf Qjg Qij Qcq) := Qa5 (C := (Qi8 m_path_exact Qbo)) (L := 64) (by kernel_rfl) (FnOK.bare rfl rfl rfl) sp_path_builder_mark eqOk Qbj (by kernel_rfl) (by kernel_rfl)
def Qji : Sk := { tmps := [TS.v true [ci, ci, ci, ci, ci, ci, ci, ci, ci, ci, ci, ci, ci, CS.bool, ci, CS.bool, ci, ci, ci, ci, ci, CS.bool]], boxes := [], rows := [] }
def Qhu : Sk := { tmps := [TS.v true [ci, ci, ci]], boxes := [], rows := [] }
def C_path_middle_0 : Cfg := { spec := Qbq [], eqOk := Qbu, ownOff := ownOff }
def mf_path_middle : Fn := Qau Try.prog C_path_middle_0 64 162 Qji Qhu
theorem mf_path_middle_eq (x0 x1 x2 x3 x4 x5 x6 x7 x8 x9 x10 x11 x12 : Int) (x13 : Bool) (x14 : Int) (x15 : Bool) (x16 x17 x18 x19 x20 : Int) (x21 : Bool) : mf_path_middle [I x0, I x1, I x2, I x3, I x4, I x5, I x6, I x7, I x8, I x9, I x10, I x11, I x12, B x13, I x14, B x15, I x16, I x17, I x18, I x19, I x20, B x21] =
 some [I (IntKind.i64.wrap (IntKind.i64.wrap (x2 + x5) * 8)), I (IntKind.i64.wrap (IntKind.i64.wrap (x3 + x6) * 8)), I (IntKind.i64.wrap (IntKind.i64.wrap (x4 + x7) * 8))] := by kernel_rfl
def Qdd := mf_path_middle 
theorem sp_path_middle : Qar Try.prog (C_path_middle_0 ) := Qae rfl trivial
theorem r_path_middle : Qbt Try.prog (162, spOf Qji Qhu Qdd) := Qa5 (C := C_path_middle_0) (L := 64) (by kernel_rfl) (FnOK.bare rfl rfl rfl) sp_path_middle eqOk Qbj (by kernel_rfl) (by kernel_rfl)
def Qg3 : Sk := { tmps := [TS.v true [ci, ci, ci, ci, ci, ci, ci, ci, ci, ci, ci, ci, ci, CS.bool, ci, CS.bool, ci, ci, ci, ci, ci, CS.bool]], boxes := [], rows := [] }
def Qf2 : Sk := { tmps := [tf [CS.bool]], boxes := [], rows := [] }
def C_path_smooth_0 : Cfg := { spec := Qbq [], eqOk := Qbu, ownOff := ownOff }
def mf_path_smooth : Fn := Qau Try.prog C_path_smooth_0 64 102 Qg3 Qf2
theorem mf_path_smooth_eq (x0 x1 x2 x3 x4 x5 x6 x7 x8 x9 x10 x11 x12 : Int) (x13 : Bool) (x14 : Int) (x15 : Bool) (x16 x17 x18 x19 x20 : Int) (x21 : Bool) : mf_path_smooth [I x0, I x1, I x2, I x3, I x4, I x5, I x6, I x7, I x8, I x9, I x10, I x11, I x12, B x13, I x14, B x15, I x16, I x17, I x18, I x19, I x20, B x21] =
 bif x0 == 2 then
 some [B !(x2 == x5 && (x3 == x6 && (x4 == x7 && true)))]
 else
 some [B false] := by kernel_rfl
def Qb6 := mf_path_smooth 
theorem sp_path_smooth : Qar Try.prog (C_path_smooth_0 ) := Qae rfl trivial
theorem r_path_smooth : Qbt Try.prog (102, spOf Qg3 Qf2 Qb6) := Qa5 (C := C_path_smooth_0) (L := 64) (by kernel_rfl) (FnOK.bare rfl rfl rfl) sp_path_smooth eqOk Qbj (by kernel_rfl) (by kernel_rfl)
def Qln : Sk := { tmps := [TS.v true [CS.int .u64, CS.int .u64], TS.v true [CS.int .u64, CS.int .u64]], boxes := [], rows := [] }
def Qj6 : Sk := { tmps := [tf [ci]], boxes := [], rows := [] }
def C_wide_compare_0 : Cfg := { spec := Qbq [], eqOk := Qbu, ownOff := ownOff }
def mf_wide_compare : Fn := Qau Try.prog C_wide_compare_0 64 105 Qln Qj6
theorem mf_wide_compare_eq (x0 x1 x2 x3 : Int) : mf_wide_compare [U x0, U x1, U x2, U x3] =
 bif decide (x0 < x2) then
 some [I (-1)]
 else
 bif x0 == x2 then
 bif decide (x1 < x3) then
 some [I (-1)]
 else
 bif x0 == x2 && (x1 == x3 && true) then
 some [I 0]
 else
 some [I 1]
 else
 bif x0 == x2 && (x1 == x3 && true) then
 some [I 0]
 else
 some [I 1] := by kernel_rfl
def Qd5 := mf_wide_compare 
theorem sp_wide_compare : Qar Try.prog (C_wide_compare_0 ) := Qae rfl trivial
theorem r_wide_compare : Qbt Try.prog (105, spOf Qln Qj6 Qd5) := Qa5 (C := C_wide_compare_0) (L := 64) (by kernel_rfl) (FnOK.bare rfl rfl rfl) sp_wide_compare eqOk Qbj (by kernel_rfl) (by kernel_rfl)
def Qiq : Sk := { tmps := [TS.v true [CS.int .u64, CS.int .u64]], boxes := [], rows := [] }
def Qhe : Sk := { tmps := [tf [CS.int .u64]], boxes := [], rows := [] }
def Qm4 (Qbk Qan : Fn) : Cfg := { spec := Qbq [(105, spOf Qln Qj6 Qbk), (106, spOf Qfx Qff Qan)], eqOk := Qbu, ownOff := ownOff }
def sk_wide_floorRoot_3 : Sk := { tmps := [td, tf [CS.ptr 1 0], td, tf [CS.int .u64], tf [CS.int .u64]] ++ dd 16, boxes := [(1, 134, [CS.int .u64, CS.int .u64])], rows := [] }
def ex_wide_floorRoot_3 : List (Ex × Sk) := [(Ex.exit 0, { tmps := [td, td, td, tf [CS.int .u64]] ++ dd 17, boxes := [], rows := [] })]
def Qdv (Qbk Qan : Fn) : Lp := stepL Try.prog (Qm4 Qbk Qan) 64 3 (Qg8 Try.prog 172 3) sk_wide_floorRoot_3 ex_wide_floorRoot_3
def C_wide_floorRoot_1 (Qbk Qan : Fn) (N3 : Lp) : Cfg := (Qm4 Qbk Qan).loop 3 sk_wide_floorRoot_3 ex_wide_floorRoot_3 N3
def mf_wide_floorRoot (Qbk Qan : Fn) (N3 : Lp) : Fn := Qau Try.prog (C_wide_floorRoot_1 Qbk Qan N3) 64 172 Qiq Qhe
theorem st_wide_floorRoot_3_eq (Qbk Qan : Fn) (v0 v1 v2 v3 : Int) : Qdv Qbk Qan [U v0, U v1, U v2, U v3] =
 bif decide (v1 > 0) then
 (Qan [U (IntKind.u64.wrap (↑(BitVec.ofInt IntKind.u64.bits v0 ||| BitVec.ofInt IntKind.u64.bits v1).toNat : Int)), U (IntKind.u64.wrap (↑(BitVec.ofInt IntKind.u64.bits v0 ||| BitVec.ofInt IntKind.u64.bits v1).toNat : Int))]).bind fun o3 =>
 (Qbk [U (gA o3 0), U (gA o3 1), U v2, U v3]).bind fun o4 =>
 bif decide (gA o4 0 <= 0) then
 some (0, [U (IntKind.u64.wrap (↑(BitVec.ofInt IntKind.u64.bits v0 ||| BitVec.ofInt IntKind.u64.bits v1).toNat : Int)), U (v1.fdiv (2 ^ min (Int.toNat 1) IntKind.u64.bits)), U v2, U v3])
 else
 some (0, [U v0, U (v1.fdiv (2 ^ min (Int.toNat 1) IntKind.u64.bits)), U v2, U v3])
 else
 some (1, [U v0]) := by kernel_rfl
theorem mf_wide_floorRoot_eq (Qbk Qan : Fn) (N3 : Lp) (x0 x1 : Int) : mf_wide_floorRoot Qbk Qan N3 [U x0, U x1] =
 (N3 [U 0, U 9223372036854775808, U x0, U x1]).bind fun o5 =>
 bif o5.1.beq 1 then
 some [U (gA o5.2 0)]
 else
 none := by kernel_rfl
def l_wide_floorRoot_3 := Qby (Qdv Qd5 Qbp )
def Qeh := mf_wide_floorRoot Qd5 Qbp l_wide_floorRoot_3
theorem sp_wide_floorRoot : Qar Try.prog (Qm4 Qd5 Qbp) := Qae rfl ⟨r_wide_compare, r_wide_product, trivial⟩
theorem r_wide_floorRoot : Qbt Try.prog (172, spOf Qiq Qhe Qeh) := Qa5 (C := (C_wide_floorRoot_1 Qd5 Qbp l_wide_floorRoot_3)) (L := 64) (by kernel_rfl) ((FnOK.bare rfl rfl rfl).loop sp_wide_floorRoot eqOk Qbj (by kernel_rfl) (by kernel_rfl)) sp_wide_floorRoot eqOk Qbj (by kernel_rfl) (by kernel_rfl)
def sig_wide_root : Sk := { tmps := [TS.v true [CS.int .u64, CS.int .u64], tf [ci]], boxes := [], rows := [] }
def osig_wide_root : Sk := { tmps := [TS.tup [(false, [ci]), (false, [CS.bool])]], boxes := [], rows := [] }
def C_wide_root_0 (Qaj Qjf Qdz Qb5 : Fn) : Cfg := { spec := Qbq [(146, spOf Qjj Qht Qaj), (173, spOf sig_bits_Sub64 osig_bits_Sub64 Qjf), (147, spOf Qko Qja Qdz), (172, spOf Qiq Qhe Qb5)], eqOk := Qbu, ownOff := ownOff }
def mf_wide_root (Qaj Qjf Qdz Qb5 : Fn) : Fn := Qau Try.prog (C_wide_root_0 Qaj Qjf Qdz Qb5) 64 156 sig_wide_root osig_wide_root
abbrev g_wide_root_1 (x2 : Int) (o17 : List AC) (Qaj : Fn) (o14 o16 : List AC) : Option (List AC) :=
 bif x2 == 2 then
 bif decide (gA o17 0 > 0) then
 (Qaj [U (IntKind.u64.wrap (gA o14 0 + 1)), B false]).bind fun o20 =>
 some [jA o20 0, B (bA o20 1)]
 else
 bif decide (gA o16 0 > gA o14 0) then
 (Qaj [U (IntKind.u64.wrap (gA o14 0 + 1)), B false]).bind fun o21 =>
 some [jA o21 0, B (bA o21 1)]
 else
 (Qaj [U (gA o14 0), B false]).bind fun o22 =>
 some [jA o22 0, B (bA o22 1)]
 else
 (Qaj [U (gA o14 0), B false]).bind fun o23 =>
 some [jA o23 0, B (bA o23 1)]
attribute [go_sem] g_wide_root_1
theorem mf_wide_root_eq (Qaj Qjf Qdz Qb5 : Fn) (x0 x1 x2 : Int) : mf_wide_root Qaj Qjf Qdz Qb5 [U x0, U x1, I x2] =
 (Qb5 [U x0, U x1]).bind fun o14 =>
 (Qdz [U (gA o14 0), U (gA o14 0)]).bind fun o15 =>
 (Qjf [U x1, U (gA o15 1), U 0]).bind fun o16 =>
 (Qjf [U x0, U (gA o15 0), U (gA o16 1)]).bind fun o17 =>
 bif x2 == 1 then
 bif decide (gA o17 0 > 0) then
 (Qaj [U (IntKind.u64.wrap (gA o14 0 + 1)), B false]).bind fun o18 =>
 some [jA o18 0, B (bA o18 1)]
 else
 bif decide (gA o16 0 > 0) then
 (Qaj [U (IntKind.u64.wrap (gA o14 0 + 1)), B false]).bind fun o19 =>
 some [jA o19 0, B (bA o19 1)]
 else
 g_wide_root_1 x2 o17 Qaj o14 o16
 else
 g_wide_root_1 x2 o17 Qaj o14 o16 := by kernel_rfl
def m_wide_root := mf_wide_root Qcn Qfc Qeg Qeh 
theorem sp_wide_root : Qar Try.prog (C_wide_root_0 Qcn Qfc Qeg Qeh) := Qae rfl ⟨r_wide_signed, r_bits_Sub64, r_bits_Mul64, r_wide_floorRoot, trivial⟩
theorem r_wide_root : Qbt Try.prog (156, spOf sig_wide_root osig_wide_root m_wide_root) := Qa5 (C := (C_wide_root_0 Qcn Qfc Qeg Qeh)) (L := 64) (by kernel_rfl) (FnOK.bare rfl rfl rfl) sp_wide_root eqOk Qbj (by kernel_rfl) (by kernel_rfl)
def sig_wide_Sqrt : Sk := { tmps := [tf [ci], tf [ci]], boxes := [], rows := [] }
def osig_wide_Sqrt : Sk := { tmps := [TS.tup [(false, [ci]), (false, [CS.bool])]], boxes := [], rows := [] }
def C_wide_Sqrt_0 (M_wide_root Qb3 : Fn) : Cfg := { spec := Qbq [(156, spOf sig_wide_root osig_wide_root M_wide_root), (143, spOf Qkl Qi6 Qb3)], eqOk := Qbu, ownOff := ownOff }
def mf_wide_Sqrt (M_wide_root Qb3 : Fn) : Fn := Qau Try.prog (C_wide_Sqrt_0 M_wide_root Qb3) 64 134 sig_wide_Sqrt osig_wide_Sqrt
theorem mf_wide_Sqrt_eq (M_wide_root Qb3 : Fn) (x0 x1 : Int) : mf_wide_Sqrt M_wide_root Qb3 [I x0, I x1] =
 bif decide (x0 < 0) then
 some [I 0, B false]
 else
 (Qb3 [I x1]).bind fun o2 =>
 bif !bA o2 0 then
 some [I 0, B false]
 else
 (M_wide_root [U 0, U (IntKind.u64.wrap x0), I x1]).bind fun o3 =>
 some [jA o3 0, B (bA o3 1)] := by kernel_rfl
def Qhq := mf_wide_Sqrt m_wide_root Qd0 
theorem sp_wide_Sqrt : Qar Try.prog (C_wide_Sqrt_0 m_wide_root Qd0) := Qae rfl ⟨r_wide_root, r_wide_known, trivial⟩
theorem r_wide_Sqrt : Qbt Try.prog (134, spOf sig_wide_Sqrt osig_wide_Sqrt Qhq) := Qa5 (C := (C_wide_Sqrt_0 m_wide_root Qd0)) (L := 64) (by kernel_rfl) (FnOK.bare rfl rfl rfl) sp_wide_Sqrt eqOk Qbj (by kernel_rfl) (by kernel_rfl)
def Qlg : Sk := { tmps := [TS.v true [ci, ci, ci], TS.v true [ci, ci, ci]], boxes := [], rows := [] }
def Qj2 : Sk := { tmps := [tf [ci]], boxes := [], rows := [] }
def C_curve_Length_0 (Qd8 : Fn) : Cfg := { spec := Qbq [(134, spOf sig_wide_Sqrt osig_wide_Sqrt Qd8)], eqOk := Qbu, ownOff := ownOff, unroll := [3] }
def mf_curve_Length (Qd8 : Fn) : Fn := Qau Try.prog (C_curve_Length_0 Qd8) 64 177 Qlg Qj2
theorem mf_curve_Length_eq (Qd8 : Fn) (x0 x1 x2 x3 x4 x5 : Int) : mf_curve_Length Qd8 [I x0, I x1, I x2, I x3, I x4, I x5] =
 (Qd8 [I (IntKind.i64.wrap (IntKind.i64.wrap (IntKind.i64.wrap (0 + IntKind.i64.wrap (IntKind.i64.wrap (x0 - x3) * IntKind.i64.wrap (x0 - x3))) + IntKind.i64.wrap (IntKind.i64.wrap (x1 - x4) * IntKind.i64.wrap (x1 - x4))) + IntKind.i64.wrap (IntKind.i64.wrap (x2 - x5) * IntKind.i64.wrap (x2 - x5)))), I 1]).bind fun o1 =>
 some [jA o1 0] := by kernel_rfl
def Qep := mf_curve_Length Qhq 
theorem sp_curve_Length : Qar Try.prog (C_curve_Length_0 Qhq) := Qae rfl ⟨r_wide_Sqrt, trivial⟩
theorem r_curve_Length : Qbt Try.prog (177, spOf Qlg Qj2 Qep) := Qa5 (C := (C_curve_Length_0 Qhq)) (L := 64) (by kernel_rfl) (FnOK.bare rfl rfl rfl) sp_curve_Length eqOk Qbj (by kernel_rfl) (by kernel_rfl)
def Qkb : Sk := { tmps := [tf [CS.ptr 20000 0], TS.v true [ci, ci, ci], TS.v true [ci, ci, ci, ci, ci, ci, ci]], boxes := [(20000, 125, [ci, ci, ci, CS.own 20000 7, CS.own 20001 3, CS.bool, ci, ci, ci])], rows := [(20000, 74, kSgm), (20001, 79, kPt)] }
def Qjk : Sk := { tmps := [TS.tup []], boxes := [(20000, 125, [ci, ci, ci, CS.own 20000 7, CS.own 20001 3, CS.bool, ci, ci, ci])], rows := [(20000, 74, kSgm), (20001, 79, kPt)] }
def Qke (Qa4 : Fn) : Cfg := { spec := Qbq [(177, spOf Qlg Qj2 Qa4)], eqOk := Qbu, ownOff := ownOff }
def Qhk (Qa4 : Fn) : Fn := Qau Try.prog (Qke Qa4) 64 161 Qkb Qjk
abbrev Qkh (x15 : Bool) (x0 x1 : Rw) (x2 x3 x4 x16 x17 x18 x12 x13 x14 : Int) (Qa4 : Fn) (x9 x10 x11 : Int) (h1_0 : Bool) (h1_1 h1_2 h1_3 : AC) : Option (List AC) :=
 bif !x15 then
 some [.view kSgm x0, .view kPt x1, I x2, I x3, I x4, B true, I x16, I x17, I x18]
 else
 bif h1_0 then
 some [.view kSgm x0, .view kPt x1, I x12, I x13, I x14, B x15, I x16, I x17, I x18]
 else
 (Qa4 [h1_1, h1_2, h1_3, I x2, I x3, I x4]).bind fun o2 =>
 bif ((x0 ++ [[I x2, I x3, I x4, jA o2 0, I x9, I x10, I x11]]).length * 56).ble 140737488355328 then
 some [.view kSgm (x0 ++ [[I x2, I x3, I x4, jA o2 0, I x9, I x10, I x11]]), .view kPt x1, I x12, I x13, I x14, B x15, I (IntKind.i64.wrap (x16 + gA o2 0)), I x17, I x18]
 else
 none
attribute [go_sem] Qkh
theorem mf_path_builder_add_eq (Qa4 : Fn) (x0 x1 : Rw) (x2 x3 x4 x5 x6 x7 x8 x9 x10 x11 x12 x13 x14 : Int) (x15 : Bool) (x16 x17 x18 : Int) : Qhk Qa4 [.view kSgm x0, .view kPt x1, I x2, I x3, I x4, I x5, I x6, I x7, I x8, I x9, I x10, I x11, I x12, I x13, I x14, B x15, I x16, I x17, I x18] =
 bif decide ((x0.length : Int) > 0) then
 bif decide (0 <= IntKind.i64.wrap ((x0.length : Int) - 1)) && decide (IntKind.i64.wrap ((x0.length : Int) - 1) < (x0.length : Int)) then
 Qkh x15 x0 x1 x2 x3 x4 x16 x17 x18 x12 x13 x14 Qa4 x9 x10 x11 (x2 == gA (nth [] x0 (IntKind.i64.wrap ((x0.length : Int) - 1)).toNat) 0 && (x3 == gA (nth [] x0 (IntKind.i64.wrap ((x0.length : Int) - 1)).toNat) 1 && (x4 == gA (nth [] x0 (IntKind.i64.wrap ((x0.length : Int) - 1)).toNat) 2 && true))) (jA (nth [] x0 (IntKind.i64.wrap ((x0.length : Int) - 1)).toNat) 0) (jA (nth [] x0 (IntKind.i64.wrap ((x0.length : Int) - 1)).toNat) 1) (jA (nth [] x0 (IntKind.i64.wrap ((x0.length : Int) - 1)).toNat) 2)
 else
 none
 else
 Qkh x15 x0 x1 x2 x3 x4 x16 x17 x18 x12 x13 x14 Qa4 x9 x10 x11 (x2 == x12 && (x3 == x13 && (x4 == x14 && true))) (I x12) (I x13) (I x14) := by kernel_rfl
def Qew := Qhk Qep 
theorem sp_path_builder_add : Qar Try.prog (Qke Qep) := Qae rfl ⟨r_curve_Length, trivial⟩
theorem r_path_builder_add : Qbt Try.prog (161, spOf Qkb Qjk Qew) := Qa5 (C := (Qke Qep)) (L := 64) (by kernel_rfl) (FnOK.bare rfl rfl rfl) sp_path_builder_add eqOk Qbj (by kernel_rfl) (by kernel_rfl)
def Qm2 : Sk := { tmps := [tf [CS.sl kItm], tf [ci]], boxes := [], rows := [] }
def Qkn : Sk := { tmps := [tf [ci]], boxes := [], rows := [] }
def C_path_next_0 : Cfg := { spec := Qbq [], eqOk := Qbu, ownOff := ownOff }
def sk_path_next_2 : Sk := { tmps := [tf [CS.sl kItm], tf [ci]] ++ dd 20, boxes := [], rows := [] }
def ex_path_next_2 : List (Ex × Sk) := [(Ex.exit 0, { tmps := [td, tf [ci]] ++ dd 20, boxes := [], rows := [] })]
def Qkk : Lp := stepL Try.prog C_path_next_0 64 2 (Qg8 Try.prog 139 2) sk_path_next_2 ex_path_next_2
def C_path_next_1 (N2 : Lp) : Cfg := C_path_next_0.loop 2 sk_path_next_2 ex_path_next_2 N2
def mf_path_next (N2 : Lp) : Fn := Qau Try.prog (C_path_next_1 N2) 64 139 Qm2 Qkn
theorem st_path_next_2_eq (v0 : Rw) (v1 : Int) : Qkk [.view kItm v0, I v1] =
 bif decide (v1 < (v0.length : Int)) then
 bif decide (0 <= v1) && decide (v1 < (v0.length : Int)) then
 bif gA (nth [] v0 v1.toNat) 0 == 10 then
 some (0, [.view kItm v0, I (IntKind.i64.wrap (v1 + 1))])
 else
 some (1, [I v1])
 else
 none
 else
 some (1, [I v1]) := by kernel_rfl
theorem mf_path_next_eq (N2 : Lp) (x0 : Rw) (x1 : Int) : mf_path_next N2 [.view kItm x0, I x1] =
 (N2 [.view kItm x0, I (IntKind.i64.wrap (x1 + 1))]).bind fun o1 =>
 bif o1.1.beq 1 then
 some [jA o1.2 0]
 else
 none := by kernel_rfl
def l_path_next_2 := Qby (Qkk )
def Qdw := mf_path_next l_path_next_2
theorem sp_path_next : Qar Try.prog (C_path_next_0 ) := Qae rfl trivial
theorem r_path_next : Qbt Try.prog (139, spOf Qm2 Qkn Qdw) := Qa5 (C := (C_path_next_1 l_path_next_2)) (L := 64) (by kernel_rfl) ((FnOK.bare rfl rfl rfl).loop sp_path_next eqOk Qbj (by kernel_rfl) (by kernel_rfl)) sp_path_next eqOk Qbj (by kernel_rfl) (by kernel_rfl)
def sig_path_soft : Sk := { tmps := [tf [CS.sl kItm], tf [ci]], boxes := [], rows := [] }
def osig_path_soft : Sk := { tmps := [tf [CS.bool]], boxes := [], rows := [] }
def C_path_soft_0 (Qam Qav : Fn) : Cfg := { spec := Qbq [(102, spOf Qg3 Qf2 Qam), (139, spOf Qm2 Qkn Qav)], eqOk := Qbu, ownOff := ownOff }
def mf_path_soft (Qam Qav : Fn) : Fn := Qau Try.prog (C_path_soft_0 Qam Qav) 64 138 sig_path_soft osig_path_soft
theorem mf_path_soft_eq (Qam Qav : Fn) (x0 : Rw) (x1 : Int) : mf_path_soft Qam Qav [.view kItm x0, I x1] =
 (Qav [.view kItm x0, I x1]).bind fun o3 =>
 bif decide (0 <= x1) && decide (x1 < (x0.length : Int)) then
 (Qam [jA (nth [] x0 x1.toNat) 0, jA (nth [] x0 x1.toNat) 1, jA (nth [] x0 x1.toNat) 2, jA (nth [] x0 x1.toNat) 3, jA (nth [] x0 x1.toNat) 4, jA (nth [] x0 x1.toNat) 5, jA (nth [] x0 x1.toNat) 6, jA (nth [] x0 x1.toNat) 7, jA (nth [] x0 x1.toNat) 8, jA (nth [] x0 x1.toNat) 9, jA (nth [] x0 x1.toNat) 10, jA (nth [] x0 x1.toNat) 11, jA (nth [] x0 x1.toNat) 12, B (bA (nth [] x0 x1.toNat) 13), jA (nth [] x0 x1.toNat) 14, B (bA (nth [] x0 x1.toNat) 15), jA (nth [] x0 x1.toNat) 16, jA (nth [] x0 x1.toNat) 17, jA (nth [] x0 x1.toNat) 18, jA (nth [] x0 x1.toNat) 19, jA (nth [] x0 x1.toNat) 20, B (bA (nth [] x0 x1.toNat) 21)]).bind fun o4 =>
 bif bA o4 0 then
 bif decide (0 <= x1) && decide (x1 < (x0.length : Int)) then
 bif gA (nth [] x0 x1.toNat) 18 != 0 then
 bif decide (gA o3 0 < (x0.length : Int)) then
 bif decide (0 <= gA o3 0) && decide (gA o3 0 < (x0.length : Int)) then
 (Qam [jA (nth [] x0 (gA o3 0).toNat) 0, jA (nth [] x0 (gA o3 0).toNat) 1, jA (nth [] x0 (gA o3 0).toNat) 2, jA (nth [] x0 (gA o3 0).toNat) 3, jA (nth [] x0 (gA o3 0).toNat) 4, jA (nth [] x0 (gA o3 0).toNat) 5, jA (nth [] x0 (gA o3 0).toNat) 6, jA (nth [] x0 (gA o3 0).toNat) 7, jA (nth [] x0 (gA o3 0).toNat) 8, jA (nth [] x0 (gA o3 0).toNat) 9, jA (nth [] x0 (gA o3 0).toNat) 10, jA (nth [] x0 (gA o3 0).toNat) 11, jA (nth [] x0 (gA o3 0).toNat) 12, B (bA (nth [] x0 (gA o3 0).toNat) 13), jA (nth [] x0 (gA o3 0).toNat) 14, B (bA (nth [] x0 (gA o3 0).toNat) 15), jA (nth [] x0 (gA o3 0).toNat) 16, jA (nth [] x0 (gA o3 0).toNat) 17, jA (nth [] x0 (gA o3 0).toNat) 18, jA (nth [] x0 (gA o3 0).toNat) 19, jA (nth [] x0 (gA o3 0).toNat) 20, B (bA (nth [] x0 (gA o3 0).toNat) 21)]).bind fun o5 =>
 some [B (bA o5 0)]
 else
 none
 else
 some [B false]
 else
 some [B false]
 else
 none
 else
 some [B false]
 else
 none := by kernel_rfl
def Qex := mf_path_soft Qb6 Qdw 
theorem sp_path_soft : Qar Try.prog (C_path_soft_0 Qb6 Qdw) := Qae rfl ⟨r_path_smooth, r_path_next, trivial⟩
theorem r_path_soft : Qbt Try.prog (138, spOf sig_path_soft osig_path_soft Qex) := Qa5 (C := (C_path_soft_0 Qb6 Qdw)) (L := 64) (by kernel_rfl) (FnOK.bare rfl rfl rfl) sp_path_soft eqOk Qbj (by kernel_rfl) (by kernel_rfl)
def sig_blend_bend : Sk := { tmps := [TS.v true [ci, ci, ci], TS.v true [ci, ci, ci], TS.v true [ci, ci, ci]], boxes := [], rows := [] }
def Qm3 : Sk := { tmps := [tf [ci]], boxes := [], rows := [] }
def C_blend_bend_0 : Cfg := { spec := Qbq [], eqOk := Qbu, ownOff := ownOff, unroll := [3] }
def mf_blend_bend : Fn := Qau Try.prog C_blend_bend_0 64 194 sig_blend_bend Qm3
theorem mf_blend_bend_eq (x0 x1 x2 x3 x4 x5 x6 x7 x8 : Int) : mf_blend_bend [I x0, I x1, I x2, I x3, I x4, I x5, I x6, I x7, I x8] =
 some [I (IntKind.i64.wrap (IntKind.i64.wrap (IntKind.i64.wrap (0 + IntKind.i64.wrap (IntKind.i64.wrap (IntKind.i64.wrap (x0 + x6) - IntKind.i64.wrap (2 * x3)) * IntKind.i64.wrap (IntKind.i64.wrap (x0 + x6) - IntKind.i64.wrap (2 * x3)))) + IntKind.i64.wrap (IntKind.i64.wrap (IntKind.i64.wrap (x1 + x7) - IntKind.i64.wrap (2 * x4)) * IntKind.i64.wrap (IntKind.i64.wrap (x1 + x7) - IntKind.i64.wrap (2 * x4)))) + IntKind.i64.wrap (IntKind.i64.wrap (IntKind.i64.wrap (x2 + x8) - IntKind.i64.wrap (2 * x5)) * IntKind.i64.wrap (IntKind.i64.wrap (x2 + x8) - IntKind.i64.wrap (2 * x5)))))] := by kernel_rfl
def Qee := mf_blend_bend 
theorem sp_blend_bend : Qar Try.prog (C_blend_bend_0 ) := Qae rfl trivial
theorem r_blend_bend : Qbt Try.prog (194, spOf sig_blend_bend Qm3 Qee) := Qa5 (C := C_blend_bend_0) (L := 64) (by kernel_rfl) (FnOK.bare rfl rfl rfl) sp_blend_bend eqOk Qbj (by kernel_rfl) (by kernel_rfl)
def sig_blend_Pieces : Sk := { tmps := [TS.v true [ci, ci, ci], TS.v true [ci, ci, ci], TS.v true [ci, ci, ci]], boxes := [], rows := [] }
def osig_blend_Pieces : Sk := { tmps := [tf [ci]], boxes := [], rows := [] }
def C_blend_Pieces_0 (Qbf : Fn) : Cfg := { spec := Qbq [(194, spOf sig_blend_bend Qm3 Qbf)], eqOk := Qbu, ownOff := ownOff }
def sk_blend_Pieces_2 : Sk := { tmps := [td, td, td, tf [CS.ptr 3 0], tf [CS.ptr 4 0], tf [CS.ptr 5 0], td, tf [ci]] ++ dd 22, boxes := [(3, 23, [ci, ci, ci]), (4, 23, [ci, ci, ci]), (5, 23, [ci, ci, ci])], rows := [] }
def ex_blend_Pieces_2 : List (Ex × Sk) := [(Ex.exit 0, { tmps := [td, td, td, td, td, td, td, tf [ci]] ++ dd 22, boxes := [], rows := [] })]
def Qgr (Qbf : Fn) : Lp := stepL Try.prog (C_blend_Pieces_0 Qbf) 64 2 (Qg8 Try.prog 192 2) sk_blend_Pieces_2 ex_blend_Pieces_2
def C_blend_Pieces_1 (Qbf : Fn) (N2 : Lp) : Cfg := (C_blend_Pieces_0 Qbf).loop 2 sk_blend_Pieces_2 ex_blend_Pieces_2 N2
def mf_blend_Pieces (Qbf : Fn) (N2 : Lp) : Fn := Qau Try.prog (C_blend_Pieces_1 Qbf N2) 64 192 sig_blend_Pieces osig_blend_Pieces
theorem st_blend_Pieces_2_eq (Qbf : Fn) (v0 v1 v2 v3 v4 v5 v6 v7 v8 v9 : Int) : Qgr Qbf [I v0, I v1, I v2, I v3, I v4, I v5, I v6, I v7, I v8, I v9] =
 bif decide (v0 < 64) then
 (Qbf [I v1, I v2, I v3, I v4, I v5, I v6, I v7, I v8, I v9]).bind fun o2 =>
 bif decide (gA o2 0 > IntKind.i64.wrap (IntKind.i64.wrap (IntKind.i64.wrap (IntKind.i64.wrap (IntKind.i64.wrap (IntKind.i64.wrap (16 * v0) * v0) * v0) * v0) * 4) * 4)) then
 some (0, [I (IntKind.i64.wrap (v0 * 2)), I v1, I v2, I v3, I v4, I v5, I v6, I v7, I v8, I v9])
 else
 some (1, [I v0])
 else
 some (1, [I v0]) := by kernel_rfl
theorem mf_blend_Pieces_eq (Qbf : Fn) (N2 : Lp) (x0 x1 x2 x3 x4 x5 x6 x7 x8 : Int) : mf_blend_Pieces Qbf N2 [I x0, I x1, I x2, I x3, I x4, I x5, I x6, I x7, I x8] =
 (N2 [I 2, I x0, I x1, I x2, I x3, I x4, I x5, I x6, I x7, I x8]).bind fun o3 =>
 bif o3.1.beq 1 then
 some [jA o3.2 0]
 else
 none := by kernel_rfl
def l_blend_Pieces_2 := Qby (Qgr Qee )
def Qfb := mf_blend_Pieces Qee l_blend_Pieces_2
theorem sp_blend_Pieces : Qar Try.prog (C_blend_Pieces_0 Qee) := Qae rfl ⟨r_blend_bend, trivial⟩
theorem r_blend_Pieces : Qbt Try.prog (192, spOf sig_blend_Pieces osig_blend_Pieces Qfb) := Qa5 (C := (C_blend_Pieces_1 Qee l_blend_Pieces_2)) (L := 64) (by kernel_rfl) ((FnOK.bare rfl rfl rfl).loop sp_blend_Pieces eqOk Qbj (by kernel_rfl) (by kernel_rfl)) sp_blend_Pieces eqOk Qbj (by kernel_rfl) (by kernel_rfl)
def sig_wide_quotient : Sk := { tmps := [TS.v true [CS.int .u64, CS.int .u64], tf [CS.int .u64]], boxes := [], rows := [] }
def osig_wide_quotient : Sk := { tmps := [TS.tup [(true, [CS.int .u64, CS.int .u64]), (false, [CS.bool])]], boxes := [], rows := [] }
def C_wide_quotient_0 (Qdh : Fn) : Cfg := { spec := Qbq [(144, spOf sig_bits_Div64 Qmw Qdh)], eqOk := Qbu, ownOff := ownOff }
def mf_wide_quotient (Qdh : Fn) : Fn := Qau Try.prog (C_wide_quotient_0 Qdh) 64 184 sig_wide_quotient osig_wide_quotient
theorem mf_wide_quotient_eq (Qdh : Fn) (x0 x1 x2 : Int) : mf_wide_quotient Qdh [U x0, U x1, U x2] =
 (Qdh [U 0, U x0, U x2]).bind fun o2 =>
 (Qdh [U (gA o2 1), U x1, U x2]).bind fun o3 =>
 some [U (gA o2 0), U (gA o3 0), B (decide (gA o3 1 > 0))] := by kernel_rfl
def Qni := mf_wide_quotient Qef 
theorem sp_wide_quotient : Qar Try.prog (C_wide_quotient_0 Qef) := Qae rfl ⟨r_bits_Div64, trivial⟩
theorem r_wide_quotient : Qbt Try.prog (184, spOf sig_wide_quotient osig_wide_quotient Qni) := Qa5 (C := (C_wide_quotient_0 Qef)) (L := 64) (by kernel_rfl) (FnOK.bare rfl rfl rfl) sp_wide_quotient eqOk Qbj (by kernel_rfl) (by kernel_rfl)
def sig_wide_Over : Sk := { tmps := [tf [ci], tf [ci], tf [ci], tf [ci]], boxes := [], rows := [] }
def osig_wide_Over : Sk := { tmps := [TS.tup [(false, [ci]), (false, [CS.bool])]], boxes := [], rows := [] }
def C_wide_Over_0 (Qaj Qa9 Qb0 Qb5 Qg7 Qan Qb3 Qbg : Fn) : Cfg := { spec := Qbq [(146, spOf Qjj Qht Qaj), (145, spOf sig_wide_grows Qmp Qa9), (104, spOf sig_wide_sign Qkv Qb0), (172, spOf Qiq Qhe Qb5), (184, spOf sig_wide_quotient osig_wide_quotient Qg7), (106, spOf Qfx Qff Qan), (143, spOf Qkl Qi6 Qb3), (107, spOf Qme Qkw Qbg)], eqOk := Qbu, ownOff := ownOff }
def mf_wide_Over (Qaj Qa9 Qb0 Qb5 Qg7 Qan Qb3 Qbg : Fn) : Fn := Qau Try.prog (C_wide_Over_0 Qaj Qa9 Qb0 Qb5 Qg7 Qan Qb3 Qbg) 64 175 sig_wide_Over osig_wide_Over
abbrev Qnl (Qa9 : Fn) (x3 : Int) (Qaj : Fn) (o42 : List AC) (h1_0 : Bool) (h1_1 h1_2 h1_3 h1_4 : AC) : Option (List AC) :=
 bif h1_0 then
 (Qa9 [I x3, h1_1, B true, h1_2]).bind fun o44 =>
 bif bA o44 0 then
 (Qaj [U (IntKind.u64.wrap (IntKind.u64.wrap ((gA o42 0).tdiv 2) + 1)), h1_2]).bind fun o45 =>
 some [jA o45 0, B (bA o45 1)]
 else
 (Qaj [U (IntKind.u64.wrap ((gA o42 0).tdiv 2)), h1_2]).bind fun o46 =>
 some [jA o46 0, B (bA o46 1)]
 else
 (Qa9 [I x3, h1_3, h1_4, h1_2]).bind fun o47 =>
 bif bA o47 0 then
 (Qaj [U (IntKind.u64.wrap (IntKind.u64.wrap ((gA o42 0).tdiv 2) + 1)), h1_2]).bind fun o48 =>
 some [jA o48 0, B (bA o48 1)]
 else
 (Qaj [U (IntKind.u64.wrap ((gA o42 0).tdiv 2)), h1_2]).bind fun o49 =>
 some [jA o49 0, B (bA o49 1)]
attribute [go_sem] Qnl
theorem mf_wide_Over_eq (Qaj Qa9 Qb0 Qb5 Qg7 Qan Qb3 Qbg : Fn) (x0 x1 x2 x3 : Int) : mf_wide_Over Qaj Qa9 Qb0 Qb5 Qg7 Qan Qb3 Qbg [I x0, I x1, I x2, I x3] =
 (Qbg [I x0]).bind fun o35 =>
 bif decide (gA o35 0 > 2147483648) then
 some [I 0, B false]
 else
 (Qbg [I x1]).bind fun o36 =>
 bif decide (gA o36 0 > 2147483648) then
 some [I 0, B false]
 else
 bif decide (x2 < 1) then
 some [I 0, B false]
 else
 bif decide (x2 > 4611686018427387904) then
 some [I 0, B false]
 else
 (Qb3 [I x3]).bind fun o37 =>
 bif !bA o37 0 then
 some [I 0, B false]
 else
 (Qbg [I x0]).bind fun o38 =>
 (Qbg [I x1]).bind fun o39 =>
 (Qan [U (IntKind.u64.wrap (2 * IntKind.u64.wrap (gA o38 0 * gA o39 0))), U (IntKind.u64.wrap (2 * IntKind.u64.wrap (gA o38 0 * gA o39 0)))]).bind fun o40 =>
 (Qg7 [U (gA o40 0), U (gA o40 1), U (IntKind.u64.wrap x2)]).bind fun o41 =>
 (Qb5 [U (gA o41 0), U (gA o41 1)]).bind fun o42 =>
 bif bA o41 2 then
 (Qb0 [I x0, I x1]).bind fun o43 =>
 Qnl Qa9 x3 Qaj o42 ((gA o42 0).tmod 2 == 1) (I 1) (B (decide (gA o43 0 < 0))) (I (-1)) (B true)
 else
 (Qan [U (gA o42 0), U (gA o42 0)]).bind fun o50 =>
 (Qb0 [I x0, I x1]).bind fun o51 =>
 bif (gA o42 0).tmod 2 == 1 then
 bif !(gA o50 0 == gA o41 0 && (gA o50 1 == gA o41 1 && true)) then
 Qnl Qa9 x3 Qaj o42 (!(gA o50 0 == gA o41 0 && (gA o50 1 == gA o41 1 && true))) (I 1) (B (decide (gA o51 0 < 0))) (I 1) (B ((gA o42 0).tmod 2 == 1))
 else
 Qnl Qa9 x3 Qaj o42 (!(gA o50 0 == gA o41 0 && (gA o50 1 == gA o41 1 && true))) (I 0) (B (decide (gA o51 0 < 0))) (I 0) (B ((gA o42 0).tmod 2 == 1))
 else
 Qnl Qa9 x3 Qaj o42 (!(gA o50 0 == gA o41 0 && (gA o50 1 == gA o41 1 && true))) (I (-1)) (B (decide (gA o51 0 < 0))) (I (-1)) (B ((gA o42 0).tmod 2 == 1)) := by kernel_rfl
def Qgm := mf_wide_Over Qcn Qe9 Qem Qeh Qni Qbp Qd0 Qeo 
theorem sp_wide_Over : Qar Try.prog (C_wide_Over_0 Qcn Qe9 Qem Qeh Qni Qbp Qd0 Qeo) := Qae rfl ⟨r_wide_signed, r_wide_grows, r_wide_sign, r_wide_floorRoot, r_wide_quotient, r_wide_product, r_wide_known, r_wide_size, trivial⟩
theorem r_wide_Over : Qbt Try.prog (175, spOf sig_wide_Over osig_wide_Over Qgm) := Qa5 (C := (C_wide_Over_0 Qcn Qe9 Qem Qeh Qni Qbp Qd0 Qeo)) (L := 64) (by kernel_rfl) (FnOK.bare rfl rfl rfl) sp_wide_Over eqOk Qbj (by kernel_rfl) (by kernel_rfl)
def Qk4 : Sk := { tmps := [TS.v true [ci, ci, ci], TS.v true [ci, ci, ci], tf [ci]], boxes := [], rows := [] }
def Qj0 : Sk := { tmps := [TS.tup [(true, [ci, ci, ci]), (false, [CS.bool])]], boxes := [], rows := [] }
def C_blend_Toward_0 (Qbi : Fn) : Cfg := { spec := Qbq [(175, spOf sig_wide_Over osig_wide_Over Qbi)], eqOk := Qbu, ownOff := ownOff, unroll := [5, 10] }
def mf_blend_Toward (Qbi : Fn) : Fn := Qau Try.prog (C_blend_Toward_0 Qbi) 64 191 Qk4 Qj0
theorem mf_blend_Toward_eq (Qbi : Fn) (x0 x1 x2 x3 x4 x5 x6 : Int) : mf_blend_Toward Qbi [I x0, I x1, I x2, I x3, I x4, I x5, I x6] =
 bif x3 == x0 && (x4 == x1 && (x5 == x2 && true)) then
 some [I 0, I 0, I 0, B false]
 else
 bif decide (x6 < 0) then
 some [I 0, I 0, I 0, B false]
 else
 bif decide (x6 > 33554432) then
 some [I 0, I 0, I 0, B false]
 else
 (Qbi [I (IntKind.i64.wrap (x3 - x0)), I x6, I (IntKind.i64.wrap (IntKind.i64.wrap (IntKind.i64.wrap (0 + IntKind.i64.wrap (IntKind.i64.wrap (x3 - x0) * IntKind.i64.wrap (x3 - x0))) + IntKind.i64.wrap (IntKind.i64.wrap (x4 - x1) * IntKind.i64.wrap (x4 - x1))) + IntKind.i64.wrap (IntKind.i64.wrap (x5 - x2) * IntKind.i64.wrap (x5 - x2)))), I 2]).bind fun o3 =>
 (Qbi [I (IntKind.i64.wrap (x4 - x1)), I x6, I (IntKind.i64.wrap (IntKind.i64.wrap (IntKind.i64.wrap (0 + IntKind.i64.wrap (IntKind.i64.wrap (x3 - x0) * IntKind.i64.wrap (x3 - x0))) + IntKind.i64.wrap (IntKind.i64.wrap (x4 - x1) * IntKind.i64.wrap (x4 - x1))) + IntKind.i64.wrap (IntKind.i64.wrap (x5 - x2) * IntKind.i64.wrap (x5 - x2)))), I 2]).bind fun o4 =>
 (Qbi [I (IntKind.i64.wrap (x5 - x2)), I x6, I (IntKind.i64.wrap (IntKind.i64.wrap (IntKind.i64.wrap (0 + IntKind.i64.wrap (IntKind.i64.wrap (x3 - x0) * IntKind.i64.wrap (x3 - x0))) + IntKind.i64.wrap (IntKind.i64.wrap (x4 - x1) * IntKind.i64.wrap (x4 - x1))) + IntKind.i64.wrap (IntKind.i64.wrap (x5 - x2) * IntKind.i64.wrap (x5 - x2)))), I 2]).bind fun o5 =>
 some [I (IntKind.i64.wrap (x0 + gA o3 0)), I (IntKind.i64.wrap (x1 + gA o4 0)), I (IntKind.i64.wrap (x2 + gA o5 0)), B true] := by kernel_rfl
def Qdb := mf_blend_Toward Qgm 
theorem sp_blend_Toward : Qar Try.prog (C_blend_Toward_0 Qgm) := Qae rfl ⟨r_wide_Over, trivial⟩
theorem r_blend_Toward : Qbt Try.prog (191, spOf Qk4 Qj0 Qdb) := Qa5 (C := (C_blend_Toward_0 Qgm)) (L := 64) (by kernel_rfl) (FnOK.bare rfl rfl rfl) sp_blend_Toward eqOk Qbj (by kernel_rfl) (by kernel_rfl)
def sig_blend_Reach : Sk := { tmps := [TS.v true [ci, ci, ci], TS.v true [ci, ci, ci], TS.v true [ci, ci, ci], tf [ci]], boxes := [], rows := [] }
def osig_blend_Reach : Sk := { tmps := [tf [ci]], boxes := [], rows := [] }
def C_blend_Reach_0 (Qbf Qax Qa4 : Fn) : Cfg := { spec := Qbq [(194, spOf sig_blend_bend Qm3 Qbf), (191, spOf Qk4 Qj0 Qax), (177, spOf Qlg Qj2 Qa4)], eqOk := Qbu, ownOff := ownOff }
def sk_blend_Reach_6 : Sk := { tmps := [td, td, td, tf [ci], tf [CS.ptr 4 0], tf [CS.ptr 5 0], tf [CS.ptr 6 0], td, td, tf [ci], tf [ci], tf [ci]] ++ dd 62, boxes := [(4, 23, [ci, ci, ci]), (5, 23, [ci, ci, ci]), (6, 23, [ci, ci, ci])], rows := [] }
def ex_blend_Reach_6 : List (Ex × Sk) := [(Ex.exit 0, { tmps := [td, td, td, td, td, td, td, td, td, td, tf [ci]] ++ dd 63, boxes := [], rows := [] })]
def Qfv (Qbf Qax Qa4 : Fn) : Lp := stepL Try.prog (C_blend_Reach_0 Qbf Qax Qa4) 64 6 (Qg8 Try.prog 190 6) sk_blend_Reach_6 ex_blend_Reach_6
def C_blend_Reach_1 (Qbf Qax Qa4 : Fn) (N6 : Lp) : Cfg := (C_blend_Reach_0 Qbf Qax Qa4).loop 6 sk_blend_Reach_6 ex_blend_Reach_6 N6
def mf_blend_Reach (Qbf Qax Qa4 : Fn) (N6 : Lp) : Fn := Qau Try.prog (C_blend_Reach_1 Qbf Qax Qa4 N6) 64 190 sig_blend_Reach osig_blend_Reach
theorem st_blend_Reach_6_eq (Qbf Qax Qa4 : Fn) (v0 v1 v2 v3 v4 v5 v6 v7 v8 v9 v10 v11 v12 : Int) : Qfv Qbf Qax Qa4 [I v0, I v1, I v2, I v3, I v4, I v5, I v6, I v7, I v8, I v9, I v10, I v11, I v12] =
 bif decide (v3 > 0) then
 bif decide (IntKind.i64.wrap (v2 + v3) > v1) then
 some (0, [I v0, I v1, I v2, I (v3.fdiv (2 ^ min (Int.toNat 1) IntKind.i64.bits)), I v4, I v5, I v6, I v7, I v8, I v9, I v10, I v11, I v12])
 else
 (Qax [I v7, I v8, I v9, I v4, I v5, I v6, I (IntKind.i64.wrap (v2 + v3))]).bind fun o8 =>
 (Qax [I v7, I v8, I v9, I v10, I v11, I v12, I (IntKind.i64.wrap (v2 + v3))]).bind fun o9 =>
 (Qbf [jA o8 0, jA o8 1, jA o8 2, I v7, I v8, I v9, jA o9 0, jA o9 1, jA o9 2]).bind fun o10 =>
 bif decide (gA o10 0 <= IntKind.i64.wrap (IntKind.i64.wrap (16 * v0) * v0)) then
 some (0, [I v0, I v1, I (IntKind.i64.wrap (v2 + v3)), I (v3.fdiv (2 ^ min (Int.toNat 1) IntKind.i64.bits)), I v4, I v5, I v6, I v7, I v8, I v9, I v10, I v11, I v12])
 else
 some (0, [I v0, I v1, I v2, I (v3.fdiv (2 ^ min (Int.toNat 1) IntKind.i64.bits)), I v4, I v5, I v6, I v7, I v8, I v9, I v10, I v11, I v12])
 else
 some (1, [I v2]) := by kernel_rfl
theorem mf_blend_Reach_eq (Qbf Qax Qa4 : Fn) (N6 : Lp) (x0 x1 x2 x3 x4 x5 x6 x7 x8 x9 : Int) : mf_blend_Reach Qbf Qax Qa4 N6 [I x0, I x1, I x2, I x3, I x4, I x5, I x6, I x7, I x8, I x9] =
 bif x0 == x3 && (x1 == x4 && (x2 == x5 && true)) then
 some [I 0]
 else
 bif x6 == x3 && (x7 == x4 && (x8 == x5 && true)) then
 some [I 0]
 else
 (Qa4 [I x0, I x1, I x2, I x3, I x4, I x5]).bind fun o11 =>
 (Qa4 [I x3, I x4, I x5, I x6, I x7, I x8]).bind fun o12 =>
 (N6 [I x9, I (IntKind.i64.wrap (mn (gA o11 0) (gA o12 0) - 2)), I 0, I 16777216, I x0, I x1, I x2, I x3, I x4, I x5, I x6, I x7, I x8]).bind fun o13 =>
 bif o13.1.beq 1 then
 bif decide (gA o13.2 0 < 16) then
 some [I 0]
 else
 some [jA o13.2 0]
 else
 none := by kernel_rfl
def l_blend_Reach_6 := Qby (Qfv Qee Qdb Qep )
def Qhd := mf_blend_Reach Qee Qdb Qep l_blend_Reach_6
theorem sp_blend_Reach : Qar Try.prog (C_blend_Reach_0 Qee Qdb Qep) := Qae rfl ⟨r_blend_bend, r_blend_Toward, r_curve_Length, trivial⟩
theorem r_blend_Reach : Qbt Try.prog (190, spOf sig_blend_Reach osig_blend_Reach Qhd) := Qa5 (C := (C_blend_Reach_1 Qee Qdb Qep l_blend_Reach_6)) (L := 64) (by kernel_rfl) ((FnOK.bare rfl rfl rfl).loop sp_blend_Reach eqOk Qbj (by kernel_rfl) (by kernel_rfl)) sp_blend_Reach eqOk Qbj (by kernel_rfl) (by kernel_rfl)
def sig_blend_Corner : Sk := { tmps := [TS.v true [ci, ci, ci], TS.v true [ci, ci, ci], TS.v true [ci, ci, ci], tf [ci]], boxes := [], rows := [] }
def osig_blend_Corner : Sk := { tmps := [tf [CS.sl kPt]], boxes := [], rows := [] }
def C_blend_Corner_0 (Qak Qda Qax Qdq : Fn) : Cfg := { spec := Qbq [(98, spOf Qgu Qft Qak), (192, spOf sig_blend_Pieces osig_blend_Pieces Qda), (191, spOf Qk4 Qj0 Qax), (190, spOf sig_blend_Reach osig_blend_Reach Qdq)], eqOk := Qbu, ownOff := ownOff, unroll := [13] }
def sk_blend_Corner_9 : Sk := { tmps := [td, td, td, td, td, tf [CS.ptr 5 0], td, td, td, td, tf [CS.ptr 10 0], td, tf [CS.ptr 12 0], td, tf [ci], tf [CS.own 50 3], td, td, td, td, td, td, td, td, td, td, td, td, td, td, td, td, td, td, td, td, td, td, td, td, td, td, td, td, td, td, td, td, td, td, td, td, tf [ci], tf [ci]] ++ dd 57, boxes := [(5, 23, [ci, ci, ci]), (10, 23, [ci, ci, ci]), (12, 23, [ci, ci, ci])], rows := [(50, 23, kPt)] }
def ex_blend_Corner_9 : List (Ex × Sk) := [(Ex.exit 0, { tmps := [td, td, td, td, td, td, td, td, td, td, td, td, td, td, td, tf [CS.own 50 3]] ++ dd 95, boxes := [], rows := [(50, 23, kPt)] })]
def Qfg (Qak Qda Qax Qdq : Fn) : Lp := stepL Try.prog (C_blend_Corner_0 Qak Qda Qax Qdq) 64 9 (Qg8 Try.prog 185 9) sk_blend_Corner_9 ex_blend_Corner_9
def C_blend_Corner_1 (Qak Qda Qax Qdq : Fn) (N9 : Lp) : Cfg := (C_blend_Corner_0 Qak Qda Qax Qdq).loop 9 sk_blend_Corner_9 ex_blend_Corner_9 N9
def mf_blend_Corner (Qak Qda Qax Qdq : Fn) (N9 : Lp) : Fn := Qau Try.prog (C_blend_Corner_1 Qak Qda Qax Qdq N9) 64 185 sig_blend_Corner osig_blend_Corner
theorem st_blend_Corner_9_eq (Qak Qda Qax Qdq : Fn) (v0 : Rw) (v1 v2 v3 v4 v5 v6 v7 v8 v9 v10 v11 v12 : Int) : Qfg Qak Qda Qax Qdq [.view kPt v0, I v1, I v2, I v3, I v4, I v5, I v6, I v7, I v8, I v9, I v10, I v11, I v12] =
 bif decide (v3 < v2) then
 bif decide (0 <= v3) && decide (v3 < (v0.length : Int)) then
 (Qak [I (IntKind.i64.wrap (IntKind.i64.wrap (IntKind.i64.wrap (IntKind.i64.wrap (v1 - v3) * IntKind.i64.wrap (v1 - v3)) * IntKind.i64.wrap (v7 - v4)) + IntKind.i64.wrap (IntKind.i64.wrap (v3 * v3) * IntKind.i64.wrap (v10 - v4)))), I 1, I (IntKind.i64.wrap (v1 * v1)), I 2]).bind fun o12 =>
 bif decide (0 <= v3) && decide (v3 < (v0.length : Int)) then
 bif decide (0 <= v3) && decide (v3 < (v0.length : Int)) then
 (Qak [I (IntKind.i64.wrap (IntKind.i64.wrap (IntKind.i64.wrap (IntKind.i64.wrap (v1 - v3) * IntKind.i64.wrap (v1 - v3)) * IntKind.i64.wrap (v8 - v5)) + IntKind.i64.wrap (IntKind.i64.wrap (v3 * v3) * IntKind.i64.wrap (v11 - v5)))), I 1, I (IntKind.i64.wrap (v1 * v1)), I 2]).bind fun o13 =>
 bif decide (0 <= v3) && decide (v3 < (v0.length : Int)) then
 bif decide (0 <= v3) && decide (v3 < (v0.length : Int)) then
 (Qak [I (IntKind.i64.wrap (IntKind.i64.wrap (IntKind.i64.wrap (IntKind.i64.wrap (v1 - v3) * IntKind.i64.wrap (v1 - v3)) * IntKind.i64.wrap (v9 - v6)) + IntKind.i64.wrap (IntKind.i64.wrap (v3 * v3) * IntKind.i64.wrap (v12 - v6)))), I 1, I (IntKind.i64.wrap (v1 * v1)), I 2]).bind fun o14 =>
 bif decide (0 <= v3) && decide (v3 < (v0.length : Int)) then
 bif decide (0 <= v3) && decide (v3 < (v0.length : Int)) then
 some (0, [.view kPt ((((v0.set v3.toNat [I v4, I v5, I v6]).set v3.toNat [I (IntKind.i64.wrap (Qaq (nth .dead (nth [] (v0.set v3.toNat [I v4, I v5, I v6]) v3.toNat) 0) + gA o12 0)), I (Qaq (nth .dead (nth [] (v0.set v3.toNat [I v4, I v5, I v6]) v3.toNat) 1)), I (Qaq (nth .dead (nth [] (v0.set v3.toNat [I v4, I v5, I v6]) v3.toNat) 2))]).set v3.toNat [I (Qaq (nth .dead (nth [] ((v0.set v3.toNat [I v4, I v5, I v6]).set v3.toNat [I (IntKind.i64.wrap (Qaq (nth .dead (nth [] (v0.set v3.toNat [I v4, I v5, I v6]) v3.toNat) 0) + gA o12 0)), I (Qaq (nth .dead (nth [] (v0.set v3.toNat [I v4, I v5, I v6]) v3.toNat) 1)), I (Qaq (nth .dead (nth [] (v0.set v3.toNat [I v4, I v5, I v6]) v3.toNat) 2))]) v3.toNat) 0)), I (IntKind.i64.wrap (Qaq (nth .dead (nth [] ((v0.set v3.toNat [I v4, I v5, I v6]).set v3.toNat [I (IntKind.i64.wrap (Qaq (nth .dead (nth [] (v0.set v3.toNat [I v4, I v5, I v6]) v3.toNat) 0) + gA o12 0)), I (Qaq (nth .dead (nth [] (v0.set v3.toNat [I v4, I v5, I v6]) v3.toNat) 1)), I (Qaq (nth .dead (nth [] (v0.set v3.toNat [I v4, I v5, I v6]) v3.toNat) 2))]) v3.toNat) 1) + gA o13 0)), I (Qaq (nth .dead (nth [] ((v0.set v3.toNat [I v4, I v5, I v6]).set v3.toNat [I (IntKind.i64.wrap (Qaq (nth .dead (nth [] (v0.set v3.toNat [I v4, I v5, I v6]) v3.toNat) 0) + gA o12 0)), I (Qaq (nth .dead (nth [] (v0.set v3.toNat [I v4, I v5, I v6]) v3.toNat) 1)), I (Qaq (nth .dead (nth [] (v0.set v3.toNat [I v4, I v5, I v6]) v3.toNat) 2))]) v3.toNat) 2))]).set v3.toNat [I (Qaq (nth .dead (nth [] (((v0.set v3.toNat [I v4, I v5, I v6]).set v3.toNat [I (IntKind.i64.wrap (Qaq (nth .dead (nth [] (v0.set v3.toNat [I v4, I v5, I v6]) v3.toNat) 0) + gA o12 0)), I (Qaq (nth .dead (nth [] (v0.set v3.toNat [I v4, I v5, I v6]) v3.toNat) 1)), I (Qaq (nth .dead (nth [] (v0.set v3.toNat [I v4, I v5, I v6]) v3.toNat) 2))]).set v3.toNat [I (Qaq (nth .dead (nth [] ((v0.set v3.toNat [I v4, I v5, I v6]).set v3.toNat [I (IntKind.i64.wrap (Qaq (nth .dead (nth [] (v0.set v3.toNat [I v4, I v5, I v6]) v3.toNat) 0) + gA o12 0)), I (Qaq (nth .dead (nth [] (v0.set v3.toNat [I v4, I v5, I v6]) v3.toNat) 1)), I (Qaq (nth .dead (nth [] (v0.set v3.toNat [I v4, I v5, I v6]) v3.toNat) 2))]) v3.toNat) 0)), I (IntKind.i64.wrap (Qaq (nth .dead (nth [] ((v0.set v3.toNat [I v4, I v5, I v6]).set v3.toNat [I (IntKind.i64.wrap (Qaq (nth .dead (nth [] (v0.set v3.toNat [I v4, I v5, I v6]) v3.toNat) 0) + gA o12 0)), I (Qaq (nth .dead (nth [] (v0.set v3.toNat [I v4, I v5, I v6]) v3.toNat) 1)), I (Qaq (nth .dead (nth [] (v0.set v3.toNat [I v4, I v5, I v6]) v3.toNat) 2))]) v3.toNat) 1) + gA o13 0)), I (Qaq (nth .dead (nth [] ((v0.set v3.toNat [I v4, I v5, I v6]).set v3.toNat [I (IntKind.i64.wrap (Qaq (nth .dead (nth [] (v0.set v3.toNat [I v4, I v5, I v6]) v3.toNat) 0) + gA o12 0)), I (Qaq (nth .dead (nth [] (v0.set v3.toNat [I v4, I v5, I v6]) v3.toNat) 1)), I (Qaq (nth .dead (nth [] (v0.set v3.toNat [I v4, I v5, I v6]) v3.toNat) 2))]) v3.toNat) 2))]) v3.toNat) 0)), I (Qaq (nth .dead (nth [] (((v0.set v3.toNat [I v4, I v5, I v6]).set v3.toNat [I (IntKind.i64.wrap (Qaq (nth .dead (nth [] (v0.set v3.toNat [I v4, I v5, I v6]) v3.toNat) 0) + gA o12 0)), I (Qaq (nth .dead (nth [] (v0.set v3.toNat [I v4, I v5, I v6]) v3.toNat) 1)), I (Qaq (nth .dead (nth [] (v0.set v3.toNat [I v4, I v5, I v6]) v3.toNat) 2))]).set v3.toNat [I (Qaq (nth .dead (nth [] ((v0.set v3.toNat [I v4, I v5, I v6]).set v3.toNat [I (IntKind.i64.wrap (Qaq (nth .dead (nth [] (v0.set v3.toNat [I v4, I v5, I v6]) v3.toNat) 0) + gA o12 0)), I (Qaq (nth .dead (nth [] (v0.set v3.toNat [I v4, I v5, I v6]) v3.toNat) 1)), I (Qaq (nth .dead (nth [] (v0.set v3.toNat [I v4, I v5, I v6]) v3.toNat) 2))]) v3.toNat) 0)), I (IntKind.i64.wrap (Qaq (nth .dead (nth [] ((v0.set v3.toNat [I v4, I v5, I v6]).set v3.toNat [I (IntKind.i64.wrap (Qaq (nth .dead (nth [] (v0.set v3.toNat [I v4, I v5, I v6]) v3.toNat) 0) + gA o12 0)), I (Qaq (nth .dead (nth [] (v0.set v3.toNat [I v4, I v5, I v6]) v3.toNat) 1)), I (Qaq (nth .dead (nth [] (v0.set v3.toNat [I v4, I v5, I v6]) v3.toNat) 2))]) v3.toNat) 1) + gA o13 0)), I (Qaq (nth .dead (nth [] ((v0.set v3.toNat [I v4, I v5, I v6]).set v3.toNat [I (IntKind.i64.wrap (Qaq (nth .dead (nth [] (v0.set v3.toNat [I v4, I v5, I v6]) v3.toNat) 0) + gA o12 0)), I (Qaq (nth .dead (nth [] (v0.set v3.toNat [I v4, I v5, I v6]) v3.toNat) 1)), I (Qaq (nth .dead (nth [] (v0.set v3.toNat [I v4, I v5, I v6]) v3.toNat) 2))]) v3.toNat) 2))]) v3.toNat) 1)), I (IntKind.i64.wrap (Qaq (nth .dead (nth [] (((v0.set v3.toNat [I v4, I v5, I v6]).set v3.toNat [I (IntKind.i64.wrap (Qaq (nth .dead (nth [] (v0.set v3.toNat [I v4, I v5, I v6]) v3.toNat) 0) + gA o12 0)), I (Qaq (nth .dead (nth [] (v0.set v3.toNat [I v4, I v5, I v6]) v3.toNat) 1)), I (Qaq (nth .dead (nth [] (v0.set v3.toNat [I v4, I v5, I v6]) v3.toNat) 2))]).set v3.toNat [I (Qaq (nth .dead (nth [] ((v0.set v3.toNat [I v4, I v5, I v6]).set v3.toNat [I (IntKind.i64.wrap (Qaq (nth .dead (nth [] (v0.set v3.toNat [I v4, I v5, I v6]) v3.toNat) 0) + gA o12 0)), I (Qaq (nth .dead (nth [] (v0.set v3.toNat [I v4, I v5, I v6]) v3.toNat) 1)), I (Qaq (nth .dead (nth [] (v0.set v3.toNat [I v4, I v5, I v6]) v3.toNat) 2))]) v3.toNat) 0)), I (IntKind.i64.wrap (Qaq (nth .dead (nth [] ((v0.set v3.toNat [I v4, I v5, I v6]).set v3.toNat [I (IntKind.i64.wrap (Qaq (nth .dead (nth [] (v0.set v3.toNat [I v4, I v5, I v6]) v3.toNat) 0) + gA o12 0)), I (Qaq (nth .dead (nth [] (v0.set v3.toNat [I v4, I v5, I v6]) v3.toNat) 1)), I (Qaq (nth .dead (nth [] (v0.set v3.toNat [I v4, I v5, I v6]) v3.toNat) 2))]) v3.toNat) 1) + gA o13 0)), I (Qaq (nth .dead (nth [] ((v0.set v3.toNat [I v4, I v5, I v6]).set v3.toNat [I (IntKind.i64.wrap (Qaq (nth .dead (nth [] (v0.set v3.toNat [I v4, I v5, I v6]) v3.toNat) 0) + gA o12 0)), I (Qaq (nth .dead (nth [] (v0.set v3.toNat [I v4, I v5, I v6]) v3.toNat) 1)), I (Qaq (nth .dead (nth [] (v0.set v3.toNat [I v4, I v5, I v6]) v3.toNat) 2))]) v3.toNat) 2))]) v3.toNat) 2) + gA o14 0))]), I v1, I v2, I (IntKind.i64.wrap (v3 + 1)), I v4, I v5, I v6, I v7, I v8, I v9, I v10, I v11, I v12])
 else
 none
 else
 none
 else
 none
 else
 none
 else
 none
 else
 none
 else
 none
 else
 some (1, [.view kPt v0]) := by kernel_rfl
theorem mf_blend_Corner_eq (Qak Qda Qax Qdq : Fn) (N9 : Lp) (x0 x1 x2 x3 x4 x5 x6 x7 x8 x9 : Int) : mf_blend_Corner Qak Qda Qax Qdq N9 [I x0, I x1, I x2, I x3, I x4, I x5, I x6, I x7, I x8, I x9] =
 (Qdq [I x0, I x1, I x2, I x3, I x4, I x5, I x6, I x7, I x8, I x9]).bind fun o15 =>
 bif gA o15 0 == 0 then
 some [.view kPt [[I x3, I x4, I x5]]]
 else
 (Qax [I x3, I x4, I x5, I x0, I x1, I x2, jA o15 0]).bind fun o16 =>
 (Qax [I x3, I x4, I x5, I x6, I x7, I x8, jA o15 0]).bind fun o17 =>
 (Qda [jA o16 0, jA o16 1, jA o16 2, I x3, I x4, I x5, jA o17 0, jA o17 1, jA o17 2]).bind fun o18 =>
 bif decide (IntKind.i64.wrap (gA o18 0 + 1) = IntKind.i64.wrap (gA o18 0 + 1)) then
 bif decide (0 <= IntKind.i64.wrap (gA o18 0 + 1)) && decide (IntKind.i64.wrap (gA o18 0 + 1) * (↑24 : Int) <= 140737488355328) then
 (N9 [.view kPt (List.replicate (IntKind.i64.wrap (gA o18 0 + 1)).toNat [I 0, I 0, I 0]), jA o18 0, I (↑(List.replicate (IntKind.i64.wrap (gA o18 0 + 1)).toNat [I 0, I 0, I 0]).length : Int), I 0, I x3, I x4, I x5, jA o16 0, jA o16 1, jA o16 2, jA o17 0, jA o17 1, jA o17 2]).bind fun o19 =>
 bif o19.1.beq 1 then
 some [.view kPt (wA o19.2 0)]
 else
 none
 else
 none
 else
 none := by kernel_rfl
def l_blend_Corner_9 := Qby (Qfg Qbh Qfb Qdb Qhd )
def Qku := mf_blend_Corner Qbh Qfb Qdb Qhd l_blend_Corner_9
theorem sp_blend_Corner : Qar Try.prog (C_blend_Corner_0 Qbh Qfb Qdb Qhd) := Qae rfl ⟨r_wide_MulDiv, r_blend_Pieces, r_blend_Toward, r_blend_Reach, trivial⟩
theorem r_blend_Corner : Qbt Try.prog (185, spOf sig_blend_Corner osig_blend_Corner Qku) := Qa5 (C := (C_blend_Corner_1 Qbh Qfb Qdb Qhd l_blend_Corner_9)) (L := 64) (by kernel_rfl) ((FnOK.bare rfl rfl rfl).loop sp_blend_Corner eqOk Qbj (by kernel_rfl) (by kernel_rfl)) sp_blend_Corner eqOk Qbj (by kernel_rfl) (by kernel_rfl)
def sig_path_scaled : Sk := { tmps := [TS.v true [ci, ci, ci]], boxes := [], rows := [] }
def osig_path_scaled : Sk := { tmps := [TS.v true [ci, ci, ci]], boxes := [], rows := [] }
def C_path_scaled_0 : Cfg := { spec := Qbq [], eqOk := Qbu, ownOff := ownOff }
def mf_path_scaled : Fn := Qau Try.prog C_path_scaled_0 64 186 sig_path_scaled osig_path_scaled
theorem mf_path_scaled_eq (x0 x1 x2 : Int) : mf_path_scaled [I x0, I x1, I x2] =
 some [I (IntKind.i64.wrap (x0 * 16)), I (IntKind.i64.wrap (x1 * 16)), I (IntKind.i64.wrap (x2 * 16))] := by kernel_rfl
def Qj7 := mf_path_scaled 
theorem sp_path_scaled : Qar Try.prog (C_path_scaled_0 ) := Qae rfl trivial
theorem r_path_scaled : Qbt Try.prog (186, spOf sig_path_scaled osig_path_scaled Qj7) := Qa5 (C := C_path_scaled_0) (L := 64) (by kernel_rfl) (FnOK.bare rfl rfl rfl) sp_path_scaled eqOk Qbj (by kernel_rfl) (by kernel_rfl)
def sig_path_corner : Sk := { tmps := [TS.v true [ci, ci, ci, ci, ci, ci, ci, ci, ci, ci, ci, ci, ci, CS.bool, ci, CS.bool, ci, ci, ci, ci, ci, CS.bool], TS.v true [ci, ci, ci, ci, ci, ci, ci, ci, ci, ci, ci, ci, ci, CS.bool, ci, CS.bool, ci, ci, ci, ci, ci, CS.bool]], boxes := [], rows := [] }
def osig_path_corner : Sk := { tmps := [TS.tup [(false, [CS.sl kPt]), (false, [CS.sl kPt])]], boxes := [], rows := [] }
def C_path_corner_0 (Qie Qjs Qaw : Fn) : Cfg := { spec := Qbq [(185, spOf sig_blend_Corner osig_blend_Corner Qie), (186, spOf sig_path_scaled osig_path_scaled Qjs), (162, spOf Qji Qhu Qaw)], eqOk := Qbu, ownOff := ownOff }
def mf_path_corner (Qie Qjs Qaw : Fn) : Fn := Qau Try.prog (C_path_corner_0 Qie Qjs Qaw) 64 176 sig_path_corner osig_path_corner
theorem mf_path_corner_eq (Qie Qjs Qaw : Fn) (x0 x1 x2 x3 x4 x5 x6 x7 x8 x9 x10 x11 x12 : Int) (x13 : Bool) (x14 : Int) (x15 : Bool) (x16 x17 x18 x19 x20 : Int) (x21 : Bool) (x22 x23 x24 x25 x26 x27 x28 x29 x30 x31 x32 x33 x34 : Int) (x35 : Bool) (x36 : Int) (x37 : Bool) (x38 x39 x40 x41 x42 : Int) (x43 : Bool) : mf_path_corner Qie Qjs Qaw [I x0, I x1, I x2, I x3, I x4, I x5, I x6, I x7, I x8, I x9, I x10, I x11, I x12, B x13, I x14, B x15, I x16, I x17, I x18, I x19, I x20, B x21, I x22, I x23, I x24, I x25, I x26, I x27, I x28, I x29, I x30, I x31, I x32, I x33, I x34, B x35, I x36, B x37, I x38, I x39, I x40, I x41, I x42, B x43] =
 (Qaw [I x0, I x1, I x2, I x3, I x4, I x5, I x6, I x7, I x8, I x9, I x10, I x11, I x12, B x13, I x14, B x15, I x16, I x17, I x18, I x19, I x20, B x21]).bind fun o4 =>
 (Qjs [I x5, I x6, I x7]).bind fun o5 =>
 (Qaw [I x22, I x23, I x24, I x25, I x26, I x27, I x28, I x29, I x30, I x31, I x32, I x33, I x34, B x35, I x36, B x37, I x38, I x39, I x40, I x41, I x42, B x43]).bind fun o6 =>
 (Qie [jA o4 0, jA o4 1, jA o4 2, jA o5 0, jA o5 1, jA o5 2, jA o6 0, jA o6 1, jA o6 2, I (IntKind.i64.wrap (x18 * 16))]).bind fun o7 =>
 bif decide (0 <= IntKind.i64.wrap (IntKind.i64.wrap ((IntKind.i64.wrap ((↑(wA o7 0).length : Int) - 1)).tdiv 2) + 1)) && decide (IntKind.i64.wrap (IntKind.i64.wrap ((IntKind.i64.wrap ((↑(wA o7 0).length : Int) - 1)).tdiv 2) + 1) <= (↑(wA o7 0).length : Int)) then
 bif decide (0 <= IntKind.i64.wrap ((IntKind.i64.wrap ((↑(wA o7 0).length : Int) - 1)).tdiv 2)) && decide (IntKind.i64.wrap ((IntKind.i64.wrap ((↑(wA o7 0).length : Int) - 1)).tdiv 2) <= (↑(wA o7 0).length : Int)) then
 some [.view kPt (List.take (IntKind.i64.wrap (IntKind.i64.wrap ((IntKind.i64.wrap ((↑(wA o7 0).length : Int) - 1)).tdiv 2) + 1)).toNat (wA o7 0)), .view kPt (List.drop (IntKind.i64.wrap ((IntKind.i64.wrap ((↑(wA o7 0).length : Int) - 1)).tdiv 2)).toNat (wA o7 0))]
 else
 none
 else
 none := by kernel_rfl
def Qnj := mf_path_corner Qku Qj7 Qdd 
theorem sp_path_corner : Qar Try.prog (C_path_corner_0 Qku Qj7 Qdd) := Qae rfl ⟨r_blend_Corner, r_path_scaled, r_path_middle, trivial⟩
theorem r_path_corner : Qbt Try.prog (176, spOf sig_path_corner osig_path_corner Qnj) := Qa5 (C := (C_path_corner_0 Qku Qj7 Qdd)) (L := 64) (by kernel_rfl) (FnOK.bare rfl rfl rfl) sp_path_corner eqOk Qbj (by kernel_rfl) (by kernel_rfl)
def Qk2 : Sk := { tmps := [tf [ci]], boxes := [], rows := [] }
def Qjc : Sk := { tmps := [TS.tup [(false, [ci]), (false, [ci]), (false, [ci]), (false, [CS.bool])]], boxes := [], rows := [] }
def C_curve_axes_0 : Cfg := { spec := Qbq [], eqOk := Qbu, ownOff := ownOff }
def mf_curve_axes : Fn := Qau Try.prog C_curve_axes_0 64 118 Qk2 Qjc
theorem mf_curve_axes_eq (x0 : Int) : mf_curve_axes [I x0] =
 bif x0 == 17 then
 some [I 0, I 1, I 2, B true]
 else
 bif x0 == 18 then
 some [I 2, I 0, I 1, B true]
 else
 bif x0 == 19 then
 some [I 1, I 2, I 0, B true]
 else
 some [I 0, I 0, I 0, B false] := by kernel_rfl
def Qdi := mf_curve_axes 
theorem sp_curve_axes : Qar Try.prog (C_curve_axes_0 ) := Qae rfl trivial
theorem r_curve_axes : Qbt Try.prog (118, spOf Qk2 Qjc Qdi) := Qa5 (C := C_curve_axes_0) (L := 64) (by kernel_rfl) (FnOK.bare rfl rfl rfl) sp_curve_axes eqOk Qbj (by kernel_rfl) (by kernel_rfl)
def sig_curve_Space : Sk := { tmps := [tf [ci], tf [ci], tf [ci], tf [ci]], boxes := [], rows := [] }
def osig_curve_Space : Sk := { tmps := [TS.v true [ci, ci, ci]], boxes := [], rows := [] }
def C_curve_Space_0 (Qb2 : Fn) : Cfg := { spec := Qbq [(118, spOf Qk2 Qjc Qb2)], eqOk := Qbu, ownOff := ownOff }
def mf_curve_Space (Qb2 : Fn) : Fn := Qau Try.prog (C_curve_Space_0 Qb2) 64 94 sig_curve_Space osig_curve_Space
abbrev Qnb (o1 : List AC) (x2 : Int) (h2_0 h2_1 h2_2 : AC) : Option (List AC) :=
 bif decide (gA o1 2 = (↑0 : Int)) then
 some [I x2, h2_0, h2_1]
 else
 bif decide (gA o1 2 = (↑(0 + 1) : Int)) then
 some [h2_2, I x2, h2_1]
 else
 bif decide (gA o1 2 = (↑(0 + 1 + 1) : Int)) then
 some [h2_2, h2_0, I x2]
 else
 none
attribute [go_sem] Qnb
abbrev Qm7 (o1 : List AC) (x2 x1 : Int) (h1_0 h1_1 h1_2 : AC) : Option (List AC) :=
 bif decide (gA o1 1 = (↑0 : Int)) then
 Qnb o1 x2 h1_0 h1_1 (I x1)
 else
 bif decide (gA o1 1 = (↑(0 + 1) : Int)) then
 Qnb o1 x2 (I x1) h1_1 h1_2
 else
 bif decide (gA o1 1 = (↑(0 + 1 + 1) : Int)) then
 Qnb o1 x2 h1_0 (I x1) h1_2
 else
 none
attribute [go_sem] Qm7
theorem mf_curve_Space_eq (Qb2 : Fn) (x0 x1 x2 x3 : Int) : mf_curve_Space Qb2 [I x0, I x1, I x2, I x3] =
 (Qb2 [I x3]).bind fun o1 =>
 bif bA o1 3 then
 bif decide (gA o1 0 = (↑0 : Int)) then
 Qm7 o1 x2 x1 (I 0) (I 0) (I x0)
 else
 bif decide (gA o1 0 = (↑(0 + 1) : Int)) then
 Qm7 o1 x2 x1 (I x0) (I 0) (I 0)
 else
 bif decide (gA o1 0 = (↑(0 + 1 + 1) : Int)) then
 Qm7 o1 x2 x1 (I 0) (I x0) (I 0)
 else
 none
 else
 some [I 0, I 0, I 0] := by kernel_rfl
def Qju := mf_curve_Space Qdi 
theorem sp_curve_Space : Qar Try.prog (C_curve_Space_0 Qdi) := Qae rfl ⟨r_curve_axes, trivial⟩
theorem r_curve_Space : Qbt Try.prog (94, spOf sig_curve_Space osig_curve_Space Qju) := Qa5 (C := (C_curve_Space_0 Qdi)) (L := 64) (by kernel_rfl) (FnOK.bare rfl rfl rfl) sp_curve_Space eqOk Qbj (by kernel_rfl) (by kernel_rfl)
def Qnt : Sk := { tmps := [TS.v true [ci, ci, ci], tf [ci]], boxes := [], rows := [] }
def Qld : Sk := { tmps := [TS.tup [(false, [ci]), (false, [ci]), (false, [ci])]], boxes := [], rows := [] }
def C_curve_Plane_0 (Qb2 : Fn) : Cfg := { spec := Qbq [(118, spOf Qk2 Qjc Qb2)], eqOk := Qbu, ownOff := ownOff }
def mf_curve_Plane (Qb2 : Fn) : Fn := Qau Try.prog (C_curve_Plane_0 Qb2) 64 67 Qnt Qld
abbrev Qny (o1 : List AC) (h1_0 : AC) (x0 x1 x2 : Int) (h2_0 : AC) : Option (List AC) :=
 bif decide (gA o1 2 = (↑0 : Int)) then
 some [h1_0, h2_0, I x0]
 else
 bif decide (gA o1 2 = (↑(0 + 1) : Int)) then
 some [h1_0, h2_0, I x1]
 else
 bif decide (gA o1 2 = (↑(0 + 1 + 1) : Int)) then
 some [h1_0, h2_0, I x2]
 else
 none
attribute [go_sem] Qny
abbrev g_curve_Plane_1 (o1 : List AC) (x0 x1 x2 : Int) (h1_0 : AC) : Option (List AC) :=
 bif decide (gA o1 1 = (↑0 : Int)) then
 Qny o1 h1_0 x0 x1 x2 (I x0)
 else
 bif decide (gA o1 1 = (↑(0 + 1) : Int)) then
 Qny o1 h1_0 x0 x1 x2 (I x1)
 else
 bif decide (gA o1 1 = (↑(0 + 1 + 1) : Int)) then
 Qny o1 h1_0 x0 x1 x2 (I x2)
 else
 none
attribute [go_sem] g_curve_Plane_1
theorem mf_curve_Plane_eq (Qb2 : Fn) (x0 x1 x2 x3 : Int) : mf_curve_Plane Qb2 [I x0, I x1, I x2, I x3] =
 (Qb2 [I x3]).bind fun o1 =>
 bif !bA o1 3 then
 some [I 0, I 0, I 0]
 else
 bif decide (gA o1 0 = (↑0 : Int)) then
 g_curve_Plane_1 o1 x0 x1 x2 (I x0)
 else
 bif decide (gA o1 0 = (↑(0 + 1) : Int)) then
 g_curve_Plane_1 o1 x0 x1 x2 (I x1)
 else
 bif decide (gA o1 0 = (↑(0 + 1 + 1) : Int)) then
 g_curve_Plane_1 o1 x0 x1 x2 (I x2)
 else
 none := by kernel_rfl
def Qeq := mf_curve_Plane Qdi 
theorem sp_curve_Plane : Qar Try.prog (C_curve_Plane_0 Qdi) := Qae rfl ⟨r_curve_axes, trivial⟩
theorem r_curve_Plane : Qbt Try.prog (67, spOf Qnt Qld Qeq) := Qa5 (C := (C_curve_Plane_0 Qdi)) (L := 64) (by kernel_rfl) (FnOK.bare rfl rfl rfl) sp_curve_Plane eqOk Qbj (by kernel_rfl) (by kernel_rfl)
def Qli : Sk := { tmps := [TS.v true [ci, ci, ci]], boxes := [], rows := [] }
def Qjr : Sk := { tmps := [TS.v true [ci, ci, ci]], boxes := [], rows := [] }
def C_curve_scaled_0 : Cfg := { spec := Qbq [], eqOk := Qbu, ownOff := ownOff }
def mf_curve_scaled : Fn := Qau Try.prog C_curve_scaled_0 64 93 Qli Qjr
theorem mf_curve_scaled_eq (x0 x1 x2 : Int) : mf_curve_scaled [I x0, I x1, I x2] =
 some [I (IntKind.i64.wrap (x0 * 16)), I (IntKind.i64.wrap (x1 * 16)), I (IntKind.i64.wrap (x2 * 16))] := by kernel_rfl
def Qdk := mf_curve_scaled 
theorem sp_curve_scaled : Qar Try.prog (C_curve_scaled_0 ) := Qae rfl trivial
theorem r_curve_scaled : Qbt Try.prog (93, spOf Qli Qjr Qdk) := Qa5 (C := C_curve_scaled_0) (L := 64) (by kernel_rfl) (FnOK.bare rfl rfl rfl) sp_curve_scaled eqOk Qbj (by kernel_rfl) (by kernel_rfl)
def Qix : Sk := { tmps := [TS.v true [ci, ci, ci, ci], TS.v true [ci, ci, ci, ci]], boxes := [], rows := [] }
def Qhw : Sk := { tmps := [tf [ci]], boxes := [], rows := [] }
def C_curve_cross_0 : Cfg := { spec := Qbq [], eqOk := Qbu, ownOff := ownOff }
def mf_curve_cross : Fn := Qau Try.prog C_curve_cross_0 64 122 Qix Qhw
theorem mf_curve_cross_eq (x0 x1 x2 x3 x4 x5 x6 x7 : Int) : mf_curve_cross [I x0, I x1, I x2, I x3, I x4, I x5, I x6, I x7] =
 some [I (IntKind.i64.wrap (IntKind.i64.wrap (x0 * x5) - IntKind.i64.wrap (x1 * x4)))] := by kernel_rfl
def Qds := mf_curve_cross 
theorem sp_curve_cross : Qar Try.prog (C_curve_cross_0 ) := Qae rfl trivial
theorem r_curve_cross : Qbt Try.prog (122, spOf Qix Qhw Qds) := Qa5 (C := C_curve_cross_0) (L := 64) (by kernel_rfl) (FnOK.bare rfl rfl rfl) sp_curve_cross eqOk Qbj (by kernel_rfl) (by kernel_rfl)
def Qnh : Sk := { tmps := [TS.v true [ci, ci, ci, ci], TS.v true [ci, ci, ci, ci]], boxes := [], rows := [] }
def Qk0 : Sk := { tmps := [tf [ci]], boxes := [], rows := [] }
def C_curve_dot_0 : Cfg := { spec := Qbq [], eqOk := Qbu, ownOff := ownOff }
def mf_curve_dot : Fn := Qau Try.prog C_curve_dot_0 64 120 Qnh Qk0
theorem mf_curve_dot_eq (x0 x1 x2 x3 x4 x5 x6 x7 : Int) : mf_curve_dot [I x0, I x1, I x2, I x3, I x4, I x5, I x6, I x7] =
 some [I (IntKind.i64.wrap (IntKind.i64.wrap (x0 * x4) + IntKind.i64.wrap (x1 * x5)))] := by kernel_rfl
def Qey := mf_curve_dot 
theorem sp_curve_dot : Qar Try.prog (C_curve_dot_0 ) := Qae rfl trivial
theorem r_curve_dot : Qbt Try.prog (120, spOf Qnh Qk0 Qey) := Qa5 (C := C_curve_dot_0) (L := 64) (by kernel_rfl) (FnOK.bare rfl rfl rfl) sp_curve_dot eqOk Qbj (by kernel_rfl) (by kernel_rfl)
def sig_curve_Middle : Sk := { tmps := [TS.v true [ci, ci, ci, ci], TS.v true [ci, ci, ci, ci], tf [ci], tf [CS.bool]], boxes := [], rows := [] }
def osig_curve_Middle : Sk := { tmps := [TS.tup [(true, [ci, ci, ci, ci]), (false, [CS.bool])]], boxes := [], rows := [] }
def C_curve_Middle_0 (Qbi Qa0 Qbc : Fn) : Cfg := { spec := Qbq [(175, spOf sig_wide_Over osig_wide_Over Qbi), (122, spOf Qix Qhw Qa0), (120, spOf Qnh Qk0 Qbc)], eqOk := Qbu, ownOff := ownOff }
def mf_curve_Middle (Qbi Qa0 Qbc : Fn) : Fn := Qau Try.prog (C_curve_Middle_0 Qbi Qa0 Qbc) 64 158 sig_curve_Middle osig_curve_Middle
abbrev g_curve_Middle_3 (Qbi : Fn) (h1_2 : AC) (x2 x6 : Int) (h1_3 h1_4 : AC) (x3 x7 : Int) : Option (List AC) :=
 (Qbi [h1_2, I ((IntKind.i64.wrap (IntKind.i64.wrap (x2 + x6) + 1)).fdiv (2 ^ min (Int.toNat 1) IntKind.i64.bits)), h1_3, I 2]).bind fun o36 =>
 (Qbi [h1_4, I ((IntKind.i64.wrap (IntKind.i64.wrap (x2 + x6) + 1)).fdiv (2 ^ min (Int.toNat 1) IntKind.i64.bits)), h1_3, I 2]).bind fun o37 =>
 some [jA o36 0, jA o37 0, I ((IntKind.i64.wrap (IntKind.i64.wrap (x2 + x6) + 1)).fdiv (2 ^ min (Int.toNat 1) IntKind.i64.bits)), I ((IntKind.i64.wrap (IntKind.i64.wrap (x3 + x7) + 1)).fdiv (2 ^ min (Int.toNat 1) IntKind.i64.bits)), B true]
attribute [go_sem] g_curve_Middle_3
abbrev Qhz (Qbi : Fn) (x2 x6 x3 x7 : Int) (h1_0 h1_1 : Bool) (h1_2 h1_3 h1_4 : AC) : Option (List AC) :=
 bif h1_0 then
 bif h1_1 then
 some [I 0, I 0, I 0, I 0, B false]
 else
 g_curve_Middle_3 Qbi h1_2 x2 x6 h1_3 h1_4 x3 x7
 else
 g_curve_Middle_3 Qbi h1_2 x2 x6 h1_3 h1_4 x3 x7
attribute [go_sem] Qhz
abbrev g_curve_Middle_2 (x9 : Bool) (Qbi : Fn) (x2 x6 x3 x7 x0 x1 : Int) (Qbc : Fn) (x4 x5 x8 : Int) (Qa0 : Fn) : Option (List AC) :=
 bif x9 then
 Qhz Qbi x2 x6 x3 x7 (IntKind.i64.wrap (0 - x0) == 0) (IntKind.i64.wrap (0 - x1) == 0) (I (IntKind.i64.wrap (0 - x0))) (I (IntKind.i64.wrap (IntKind.i64.wrap (IntKind.i64.wrap (0 - x0) * IntKind.i64.wrap (0 - x0)) + IntKind.i64.wrap (IntKind.i64.wrap (0 - x1) * IntKind.i64.wrap (0 - x1))))) (I (IntKind.i64.wrap (0 - x1)))
 else
 (Qbc [I x0, I x1, I x2, I x3, I x4, I x5, I x6, I x7]).bind fun o40 =>
 bif decide (gA o40 0 <= 0) then
 Qhz Qbi x2 x6 x3 x7 (IntKind.i64.wrap (x8 * IntKind.i64.wrap (x5 - x1)) == 0) (IntKind.i64.wrap (x8 * IntKind.i64.wrap (x0 - x4)) == 0) (I (IntKind.i64.wrap (x8 * IntKind.i64.wrap (x5 - x1)))) (I (IntKind.i64.wrap (IntKind.i64.wrap (IntKind.i64.wrap (x8 * IntKind.i64.wrap (x5 - x1)) * IntKind.i64.wrap (x8 * IntKind.i64.wrap (x5 - x1))) + IntKind.i64.wrap (IntKind.i64.wrap (x8 * IntKind.i64.wrap (x0 - x4)) * IntKind.i64.wrap (x8 * IntKind.i64.wrap (x0 - x4)))))) (I (IntKind.i64.wrap (x8 * IntKind.i64.wrap (x0 - x4))))
 else
 (Qa0 [I x0, I x1, I x2, I x3, I x4, I x5, I x6, I x7]).bind fun o45 =>
 bif decide (IntKind.i64.wrap (gA o45 0 * x8) <= 0) then
 Qhz Qbi x2 x6 x3 x7 (IntKind.i64.wrap (0 - IntKind.i64.wrap (x0 + x4)) == 0) (IntKind.i64.wrap (0 - IntKind.i64.wrap (x1 + x5)) == 0) (I (IntKind.i64.wrap (0 - IntKind.i64.wrap (x0 + x4)))) (I (IntKind.i64.wrap (IntKind.i64.wrap (IntKind.i64.wrap (0 - IntKind.i64.wrap (x0 + x4)) * IntKind.i64.wrap (0 - IntKind.i64.wrap (x0 + x4))) + IntKind.i64.wrap (IntKind.i64.wrap (0 - IntKind.i64.wrap (x1 + x5)) * IntKind.i64.wrap (0 - IntKind.i64.wrap (x1 + x5)))))) (I (IntKind.i64.wrap (0 - IntKind.i64.wrap (x1 + x5))))
 else
 Qhz Qbi x2 x6 x3 x7 (IntKind.i64.wrap (x0 + x4) == 0) (IntKind.i64.wrap (x1 + x5) == 0) (I (IntKind.i64.wrap (x0 + x4))) (I (IntKind.i64.wrap (IntKind.i64.wrap (IntKind.i64.wrap (x0 + x4) * IntKind.i64.wrap (x0 + x4)) + IntKind.i64.wrap (IntKind.i64.wrap (x1 + x5) * IntKind.i64.wrap (x1 + x5))))) (I (IntKind.i64.wrap (x1 + x5)))
attribute [go_sem] g_curve_Middle_2
theorem mf_curve_Middle_eq (Qbi Qa0 Qbc : Fn) (x0 x1 x2 x3 x4 x5 x6 x7 x8 : Int) (x9 : Bool) : mf_curve_Middle Qbi Qa0 Qbc [I x0, I x1, I x2, I x3, I x4, I x5, I x6, I x7, I x8, B x9] =
 bif x8 != 1 then
 bif x8 != -1 then
 some [I 0, I 0, I 0, I 0, B false]
 else
 g_curve_Middle_2 x9 Qbi x2 x6 x3 x7 x0 x1 Qbc x4 x5 x8 Qa0
 else
 g_curve_Middle_2 x9 Qbi x2 x6 x3 x7 x0 x1 Qbc x4 x5 x8 Qa0 := by kernel_rfl
def Qgl := mf_curve_Middle Qgm Qds Qey 
theorem sp_curve_Middle : Qar Try.prog (C_curve_Middle_0 Qgm Qds Qey) := Qae rfl ⟨r_wide_Over, r_curve_cross, r_curve_dot, trivial⟩
theorem r_curve_Middle : Qbt Try.prog (158, spOf sig_curve_Middle osig_curve_Middle Qgl) := Qa5 (C := (C_curve_Middle_0 Qgm Qds Qey)) (L := 64) (by kernel_rfl) (FnOK.bare rfl rfl rfl) sp_curve_Middle eqOk Qbj (by kernel_rfl) (by kernel_rfl)
def sig_curve_Flat : Sk := { tmps := [tf [ci], tf [ci]], boxes := [], rows := [] }
def osig_curve_Flat : Sk := { tmps := [tf [CS.bool]], boxes := [], rows := [] }
def C_curve_Flat_0 : Cfg := { spec := Qbq [], eqOk := Qbu, ownOff := ownOff }
def mf_curve_Flat : Fn := Qau Try.prog C_curve_Flat_0 64 174 sig_curve_Flat osig_curve_Flat
theorem mf_curve_Flat_eq (x0 x1 : Int) : mf_curve_Flat [I x0, I x1] =
 some [B (decide (x1 <= IntKind.i64.wrap (IntKind.i64.wrap (IntKind.i64.wrap (8 * x0) * 4) - 64)))] := by kernel_rfl
def Ql8 := mf_curve_Flat 
theorem sp_curve_Flat : Qar Try.prog (C_curve_Flat_0 ) := Qae rfl trivial
theorem r_curve_Flat : Qbt Try.prog (174, spOf sig_curve_Flat osig_curve_Flat Ql8) := Qa5 (C := C_curve_Flat_0) (L := 64) (by kernel_rfl) (FnOK.bare rfl rfl rfl) sp_curve_Flat eqOk Qbj (by kernel_rfl) (by kernel_rfl)
def Qgv : Sk := { tmps := [tf [CS.ptr 20000 0], TS.v true [ci, ci, ci, ci], TS.v true [ci, ci, ci, ci], tf [CS.bool]], boxes := [(20000, 153, [ci, CS.own 20000 4])], rows := [(20000, 99, [kI, kI, kI, kI])] }
def Qge : Sk := { tmps := [tf [CS.bool]], boxes := [(20000, 153, [ci, CS.own 20000 4])], rows := [(20000, 99, [kI, kI, kI, kI])] }
def Qg4 (Ql7 Qa0 : Fn) : Cfg := { spec := Qbq [(174, spOf sig_curve_Flat osig_curve_Flat Ql7), (122, spOf Qix Qhw Qa0)], eqOk := Qbu, ownOff := ownOff }
def Qhn (Ql7 Qa0 : Fn) : Fn := Qau Try.prog (Qg4 Ql7 Qa0) 64 157 Qgv Qge
theorem mf_curve_cutter_settled_eq (Ql7 Qa0 : Fn) (x0 : Rw) (x1 x2 x3 x4 x5 x6 x7 x8 : Int) (x9 : Bool) (x10 : Int) : Qhn Ql7 Qa0 [.view [kI, kI, kI, kI] x0, I x1, I x2, I x3, I x4, I x5, I x6, I x7, I x8, B x9, I x10] =
 bif !x9 then
 (Qa0 [I x1, I x2, I x3, I x4, I x5, I x6, I x7, I x8]).bind fun o2 =>
 bif decide (IntKind.i64.wrap (gA o2 0 * x10) > 0) then
 (Ql7 [I (mn x3 x7), I (IntKind.i64.wrap (IntKind.i64.wrap (IntKind.i64.wrap (x1 - x5) * IntKind.i64.wrap (x1 - x5)) + IntKind.i64.wrap (IntKind.i64.wrap (x2 - x6) * IntKind.i64.wrap (x2 - x6))))]).bind fun o3 =>
 some [.view [kI, kI, kI, kI] x0, B (bA o3 0), I x10]
 else
 some [.view [kI, kI, kI, kI] x0, B false, I x10]
 else
 some [.view [kI, kI, kI, kI] x0, B false, I x10] := by kernel_rfl
def Qc1 := Qhn Ql8 Qds 
theorem sp_curve_cutter_settled : Qar Try.prog (Qg4 Ql8 Qds) := Qae rfl ⟨r_curve_Flat, r_curve_cross, trivial⟩
theorem r_curve_cutter_settled : Qbt Try.prog (157, spOf Qgv Qge Qc1) := Qa5 (C := (Qg4 Ql8 Qds)) (L := 64) (by kernel_rfl) (FnOK.bare rfl rfl rfl) sp_curve_cutter_settled eqOk Qbj (by kernel_rfl) (by kernel_rfl)
def fuel_curve_cutter_piece : Nat := 20
def Qcb : Sk := { tmps := [tf [CS.ptr 20000 0], TS.v true [ci, ci, ci, ci], TS.v true [ci, ci, ci, ci], tf [CS.bool], tf [ci]], boxes := [(20000, 153, [ci, CS.own 20000 4])], rows := [(20000, 99, [kI, kI, kI, kI])] }
def Qb7 : Sk := { tmps := [TS.tup []], boxes := [(20000, 153, [ci, CS.own 20000 4])], rows := [(20000, 99, [kI, kI, kI, kI])] }
def Qim (Qa8 Qih Qdj : Fn) : Cfg := { spec := Qbq [(135, spOf Qcb Qb7 Qa8), (158, spOf sig_curve_Middle osig_curve_Middle Qih), (157, spOf Qgv Qge Qdj)], eqOk := Qbu, pure := fun f => !(Qd3 [135, 157] f), ownOff := ownOff }
def Qf8 (Qa8 Qih Qdj : Fn) : Fn := Qau Try.prog (Qim Qa8 Qih Qdj) 64 135 Qcb Qb7
theorem Ql3 (Qa8 Qih Qdj : Fn) (x0 : Rw) (x1 x2 x3 x4 x5 x6 x7 x8 : Int) (x9 : Bool) (x10 x11 : Int) : Qf8 Qa8 Qih Qdj [.view [kI, kI, kI, kI] x0, I x1, I x2, I x3, I x4, I x5, I x6, I x7, I x8, B x9, I x10, I x11] =
 bif decide (x10 < 16) then
 (Qdj [.view [kI, kI, kI, kI] x0, I x1, I x2, I x3, I x4, I x5, I x6, I x7, I x8, B x9, I x11]).bind fun o4 =>
 bif !bA o4 1 then
 (Qih [I x1, I x2, I x3, I x4, I x5, I x6, I x7, I x8, jA o4 2, B x9]).bind fun o5 =>
 bif bA o5 4 then
 (Qa8 [.view [kI, kI, kI, kI] (wA o4 0), I x1, I x2, I x3, I x4, jA o5 0, jA o5 1, jA o5 2, jA o5 3, B false, I (IntKind.i64.wrap (x10 + 1)), jA o4 2]).bind fun o6 =>
 (Qa8 [.view [kI, kI, kI, kI] (wA o6 0), jA o5 0, jA o5 1, jA o5 2, jA o5 3, I x5, I x6, I x7, I x8, B false, I (IntKind.i64.wrap (x10 + 1)), jA o6 1]).bind fun o7 =>
 some [.view [kI, kI, kI, kI] (wA o7 0), jA o7 1]
 else
 bif ((wA o4 0 ++ [[I x5, I x6, I x7, I x8]]).length * 32).ble 140737488355328 then
 some [.view [kI, kI, kI, kI] (wA o4 0 ++ [[I x5, I x6, I x7, I x8]]), jA o4 2]
 else
 none
 else
 bif ((wA o4 0 ++ [[I x5, I x6, I x7, I x8]]).length * 32).ble 140737488355328 then
 some [.view [kI, kI, kI, kI] (wA o4 0 ++ [[I x5, I x6, I x7, I x8]]), jA o4 2]
 else
 none
 else
 bif ((x0 ++ [[I x5, I x6, I x7, I x8]]).length * 32).ble 140737488355328 then
 some [.view [kI, kI, kI, kI] (x0 ++ [[I x5, I x6, I x7, I x8]]), I x11]
 else
 none := by kernel_rfl
def mG_curve_cutter_piece (M : Fn) : Fn := Qf8 M Qgl Qc1 
def Qdy : Nat -> Fn
 | 0 => fun _ => none
 | n + 1 => mG_curve_cutter_piece (Qdy n)
theorem sp_curve_cutter_piece {M : Fn} (h : Qbt Try.prog (135, spOf Qcb Qb7 M)) : Qar Try.prog (Qim M Qgl Qc1) := Qae rfl ⟨h, r_curve_Middle, r_curve_cutter_settled, trivial⟩
theorem rG_curve_cutter_piece {M : Fn} (h : Qbt Try.prog (135, spOf Qcb Qb7 M)) : Qbt Try.prog (135, spOf Qcb Qb7 (mG_curve_cutter_piece M)) := Qa5 (C := (Qim M Qgl Qc1)) (L := 64) (by kernel_rfl) (FnOK.bare rfl rfl rfl) (sp_curve_cutter_piece h) eqOk Qbj (by kernel_rfl) (by kernel_rfl)
theorem rR_curve_cutter_piece : ∀ n, Qbt Try.prog (135, spOf Qcb Qb7 (Qdy n))
 | 0 => row_none
 | n + 1 => rG_curve_cutter_piece (rR_curve_cutter_piece n)
def Qgq := Qdy fuel_curve_cutter_piece
theorem r_curve_cutter_piece : Qbt Try.prog (135, spOf Qcb Qb7 Qgq) := rR_curve_cutter_piece fuel_curve_cutter_piece
def sig_curve_ends : Sk := { tmps := [TS.v true [ci, ci, ci, ci, ci, ci, ci, ci, ci, ci, ci, ci, ci, CS.bool, ci, CS.bool, ci, ci, ci, ci, ci, CS.bool]], boxes := [], rows := [] }
def Qmq : Sk := { tmps := [TS.tup [(true, [ci, ci, ci, ci]), (true, [ci, ci, ci, ci])]], boxes := [], rows := [] }
def C_curve_ends_0 (Qaz Qas : Fn) : Cfg := { spec := Qbq [(67, spOf Qnt Qld Qaz), (93, spOf Qli Qjr Qas)], eqOk := Qbu, ownOff := ownOff }
def sk_curve_ends_4 : Sk := { tmps := [td, tf [CS.ptr 1 0], tf [CS.ptr 2 0], tf [CS.ptr 3 0], tf [CS.ptr 4 0], tf [ci], tf [ci], td, td, td, td, td, td, td, td, td, td, td, td, td, td, td, td, td, td, td, td, TS.v true [ci, ci, ci, ci, ci, ci], tf [ci]] ++ dd 27, boxes := [(1, 33, [ci, ci, ci, ci, ci, ci, ci, ci, ci, ci, ci, ci, ci, CS.bool, ci, CS.bool, ci, ci, ci, ci, ci, CS.bool]), (2, 99, [ci, ci, ci, ci]), (3, 99, [ci, ci, ci, ci]), (4, 170, [ci, ci, ci, ci, ci, ci, ci, ci])], rows := [] }
def ex_curve_ends_4 : List (Ex × Sk) := [(Ex.exit 0, { tmps := [td, td, tf [CS.ptr 2 0], tf [CS.ptr 3 0], tf [CS.ptr 4 0]] ++ dd 51, boxes := [(2, 99, [ci, ci, ci, ci]), (3, 99, [ci, ci, ci, ci]), (4, 170, [ci, ci, ci, ci, ci, ci, ci, ci])], rows := [] })]
def st_curve_ends_4 (Qaz Qas : Fn) : Lp := stepL Try.prog (C_curve_ends_0 Qaz Qas) 64 4 (Qg8 Try.prog 119 4) sk_curve_ends_4 ex_curve_ends_4
def C_curve_ends_1 (Qaz Qas : Fn) (N4 : Lp) : Cfg := (C_curve_ends_0 Qaz Qas).loop 4 sk_curve_ends_4 ex_curve_ends_4 N4
def mf_curve_ends (Qaz Qas : Fn) (N4 : Lp) : Fn := Qau Try.prog (C_curve_ends_1 Qaz Qas N4) 64 119 sig_curve_ends Qmq
abbrev g_s_curve_ends_4_1 (Qas Qaz : Fn) (v17 v8 v0 v1 v2 v3 v4 v5 v6 v7 v9 v10 v11 v12 v13 v14 v15 v16 v18 v19 v20 v21 : Int) (v22 : Bool) (v23 : Int) (v24 : Bool) (v25 v26 v27 v28 v29 : Int) (v30 : Bool) (v31 v32 v33 v34 v35 v36 v37 v38 v43 v44 v45 v46 v39 v40 v41 v42 : Int) (h1_0 h1_1 h1_2 : AC) : Option (Nat × List AC) :=
 (Qas [h1_0, h1_1, h1_2]).bind fun o9 =>
 (Qaz [jA o9 0, jA o9 1, jA o9 2, I v17]).bind fun o10 =>
 bif decide (v8 = (↑0 : Int)) then
 some (0, [I v0, I v1, I v2, I v3, I v4, I v5, I v6, I v7, I (IntKind.i64.wrap (v8 + 1)), I v9, I v10, I v11, I v12, I v13, I v14, I v15, I v16, I v17, I v18, I v19, I v20, I v21, B v22, I v23, B v24, I v25, I v26, I v27, I v28, I v29, B v30, I v31, I v32, I v33, I v34, I v35, I v36, I v37, I v38, I (IntKind.i64.wrap (gA o10 0 - v0)), I (IntKind.i64.wrap (gA o10 1 - v1)), I 0, jA o10 2, I v43, I v44, I v45, I v46])
 else
 bif decide (v8 = (↑(0 + 1) : Int)) then
 some (0, [I v0, I v1, I v2, I v3, I v4, I v5, I v6, I v7, I (IntKind.i64.wrap (v8 + 1)), I v9, I v10, I v11, I v12, I v13, I v14, I v15, I v16, I v17, I v18, I v19, I v20, I v21, B v22, I v23, B v24, I v25, I v26, I v27, I v28, I v29, B v30, I v31, I v32, I v33, I v34, I v35, I v36, I v37, I v38, I v39, I v40, I v41, I v42, I (IntKind.i64.wrap (gA o10 0 - v0)), I (IntKind.i64.wrap (gA o10 1 - v1)), I 0, jA o10 2])
 else
 none
attribute [go_sem] g_s_curve_ends_4_1
theorem Qne (Qaz Qas : Fn) (v0 v1 v2 v3 v4 v5 v6 v7 v8 v9 v10 v11 v12 v13 v14 v15 v16 v17 v18 v19 v20 v21 : Int) (v22 : Bool) (v23 : Int) (v24 : Bool) (v25 v26 v27 v28 v29 : Int) (v30 : Bool) (v31 v32 v33 v34 v35 v36 v37 v38 v39 v40 v41 v42 v43 v44 v45 v46 : Int) : st_curve_ends_4 Qaz Qas [I v0, I v1, I v2, I v3, I v4, I v5, I v6, I v7, I v8, I v9, I v10, I v11, I v12, I v13, I v14, I v15, I v16, I v17, I v18, I v19, I v20, I v21, B v22, I v23, B v24, I v25, I v26, I v27, I v28, I v29, B v30, I v31, I v32, I v33, I v34, I v35, I v36, I v37, I v38, I v39, I v40, I v41, I v42, I v43, I v44, I v45, I v46] =
 bif decide (v8 < 2) then
 bif decide (v8 = (↑0 : Int)) then
 g_s_curve_ends_4_1 Qas Qaz v17 v8 v0 v1 v2 v3 v4 v5 v6 v7 v9 v10 v11 v12 v13 v14 v15 v16 v18 v19 v20 v21 v22 v23 v24 v25 v26 v27 v28 v29 v30 v31 v32 v33 v34 v35 v36 v37 v38 v43 v44 v45 v46 v39 v40 v41 v42 (I v2) (I v3) (I v4)
 else
 bif decide (v8 = (↑(0 + 1) : Int)) then
 g_s_curve_ends_4_1 Qas Qaz v17 v8 v0 v1 v2 v3 v4 v5 v6 v7 v9 v10 v11 v12 v13 v14 v15 v16 v18 v19 v20 v21 v22 v23 v24 v25 v26 v27 v28 v29 v30 v31 v32 v33 v34 v35 v36 v37 v38 v43 v44 v45 v46 v39 v40 v41 v42 (I v5) (I v6) (I v7)
 else
 none
 else
 some (1, [I v31, I v32, I v33, I v34, I v35, I v36, I v37, I v38, I v39, I v40, I v41, I v42, I v43, I v44, I v45, I v46]) := by kernel_rfl
theorem mf_curve_ends_eq (Qaz Qas : Fn) (N4 : Lp) (x0 x1 x2 x3 x4 x5 x6 x7 x8 x9 x10 x11 x12 : Int) (x13 : Bool) (x14 : Int) (x15 : Bool) (x16 x17 x18 x19 x20 : Int) (x21 : Bool) : mf_curve_ends Qaz Qas N4 [I x0, I x1, I x2, I x3, I x4, I x5, I x6, I x7, I x8, I x9, I x10, I x11, I x12, B x13, I x14, B x15, I x16, I x17, I x18, I x19, I x20, B x21] =
 (Qas [I x9, I x10, I x11]).bind fun o13 =>
 (Qaz [jA o13 0, jA o13 1, jA o13 2, I x8]).bind fun o14 =>
 (N4 [jA o14 0, jA o14 1, I x2, I x3, I x4, I x5, I x6, I x7, I 0, I x0, I x1, I x2, I x3, I x4, I x5, I x6, I x7, I x8, I x9, I x10, I x11, I x12, B x13, I x14, B x15, I x16, I x17, I x18, I x19, I x20, B x21, I 0, I 0, I 0, I 0, I 0, I 0, I 0, I 0, I 0, I 0, I 0, I 0, I 0, I 0, I 0, I 0]).bind fun o15 =>
 bif o15.1.beq 1 then
 some [jA o15.2 8, jA o15.2 9, jA o15.2 10, jA o15.2 11, jA o15.2 12, jA o15.2 13, jA o15.2 14, jA o15.2 15]
 else
 none := by kernel_rfl
def l_curve_ends_4 := Qby (st_curve_ends_4 Qeq Qdk )
def Qha := mf_curve_ends Qeq Qdk l_curve_ends_4
theorem sp_curve_ends : Qar Try.prog (C_curve_ends_0 Qeq Qdk) := Qae rfl ⟨r_curve_Plane, r_curve_scaled, trivial⟩
theorem r_curve_ends : Qbt Try.prog (119, spOf sig_curve_ends Qmq Qha) := Qa5 (C := (C_curve_ends_1 Qeq Qdk l_curve_ends_4)) (L := 64) (by kernel_rfl) ((FnOK.bare rfl rfl rfl).loop sp_curve_ends eqOk Qbj (by kernel_rfl) (by kernel_rfl)) sp_curve_ends eqOk Qbj (by kernel_rfl) (by kernel_rfl)
def sig_wide_Cmp : Sk := { tmps := [tf [ci], tf [ci], tf [ci], tf [ci]], boxes := [], rows := [] }
def osig_wide_Cmp : Sk := { tmps := [tf [ci]], boxes := [], rows := [] }
def C_wide_Cmp_0 (Qbk Qan Qbg Qb0 : Fn) : Cfg := { spec := Qbq [(105, spOf Qln Qj6 Qbk), (106, spOf Qfx Qff Qan), (107, spOf Qme Qkw Qbg), (104, spOf sig_wide_sign Qkv Qb0)], eqOk := Qbu, ownOff := ownOff }
def mf_wide_Cmp (Qbk Qan Qbg Qb0 : Fn) : Fn := Qau Try.prog (C_wide_Cmp_0 Qbk Qan Qbg Qb0) 64 57 sig_wide_Cmp osig_wide_Cmp
theorem mf_wide_Cmp_eq (Qbk Qan Qbg Qb0 : Fn) (x0 x1 x2 x3 : Int) : mf_wide_Cmp Qbk Qan Qbg Qb0 [I x0, I x1, I x2, I x3] =
 (Qb0 [I x0, I x1]).bind fun o9 =>
 (Qb0 [I x2, I x3]).bind fun o10 =>
 bif gA o9 0 != gA o10 0 then
 bif decide (gA o9 0 < gA o10 0) then
 some [I (-1)]
 else
 some [I 1]
 else
 (Qbg [I x0]).bind fun o11 =>
 (Qbg [I x1]).bind fun o12 =>
 (Qan [U (gA o11 0), U (gA o12 0)]).bind fun o13 =>
 (Qbg [I x2]).bind fun o14 =>
 (Qbg [I x3]).bind fun o15 =>
 (Qan [U (gA o14 0), U (gA o15 0)]).bind fun o16 =>
 (Qbk [U (gA o13 0), U (gA o13 1), U (gA o16 0), U (gA o16 1)]).bind fun o17 =>
 some [I (IntKind.i64.wrap (gA o9 0 * gA o17 0))] := by kernel_rfl
def m_wide_Cmp := mf_wide_Cmp Qd5 Qbp Qeo Qem 
theorem sp_wide_Cmp : Qar Try.prog (C_wide_Cmp_0 Qd5 Qbp Qeo Qem) := Qae rfl ⟨r_wide_compare, r_wide_product, r_wide_size, r_wide_sign, trivial⟩
theorem r_wide_Cmp : Qbt Try.prog (57, spOf sig_wide_Cmp osig_wide_Cmp m_wide_Cmp) := Qa5 (C := (C_wide_Cmp_0 Qd5 Qbp Qeo Qem)) (L := 64) (by kernel_rfl) (FnOK.bare rfl rfl rfl) sp_wide_Cmp eqOk Qbj (by kernel_rfl) (by kernel_rfl)
def sig_curve_near : Sk := { tmps := [tf [ci], tf [ci]], boxes := [], rows := [] }
def osig_curve_near : Sk := { tmps := [tf [CS.bool]], boxes := [], rows := [] }
def C_curve_near_0 (M_wide_Cmp : Fn) : Cfg := { spec := Qbq [(57, spOf sig_wide_Cmp osig_wide_Cmp M_wide_Cmp)], eqOk := Qbu, ownOff := ownOff }
def mf_curve_near (M_wide_Cmp : Fn) : Fn := Qau Try.prog (C_curve_near_0 M_wide_Cmp) 64 121 sig_curve_near osig_curve_near
theorem mf_curve_near_eq (M_wide_Cmp : Fn) (x0 x1 : Int) : mf_curve_near M_wide_Cmp [I x0, I x1] =
 bif decide (IntKind.i64.wrap (IntKind.i64.wrap (mx x0 x1 - mn x0 x1) - 16) <= 0) then
 some [B true]
 else
 (M_wide_Cmp [I (IntKind.i64.wrap (IntKind.i64.wrap (mx x0 x1 - mn x0 x1) - 16)), I (IntKind.i64.wrap (IntKind.i64.wrap (mx x0 x1 - mn x0 x1) - 16)), I 64, I (mn x0 x1)]).bind fun o1 =>
 some [B (decide (gA o1 0 <= 0))] := by kernel_rfl
def m_curve_near := mf_curve_near m_wide_Cmp 
theorem sp_curve_near : Qar Try.prog (C_curve_near_0 m_wide_Cmp) := Qae rfl ⟨r_wide_Cmp, trivial⟩
theorem r_curve_near : Qbt Try.prog (121, spOf sig_curve_near osig_curve_near m_curve_near) := Qa5 (C := (C_curve_near_0 m_wide_Cmp)) (L := 64) (by kernel_rfl) (FnOK.bare rfl rfl rfl) sp_curve_near eqOk Qbj (by kernel_rfl) (by kernel_rfl)
def sig_curve_within : Sk := { tmps := [TS.v true [ci, ci, ci]], boxes := [], rows := [] }
def osig_curve_within : Sk := { tmps := [tf [CS.bool]], boxes := [], rows := [] }
def C_curve_within_0 : Cfg := { spec := Qbq [], eqOk := Qbu, ownOff := ownOff, unroll := [2] }
def mf_curve_within : Fn := Qau Try.prog C_curve_within_0 64 117 sig_curve_within osig_curve_within
theorem mf_curve_within_eq (x0 x1 x2 : Int) : mf_curve_within [I x0, I x1, I x2] =
 bif decide (x0 < -1048576) then
 some [B false]
 else
 bif decide (x0 > 1048576) then
 some [B false]
 else
 bif decide (x1 < -1048576) then
 some [B false]
 else
 bif decide (x1 > 1048576) then
 some [B false]
 else
 bif decide (x2 < -1048576) then
 some [B false]
 else
 bif decide (x2 > 1048576) then
 some [B false]
 else
 some [B true] := by kernel_rfl
def Qia := mf_curve_within 
theorem sp_curve_within : Qar Try.prog (C_curve_within_0 ) := Qae rfl trivial
theorem r_curve_within : Qbt Try.prog (117, spOf sig_curve_within osig_curve_within Qia) := Qa5 (C := C_curve_within_0) (L := 64) (by kernel_rfl) (FnOK.bare rfl rfl rfl) sp_curve_within eqOk Qbj (by kernel_rfl) (by kernel_rfl)
def Qiw : Sk := { tmps := [TS.v true [ci, ci, ci, ci, ci, ci, ci, ci, ci, ci, ci, ci, ci, CS.bool, ci, CS.bool, ci, ci, ci, ci, ci, CS.bool]], boxes := [], rows := [] }
def Qh0 : Sk := { tmps := [tf [CS.bool]], boxes := [], rows := [] }
def C_curve_Valid_0 (Qa0 Qgc Qbc Qcz Qb2 Qdm : Fn) : Cfg := { spec := Qbq [(122, spOf Qix Qhw Qa0), (121, spOf sig_curve_near osig_curve_near Qgc), (120, spOf Qnh Qk0 Qbc), (119, spOf sig_curve_ends Qmq Qcz), (118, spOf Qk2 Qjc Qb2), (117, spOf sig_curve_within osig_curve_within Qdm)], eqOk := Qbu, ownOff := ownOff }
def mf_curve_Valid (Qa0 Qgc Qbc Qcz Qb2 Qdm : Fn) : Fn := Qau Try.prog (C_curve_Valid_0 Qa0 Qgc Qbc Qcz Qb2 Qdm) 64 66 Qiw Qh0
abbrev g_curve_Valid_1 (Qdm : Fn) (x9 x10 x11 : Int) (Qcz : Fn) (x0 x1 x2 x3 x4 x5 x6 x7 x8 x12 : Int) (x13 : Bool) (x14 : Int) (x15 : Bool) (x16 x17 x18 x19 x20 : Int) (x21 : Bool) (Qbc Qgc Qa0 : Fn) : Option (List AC) :=
 (Qdm [I x9, I x10, I x11]).bind fun o20 =>
 bif !bA o20 0 then
 some [B false]
 else
 (Qcz [I x0, I x1, I x2, I x3, I x4, I x5, I x6, I x7, I x8, I x9, I x10, I x11, I x12, B x13, I x14, B x15, I x16, I x17, I x18, I x19, I x20, B x21]).bind fun o21 =>
 (Qbc [jA o21 0, jA o21 1, jA o21 2, jA o21 3, jA o21 0, jA o21 1, jA o21 2, jA o21 3]).bind fun o22 =>
 (Qbc [jA o21 4, jA o21 5, jA o21 6, jA o21 7, jA o21 4, jA o21 5, jA o21 6, jA o21 7]).bind fun o23 =>
 bif decide (gA o22 0 < IntKind.i64.wrap (128 * 128)) then
 some [B false]
 else
 bif decide (gA o23 0 < IntKind.i64.wrap (128 * 128)) then
 some [B false]
 else
 (Qgc [I (IntKind.i64.wrap ((gA o22 0).tdiv 256)), I (IntKind.i64.wrap ((gA o23 0).tdiv 256))]).bind fun o24 =>
 bif !bA o24 0 then
 some [B false]
 else
 bif x13 then
 bif gA o21 0 == gA o21 4 then
 some [B (gA o21 1 == gA o21 5)]
 else
 some [B false]
 else
 (Qa0 [jA o21 0, jA o21 1, jA o21 2, jA o21 3, jA o21 4, jA o21 5, jA o21 6, jA o21 7]).bind fun o25 =>
 bif gA o25 0 != 0 then
 some [B true]
 else
 (Qbc [jA o21 0, jA o21 1, jA o21 2, jA o21 3, jA o21 4, jA o21 5, jA o21 6, jA o21 7]).bind fun o26 =>
 some [B (decide (gA o26 0 < 0))]
attribute [go_sem] g_curve_Valid_1
theorem mf_curve_Valid_eq (Qa0 Qgc Qbc Qcz Qb2 Qdm : Fn) (x0 x1 x2 x3 x4 x5 x6 x7 x8 x9 x10 x11 x12 : Int) (x13 : Bool) (x14 : Int) (x15 : Bool) (x16 x17 x18 x19 x20 : Int) (x21 : Bool) : mf_curve_Valid Qa0 Qgc Qbc Qcz Qb2 Qdm [I x0, I x1, I x2, I x3, I x4, I x5, I x6, I x7, I x8, I x9, I x10, I x11, I x12, B x13, I x14, B x15, I x16, I x17, I x18, I x19, I x20, B x21] =
 bif decide (x0 < 1) then
 some [B false]
 else
 bif decide (x0 > 6) then
 some [B false]
 else
 (Qdm [I x2, I x3, I x4]).bind fun o17 =>
 bif !bA o17 0 then
 some [B false]
 else
 (Qdm [I x5, I x6, I x7]).bind fun o18 =>
 bif !bA o18 0 then
 some [B false]
 else
 bif x0 != 3 then
 some [B true]
 else
 (Qb2 [I x8]).bind fun o19 =>
 bif !bA o19 3 then
 some [B false]
 else
 bif x12 != 1 then
 bif x12 != -1 then
 some [B false]
 else
 g_curve_Valid_1 Qdm x9 x10 x11 Qcz x0 x1 x2 x3 x4 x5 x6 x7 x8 x12 x13 x14 x15 x16 x17 x18 x19 x20 x21 Qbc Qgc Qa0
 else
 g_curve_Valid_1 Qdm x9 x10 x11 Qcz x0 x1 x2 x3 x4 x5 x6 x7 x8 x12 x13 x14 x15 x16 x17 x18 x19 x20 x21 Qbc Qgc Qa0 := by kernel_rfl
def Qdp := mf_curve_Valid Qds m_curve_near Qey Qha Qdi Qia 
theorem sp_curve_Valid : Qar Try.prog (C_curve_Valid_0 Qds m_curve_near Qey Qha Qdi Qia) := Qae rfl ⟨r_curve_cross, r_curve_near, r_curve_dot, r_curve_ends, r_curve_axes, r_curve_within, trivial⟩
theorem r_curve_Valid : Qbt Try.prog (66, spOf Qiw Qh0 Qdp) := Qa5 (C := (C_curve_Valid_0 Qds m_curve_near Qey Qha Qdi Qia)) (L := 64) (by kernel_rfl) (FnOK.bare rfl rfl rfl) sp_curve_Valid eqOk Qbj (by kernel_rfl) (by kernel_rfl)
def sig_curve_Spokes : Sk := { tmps := [TS.v true [ci, ci, ci, ci, ci, ci, ci, ci, ci, ci, ci, ci, ci, CS.bool, ci, CS.bool, ci, ci, ci, ci, ci, CS.bool]], boxes := [], rows := [] }
def osig_curve_Spokes : Sk := { tmps := [TS.tup [(false, [CS.sl [kI, kI, kI, kI]]), (false, [CS.bool])]], boxes := [], rows := [] }
def C_curve_Spokes_0 (Qa8 Qd8 Qbc Qcz Qa3 : Fn) : Cfg := { spec := Qbq [(135, spOf Qcb Qb7 Qa8), (134, spOf sig_wide_Sqrt osig_wide_Sqrt Qd8), (120, spOf Qnh Qk0 Qbc), (119, spOf sig_curve_ends Qmq Qcz), (66, spOf Qiw Qh0 Qa3)], eqOk := Qbu, pure := fun f => !(Qd3 [135] f), ownOff := ownOff, rowDst := [39] }
def mf_curve_Spokes (Qa8 Qd8 Qbc Qcz Qa3 : Fn) : Fn := Qau Try.prog (C_curve_Spokes_0 Qa8 Qd8 Qbc Qcz Qa3) 64 92 sig_curve_Spokes osig_curve_Spokes
theorem mf_curve_Spokes_eq (Qa8 Qd8 Qbc Qcz Qa3 : Fn) (x0 x1 x2 x3 x4 x5 x6 x7 x8 x9 x10 x11 x12 : Int) (x13 : Bool) (x14 : Int) (x15 : Bool) (x16 x17 x18 x19 x20 : Int) (x21 : Bool) : mf_curve_Spokes Qa8 Qd8 Qbc Qcz Qa3 [I x0, I x1, I x2, I x3, I x4, I x5, I x6, I x7, I x8, I x9, I x10, I x11, I x12, B x13, I x14, B x15, I x16, I x17, I x18, I x19, I x20, B x21] =
 bif x0 != 3 then
 some [.view [kI, kI, kI, kI] [], B false]
 else
 (Qa3 [I x0, I x1, I x2, I x3, I x4, I x5, I x6, I x7, I x8, I x9, I x10, I x11, I x12, B x13, I x14, B x15, I x16, I x17, I x18, I x19, I x20, B x21]).bind fun o7 =>
 bif !bA o7 0 then
 some [.view [kI, kI, kI, kI] [], B false]
 else
 (Qcz [I x0, I x1, I x2, I x3, I x4, I x5, I x6, I x7, I x8, I x9, I x10, I x11, I x12, B x13, I x14, B x15, I x16, I x17, I x18, I x19, I x20, B x21]).bind fun o8 =>
 (Qbc [jA o8 0, jA o8 1, jA o8 2, jA o8 3, jA o8 0, jA o8 1, jA o8 2, jA o8 3]).bind fun o9 =>
 (Qd8 [jA o9 0, I 2]).bind fun o10 =>
 (Qbc [jA o8 4, jA o8 5, jA o8 6, jA o8 7, jA o8 4, jA o8 5, jA o8 6, jA o8 7]).bind fun o11 =>
 (Qd8 [jA o11 0, I 2]).bind fun o12 =>
 (Qa8 [.view [kI, kI, kI, kI] [[jA o8 0, jA o8 1, jA o10 0, jA o8 3]], jA o8 0, jA o8 1, jA o10 0, jA o8 3, jA o8 4, jA o8 5, jA o12 0, jA o8 7, B x13, I 0, I x12]).bind fun o13 =>
 some [.view [kI, kI, kI, kI] (wA o13 0), B true] := by kernel_rfl
def Qib := mf_curve_Spokes Qgq Qhq Qey Qha Qdp 
theorem sp_curve_Spokes : Qar Try.prog (C_curve_Spokes_0 Qgq Qhq Qey Qha Qdp) := Qae rfl ⟨r_curve_cutter_piece, r_wide_Sqrt, r_curve_dot, r_curve_ends, r_curve_Valid, trivial⟩
theorem r_curve_Spokes : Qbt Try.prog (92, spOf sig_curve_Spokes osig_curve_Spokes Qib) := Qa5 (C := (C_curve_Spokes_0 Qgq Qhq Qey Qha Qdp)) (L := 64) (by kernel_rfl) (FnOK.bare rfl rfl rfl) sp_curve_Spokes eqOk Qbj (by kernel_rfl) (by kernel_rfl)
end Go.Bm
