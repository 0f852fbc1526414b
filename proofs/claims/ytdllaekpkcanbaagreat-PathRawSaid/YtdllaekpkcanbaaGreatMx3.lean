/- functions of the program and of the references, as models -/
import Derived.Test.YtdllaekpkcanbaaGreatMx2
set_option linter.unusedSimpArgs false
set_option linter.unusedVariables false
set_option maxRecDepth 100000
noncomputable section
namespace Go.Bm
open Go.Proofs
def sig_path_geared : Sk := { tmps := [TS.v true [ci, ci, ci, ci, ci, ci, ci, ci, ci, ci, ci, ci, ci, CS.bool, ci, CS.bool, ci, ci, ci, ci, ci, CS.bool]], boxes := [], rows := [] }
def osig_path_geared : Sk := { tmps := [tf [CS.bool]], boxes := [], rows := [] }
def C_path_geared_0 : Cfg := { spec := Qbx [], eqOk := Qb2, ownOff := ownOff }
def mf_path_geared : Fn := Qax Tryz.prog C_path_geared_0 64 128 sig_path_geared osig_path_geared
theorem mf_path_geared_eq (x0 x1 x2 x3 x4 x5 x6 x7 x8 x9 x10 x11 x12 : Int) (x13 : Bool) (x14 : Int) (x15 : Bool) (x16 x17 x18 x19 x20 : Int) (x21 : Bool) : mf_path_geared [I x0, I x1, I x2, I x3, I x4, I x5, I x6, I x7, I x8, I x9, I x10, I x11, I x12, B x13, I x14, B x15, I x16, I x17, I x18, I x19, I x20, B x21] =
 bif x0 == 5 then
 some [B true]
 else
 some [B (x0 == 6)] := by kernel_rfl
def Qfu := mf_path_geared 
theorem sp_path_geared : Qak Tryz.prog (C_path_geared_0 ) := Qae rfl trivial
theorem r_path_geared : Qbm Tryz.prog (128, spOf sig_path_geared osig_path_geared Qfu) := Qa0 (C := C_path_geared_0) (L := 64) (by kernel_rfl) (FnOK.bare rfl rfl rfl) sp_path_geared eqOk Qa9 (by kernel_rfl) (by kernel_rfl)
def sig_path_exact : Sk := { tmps := [tf [CS.sl kItm], tf [ci]], boxes := [], rows := [] }
def osig_path_exact : Sk := { tmps := [tf [CS.bool]], boxes := [], rows := [] }
def C_path_exact_0 (Qag Qbp : Fn) : Cfg := { spec := Qbx [(108, spOf sig_path_motion Qil Qag), (128, spOf sig_path_geared osig_path_geared Qbp)], eqOk := Qb2, ownOff := ownOff }
def sk_path_exact_4 : Sk := { tmps := [td, td, td, td, td, td, td, td, td, td, td, td, td, td, td, td, td, td, td, td, td, td, td, tf [CS.sl kItm], tf [ci], tf [ci]] ++ dd 9, boxes := [], rows := [] }
def ex_path_exact_4 : List (Ex × Sk) := [(Ex.ret, { tmps := [td, td, td, td, tf [CS.bool]] ++ dd 30, boxes := [], rows := [] }), (Ex.exit 0, { tmps := [td] ++ dd 34, boxes := [], rows := [] })]
def Qhw (Qag Qbp : Fn) : Lp := stepL Tryz.prog (C_path_exact_0 Qag Qbp) 64 4 (Qf0 Tryz.prog 132 4) sk_path_exact_4 ex_path_exact_4
def C_path_exact_1 (Qag Qbp : Fn) (N4 : Lp) : Cfg := (C_path_exact_0 Qag Qbp).loop 4 sk_path_exact_4 ex_path_exact_4 N4
def mf_path_exact (Qag Qbp : Fn) (N4 : Lp) : Fn := Qax Tryz.prog (C_path_exact_1 Qag Qbp N4) 64 132 sig_path_exact osig_path_exact
theorem st_path_exact_4_eq (Qag Qbp : Fn) (v0 : Rw) (v1 v2 : Int) : Qhw Qag Qbp [.view kItm v0, I v1, I v2] =
 bif decide (v2 < v1) then
 bif decide (0 <= v2) && decide (v2 < (v0.length : Int)) then
 (Qag [jA (nth [] v0 v2.toNat) 0]).bind fun o5 =>
 bif bA o5 0 then
 (Qbp [jA (nth [] v0 v2.toNat) 0, jA (nth [] v0 v2.toNat) 1, jA (nth [] v0 v2.toNat) 2, jA (nth [] v0 v2.toNat) 3, jA (nth [] v0 v2.toNat) 4, jA (nth [] v0 v2.toNat) 5, jA (nth [] v0 v2.toNat) 6, jA (nth [] v0 v2.toNat) 7, jA (nth [] v0 v2.toNat) 8, jA (nth [] v0 v2.toNat) 9, jA (nth [] v0 v2.toNat) 10, jA (nth [] v0 v2.toNat) 11, jA (nth [] v0 v2.toNat) 12, B (bA (nth [] v0 v2.toNat) 13), jA (nth [] v0 v2.toNat) 14, B (bA (nth [] v0 v2.toNat) 15), jA (nth [] v0 v2.toNat) 16, jA (nth [] v0 v2.toNat) 17, jA (nth [] v0 v2.toNat) 18, jA (nth [] v0 v2.toNat) 19, jA (nth [] v0 v2.toNat) 20, B (bA (nth [] v0 v2.toNat) 21)]).bind fun o6 =>
 some (1, [B (bA o6 0)])
 else
 some (0, [.view kItm v0, I v1, I (IntKind.i64.wrap (v2 + 1))])
 else
 none
 else
 some (2, []) := by kernel_rfl
theorem mf_path_exact_eq (Qag Qbp : Fn) (N4 : Lp) (x0 : Rw) (x1 : Int) : mf_path_exact Qag Qbp N4 [.view kItm x0, I x1] =
 bif decide (0 <= x1) && decide (x1 < (x0.length : Int)) then
 bif gA (nth [] x0 x1.toNat) 18 == 0 then
 some [B true]
 else
 bif decide (0 <= x1) && decide (x1 < (x0.length : Int)) then
 (Qbp [jA (nth [] x0 x1.toNat) 0, jA (nth [] x0 x1.toNat) 1, jA (nth [] x0 x1.toNat) 2, jA (nth [] x0 x1.toNat) 3, jA (nth [] x0 x1.toNat) 4, jA (nth [] x0 x1.toNat) 5, jA (nth [] x0 x1.toNat) 6, jA (nth [] x0 x1.toNat) 7, jA (nth [] x0 x1.toNat) 8, jA (nth [] x0 x1.toNat) 9, jA (nth [] x0 x1.toNat) 10, jA (nth [] x0 x1.toNat) 11, jA (nth [] x0 x1.toNat) 12, B (bA (nth [] x0 x1.toNat) 13), jA (nth [] x0 x1.toNat) 14, B (bA (nth [] x0 x1.toNat) 15), jA (nth [] x0 x1.toNat) 16, jA (nth [] x0 x1.toNat) 17, jA (nth [] x0 x1.toNat) 18, jA (nth [] x0 x1.toNat) 19, jA (nth [] x0 x1.toNat) 20, B (bA (nth [] x0 x1.toNat) 21)]).bind fun o7 =>
 bif bA o7 0 then
 some [B true]
 else
 bif decide (0 <= IntKind.i64.wrap (x1 + 1)) && decide (IntKind.i64.wrap (x1 + 1) <= (x0.length : Int)) then
 (N4 [.view kItm (List.drop (IntKind.i64.wrap (x1 + 1)).toNat x0), I (↑(List.drop (IntKind.i64.wrap (x1 + 1)).toNat x0).length : Int), I 0]).bind fun o8 =>
 bif o8.1.beq 1 then
 some [B (bA o8.2 0)]
 else
 bif o8.1.beq 2 then
 some [B false]
 else
 none
 else
 none
 else
 none
 else
 none := by kernel_rfl
def l_path_exact_4 := Qbl (Qhw Qcp Qfu )
def m_path_exact := mf_path_exact Qcp Qfu l_path_exact_4
theorem sp_path_exact : Qak Tryz.prog (C_path_exact_0 Qcp Qfu) := Qae rfl ⟨r_path_motion, r_path_geared, trivial⟩
theorem r_path_exact : Qbm Tryz.prog (132, spOf sig_path_exact osig_path_exact m_path_exact) := Qa0 (C := (C_path_exact_1 Qcp Qfu l_path_exact_4)) (L := 64) (by kernel_rfl) ((FnOK.bare rfl rfl rfl).loop sp_path_exact eqOk Qa9 (by kernel_rfl) (by kernel_rfl)) sp_path_exact eqOk Qa9 (by kernel_rfl) (by kernel_rfl)
def sig_path_builder_mark : Sk := { tmps := [tf [CS.ptr 20000 0], tf [CS.sl kItm], tf [ci]], boxes := [(20000, 108, [ci, ci, ci, CS.own 20000 7, CS.own 20001 3, CS.bool, ci, ci, ci])], rows := [(20000, 78, kSgm), (20001, 80, kPt)] }
def osig_path_builder_mark : Sk := { tmps := [TS.tup []], boxes := [(20000, 108, [ci, ci, ci, CS.own 20000 7, CS.own 20001 3, CS.bool, ci, ci, ci])], rows := [(20000, 78, kSgm), (20001, 80, kPt)] }
def C_path_builder_mark_0 (M_path_exact Qag : Fn) : Cfg := { spec := Qbx [(132, spOf sig_path_exact osig_path_exact M_path_exact), (108, spOf sig_path_motion Qil Qag)], eqOk := Qb2, ownOff := ownOff }
def mf_path_builder_mark (M_path_exact Qag : Fn) : Fn := Qax Tryz.prog (C_path_builder_mark_0 M_path_exact Qag) 64 112 sig_path_builder_mark osig_path_builder_mark
abbrev g_path_builder_mark_1 (Qag : Fn) (x2 : Rw) (x3 : Int) (x1 : Rw) (x8 : Int) (x0 : Rw) (x4 x5 x6 : Int) (x7 : Bool) (x9 x10 : Int) : Option (List AC) :=
 (Qag [jA (nth [] x2 x3.toNat) 0]).bind fun o6 =>
 bif bA o6 0 then
 bif ((x1 ++ [[I x8, I 2, I x3]]).length * 24).ble 140737488355328 then
 some [.view kSgm x0, .view kPt (x1 ++ [[I x8, I 2, I x3]]), I x4, I x5, I x6, B x7, I x8, I x9, I x10]
 else
 none
 else
 bif gA (nth [] x2 x3.toNat) 0 == 10 then
 bif ((x1 ++ [[I x8, I 5, I x3]]).length * 24).ble 140737488355328 then
 some [.view kSgm x0, .view kPt (x1 ++ [[I x8, I 5, I x3]]), I x4, I x5, I x6, B x7, I x8, I x9, I x10]
 else
 none
 else
 bif gA (nth [] x2 x3.toNat) 0 == 13 then
 bif ((x1 ++ [[I x8, I 4, I x3]]).length * 24).ble 140737488355328 then
 some [.view kSgm x0, .view kPt (x1 ++ [[I x8, I 4, I x3]]), I x4, I x5, I x6, B x7, I x8, I x9, I x10]
 else
 none
 else
 bif ((x1 ++ [[I x8, I 3, I x3]]).length * 24).ble 140737488355328 then
 some [.view kSgm x0, .view kPt (x1 ++ [[I x8, I 3, I x3]]), I x4, I x5, I x6, B x7, I x8, I x9, I x10]
 else
 none
attribute [go_sem] g_path_builder_mark_1
theorem mf_path_builder_mark_eq (M_path_exact Qag : Fn) (x0 x1 x2 : Rw) (x3 x4 x5 x6 : Int) (x7 : Bool) (x8 x9 x10 : Int) : mf_path_builder_mark M_path_exact Qag [.view kSgm x0, .view kPt x1, .view kItm x2, I x3, I x4, I x5, I x6, B x7, I x8, I x9, I x10] =
 bif decide (0 <= x3) && decide (x3 < (x2.length : Int)) then
 bif gA (nth [] x2 x3.toNat) 0 == 4 then
 bif ((x1 ++ [[I x8, I 6, I x3]]).length * 24).ble 140737488355328 then
 some [.view kSgm x0, .view kPt (x1 ++ [[I x8, I 6, I x3]]), I x4, I x5, I x6, B x7, I x8, I x9, I x10]
 else
 none
 else
 (Qag [jA (nth [] x2 x3.toNat) 0]).bind fun o4 =>
 bif bA o4 0 then
 (M_path_exact [.view kItm x2, I x3]).bind fun o5 =>
 bif bA o5 0 then
 bif ((x1 ++ [[I x8, I 1, I x3]]).length * 24).ble 140737488355328 then
 some [.view kSgm x0, .view kPt (x1 ++ [[I x8, I 1, I x3]]), I x4, I x5, I x6, B x7, I x8, I x9, I x10]
 else
 none
 else
 g_path_builder_mark_1 Qag x2 x3 x1 x8 x0 x4 x5 x6 x7 x9 x10
 else
 g_path_builder_mark_1 Qag x2 x3 x1 x8 x0 x4 x5 x6 x7 x9 x10
 else
 none := by kernel_rfl
def Qdx := mf_path_builder_mark m_path_exact Qcp 
theorem sp_path_builder_mark : Qak Tryz.prog (C_path_builder_mark_0 m_path_exact Qcp) := Qae rfl ⟨r_path_exact, r_path_motion, trivial⟩
theorem r_path_builder_mark : Qbm Tryz.prog (112, spOf sig_path_builder_mark osig_path_builder_mark Qdx) := Qa0 (C := (C_path_builder_mark_0 m_path_exact Qcp)) (L := 64) (by kernel_rfl) (FnOK.bare rfl rfl rfl) sp_path_builder_mark eqOk Qa9 (by kernel_rfl) (by kernel_rfl)
def sig_path_middle : Sk := { tmps := [TS.v true [ci, ci, ci, ci, ci, ci, ci, ci, ci, ci, ci, ci, ci, CS.bool, ci, CS.bool, ci, ci, ci, ci, ci, CS.bool]], boxes := [], rows := [] }
def osig_path_middle : Sk := { tmps := [TS.v true [ci, ci, ci]], boxes := [], rows := [] }
def C_path_middle_0 : Cfg := { spec := Qbx [], eqOk := Qb2, ownOff := ownOff }
def mf_path_middle : Fn := Qax Tryz.prog C_path_middle_0 64 131 sig_path_middle osig_path_middle
theorem mf_path_middle_eq (x0 x1 x2 x3 x4 x5 x6 x7 x8 x9 x10 x11 x12 : Int) (x13 : Bool) (x14 : Int) (x15 : Bool) (x16 x17 x18 x19 x20 : Int) (x21 : Bool) : mf_path_middle [I x0, I x1, I x2, I x3, I x4, I x5, I x6, I x7, I x8, I x9, I x10, I x11, I x12, B x13, I x14, B x15, I x16, I x17, I x18, I x19, I x20, B x21] =
 some [I (IntKind.i64.wrap (IntKind.i64.wrap (x2 + x5) * 8)), I (IntKind.i64.wrap (IntKind.i64.wrap (x3 + x6) * 8)), I (IntKind.i64.wrap (IntKind.i64.wrap (x4 + x7) * 8))] := by kernel_rfl
def Qep := mf_path_middle 
theorem sp_path_middle : Qak Tryz.prog (C_path_middle_0 ) := Qae rfl trivial
theorem r_path_middle : Qbm Tryz.prog (131, spOf sig_path_middle osig_path_middle Qep) := Qa0 (C := C_path_middle_0) (L := 64) (by kernel_rfl) (FnOK.bare rfl rfl rfl) sp_path_middle eqOk Qa9 (by kernel_rfl) (by kernel_rfl)
def sig_wide_signed : Sk := { tmps := [tf [CS.int .u64], tf [CS.bool]], boxes := [], rows := [] }
def osig_wide_signed : Sk := { tmps := [TS.tup [(false, [ci]), (false, [CS.bool])]], boxes := [], rows := [] }
def C_wide_signed_0 : Cfg := { spec := Qbx [], eqOk := Qb2, ownOff := ownOff }
def mf_wide_signed : Fn := Qax Tryz.prog C_wide_signed_0 64 105 sig_wide_signed osig_wide_signed
theorem mf_wide_signed_eq (x0 : Int) (x1 : Bool) : mf_wide_signed [U x0, B x1] =
 bif x1 then
 bif decide (x0 <= 9223372036854775808) then
 some [I (IntKind.i64.wrap (IntKind.u64.wrap (0 - x0))), B true]
 else
 bif !x1 then
 bif decide (x0 < 9223372036854775808) then
 some [I (IntKind.i64.wrap x0), B true]
 else
 some [I 0, B false]
 else
 some [I 0, B false]
 else
 bif !x1 then
 bif decide (x0 < 9223372036854775808) then
 some [I (IntKind.i64.wrap x0), B true]
 else
 some [I 0, B false]
 else
 some [I 0, B false] := by kernel_rfl
def Qdu := mf_wide_signed 
theorem sp_wide_signed : Qak Tryz.prog (C_wide_signed_0 ) := Qae rfl trivial
theorem r_wide_signed : Qbm Tryz.prog (105, spOf sig_wide_signed osig_wide_signed Qdu) := Qa0 (C := C_wide_signed_0) (L := 64) (by kernel_rfl) (FnOK.bare rfl rfl rfl) sp_wide_signed eqOk Qa9 (by kernel_rfl) (by kernel_rfl)
def sig_wide_compare : Sk := { tmps := [TS.v true [CS.int .u64, CS.int .u64], TS.v true [CS.int .u64, CS.int .u64]], boxes := [], rows := [] }
def osig_wide_compare : Sk := { tmps := [tf [ci]], boxes := [], rows := [] }
def C_wide_compare_0 : Cfg := { spec := Qbx [], eqOk := Qb2, ownOff := ownOff }
def mf_wide_compare : Fn := Qax Tryz.prog C_wide_compare_0 64 174 sig_wide_compare osig_wide_compare
theorem mf_wide_compare_eq (x0 x1 x2 x3 : Int) : mf_wide_compare [U x0, U x1, U x2, U x3] =
 bif decide (x0 < x2) then
 some [I (-1)]
 else
 bif x0 == x2 then
 bif decide (x1 < x3) then
 some [I (-1)]
 else
 bif x0 == x2 && (x1 == x3 && true) then
 some [I 0]
 else
 some [I 1]
 else
 bif x0 == x2 && (x1 == x3 && true) then
 some [I 0]
 else
 some [I 1] := by kernel_rfl
def Qfj := mf_wide_compare 
theorem sp_wide_compare : Qak Tryz.prog (C_wide_compare_0 ) := Qae rfl trivial
theorem r_wide_compare : Qbm Tryz.prog (174, spOf sig_wide_compare osig_wide_compare Qfj) := Qa0 (C := C_wide_compare_0) (L := 64) (by kernel_rfl) (FnOK.bare rfl rfl rfl) sp_wide_compare eqOk Qa9 (by kernel_rfl) (by kernel_rfl)
def Qio : Sk := { tmps := [tf [CS.int .u64], tf [CS.int .u64]], boxes := [], rows := [] }
def Qhu : Sk := { tmps := [TS.v true [CS.int .u64, CS.int .u64]], boxes := [], rows := [] }
def C_wide_product_0 (Qfb : Fn) : Cfg := { spec := Qbx [(121, spOf sig_bits_Mul64 osig_bits_Mul64 Qfb)], eqOk := Qb2, ownOff := ownOff }
def mf_wide_product (Qfb : Fn) : Fn := Qax Tryz.prog (C_wide_product_0 Qfb) 64 100 Qio Qhu
theorem mf_wide_product_eq (Qfb : Fn) (x0 x1 : Int) : mf_wide_product Qfb [U x0, U x1] =
 (Qfb [U x0, U x1]).bind fun o1 =>
 some [U (gA o1 0), U (gA o1 1)] := by kernel_rfl
def Qcq := mf_wide_product Qf1 
theorem sp_wide_product : Qak Tryz.prog (C_wide_product_0 Qf1) := Qae rfl ⟨r_bits_Mul64, trivial⟩
theorem r_wide_product : Qbm Tryz.prog (100, spOf Qio Qhu Qcq) := Qa0 (C := (C_wide_product_0 Qf1)) (L := 64) (by kernel_rfl) (FnOK.bare rfl rfl rfl) sp_wide_product eqOk Qa9 (by kernel_rfl) (by kernel_rfl)
def sig_wide_floorRoot : Sk := { tmps := [TS.v true [CS.int .u64, CS.int .u64]], boxes := [], rows := [] }
def osig_wide_floorRoot : Sk := { tmps := [tf [CS.int .u64]], boxes := [], rows := [] }
def C_wide_floorRoot_0 (Qcl Qaw : Fn) : Cfg := { spec := Qbx [(174, spOf sig_wide_compare osig_wide_compare Qcl), (100, spOf Qio Qhu Qaw)], eqOk := Qb2, ownOff := ownOff }
def sk_wide_floorRoot_3 : Sk := { tmps := [td, tf [CS.ptr 1 0], td, tf [CS.int .u64], tf [CS.int .u64]] ++ dd 16, boxes := [(1, 125, [CS.int .u64, CS.int .u64])], rows := [] }
def ex_wide_floorRoot_3 : List (Ex × Sk) := [(Ex.exit 0, { tmps := [td, td, td, tf [CS.int .u64]] ++ dd 17, boxes := [], rows := [] })]
def Qe7 (Qcl Qaw : Fn) : Lp := stepL Tryz.prog (C_wide_floorRoot_0 Qcl Qaw) 64 3 (Qf0 Tryz.prog 156 3) sk_wide_floorRoot_3 ex_wide_floorRoot_3
def C_wide_floorRoot_1 (Qcl Qaw : Fn) (N3 : Lp) : Cfg := (C_wide_floorRoot_0 Qcl Qaw).loop 3 sk_wide_floorRoot_3 ex_wide_floorRoot_3 N3
def mf_wide_floorRoot (Qcl Qaw : Fn) (N3 : Lp) : Fn := Qax Tryz.prog (C_wide_floorRoot_1 Qcl Qaw N3) 64 156 sig_wide_floorRoot osig_wide_floorRoot
theorem st_wide_floorRoot_3_eq (Qcl Qaw : Fn) (v0 v1 v2 v3 : Int) : Qe7 Qcl Qaw [U v0, U v1, U v2, U v3] =
 bif decide (v1 > 0) then
 (Qaw [U (IntKind.u64.wrap (↑(BitVec.ofInt IntKind.u64.bits v0 ||| BitVec.ofInt IntKind.u64.bits v1).toNat : Int)), U (IntKind.u64.wrap (↑(BitVec.ofInt IntKind.u64.bits v0 ||| BitVec.ofInt IntKind.u64.bits v1).toNat : Int))]).bind fun o3 =>
 (Qcl [U (gA o3 0), U (gA o3 1), U v2, U v3]).bind fun o4 =>
 bif decide (gA o4 0 <= 0) then
 some (0, [U (IntKind.u64.wrap (↑(BitVec.ofInt IntKind.u64.bits v0 ||| BitVec.ofInt IntKind.u64.bits v1).toNat : Int)), U (v1.fdiv (2 ^ min (Int.toNat 1) IntKind.u64.bits)), U v2, U v3])
 else
 some (0, [U v0, U (v1.fdiv (2 ^ min (Int.toNat 1) IntKind.u64.bits)), U v2, U v3])
 else
 some (1, [U v0]) := by kernel_rfl
theorem mf_wide_floorRoot_eq (Qcl Qaw : Fn) (N3 : Lp) (x0 x1 : Int) : mf_wide_floorRoot Qcl Qaw N3 [U x0, U x1] =
 (N3 [U 0, U 9223372036854775808, U x0, U x1]).bind fun o5 =>
 bif o5.1.beq 1 then
 some [U (gA o5.2 0)]
 else
 none := by kernel_rfl
def l_wide_floorRoot_3 := Qbl (Qe7 Qfj Qcq )
def Qfz := mf_wide_floorRoot Qfj Qcq l_wide_floorRoot_3
theorem sp_wide_floorRoot : Qak Tryz.prog (C_wide_floorRoot_0 Qfj Qcq) := Qae rfl ⟨r_wide_compare, r_wide_product, trivial⟩
theorem r_wide_floorRoot : Qbm Tryz.prog (156, spOf sig_wide_floorRoot osig_wide_floorRoot Qfz) := Qa0 (C := (C_wide_floorRoot_1 Qfj Qcq l_wide_floorRoot_3)) (L := 64) (by kernel_rfl) ((FnOK.bare rfl rfl rfl).loop sp_wide_floorRoot eqOk Qa9 (by kernel_rfl) (by kernel_rfl)) sp_wide_floorRoot eqOk Qa9 (by kernel_rfl) (by kernel_rfl)
def sig_wide_root : Sk := { tmps := [TS.v true [CS.int .u64, CS.int .u64], tf [ci]], boxes := [], rows := [] }
def osig_wide_root : Sk := { tmps := [TS.tup [(false, [ci]), (false, [CS.bool])]], boxes := [], rows := [] }
def C_wide_root_0 (Qan M_bits_Sub64 Qfb Qc0 : Fn) : Cfg := { spec := Qbx [(105, spOf sig_wide_signed osig_wide_signed Qan), (157, spOf sig_bits_Sub64 osig_bits_Sub64 M_bits_Sub64), (121, spOf sig_bits_Mul64 osig_bits_Mul64 Qfb), (156, spOf sig_wide_floorRoot osig_wide_floorRoot Qc0)], eqOk := Qb2, ownOff := ownOff }
def mf_wide_root (Qan M_bits_Sub64 Qfb Qc0 : Fn) : Fn := Qax Tryz.prog (C_wide_root_0 Qan M_bits_Sub64 Qfb Qc0) 64 136 sig_wide_root osig_wide_root
abbrev g_wide_root_1 (x2 : Int) (o17 : List AC) (Qan : Fn) (o14 o16 : List AC) : Option (List AC) :=
 bif x2 == 2 then
 bif decide (gA o17 0 > 0) then
 (Qan [U (IntKind.u64.wrap (gA o14 0 + 1)), B false]).bind fun o20 =>
 some [jA o20 0, B (bA o20 1)]
 else
 bif decide (gA o16 0 > gA o14 0) then
 (Qan [U (IntKind.u64.wrap (gA o14 0 + 1)), B false]).bind fun o21 =>
 some [jA o21 0, B (bA o21 1)]
 else
 (Qan [U (gA o14 0), B false]).bind fun o22 =>
 some [jA o22 0, B (bA o22 1)]
 else
 (Qan [U (gA o14 0), B false]).bind fun o23 =>
 some [jA o23 0, B (bA o23 1)]
attribute [go_sem] g_wide_root_1
theorem mf_wide_root_eq (Qan M_bits_Sub64 Qfb Qc0 : Fn) (x0 x1 x2 : Int) : mf_wide_root Qan M_bits_Sub64 Qfb Qc0 [U x0, U x1, I x2] =
 (Qc0 [U x0, U x1]).bind fun o14 =>
 (Qfb [U (gA o14 0), U (gA o14 0)]).bind fun o15 =>
 (M_bits_Sub64 [U x1, U (gA o15 1), U 0]).bind fun o16 =>
 (M_bits_Sub64 [U x0, U (gA o15 0), U (gA o16 1)]).bind fun o17 =>
 bif x2 == 1 then
 bif decide (gA o17 0 > 0) then
 (Qan [U (IntKind.u64.wrap (gA o14 0 + 1)), B false]).bind fun o18 =>
 some [jA o18 0, B (bA o18 1)]
 else
 bif decide (gA o16 0 > 0) then
 (Qan [U (IntKind.u64.wrap (gA o14 0 + 1)), B false]).bind fun o19 =>
 some [jA o19 0, B (bA o19 1)]
 else
 g_wide_root_1 x2 o17 Qan o14 o16
 else
 g_wide_root_1 x2 o17 Qan o14 o16 := by kernel_rfl
def m_wide_root := mf_wide_root Qdu Qhh Qf1 Qfz 
theorem sp_wide_root : Qak Tryz.prog (C_wide_root_0 Qdu Qhh Qf1 Qfz) := Qae rfl ⟨r_wide_signed, r_bits_Sub64, r_bits_Mul64, r_wide_floorRoot, trivial⟩
theorem r_wide_root : Qbm Tryz.prog (136, spOf sig_wide_root osig_wide_root m_wide_root) := Qa0 (C := (C_wide_root_0 Qdu Qhh Qf1 Qfz)) (L := 64) (by kernel_rfl) (FnOK.bare rfl rfl rfl) sp_wide_root eqOk Qa9 (by kernel_rfl) (by kernel_rfl)
def sig_wide_known : Sk := { tmps := [tf [ci]], boxes := [], rows := [] }
def osig_wide_known : Sk := { tmps := [tf [CS.bool]], boxes := [], rows := [] }
def C_wide_known_0 : Cfg := { spec := Qbx [], eqOk := Qb2, ownOff := ownOff }
def mf_wide_known : Fn := Qax Tryz.prog C_wide_known_0 64 99 sig_wide_known osig_wide_known
theorem mf_wide_known_eq (x0 : Int) : mf_wide_known [I x0] =
 bif x0 == 0 then
 some [B true]
 else
 bif x0 == 1 then
 some [B true]
 else
 some [B (x0 == 2)] := by kernel_rfl
def Qfe := mf_wide_known 
theorem sp_wide_known : Qak Tryz.prog (C_wide_known_0 ) := Qae rfl trivial
theorem r_wide_known : Qbm Tryz.prog (99, spOf sig_wide_known osig_wide_known Qfe) := Qa0 (C := C_wide_known_0) (L := 64) (by kernel_rfl) (FnOK.bare rfl rfl rfl) sp_wide_known eqOk Qa9 (by kernel_rfl) (by kernel_rfl)
def sig_wide_Sqrt : Sk := { tmps := [tf [ci], tf [ci]], boxes := [], rows := [] }
def osig_wide_Sqrt : Sk := { tmps := [TS.tup [(false, [ci]), (false, [CS.bool])]], boxes := [], rows := [] }
def C_wide_Sqrt_0 (M_wide_root Qcy : Fn) : Cfg := { spec := Qbx [(136, spOf sig_wide_root osig_wide_root M_wide_root), (99, spOf sig_wide_known osig_wide_known Qcy)], eqOk := Qb2, ownOff := ownOff }
def mf_wide_Sqrt (M_wide_root Qcy : Fn) : Fn := Qax Tryz.prog (C_wide_Sqrt_0 M_wide_root Qcy) 64 118 sig_wide_Sqrt osig_wide_Sqrt
theorem mf_wide_Sqrt_eq (M_wide_root Qcy : Fn) (x0 x1 : Int) : mf_wide_Sqrt M_wide_root Qcy [I x0, I x1] =
 bif decide (x0 < 0) then
 some [I 0, B false]
 else
 (Qcy [I x1]).bind fun o2 =>
 bif !bA o2 0 then
 some [I 0, B false]
 else
 (M_wide_root [U 0, U (IntKind.u64.wrap x0), I x1]).bind fun o3 =>
 some [jA o3 0, B (bA o3 1)] := by kernel_rfl
def m_wide_Sqrt := mf_wide_Sqrt m_wide_root Qfe 
theorem sp_wide_Sqrt : Qak Tryz.prog (C_wide_Sqrt_0 m_wide_root Qfe) := Qae rfl ⟨r_wide_root, r_wide_known, trivial⟩
theorem r_wide_Sqrt : Qbm Tryz.prog (118, spOf sig_wide_Sqrt osig_wide_Sqrt m_wide_Sqrt) := Qa0 (C := (C_wide_Sqrt_0 m_wide_root Qfe)) (L := 64) (by kernel_rfl) (FnOK.bare rfl rfl rfl) sp_wide_Sqrt eqOk Qa9 (by kernel_rfl) (by kernel_rfl)
def sig_curve_Length : Sk := { tmps := [TS.v true [ci, ci, ci], TS.v true [ci, ci, ci]], boxes := [], rows := [] }
def osig_curve_Length : Sk := { tmps := [tf [ci]], boxes := [], rows := [] }
def C_curve_Length_0 (Qfo : Fn) : Cfg := { spec := Qbx [(118, spOf sig_wide_Sqrt osig_wide_Sqrt Qfo)], eqOk := Qb2, ownOff := ownOff, unroll := [3] }
def mf_curve_Length (Qfo : Fn) : Fn := Qax Tryz.prog (C_curve_Length_0 Qfo) 64 92 sig_curve_Length osig_curve_Length
theorem mf_curve_Length_eq (Qfo : Fn) (x0 x1 x2 x3 x4 x5 : Int) : mf_curve_Length Qfo [I x0, I x1, I x2, I x3, I x4, I x5] =
 (Qfo [I (IntKind.i64.wrap (IntKind.i64.wrap (IntKind.i64.wrap (0 + IntKind.i64.wrap (IntKind.i64.wrap (x0 - x3) * IntKind.i64.wrap (x0 - x3))) + IntKind.i64.wrap (IntKind.i64.wrap (x1 - x4) * IntKind.i64.wrap (x1 - x4))) + IntKind.i64.wrap (IntKind.i64.wrap (x2 - x5) * IntKind.i64.wrap (x2 - x5)))), I 1]).bind fun o1 =>
 some [jA o1 0] := by kernel_rfl
def Qgf := mf_curve_Length m_wide_Sqrt 
theorem sp_curve_Length : Qak Tryz.prog (C_curve_Length_0 m_wide_Sqrt) := Qae rfl ⟨r_wide_Sqrt, trivial⟩
theorem r_curve_Length : Qbm Tryz.prog (92, spOf sig_curve_Length osig_curve_Length Qgf) := Qa0 (C := (C_curve_Length_0 m_wide_Sqrt)) (L := 64) (by kernel_rfl) (FnOK.bare rfl rfl rfl) sp_curve_Length eqOk Qa9 (by kernel_rfl) (by kernel_rfl)
def sig_path_builder_add : Sk := { tmps := [tf [CS.ptr 20000 0], TS.v true [ci, ci, ci], TS.v true [ci, ci, ci, ci, ci, ci, ci]], boxes := [(20000, 108, [ci, ci, ci, CS.own 20000 7, CS.own 20001 3, CS.bool, ci, ci, ci])], rows := [(20000, 78, kSgm), (20001, 80, kPt)] }
def osig_path_builder_add : Sk := { tmps := [TS.tup []], boxes := [(20000, 108, [ci, ci, ci, CS.own 20000 7, CS.own 20001 3, CS.bool, ci, ci, ci])], rows := [(20000, 78, kSgm), (20001, 80, kPt)] }
def C_path_builder_add_0 (Qbu : Fn) : Cfg := { spec := Qbx [(92, spOf sig_curve_Length osig_curve_Length Qbu)], eqOk := Qb2, ownOff := ownOff }
def mf_path_builder_add (Qbu : Fn) : Fn := Qax Tryz.prog (C_path_builder_add_0 Qbu) 64 130 sig_path_builder_add osig_path_builder_add
abbrev g_path_builder_add_1 (x15 : Bool) (x0 x1 : Rw) (x2 x3 x4 x16 x17 x18 x12 x13 x14 : Int) (Qbu : Fn) (x9 x10 x11 : Int) (h1_0 : Bool) (h1_1 h1_2 h1_3 : AC) : Option (List AC) :=
 bif !x15 then
 some [.view kSgm x0, .view kPt x1, I x2, I x3, I x4, B true, I x16, I x17, I x18]
 else
 bif h1_0 then
 some [.view kSgm x0, .view kPt x1, I x12, I x13, I x14, B x15, I x16, I x17, I x18]
 else
 (Qbu [h1_1, h1_2, h1_3, I x2, I x3, I x4]).bind fun o2 =>
 bif ((x0 ++ [[I x2, I x3, I x4, jA o2 0, I x9, I x10, I x11]]).length * 56).ble 140737488355328 then
 some [.view kSgm (x0 ++ [[I x2, I x3, I x4, jA o2 0, I x9, I x10, I x11]]), .view kPt x1, I x12, I x13, I x14, B x15, I (IntKind.i64.wrap (x16 + gA o2 0)), I x17, I x18]
 else
 none
attribute [go_sem] g_path_builder_add_1
theorem mf_path_builder_add_eq (Qbu : Fn) (x0 x1 : Rw) (x2 x3 x4 x5 x6 x7 x8 x9 x10 x11 x12 x13 x14 : Int) (x15 : Bool) (x16 x17 x18 : Int) : mf_path_builder_add Qbu [.view kSgm x0, .view kPt x1, I x2, I x3, I x4, I x5, I x6, I x7, I x8, I x9, I x10, I x11, I x12, I x13, I x14, B x15, I x16, I x17, I x18] =
 bif decide ((x0.length : Int) > 0) then
 bif decide (0 <= IntKind.i64.wrap ((x0.length : Int) - 1)) && decide (IntKind.i64.wrap ((x0.length : Int) - 1) < (x0.length : Int)) then
 g_path_builder_add_1 x15 x0 x1 x2 x3 x4 x16 x17 x18 x12 x13 x14 Qbu x9 x10 x11 (x2 == gA (nth [] x0 (IntKind.i64.wrap ((x0.length : Int) - 1)).toNat) 0 && (x3 == gA (nth [] x0 (IntKind.i64.wrap ((x0.length : Int) - 1)).toNat) 1 && (x4 == gA (nth [] x0 (IntKind.i64.wrap ((x0.length : Int) - 1)).toNat) 2 && true))) (jA (nth [] x0 (IntKind.i64.wrap ((x0.length : Int) - 1)).toNat) 0) (jA (nth [] x0 (IntKind.i64.wrap ((x0.length : Int) - 1)).toNat) 1) (jA (nth [] x0 (IntKind.i64.wrap ((x0.length : Int) - 1)).toNat) 2)
 else
 none
 else
 g_path_builder_add_1 x15 x0 x1 x2 x3 x4 x16 x17 x18 x12 x13 x14 Qbu x9 x10 x11 (x2 == x12 && (x3 == x13 && (x4 == x14 && true))) (I x12) (I x13) (I x14) := by kernel_rfl
def Qgr := mf_path_builder_add Qgf 
theorem sp_path_builder_add : Qak Tryz.prog (C_path_builder_add_0 Qgf) := Qae rfl ⟨r_curve_Length, trivial⟩
theorem r_path_builder_add : Qbm Tryz.prog (130, spOf sig_path_builder_add osig_path_builder_add Qgr) := Qa0 (C := (C_path_builder_add_0 Qgf)) (L := 64) (by kernel_rfl) (FnOK.bare rfl rfl rfl) sp_path_builder_add eqOk Qa9 (by kernel_rfl) (by kernel_rfl)
def sig_path_next : Sk := { tmps := [tf [CS.sl kItm], tf [ci]], boxes := [], rows := [] }
def osig_path_next : Sk := { tmps := [tf [ci]], boxes := [], rows := [] }
def C_path_next_0 : Cfg := { spec := Qbx [], eqOk := Qb2, ownOff := ownOff }
def sk_path_next_2 : Sk := { tmps := [tf [CS.sl kItm], tf [ci]] ++ dd 20, boxes := [], rows := [] }
def ex_path_next_2 : List (Ex × Sk) := [(Ex.exit 0, { tmps := [td, tf [ci]] ++ dd 20, boxes := [], rows := [] })]
def st_path_next_2 : Lp := stepL Tryz.prog C_path_next_0 64 2 (Qf0 Tryz.prog 110 2) sk_path_next_2 ex_path_next_2
def C_path_next_1 (N2 : Lp) : Cfg := C_path_next_0.loop 2 sk_path_next_2 ex_path_next_2 N2
def mf_path_next (N2 : Lp) : Fn := Qax Tryz.prog (C_path_next_1 N2) 64 110 sig_path_next osig_path_next
theorem st_path_next_2_eq (v0 : Rw) (v1 : Int) : st_path_next_2 [.view kItm v0, I v1] =
 bif decide (v1 < (v0.length : Int)) then
 bif decide (0 <= v1) && decide (v1 < (v0.length : Int)) then
 bif gA (nth [] v0 v1.toNat) 0 == 10 then
 some (0, [.view kItm v0, I (IntKind.i64.wrap (v1 + 1))])
 else
 some (1, [I v1])
 else
 none
 else
 some (1, [I v1]) := by kernel_rfl
theorem mf_path_next_eq (N2 : Lp) (x0 : Rw) (x1 : Int) : mf_path_next N2 [.view kItm x0, I x1] =
 (N2 [.view kItm x0, I (IntKind.i64.wrap (x1 + 1))]).bind fun o1 =>
 bif o1.1.beq 1 then
 some [jA o1.2 0]
 else
 none := by kernel_rfl
def l_path_next_2 := Qbl (st_path_next_2 )
def Qe8 := mf_path_next l_path_next_2
theorem sp_path_next : Qak Tryz.prog (C_path_next_0 ) := Qae rfl trivial
theorem r_path_next : Qbm Tryz.prog (110, spOf sig_path_next osig_path_next Qe8) := Qa0 (C := (C_path_next_1 l_path_next_2)) (L := 64) (by kernel_rfl) ((FnOK.bare rfl rfl rfl).loop sp_path_next eqOk Qa9 (by kernel_rfl) (by kernel_rfl)) sp_path_next eqOk Qa9 (by kernel_rfl) (by kernel_rfl)
def sig_path_soft : Sk := { tmps := [tf [CS.sl kItm], tf [ci]], boxes := [], rows := [] }
def osig_path_soft : Sk := { tmps := [tf [CS.bool]], boxes := [], rows := [] }
def C_path_soft_0 (Qau Qbb : Fn) : Cfg := { spec := Qbx [(88, spOf sig_path_smooth Qih Qau), (110, spOf sig_path_next osig_path_next Qbb)], eqOk := Qb2, ownOff := ownOff }
def mf_path_soft (Qau Qbb : Fn) : Fn := Qax Tryz.prog (C_path_soft_0 Qau Qbb) 64 109 sig_path_soft osig_path_soft
theorem mf_path_soft_eq (Qau Qbb : Fn) (x0 : Rw) (x1 : Int) : mf_path_soft Qau Qbb [.view kItm x0, I x1] =
 (Qbb [.view kItm x0, I x1]).bind fun o3 =>
 bif decide (0 <= x1) && decide (x1 < (x0.length : Int)) then
 (Qau [jA (nth [] x0 x1.toNat) 0, jA (nth [] x0 x1.toNat) 1, jA (nth [] x0 x1.toNat) 2, jA (nth [] x0 x1.toNat) 3, jA (nth [] x0 x1.toNat) 4, jA (nth [] x0 x1.toNat) 5, jA (nth [] x0 x1.toNat) 6, jA (nth [] x0 x1.toNat) 7, jA (nth [] x0 x1.toNat) 8, jA (nth [] x0 x1.toNat) 9, jA (nth [] x0 x1.toNat) 10, jA (nth [] x0 x1.toNat) 11, jA (nth [] x0 x1.toNat) 12, B (bA (nth [] x0 x1.toNat) 13), jA (nth [] x0 x1.toNat) 14, B (bA (nth [] x0 x1.toNat) 15), jA (nth [] x0 x1.toNat) 16, jA (nth [] x0 x1.toNat) 17, jA (nth [] x0 x1.toNat) 18, jA (nth [] x0 x1.toNat) 19, jA (nth [] x0 x1.toNat) 20, B (bA (nth [] x0 x1.toNat) 21)]).bind fun o4 =>
 bif bA o4 0 then
 bif decide (0 <= x1) && decide (x1 < (x0.length : Int)) then
 bif gA (nth [] x0 x1.toNat) 18 != 0 then
 bif decide (gA o3 0 < (x0.length : Int)) then
 bif decide (0 <= gA o3 0) && decide (gA o3 0 < (x0.length : Int)) then
 (Qau [jA (nth [] x0 (gA o3 0).toNat) 0, jA (nth [] x0 (gA o3 0).toNat) 1, jA (nth [] x0 (gA o3 0).toNat) 2, jA (nth [] x0 (gA o3 0).toNat) 3, jA (nth [] x0 (gA o3 0).toNat) 4, jA (nth [] x0 (gA o3 0).toNat) 5, jA (nth [] x0 (gA o3 0).toNat) 6, jA (nth [] x0 (gA o3 0).toNat) 7, jA (nth [] x0 (gA o3 0).toNat) 8, jA (nth [] x0 (gA o3 0).toNat) 9, jA (nth [] x0 (gA o3 0).toNat) 10, jA (nth [] x0 (gA o3 0).toNat) 11, jA (nth [] x0 (gA o3 0).toNat) 12, B (bA (nth [] x0 (gA o3 0).toNat) 13), jA (nth [] x0 (gA o3 0).toNat) 14, B (bA (nth [] x0 (gA o3 0).toNat) 15), jA (nth [] x0 (gA o3 0).toNat) 16, jA (nth [] x0 (gA o3 0).toNat) 17, jA (nth [] x0 (gA o3 0).toNat) 18, jA (nth [] x0 (gA o3 0).toNat) 19, jA (nth [] x0 (gA o3 0).toNat) 20, B (bA (nth [] x0 (gA o3 0).toNat) 21)]).bind fun o5 =>
 some [B (bA o5 0)]
 else
 none
 else
 some [B false]
 else
 some [B false]
 else
 none
 else
 some [B false]
 else
 none := by kernel_rfl
def Qgs := mf_path_soft Qc5 Qe8 
theorem sp_path_soft : Qak Tryz.prog (C_path_soft_0 Qc5 Qe8) := Qae rfl ⟨r_path_smooth, r_path_next, trivial⟩
theorem r_path_soft : Qbm Tryz.prog (109, spOf sig_path_soft osig_path_soft Qgs) := Qa0 (C := (C_path_soft_0 Qc5 Qe8)) (L := 64) (by kernel_rfl) (FnOK.bare rfl rfl rfl) sp_path_soft eqOk Qa9 (by kernel_rfl) (by kernel_rfl)
def sig_wide_grows : Sk := { tmps := [tf [ci], tf [ci], tf [CS.bool], tf [CS.bool]], boxes := [], rows := [] }
def osig_wide_grows : Sk := { tmps := [tf [CS.bool]], boxes := [], rows := [] }
def C_wide_grows_0 : Cfg := { spec := Qbx [], eqOk := Qb2, ownOff := ownOff }
def mf_wide_grows : Fn := Qax Tryz.prog C_wide_grows_0 64 104 sig_wide_grows osig_wide_grows
theorem mf_wide_grows_eq (x0 x1 : Int) (x2 x3 : Bool) : mf_wide_grows [I x0, I x1, B x2, B x3] =
 bif x0 == 0 then
 bif x2 then
 some [B x3]
 else
 some [B false]
 else
 bif x0 == 1 then
 bif x2 then
 some [B !x3]
 else
 some [B false]
 else
 bif decide (x1 > 0) then
 some [B true]
 else
 bif x1 == 0 then
 some [B !x3]
 else
 some [B false] := by kernel_rfl
def Qhj := mf_wide_grows 
theorem sp_wide_grows : Qak Tryz.prog (C_wide_grows_0 ) := Qae rfl trivial
theorem r_wide_grows : Qbm Tryz.prog (104, spOf sig_wide_grows osig_wide_grows Qhj) := Qa0 (C := C_wide_grows_0) (L := 64) (by kernel_rfl) (FnOK.bare rfl rfl rfl) sp_wide_grows eqOk Qa9 (by kernel_rfl) (by kernel_rfl)
def sig_wide_sign : Sk := { tmps := [tf [ci], tf [ci]], boxes := [], rows := [] }
def osig_wide_sign : Sk := { tmps := [tf [ci]], boxes := [], rows := [] }
def C_wide_sign_0 : Cfg := { spec := Qbx [], eqOk := Qb2, ownOff := ownOff }
def mf_wide_sign : Fn := Qax Tryz.prog C_wide_sign_0 64 103 sig_wide_sign osig_wide_sign
theorem mf_wide_sign_eq (x0 x1 : Int) : mf_wide_sign [I x0, I x1] =
 bif x0 == 0 then
 some [I 0]
 else
 bif x1 == 0 then
 some [I 0]
 else
 bif decide (x0 < 0) == decide (x1 < 0) then
 some [I 1]
 else
 some [I (-1)] := by kernel_rfl
def Qf8 := mf_wide_sign 
theorem sp_wide_sign : Qak Tryz.prog (C_wide_sign_0 ) := Qae rfl trivial
theorem r_wide_sign : Qbm Tryz.prog (103, spOf sig_wide_sign osig_wide_sign Qf8) := Qa0 (C := C_wide_sign_0) (L := 64) (by kernel_rfl) (FnOK.bare rfl rfl rfl) sp_wide_sign eqOk Qa9 (by kernel_rfl) (by kernel_rfl)
def sig_bits_Div64 : Sk := { tmps := [tf [CS.int .u64], tf [CS.int .u64], tf [CS.int .u64]], boxes := [], rows := [] }
def osig_bits_Div64 : Sk := { tmps := [TS.tup [(false, [CS.int .u64]), (false, [CS.int .u64])]], boxes := [], rows := [] }
def C_bits_Div64_0 (Qay : Fn) : Cfg := { spec := Qbx [(122, spOf Qhc Qgk Qay)], eqOk := Qb2, ownOff := ownOff }
def sk_bits_Div64_17 : Sk := { tmps := [td, td, tf [CS.int .u64], td, td, td, td, td, tf [CS.int .u64], tf [CS.int .u64], tf [CS.int .u64], tf [CS.int .u64], td, tf [CS.int .u64], tf [CS.int .u64], tf [CS.int .u64], tf [CS.int .u64]] ++ dd 118, boxes := [], rows := [] }
def ex_bits_Div64_17 : List (Ex × Sk) := [(Ex.exit 0, { tmps := [td, td, tf [CS.int .u64], td, td, td, td, td, tf [CS.int .u64], tf [CS.int .u64], tf [CS.int .u64], tf [CS.int .u64], td, tf [CS.int .u64], tf [CS.int .u64], tf [CS.int .u64]] ++ dd 119, boxes := [], rows := [] })]
def Qgu (Qay : Fn) : Lp := stepL Tryz.prog (C_bits_Div64_0 Qay) 64 17 (Qf0 Tryz.prog 102 17) sk_bits_Div64_17 ex_bits_Div64_17
def C_bits_Div64_1 (Qay : Fn) (N17 : Lp) : Cfg := (C_bits_Div64_0 Qay).loop 17 sk_bits_Div64_17 ex_bits_Div64_17 N17
def sk_bits_Div64_24 : Sk := { tmps := [td, td, tf [CS.int .u64], td, td, td, td, td, tf [CS.int .u64], tf [CS.int .u64], tf [CS.int .u64], td, td, td, tf [CS.int .u64], tf [CS.int .u64], tf [CS.int .u64], tf [CS.int .u64], tf [CS.int .u64]] ++ dd 116, boxes := [], rows := [] }
def ex_bits_Div64_24 : List (Ex × Sk) := [(Ex.exit 2, { tmps := [td, td, tf [CS.int .u64], td, td, td, td, td, tf [CS.int .u64], td, td, td, td, td, tf [CS.int .u64], tf [CS.int .u64], td, tf [CS.int .u64], tf [CS.int .u64]] ++ dd 116, boxes := [], rows := [] })]
def st_bits_Div64_24 (Qay : Fn) (N17 : Lp) : Lp := stepL Tryz.prog (C_bits_Div64_1 Qay N17) 64 24 (Qf0 Tryz.prog 102 24) sk_bits_Div64_24 ex_bits_Div64_24
def C_bits_Div64_2 (Qay : Fn) (N17 N24 : Lp) : Cfg := (C_bits_Div64_1 Qay N17).loop 24 sk_bits_Div64_24 ex_bits_Div64_24 N24
def mf_bits_Div64 (Qay : Fn) (N17 N24 : Lp) : Fn := Qax Tryz.prog (C_bits_Div64_2 Qay N17 N24) 64 102 sig_bits_Div64 osig_bits_Div64
theorem st_bits_Div64_17_eq (Qay : Fn) (v0 v1 v2 v3 v4 v5 v6 v7 v8 : Int) : Qgu Qay [U v0, U v1, U v2, U v3, U v4, U v5, U v6, U v7, U v8] =
 bif decide (v7 >= 4294967296) then
 bif decide (IntKind.u64.wrap (v8 + v2) >= 4294967296) then
 some (1, [U v0, U v1, U v2, U v3, U v4, U v5, U v6, U (IntKind.u64.wrap (v7 - 1))])
 else
 some (0, [U v0, U v1, U v2, U v3, U v4, U v5, U v6, U (IntKind.u64.wrap (v7 - 1)), U (IntKind.u64.wrap (v8 + v2))])
 else
 bif decide (IntKind.u64.wrap (v7 * v3) > IntKind.u64.wrap (IntKind.u64.wrap (4294967296 * v8) + v5)) then
 bif decide (IntKind.u64.wrap (v8 + v2) >= 4294967296) then
 some (1, [U v0, U v1, U v2, U v3, U v4, U v5, U v6, U (IntKind.u64.wrap (v7 - 1))])
 else
 some (0, [U v0, U v1, U v2, U v3, U v4, U v5, U v6, U (IntKind.u64.wrap (v7 - 1)), U (IntKind.u64.wrap (v8 + v2))])
 else
 some (1, [U v0, U v1, U v2, U v3, U v4, U v5, U v6, U v7]) := by kernel_rfl
theorem st_bits_Div64_24_eq (Qay : Fn) (N17 : Lp) (v0 v1 v2 v3 v4 v5 v6 v7 v8 : Int) : st_bits_Div64_24 Qay N17 [U v0, U v1, U v2, U v3, U v4, U v5, U v6, U v7, U v8] =
 bif decide (v8 >= 4294967296) then
 bif decide (IntKind.u64.wrap (v6 + v2) >= 4294967296) then
 some (1, [U v0, U v1, U v4, U v5, U v7, U (IntKind.u64.wrap (v8 - 1))])
 else
 some (0, [U v0, U v1, U v2, U v3, U v4, U v5, U (IntKind.u64.wrap (v6 + v2)), U v7, U (IntKind.u64.wrap (v8 - 1))])
 else
 bif decide (IntKind.u64.wrap (v8 * v3) > IntKind.u64.wrap (IntKind.u64.wrap (4294967296 * v6) + v4)) then
 bif decide (IntKind.u64.wrap (v6 + v2) >= 4294967296) then
 some (1, [U v0, U v1, U v4, U v5, U v7, U (IntKind.u64.wrap (v8 - 1))])
 else
 some (0, [U v0, U v1, U v2, U v3, U v4, U v5, U (IntKind.u64.wrap (v6 + v2)), U v7, U (IntKind.u64.wrap (v8 - 1))])
 else
 some (1, [U v0, U v1, U v4, U v5, U v7, U v8]) := by kernel_rfl
theorem mf_bits_Div64_eq (Qay : Fn) (N17 N24 : Lp) (x0 x1 x2 : Int) : mf_bits_Div64 Qay N17 N24 [U x0, U x1, U x2] =
 bif x2 == 0 then
 none
 else
 bif decide (x2 <= x0) then
 none
 else
 bif x0 == 0 then
 bif decide (x2 = 0) then
 none
 else
 bif decide (x2 = 0) then
 none
 else
 some [U (IntKind.u64.wrap (x1.tdiv x2)), U (x1.tmod x2)]
 else
 (Qay [U x2]).bind fun o6 =>
 bif decide (IntKind.u64.wrap (gA o6 0) < 0) then
 none
 else
 bif decide (IntKind.u64.wrap (gA o6 0) < 0) then
 none
 else
 bif decide (IntKind.u64.wrap (64 - IntKind.u64.wrap (gA o6 0)) < 0) then
 none
 else
 bif decide (IntKind.u64.wrap (gA o6 0) < 0) then
 none
 else
 bif decide ((IntKind.u64.wrap (x2 * 2 ^ min (IntKind.u64.wrap (gA o6 0)).toNat IntKind.u64.bits)).fdiv (2 ^ min (Int.toNat 32) IntKind.u64.bits) = 0) then
 none
 else
 (N17 [U (IntKind.u64.wrap (x2 * 2 ^ min (IntKind.u64.wrap (gA o6 0)).toNat IntKind.u64.bits)), U (IntKind.u64.wrap (gA o6 0)), U ((IntKind.u64.wrap (x2 * 2 ^ min (IntKind.u64.wrap (gA o6 0)).toNat IntKind.u64.bits)).fdiv (2 ^ min (Int.toNat 32) IntKind.u64.bits)), U (IntKind.u64.wrap (↑(BitVec.ofInt IntKind.u64.bits (IntKind.u64.wrap (x2 * 2 ^ min (IntKind.u64.wrap (gA o6 0)).toNat IntKind.u64.bits)) &&& BitVec.ofInt IntKind.u64.bits 4294967295).toNat : Int)), U (IntKind.u64.wrap (↑(BitVec.ofInt IntKind.u64.bits (IntKind.u64.wrap (x0 * 2 ^ min (IntKind.u64.wrap (gA o6 0)).toNat IntKind.u64.bits)) ||| BitVec.ofInt IntKind.u64.bits (x1.fdiv (2 ^ min (IntKind.u64.wrap (64 - IntKind.u64.wrap (gA o6 0))).toNat IntKind.u64.bits))).toNat : Int)), U ((IntKind.u64.wrap (x1 * 2 ^ min (IntKind.u64.wrap (gA o6 0)).toNat IntKind.u64.bits)).fdiv (2 ^ min (Int.toNat 32) IntKind.u64.bits)), U (IntKind.u64.wrap (↑(BitVec.ofInt IntKind.u64.bits (IntKind.u64.wrap (x1 * 2 ^ min (IntKind.u64.wrap (gA o6 0)).toNat IntKind.u64.bits)) &&& BitVec.ofInt IntKind.u64.bits 4294967295).toNat : Int)), U (IntKind.u64.wrap ((IntKind.u64.wrap (↑(BitVec.ofInt IntKind.u64.bits (IntKind.u64.wrap (x0 * 2 ^ min (IntKind.u64.wrap (gA o6 0)).toNat IntKind.u64.bits)) ||| BitVec.ofInt IntKind.u64.bits (x1.fdiv (2 ^ min (IntKind.u64.wrap (64 - IntKind.u64.wrap (gA o6 0))).toNat IntKind.u64.bits))).toNat : Int)).tdiv ((IntKind.u64.wrap (x2 * 2 ^ min (IntKind.u64.wrap (gA o6 0)).toNat IntKind.u64.bits)).fdiv (2 ^ min (Int.toNat 32) IntKind.u64.bits)))), U (IntKind.u64.wrap (IntKind.u64.wrap (↑(BitVec.ofInt IntKind.u64.bits (IntKind.u64.wrap (x0 * 2 ^ min (IntKind.u64.wrap (gA o6 0)).toNat IntKind.u64.bits)) ||| BitVec.ofInt IntKind.u64.bits (x1.fdiv (2 ^ min (IntKind.u64.wrap (64 - IntKind.u64.wrap (gA o6 0))).toNat IntKind.u64.bits))).toNat : Int) - IntKind.u64.wrap (IntKind.u64.wrap ((IntKind.u64.wrap (↑(BitVec.ofInt IntKind.u64.bits (IntKind.u64.wrap (x0 * 2 ^ min (IntKind.u64.wrap (gA o6 0)).toNat IntKind.u64.bits)) ||| BitVec.ofInt IntKind.u64.bits (x1.fdiv (2 ^ min (IntKind.u64.wrap (64 - IntKind.u64.wrap (gA o6 0))).toNat IntKind.u64.bits))).toNat : Int)).tdiv ((IntKind.u64.wrap (x2 * 2 ^ min (IntKind.u64.wrap (gA o6 0)).toNat IntKind.u64.bits)).fdiv (2 ^ min (Int.toNat 32) IntKind.u64.bits))) * (IntKind.u64.wrap (x2 * 2 ^ min (IntKind.u64.wrap (gA o6 0)).toNat IntKind.u64.bits)).fdiv (2 ^ min (Int.toNat 32) IntKind.u64.bits))))]).bind fun o7 =>
 bif o7.1.beq 1 then
 bif decide (gA o7.2 2 = 0) then
 none
 else
 (N24 [U (gA o7.2 0), U (gA o7.2 1), U (gA o7.2 2), U (gA o7.2 3), U (gA o7.2 6), U (gA o7.2 7), U (IntKind.u64.wrap (IntKind.u64.wrap (IntKind.u64.wrap (IntKind.u64.wrap (gA o7.2 4 * 4294967296) + gA o7.2 5) - IntKind.u64.wrap (gA o7.2 7 * gA o7.2 0)) - IntKind.u64.wrap (IntKind.u64.wrap ((IntKind.u64.wrap (IntKind.u64.wrap (IntKind.u64.wrap (gA o7.2 4 * 4294967296) + gA o7.2 5) - IntKind.u64.wrap (gA o7.2 7 * gA o7.2 0))).tdiv (gA o7.2 2)) * gA o7.2 2))), U (IntKind.u64.wrap (IntKind.u64.wrap (IntKind.u64.wrap (gA o7.2 4 * 4294967296) + gA o7.2 5) - IntKind.u64.wrap (gA o7.2 7 * gA o7.2 0))), U (IntKind.u64.wrap ((IntKind.u64.wrap (IntKind.u64.wrap (IntKind.u64.wrap (gA o7.2 4 * 4294967296) + gA o7.2 5) - IntKind.u64.wrap (gA o7.2 7 * gA o7.2 0))).tdiv (gA o7.2 2)))]).bind fun o8 =>
 bif o8.1.beq 1 then
 bif decide (gA o8.2 1 < 0) then
 none
 else
 some [U (IntKind.u64.wrap (IntKind.u64.wrap (gA o8.2 3 * 4294967296) + gA o8.2 5)), U ((IntKind.u64.wrap (IntKind.u64.wrap (IntKind.u64.wrap (gA o8.2 4 * 4294967296) + gA o8.2 2) - IntKind.u64.wrap (gA o8.2 5 * gA o8.2 0))).fdiv (2 ^ min (gA o8.2 1).toNat IntKind.u64.bits))]
 else
 none
 else
 none := by kernel_rfl
def l_bits_Div64_17 := Qbl (Qgu Qce )
def l_bits_Div64_24 := Qbl (st_bits_Div64_24 Qce l_bits_Div64_17)
def Qf2 := mf_bits_Div64 Qce l_bits_Div64_17 l_bits_Div64_24
theorem sp_bits_Div64 : Qak Tryz.prog (C_bits_Div64_0 Qce) := Qae rfl ⟨r_bits_LeadingZeros64, trivial⟩
theorem r_bits_Div64 : Qbm Tryz.prog (102, spOf sig_bits_Div64 osig_bits_Div64 Qf2) := Qa0 (C := (C_bits_Div64_2 Qce l_bits_Div64_17 l_bits_Div64_24)) (L := 64) (by kernel_rfl) (((FnOK.bare rfl rfl rfl).loop sp_bits_Div64 eqOk Qa9 (by kernel_rfl) (by kernel_rfl)).loop sp_bits_Div64 eqOk Qa9 (by kernel_rfl) (by kernel_rfl)) sp_bits_Div64 eqOk Qa9 (by kernel_rfl) (by kernel_rfl)
def sig_wide_size : Sk := { tmps := [tf [ci]], boxes := [], rows := [] }
def osig_wide_size : Sk := { tmps := [tf [CS.int .u64]], boxes := [], rows := [] }
def C_wide_size_0 : Cfg := { spec := Qbx [], eqOk := Qb2, ownOff := ownOff }
def mf_wide_size : Fn := Qax Tryz.prog C_wide_size_0 64 101 sig_wide_size osig_wide_size
theorem mf_wide_size_eq (x0 : Int) : mf_wide_size [I x0] =
 bif decide (x0 < 0) then
 some [U (IntKind.u64.wrap (IntKind.u64.wrap (IntKind.i64.wrap (0 - IntKind.i64.wrap (x0 + 1))) + 1))]
 else
 some [U (IntKind.u64.wrap x0)] := by kernel_rfl
def Qga := mf_wide_size 
theorem sp_wide_size : Qak Tryz.prog (C_wide_size_0 ) := Qae rfl trivial
theorem r_wide_size : Qbm Tryz.prog (101, spOf sig_wide_size osig_wide_size Qga) := Qa0 (C := C_wide_size_0) (L := 64) (by kernel_rfl) (FnOK.bare rfl rfl rfl) sp_wide_size eqOk Qa9 (by kernel_rfl) (by kernel_rfl)
def sig_wide_MulDiv : Sk := { tmps := [tf [ci], tf [ci], tf [ci], tf [ci]], boxes := [], rows := [] }
def osig_wide_MulDiv : Sk := { tmps := [TS.tup [(false, [ci]), (false, [CS.bool])]], boxes := [], rows := [] }
def C_wide_MulDiv_0 (Qan Qb4 Qcw Qeu Qaw Qcf Qcy : Fn) : Cfg := { spec := Qbx [(105, spOf sig_wide_signed osig_wide_signed Qan), (104, spOf sig_wide_grows osig_wide_grows Qb4), (103, spOf sig_wide_sign osig_wide_sign Qcw), (102, spOf sig_bits_Div64 osig_bits_Div64 Qeu), (100, spOf Qio Qhu Qaw), (101, spOf sig_wide_size osig_wide_size Qcf), (99, spOf sig_wide_known osig_wide_known Qcy)], eqOk := Qb2, ownOff := ownOff }
def mf_wide_MulDiv (Qan Qb4 Qcw Qeu Qaw Qcf Qcy : Fn) : Fn := Qax Tryz.prog (C_wide_MulDiv_0 Qan Qb4 Qcw Qeu Qaw Qcf Qcy) 64 70 sig_wide_MulDiv osig_wide_MulDiv
abbrev g_wide_MulDiv_1 (Qb4 : Fn) (x3 : Int) (o31 : List AC) (Qan : Fn) (h1_0 h1_1 : AC) : Option (List AC) :=
 (Qb4 [I x3, h1_0, B (decide (gA o31 1 > 0)), h1_1]).bind fun o34 =>
 bif bA o34 0 then
 bif IntKind.u64.wrap (gA o31 0 + 1) == 0 then
 some [I 0, B false]
 else
 (Qan [U (IntKind.u64.wrap (gA o31 0 + 1)), h1_1]).bind fun o35 =>
 some [jA o35 0, B (bA o35 1)]
 else
 (Qan [U (gA o31 0), h1_1]).bind fun o36 =>
 some [jA o36 0, B (bA o36 1)]
attribute [go_sem] g_wide_MulDiv_1
abbrev g_wide_MulDiv_2 (o31 o30 : List AC) (Qb4 : Fn) (x3 : Int) (Qan : Fn) (h2_0 : AC) : Option (List AC) :=
 bif decide (gA o31 1 > IntKind.u64.wrap (gA o30 0 - gA o31 1)) then
 g_wide_MulDiv_1 Qb4 x3 o31 Qan (I 1) h2_0
 else
 bif decide (gA o31 1 < IntKind.u64.wrap (gA o30 0 - gA o31 1)) then
 g_wide_MulDiv_1 Qb4 x3 o31 Qan (I (-1)) h2_0
 else
 g_wide_MulDiv_1 Qb4 x3 o31 Qan (I 0) h2_0
attribute [go_sem] g_wide_MulDiv_2
theorem mf_wide_MulDiv_eq (Qan Qb4 Qcw Qeu Qaw Qcf Qcy : Fn) (x0 x1 x2 x3 : Int) : mf_wide_MulDiv Qan Qb4 Qcw Qeu Qaw Qcf Qcy [I x0, I x1, I x2, I x3] =
 bif x2 == 0 then
 some [I 0, B false]
 else
 (Qcy [I x3]).bind fun o26 =>
 bif !bA o26 0 then
 some [I 0, B false]
 else
 (Qcf [I x0]).bind fun o27 =>
 (Qcf [I x1]).bind fun o28 =>
 (Qaw [U (gA o27 0), U (gA o28 0)]).bind fun o29 =>
 (Qcf [I x2]).bind fun o30 =>
 bif decide (gA o29 0 >= gA o30 0) then
 some [I 0, B false]
 else
 (Qeu [U (gA o29 0), U (gA o29 1), U (gA o30 0)]).bind fun o31 =>
 (Qcw [I x0, I x1]).bind fun o32 =>
 bif !decide (gA o32 0 < 0) == decide (x2 < 0) then
 (Qcw [I x0, I x1]).bind fun o33 =>
 g_wide_MulDiv_2 o31 o30 Qb4 x3 Qan (B (gA o33 0 != 0))
 else
 g_wide_MulDiv_2 o31 o30 Qb4 x3 Qan (B false) := by kernel_rfl
def Qeq := mf_wide_MulDiv Qdu Qhj Qf8 Qf2 Qcq Qga Qfe 
theorem sp_wide_MulDiv : Qak Tryz.prog (C_wide_MulDiv_0 Qdu Qhj Qf8 Qf2 Qcq Qga Qfe) := Qae rfl ⟨r_wide_signed, r_wide_grows, r_wide_sign, r_bits_Div64, r_wide_product, r_wide_size, r_wide_known, trivial⟩
theorem r_wide_MulDiv : Qbm Tryz.prog (70, spOf sig_wide_MulDiv osig_wide_MulDiv Qeq) := Qa0 (C := (C_wide_MulDiv_0 Qdu Qhj Qf8 Qf2 Qcq Qga Qfe)) (L := 64) (by kernel_rfl) (FnOK.bare rfl rfl rfl) sp_wide_MulDiv eqOk Qa9 (by kernel_rfl) (by kernel_rfl)
def sig_blend_bend : Sk := { tmps := [TS.v true [ci, ci, ci], TS.v true [ci, ci, ci], TS.v true [ci, ci, ci]], boxes := [], rows := [] }
def osig_blend_bend : Sk := { tmps := [tf [ci]], boxes := [], rows := [] }
def C_blend_bend_0 : Cfg := { spec := Qbx [], eqOk := Qb2, ownOff := ownOff, unroll := [3] }
def mf_blend_bend : Fn := Qax Tryz.prog C_blend_bend_0 64 189 sig_blend_bend osig_blend_bend
theorem mf_blend_bend_eq (x0 x1 x2 x3 x4 x5 x6 x7 x8 : Int) : mf_blend_bend [I x0, I x1, I x2, I x3, I x4, I x5, I x6, I x7, I x8] =
 some [I (IntKind.i64.wrap (IntKind.i64.wrap (IntKind.i64.wrap (0 + IntKind.i64.wrap (IntKind.i64.wrap (IntKind.i64.wrap (x0 + x6) - IntKind.i64.wrap (2 * x3)) * IntKind.i64.wrap (IntKind.i64.wrap (x0 + x6) - IntKind.i64.wrap (2 * x3)))) + IntKind.i64.wrap (IntKind.i64.wrap (IntKind.i64.wrap (x1 + x7) - IntKind.i64.wrap (2 * x4)) * IntKind.i64.wrap (IntKind.i64.wrap (x1 + x7) - IntKind.i64.wrap (2 * x4)))) + IntKind.i64.wrap (IntKind.i64.wrap (IntKind.i64.wrap (x2 + x8) - IntKind.i64.wrap (2 * x5)) * IntKind.i64.wrap (IntKind.i64.wrap (x2 + x8) - IntKind.i64.wrap (2 * x5)))))] := by kernel_rfl
def Qf3 := mf_blend_bend 
theorem sp_blend_bend : Qak Tryz.prog (C_blend_bend_0 ) := Qae rfl trivial
theorem r_blend_bend : Qbm Tryz.prog (189, spOf sig_blend_bend osig_blend_bend Qf3) := Qa0 (C := C_blend_bend_0) (L := 64) (by kernel_rfl) (FnOK.bare rfl rfl rfl) sp_blend_bend eqOk Qa9 (by kernel_rfl) (by kernel_rfl)
def sig_blend_Pieces : Sk := { tmps := [TS.v true [ci, ci, ci], TS.v true [ci, ci, ci], TS.v true [ci, ci, ci]], boxes := [], rows := [] }
def osig_blend_Pieces : Sk := { tmps := [tf [ci]], boxes := [], rows := [] }
def C_blend_Pieces_0 (Qcd : Fn) : Cfg := { spec := Qbx [(189, spOf sig_blend_bend osig_blend_bend Qcd)], eqOk := Qb2, ownOff := ownOff }
def sk_blend_Pieces_2 : Sk := { tmps := [td, td, td, tf [CS.ptr 3 0], tf [CS.ptr 4 0], tf [CS.ptr 5 0], td, tf [ci]] ++ dd 22, boxes := [(3, 25, [ci, ci, ci]), (4, 25, [ci, ci, ci]), (5, 25, [ci, ci, ci])], rows := [] }
def ex_blend_Pieces_2 : List (Ex × Sk) := [(Ex.exit 0, { tmps := [td, td, td, td, td, td, td, tf [ci]] ++ dd 22, boxes := [], rows := [] })]
def st_blend_Pieces_2 (Qcd : Fn) : Lp := stepL Tryz.prog (C_blend_Pieces_0 Qcd) 64 2 (Qf0 Tryz.prog 178 2) sk_blend_Pieces_2 ex_blend_Pieces_2
def C_blend_Pieces_1 (Qcd : Fn) (N2 : Lp) : Cfg := (C_blend_Pieces_0 Qcd).loop 2 sk_blend_Pieces_2 ex_blend_Pieces_2 N2
def mf_blend_Pieces (Qcd : Fn) (N2 : Lp) : Fn := Qax Tryz.prog (C_blend_Pieces_1 Qcd N2) 64 178 sig_blend_Pieces osig_blend_Pieces
theorem st_blend_Pieces_2_eq (Qcd : Fn) (v0 v1 v2 v3 v4 v5 v6 v7 v8 v9 : Int) : st_blend_Pieces_2 Qcd [I v0, I v1, I v2, I v3, I v4, I v5, I v6, I v7, I v8, I v9] =
 bif decide (v0 < 64) then
 (Qcd [I v1, I v2, I v3, I v4, I v5, I v6, I v7, I v8, I v9]).bind fun o2 =>
 bif decide (gA o2 0 > IntKind.i64.wrap (IntKind.i64.wrap (IntKind.i64.wrap (IntKind.i64.wrap (IntKind.i64.wrap (IntKind.i64.wrap (16 * v0) * v0) * v0) * v0) * 4) * 4)) then
 some (0, [I (IntKind.i64.wrap (v0 * 2)), I v1, I v2, I v3, I v4, I v5, I v6, I v7, I v8, I v9])
 else
 some (1, [I v0])
 else
 some (1, [I v0]) := by kernel_rfl
theorem mf_blend_Pieces_eq (Qcd : Fn) (N2 : Lp) (x0 x1 x2 x3 x4 x5 x6 x7 x8 : Int) : mf_blend_Pieces Qcd N2 [I x0, I x1, I x2, I x3, I x4, I x5, I x6, I x7, I x8] =
 (N2 [I 2, I x0, I x1, I x2, I x3, I x4, I x5, I x6, I x7, I x8]).bind fun o3 =>
 bif o3.1.beq 1 then
 some [jA o3.2 0]
 else
 none := by kernel_rfl
def l_blend_Pieces_2 := Qbl (st_blend_Pieces_2 Qf3 )
def Qhk := mf_blend_Pieces Qf3 l_blend_Pieces_2
theorem sp_blend_Pieces : Qak Tryz.prog (C_blend_Pieces_0 Qf3) := Qae rfl ⟨r_blend_bend, trivial⟩
theorem r_blend_Pieces : Qbm Tryz.prog (178, spOf sig_blend_Pieces osig_blend_Pieces Qhk) := Qa0 (C := (C_blend_Pieces_1 Qf3 l_blend_Pieces_2)) (L := 64) (by kernel_rfl) ((FnOK.bare rfl rfl rfl).loop sp_blend_Pieces eqOk Qa9 (by kernel_rfl) (by kernel_rfl)) sp_blend_Pieces eqOk Qa9 (by kernel_rfl) (by kernel_rfl)
def sig_wide_quotient : Sk := { tmps := [TS.v true [CS.int .u64, CS.int .u64], tf [CS.int .u64]], boxes := [], rows := [] }
def osig_wide_quotient : Sk := { tmps := [TS.tup [(true, [CS.int .u64, CS.int .u64]), (false, [CS.bool])]], boxes := [], rows := [] }
def C_wide_quotient_0 (Qeu : Fn) : Cfg := { spec := Qbx [(102, spOf sig_bits_Div64 osig_bits_Div64 Qeu)], eqOk := Qb2, ownOff := ownOff }
def mf_wide_quotient (Qeu : Fn) : Fn := Qax Tryz.prog (C_wide_quotient_0 Qeu) 64 194 sig_wide_quotient osig_wide_quotient
theorem mf_wide_quotient_eq (Qeu : Fn) (x0 x1 x2 : Int) : mf_wide_quotient Qeu [U x0, U x1, U x2] =
 (Qeu [U 0, U x0, U x2]).bind fun o2 =>
 (Qeu [U (gA o2 1), U x1, U x2]).bind fun o3 =>
 some [U (gA o2 0), U (gA o3 0), B (decide (gA o3 1 > 0))] := by kernel_rfl
def m_wide_quotient := mf_wide_quotient Qf2 
theorem sp_wide_quotient : Qak Tryz.prog (C_wide_quotient_0 Qf2) := Qae rfl ⟨r_bits_Div64, trivial⟩
theorem r_wide_quotient : Qbm Tryz.prog (194, spOf sig_wide_quotient osig_wide_quotient m_wide_quotient) := Qa0 (C := (C_wide_quotient_0 Qf2)) (L := 64) (by kernel_rfl) (FnOK.bare rfl rfl rfl) sp_wide_quotient eqOk Qa9 (by kernel_rfl) (by kernel_rfl)
def sig_wide_Over : Sk := { tmps := [tf [ci], tf [ci], tf [ci], tf [ci]], boxes := [], rows := [] }
def osig_wide_Over : Sk := { tmps := [TS.tup [(false, [ci]), (false, [CS.bool])]], boxes := [], rows := [] }
def C_wide_Over_0 (Qan Qb4 Qcw Qc0 M_wide_quotient Qaw Qcy Qcf : Fn) : Cfg := { spec := Qbx [(105, spOf sig_wide_signed osig_wide_signed Qan), (104, spOf sig_wide_grows osig_wide_grows Qb4), (103, spOf sig_wide_sign osig_wide_sign Qcw), (156, spOf sig_wide_floorRoot osig_wide_floorRoot Qc0), (194, spOf sig_wide_quotient osig_wide_quotient M_wide_quotient), (100, spOf Qio Qhu Qaw), (99, spOf sig_wide_known osig_wide_known Qcy), (101, spOf sig_wide_size osig_wide_size Qcf)], eqOk := Qb2, ownOff := ownOff }
def mf_wide_Over (Qan Qb4 Qcw Qc0 M_wide_quotient Qaw Qcy Qcf : Fn) : Fn := Qax Tryz.prog (C_wide_Over_0 Qan Qb4 Qcw Qc0 M_wide_quotient Qaw Qcy Qcf) 64 190 sig_wide_Over osig_wide_Over
abbrev g_wide_Over_1 (Qb4 : Fn) (x3 : Int) (Qan : Fn) (o42 : List AC) (h1_0 : Bool) (h1_1 h1_2 h1_3 h1_4 : AC) : Option (List AC) :=
 bif h1_0 then
 (Qb4 [I x3, h1_1, B true, h1_2]).bind fun o44 =>
 bif bA o44 0 then
 (Qan [U (IntKind.u64.wrap (IntKind.u64.wrap ((gA o42 0).tdiv 2) + 1)), h1_2]).bind fun o45 =>
 some [jA o45 0, B (bA o45 1)]
 else
 (Qan [U (IntKind.u64.wrap ((gA o42 0).tdiv 2)), h1_2]).bind fun o46 =>
 some [jA o46 0, B (bA o46 1)]
 else
 (Qb4 [I x3, h1_3, h1_4, h1_2]).bind fun o47 =>
 bif bA o47 0 then
 (Qan [U (IntKind.u64.wrap (IntKind.u64.wrap ((gA o42 0).tdiv 2) + 1)), h1_2]).bind fun o48 =>
 some [jA o48 0, B (bA o48 1)]
 else
 (Qan [U (IntKind.u64.wrap ((gA o42 0).tdiv 2)), h1_2]).bind fun o49 =>
 some [jA o49 0, B (bA o49 1)]
attribute [go_sem] g_wide_Over_1
theorem mf_wide_Over_eq (Qan Qb4 Qcw Qc0 M_wide_quotient Qaw Qcy Qcf : Fn) (x0 x1 x2 x3 : Int) : mf_wide_Over Qan Qb4 Qcw Qc0 M_wide_quotient Qaw Qcy Qcf [I x0, I x1, I x2, I x3] =
 (Qcf [I x0]).bind fun o35 =>
 bif decide (gA o35 0 > 2147483648) then
 some [I 0, B false]
 else
 (Qcf [I x1]).bind fun o36 =>
 bif decide (gA o36 0 > 2147483648) then
 some [I 0, B false]
 else
 bif decide (x2 < 1) then
 some [I 0, B false]
 else
 bif decide (x2 > 4611686018427387904) then
 some [I 0, B false]
 else
 (Qcy [I x3]).bind fun o37 =>
 bif !bA o37 0 then
 some [I 0, B false]
 else
 (Qcf [I x0]).bind fun o38 =>
 (Qcf [I x1]).bind fun o39 =>
 (Qaw [U (IntKind.u64.wrap (2 * IntKind.u64.wrap (gA o38 0 * gA o39 0))), U (IntKind.u64.wrap (2 * IntKind.u64.wrap (gA o38 0 * gA o39 0)))]).bind fun o40 =>
 (M_wide_quotient [U (gA o40 0), U (gA o40 1), U (IntKind.u64.wrap x2)]).bind fun o41 =>
 (Qc0 [U (gA o41 0), U (gA o41 1)]).bind fun o42 =>
 bif bA o41 2 then
 (Qcw [I x0, I x1]).bind fun o43 =>
 g_wide_Over_1 Qb4 x3 Qan o42 ((gA o42 0).tmod 2 == 1) (I 1) (B (decide (gA o43 0 < 0))) (I (-1)) (B true)
 else
 (Qaw [U (gA o42 0), U (gA o42 0)]).bind fun o50 =>
 (Qcw [I x0, I x1]).bind fun o51 =>
 bif (gA o42 0).tmod 2 == 1 then
 bif !(gA o50 0 == gA o41 0 && (gA o50 1 == gA o41 1 && true)) then
 g_wide_Over_1 Qb4 x3 Qan o42 (!(gA o50 0 == gA o41 0 && (gA o50 1 == gA o41 1 && true))) (I 1) (B (decide (gA o51 0 < 0))) (I 1) (B ((gA o42 0).tmod 2 == 1))
 else
 g_wide_Over_1 Qb4 x3 Qan o42 (!(gA o50 0 == gA o41 0 && (gA o50 1 == gA o41 1 && true))) (I 0) (B (decide (gA o51 0 < 0))) (I 0) (B ((gA o42 0).tmod 2 == 1))
 else
 g_wide_Over_1 Qb4 x3 Qan o42 (!(gA o50 0 == gA o41 0 && (gA o50 1 == gA o41 1 && true))) (I (-1)) (B (decide (gA o51 0 < 0))) (I (-1)) (B ((gA o42 0).tmod 2 == 1)) := by kernel_rfl
def m_wide_Over := mf_wide_Over Qdu Qhj Qf8 Qfz m_wide_quotient Qcq Qfe Qga 
theorem sp_wide_Over : Qak Tryz.prog (C_wide_Over_0 Qdu Qhj Qf8 Qfz m_wide_quotient Qcq Qfe Qga) := Qae rfl ⟨r_wide_signed, r_wide_grows, r_wide_sign, r_wide_floorRoot, r_wide_quotient, r_wide_product, r_wide_known, r_wide_size, trivial⟩
theorem r_wide_Over : Qbm Tryz.prog (190, spOf sig_wide_Over osig_wide_Over m_wide_Over) := Qa0 (C := (C_wide_Over_0 Qdu Qhj Qf8 Qfz m_wide_quotient Qcq Qfe Qga)) (L := 64) (by kernel_rfl) (FnOK.bare rfl rfl rfl) sp_wide_Over eqOk Qa9 (by kernel_rfl) (by kernel_rfl)
def sig_blend_Toward : Sk := { tmps := [TS.v true [ci, ci, ci], TS.v true [ci, ci, ci], tf [ci]], boxes := [], rows := [] }
def osig_blend_Toward : Sk := { tmps := [TS.tup [(true, [ci, ci, ci]), (false, [CS.bool])]], boxes := [], rows := [] }
def C_blend_Toward_0 (Qci : Fn) : Cfg := { spec := Qbx [(190, spOf sig_wide_Over osig_wide_Over Qci)], eqOk := Qb2, ownOff := ownOff, unroll := [5, 10] }
def mf_blend_Toward (Qci : Fn) : Fn := Qax Tryz.prog (C_blend_Toward_0 Qci) 64 177 sig_blend_Toward osig_blend_Toward
theorem mf_blend_Toward_eq (Qci : Fn) (x0 x1 x2 x3 x4 x5 x6 : Int) : mf_blend_Toward Qci [I x0, I x1, I x2, I x3, I x4, I x5, I x6] =
 bif x3 == x0 && (x4 == x1 && (x5 == x2 && true)) then
 some [I 0, I 0, I 0, B false]
 else
 bif decide (x6 < 0) then
 some [I 0, I 0, I 0, B false]
 else
 bif decide (x6 > 33554432) then
 some [I 0, I 0, I 0, B false]
 else
 (Qci [I (IntKind.i64.wrap (x3 - x0)), I x6, I (IntKind.i64.wrap (IntKind.i64.wrap (IntKind.i64.wrap (0 + IntKind.i64.wrap (IntKind.i64.wrap (x3 - x0) * IntKind.i64.wrap (x3 - x0))) + IntKind.i64.wrap (IntKind.i64.wrap (x4 - x1) * IntKind.i64.wrap (x4 - x1))) + IntKind.i64.wrap (IntKind.i64.wrap (x5 - x2) * IntKind.i64.wrap (x5 - x2)))), I 2]).bind fun o3 =>
 (Qci [I (IntKind.i64.wrap (x4 - x1)), I x6, I (IntKind.i64.wrap (IntKind.i64.wrap (IntKind.i64.wrap (0 + IntKind.i64.wrap (IntKind.i64.wrap (x3 - x0) * IntKind.i64.wrap (x3 - x0))) + IntKind.i64.wrap (IntKind.i64.wrap (x4 - x1) * IntKind.i64.wrap (x4 - x1))) + IntKind.i64.wrap (IntKind.i64.wrap (x5 - x2) * IntKind.i64.wrap (x5 - x2)))), I 2]).bind fun o4 =>
 (Qci [I (IntKind.i64.wrap (x5 - x2)), I x6, I (IntKind.i64.wrap (IntKind.i64.wrap (IntKind.i64.wrap (0 + IntKind.i64.wrap (IntKind.i64.wrap (x3 - x0) * IntKind.i64.wrap (x3 - x0))) + IntKind.i64.wrap (IntKind.i64.wrap (x4 - x1) * IntKind.i64.wrap (x4 - x1))) + IntKind.i64.wrap (IntKind.i64.wrap (x5 - x2) * IntKind.i64.wrap (x5 - x2)))), I 2]).bind fun o5 =>
 some [I (IntKind.i64.wrap (x0 + gA o3 0)), I (IntKind.i64.wrap (x1 + gA o4 0)), I (IntKind.i64.wrap (x2 + gA o5 0)), B true] := by kernel_rfl
def Qek := mf_blend_Toward m_wide_Over 
theorem sp_blend_Toward : Qak Tryz.prog (C_blend_Toward_0 m_wide_Over) := Qae rfl ⟨r_wide_Over, trivial⟩
theorem r_blend_Toward : Qbm Tryz.prog (177, spOf sig_blend_Toward osig_blend_Toward Qek) := Qa0 (C := (C_blend_Toward_0 m_wide_Over)) (L := 64) (by kernel_rfl) (FnOK.bare rfl rfl rfl) sp_blend_Toward eqOk Qa9 (by kernel_rfl) (by kernel_rfl)
def sig_blend_Reach : Sk := { tmps := [TS.v true [ci, ci, ci], TS.v true [ci, ci, ci], TS.v true [ci, ci, ci], tf [ci]], boxes := [], rows := [] }
def osig_blend_Reach : Sk := { tmps := [tf [ci]], boxes := [], rows := [] }
def C_blend_Reach_0 (Qcd Qbf Qbu : Fn) : Cfg := { spec := Qbx [(189, spOf sig_blend_bend osig_blend_bend Qcd), (177, spOf sig_blend_Toward osig_blend_Toward Qbf), (92, spOf sig_curve_Length osig_curve_Length Qbu)], eqOk := Qb2, ownOff := ownOff }
def sk_blend_Reach_6 : Sk := { tmps := [td, td, td, tf [ci], tf [CS.ptr 4 0], tf [CS.ptr 5 0], tf [CS.ptr 6 0], td, td, tf [ci], tf [ci], tf [ci]] ++ dd 62, boxes := [(4, 25, [ci, ci, ci]), (5, 25, [ci, ci, ci]), (6, 25, [ci, ci, ci])], rows := [] }
def ex_blend_Reach_6 : List (Ex × Sk) := [(Ex.exit 0, { tmps := [td, td, td, td, td, td, td, td, td, td, tf [ci]] ++ dd 63, boxes := [], rows := [] })]
def Qii (Qcd Qbf Qbu : Fn) : Lp := stepL Tryz.prog (C_blend_Reach_0 Qcd Qbf Qbu) 64 6 (Qf0 Tryz.prog 176 6) sk_blend_Reach_6 ex_blend_Reach_6
def C_blend_Reach_1 (Qcd Qbf Qbu : Fn) (N6 : Lp) : Cfg := (C_blend_Reach_0 Qcd Qbf Qbu).loop 6 sk_blend_Reach_6 ex_blend_Reach_6 N6
def mf_blend_Reach (Qcd Qbf Qbu : Fn) (N6 : Lp) : Fn := Qax Tryz.prog (C_blend_Reach_1 Qcd Qbf Qbu N6) 64 176 sig_blend_Reach osig_blend_Reach
theorem st_blend_Reach_6_eq (Qcd Qbf Qbu : Fn) (v0 v1 v2 v3 v4 v5 v6 v7 v8 v9 v10 v11 v12 : Int) : Qii Qcd Qbf Qbu [I v0, I v1, I v2, I v3, I v4, I v5, I v6, I v7, I v8, I v9, I v10, I v11, I v12] =
 bif decide (v3 > 0) then
 bif decide (IntKind.i64.wrap (v2 + v3) > v1) then
 some (0, [I v0, I v1, I v2, I (v3.fdiv (2 ^ min (Int.toNat 1) IntKind.i64.bits)), I v4, I v5, I v6, I v7, I v8, I v9, I v10, I v11, I v12])
 else
 (Qbf [I v7, I v8, I v9, I v4, I v5, I v6, I (IntKind.i64.wrap (v2 + v3))]).bind fun o8 =>
 (Qbf [I v7, I v8, I v9, I v10, I v11, I v12, I (IntKind.i64.wrap (v2 + v3))]).bind fun o9 =>
 (Qcd [jA o8 0, jA o8 1, jA o8 2, I v7, I v8, I v9, jA o9 0, jA o9 1, jA o9 2]).bind fun o10 =>
 bif decide (gA o10 0 <= IntKind.i64.wrap (IntKind.i64.wrap (16 * v0) * v0)) then
 some (0, [I v0, I v1, I (IntKind.i64.wrap (v2 + v3)), I (v3.fdiv (2 ^ min (Int.toNat 1) IntKind.i64.bits)), I v4, I v5, I v6, I v7, I v8, I v9, I v10, I v11, I v12])
 else
 some (0, [I v0, I v1, I v2, I (v3.fdiv (2 ^ min (Int.toNat 1) IntKind.i64.bits)), I v4, I v5, I v6, I v7, I v8, I v9, I v10, I v11, I v12])
 else
 some (1, [I v2]) := by kernel_rfl
theorem mf_blend_Reach_eq (Qcd Qbf Qbu : Fn) (N6 : Lp) (x0 x1 x2 x3 x4 x5 x6 x7 x8 x9 : Int) : mf_blend_Reach Qcd Qbf Qbu N6 [I x0, I x1, I x2, I x3, I x4, I x5, I x6, I x7, I x8, I x9] =
 bif x0 == x3 && (x1 == x4 && (x2 == x5 && true)) then
 some [I 0]
 else
 bif x6 == x3 && (x7 == x4 && (x8 == x5 && true)) then
 some [I 0]
 else
 (Qbu [I x0, I x1, I x2, I x3, I x4, I x5]).bind fun o11 =>
 (Qbu [I x3, I x4, I x5, I x6, I x7, I x8]).bind fun o12 =>
 (N6 [I x9, I (IntKind.i64.wrap (mn (gA o11 0) (gA o12 0) - 2)), I 0, I 16777216, I x0, I x1, I x2, I x3, I x4, I x5, I x6, I x7, I x8]).bind fun o13 =>
 bif o13.1.beq 1 then
 bif decide (gA o13.2 0 < 16) then
 some [I 0]
 else
 some [jA o13.2 0]
 else
 none := by kernel_rfl
def l_blend_Reach_6 := Qbl (Qii Qf3 Qek Qgf )
def m_blend_Reach := mf_blend_Reach Qf3 Qek Qgf l_blend_Reach_6
theorem sp_blend_Reach : Qak Tryz.prog (C_blend_Reach_0 Qf3 Qek Qgf) := Qae rfl ⟨r_blend_bend, r_blend_Toward, r_curve_Length, trivial⟩
theorem r_blend_Reach : Qbm Tryz.prog (176, spOf sig_blend_Reach osig_blend_Reach m_blend_Reach) := Qa0 (C := (C_blend_Reach_1 Qf3 Qek Qgf l_blend_Reach_6)) (L := 64) (by kernel_rfl) ((FnOK.bare rfl rfl rfl).loop sp_blend_Reach eqOk Qa9 (by kernel_rfl) (by kernel_rfl)) sp_blend_Reach eqOk Qa9 (by kernel_rfl) (by kernel_rfl)
def sig_blend_Corner : Sk := { tmps := [TS.v true [ci, ci, ci], TS.v true [ci, ci, ci], TS.v true [ci, ci, ci], tf [ci]], boxes := [], rows := [] }
def osig_blend_Corner : Sk := { tmps := [tf [CS.sl kPt]], boxes := [], rows := [] }
def C_blend_Corner_0 (Qb9 Qej Qbf Qe3 : Fn) : Cfg := { spec := Qbx [(70, spOf sig_wide_MulDiv osig_wide_MulDiv Qb9), (178, spOf sig_blend_Pieces osig_blend_Pieces Qej), (177, spOf sig_blend_Toward osig_blend_Toward Qbf), (176, spOf sig_blend_Reach osig_blend_Reach Qe3)], eqOk := Qb2, ownOff := ownOff, unroll := [13] }
def sk_blend_Corner_9 : Sk := { tmps := [td, td, td, td, td, tf [CS.ptr 5 0], td, td, td, td, tf [CS.ptr 10 0], td, tf [CS.ptr 12 0], td, tf [ci], tf [CS.own 50 3], td, td, td, td, td, td, td, td, td, td, td, td, td, td, td, td, td, td, td, td, td, td, td, td, td, td, td, td, td, td, td, td, td, td, td, td, tf [ci], tf [ci]] ++ dd 57, boxes := [(5, 25, [ci, ci, ci]), (10, 25, [ci, ci, ci]), (12, 25, [ci, ci, ci])], rows := [(50, 25, kPt)] }
def ex_blend_Corner_9 : List (Ex × Sk) := [(Ex.exit 0, { tmps := [td, td, td, td, td, td, td, td, td, td, td, td, td, td, td, tf [CS.own 50 3]] ++ dd 95, boxes := [], rows := [(50, 25, kPt)] })]
def Qhn (Qb9 Qej Qbf Qe3 : Fn) : Lp := stepL Tryz.prog (C_blend_Corner_0 Qb9 Qej Qbf Qe3) 64 9 (Qf0 Tryz.prog 163 9) sk_blend_Corner_9 ex_blend_Corner_9
def C_blend_Corner_1 (Qb9 Qej Qbf Qe3 : Fn) (N9 : Lp) : Cfg := (C_blend_Corner_0 Qb9 Qej Qbf Qe3).loop 9 sk_blend_Corner_9 ex_blend_Corner_9 N9
def mf_blend_Corner (Qb9 Qej Qbf Qe3 : Fn) (N9 : Lp) : Fn := Qax Tryz.prog (C_blend_Corner_1 Qb9 Qej Qbf Qe3 N9) 64 163 sig_blend_Corner osig_blend_Corner
theorem st_blend_Corner_9_eq (Qb9 Qej Qbf Qe3 : Fn) (v0 : Rw) (v1 v2 v3 v4 v5 v6 v7 v8 v9 v10 v11 v12 : Int) : Qhn Qb9 Qej Qbf Qe3 [.view kPt v0, I v1, I v2, I v3, I v4, I v5, I v6, I v7, I v8, I v9, I v10, I v11, I v12] =
 bif decide (v3 < v2) then
 bif decide (0 <= v3) && decide (v3 < (v0.length : Int)) then
 (Qb9 [I (IntKind.i64.wrap (IntKind.i64.wrap (IntKind.i64.wrap (IntKind.i64.wrap (v1 - v3) * IntKind.i64.wrap (v1 - v3)) * IntKind.i64.wrap (v7 - v4)) + IntKind.i64.wrap (IntKind.i64.wrap (v3 * v3) * IntKind.i64.wrap (v10 - v4)))), I 1, I (IntKind.i64.wrap (v1 * v1)), I 2]).bind fun o12 =>
 bif decide (0 <= v3) && decide (v3 < (v0.length : Int)) then
 bif decide (0 <= v3) && decide (v3 < (v0.length : Int)) then
 (Qb9 [I (IntKind.i64.wrap (IntKind.i64.wrap (IntKind.i64.wrap (IntKind.i64.wrap (v1 - v3) * IntKind.i64.wrap (v1 - v3)) * IntKind.i64.wrap (v8 - v5)) + IntKind.i64.wrap (IntKind.i64.wrap (v3 * v3) * IntKind.i64.wrap (v11 - v5)))), I 1, I (IntKind.i64.wrap (v1 * v1)), I 2]).bind fun o13 =>
 bif decide (0 <= v3) && decide (v3 < (v0.length : Int)) then
 bif decide (0 <= v3) && decide (v3 < (v0.length : Int)) then
 (Qb9 [I (IntKind.i64.wrap (IntKind.i64.wrap (IntKind.i64.wrap (IntKind.i64.wrap (v1 - v3) * IntKind.i64.wrap (v1 - v3)) * IntKind.i64.wrap (v9 - v6)) + IntKind.i64.wrap (IntKind.i64.wrap (v3 * v3) * IntKind.i64.wrap (v12 - v6)))), I 1, I (IntKind.i64.wrap (v1 * v1)), I 2]).bind fun o14 =>
 bif decide (0 <= v3) && decide (v3 < (v0.length : Int)) then
 bif decide (0 <= v3) && decide (v3 < (v0.length : Int)) then
 some (0, [.view kPt ((((v0.set v3.toNat [I v4, I v5, I v6]).set v3.toNat [I (IntKind.i64.wrap (Qas (nth .dead (nth [] (v0.set v3.toNat [I v4, I v5, I v6]) v3.toNat) 0) + gA o12 0)), I (Qas (nth .dead (nth [] (v0.set v3.toNat [I v4, I v5, I v6]) v3.toNat) 1)), I (Qas (nth .dead (nth [] (v0.set v3.toNat [I v4, I v5, I v6]) v3.toNat) 2))]).set v3.toNat [I (Qas (nth .dead (nth [] ((v0.set v3.toNat [I v4, I v5, I v6]).set v3.toNat [I (IntKind.i64.wrap (Qas (nth .dead (nth [] (v0.set v3.toNat [I v4, I v5, I v6]) v3.toNat) 0) + gA o12 0)), I (Qas (nth .dead (nth [] (v0.set v3.toNat [I v4, I v5, I v6]) v3.toNat) 1)), I (Qas (nth .dead (nth [] (v0.set v3.toNat [I v4, I v5, I v6]) v3.toNat) 2))]) v3.toNat) 0)), I (IntKind.i64.wrap (Qas (nth .dead (nth [] ((v0.set v3.toNat [I v4, I v5, I v6]).set v3.toNat [I (IntKind.i64.wrap (Qas (nth .dead (nth [] (v0.set v3.toNat [I v4, I v5, I v6]) v3.toNat) 0) + gA o12 0)), I (Qas (nth .dead (nth [] (v0.set v3.toNat [I v4, I v5, I v6]) v3.toNat) 1)), I (Qas (nth .dead (nth [] (v0.set v3.toNat [I v4, I v5, I v6]) v3.toNat) 2))]) v3.toNat) 1) + gA o13 0)), I (Qas (nth .dead (nth [] ((v0.set v3.toNat [I v4, I v5, I v6]).set v3.toNat [I (IntKind.i64.wrap (Qas (nth .dead (nth [] (v0.set v3.toNat [I v4, I v5, I v6]) v3.toNat) 0) + gA o12 0)), I (Qas (nth .dead (nth [] (v0.set v3.toNat [I v4, I v5, I v6]) v3.toNat) 1)), I (Qas (nth .dead (nth [] (v0.set v3.toNat [I v4, I v5, I v6]) v3.toNat) 2))]) v3.toNat) 2))]).set v3.toNat [I (Qas (nth .dead (nth [] (((v0.set v3.toNat [I v4, I v5, I v6]).set v3.toNat [I (IntKind.i64.wrap (Qas (nth .dead (nth [] (v0.set v3.toNat [I v4, I v5, I v6]) v3.toNat) 0) + gA o12 0)), I (Qas (nth .dead (nth [] (v0.set v3.toNat [I v4, I v5, I v6]) v3.toNat) 1)), I (Qas (nth .dead (nth [] (v0.set v3.toNat [I v4, I v5, I v6]) v3.toNat) 2))]).set v3.toNat [I (Qas (nth .dead (nth [] ((v0.set v3.toNat [I v4, I v5, I v6]).set v3.toNat [I (IntKind.i64.wrap (Qas (nth .dead (nth [] (v0.set v3.toNat [I v4, I v5, I v6]) v3.toNat) 0) + gA o12 0)), I (Qas (nth .dead (nth [] (v0.set v3.toNat [I v4, I v5, I v6]) v3.toNat) 1)), I (Qas (nth .dead (nth [] (v0.set v3.toNat [I v4, I v5, I v6]) v3.toNat) 2))]) v3.toNat) 0)), I (IntKind.i64.wrap (Qas (nth .dead (nth [] ((v0.set v3.toNat [I v4, I v5, I v6]).set v3.toNat [I (IntKind.i64.wrap (Qas (nth .dead (nth [] (v0.set v3.toNat [I v4, I v5, I v6]) v3.toNat) 0) + gA o12 0)), I (Qas (nth .dead (nth [] (v0.set v3.toNat [I v4, I v5, I v6]) v3.toNat) 1)), I (Qas (nth .dead (nth [] (v0.set v3.toNat [I v4, I v5, I v6]) v3.toNat) 2))]) v3.toNat) 1) + gA o13 0)), I (Qas (nth .dead (nth [] ((v0.set v3.toNat [I v4, I v5, I v6]).set v3.toNat [I (IntKind.i64.wrap (Qas (nth .dead (nth [] (v0.set v3.toNat [I v4, I v5, I v6]) v3.toNat) 0) + gA o12 0)), I (Qas (nth .dead (nth [] (v0.set v3.toNat [I v4, I v5, I v6]) v3.toNat) 1)), I (Qas (nth .dead (nth [] (v0.set v3.toNat [I v4, I v5, I v6]) v3.toNat) 2))]) v3.toNat) 2))]) v3.toNat) 0)), I (Qas (nth .dead (nth [] (((v0.set v3.toNat [I v4, I v5, I v6]).set v3.toNat [I (IntKind.i64.wrap (Qas (nth .dead (nth [] (v0.set v3.toNat [I v4, I v5, I v6]) v3.toNat) 0) + gA o12 0)), I (Qas (nth .dead (nth [] (v0.set v3.toNat [I v4, I v5, I v6]) v3.toNat) 1)), I (Qas (nth .dead (nth [] (v0.set v3.toNat [I v4, I v5, I v6]) v3.toNat) 2))]).set v3.toNat [I (Qas (nth .dead (nth [] ((v0.set v3.toNat [I v4, I v5, I v6]).set v3.toNat [I (IntKind.i64.wrap (Qas (nth .dead (nth [] (v0.set v3.toNat [I v4, I v5, I v6]) v3.toNat) 0) + gA o12 0)), I (Qas (nth .dead (nth [] (v0.set v3.toNat [I v4, I v5, I v6]) v3.toNat) 1)), I (Qas (nth .dead (nth [] (v0.set v3.toNat [I v4, I v5, I v6]) v3.toNat) 2))]) v3.toNat) 0)), I (IntKind.i64.wrap (Qas (nth .dead (nth [] ((v0.set v3.toNat [I v4, I v5, I v6]).set v3.toNat [I (IntKind.i64.wrap (Qas (nth .dead (nth [] (v0.set v3.toNat [I v4, I v5, I v6]) v3.toNat) 0) + gA o12 0)), I (Qas (nth .dead (nth [] (v0.set v3.toNat [I v4, I v5, I v6]) v3.toNat) 1)), I (Qas (nth .dead (nth [] (v0.set v3.toNat [I v4, I v5, I v6]) v3.toNat) 2))]) v3.toNat) 1) + gA o13 0)), I (Qas (nth .dead (nth [] ((v0.set v3.toNat [I v4, I v5, I v6]).set v3.toNat [I (IntKind.i64.wrap (Qas (nth .dead (nth [] (v0.set v3.toNat [I v4, I v5, I v6]) v3.toNat) 0) + gA o12 0)), I (Qas (nth .dead (nth [] (v0.set v3.toNat [I v4, I v5, I v6]) v3.toNat) 1)), I (Qas (nth .dead (nth [] (v0.set v3.toNat [I v4, I v5, I v6]) v3.toNat) 2))]) v3.toNat) 2))]) v3.toNat) 1)), I (IntKind.i64.wrap (Qas (nth .dead (nth [] (((v0.set v3.toNat [I v4, I v5, I v6]).set v3.toNat [I (IntKind.i64.wrap (Qas (nth .dead (nth [] (v0.set v3.toNat [I v4, I v5, I v6]) v3.toNat) 0) + gA o12 0)), I (Qas (nth .dead (nth [] (v0.set v3.toNat [I v4, I v5, I v6]) v3.toNat) 1)), I (Qas (nth .dead (nth [] (v0.set v3.toNat [I v4, I v5, I v6]) v3.toNat) 2))]).set v3.toNat [I (Qas (nth .dead (nth [] ((v0.set v3.toNat [I v4, I v5, I v6]).set v3.toNat [I (IntKind.i64.wrap (Qas (nth .dead (nth [] (v0.set v3.toNat [I v4, I v5, I v6]) v3.toNat) 0) + gA o12 0)), I (Qas (nth .dead (nth [] (v0.set v3.toNat [I v4, I v5, I v6]) v3.toNat) 1)), I (Qas (nth .dead (nth [] (v0.set v3.toNat [I v4, I v5, I v6]) v3.toNat) 2))]) v3.toNat) 0)), I (IntKind.i64.wrap (Qas (nth .dead (nth [] ((v0.set v3.toNat [I v4, I v5, I v6]).set v3.toNat [I (IntKind.i64.wrap (Qas (nth .dead (nth [] (v0.set v3.toNat [I v4, I v5, I v6]) v3.toNat) 0) + gA o12 0)), I (Qas (nth .dead (nth [] (v0.set v3.toNat [I v4, I v5, I v6]) v3.toNat) 1)), I (Qas (nth .dead (nth [] (v0.set v3.toNat [I v4, I v5, I v6]) v3.toNat) 2))]) v3.toNat) 1) + gA o13 0)), I (Qas (nth .dead (nth [] ((v0.set v3.toNat [I v4, I v5, I v6]).set v3.toNat [I (IntKind.i64.wrap (Qas (nth .dead (nth [] (v0.set v3.toNat [I v4, I v5, I v6]) v3.toNat) 0) + gA o12 0)), I (Qas (nth .dead (nth [] (v0.set v3.toNat [I v4, I v5, I v6]) v3.toNat) 1)), I (Qas (nth .dead (nth [] (v0.set v3.toNat [I v4, I v5, I v6]) v3.toNat) 2))]) v3.toNat) 2))]) v3.toNat) 2) + gA o14 0))]), I v1, I v2, I (IntKind.i64.wrap (v3 + 1)), I v4, I v5, I v6, I v7, I v8, I v9, I v10, I v11, I v12])
 else
 none
 else
 none
 else
 none
 else
 none
 else
 none
 else
 none
 else
 none
 else
 some (1, [.view kPt v0]) := by kernel_rfl
theorem mf_blend_Corner_eq (Qb9 Qej Qbf Qe3 : Fn) (N9 : Lp) (x0 x1 x2 x3 x4 x5 x6 x7 x8 x9 : Int) : mf_blend_Corner Qb9 Qej Qbf Qe3 N9 [I x0, I x1, I x2, I x3, I x4, I x5, I x6, I x7, I x8, I x9] =
 (Qe3 [I x0, I x1, I x2, I x3, I x4, I x5, I x6, I x7, I x8, I x9]).bind fun o15 =>
 bif gA o15 0 == 0 then
 some [.view kPt [[I x3, I x4, I x5]]]
 else
 (Qbf [I x3, I x4, I x5, I x0, I x1, I x2, jA o15 0]).bind fun o16 =>
 (Qbf [I x3, I x4, I x5, I x6, I x7, I x8, jA o15 0]).bind fun o17 =>
 (Qej [jA o16 0, jA o16 1, jA o16 2, I x3, I x4, I x5, jA o17 0, jA o17 1, jA o17 2]).bind fun o18 =>
 bif decide (IntKind.i64.wrap (gA o18 0 + 1) = IntKind.i64.wrap (gA o18 0 + 1)) then
 bif decide (0 <= IntKind.i64.wrap (gA o18 0 + 1)) && decide (IntKind.i64.wrap (gA o18 0 + 1) * (↑24 : Int) <= 140737488355328) then
 (N9 [.view kPt (List.replicate (IntKind.i64.wrap (gA o18 0 + 1)).toNat [I 0, I 0, I 0]), jA o18 0, I (↑(List.replicate (IntKind.i64.wrap (gA o18 0 + 1)).toNat [I 0, I 0, I 0]).length : Int), I 0, I x3, I x4, I x5, jA o16 0, jA o16 1, jA o16 2, jA o17 0, jA o17 1, jA o17 2]).bind fun o19 =>
 bif o19.1.beq 1 then
 some [.view kPt (wA o19.2 0)]
 else
 none
 else
 none
 else
 none := by kernel_rfl
def l_blend_Corner_9 := Qbl (Qhn Qeq Qhk Qek m_blend_Reach )
def m_blend_Corner := mf_blend_Corner Qeq Qhk Qek m_blend_Reach l_blend_Corner_9
theorem sp_blend_Corner : Qak Tryz.prog (C_blend_Corner_0 Qeq Qhk Qek m_blend_Reach) := Qae rfl ⟨r_wide_MulDiv, r_blend_Pieces, r_blend_Toward, r_blend_Reach, trivial⟩
theorem r_blend_Corner : Qbm Tryz.prog (163, spOf sig_blend_Corner osig_blend_Corner m_blend_Corner) := Qa0 (C := (C_blend_Corner_1 Qeq Qhk Qek m_blend_Reach l_blend_Corner_9)) (L := 64) (by kernel_rfl) ((FnOK.bare rfl rfl rfl).loop sp_blend_Corner eqOk Qa9 (by kernel_rfl) (by kernel_rfl)) sp_blend_Corner eqOk Qa9 (by kernel_rfl) (by kernel_rfl)
def sig_path_scaled : Sk := { tmps := [TS.v true [ci, ci, ci]], boxes := [], rows := [] }
def osig_path_scaled : Sk := { tmps := [TS.v true [ci, ci, ci]], boxes := [], rows := [] }
def C_path_scaled_0 : Cfg := { spec := Qbx [], eqOk := Qb2, ownOff := ownOff }
def mf_path_scaled : Fn := Qax Tryz.prog C_path_scaled_0 64 164 sig_path_scaled osig_path_scaled
theorem mf_path_scaled_eq (x0 x1 x2 : Int) : mf_path_scaled [I x0, I x1, I x2] =
 some [I (IntKind.i64.wrap (x0 * 16)), I (IntKind.i64.wrap (x1 * 16)), I (IntKind.i64.wrap (x2 * 16))] := by kernel_rfl
def m_path_scaled := mf_path_scaled 
theorem sp_path_scaled : Qak Tryz.prog (C_path_scaled_0 ) := Qae rfl trivial
theorem r_path_scaled : Qbm Tryz.prog (164, spOf sig_path_scaled osig_path_scaled m_path_scaled) := Qa0 (C := C_path_scaled_0) (L := 64) (by kernel_rfl) (FnOK.bare rfl rfl rfl) sp_path_scaled eqOk Qa9 (by kernel_rfl) (by kernel_rfl)
def sig_path_corner : Sk := { tmps := [TS.v true [ci, ci, ci, ci, ci, ci, ci, ci, ci, ci, ci, ci, ci, CS.bool, ci, CS.bool, ci, ci, ci, ci, ci, CS.bool], TS.v true [ci, ci, ci, ci, ci, ci, ci, ci, ci, ci, ci, ci, ci, CS.bool, ci, CS.bool, ci, ci, ci, ci, ci, CS.bool]], boxes := [], rows := [] }
def osig_path_corner : Sk := { tmps := [TS.tup [(false, [CS.sl kPt]), (false, [CS.sl kPt])]], boxes := [], rows := [] }
def C_path_corner_0 (M_blend_Corner M_path_scaled Qbd : Fn) : Cfg := { spec := Qbx [(163, spOf sig_blend_Corner osig_blend_Corner M_blend_Corner), (164, spOf sig_path_scaled osig_path_scaled M_path_scaled), (131, spOf sig_path_middle osig_path_middle Qbd)], eqOk := Qb2, ownOff := ownOff }
def mf_path_corner (M_blend_Corner M_path_scaled Qbd : Fn) : Fn := Qax Tryz.prog (C_path_corner_0 M_blend_Corner M_path_scaled Qbd) 64 145 sig_path_corner osig_path_corner
theorem mf_path_corner_eq (M_blend_Corner M_path_scaled Qbd : Fn) (x0 x1 x2 x3 x4 x5 x6 x7 x8 x9 x10 x11 x12 : Int) (x13 : Bool) (x14 : Int) (x15 : Bool) (x16 x17 x18 x19 x20 : Int) (x21 : Bool) (x22 x23 x24 x25 x26 x27 x28 x29 x30 x31 x32 x33 x34 : Int) (x35 : Bool) (x36 : Int) (x37 : Bool) (x38 x39 x40 x41 x42 : Int) (x43 : Bool) : mf_path_corner M_blend_Corner M_path_scaled Qbd [I x0, I x1, I x2, I x3, I x4, I x5, I x6, I x7, I x8, I x9, I x10, I x11, I x12, B x13, I x14, B x15, I x16, I x17, I x18, I x19, I x20, B x21, I x22, I x23, I x24, I x25, I x26, I x27, I x28, I x29, I x30, I x31, I x32, I x33, I x34, B x35, I x36, B x37, I x38, I x39, I x40, I x41, I x42, B x43] =
 (Qbd [I x0, I x1, I x2, I x3, I x4, I x5, I x6, I x7, I x8, I x9, I x10, I x11, I x12, B x13, I x14, B x15, I x16, I x17, I x18, I x19, I x20, B x21]).bind fun o4 =>
 (M_path_scaled [I x5, I x6, I x7]).bind fun o5 =>
 (Qbd [I x22, I x23, I x24, I x25, I x26, I x27, I x28, I x29, I x30, I x31, I x32, I x33, I x34, B x35, I x36, B x37, I x38, I x39, I x40, I x41, I x42, B x43]).bind fun o6 =>
 (M_blend_Corner [jA o4 0, jA o4 1, jA o4 2, jA o5 0, jA o5 1, jA o5 2, jA o6 0, jA o6 1, jA o6 2, I (IntKind.i64.wrap (x18 * 16))]).bind fun o7 =>
 bif decide (0 <= IntKind.i64.wrap (IntKind.i64.wrap ((IntKind.i64.wrap ((↑(wA o7 0).length : Int) - 1)).tdiv 2) + 1)) && decide (IntKind.i64.wrap (IntKind.i64.wrap ((IntKind.i64.wrap ((↑(wA o7 0).length : Int) - 1)).tdiv 2) + 1) <= (↑(wA o7 0).length : Int)) then
 bif decide (0 <= IntKind.i64.wrap ((IntKind.i64.wrap ((↑(wA o7 0).length : Int) - 1)).tdiv 2)) && decide (IntKind.i64.wrap ((IntKind.i64.wrap ((↑(wA o7 0).length : Int) - 1)).tdiv 2) <= (↑(wA o7 0).length : Int)) then
 some [.view kPt (List.take (IntKind.i64.wrap (IntKind.i64.wrap ((IntKind.i64.wrap ((↑(wA o7 0).length : Int) - 1)).tdiv 2) + 1)).toNat (wA o7 0)), .view kPt (List.drop (IntKind.i64.wrap ((IntKind.i64.wrap ((↑(wA o7 0).length : Int) - 1)).tdiv 2)).toNat (wA o7 0))]
 else
 none
 else
 none := by kernel_rfl
def m_path_corner := mf_path_corner m_blend_Corner m_path_scaled Qep 
theorem sp_path_corner : Qak Tryz.prog (C_path_corner_0 m_blend_Corner m_path_scaled Qep) := Qae rfl ⟨r_blend_Corner, r_path_scaled, r_path_middle, trivial⟩
theorem r_path_corner : Qbm Tryz.prog (145, spOf sig_path_corner osig_path_corner m_path_corner) := Qa0 (C := (C_path_corner_0 m_blend_Corner m_path_scaled Qep)) (L := 64) (by kernel_rfl) (FnOK.bare rfl rfl rfl) sp_path_corner eqOk Qa9 (by kernel_rfl) (by kernel_rfl)
def sig_curve_axes : Sk := { tmps := [tf [ci]], boxes := [], rows := [] }
def osig_curve_axes : Sk := { tmps := [TS.tup [(false, [ci]), (false, [ci]), (false, [ci]), (false, [CS.bool])]], boxes := [], rows := [] }
def C_curve_axes_0 : Cfg := { spec := Qbx [], eqOk := Qb2, ownOff := ownOff }
def mf_curve_axes : Fn := Qax Tryz.prog C_curve_axes_0 64 139 sig_curve_axes osig_curve_axes
theorem mf_curve_axes_eq (x0 : Int) : mf_curve_axes [I x0] =
 bif x0 == 17 then
 some [I 0, I 1, I 2, B true]
 else
 bif x0 == 18 then
 some [I 2, I 0, I 1, B true]
 else
 bif x0 == 19 then
 some [I 1, I 2, I 0, B true]
 else
 some [I 0, I 0, I 0, B false] := by kernel_rfl
def Qev := mf_curve_axes 
theorem sp_curve_axes : Qak Tryz.prog (C_curve_axes_0 ) := Qae rfl trivial
theorem r_curve_axes : Qbm Tryz.prog (139, spOf sig_curve_axes osig_curve_axes Qev) := Qa0 (C := C_curve_axes_0) (L := 64) (by kernel_rfl) (FnOK.bare rfl rfl rfl) sp_curve_axes eqOk Qa9 (by kernel_rfl) (by kernel_rfl)
def sig_curve_Space : Sk := { tmps := [tf [ci], tf [ci], tf [ci], tf [ci]], boxes := [], rows := [] }
def osig_curve_Space : Sk := { tmps := [TS.v true [ci, ci, ci]], boxes := [], rows := [] }
def C_curve_Space_0 (Qcx : Fn) : Cfg := { spec := Qbx [(139, spOf sig_curve_axes osig_curve_axes Qcx)], eqOk := Qb2, ownOff := ownOff }
def mf_curve_Space (Qcx : Fn) : Fn := Qax Tryz.prog (C_curve_Space_0 Qcx) 64 162 sig_curve_Space osig_curve_Space
abbrev g_curve_Space_2 (o1 : List AC) (x2 : Int) (h2_0 h2_1 h2_2 : AC) : Option (List AC) :=
 bif decide (gA o1 2 = (↑0 : Int)) then
 some [I x2, h2_0, h2_1]
 else
 bif decide (gA o1 2 = (↑(0 + 1) : Int)) then
 some [h2_2, I x2, h2_1]
 else
 bif decide (gA o1 2 = (↑(0 + 1 + 1) : Int)) then
 some [h2_2, h2_0, I x2]
 else
 none
attribute [go_sem] g_curve_Space_2
abbrev g_curve_Space_1 (o1 : List AC) (x2 x1 : Int) (h1_0 h1_1 h1_2 : AC) : Option (List AC) :=
 bif decide (gA o1 1 = (↑0 : Int)) then
 g_curve_Space_2 o1 x2 h1_0 h1_1 (I x1)
 else
 bif decide (gA o1 1 = (↑(0 + 1) : Int)) then
 g_curve_Space_2 o1 x2 (I x1) h1_1 h1_2
 else
 bif decide (gA o1 1 = (↑(0 + 1 + 1) : Int)) then
 g_curve_Space_2 o1 x2 h1_0 (I x1) h1_2
 else
 none
attribute [go_sem] g_curve_Space_1
theorem mf_curve_Space_eq (Qcx : Fn) (x0 x1 x2 x3 : Int) : mf_curve_Space Qcx [I x0, I x1, I x2, I x3] =
 (Qcx [I x3]).bind fun o1 =>
 bif bA o1 3 then
 bif decide (gA o1 0 = (↑0 : Int)) then
 g_curve_Space_1 o1 x2 x1 (I 0) (I 0) (I x0)
 else
 bif decide (gA o1 0 = (↑(0 + 1) : Int)) then
 g_curve_Space_1 o1 x2 x1 (I x0) (I 0) (I 0)
 else
 bif decide (gA o1 0 = (↑(0 + 1 + 1) : Int)) then
 g_curve_Space_1 o1 x2 x1 (I 0) (I x0) (I 0)
 else
 none
 else
 some [I 0, I 0, I 0] := by kernel_rfl
def m_curve_Space := mf_curve_Space Qev 
theorem sp_curve_Space : Qak Tryz.prog (C_curve_Space_0 Qev) := Qae rfl ⟨r_curve_axes, trivial⟩
theorem r_curve_Space : Qbm Tryz.prog (162, spOf sig_curve_Space osig_curve_Space m_curve_Space) := Qa0 (C := (C_curve_Space_0 Qev)) (L := 64) (by kernel_rfl) (FnOK.bare rfl rfl rfl) sp_curve_Space eqOk Qa9 (by kernel_rfl) (by kernel_rfl)
def sig_curve_Plane : Sk := { tmps := [TS.v true [ci, ci, ci], tf [ci]], boxes := [], rows := [] }
def osig_curve_Plane : Sk := { tmps := [TS.tup [(false, [ci]), (false, [ci]), (false, [ci])]], boxes := [], rows := [] }
def C_curve_Plane_0 (Qcx : Fn) : Cfg := { spec := Qbx [(139, spOf sig_curve_axes osig_curve_axes Qcx)], eqOk := Qb2, ownOff := ownOff }
def mf_curve_Plane (Qcx : Fn) : Fn := Qax Tryz.prog (C_curve_Plane_0 Qcx) 64 158 sig_curve_Plane osig_curve_Plane
abbrev g_curve_Plane_2 (o1 : List AC) (h1_0 : AC) (x0 x1 x2 : Int) (h2_0 : AC) : Option (List AC) :=
 bif decide (gA o1 2 = (↑0 : Int)) then
 some [h1_0, h2_0, I x0]
 else
 bif decide (gA o1 2 = (↑(0 + 1) : Int)) then
 some [h1_0, h2_0, I x1]
 else
 bif decide (gA o1 2 = (↑(0 + 1 + 1) : Int)) then
 some [h1_0, h2_0, I x2]
 else
 none
attribute [go_sem] g_curve_Plane_2
abbrev g_curve_Plane_1 (o1 : List AC) (x0 x1 x2 : Int) (h1_0 : AC) : Option (List AC) :=
 bif decide (gA o1 1 = (↑0 : Int)) then
 g_curve_Plane_2 o1 h1_0 x0 x1 x2 (I x0)
 else
 bif decide (gA o1 1 = (↑(0 + 1) : Int)) then
 g_curve_Plane_2 o1 h1_0 x0 x1 x2 (I x1)
 else
 bif decide (gA o1 1 = (↑(0 + 1 + 1) : Int)) then
 g_curve_Plane_2 o1 h1_0 x0 x1 x2 (I x2)
 else
 none
attribute [go_sem] g_curve_Plane_1
theorem mf_curve_Plane_eq (Qcx : Fn) (x0 x1 x2 x3 : Int) : mf_curve_Plane Qcx [I x0, I x1, I x2, I x3] =
 (Qcx [I x3]).bind fun o1 =>
 bif !bA o1 3 then
 some [I 0, I 0, I 0]
 else
 bif decide (gA o1 0 = (↑0 : Int)) then
 g_curve_Plane_1 o1 x0 x1 x2 (I x0)
 else
 bif decide (gA o1 0 = (↑(0 + 1) : Int)) then
 g_curve_Plane_1 o1 x0 x1 x2 (I x1)
 else
 bif decide (gA o1 0 = (↑(0 + 1 + 1) : Int)) then
 g_curve_Plane_1 o1 x0 x1 x2 (I x2)
 else
 none := by kernel_rfl
def Qge := mf_curve_Plane Qev 
theorem sp_curve_Plane : Qak Tryz.prog (C_curve_Plane_0 Qev) := Qae rfl ⟨r_curve_axes, trivial⟩
theorem r_curve_Plane : Qbm Tryz.prog (158, spOf sig_curve_Plane osig_curve_Plane Qge) := Qa0 (C := (C_curve_Plane_0 Qev)) (L := 64) (by kernel_rfl) (FnOK.bare rfl rfl rfl) sp_curve_Plane eqOk Qa9 (by kernel_rfl) (by kernel_rfl)
def sig_curve_scaled : Sk := { tmps := [TS.v true [ci, ci, ci]], boxes := [], rows := [] }
def osig_curve_scaled : Sk := { tmps := [TS.v true [ci, ci, ci]], boxes := [], rows := [] }
def C_curve_scaled_0 : Cfg := { spec := Qbx [], eqOk := Qb2, ownOff := ownOff }
def mf_curve_scaled : Fn := Qax Tryz.prog C_curve_scaled_0 64 159 sig_curve_scaled osig_curve_scaled
theorem mf_curve_scaled_eq (x0 x1 x2 : Int) : mf_curve_scaled [I x0, I x1, I x2] =
 some [I (IntKind.i64.wrap (x0 * 16)), I (IntKind.i64.wrap (x1 * 16)), I (IntKind.i64.wrap (x2 * 16))] := by kernel_rfl
def Qe0 := mf_curve_scaled 
theorem sp_curve_scaled : Qak Tryz.prog (C_curve_scaled_0 ) := Qae rfl trivial
theorem r_curve_scaled : Qbm Tryz.prog (159, spOf sig_curve_scaled osig_curve_scaled Qe0) := Qa0 (C := C_curve_scaled_0) (L := 64) (by kernel_rfl) (FnOK.bare rfl rfl rfl) sp_curve_scaled eqOk Qa9 (by kernel_rfl) (by kernel_rfl)
def sig_curve_cross : Sk := { tmps := [TS.v true [ci, ci, ci, ci], TS.v true [ci, ci, ci, ci]], boxes := [], rows := [] }
def osig_curve_cross : Sk := { tmps := [tf [ci]], boxes := [], rows := [] }
def C_curve_cross_0 : Cfg := { spec := Qbx [], eqOk := Qb2, ownOff := ownOff }
def mf_curve_cross : Fn := Qax Tryz.prog C_curve_cross_0 64 143 sig_curve_cross osig_curve_cross
theorem mf_curve_cross_eq (x0 x1 x2 x3 x4 x5 x6 x7 : Int) : mf_curve_cross [I x0, I x1, I x2, I x3, I x4, I x5, I x6, I x7] =
 some [I (IntKind.i64.wrap (IntKind.i64.wrap (x0 * x5) - IntKind.i64.wrap (x1 * x4)))] := by kernel_rfl
def Qe5 := mf_curve_cross 
theorem sp_curve_cross : Qak Tryz.prog (C_curve_cross_0 ) := Qae rfl trivial
theorem r_curve_cross : Qbm Tryz.prog (143, spOf sig_curve_cross osig_curve_cross Qe5) := Qa0 (C := C_curve_cross_0) (L := 64) (by kernel_rfl) (FnOK.bare rfl rfl rfl) sp_curve_cross eqOk Qa9 (by kernel_rfl) (by kernel_rfl)
def sig_curve_dot : Sk := { tmps := [TS.v true [ci, ci, ci, ci], TS.v true [ci, ci, ci, ci]], boxes := [], rows := [] }
def osig_curve_dot : Sk := { tmps := [tf [ci]], boxes := [], rows := [] }
def C_curve_dot_0 : Cfg := { spec := Qbx [], eqOk := Qb2, ownOff := ownOff }
def mf_curve_dot : Fn := Qax Tryz.prog C_curve_dot_0 64 141 sig_curve_dot osig_curve_dot
theorem mf_curve_dot_eq (x0 x1 x2 x3 x4 x5 x6 x7 : Int) : mf_curve_dot [I x0, I x1, I x2, I x3, I x4, I x5, I x6, I x7] =
 some [I (IntKind.i64.wrap (IntKind.i64.wrap (x0 * x4) + IntKind.i64.wrap (x1 * x5)))] := by kernel_rfl
def Qg2 := mf_curve_dot 
theorem sp_curve_dot : Qak Tryz.prog (C_curve_dot_0 ) := Qae rfl trivial
theorem r_curve_dot : Qbm Tryz.prog (141, spOf sig_curve_dot osig_curve_dot Qg2) := Qa0 (C := C_curve_dot_0) (L := 64) (by kernel_rfl) (FnOK.bare rfl rfl rfl) sp_curve_dot eqOk Qa9 (by kernel_rfl) (by kernel_rfl)
def sig_curve_Middle : Sk := { tmps := [TS.v true [ci, ci, ci, ci], TS.v true [ci, ci, ci, ci], tf [ci], tf [CS.bool]], boxes := [], rows := [] }
def osig_curve_Middle : Sk := { tmps := [TS.tup [(true, [ci, ci, ci, ci]), (false, [CS.bool])]], boxes := [], rows := [] }
def C_curve_Middle_0 (Qci Qbq Qb6 : Fn) : Cfg := { spec := Qbx [(190, spOf sig_wide_Over osig_wide_Over Qci), (143, spOf sig_curve_cross osig_curve_cross Qbq), (141, spOf sig_curve_dot osig_curve_dot Qb6)], eqOk := Qb2, ownOff := ownOff }
def mf_curve_Middle (Qci Qbq Qb6 : Fn) : Fn := Qax Tryz.prog (C_curve_Middle_0 Qci Qbq Qb6) 64 188 sig_curve_Middle osig_curve_Middle
abbrev g_curve_Middle_3 (Qci : Fn) (h1_2 : AC) (x2 x6 : Int) (h1_3 h1_4 : AC) (x3 x7 : Int) : Option (List AC) :=
 (Qci [h1_2, I ((IntKind.i64.wrap (IntKind.i64.wrap (x2 + x6) + 1)).fdiv (2 ^ min (Int.toNat 1) IntKind.i64.bits)), h1_3, I 2]).bind fun o36 =>
 (Qci [h1_4, I ((IntKind.i64.wrap (IntKind.i64.wrap (x2 + x6) + 1)).fdiv (2 ^ min (Int.toNat 1) IntKind.i64.bits)), h1_3, I 2]).bind fun o37 =>
 some [jA o36 0, jA o37 0, I ((IntKind.i64.wrap (IntKind.i64.wrap (x2 + x6) + 1)).fdiv (2 ^ min (Int.toNat 1) IntKind.i64.bits)), I ((IntKind.i64.wrap (IntKind.i64.wrap (x3 + x7) + 1)).fdiv (2 ^ min (Int.toNat 1) IntKind.i64.bits)), B true]
attribute [go_sem] g_curve_Middle_3
abbrev g_curve_Middle_1 (Qci : Fn) (x2 x6 x3 x7 : Int) (h1_0 h1_1 : Bool) (h1_2 h1_3 h1_4 : AC) : Option (List AC) :=
 bif h1_0 then
 bif h1_1 then
 some [I 0, I 0, I 0, I 0, B false]
 else
 g_curve_Middle_3 Qci h1_2 x2 x6 h1_3 h1_4 x3 x7
 else
 g_curve_Middle_3 Qci h1_2 x2 x6 h1_3 h1_4 x3 x7
attribute [go_sem] g_curve_Middle_1
abbrev g_curve_Middle_2 (x9 : Bool) (Qci : Fn) (x2 x6 x3 x7 x0 x1 : Int) (Qb6 : Fn) (x4 x5 x8 : Int) (Qbq : Fn) : Option (List AC) :=
 bif x9 then
 g_curve_Middle_1 Qci x2 x6 x3 x7 (IntKind.i64.wrap (0 - x0) == 0) (IntKind.i64.wrap (0 - x1) == 0) (I (IntKind.i64.wrap (0 - x0))) (I (IntKind.i64.wrap (IntKind.i64.wrap (IntKind.i64.wrap (0 - x0) * IntKind.i64.wrap (0 - x0)) + IntKind.i64.wrap (IntKind.i64.wrap (0 - x1) * IntKind.i64.wrap (0 - x1))))) (I (IntKind.i64.wrap (0 - x1)))
 else
 (Qb6 [I x0, I x1, I x2, I x3, I x4, I x5, I x6, I x7]).bind fun o40 =>
 bif decide (gA o40 0 <= 0) then
 g_curve_Middle_1 Qci x2 x6 x3 x7 (IntKind.i64.wrap (x8 * IntKind.i64.wrap (x5 - x1)) == 0) (IntKind.i64.wrap (x8 * IntKind.i64.wrap (x0 - x4)) == 0) (I (IntKind.i64.wrap (x8 * IntKind.i64.wrap (x5 - x1)))) (I (IntKind.i64.wrap (IntKind.i64.wrap (IntKind.i64.wrap (x8 * IntKind.i64.wrap (x5 - x1)) * IntKind.i64.wrap (x8 * IntKind.i64.wrap (x5 - x1))) + IntKind.i64.wrap (IntKind.i64.wrap (x8 * IntKind.i64.wrap (x0 - x4)) * IntKind.i64.wrap (x8 * IntKind.i64.wrap (x0 - x4)))))) (I (IntKind.i64.wrap (x8 * IntKind.i64.wrap (x0 - x4))))
 else
 (Qbq [I x0, I x1, I x2, I x3, I x4, I x5, I x6, I x7]).bind fun o45 =>
 bif decide (IntKind.i64.wrap (gA o45 0 * x8) <= 0) then
 g_curve_Middle_1 Qci x2 x6 x3 x7 (IntKind.i64.wrap (0 - IntKind.i64.wrap (x0 + x4)) == 0) (IntKind.i64.wrap (0 - IntKind.i64.wrap (x1 + x5)) == 0) (I (IntKind.i64.wrap (0 - IntKind.i64.wrap (x0 + x4)))) (I (IntKind.i64.wrap (IntKind.i64.wrap (IntKind.i64.wrap (0 - IntKind.i64.wrap (x0 + x4)) * IntKind.i64.wrap (0 - IntKind.i64.wrap (x0 + x4))) + IntKind.i64.wrap (IntKind.i64.wrap (0 - IntKind.i64.wrap (x1 + x5)) * IntKind.i64.wrap (0 - IntKind.i64.wrap (x1 + x5)))))) (I (IntKind.i64.wrap (0 - IntKind.i64.wrap (x1 + x5))))
 else
 g_curve_Middle_1 Qci x2 x6 x3 x7 (IntKind.i64.wrap (x0 + x4) == 0) (IntKind.i64.wrap (x1 + x5) == 0) (I (IntKind.i64.wrap (x0 + x4))) (I (IntKind.i64.wrap (IntKind.i64.wrap (IntKind.i64.wrap (x0 + x4) * IntKind.i64.wrap (x0 + x4)) + IntKind.i64.wrap (IntKind.i64.wrap (x1 + x5) * IntKind.i64.wrap (x1 + x5))))) (I (IntKind.i64.wrap (x1 + x5)))
attribute [go_sem] g_curve_Middle_2
theorem mf_curve_Middle_eq (Qci Qbq Qb6 : Fn) (x0 x1 x2 x3 x4 x5 x6 x7 x8 : Int) (x9 : Bool) : mf_curve_Middle Qci Qbq Qb6 [I x0, I x1, I x2, I x3, I x4, I x5, I x6, I x7, I x8, B x9] =
 bif x8 != 1 then
 bif x8 != -1 then
 some [I 0, I 0, I 0, I 0, B false]
 else
 g_curve_Middle_2 x9 Qci x2 x6 x3 x7 x0 x1 Qb6 x4 x5 x8 Qbq
 else
 g_curve_Middle_2 x9 Qci x2 x6 x3 x7 x0 x1 Qb6 x4 x5 x8 Qbq := by kernel_rfl
def m_curve_Middle := mf_curve_Middle m_wide_Over Qe5 Qg2 
theorem sp_curve_Middle : Qak Tryz.prog (C_curve_Middle_0 m_wide_Over Qe5 Qg2) := Qae rfl ⟨r_wide_Over, r_curve_cross, r_curve_dot, trivial⟩
theorem r_curve_Middle : Qbm Tryz.prog (188, spOf sig_curve_Middle osig_curve_Middle m_curve_Middle) := Qa0 (C := (C_curve_Middle_0 m_wide_Over Qe5 Qg2)) (L := 64) (by kernel_rfl) (FnOK.bare rfl rfl rfl) sp_curve_Middle eqOk Qa9 (by kernel_rfl) (by kernel_rfl)
def sig_curve_Flat : Sk := { tmps := [tf [ci], tf [ci]], boxes := [], rows := [] }
def osig_curve_Flat : Sk := { tmps := [tf [CS.bool]], boxes := [], rows := [] }
def C_curve_Flat_0 : Cfg := { spec := Qbx [], eqOk := Qb2, ownOff := ownOff }
def mf_curve_Flat : Fn := Qax Tryz.prog C_curve_Flat_0 64 193 sig_curve_Flat osig_curve_Flat
theorem mf_curve_Flat_eq (x0 x1 : Int) : mf_curve_Flat [I x0, I x1] =
 some [B (decide (x1 <= IntKind.i64.wrap (IntKind.i64.wrap (IntKind.i64.wrap (8 * x0) * 4) - 64)))] := by kernel_rfl
def m_curve_Flat := mf_curve_Flat 
theorem sp_curve_Flat : Qak Tryz.prog (C_curve_Flat_0 ) := Qae rfl trivial
theorem r_curve_Flat : Qbm Tryz.prog (193, spOf sig_curve_Flat osig_curve_Flat m_curve_Flat) := Qa0 (C := C_curve_Flat_0) (L := 64) (by kernel_rfl) (FnOK.bare rfl rfl rfl) sp_curve_Flat eqOk Qa9 (by kernel_rfl) (by kernel_rfl)
def sig_curve_cutter_settled : Sk := { tmps := [tf [CS.ptr 20000 0], TS.v true [ci, ci, ci, ci], TS.v true [ci, ci, ci, ci], tf [CS.bool]], boxes := [(20000, 187, [ci, CS.own 20000 4])], rows := [(20000, 154, [kI, kI, kI, kI])] }
def osig_curve_cutter_settled : Sk := { tmps := [tf [CS.bool]], boxes := [(20000, 187, [ci, CS.own 20000 4])], rows := [(20000, 154, [kI, kI, kI, kI])] }
def C_curve_cutter_settled_0 (M_curve_Flat Qbq : Fn) : Cfg := { spec := Qbx [(193, spOf sig_curve_Flat osig_curve_Flat M_curve_Flat), (143, spOf sig_curve_cross osig_curve_cross Qbq)], eqOk := Qb2, ownOff := ownOff }
def mf_curve_cutter_settled (M_curve_Flat Qbq : Fn) : Fn := Qax Tryz.prog (C_curve_cutter_settled_0 M_curve_Flat Qbq) 64 187 sig_curve_cutter_settled osig_curve_cutter_settled
theorem mf_curve_cutter_settled_eq (M_curve_Flat Qbq : Fn) (x0 : Rw) (x1 x2 x3 x4 x5 x6 x7 x8 : Int) (x9 : Bool) (x10 : Int) : mf_curve_cutter_settled M_curve_Flat Qbq [.view [kI, kI, kI, kI] x0, I x1, I x2, I x3, I x4, I x5, I x6, I x7, I x8, B x9, I x10] =
 bif !x9 then
 (Qbq [I x1, I x2, I x3, I x4, I x5, I x6, I x7, I x8]).bind fun o2 =>
 bif decide (IntKind.i64.wrap (gA o2 0 * x10) > 0) then
 (M_curve_Flat [I (mn x3 x7), I (IntKind.i64.wrap (IntKind.i64.wrap (IntKind.i64.wrap (x1 - x5) * IntKind.i64.wrap (x1 - x5)) + IntKind.i64.wrap (IntKind.i64.wrap (x2 - x6) * IntKind.i64.wrap (x2 - x6))))]).bind fun o3 =>
 some [.view [kI, kI, kI, kI] x0, B (bA o3 0), I x10]
 else
 some [.view [kI, kI, kI, kI] x0, B false, I x10]
 else
 some [.view [kI, kI, kI, kI] x0, B false, I x10] := by kernel_rfl
def Qd8 := mf_curve_cutter_settled m_curve_Flat Qe5 
theorem sp_curve_cutter_settled : Qak Tryz.prog (C_curve_cutter_settled_0 m_curve_Flat Qe5) := Qae rfl ⟨r_curve_Flat, r_curve_cross, trivial⟩
theorem r_curve_cutter_settled : Qbm Tryz.prog (187, spOf sig_curve_cutter_settled osig_curve_cutter_settled Qd8) := Qa0 (C := (C_curve_cutter_settled_0 m_curve_Flat Qe5)) (L := 64) (by kernel_rfl) (FnOK.bare rfl rfl rfl) sp_curve_cutter_settled eqOk Qa9 (by kernel_rfl) (by kernel_rfl)
def fuel_curve_cutter_piece : Nat := 20
def Qda : Sk := { tmps := [tf [CS.ptr 20000 0], TS.v true [ci, ci, ci, ci], TS.v true [ci, ci, ci, ci], tf [CS.bool], tf [ci]], boxes := [(20000, 187, [ci, CS.own 20000 4])], rows := [(20000, 154, [kI, kI, kI, kI])] }
def Qc9 : Sk := { tmps := [TS.tup []], boxes := [(20000, 187, [ci, CS.own 20000 4])], rows := [(20000, 154, [kI, kI, kI, kI])] }
def C_curve_cutter_piece_0 (Qbz M_curve_Middle Qew : Fn) : Cfg := { spec := Qbx [(175, spOf Qda Qc9 Qbz), (188, spOf sig_curve_Middle osig_curve_Middle M_curve_Middle), (187, spOf sig_curve_cutter_settled osig_curve_cutter_settled Qew)], eqOk := Qb2, pure := fun f => !(Qft [175, 187] f), ownOff := ownOff }
def mf_curve_cutter_piece (Qbz M_curve_Middle Qew : Fn) : Fn := Qax Tryz.prog (C_curve_cutter_piece_0 Qbz M_curve_Middle Qew) 64 175 Qda Qc9
theorem mf_curve_cutter_piece_eq (Qbz M_curve_Middle Qew : Fn) (x0 : Rw) (x1 x2 x3 x4 x5 x6 x7 x8 : Int) (x9 : Bool) (x10 x11 : Int) : mf_curve_cutter_piece Qbz M_curve_Middle Qew [.view [kI, kI, kI, kI] x0, I x1, I x2, I x3, I x4, I x5, I x6, I x7, I x8, B x9, I x10, I x11] =
 bif decide (x10 < 16) then
 (Qew [.view [kI, kI, kI, kI] x0, I x1, I x2, I x3, I x4, I x5, I x6, I x7, I x8, B x9, I x11]).bind fun o4 =>
 bif !bA o4 1 then
 (M_curve_Middle [I x1, I x2, I x3, I x4, I x5, I x6, I x7, I x8, jA o4 2, B x9]).bind fun o5 =>
 bif bA o5 4 then
 (Qbz [.view [kI, kI, kI, kI] (wA o4 0), I x1, I x2, I x3, I x4, jA o5 0, jA o5 1, jA o5 2, jA o5 3, B false, I (IntKind.i64.wrap (x10 + 1)), jA o4 2]).bind fun o6 =>
 (Qbz [.view [kI, kI, kI, kI] (wA o6 0), jA o5 0, jA o5 1, jA o5 2, jA o5 3, I x5, I x6, I x7, I x8, B false, I (IntKind.i64.wrap (x10 + 1)), jA o6 1]).bind fun o7 =>
 some [.view [kI, kI, kI, kI] (wA o7 0), jA o7 1]
 else
 bif ((wA o4 0 ++ [[I x5, I x6, I x7, I x8]]).length * 32).ble 140737488355328 then
 some [.view [kI, kI, kI, kI] (wA o4 0 ++ [[I x5, I x6, I x7, I x8]]), jA o4 2]
 else
 none
 else
 bif ((wA o4 0 ++ [[I x5, I x6, I x7, I x8]]).length * 32).ble 140737488355328 then
 some [.view [kI, kI, kI, kI] (wA o4 0 ++ [[I x5, I x6, I x7, I x8]]), jA o4 2]
 else
 none
 else
 bif ((x0 ++ [[I x5, I x6, I x7, I x8]]).length * 32).ble 140737488355328 then
 some [.view [kI, kI, kI, kI] (x0 ++ [[I x5, I x6, I x7, I x8]]), I x11]
 else
 none := by kernel_rfl
def mG_curve_cutter_piece (M : Fn) : Fn := mf_curve_cutter_piece M m_curve_Middle Qd8 
def Qfc : Nat -> Fn
 | 0 => fun _ => none
 | n + 1 => mG_curve_cutter_piece (Qfc n)
theorem sp_curve_cutter_piece {M : Fn} (h : Qbm Tryz.prog (175, spOf Qda Qc9 M)) : Qak Tryz.prog (C_curve_cutter_piece_0 M m_curve_Middle Qd8) := Qae rfl ⟨h, r_curve_Middle, r_curve_cutter_settled, trivial⟩
theorem rG_curve_cutter_piece {M : Fn} (h : Qbm Tryz.prog (175, spOf Qda Qc9 M)) : Qbm Tryz.prog (175, spOf Qda Qc9 (mG_curve_cutter_piece M)) := Qa0 (C := (C_curve_cutter_piece_0 M m_curve_Middle Qd8)) (L := 64) (by kernel_rfl) (FnOK.bare rfl rfl rfl) (sp_curve_cutter_piece h) eqOk Qa9 (by kernel_rfl) (by kernel_rfl)
theorem rR_curve_cutter_piece : ∀ n, Qbm Tryz.prog (175, spOf Qda Qc9 (Qfc n))
 | 0 => row_none
 | n + 1 => rG_curve_cutter_piece (rR_curve_cutter_piece n)
def m_curve_cutter_piece := Qfc fuel_curve_cutter_piece
theorem r_curve_cutter_piece : Qbm Tryz.prog (175, spOf Qda Qc9 m_curve_cutter_piece) := rR_curve_cutter_piece fuel_curve_cutter_piece
def sig_curve_ends : Sk := { tmps := [TS.v true [ci, ci, ci, ci, ci, ci, ci, ci, ci, ci, ci, ci, ci, CS.bool, ci, CS.bool, ci, ci, ci, ci, ci, CS.bool]], boxes := [], rows := [] }
def osig_curve_ends : Sk := { tmps := [TS.tup [(true, [ci, ci, ci, ci]), (true, [ci, ci, ci, ci])]], boxes := [], rows := [] }
def C_curve_ends_0 (Qbh Qa4 : Fn) : Cfg := { spec := Qbx [(158, spOf sig_curve_Plane osig_curve_Plane Qbh), (159, spOf sig_curve_scaled osig_curve_scaled Qa4)], eqOk := Qb2, ownOff := ownOff }
def sk_curve_ends_4 : Sk := { tmps := [td, tf [CS.ptr 1 0], tf [CS.ptr 2 0], tf [CS.ptr 3 0], tf [CS.ptr 4 0], tf [ci], tf [ci], td, td, td, td, td, td, td, td, td, td, td, td, td, td, td, td, td, td, td, td, TS.v true [ci, ci, ci, ci, ci, ci], tf [ci]] ++ dd 27, boxes := [(1, 67, [ci, ci, ci, ci, ci, ci, ci, ci, ci, ci, ci, ci, ci, CS.bool, ci, CS.bool, ci, ci, ci, ci, ci, CS.bool]), (2, 154, [ci, ci, ci, ci]), (3, 154, [ci, ci, ci, ci]), (4, 173, [ci, ci, ci, ci, ci, ci, ci, ci])], rows := [] }
def ex_curve_ends_4 : List (Ex × Sk) := [(Ex.exit 0, { tmps := [td, td, tf [CS.ptr 2 0], tf [CS.ptr 3 0], tf [CS.ptr 4 0]] ++ dd 51, boxes := [(2, 154, [ci, ci, ci, ci]), (3, 154, [ci, ci, ci, ci]), (4, 173, [ci, ci, ci, ci, ci, ci, ci, ci])], rows := [] })]
def st_curve_ends_4 (Qbh Qa4 : Fn) : Lp := stepL Tryz.prog (C_curve_ends_0 Qbh Qa4) 64 4 (Qf0 Tryz.prog 140 4) sk_curve_ends_4 ex_curve_ends_4
def C_curve_ends_1 (Qbh Qa4 : Fn) (N4 : Lp) : Cfg := (C_curve_ends_0 Qbh Qa4).loop 4 sk_curve_ends_4 ex_curve_ends_4 N4
def mf_curve_ends (Qbh Qa4 : Fn) (N4 : Lp) : Fn := Qax Tryz.prog (C_curve_ends_1 Qbh Qa4 N4) 64 140 sig_curve_ends osig_curve_ends
abbrev g_s_curve_ends_4_1 (Qa4 Qbh : Fn) (v17 v8 v0 v1 v2 v3 v4 v5 v6 v7 v9 v10 v11 v12 v13 v14 v15 v16 v18 v19 v20 v21 : Int) (v22 : Bool) (v23 : Int) (v24 : Bool) (v25 v26 v27 v28 v29 : Int) (v30 : Bool) (v31 v32 v33 v34 v35 v36 v37 v38 v43 v44 v45 v46 v39 v40 v41 v42 : Int) (h1_0 h1_1 h1_2 : AC) : Option (Nat × List AC) :=
 (Qa4 [h1_0, h1_1, h1_2]).bind fun o9 =>
 (Qbh [jA o9 0, jA o9 1, jA o9 2, I v17]).bind fun o10 =>
 bif decide (v8 = (↑0 : Int)) then
 some (0, [I v0, I v1, I v2, I v3, I v4, I v5, I v6, I v7, I (IntKind.i64.wrap (v8 + 1)), I v9, I v10, I v11, I v12, I v13, I v14, I v15, I v16, I v17, I v18, I v19, I v20, I v21, B v22, I v23, B v24, I v25, I v26, I v27, I v28, I v29, B v30, I v31, I v32, I v33, I v34, I v35, I v36, I v37, I v38, I (IntKind.i64.wrap (gA o10 0 - v0)), I (IntKind.i64.wrap (gA o10 1 - v1)), I 0, jA o10 2, I v43, I v44, I v45, I v46])
 else
 bif decide (v8 = (↑(0 + 1) : Int)) then
 some (0, [I v0, I v1, I v2, I v3, I v4, I v5, I v6, I v7, I (IntKind.i64.wrap (v8 + 1)), I v9, I v10, I v11, I v12, I v13, I v14, I v15, I v16, I v17, I v18, I v19, I v20, I v21, B v22, I v23, B v24, I v25, I v26, I v27, I v28, I v29, B v30, I v31, I v32, I v33, I v34, I v35, I v36, I v37, I v38, I v39, I v40, I v41, I v42, I (IntKind.i64.wrap (gA o10 0 - v0)), I (IntKind.i64.wrap (gA o10 1 - v1)), I 0, jA o10 2])
 else
 none
attribute [go_sem] g_s_curve_ends_4_1
theorem st_curve_ends_4_eq (Qbh Qa4 : Fn) (v0 v1 v2 v3 v4 v5 v6 v7 v8 v9 v10 v11 v12 v13 v14 v15 v16 v17 v18 v19 v20 v21 : Int) (v22 : Bool) (v23 : Int) (v24 : Bool) (v25 v26 v27 v28 v29 : Int) (v30 : Bool) (v31 v32 v33 v34 v35 v36 v37 v38 v39 v40 v41 v42 v43 v44 v45 v46 : Int) : st_curve_ends_4 Qbh Qa4 [I v0, I v1, I v2, I v3, I v4, I v5, I v6, I v7, I v8, I v9, I v10, I v11, I v12, I v13, I v14, I v15, I v16, I v17, I v18, I v19, I v20, I v21, B v22, I v23, B v24, I v25, I v26, I v27, I v28, I v29, B v30, I v31, I v32, I v33, I v34, I v35, I v36, I v37, I v38, I v39, I v40, I v41, I v42, I v43, I v44, I v45, I v46] =
 bif decide (v8 < 2) then
 bif decide (v8 = (↑0 : Int)) then
 g_s_curve_ends_4_1 Qa4 Qbh v17 v8 v0 v1 v2 v3 v4 v5 v6 v7 v9 v10 v11 v12 v13 v14 v15 v16 v18 v19 v20 v21 v22 v23 v24 v25 v26 v27 v28 v29 v30 v31 v32 v33 v34 v35 v36 v37 v38 v43 v44 v45 v46 v39 v40 v41 v42 (I v2) (I v3) (I v4)
 else
 bif decide (v8 = (↑(0 + 1) : Int)) then
 g_s_curve_ends_4_1 Qa4 Qbh v17 v8 v0 v1 v2 v3 v4 v5 v6 v7 v9 v10 v11 v12 v13 v14 v15 v16 v18 v19 v20 v21 v22 v23 v24 v25 v26 v27 v28 v29 v30 v31 v32 v33 v34 v35 v36 v37 v38 v43 v44 v45 v46 v39 v40 v41 v42 (I v5) (I v6) (I v7)
 else
 none
 else
 some (1, [I v31, I v32, I v33, I v34, I v35, I v36, I v37, I v38, I v39, I v40, I v41, I v42, I v43, I v44, I v45, I v46]) := by kernel_rfl
theorem mf_curve_ends_eq (Qbh Qa4 : Fn) (N4 : Lp) (x0 x1 x2 x3 x4 x5 x6 x7 x8 x9 x10 x11 x12 : Int) (x13 : Bool) (x14 : Int) (x15 : Bool) (x16 x17 x18 x19 x20 : Int) (x21 : Bool) : mf_curve_ends Qbh Qa4 N4 [I x0, I x1, I x2, I x3, I x4, I x5, I x6, I x7, I x8, I x9, I x10, I x11, I x12, B x13, I x14, B x15, I x16, I x17, I x18, I x19, I x20, B x21] =
 (Qa4 [I x9, I x10, I x11]).bind fun o13 =>
 (Qbh [jA o13 0, jA o13 1, jA o13 2, I x8]).bind fun o14 =>
 (N4 [jA o14 0, jA o14 1, I x2, I x3, I x4, I x5, I x6, I x7, I 0, I x0, I x1, I x2, I x3, I x4, I x5, I x6, I x7, I x8, I x9, I x10, I x11, I x12, B x13, I x14, B x15, I x16, I x17, I x18, I x19, I x20, B x21, I 0, I 0, I 0, I 0, I 0, I 0, I 0, I 0, I 0, I 0, I 0, I 0, I 0, I 0, I 0, I 0]).bind fun o15 =>
 bif o15.1.beq 1 then
 some [jA o15.2 8, jA o15.2 9, jA o15.2 10, jA o15.2 11, jA o15.2 12, jA o15.2 13, jA o15.2 14, jA o15.2 15]
 else
 none := by kernel_rfl
def l_curve_ends_4 := Qbl (st_curve_ends_4 Qge Qe0 )
def m_curve_ends := mf_curve_ends Qge Qe0 l_curve_ends_4
theorem sp_curve_ends : Qak Tryz.prog (C_curve_ends_0 Qge Qe0) := Qae rfl ⟨r_curve_Plane, r_curve_scaled, trivial⟩
theorem r_curve_ends : Qbm Tryz.prog (140, spOf sig_curve_ends osig_curve_ends m_curve_ends) := Qa0 (C := (C_curve_ends_1 Qge Qe0 l_curve_ends_4)) (L := 64) (by kernel_rfl) ((FnOK.bare rfl rfl rfl).loop sp_curve_ends eqOk Qa9 (by kernel_rfl) (by kernel_rfl)) sp_curve_ends eqOk Qa9 (by kernel_rfl) (by kernel_rfl)
def sig_wide_Cmp : Sk := { tmps := [tf [ci], tf [ci], tf [ci], tf [ci]], boxes := [], rows := [] }
def osig_wide_Cmp : Sk := { tmps := [tf [ci]], boxes := [], rows := [] }
def C_wide_Cmp_0 (Qcl Qaw Qcf Qcw : Fn) : Cfg := { spec := Qbx [(174, spOf sig_wide_compare osig_wide_compare Qcl), (100, spOf Qio Qhu Qaw), (101, spOf sig_wide_size osig_wide_size Qcf), (103, spOf sig_wide_sign osig_wide_sign Qcw)], eqOk := Qb2, ownOff := ownOff }
def mf_wide_Cmp (Qcl Qaw Qcf Qcw : Fn) : Fn := Qax Tryz.prog (C_wide_Cmp_0 Qcl Qaw Qcf Qcw) 64 160 sig_wide_Cmp osig_wide_Cmp
theorem mf_wide_Cmp_eq (Qcl Qaw Qcf Qcw : Fn) (x0 x1 x2 x3 : Int) : mf_wide_Cmp Qcl Qaw Qcf Qcw [I x0, I x1, I x2, I x3] =
 (Qcw [I x0, I x1]).bind fun o9 =>
 (Qcw [I x2, I x3]).bind fun o10 =>
 bif gA o9 0 != gA o10 0 then
 bif decide (gA o9 0 < gA o10 0) then
 some [I (-1)]
 else
 some [I 1]
 else
 (Qcf [I x0]).bind fun o11 =>
 (Qcf [I x1]).bind fun o12 =>
 (Qaw [U (gA o11 0), U (gA o12 0)]).bind fun o13 =>
 (Qcf [I x2]).bind fun o14 =>
 (Qcf [I x3]).bind fun o15 =>
 (Qaw [U (gA o14 0), U (gA o15 0)]).bind fun o16 =>
 (Qcl [U (gA o13 0), U (gA o13 1), U (gA o16 0), U (gA o16 1)]).bind fun o17 =>
 some [I (IntKind.i64.wrap (gA o9 0 * gA o17 0))] := by kernel_rfl
def m_wide_Cmp := mf_wide_Cmp Qfj Qcq Qga Qf8 
theorem sp_wide_Cmp : Qak Tryz.prog (C_wide_Cmp_0 Qfj Qcq Qga Qf8) := Qae rfl ⟨r_wide_compare, r_wide_product, r_wide_size, r_wide_sign, trivial⟩
theorem r_wide_Cmp : Qbm Tryz.prog (160, spOf sig_wide_Cmp osig_wide_Cmp m_wide_Cmp) := Qa0 (C := (C_wide_Cmp_0 Qfj Qcq Qga Qf8)) (L := 64) (by kernel_rfl) (FnOK.bare rfl rfl rfl) sp_wide_Cmp eqOk Qa9 (by kernel_rfl) (by kernel_rfl)
def sig_curve_near : Sk := { tmps := [tf [ci], tf [ci]], boxes := [], rows := [] }
def osig_curve_near : Sk := { tmps := [tf [CS.bool]], boxes := [], rows := [] }
def C_curve_near_0 (M_wide_Cmp : Fn) : Cfg := { spec := Qbx [(160, spOf sig_wide_Cmp osig_wide_Cmp M_wide_Cmp)], eqOk := Qb2, ownOff := ownOff }
def mf_curve_near (M_wide_Cmp : Fn) : Fn := Qax Tryz.prog (C_curve_near_0 M_wide_Cmp) 64 142 sig_curve_near osig_curve_near
theorem mf_curve_near_eq (M_wide_Cmp : Fn) (x0 x1 : Int) : mf_curve_near M_wide_Cmp [I x0, I x1] =
 bif decide (IntKind.i64.wrap (IntKind.i64.wrap (mx x0 x1 - mn x0 x1) - 16) <= 0) then
 some [B true]
 else
 (M_wide_Cmp [I (IntKind.i64.wrap (IntKind.i64.wrap (mx x0 x1 - mn x0 x1) - 16)), I (IntKind.i64.wrap (IntKind.i64.wrap (mx x0 x1 - mn x0 x1) - 16)), I 64, I (mn x0 x1)]).bind fun o1 =>
 some [B (decide (gA o1 0 <= 0))] := by kernel_rfl
def m_curve_near := mf_curve_near m_wide_Cmp 
theorem sp_curve_near : Qak Tryz.prog (C_curve_near_0 m_wide_Cmp) := Qae rfl ⟨r_wide_Cmp, trivial⟩
theorem r_curve_near : Qbm Tryz.prog (142, spOf sig_curve_near osig_curve_near m_curve_near) := Qa0 (C := (C_curve_near_0 m_wide_Cmp)) (L := 64) (by kernel_rfl) (FnOK.bare rfl rfl rfl) sp_curve_near eqOk Qa9 (by kernel_rfl) (by kernel_rfl)
def sig_curve_within : Sk := { tmps := [TS.v true [ci, ci, ci]], boxes := [], rows := [] }
def osig_curve_within : Sk := { tmps := [tf [CS.bool]], boxes := [], rows := [] }
def C_curve_within_0 : Cfg := { spec := Qbx [], eqOk := Qb2, ownOff := ownOff, unroll := [2] }
def mf_curve_within : Fn := Qax Tryz.prog C_curve_within_0 64 138 sig_curve_within osig_curve_within
theorem mf_curve_within_eq (x0 x1 x2 : Int) : mf_curve_within [I x0, I x1, I x2] =
 bif decide (x0 < -1048576) then
 some [B false]
 else
 bif decide (x0 > 1048576) then
 some [B false]
 else
 bif decide (x1 < -1048576) then
 some [B false]
 else
 bif decide (x1 > 1048576) then
 some [B false]
 else
 bif decide (x2 < -1048576) then
 some [B false]
 else
 bif decide (x2 > 1048576) then
 some [B false]
 else
 some [B true] := by kernel_rfl
def m_curve_within := mf_curve_within 
theorem sp_curve_within : Qak Tryz.prog (C_curve_within_0 ) := Qae rfl trivial
theorem r_curve_within : Qbm Tryz.prog (138, spOf sig_curve_within osig_curve_within m_curve_within) := Qa0 (C := C_curve_within_0) (L := 64) (by kernel_rfl) (FnOK.bare rfl rfl rfl) sp_curve_within eqOk Qa9 (by kernel_rfl) (by kernel_rfl)
def sig_curve_Valid : Sk := { tmps := [TS.v true [ci, ci, ci, ci, ci, ci, ci, ci, ci, ci, ci, ci, ci, CS.bool, ci, CS.bool, ci, ci, ci, ci, ci, CS.bool]], boxes := [], rows := [] }
def osig_curve_Valid : Sk := { tmps := [tf [CS.bool]], boxes := [], rows := [] }
def C_curve_Valid_0 (Qbq M_curve_near Qb6 Qd6 Qcx Qex : Fn) : Cfg := { spec := Qbx [(143, spOf sig_curve_cross osig_curve_cross Qbq), (142, spOf sig_curve_near osig_curve_near M_curve_near), (141, spOf sig_curve_dot osig_curve_dot Qb6), (140, spOf sig_curve_ends osig_curve_ends Qd6), (139, spOf sig_curve_axes osig_curve_axes Qcx), (138, spOf sig_curve_within osig_curve_within Qex)], eqOk := Qb2, ownOff := ownOff }
def mf_curve_Valid (Qbq M_curve_near Qb6 Qd6 Qcx Qex : Fn) : Fn := Qax Tryz.prog (C_curve_Valid_0 Qbq M_curve_near Qb6 Qd6 Qcx Qex) 64 126 sig_curve_Valid osig_curve_Valid
abbrev g_curve_Valid_1 (Qex : Fn) (x9 x10 x11 : Int) (Qd6 : Fn) (x0 x1 x2 x3 x4 x5 x6 x7 x8 x12 : Int) (x13 : Bool) (x14 : Int) (x15 : Bool) (x16 x17 x18 x19 x20 : Int) (x21 : Bool) (Qb6 M_curve_near Qbq : Fn) : Option (List AC) :=
 (Qex [I x9, I x10, I x11]).bind fun o20 =>
 bif !bA o20 0 then
 some [B false]
 else
 (Qd6 [I x0, I x1, I x2, I x3, I x4, I x5, I x6, I x7, I x8, I x9, I x10, I x11, I x12, B x13, I x14, B x15, I x16, I x17, I x18, I x19, I x20, B x21]).bind fun o21 =>
 (Qb6 [jA o21 0, jA o21 1, jA o21 2, jA o21 3, jA o21 0, jA o21 1, jA o21 2, jA o21 3]).bind fun o22 =>
 (Qb6 [jA o21 4, jA o21 5, jA o21 6, jA o21 7, jA o21 4, jA o21 5, jA o21 6, jA o21 7]).bind fun o23 =>
 bif decide (gA o22 0 < IntKind.i64.wrap (128 * 128)) then
 some [B false]
 else
 bif decide (gA o23 0 < IntKind.i64.wrap (128 * 128)) then
 some [B false]
 else
 (M_curve_near [I (IntKind.i64.wrap ((gA o22 0).tdiv 256)), I (IntKind.i64.wrap ((gA o23 0).tdiv 256))]).bind fun o24 =>
 bif !bA o24 0 then
 some [B false]
 else
 bif x13 then
 bif gA o21 0 == gA o21 4 then
 some [B (gA o21 1 == gA o21 5)]
 else
 some [B false]
 else
 (Qbq [jA o21 0, jA o21 1, jA o21 2, jA o21 3, jA o21 4, jA o21 5, jA o21 6, jA o21 7]).bind fun o25 =>
 bif gA o25 0 != 0 then
 some [B true]
 else
 (Qb6 [jA o21 0, jA o21 1, jA o21 2, jA o21 3, jA o21 4, jA o21 5, jA o21 6, jA o21 7]).bind fun o26 =>
 some [B (decide (gA o26 0 < 0))]
attribute [go_sem] g_curve_Valid_1
theorem mf_curve_Valid_eq (Qbq M_curve_near Qb6 Qd6 Qcx Qex : Fn) (x0 x1 x2 x3 x4 x5 x6 x7 x8 x9 x10 x11 x12 : Int) (x13 : Bool) (x14 : Int) (x15 : Bool) (x16 x17 x18 x19 x20 : Int) (x21 : Bool) : mf_curve_Valid Qbq M_curve_near Qb6 Qd6 Qcx Qex [I x0, I x1, I x2, I x3, I x4, I x5, I x6, I x7, I x8, I x9, I x10, I x11, I x12, B x13, I x14, B x15, I x16, I x17, I x18, I x19, I x20, B x21] =
 bif decide (x0 < 1) then
 some [B false]
 else
 bif decide (x0 > 6) then
 some [B false]
 else
 (Qex [I x2, I x3, I x4]).bind fun o17 =>
 bif !bA o17 0 then
 some [B false]
 else
 (Qex [I x5, I x6, I x7]).bind fun o18 =>
 bif !bA o18 0 then
 some [B false]
 else
 bif x0 != 3 then
 some [B true]
 else
 (Qcx [I x8]).bind fun o19 =>
 bif !bA o19 3 then
 some [B false]
 else
 bif x12 != 1 then
 bif x12 != -1 then
 some [B false]
 else
 g_curve_Valid_1 Qex x9 x10 x11 Qd6 x0 x1 x2 x3 x4 x5 x6 x7 x8 x12 x13 x14 x15 x16 x17 x18 x19 x20 x21 Qb6 M_curve_near Qbq
 else
 g_curve_Valid_1 Qex x9 x10 x11 Qd6 x0 x1 x2 x3 x4 x5 x6 x7 x8 x12 x13 x14 x15 x16 x17 x18 x19 x20 x21 Qb6 M_curve_near Qbq := by kernel_rfl
def Qe6 := mf_curve_Valid Qe5 m_curve_near Qg2 m_curve_ends Qev m_curve_within 
theorem sp_curve_Valid : Qak Tryz.prog (C_curve_Valid_0 Qe5 m_curve_near Qg2 m_curve_ends Qev m_curve_within) := Qae rfl ⟨r_curve_cross, r_curve_near, r_curve_dot, r_curve_ends, r_curve_axes, r_curve_within, trivial⟩
theorem r_curve_Valid : Qbm Tryz.prog (126, spOf sig_curve_Valid osig_curve_Valid Qe6) := Qa0 (C := (C_curve_Valid_0 Qe5 m_curve_near Qg2 m_curve_ends Qev m_curve_within)) (L := 64) (by kernel_rfl) (FnOK.bare rfl rfl rfl) sp_curve_Valid eqOk Qa9 (by kernel_rfl) (by kernel_rfl)
def sig_curve_Spokes : Sk := { tmps := [TS.v true [ci, ci, ci, ci, ci, ci, ci, ci, ci, ci, ci, ci, ci, CS.bool, ci, CS.bool, ci, ci, ci, ci, ci, CS.bool]], boxes := [], rows := [] }
def osig_curve_Spokes : Sk := { tmps := [TS.tup [(false, [CS.sl [kI, kI, kI, kI]]), (false, [CS.bool])]], boxes := [], rows := [] }
def C_curve_Spokes_0 (Qbz Qfo Qb6 Qd6 Qbs : Fn) : Cfg := { spec := Qbx [(175, spOf Qda Qc9 Qbz), (118, spOf sig_wide_Sqrt osig_wide_Sqrt Qfo), (141, spOf sig_curve_dot osig_curve_dot Qb6), (140, spOf sig_curve_ends osig_curve_ends Qd6), (126, spOf sig_curve_Valid osig_curve_Valid Qbs)], eqOk := Qb2, pure := fun f => !(Qft [175] f), ownOff := ownOff, rowDst := [39] }
def mf_curve_Spokes (Qbz Qfo Qb6 Qd6 Qbs : Fn) : Fn := Qax Tryz.prog (C_curve_Spokes_0 Qbz Qfo Qb6 Qd6 Qbs) 64 161 sig_curve_Spokes osig_curve_Spokes
theorem mf_curve_Spokes_eq (Qbz Qfo Qb6 Qd6 Qbs : Fn) (x0 x1 x2 x3 x4 x5 x6 x7 x8 x9 x10 x11 x12 : Int) (x13 : Bool) (x14 : Int) (x15 : Bool) (x16 x17 x18 x19 x20 : Int) (x21 : Bool) : mf_curve_Spokes Qbz Qfo Qb6 Qd6 Qbs [I x0, I x1, I x2, I x3, I x4, I x5, I x6, I x7, I x8, I x9, I x10, I x11, I x12, B x13, I x14, B x15, I x16, I x17, I x18, I x19, I x20, B x21] =
 bif x0 != 3 then
 some [.view [kI, kI, kI, kI] [], B false]
 else
 (Qbs [I x0, I x1, I x2, I x3, I x4, I x5, I x6, I x7, I x8, I x9, I x10, I x11, I x12, B x13, I x14, B x15, I x16, I x17, I x18, I x19, I x20, B x21]).bind fun o7 =>
 bif !bA o7 0 then
 some [.view [kI, kI, kI, kI] [], B false]
 else
 (Qd6 [I x0, I x1, I x2, I x3, I x4, I x5, I x6, I x7, I x8, I x9, I x10, I x11, I x12, B x13, I x14, B x15, I x16, I x17, I x18, I x19, I x20, B x21]).bind fun o8 =>
 (Qb6 [jA o8 0, jA o8 1, jA o8 2, jA o8 3, jA o8 0, jA o8 1, jA o8 2, jA o8 3]).bind fun o9 =>
 (Qfo [jA o9 0, I 2]).bind fun o10 =>
 (Qb6 [jA o8 4, jA o8 5, jA o8 6, jA o8 7, jA o8 4, jA o8 5, jA o8 6, jA o8 7]).bind fun o11 =>
 (Qfo [jA o11 0, I 2]).bind fun o12 =>
 (Qbz [.view [kI, kI, kI, kI] [[jA o8 0, jA o8 1, jA o10 0, jA o8 3]], jA o8 0, jA o8 1, jA o10 0, jA o8 3, jA o8 4, jA o8 5, jA o12 0, jA o8 7, B x13, I 0, I x12]).bind fun o13 =>
 some [.view [kI, kI, kI, kI] (wA o13 0), B true] := by kernel_rfl
def m_curve_Spokes := mf_curve_Spokes m_curve_cutter_piece m_wide_Sqrt Qg2 m_curve_ends Qe6 
theorem sp_curve_Spokes : Qak Tryz.prog (C_curve_Spokes_0 m_curve_cutter_piece m_wide_Sqrt Qg2 m_curve_ends Qe6) := Qae rfl ⟨r_curve_cutter_piece, r_wide_Sqrt, r_curve_dot, r_curve_ends, r_curve_Valid, trivial⟩
theorem r_curve_Spokes : Qbm Tryz.prog (161, spOf sig_curve_Spokes osig_curve_Spokes m_curve_Spokes) := Qa0 (C := (C_curve_Spokes_0 m_curve_cutter_piece m_wide_Sqrt Qg2 m_curve_ends Qe6)) (L := 64) (by kernel_rfl) (FnOK.bare rfl rfl rfl) sp_curve_Spokes eqOk Qa9 (by kernel_rfl) (by kernel_rfl)
def sig_curve_Chords : Sk := { tmps := [TS.v true [ci, ci, ci, ci, ci, ci, ci, ci, ci, ci, ci, ci, ci, CS.bool, ci, CS.bool, ci, ci, ci, ci, ci, CS.bool]], boxes := [], rows := [] }
def osig_curve_Chords : Sk := { tmps := [TS.tup [(false, [CS.sl kPt]), (false, [CS.bool])]], boxes := [], rows := [] }
def C_curve_Chords_0 (Qe4 Qbh Qa4 Qeh Qbs : Fn) : Cfg := { spec := Qbx [(162, spOf sig_curve_Space osig_curve_Space Qe4), (158, spOf sig_curve_Plane osig_curve_Plane Qbh), (159, spOf sig_curve_scaled osig_curve_scaled Qa4), (161, spOf sig_curve_Spokes osig_curve_Spokes Qeh), (126, spOf sig_curve_Valid osig_curve_Valid Qbs)], eqOk := Qb2, ownOff := ownOff }
def sk_curve_Chords_9 : Sk := { tmps := [td, tf [CS.ptr 1 0], td, td, td, td, tf [ci], tf [ci], td, tf [CS.own 41 3], td, td, td, td, td, td, td, td, td, td, td, td, td, td, td, td, td, td, td, td, td, td, td, td, td, td, td, td, td, td, td, td, tf [CS.sl [kI, kI, kI, kI]], tf [ci], tf [ci]] ++ dd 22, boxes := [(1, 67, [ci, ci, ci, ci, ci, ci, ci, ci, ci, ci, ci, ci, ci, CS.bool, ci, CS.bool, ci, ci, ci, ci, ci, CS.bool])], rows := [(41, 25, kPt)] }
def ex_curve_Chords_9 : List (Ex × Sk) := [(Ex.exit 0, { tmps := [td, td, td, td, td, td, td, td, td, tf [CS.own 41 3]] ++ dd 57, boxes := [], rows := [(41, 25, kPt)] })]
def Qht (Qe4 Qbh Qa4 Qeh Qbs : Fn) : Lp := stepL Tryz.prog (C_curve_Chords_0 Qe4 Qbh Qa4 Qeh Qbs) 64 9 (Qf0 Tryz.prog 144 9) sk_curve_Chords_9 ex_curve_Chords_9
def C_curve_Chords_1 (Qe4 Qbh Qa4 Qeh Qbs : Fn) (N9 : Lp) : Cfg := (C_curve_Chords_0 Qe4 Qbh Qa4 Qeh Qbs).loop 9 sk_curve_Chords_9 ex_curve_Chords_9 N9
def mf_curve_Chords (Qe4 Qbh Qa4 Qeh Qbs : Fn) (N9 : Lp) : Fn := Qax Tryz.prog (C_curve_Chords_1 Qe4 Qbh Qa4 Qeh Qbs N9) 64 144 sig_curve_Chords osig_curve_Chords
theorem st_curve_Chords_9_eq (Qe4 Qbh Qa4 Qeh Qbs : Fn) (v0 : Rw) (v1 v2 : Int) (v3 : Rw) (v4 v5 v6 v7 v8 v9 v10 v11 v12 v13 v14 v15 v16 v17 v18 : Int) (v19 : Bool) (v20 : Int) (v21 : Bool) (v22 v23 v24 v25 v26 : Int) (v27 : Bool) : Qht Qe4 Qbh Qa4 Qeh Qbs [.view kPt v0, I v1, I v2, .view [kI, kI, kI, kI] v3, I v4, I v5, I v6, I v7, I v8, I v9, I v10, I v11, I v12, I v13, I v14, I v15, I v16, I v17, I v18, B v19, I v20, B v21, I v22, I v23, I v24, I v25, I v26, B v27] =
 bif decide (v5 < v4) then
 bif decide (0 <= v5) && decide (v5 < (v3.length : Int)) then
 (Qe4 [I (IntKind.i64.wrap (v1 + gA (nth [] v3 v5.toNat) 0)), I (IntKind.i64.wrap (v2 + gA (nth [] v3 v5.toNat) 1)), jA (nth [] v3 v5.toNat) 3, I v14]).bind fun o14 =>
 bif decide (0 <= v5) && decide (v5 < (v0.length : Int)) then
 some (0, [.view kPt (v0.set v5.toNat [jA o14 0, jA o14 1, jA o14 2]), I v1, I v2, .view [kI, kI, kI, kI] v3, I v4, I (IntKind.i64.wrap (v5 + 1)), I v6, I v7, I v8, I v9, I v10, I v11, I v12, I v13, I v14, I v15, I v16, I v17, I v18, B v19, I v20, B v21, I v22, I v23, I v24, I v25, I v26, B v27])
 else
 none
 else
 none
 else
 some (1, [.view kPt v0]) := by kernel_rfl
theorem mf_curve_Chords_eq (Qe4 Qbh Qa4 Qeh Qbs : Fn) (N9 : Lp) (x0 x1 x2 x3 x4 x5 x6 x7 x8 x9 x10 x11 x12 : Int) (x13 : Bool) (x14 : Int) (x15 : Bool) (x16 x17 x18 x19 x20 : Int) (x21 : Bool) : mf_curve_Chords Qe4 Qbh Qa4 Qeh Qbs N9 [I x0, I x1, I x2, I x3, I x4, I x5, I x6, I x7, I x8, I x9, I x10, I x11, I x12, B x13, I x14, B x15, I x16, I x17, I x18, I x19, I x20, B x21] =
 (Qbs [I x0, I x1, I x2, I x3, I x4, I x5, I x6, I x7, I x8, I x9, I x10, I x11, I x12, B x13, I x14, B x15, I x16, I x17, I x18, I x19, I x20, B x21]).bind fun o15 =>
 bif !bA o15 0 then
 some [.view kPt [], B false]
 else
 (Qeh [I x0, I x1, I x2, I x3, I x4, I x5, I x6, I x7, I x8, I x9, I x10, I x11, I x12, B x13, I x14, B x15, I x16, I x17, I x18, I x19, I x20, B x21]).bind fun o16 =>
 bif !bA o16 1 then
 (Qa4 [I x2, I x3, I x4]).bind fun o17 =>
 (Qa4 [I x5, I x6, I x7]).bind fun o18 =>
 some [.view kPt [[jA o17 0, jA o17 1, jA o17 2], [jA o18 0, jA o18 1, jA o18 2]], B true]
 else
 (Qa4 [I x9, I x10, I x11]).bind fun o19 =>
 (Qbh [jA o19 0, jA o19 1, jA o19 2, I x8]).bind fun o20 =>
 bif decide ((↑(wA o16 0).length : Int) = (↑(wA o16 0).length : Int)) then
 bif decide (0 <= (↑(wA o16 0).length : Int)) && decide ((↑(wA o16 0).length : Int) * (↑24 : Int) <= 140737488355328) then
 (N9 [.view kPt (List.replicate (↑(wA o16 0).length : Int).toNat [I 0, I 0, I 0]), jA o20 0, jA o20 1, .view [kI, kI, kI, kI] (wA o16 0), I (↑(wA o16 0).length : Int), I 0, I x0, I x1, I x2, I x3, I x4, I x5, I x6, I x7, I x8, I x9, I x10, I x11, I x12, B x13, I x14, B x15, I x16, I x17, I x18, I x19, I x20, B x21]).bind fun o21 =>
 bif o21.1.beq 1 then
 some [.view kPt (wA o21.2 0), B true]
 else
 none
 else
 none
 else
 none := by kernel_rfl
def l_curve_Chords_9 := Qbl (Qht m_curve_Space Qge Qe0 m_curve_Spokes Qe6 )
def m_curve_Chords := mf_curve_Chords m_curve_Space Qge Qe0 m_curve_Spokes Qe6 l_curve_Chords_9
theorem sp_curve_Chords : Qak Tryz.prog (C_curve_Chords_0 m_curve_Space Qge Qe0 m_curve_Spokes Qe6) := Qae rfl ⟨r_curve_Space, r_curve_Plane, r_curve_scaled, r_curve_Spokes, r_curve_Valid, trivial⟩
theorem r_curve_Chords : Qbm Tryz.prog (144, spOf sig_curve_Chords osig_curve_Chords m_curve_Chords) := Qa0 (C := (C_curve_Chords_1 m_curve_Space Qge Qe0 m_curve_Spokes Qe6 l_curve_Chords_9)) (L := 64) (by kernel_rfl) ((FnOK.bare rfl rfl rfl).loop sp_curve_Chords eqOk Qa9 (by kernel_rfl) (by kernel_rfl)) sp_curve_Chords eqOk Qa9 (by kernel_rfl) (by kernel_rfl)
end Go.Bm
