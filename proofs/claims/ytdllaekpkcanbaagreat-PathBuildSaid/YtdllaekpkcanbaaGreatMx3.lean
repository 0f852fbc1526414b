/- functions of the program and of the references, as models -/
import Derived.Test.YtdllaekpkcanbaaGreatMx2
set_option linter.unusedSimpArgs false
set_option linter.unusedVariables false
set_option maxRecDepth 100000
noncomputable section
namespace Go.Bm
open Go.Proofs
def sig_path_geared : Sk := { tmps := [TS.v true [ci, ci, ci, ci, ci, ci, ci, ci, ci, ci, ci, ci, ci, CS.bool, ci, CS.bool, ci, ci, ci, ci, ci, CS.bool]], boxes := [], rows := [] }
def Qpq : Sk := { tmps := [tf [CS.bool]], boxes := [], rows := [] }
def C_path_geared_0 : Cfg := { spec := Qby [], eqOk := Qb2, ownOff := ownOff }
def mf_path_geared : Fn := Qax Tryz.prog C_path_geared_0 64 128 sig_path_geared Qpq
theorem mf_path_geared_eq (x0 x1 x2 x3 x4 x5 x6 x7 x8 x9 x10 x11 x12 : Int) (x13 : Bool) (x14 : Int) (x15 : Bool) (x16 x17 x18 x19 x20 : Int) (x21 : Bool) : mf_path_geared [I x0, I x1, I x2, I x3, I x4, I x5, I x6, I x7, I x8, I x9, I x10, I x11, I x12, B x13, I x14, B x15, I x16, I x17, I x18, I x19, I x20, B x21] =
 bif x0 == 5 then
 some [B true]
 else
 some [B (x0 == 6)] := by kernel_rfl
def Qfp := mf_path_geared 
theorem sp_path_geared : Qaj Tryz.prog (C_path_geared_0 ) := Qae rfl trivial
theorem r_path_geared : Qbp Tryz.prog (128, spOf sig_path_geared Qpq Qfp) := Qa0 (C := C_path_geared_0) (L := 64) (by kernel_rfl) (FnOK.bare rfl rfl rfl) sp_path_geared eqOk Qa7 (by kernel_rfl) (by kernel_rfl)
def sig_path_exact : Sk := { tmps := [tf [CS.sl kItm], tf [ci]], boxes := [], rows := [] }
def osig_path_exact : Sk := { tmps := [tf [CS.bool]], boxes := [], rows := [] }
def C_path_exact_0 (Qag Qbv : Fn) : Cfg := { spec := Qby [(108, spOf Qjv Qio Qag), (128, spOf sig_path_geared Qpq Qbv)], eqOk := Qb2, ownOff := ownOff }
def sk_path_exact_4 : Sk := { tmps := [td, td, td, td, td, td, td, td, td, td, td, td, td, td, td, td, td, td, td, td, td, td, td, tf [CS.sl kItm], tf [ci], tf [ci]] ++ dd 9, boxes := [], rows := [] }
def ex_path_exact_4 : List (Ex × Sk) := [(Ex.ret, { tmps := [td, td, td, td, tf [CS.bool]] ++ dd 30, boxes := [], rows := [] }), (Ex.exit 0, { tmps := [td] ++ dd 34, boxes := [], rows := [] })]
def Qid (Qag Qbv : Fn) : Lp := Qkk Tryz.prog (C_path_exact_0 Qag Qbv) 64 4 (Qfk Tryz.prog 132 4) sk_path_exact_4 ex_path_exact_4
def C_path_exact_1 (Qag Qbv : Fn) (N4 : Lp) : Cfg := (C_path_exact_0 Qag Qbv).loop 4 sk_path_exact_4 ex_path_exact_4 N4
def mf_path_exact (Qag Qbv : Fn) (N4 : Lp) : Fn := Qax Tryz.prog (C_path_exact_1 Qag Qbv N4) 64 132 sig_path_exact osig_path_exact
theorem st_path_exact_4_eq (Qag Qbv : Fn) (v0 : Rw) (v1 v2 : Int) : Qid Qag Qbv [.view kItm v0, I v1, I v2] =
 bif decide (v2 < v1) then
 bif decide (0 <= v2) && decide (v2 < (v0.length : Int)) then
 (Qag [jA (nth [] v0 v2.toNat) 0]).bind fun o5 =>
 bif bA o5 0 then
 (Qbv [jA (nth [] v0 v2.toNat) 0, jA (nth [] v0 v2.toNat) 1, jA (nth [] v0 v2.toNat) 2, jA (nth [] v0 v2.toNat) 3, jA (nth [] v0 v2.toNat) 4, jA (nth [] v0 v2.toNat) 5, jA (nth [] v0 v2.toNat) 6, jA (nth [] v0 v2.toNat) 7, jA (nth [] v0 v2.toNat) 8, jA (nth [] v0 v2.toNat) 9, jA (nth [] v0 v2.toNat) 10, jA (nth [] v0 v2.toNat) 11, jA (nth [] v0 v2.toNat) 12, B (bA (nth [] v0 v2.toNat) 13), jA (nth [] v0 v2.toNat) 14, B (bA (nth [] v0 v2.toNat) 15), jA (nth [] v0 v2.toNat) 16, jA (nth [] v0 v2.toNat) 17, jA (nth [] v0 v2.toNat) 18, jA (nth [] v0 v2.toNat) 19, jA (nth [] v0 v2.toNat) 20, B (bA (nth [] v0 v2.toNat) 21)]).bind fun o6 =>
 some (1, [B (bA o6 0)])
 else
 some (0, [.view kItm v0, I v1, I (IntKind.i64.wrap (v2 + 1))])
 else
 none
 else
 some (2, []) := by kernel_rfl
theorem mf_path_exact_eq (Qag Qbv : Fn) (N4 : Lp) (x0 : Rw) (x1 : Int) : mf_path_exact Qag Qbv N4 [.view kItm x0, I x1] =
 bif decide (0 <= x1) && decide (x1 < (x0.length : Int)) then
 bif gA (nth [] x0 x1.toNat) 18 == 0 then
 some [B true]
 else
 bif decide (0 <= x1) && decide (x1 < (x0.length : Int)) then
 (Qbv [jA (nth [] x0 x1.toNat) 0, jA (nth [] x0 x1.toNat) 1, jA (nth [] x0 x1.toNat) 2, jA (nth [] x0 x1.toNat) 3, jA (nth [] x0 x1.toNat) 4, jA (nth [] x0 x1.toNat) 5, jA (nth [] x0 x1.toNat) 6, jA (nth [] x0 x1.toNat) 7, jA (nth [] x0 x1.toNat) 8, jA (nth [] x0 x1.toNat) 9, jA (nth [] x0 x1.toNat) 10, jA (nth [] x0 x1.toNat) 11, jA (nth [] x0 x1.toNat) 12, B (bA (nth [] x0 x1.toNat) 13), jA (nth [] x0 x1.toNat) 14, B (bA (nth [] x0 x1.toNat) 15), jA (nth [] x0 x1.toNat) 16, jA (nth [] x0 x1.toNat) 17, jA (nth [] x0 x1.toNat) 18, jA (nth [] x0 x1.toNat) 19, jA (nth [] x0 x1.toNat) 20, B (bA (nth [] x0 x1.toNat) 21)]).bind fun o7 =>
 bif bA o7 0 then
 some [B true]
 else
 bif decide (0 <= IntKind.i64.wrap (x1 + 1)) && decide (IntKind.i64.wrap (x1 + 1) <= (x0.length : Int)) then
 (N4 [.view kItm (List.drop (IntKind.i64.wrap (x1 + 1)).toNat x0), I (↑(List.drop (IntKind.i64.wrap (x1 + 1)).toNat x0).length : Int), I 0]).bind fun o8 =>
 bif o8.1.beq 1 then
 some [B (bA o8.2 0)]
 else
 bif o8.1.beq 2 then
 some [B false]
 else
 none
 else
 none
 else
 none
 else
 none := by kernel_rfl
def l_path_exact_4 := Qbn (Qid Qcq Qfp )
def m_path_exact := mf_path_exact Qcq Qfp l_path_exact_4
theorem sp_path_exact : Qaj Tryz.prog (C_path_exact_0 Qcq Qfp) := Qae rfl ⟨r_path_motion, r_path_geared, trivial⟩
theorem r_path_exact : Qbp Tryz.prog (132, spOf sig_path_exact osig_path_exact m_path_exact) := Qa0 (C := (C_path_exact_1 Qcq Qfp l_path_exact_4)) (L := 64) (by kernel_rfl) ((FnOK.bare rfl rfl rfl).loop sp_path_exact eqOk Qa7 (by kernel_rfl) (by kernel_rfl)) sp_path_exact eqOk Qa7 (by kernel_rfl) (by kernel_rfl)
def Qmx : Sk := { tmps := [tf [CS.ptr 20000 0], tf [CS.sl kItm], tf [ci]], boxes := [(20000, 108, [ci, ci, ci, CS.own 20000 7, CS.own 20001 3, CS.bool, ci, ci, ci])], rows := [(20000, 78, kSgm), (20001, 80, kPt)] }
def Ql5 : Sk := { tmps := [TS.tup []], boxes := [(20000, 108, [ci, ci, ci, CS.own 20000 7, CS.own 20001 3, CS.bool, ci, ci, ci])], rows := [(20000, 78, kSgm), (20001, 80, kPt)] }
def Qmq (M_path_exact Qag : Fn) : Cfg := { spec := Qby [(132, spOf sig_path_exact osig_path_exact M_path_exact), (108, spOf Qjv Qio Qag)], eqOk := Qb2, ownOff := ownOff }
def Qol (M_path_exact Qag : Fn) : Fn := Qax Tryz.prog (Qmq M_path_exact Qag) 64 112 Qmx Ql5
abbrev Qmy (Qag : Fn) (x2 : Rw) (x3 : Int) (x1 : Rw) (x8 : Int) (x0 : Rw) (x4 x5 x6 : Int) (x7 : Bool) (x9 x10 : Int) : Option (List AC) :=
 (Qag [jA (nth [] x2 x3.toNat) 0]).bind fun o6 =>
 bif bA o6 0 then
 bif ((x1 ++ [[I x8, I 2, I x3]]).length * 24).ble 140737488355328 then
 some [.view kSgm x0, .view kPt (x1 ++ [[I x8, I 2, I x3]]), I x4, I x5, I x6, B x7, I x8, I x9, I x10]
 else
 none
 else
 bif gA (nth [] x2 x3.toNat) 0 == 10 then
 bif ((x1 ++ [[I x8, I 5, I x3]]).length * 24).ble 140737488355328 then
 some [.view kSgm x0, .view kPt (x1 ++ [[I x8, I 5, I x3]]), I x4, I x5, I x6, B x7, I x8, I x9, I x10]
 else
 none
 else
 bif gA (nth [] x2 x3.toNat) 0 == 13 then
 bif ((x1 ++ [[I x8, I 4, I x3]]).length * 24).ble 140737488355328 then
 some [.view kSgm x0, .view kPt (x1 ++ [[I x8, I 4, I x3]]), I x4, I x5, I x6, B x7, I x8, I x9, I x10]
 else
 none
 else
 bif ((x1 ++ [[I x8, I 3, I x3]]).length * 24).ble 140737488355328 then
 some [.view kSgm x0, .view kPt (x1 ++ [[I x8, I 3, I x3]]), I x4, I x5, I x6, B x7, I x8, I x9, I x10]
 else
 none
attribute [go_sem] Qmy
theorem mf_path_builder_mark_eq (M_path_exact Qag : Fn) (x0 x1 x2 : Rw) (x3 x4 x5 x6 : Int) (x7 : Bool) (x8 x9 x10 : Int) : Qol M_path_exact Qag [.view kSgm x0, .view kPt x1, .view kItm x2, I x3, I x4, I x5, I x6, B x7, I x8, I x9, I x10] =
 bif decide (0 <= x3) && decide (x3 < (x2.length : Int)) then
 bif gA (nth [] x2 x3.toNat) 0 == 4 then
 bif ((x1 ++ [[I x8, I 6, I x3]]).length * 24).ble 140737488355328 then
 some [.view kSgm x0, .view kPt (x1 ++ [[I x8, I 6, I x3]]), I x4, I x5, I x6, B x7, I x8, I x9, I x10]
 else
 none
 else
 (Qag [jA (nth [] x2 x3.toNat) 0]).bind fun o4 =>
 bif bA o4 0 then
 (M_path_exact [.view kItm x2, I x3]).bind fun o5 =>
 bif bA o5 0 then
 bif ((x1 ++ [[I x8, I 1, I x3]]).length * 24).ble 140737488355328 then
 some [.view kSgm x0, .view kPt (x1 ++ [[I x8, I 1, I x3]]), I x4, I x5, I x6, B x7, I x8, I x9, I x10]
 else
 none
 else
 Qmy Qag x2 x3 x1 x8 x0 x4 x5 x6 x7 x9 x10
 else
 Qmy Qag x2 x3 x1 x8 x0 x4 x5 x6 x7 x9 x10
 else
 none := by kernel_rfl
def Qdw := Qol m_path_exact Qcq 
theorem sp_path_builder_mark : Qaj Tryz.prog (Qmq m_path_exact Qcq) := Qae rfl ⟨r_path_exact, r_path_motion, trivial⟩
theorem r_path_builder_mark : Qbp Tryz.prog (112, spOf Qmx Ql5 Qdw) := Qa0 (C := (Qmq m_path_exact Qcq)) (L := 64) (by kernel_rfl) (FnOK.bare rfl rfl rfl) sp_path_builder_mark eqOk Qa7 (by kernel_rfl) (by kernel_rfl)
def Qna : Sk := { tmps := [TS.v true [ci, ci, ci, ci, ci, ci, ci, ci, ci, ci, ci, ci, ci, CS.bool, ci, CS.bool, ci, ci, ci, ci, ci, CS.bool]], boxes := [], rows := [] }
def Qlb : Sk := { tmps := [TS.v true [ci, ci, ci]], boxes := [], rows := [] }
def C_path_middle_0 : Cfg := { spec := Qby [], eqOk := Qb2, ownOff := ownOff }
def mf_path_middle : Fn := Qax Tryz.prog C_path_middle_0 64 131 Qna Qlb
theorem mf_path_middle_eq (x0 x1 x2 x3 x4 x5 x6 x7 x8 x9 x10 x11 x12 : Int) (x13 : Bool) (x14 : Int) (x15 : Bool) (x16 x17 x18 x19 x20 : Int) (x21 : Bool) : mf_path_middle [I x0, I x1, I x2, I x3, I x4, I x5, I x6, I x7, I x8, I x9, I x10, I x11, I x12, B x13, I x14, B x15, I x16, I x17, I x18, I x19, I x20, B x21] =
 some [I (IntKind.i64.wrap (IntKind.i64.wrap (x2 + x5) * 8)), I (IntKind.i64.wrap (IntKind.i64.wrap (x3 + x6) * 8)), I (IntKind.i64.wrap (IntKind.i64.wrap (x4 + x7) * 8))] := by kernel_rfl
def Qeo := mf_path_middle 
theorem sp_path_middle : Qaj Tryz.prog (C_path_middle_0 ) := Qae rfl trivial
theorem r_path_middle : Qbp Tryz.prog (131, spOf Qna Qlb Qeo) := Qa0 (C := C_path_middle_0) (L := 64) (by kernel_rfl) (FnOK.bare rfl rfl rfl) sp_path_middle eqOk Qa7 (by kernel_rfl) (by kernel_rfl)
def Qm2 : Sk := { tmps := [tf [CS.int .u64], tf [CS.bool]], boxes := [], rows := [] }
def Qlc : Sk := { tmps := [TS.tup [(false, [ci]), (false, [CS.bool])]], boxes := [], rows := [] }
def C_wide_signed_0 : Cfg := { spec := Qby [], eqOk := Qb2, ownOff := ownOff }
def mf_wide_signed : Fn := Qax Tryz.prog C_wide_signed_0 64 105 Qm2 Qlc
theorem mf_wide_signed_eq (x0 : Int) (x1 : Bool) : mf_wide_signed [U x0, B x1] =
 bif x1 then
 bif decide (x0 <= 9223372036854775808) then
 some [I (IntKind.i64.wrap (IntKind.u64.wrap (0 - x0))), B true]
 else
 bif !x1 then
 bif decide (x0 < 9223372036854775808) then
 some [I (IntKind.i64.wrap x0), B true]
 else
 some [I 0, B false]
 else
 some [I 0, B false]
 else
 bif !x1 then
 bif decide (x0 < 9223372036854775808) then
 some [I (IntKind.i64.wrap x0), B true]
 else
 some [I 0, B false]
 else
 some [I 0, B false] := by kernel_rfl
def Qdu := mf_wide_signed 
theorem sp_wide_signed : Qaj Tryz.prog (C_wide_signed_0 ) := Qae rfl trivial
theorem r_wide_signed : Qbp Tryz.prog (105, spOf Qm2 Qlc Qdu) := Qa0 (C := C_wide_signed_0) (L := 64) (by kernel_rfl) (FnOK.bare rfl rfl rfl) sp_wide_signed eqOk Qa7 (by kernel_rfl) (by kernel_rfl)
def Qpk : Sk := { tmps := [TS.v true [CS.int .u64, CS.int .u64], TS.v true [CS.int .u64, CS.int .u64]], boxes := [], rows := [] }
def Qn0 : Sk := { tmps := [tf [ci]], boxes := [], rows := [] }
def C_wide_compare_0 : Cfg := { spec := Qby [], eqOk := Qb2, ownOff := ownOff }
def mf_wide_compare : Fn := Qax Tryz.prog C_wide_compare_0 64 174 Qpk Qn0
theorem mf_wide_compare_eq (x0 x1 x2 x3 : Int) : mf_wide_compare [U x0, U x1, U x2, U x3] =
 bif decide (x0 < x2) then
 some [I (-1)]
 else
 bif x0 == x2 then
 bif decide (x1 < x3) then
 some [I (-1)]
 else
 bif x0 == x2 && (x1 == x3 && true) then
 some [I 0]
 else
 some [I 1]
 else
 bif x0 == x2 && (x1 == x3 && true) then
 some [I 0]
 else
 some [I 1] := by kernel_rfl
def Qfl := mf_wide_compare 
theorem sp_wide_compare : Qaj Tryz.prog (C_wide_compare_0 ) := Qae rfl trivial
theorem r_wide_compare : Qbp Tryz.prog (174, spOf Qpk Qn0 Qfl) := Qa0 (C := C_wide_compare_0) (L := 64) (by kernel_rfl) (FnOK.bare rfl rfl rfl) sp_wide_compare eqOk Qa7 (by kernel_rfl) (by kernel_rfl)
def Qiq : Sk := { tmps := [tf [CS.int .u64], tf [CS.int .u64]], boxes := [], rows := [] }
def Qhp : Sk := { tmps := [TS.v true [CS.int .u64, CS.int .u64]], boxes := [], rows := [] }
def C_wide_product_0 (Qfg : Fn) : Cfg := { spec := Qby [(121, spOf Qpa Qm3 Qfg)], eqOk := Qb2, ownOff := ownOff }
def mf_wide_product (Qfg : Fn) : Fn := Qax Tryz.prog (C_wide_product_0 Qfg) 64 100 Qiq Qhp
theorem mf_wide_product_eq (Qfg : Fn) (x0 x1 : Int) : mf_wide_product Qfg [U x0, U x1] =
 (Qfg [U x0, U x1]).bind fun o1 =>
 some [U (gA o1 0), U (gA o1 1)] := by kernel_rfl
def Qcr := mf_wide_product Qfz 
theorem sp_wide_product : Qaj Tryz.prog (C_wide_product_0 Qfz) := Qae rfl ⟨r_bits_Mul64, trivial⟩
theorem r_wide_product : Qbp Tryz.prog (100, spOf Qiq Qhp Qcr) := Qa0 (C := (C_wide_product_0 Qfz)) (L := 64) (by kernel_rfl) (FnOK.bare rfl rfl rfl) sp_wide_product eqOk Qa7 (by kernel_rfl) (by kernel_rfl)
def Qma : Sk := { tmps := [TS.v true [CS.int .u64, CS.int .u64]], boxes := [], rows := [] }
def Qkv : Sk := { tmps := [tf [CS.int .u64]], boxes := [], rows := [] }
def C_wide_floorRoot_0 (Qcm Qav : Fn) : Cfg := { spec := Qby [(174, spOf Qpk Qn0 Qcm), (100, spOf Qiq Qhp Qav)], eqOk := Qb2, ownOff := ownOff }
def sk_wide_floorRoot_3 : Sk := { tmps := [td, tf [CS.ptr 1 0], td, tf [CS.int .u64], tf [CS.int .u64]] ++ dd 16, boxes := [(1, 125, [CS.int .u64, CS.int .u64])], rows := [] }
def ex_wide_floorRoot_3 : List (Ex × Sk) := [(Ex.exit 0, { tmps := [td, td, td, tf [CS.int .u64]] ++ dd 17, boxes := [], rows := [] })]
def Qfa (Qcm Qav : Fn) : Lp := Qkk Tryz.prog (C_wide_floorRoot_0 Qcm Qav) 64 3 (Qfk Tryz.prog 156 3) sk_wide_floorRoot_3 ex_wide_floorRoot_3
def C_wide_floorRoot_1 (Qcm Qav : Fn) (N3 : Lp) : Cfg := (C_wide_floorRoot_0 Qcm Qav).loop 3 sk_wide_floorRoot_3 ex_wide_floorRoot_3 N3
def mf_wide_floorRoot (Qcm Qav : Fn) (N3 : Lp) : Fn := Qax Tryz.prog (C_wide_floorRoot_1 Qcm Qav N3) 64 156 Qma Qkv
theorem st_wide_floorRoot_3_eq (Qcm Qav : Fn) (v0 v1 v2 v3 : Int) : Qfa Qcm Qav [U v0, U v1, U v2, U v3] =
 bif decide (v1 > 0) then
 (Qav [U (IntKind.u64.wrap (↑(BitVec.ofInt IntKind.u64.bits v0 ||| BitVec.ofInt IntKind.u64.bits v1).toNat : Int)), U (IntKind.u64.wrap (↑(BitVec.ofInt IntKind.u64.bits v0 ||| BitVec.ofInt IntKind.u64.bits v1).toNat : Int))]).bind fun o3 =>
 (Qcm [U (gA o3 0), U (gA o3 1), U v2, U v3]).bind fun o4 =>
 bif decide (gA o4 0 <= 0) then
 some (0, [U (IntKind.u64.wrap (↑(BitVec.ofInt IntKind.u64.bits v0 ||| BitVec.ofInt IntKind.u64.bits v1).toNat : Int)), U (v1.fdiv (2 ^ min (Int.toNat 1) IntKind.u64.bits)), U v2, U v3])
 else
 some (0, [U v0, U (v1.fdiv (2 ^ min (Int.toNat 1) IntKind.u64.bits)), U v2, U v3])
 else
 some (1, [U v0]) := by kernel_rfl
theorem mf_wide_floorRoot_eq (Qcm Qav : Fn) (N3 : Lp) (x0 x1 : Int) : mf_wide_floorRoot Qcm Qav N3 [U x0, U x1] =
 (N3 [U 0, U 9223372036854775808, U x0, U x1]).bind fun o5 =>
 bif o5.1.beq 1 then
 some [U (gA o5.2 0)]
 else
 none := by kernel_rfl
def l_wide_floorRoot_3 := Qbn (Qfa Qfl Qcr )
def Qf2 := mf_wide_floorRoot Qfl Qcr l_wide_floorRoot_3
theorem sp_wide_floorRoot : Qaj Tryz.prog (C_wide_floorRoot_0 Qfl Qcr) := Qae rfl ⟨r_wide_compare, r_wide_product, trivial⟩
theorem r_wide_floorRoot : Qbp Tryz.prog (156, spOf Qma Qkv Qf2) := Qa0 (C := (C_wide_floorRoot_1 Qfl Qcr l_wide_floorRoot_3)) (L := 64) (by kernel_rfl) ((FnOK.bare rfl rfl rfl).loop sp_wide_floorRoot eqOk Qa7 (by kernel_rfl) (by kernel_rfl)) sp_wide_floorRoot eqOk Qa7 (by kernel_rfl) (by kernel_rfl)
def sig_wide_root : Sk := { tmps := [TS.v true [CS.int .u64, CS.int .u64], tf [ci]], boxes := [], rows := [] }
def osig_wide_root : Sk := { tmps := [TS.tup [(false, [ci]), (false, [CS.bool])]], boxes := [], rows := [] }
def C_wide_root_0 (Qap Qm1 Qfg Qc2 : Fn) : Cfg := { spec := Qby [(105, spOf Qm2 Qlc Qap), (157, spOf sig_bits_Sub64 osig_bits_Sub64 Qm1), (121, spOf Qpa Qm3 Qfg), (156, spOf Qma Qkv Qc2)], eqOk := Qb2, ownOff := ownOff }
def mf_wide_root (Qap Qm1 Qfg Qc2 : Fn) : Fn := Qax Tryz.prog (C_wide_root_0 Qap Qm1 Qfg Qc2) 64 136 sig_wide_root osig_wide_root
abbrev g_wide_root_1 (x2 : Int) (o17 : List AC) (Qap : Fn) (o14 o16 : List AC) : Option (List AC) :=
 bif x2 == 2 then
 bif decide (gA o17 0 > 0) then
 (Qap [U (IntKind.u64.wrap (gA o14 0 + 1)), B false]).bind fun o20 =>
 some [jA o20 0, B (bA o20 1)]
 else
 bif decide (gA o16 0 > gA o14 0) then
 (Qap [U (IntKind.u64.wrap (gA o14 0 + 1)), B false]).bind fun o21 =>
 some [jA o21 0, B (bA o21 1)]
 else
 (Qap [U (gA o14 0), B false]).bind fun o22 =>
 some [jA o22 0, B (bA o22 1)]
 else
 (Qap [U (gA o14 0), B false]).bind fun o23 =>
 some [jA o23 0, B (bA o23 1)]
attribute [go_sem] g_wide_root_1
theorem mf_wide_root_eq (Qap Qm1 Qfg Qc2 : Fn) (x0 x1 x2 : Int) : mf_wide_root Qap Qm1 Qfg Qc2 [U x0, U x1, I x2] =
 (Qc2 [U x0, U x1]).bind fun o14 =>
 (Qfg [U (gA o14 0), U (gA o14 0)]).bind fun o15 =>
 (Qm1 [U x1, U (gA o15 1), U 0]).bind fun o16 =>
 (Qm1 [U x0, U (gA o15 0), U (gA o16 1)]).bind fun o17 =>
 bif x2 == 1 then
 bif decide (gA o17 0 > 0) then
 (Qap [U (IntKind.u64.wrap (gA o14 0 + 1)), B false]).bind fun o18 =>
 some [jA o18 0, B (bA o18 1)]
 else
 bif decide (gA o16 0 > 0) then
 (Qap [U (IntKind.u64.wrap (gA o14 0 + 1)), B false]).bind fun o19 =>
 some [jA o19 0, B (bA o19 1)]
 else
 g_wide_root_1 x2 o17 Qap o14 o16
 else
 g_wide_root_1 x2 o17 Qap o14 o16 := by kernel_rfl
def m_wide_root := mf_wide_root Qdu Qhm Qfz Qf2 
theorem sp_wide_root : Qaj Tryz.prog (C_wide_root_0 Qdu Qhm Qfz Qf2) := Qae rfl ⟨r_wide_signed, r_bits_Sub64, r_bits_Mul64, r_wide_floorRoot, trivial⟩
theorem r_wide_root : Qbp Tryz.prog (136, spOf sig_wide_root osig_wide_root m_wide_root) := Qa0 (C := (C_wide_root_0 Qdu Qhm Qfz Qf2)) (L := 64) (by kernel_rfl) (FnOK.bare rfl rfl rfl) sp_wide_root eqOk Qa7 (by kernel_rfl) (by kernel_rfl)
def Qo5 : Sk := { tmps := [tf [ci]], boxes := [], rows := [] }
def Qm6 : Sk := { tmps := [tf [CS.bool]], boxes := [], rows := [] }
def C_wide_known_0 : Cfg := { spec := Qby [], eqOk := Qb2, ownOff := ownOff }
def mf_wide_known : Fn := Qax Tryz.prog C_wide_known_0 64 99 Qo5 Qm6
theorem mf_wide_known_eq (x0 : Int) : mf_wide_known [I x0] =
 bif x0 == 0 then
 some [B true]
 else
 bif x0 == 1 then
 some [B true]
 else
 some [B (x0 == 2)] := by kernel_rfl
def Qfb := mf_wide_known 
theorem sp_wide_known : Qaj Tryz.prog (C_wide_known_0 ) := Qae rfl trivial
theorem r_wide_known : Qbp Tryz.prog (99, spOf Qo5 Qm6 Qfb) := Qa0 (C := C_wide_known_0) (L := 64) (by kernel_rfl) (FnOK.bare rfl rfl rfl) sp_wide_known eqOk Qa7 (by kernel_rfl) (by kernel_rfl)
def Qnx : Sk := { tmps := [tf [ci], tf [ci]], boxes := [], rows := [] }
def Qlu : Sk := { tmps := [TS.tup [(false, [ci]), (false, [CS.bool])]], boxes := [], rows := [] }
def C_wide_Sqrt_0 (M_wide_root Qcy : Fn) : Cfg := { spec := Qby [(136, spOf sig_wide_root osig_wide_root M_wide_root), (99, spOf Qo5 Qm6 Qcy)], eqOk := Qb2, ownOff := ownOff }
def mf_wide_Sqrt (M_wide_root Qcy : Fn) : Fn := Qax Tryz.prog (C_wide_Sqrt_0 M_wide_root Qcy) 64 118 Qnx Qlu
theorem mf_wide_Sqrt_eq (M_wide_root Qcy : Fn) (x0 x1 : Int) : mf_wide_Sqrt M_wide_root Qcy [I x0, I x1] =
 bif decide (x0 < 0) then
 some [I 0, B false]
 else
 (Qcy [I x1]).bind fun o2 =>
 bif !bA o2 0 then
 some [I 0, B false]
 else
 (M_wide_root [U 0, U (IntKind.u64.wrap x0), I x1]).bind fun o3 =>
 some [jA o3 0, B (bA o3 1)] := by kernel_rfl
def Qjf := mf_wide_Sqrt m_wide_root Qfb 
theorem sp_wide_Sqrt : Qaj Tryz.prog (C_wide_Sqrt_0 m_wide_root Qfb) := Qae rfl ⟨r_wide_root, r_wide_known, trivial⟩
theorem r_wide_Sqrt : Qbp Tryz.prog (118, spOf Qnx Qlu Qjf) := Qa0 (C := (C_wide_Sqrt_0 m_wide_root Qfb)) (L := 64) (by kernel_rfl) (FnOK.bare rfl rfl rfl) sp_wide_Sqrt eqOk Qa7 (by kernel_rfl) (by kernel_rfl)
def Qk6 : Sk := { tmps := [TS.v true [ci, ci, ci], TS.v true [ci, ci, ci]], boxes := [], rows := [] }
def Qj9 : Sk := { tmps := [tf [ci]], boxes := [], rows := [] }
def C_curve_Length_0 (Qfq : Fn) : Cfg := { spec := Qby [(118, spOf Qnx Qlu Qfq)], eqOk := Qb2, ownOff := ownOff, unroll := [3] }
def mf_curve_Length (Qfq : Fn) : Fn := Qax Tryz.prog (C_curve_Length_0 Qfq) 64 92 Qk6 Qj9
theorem mf_curve_Length_eq (Qfq : Fn) (x0 x1 x2 x3 x4 x5 : Int) : mf_curve_Length Qfq [I x0, I x1, I x2, I x3, I x4, I x5] =
 (Qfq [I (IntKind.i64.wrap (IntKind.i64.wrap (IntKind.i64.wrap (0 + IntKind.i64.wrap (IntKind.i64.wrap (x0 - x3) * IntKind.i64.wrap (x0 - x3))) + IntKind.i64.wrap (IntKind.i64.wrap (x1 - x4) * IntKind.i64.wrap (x1 - x4))) + IntKind.i64.wrap (IntKind.i64.wrap (x2 - x5) * IntKind.i64.wrap (x2 - x5)))), I 1]).bind fun o1 =>
 some [jA o1 0] := by kernel_rfl
def Qcz := mf_curve_Length Qjf 
theorem sp_curve_Length : Qaj Tryz.prog (C_curve_Length_0 Qjf) := Qae rfl ⟨r_wide_Sqrt, trivial⟩
theorem r_curve_Length : Qbp Tryz.prog (92, spOf Qk6 Qj9 Qcz) := Qa0 (C := (C_curve_Length_0 Qjf)) (L := 64) (by kernel_rfl) (FnOK.bare rfl rfl rfl) sp_curve_Length eqOk Qa7 (by kernel_rfl) (by kernel_rfl)
def Qog : Sk := { tmps := [tf [CS.ptr 20000 0], TS.v true [ci, ci, ci], TS.v true [ci, ci, ci, ci, ci, ci, ci]], boxes := [(20000, 108, [ci, ci, ci, CS.own 20000 7, CS.own 20001 3, CS.bool, ci, ci, ci])], rows := [(20000, 78, kSgm), (20001, 80, kPt)] }
def Qmt : Sk := { tmps := [TS.tup []], boxes := [(20000, 108, [ci, ci, ci, CS.own 20000 7, CS.own 20001 3, CS.bool, ci, ci, ci])], rows := [(20000, 78, kSgm), (20001, 80, kPt)] }
def Qob (Qal : Fn) : Cfg := { spec := Qby [(92, spOf Qk6 Qj9 Qal)], eqOk := Qb2, ownOff := ownOff }
def Qk3 (Qal : Fn) : Fn := Qax Tryz.prog (Qob Qal) 64 130 Qog Qmt
abbrev Qou (x15 : Bool) (x0 x1 : Rw) (x2 x3 x4 x16 x17 x18 x12 x13 x14 : Int) (Qal : Fn) (x9 x10 x11 : Int) (h1_0 : Bool) (h1_1 h1_2 h1_3 : AC) : Option (List AC) :=
 bif !x15 then
 some [.view kSgm x0, .view kPt x1, I x2, I x3, I x4, B true, I x16, I x17, I x18]
 else
 bif h1_0 then
 some [.view kSgm x0, .view kPt x1, I x12, I x13, I x14, B x15, I x16, I x17, I x18]
 else
 (Qal [h1_1, h1_2, h1_3, I x2, I x3, I x4]).bind fun o2 =>
 bif ((x0 ++ [[I x2, I x3, I x4, jA o2 0, I x9, I x10, I x11]]).length * 56).ble 140737488355328 then
 some [.view kSgm (x0 ++ [[I x2, I x3, I x4, jA o2 0, I x9, I x10, I x11]]), .view kPt x1, I x12, I x13, I x14, B x15, I (IntKind.i64.wrap (x16 + gA o2 0)), I x17, I x18]
 else
 none
attribute [go_sem] Qou
theorem mf_path_builder_add_eq (Qal : Fn) (x0 x1 : Rw) (x2 x3 x4 x5 x6 x7 x8 x9 x10 x11 x12 x13 x14 : Int) (x15 : Bool) (x16 x17 x18 : Int) : Qk3 Qal [.view kSgm x0, .view kPt x1, I x2, I x3, I x4, I x5, I x6, I x7, I x8, I x9, I x10, I x11, I x12, I x13, I x14, B x15, I x16, I x17, I x18] =
 bif decide ((x0.length : Int) > 0) then
 bif decide (0 <= IntKind.i64.wrap ((x0.length : Int) - 1)) && decide (IntKind.i64.wrap ((x0.length : Int) - 1) < (x0.length : Int)) then
 Qou x15 x0 x1 x2 x3 x4 x16 x17 x18 x12 x13 x14 Qal x9 x10 x11 (x2 == gA (nth [] x0 (IntKind.i64.wrap ((x0.length : Int) - 1)).toNat) 0 && (x3 == gA (nth [] x0 (IntKind.i64.wrap ((x0.length : Int) - 1)).toNat) 1 && (x4 == gA (nth [] x0 (IntKind.i64.wrap ((x0.length : Int) - 1)).toNat) 2 && true))) (jA (nth [] x0 (IntKind.i64.wrap ((x0.length : Int) - 1)).toNat) 0) (jA (nth [] x0 (IntKind.i64.wrap ((x0.length : Int) - 1)).toNat) 1) (jA (nth [] x0 (IntKind.i64.wrap ((x0.length : Int) - 1)).toNat) 2)
 else
 none
 else
 Qou x15 x0 x1 x2 x3 x4 x16 x17 x18 x12 x13 x14 Qal x9 x10 x11 (x2 == x12 && (x3 == x13 && (x4 == x14 && true))) (I x12) (I x13) (I x14) := by kernel_rfl
def Qgm := Qk3 Qcz 
theorem sp_path_builder_add : Qaj Tryz.prog (Qob Qcz) := Qae rfl ⟨r_curve_Length, trivial⟩
theorem r_path_builder_add : Qbp Tryz.prog (130, spOf Qog Qmt Qgm) := Qa0 (C := (Qob Qcz)) (L := 64) (by kernel_rfl) (FnOK.bare rfl rfl rfl) sp_path_builder_add eqOk Qa7 (by kernel_rfl) (by kernel_rfl)
def sig_path_next : Sk := { tmps := [tf [CS.sl kItm], tf [ci]], boxes := [], rows := [] }
def Qoz : Sk := { tmps := [tf [ci]], boxes := [], rows := [] }
def C_path_next_0 : Cfg := { spec := Qby [], eqOk := Qb2, ownOff := ownOff }
def sk_path_next_2 : Sk := { tmps := [tf [CS.sl kItm], tf [ci]] ++ dd 20, boxes := [], rows := [] }
def ex_path_next_2 : List (Ex × Sk) := [(Ex.exit 0, { tmps := [td, tf [ci]] ++ dd 20, boxes := [], rows := [] })]
def Qo1 : Lp := Qkk Tryz.prog C_path_next_0 64 2 (Qfk Tryz.prog 110 2) sk_path_next_2 ex_path_next_2
def C_path_next_1 (N2 : Lp) : Cfg := C_path_next_0.loop 2 sk_path_next_2 ex_path_next_2 N2
def mf_path_next (N2 : Lp) : Fn := Qax Tryz.prog (C_path_next_1 N2) 64 110 sig_path_next Qoz
theorem st_path_next_2_eq (v0 : Rw) (v1 : Int) : Qo1 [.view kItm v0, I v1] =
 bif decide (v1 < (v0.length : Int)) then
 bif decide (0 <= v1) && decide (v1 < (v0.length : Int)) then
 bif gA (nth [] v0 v1.toNat) 0 == 10 then
 some (0, [.view kItm v0, I (IntKind.i64.wrap (v1 + 1))])
 else
 some (1, [I v1])
 else
 none
 else
 some (1, [I v1]) := by kernel_rfl
theorem mf_path_next_eq (N2 : Lp) (x0 : Rw) (x1 : Int) : mf_path_next N2 [.view kItm x0, I x1] =
 (N2 [.view kItm x0, I (IntKind.i64.wrap (x1 + 1))]).bind fun o1 =>
 bif o1.1.beq 1 then
 some [jA o1.2 0]
 else
 none := by kernel_rfl
def l_path_next_2 := Qbn (Qo1 )
def Qe8 := mf_path_next l_path_next_2
theorem sp_path_next : Qaj Tryz.prog (C_path_next_0 ) := Qae rfl trivial
theorem r_path_next : Qbp Tryz.prog (110, spOf sig_path_next Qoz Qe8) := Qa0 (C := (C_path_next_1 l_path_next_2)) (L := 64) (by kernel_rfl) ((FnOK.bare rfl rfl rfl).loop sp_path_next eqOk Qa7 (by kernel_rfl) (by kernel_rfl)) sp_path_next eqOk Qa7 (by kernel_rfl) (by kernel_rfl)
def sig_path_soft : Sk := { tmps := [tf [CS.sl kItm], tf [ci]], boxes := [], rows := [] }
def osig_path_soft : Sk := { tmps := [tf [CS.bool]], boxes := [], rows := [] }
def C_path_soft_0 (Qau Qbc : Fn) : Cfg := { spec := Qby [(88, spOf Qj7 Qip Qau), (110, spOf sig_path_next Qoz Qbc)], eqOk := Qb2, ownOff := ownOff }
def mf_path_soft (Qau Qbc : Fn) : Fn := Qax Tryz.prog (C_path_soft_0 Qau Qbc) 64 109 sig_path_soft osig_path_soft
theorem mf_path_soft_eq (Qau Qbc : Fn) (x0 : Rw) (x1 : Int) : mf_path_soft Qau Qbc [.view kItm x0, I x1] =
 (Qbc [.view kItm x0, I x1]).bind fun o3 =>
 bif decide (0 <= x1) && decide (x1 < (x0.length : Int)) then
 (Qau [jA (nth [] x0 x1.toNat) 0, jA (nth [] x0 x1.toNat) 1, jA (nth [] x0 x1.toNat) 2, jA (nth [] x0 x1.toNat) 3, jA (nth [] x0 x1.toNat) 4, jA (nth [] x0 x1.toNat) 5, jA (nth [] x0 x1.toNat) 6, jA (nth [] x0 x1.toNat) 7, jA (nth [] x0 x1.toNat) 8, jA (nth [] x0 x1.toNat) 9, jA (nth [] x0 x1.toNat) 10, jA (nth [] x0 x1.toNat) 11, jA (nth [] x0 x1.toNat) 12, B (bA (nth [] x0 x1.toNat) 13), jA (nth [] x0 x1.toNat) 14, B (bA (nth [] x0 x1.toNat) 15), jA (nth [] x0 x1.toNat) 16, jA (nth [] x0 x1.toNat) 17, jA (nth [] x0 x1.toNat) 18, jA (nth [] x0 x1.toNat) 19, jA (nth [] x0 x1.toNat) 20, B (bA (nth [] x0 x1.toNat) 21)]).bind fun o4 =>
 bif bA o4 0 then
 bif decide (0 <= x1) && decide (x1 < (x0.length : Int)) then
 bif gA (nth [] x0 x1.toNat) 18 != 0 then
 bif decide (gA o3 0 < (x0.length : Int)) then
 bif decide (0 <= gA o3 0) && decide (gA o3 0 < (x0.length : Int)) then
 (Qau [jA (nth [] x0 (gA o3 0).toNat) 0, jA (nth [] x0 (gA o3 0).toNat) 1, jA (nth [] x0 (gA o3 0).toNat) 2, jA (nth [] x0 (gA o3 0).toNat) 3, jA (nth [] x0 (gA o3 0).toNat) 4, jA (nth [] x0 (gA o3 0).toNat) 5, jA (nth [] x0 (gA o3 0).toNat) 6, jA (nth [] x0 (gA o3 0).toNat) 7, jA (nth [] x0 (gA o3 0).toNat) 8, jA (nth [] x0 (gA o3 0).toNat) 9, jA (nth [] x0 (gA o3 0).toNat) 10, jA (nth [] x0 (gA o3 0).toNat) 11, jA (nth [] x0 (gA o3 0).toNat) 12, B (bA (nth [] x0 (gA o3 0).toNat) 13), jA (nth [] x0 (gA o3 0).toNat) 14, B (bA (nth [] x0 (gA o3 0).toNat) 15), jA (nth [] x0 (gA o3 0).toNat) 16, jA (nth [] x0 (gA o3 0).toNat) 17, jA (nth [] x0 (gA o3 0).toNat) 18, jA (nth [] x0 (gA o3 0).toNat) 19, jA (nth [] x0 (gA o3 0).toNat) 20, B (bA (nth [] x0 (gA o3 0).toNat) 21)]).bind fun o5 =>
 some [B (bA o5 0)]
 else
 none
 else
 some [B false]
 else
 some [B false]
 else
 none
 else
 some [B false]
 else
 none := by kernel_rfl
def Qg3 := mf_path_soft Qc6 Qe8 
theorem sp_path_soft : Qaj Tryz.prog (C_path_soft_0 Qc6 Qe8) := Qae rfl ⟨r_path_smooth, r_path_next, trivial⟩
theorem r_path_soft : Qbp Tryz.prog (109, spOf sig_path_soft osig_path_soft Qg3) := Qa0 (C := (C_path_soft_0 Qc6 Qe8)) (L := 64) (by kernel_rfl) (FnOK.bare rfl rfl rfl) sp_path_soft eqOk Qa7 (by kernel_rfl) (by kernel_rfl)
def sig_wide_grows : Sk := { tmps := [tf [ci], tf [ci], tf [CS.bool], tf [CS.bool]], boxes := [], rows := [] }
def osig_wide_grows : Sk := { tmps := [tf [CS.bool]], boxes := [], rows := [] }
def C_wide_grows_0 : Cfg := { spec := Qby [], eqOk := Qb2, ownOff := ownOff }
def mf_wide_grows : Fn := Qax Tryz.prog C_wide_grows_0 64 104 sig_wide_grows osig_wide_grows
theorem mf_wide_grows_eq (x0 x1 : Int) (x2 x3 : Bool) : mf_wide_grows [I x0, I x1, B x2, B x3] =
 bif x0 == 0 then
 bif x2 then
 some [B x3]
 else
 some [B false]
 else
 bif x0 == 1 then
 bif x2 then
 some [B !x3]
 else
 some [B false]
 else
 bif decide (x1 > 0) then
 some [B true]
 else
 bif x1 == 0 then
 some [B !x3]
 else
 some [B false] := by kernel_rfl
def Qhi := mf_wide_grows 
theorem sp_wide_grows : Qaj Tryz.prog (C_wide_grows_0 ) := Qae rfl trivial
theorem r_wide_grows : Qbp Tryz.prog (104, spOf sig_wide_grows osig_wide_grows Qhi) := Qa0 (C := C_wide_grows_0) (L := 64) (by kernel_rfl) (FnOK.bare rfl rfl rfl) sp_wide_grows eqOk Qa7 (by kernel_rfl) (by kernel_rfl)
def sig_wide_sign : Sk := { tmps := [tf [ci], tf [ci]], boxes := [], rows := [] }
def Qow : Sk := { tmps := [tf [ci]], boxes := [], rows := [] }
def C_wide_sign_0 : Cfg := { spec := Qby [], eqOk := Qb2, ownOff := ownOff }
def mf_wide_sign : Fn := Qax Tryz.prog C_wide_sign_0 64 103 sig_wide_sign Qow
theorem mf_wide_sign_eq (x0 x1 : Int) : mf_wide_sign [I x0, I x1] =
 bif x0 == 0 then
 some [I 0]
 else
 bif x1 == 0 then
 some [I 0]
 else
 bif decide (x0 < 0) == decide (x1 < 0) then
 some [I 1]
 else
 some [I (-1)] := by kernel_rfl
def Qf9 := mf_wide_sign 
theorem sp_wide_sign : Qaj Tryz.prog (C_wide_sign_0 ) := Qae rfl trivial
theorem r_wide_sign : Qbp Tryz.prog (103, spOf sig_wide_sign Qow Qf9) := Qa0 (C := C_wide_sign_0) (L := 64) (by kernel_rfl) (FnOK.bare rfl rfl rfl) sp_wide_sign eqOk Qa7 (by kernel_rfl) (by kernel_rfl)
def sig_bits_Div64 : Sk := { tmps := [tf [CS.int .u64], tf [CS.int .u64], tf [CS.int .u64]], boxes := [], rows := [] }
def osig_bits_Div64 : Sk := { tmps := [TS.tup [(false, [CS.int .u64]), (false, [CS.int .u64])]], boxes := [], rows := [] }
def C_bits_Div64_0 (Qay : Fn) : Cfg := { spec := Qby [(122, spOf Qhf Qgr Qay)], eqOk := Qb2, ownOff := ownOff }
def sk_bits_Div64_17 : Sk := { tmps := [td, td, tf [CS.int .u64], td, td, td, td, td, tf [CS.int .u64], tf [CS.int .u64], tf [CS.int .u64], tf [CS.int .u64], td, tf [CS.int .u64], tf [CS.int .u64], tf [CS.int .u64], tf [CS.int .u64]] ++ dd 118, boxes := [], rows := [] }
def ex_bits_Div64_17 : List (Ex × Sk) := [(Ex.exit 0, { tmps := [td, td, tf [CS.int .u64], td, td, td, td, td, tf [CS.int .u64], tf [CS.int .u64], tf [CS.int .u64], tf [CS.int .u64], td, tf [CS.int .u64], tf [CS.int .u64], tf [CS.int .u64]] ++ dd 119, boxes := [], rows := [] })]
def Qgy (Qay : Fn) : Lp := Qkk Tryz.prog (C_bits_Div64_0 Qay) 64 17 (Qfk Tryz.prog 102 17) sk_bits_Div64_17 ex_bits_Div64_17
def C_bits_Div64_1 (Qay : Fn) (N17 : Lp) : Cfg := (C_bits_Div64_0 Qay).loop 17 sk_bits_Div64_17 ex_bits_Div64_17 N17
def sk_bits_Div64_24 : Sk := { tmps := [td, td, tf [CS.int .u64], td, td, td, td, td, tf [CS.int .u64], tf [CS.int .u64], tf [CS.int .u64], td, td, td, tf [CS.int .u64], tf [CS.int .u64], tf [CS.int .u64], tf [CS.int .u64], tf [CS.int .u64]] ++ dd 116, boxes := [], rows := [] }
def ex_bits_Div64_24 : List (Ex × Sk) := [(Ex.exit 2, { tmps := [td, td, tf [CS.int .u64], td, td, td, td, td, tf [CS.int .u64], td, td, td, td, td, tf [CS.int .u64], tf [CS.int .u64], td, tf [CS.int .u64], tf [CS.int .u64]] ++ dd 116, boxes := [], rows := [] })]
def Qld (Qay : Fn) (N17 : Lp) : Lp := Qkk Tryz.prog (C_bits_Div64_1 Qay N17) 64 24 (Qfk Tryz.prog 102 24) sk_bits_Div64_24 ex_bits_Div64_24
def C_bits_Div64_2 (Qay : Fn) (N17 N24 : Lp) : Cfg := (C_bits_Div64_1 Qay N17).loop 24 sk_bits_Div64_24 ex_bits_Div64_24 N24
def mf_bits_Div64 (Qay : Fn) (N17 N24 : Lp) : Fn := Qax Tryz.prog (C_bits_Div64_2 Qay N17 N24) 64 102 sig_bits_Div64 osig_bits_Div64
theorem st_bits_Div64_17_eq (Qay : Fn) (v0 v1 v2 v3 v4 v5 v6 v7 v8 : Int) : Qgy Qay [U v0, U v1, U v2, U v3, U v4, U v5, U v6, U v7, U v8] =
 bif decide (v7 >= 4294967296) then
 bif decide (IntKind.u64.wrap (v8 + v2) >= 4294967296) then
 some (1, [U v0, U v1, U v2, U v3, U v4, U v5, U v6, U (IntKind.u64.wrap (v7 - 1))])
 else
 some (0, [U v0, U v1, U v2, U v3, U v4, U v5, U v6, U (IntKind.u64.wrap (v7 - 1)), U (IntKind.u64.wrap (v8 + v2))])
 else
 bif decide (IntKind.u64.wrap (v7 * v3) > IntKind.u64.wrap (IntKind.u64.wrap (4294967296 * v8) + v5)) then
 bif decide (IntKind.u64.wrap (v8 + v2) >= 4294967296) then
 some (1, [U v0, U v1, U v2, U v3, U v4, U v5, U v6, U (IntKind.u64.wrap (v7 - 1))])
 else
 some (0, [U v0, U v1, U v2, U v3, U v4, U v5, U v6, U (IntKind.u64.wrap (v7 - 1)), U (IntKind.u64.wrap (v8 + v2))])
 else
 some (1, [U v0, U v1, U v2, U v3, U v4, U v5, U v6, U v7]) := by kernel_rfl
theorem st_bits_Div64_24_eq (Qay : Fn) (N17 : Lp) (v0 v1 v2 v3 v4 v5 v6 v7 v8 : Int) : Qld Qay N17 [U v0, U v1, U v2, U v3, U v4, U v5, U v6, U v7, U v8] =
 bif decide (v8 >= 4294967296) then
 bif decide (IntKind.u64.wrap (v6 + v2) >= 4294967296) then
 some (1, [U v0, U v1, U v4, U v5, U v7, U (IntKind.u64.wrap (v8 - 1))])
 else
 some (0, [U v0, U v1, U v2, U v3, U v4, U v5, U (IntKind.u64.wrap (v6 + v2)), U v7, U (IntKind.u64.wrap (v8 - 1))])
 else
 bif decide (IntKind.u64.wrap (v8 * v3) > IntKind.u64.wrap (IntKind.u64.wrap (4294967296 * v6) + v4)) then
 bif decide (IntKind.u64.wrap (v6 + v2) >= 4294967296) then
 some (1, [U v0, U v1, U v4, U v5, U v7, U (IntKind.u64.wrap (v8 - 1))])
 else
 some (0, [U v0, U v1, U v2, U v3, U v4, U v5, U (IntKind.u64.wrap (v6 + v2)), U v7, U (IntKind.u64.wrap (v8 - 1))])
 else
 some (1, [U v0, U v1, U v4, U v5, U v7, U v8]) := by kernel_rfl
theorem mf_bits_Div64_eq (Qay : Fn) (N17 N24 : Lp) (x0 x1 x2 : Int) : mf_bits_Div64 Qay N17 N24 [U x0, U x1, U x2] =
 bif x2 == 0 then
 none
 else
 bif decide (x2 <= x0) then
 none
 else
 bif x0 == 0 then
 bif decide (x2 = 0) then
 none
 else
 bif decide (x2 = 0) then
 none
 else
 some [U (IntKind.u64.wrap (x1.tdiv x2)), U (x1.tmod x2)]
 else
 (Qay [U x2]).bind fun o6 =>
 bif decide (IntKind.u64.wrap (gA o6 0) < 0) then
 none
 else
 bif decide (IntKind.u64.wrap (gA o6 0) < 0) then
 none
 else
 bif decide (IntKind.u64.wrap (64 - IntKind.u64.wrap (gA o6 0)) < 0) then
 none
 else
 bif decide (IntKind.u64.wrap (gA o6 0) < 0) then
 none
 else
 bif decide ((IntKind.u64.wrap (x2 * 2 ^ min (IntKind.u64.wrap (gA o6 0)).toNat IntKind.u64.bits)).fdiv (2 ^ min (Int.toNat 32) IntKind.u64.bits) = 0) then
 none
 else
 (N17 [U (IntKind.u64.wrap (x2 * 2 ^ min (IntKind.u64.wrap (gA o6 0)).toNat IntKind.u64.bits)), U (IntKind.u64.wrap (gA o6 0)), U ((IntKind.u64.wrap (x2 * 2 ^ min (IntKind.u64.wrap (gA o6 0)).toNat IntKind.u64.bits)).fdiv (2 ^ min (Int.toNat 32) IntKind.u64.bits)), U (IntKind.u64.wrap (↑(BitVec.ofInt IntKind.u64.bits (IntKind.u64.wrap (x2 * 2 ^ min (IntKind.u64.wrap (gA o6 0)).toNat IntKind.u64.bits)) &&& BitVec.ofInt IntKind.u64.bits 4294967295).toNat : Int)), U (IntKind.u64.wrap (↑(BitVec.ofInt IntKind.u64.bits (IntKind.u64.wrap (x0 * 2 ^ min (IntKind.u64.wrap (gA o6 0)).toNat IntKind.u64.bits)) ||| BitVec.ofInt IntKind.u64.bits (x1.fdiv (2 ^ min (IntKind.u64.wrap (64 - IntKind.u64.wrap (gA o6 0))).toNat IntKind.u64.bits))).toNat : Int)), U ((IntKind.u64.wrap (x1 * 2 ^ min (IntKind.u64.wrap (gA o6 0)).toNat IntKind.u64.bits)).fdiv (2 ^ min (Int.toNat 32) IntKind.u64.bits)), U (IntKind.u64.wrap (↑(BitVec.ofInt IntKind.u64.bits (IntKind.u64.wrap (x1 * 2 ^ min (IntKind.u64.wrap (gA o6 0)).toNat IntKind.u64.bits)) &&& BitVec.ofInt IntKind.u64.bits 4294967295).toNat : Int)), U (IntKind.u64.wrap ((IntKind.u64.wrap (↑(BitVec.ofInt IntKind.u64.bits (IntKind.u64.wrap (x0 * 2 ^ min (IntKind.u64.wrap (gA o6 0)).toNat IntKind.u64.bits)) ||| BitVec.ofInt IntKind.u64.bits (x1.fdiv (2 ^ min (IntKind.u64.wrap (64 - IntKind.u64.wrap (gA o6 0))).toNat IntKind.u64.bits))).toNat : Int)).tdiv ((IntKind.u64.wrap (x2 * 2 ^ min (IntKind.u64.wrap (gA o6 0)).toNat IntKind.u64.bits)).fdiv (2 ^ min (Int.toNat 32) IntKind.u64.bits)))), U (IntKind.u64.wrap (IntKind.u64.wrap (↑(BitVec.ofInt IntKind.u64.bits (IntKind.u64.wrap (x0 * 2 ^ min (IntKind.u64.wrap (gA o6 0)).toNat IntKind.u64.bits)) ||| BitVec.ofInt IntKind.u64.bits (x1.fdiv (2 ^ min (IntKind.u64.wrap (64 - IntKind.u64.wrap (gA o6 0))).toNat IntKind.u64.bits))).toNat : Int) - IntKind.u64.wrap (IntKind.u64.wrap ((IntKind.u64.wrap (↑(BitVec.ofInt IntKind.u64.bits (IntKind.u64.wrap (x0 * 2 ^ min (IntKind.u64.wrap (gA o6 0)).toNat IntKind.u64.bits)) ||| BitVec.ofInt IntKind.u64.bits (x1.fdiv (2 ^ min (IntKind.u64.wrap (64 - IntKind.u64.wrap (gA o6 0))).toNat IntKind.u64.bits))).toNat : Int)).tdiv ((IntKind.u64.wrap (x2 * 2 ^ min (IntKind.u64.wrap (gA o6 0)).toNat IntKind.u64.bits)).fdiv (2 ^ min (Int.toNat 32) IntKind.u64.bits))) * (IntKind.u64.wrap (x2 * 2 ^ min (IntKind.u64.wrap (gA o6 0)).toNat IntKind.u64.bits)).fdiv (2 ^ min (Int.toNat 32) IntKind.u64.bits))))]).bind fun o7 =>
 bif o7.1.beq 1 then
 bif decide (gA o7.2 2 = 0) then
 none
 else
 (N24 [U (gA o7.2 0), U (gA o7.2 1), U (gA o7.2 2), U (gA o7.2 3), U (gA o7.2 6), U (gA o7.2 7), U (IntKind.u64.wrap (IntKind.u64.wrap (IntKind.u64.wrap (IntKind.u64.wrap (gA o7.2 4 * 4294967296) + gA o7.2 5) - IntKind.u64.wrap (gA o7.2 7 * gA o7.2 0)) - IntKind.u64.wrap (IntKind.u64.wrap ((IntKind.u64.wrap (IntKind.u64.wrap (IntKind.u64.wrap (gA o7.2 4 * 4294967296) + gA o7.2 5) - IntKind.u64.wrap (gA o7.2 7 * gA o7.2 0))).tdiv (gA o7.2 2)) * gA o7.2 2))), U (IntKind.u64.wrap (IntKind.u64.wrap (IntKind.u64.wrap (gA o7.2 4 * 4294967296) + gA o7.2 5) - IntKind.u64.wrap (gA o7.2 7 * gA o7.2 0))), U (IntKind.u64.wrap ((IntKind.u64.wrap (IntKind.u64.wrap (IntKind.u64.wrap (gA o7.2 4 * 4294967296) + gA o7.2 5) - IntKind.u64.wrap (gA o7.2 7 * gA o7.2 0))).tdiv (gA o7.2 2)))]).bind fun o8 =>
 bif o8.1.beq 1 then
 bif decide (gA o8.2 1 < 0) then
 none
 else
 some [U (IntKind.u64.wrap (IntKind.u64.wrap (gA o8.2 3 * 4294967296) + gA o8.2 5)), U ((IntKind.u64.wrap (IntKind.u64.wrap (IntKind.u64.wrap (gA o8.2 4 * 4294967296) + gA o8.2 2) - IntKind.u64.wrap (gA o8.2 5 * gA o8.2 0))).fdiv (2 ^ min (gA o8.2 1).toNat IntKind.u64.bits))]
 else
 none
 else
 none := by kernel_rfl
def l_bits_Div64_17 := Qbn (Qgy Qcd )
def l_bits_Div64_24 := Qbn (Qld Qcd l_bits_Div64_17)
def Qf1 := mf_bits_Div64 Qcd l_bits_Div64_17 l_bits_Div64_24
theorem sp_bits_Div64 : Qaj Tryz.prog (C_bits_Div64_0 Qcd) := Qae rfl ⟨r_bits_LeadingZeros64, trivial⟩
theorem r_bits_Div64 : Qbp Tryz.prog (102, spOf sig_bits_Div64 osig_bits_Div64 Qf1) := Qa0 (C := (C_bits_Div64_2 Qcd l_bits_Div64_17 l_bits_Div64_24)) (L := 64) (by kernel_rfl) (((FnOK.bare rfl rfl rfl).loop sp_bits_Div64 eqOk Qa7 (by kernel_rfl) (by kernel_rfl)).loop sp_bits_Div64 eqOk Qa7 (by kernel_rfl) (by kernel_rfl)) sp_bits_Div64 eqOk Qa7 (by kernel_rfl) (by kernel_rfl)
def sig_wide_size : Sk := { tmps := [tf [ci]], boxes := [], rows := [] }
def Qpf : Sk := { tmps := [tf [CS.int .u64]], boxes := [], rows := [] }
def C_wide_size_0 : Cfg := { spec := Qby [], eqOk := Qb2, ownOff := ownOff }
def mf_wide_size : Fn := Qax Tryz.prog C_wide_size_0 64 101 sig_wide_size Qpf
theorem mf_wide_size_eq (x0 : Int) : mf_wide_size [I x0] =
 bif decide (x0 < 0) then
 some [U (IntKind.u64.wrap (IntKind.u64.wrap (IntKind.i64.wrap (0 - IntKind.i64.wrap (x0 + 1))) + 1))]
 else
 some [U (IntKind.u64.wrap x0)] := by kernel_rfl
def Qf6 := mf_wide_size 
theorem sp_wide_size : Qaj Tryz.prog (C_wide_size_0 ) := Qae rfl trivial
theorem r_wide_size : Qbp Tryz.prog (101, spOf sig_wide_size Qpf Qf6) := Qa0 (C := C_wide_size_0) (L := 64) (by kernel_rfl) (FnOK.bare rfl rfl rfl) sp_wide_size eqOk Qa7 (by kernel_rfl) (by kernel_rfl)
def sig_wide_MulDiv : Sk := { tmps := [tf [ci], tf [ci], tf [ci], tf [ci]], boxes := [], rows := [] }
def Qpl : Sk := { tmps := [TS.tup [(false, [ci]), (false, [CS.bool])]], boxes := [], rows := [] }
def C_wide_MulDiv_0 (Qap Qb6 Qcw Qev Qav Qcg Qcy : Fn) : Cfg := { spec := Qby [(105, spOf Qm2 Qlc Qap), (104, spOf sig_wide_grows osig_wide_grows Qb6), (103, spOf sig_wide_sign Qow Qcw), (102, spOf sig_bits_Div64 osig_bits_Div64 Qev), (100, spOf Qiq Qhp Qav), (101, spOf sig_wide_size Qpf Qcg), (99, spOf Qo5 Qm6 Qcy)], eqOk := Qb2, ownOff := ownOff }
def mf_wide_MulDiv (Qap Qb6 Qcw Qev Qav Qcg Qcy : Fn) : Fn := Qax Tryz.prog (C_wide_MulDiv_0 Qap Qb6 Qcw Qev Qav Qcg Qcy) 64 70 sig_wide_MulDiv Qpl
abbrev g_wide_MulDiv_1 (Qb6 : Fn) (x3 : Int) (o31 : List AC) (Qap : Fn) (h1_0 h1_1 : AC) : Option (List AC) :=
 (Qb6 [I x3, h1_0, B (decide (gA o31 1 > 0)), h1_1]).bind fun o34 =>
 bif bA o34 0 then
 bif IntKind.u64.wrap (gA o31 0 + 1) == 0 then
 some [I 0, B false]
 else
 (Qap [U (IntKind.u64.wrap (gA o31 0 + 1)), h1_1]).bind fun o35 =>
 some [jA o35 0, B (bA o35 1)]
 else
 (Qap [U (gA o31 0), h1_1]).bind fun o36 =>
 some [jA o36 0, B (bA o36 1)]
attribute [go_sem] g_wide_MulDiv_1
abbrev g_wide_MulDiv_2 (o31 o30 : List AC) (Qb6 : Fn) (x3 : Int) (Qap : Fn) (h2_0 : AC) : Option (List AC) :=
 bif decide (gA o31 1 > IntKind.u64.wrap (gA o30 0 - gA o31 1)) then
 g_wide_MulDiv_1 Qb6 x3 o31 Qap (I 1) h2_0
 else
 bif decide (gA o31 1 < IntKind.u64.wrap (gA o30 0 - gA o31 1)) then
 g_wide_MulDiv_1 Qb6 x3 o31 Qap (I (-1)) h2_0
 else
 g_wide_MulDiv_1 Qb6 x3 o31 Qap (I 0) h2_0
attribute [go_sem] g_wide_MulDiv_2
theorem mf_wide_MulDiv_eq (Qap Qb6 Qcw Qev Qav Qcg Qcy : Fn) (x0 x1 x2 x3 : Int) : mf_wide_MulDiv Qap Qb6 Qcw Qev Qav Qcg Qcy [I x0, I x1, I x2, I x3] =
 bif x2 == 0 then
 some [I 0, B false]
 else
 (Qcy [I x3]).bind fun o26 =>
 bif !bA o26 0 then
 some [I 0, B false]
 else
 (Qcg [I x0]).bind fun o27 =>
 (Qcg [I x1]).bind fun o28 =>
 (Qav [U (gA o27 0), U (gA o28 0)]).bind fun o29 =>
 (Qcg [I x2]).bind fun o30 =>
 bif decide (gA o29 0 >= gA o30 0) then
 some [I 0, B false]
 else
 (Qev [U (gA o29 0), U (gA o29 1), U (gA o30 0)]).bind fun o31 =>
 (Qcw [I x0, I x1]).bind fun o32 =>
 bif !decide (gA o32 0 < 0) == decide (x2 < 0) then
 (Qcw [I x0, I x1]).bind fun o33 =>
 g_wide_MulDiv_2 o31 o30 Qb6 x3 Qap (B (gA o33 0 != 0))
 else
 g_wide_MulDiv_2 o31 o30 Qb6 x3 Qap (B false) := by kernel_rfl
def Qer := mf_wide_MulDiv Qdu Qhi Qf9 Qf1 Qcr Qf6 Qfb 
theorem sp_wide_MulDiv : Qaj Tryz.prog (C_wide_MulDiv_0 Qdu Qhi Qf9 Qf1 Qcr Qf6 Qfb) := Qae rfl ⟨r_wide_signed, r_wide_grows, r_wide_sign, r_bits_Div64, r_wide_product, r_wide_size, r_wide_known, trivial⟩
theorem r_wide_MulDiv : Qbp Tryz.prog (70, spOf sig_wide_MulDiv Qpl Qer) := Qa0 (C := (C_wide_MulDiv_0 Qdu Qhi Qf9 Qf1 Qcr Qf6 Qfb)) (L := 64) (by kernel_rfl) (FnOK.bare rfl rfl rfl) sp_wide_MulDiv eqOk Qa7 (by kernel_rfl) (by kernel_rfl)
def sig_blend_bend : Sk := { tmps := [TS.v true [ci, ci, ci], TS.v true [ci, ci, ci], TS.v true [ci, ci, ci]], boxes := [], rows := [] }
def osig_blend_bend : Sk := { tmps := [tf [ci]], boxes := [], rows := [] }
def C_blend_bend_0 : Cfg := { spec := Qby [], eqOk := Qb2, ownOff := ownOff, unroll := [3] }
def mf_blend_bend : Fn := Qax Tryz.prog C_blend_bend_0 64 189 sig_blend_bend osig_blend_bend
theorem mf_blend_bend_eq (x0 x1 x2 x3 x4 x5 x6 x7 x8 : Int) : mf_blend_bend [I x0, I x1, I x2, I x3, I x4, I x5, I x6, I x7, I x8] =
 some [I (IntKind.i64.wrap (IntKind.i64.wrap (IntKind.i64.wrap (0 + IntKind.i64.wrap (IntKind.i64.wrap (IntKind.i64.wrap (x0 + x6) - IntKind.i64.wrap (2 * x3)) * IntKind.i64.wrap (IntKind.i64.wrap (x0 + x6) - IntKind.i64.wrap (2 * x3)))) + IntKind.i64.wrap (IntKind.i64.wrap (IntKind.i64.wrap (x1 + x7) - IntKind.i64.wrap (2 * x4)) * IntKind.i64.wrap (IntKind.i64.wrap (x1 + x7) - IntKind.i64.wrap (2 * x4)))) + IntKind.i64.wrap (IntKind.i64.wrap (IntKind.i64.wrap (x2 + x8) - IntKind.i64.wrap (2 * x5)) * IntKind.i64.wrap (IntKind.i64.wrap (x2 + x8) - IntKind.i64.wrap (2 * x5)))))] := by kernel_rfl
def Qf0 := mf_blend_bend 
theorem sp_blend_bend : Qaj Tryz.prog (C_blend_bend_0 ) := Qae rfl trivial
theorem r_blend_bend : Qbp Tryz.prog (189, spOf sig_blend_bend osig_blend_bend Qf0) := Qa0 (C := C_blend_bend_0) (L := 64) (by kernel_rfl) (FnOK.bare rfl rfl rfl) sp_blend_bend eqOk Qa7 (by kernel_rfl) (by kernel_rfl)
def sig_blend_Pieces : Sk := { tmps := [TS.v true [ci, ci, ci], TS.v true [ci, ci, ci], TS.v true [ci, ci, ci]], boxes := [], rows := [] }
def osig_blend_Pieces : Sk := { tmps := [tf [ci]], boxes := [], rows := [] }
def C_blend_Pieces_0 (Qcf : Fn) : Cfg := { spec := Qby [(189, spOf sig_blend_bend osig_blend_bend Qcf)], eqOk := Qb2, ownOff := ownOff }
def sk_blend_Pieces_2 : Sk := { tmps := [td, td, td, tf [CS.ptr 3 0], tf [CS.ptr 4 0], tf [CS.ptr 5 0], td, tf [ci]] ++ dd 22, boxes := [(3, 25, [ci, ci, ci]), (4, 25, [ci, ci, ci]), (5, 25, [ci, ci, ci])], rows := [] }
def ex_blend_Pieces_2 : List (Ex × Sk) := [(Ex.exit 0, { tmps := [td, td, td, td, td, td, td, tf [ci]] ++ dd 22, boxes := [], rows := [] })]
def Qkc (Qcf : Fn) : Lp := Qkk Tryz.prog (C_blend_Pieces_0 Qcf) 64 2 (Qfk Tryz.prog 178 2) sk_blend_Pieces_2 ex_blend_Pieces_2
def C_blend_Pieces_1 (Qcf : Fn) (N2 : Lp) : Cfg := (C_blend_Pieces_0 Qcf).loop 2 sk_blend_Pieces_2 ex_blend_Pieces_2 N2
def mf_blend_Pieces (Qcf : Fn) (N2 : Lp) : Fn := Qax Tryz.prog (C_blend_Pieces_1 Qcf N2) 64 178 sig_blend_Pieces osig_blend_Pieces
theorem st_blend_Pieces_2_eq (Qcf : Fn) (v0 v1 v2 v3 v4 v5 v6 v7 v8 v9 : Int) : Qkc Qcf [I v0, I v1, I v2, I v3, I v4, I v5, I v6, I v7, I v8, I v9] =
 bif decide (v0 < 64) then
 (Qcf [I v1, I v2, I v3, I v4, I v5, I v6, I v7, I v8, I v9]).bind fun o2 =>
 bif decide (gA o2 0 > IntKind.i64.wrap (IntKind.i64.wrap (IntKind.i64.wrap (IntKind.i64.wrap (IntKind.i64.wrap (IntKind.i64.wrap (16 * v0) * v0) * v0) * v0) * 4) * 4)) then
 some (0, [I (IntKind.i64.wrap (v0 * 2)), I v1, I v2, I v3, I v4, I v5, I v6, I v7, I v8, I v9])
 else
 some (1, [I v0])
 else
 some (1, [I v0]) := by kernel_rfl
theorem mf_blend_Pieces_eq (Qcf : Fn) (N2 : Lp) (x0 x1 x2 x3 x4 x5 x6 x7 x8 : Int) : mf_blend_Pieces Qcf N2 [I x0, I x1, I x2, I x3, I x4, I x5, I x6, I x7, I x8] =
 (N2 [I 2, I x0, I x1, I x2, I x3, I x4, I x5, I x6, I x7, I x8]).bind fun o3 =>
 bif o3.1.beq 1 then
 some [jA o3.2 0]
 else
 none := by kernel_rfl
def l_blend_Pieces_2 := Qbn (Qkc Qf0 )
def Qhl := mf_blend_Pieces Qf0 l_blend_Pieces_2
theorem sp_blend_Pieces : Qaj Tryz.prog (C_blend_Pieces_0 Qf0) := Qae rfl ⟨r_blend_bend, trivial⟩
theorem r_blend_Pieces : Qbp Tryz.prog (178, spOf sig_blend_Pieces osig_blend_Pieces Qhl) := Qa0 (C := (C_blend_Pieces_1 Qf0 l_blend_Pieces_2)) (L := 64) (by kernel_rfl) ((FnOK.bare rfl rfl rfl).loop sp_blend_Pieces eqOk Qa7 (by kernel_rfl) (by kernel_rfl)) sp_blend_Pieces eqOk Qa7 (by kernel_rfl) (by kernel_rfl)
def sig_wide_quotient : Sk := { tmps := [TS.v true [CS.int .u64, CS.int .u64], tf [CS.int .u64]], boxes := [], rows := [] }
def osig_wide_quotient : Sk := { tmps := [TS.tup [(true, [CS.int .u64, CS.int .u64]), (false, [CS.bool])]], boxes := [], rows := [] }
def C_wide_quotient_0 (Qev : Fn) : Cfg := { spec := Qby [(102, spOf sig_bits_Div64 osig_bits_Div64 Qev)], eqOk := Qb2, ownOff := ownOff }
def mf_wide_quotient (Qev : Fn) : Fn := Qax Tryz.prog (C_wide_quotient_0 Qev) 64 194 sig_wide_quotient osig_wide_quotient
theorem mf_wide_quotient_eq (Qev : Fn) (x0 x1 x2 : Int) : mf_wide_quotient Qev [U x0, U x1, U x2] =
 (Qev [U 0, U x0, U x2]).bind fun o2 =>
 (Qev [U (gA o2 1), U x1, U x2]).bind fun o3 =>
 some [U (gA o2 0), U (gA o3 0), B (decide (gA o3 1 > 0))] := by kernel_rfl
def m_wide_quotient := mf_wide_quotient Qf1 
theorem sp_wide_quotient : Qaj Tryz.prog (C_wide_quotient_0 Qf1) := Qae rfl ⟨r_bits_Div64, trivial⟩
theorem r_wide_quotient : Qbp Tryz.prog (194, spOf sig_wide_quotient osig_wide_quotient m_wide_quotient) := Qa0 (C := (C_wide_quotient_0 Qf1)) (L := 64) (by kernel_rfl) (FnOK.bare rfl rfl rfl) sp_wide_quotient eqOk Qa7 (by kernel_rfl) (by kernel_rfl)
def sig_wide_Over : Sk := { tmps := [tf [ci], tf [ci], tf [ci], tf [ci]], boxes := [], rows := [] }
def osig_wide_Over : Sk := { tmps := [TS.tup [(false, [ci]), (false, [CS.bool])]], boxes := [], rows := [] }
def C_wide_Over_0 (Qap Qb6 Qcw Qc2 Qkb Qav Qcy Qcg : Fn) : Cfg := { spec := Qby [(105, spOf Qm2 Qlc Qap), (104, spOf sig_wide_grows osig_wide_grows Qb6), (103, spOf sig_wide_sign Qow Qcw), (156, spOf Qma Qkv Qc2), (194, spOf sig_wide_quotient osig_wide_quotient Qkb), (100, spOf Qiq Qhp Qav), (99, spOf Qo5 Qm6 Qcy), (101, spOf sig_wide_size Qpf Qcg)], eqOk := Qb2, ownOff := ownOff }
def mf_wide_Over (Qap Qb6 Qcw Qc2 Qkb Qav Qcy Qcg : Fn) : Fn := Qax Tryz.prog (C_wide_Over_0 Qap Qb6 Qcw Qc2 Qkb Qav Qcy Qcg) 64 190 sig_wide_Over osig_wide_Over
abbrev g_wide_Over_1 (Qb6 : Fn) (x3 : Int) (Qap : Fn) (o42 : List AC) (h1_0 : Bool) (h1_1 h1_2 h1_3 h1_4 : AC) : Option (List AC) :=
 bif h1_0 then
 (Qb6 [I x3, h1_1, B true, h1_2]).bind fun o44 =>
 bif bA o44 0 then
 (Qap [U (IntKind.u64.wrap (IntKind.u64.wrap ((gA o42 0).tdiv 2) + 1)), h1_2]).bind fun o45 =>
 some [jA o45 0, B (bA o45 1)]
 else
 (Qap [U (IntKind.u64.wrap ((gA o42 0).tdiv 2)), h1_2]).bind fun o46 =>
 some [jA o46 0, B (bA o46 1)]
 else
 (Qb6 [I x3, h1_3, h1_4, h1_2]).bind fun o47 =>
 bif bA o47 0 then
 (Qap [U (IntKind.u64.wrap (IntKind.u64.wrap ((gA o42 0).tdiv 2) + 1)), h1_2]).bind fun o48 =>
 some [jA o48 0, B (bA o48 1)]
 else
 (Qap [U (IntKind.u64.wrap ((gA o42 0).tdiv 2)), h1_2]).bind fun o49 =>
 some [jA o49 0, B (bA o49 1)]
attribute [go_sem] g_wide_Over_1
theorem mf_wide_Over_eq (Qap Qb6 Qcw Qc2 Qkb Qav Qcy Qcg : Fn) (x0 x1 x2 x3 : Int) : mf_wide_Over Qap Qb6 Qcw Qc2 Qkb Qav Qcy Qcg [I x0, I x1, I x2, I x3] =
 (Qcg [I x0]).bind fun o35 =>
 bif decide (gA o35 0 > 2147483648) then
 some [I 0, B false]
 else
 (Qcg [I x1]).bind fun o36 =>
 bif decide (gA o36 0 > 2147483648) then
 some [I 0, B false]
 else
 bif decide (x2 < 1) then
 some [I 0, B false]
 else
 bif decide (x2 > 4611686018427387904) then
 some [I 0, B false]
 else
 (Qcy [I x3]).bind fun o37 =>
 bif !bA o37 0 then
 some [I 0, B false]
 else
 (Qcg [I x0]).bind fun o38 =>
 (Qcg [I x1]).bind fun o39 =>
 (Qav [U (IntKind.u64.wrap (2 * IntKind.u64.wrap (gA o38 0 * gA o39 0))), U (IntKind.u64.wrap (2 * IntKind.u64.wrap (gA o38 0 * gA o39 0)))]).bind fun o40 =>
 (Qkb [U (gA o40 0), U (gA o40 1), U (IntKind.u64.wrap x2)]).bind fun o41 =>
 (Qc2 [U (gA o41 0), U (gA o41 1)]).bind fun o42 =>
 bif bA o41 2 then
 (Qcw [I x0, I x1]).bind fun o43 =>
 g_wide_Over_1 Qb6 x3 Qap o42 ((gA o42 0).tmod 2 == 1) (I 1) (B (decide (gA o43 0 < 0))) (I (-1)) (B true)
 else
 (Qav [U (gA o42 0), U (gA o42 0)]).bind fun o50 =>
 (Qcw [I x0, I x1]).bind fun o51 =>
 bif (gA o42 0).tmod 2 == 1 then
 bif !(gA o50 0 == gA o41 0 && (gA o50 1 == gA o41 1 && true)) then
 g_wide_Over_1 Qb6 x3 Qap o42 (!(gA o50 0 == gA o41 0 && (gA o50 1 == gA o41 1 && true))) (I 1) (B (decide (gA o51 0 < 0))) (I 1) (B ((gA o42 0).tmod 2 == 1))
 else
 g_wide_Over_1 Qb6 x3 Qap o42 (!(gA o50 0 == gA o41 0 && (gA o50 1 == gA o41 1 && true))) (I 0) (B (decide (gA o51 0 < 0))) (I 0) (B ((gA o42 0).tmod 2 == 1))
 else
 g_wide_Over_1 Qb6 x3 Qap o42 (!(gA o50 0 == gA o41 0 && (gA o50 1 == gA o41 1 && true))) (I (-1)) (B (decide (gA o51 0 < 0))) (I (-1)) (B ((gA o42 0).tmod 2 == 1)) := by kernel_rfl
def Qjd := mf_wide_Over Qdu Qhi Qf9 Qf2 m_wide_quotient Qcr Qfb Qf6 
theorem sp_wide_Over : Qaj Tryz.prog (C_wide_Over_0 Qdu Qhi Qf9 Qf2 m_wide_quotient Qcr Qfb Qf6) := Qae rfl ⟨r_wide_signed, r_wide_grows, r_wide_sign, r_wide_floorRoot, r_wide_quotient, r_wide_product, r_wide_known, r_wide_size, trivial⟩
theorem r_wide_Over : Qbp Tryz.prog (190, spOf sig_wide_Over osig_wide_Over Qjd) := Qa0 (C := (C_wide_Over_0 Qdu Qhi Qf9 Qf2 m_wide_quotient Qcr Qfb Qf6)) (L := 64) (by kernel_rfl) (FnOK.bare rfl rfl rfl) sp_wide_Over eqOk Qa7 (by kernel_rfl) (by kernel_rfl)
def Qpi : Sk := { tmps := [TS.v true [ci, ci, ci], TS.v true [ci, ci, ci], tf [ci]], boxes := [], rows := [] }
def Qnj : Sk := { tmps := [TS.tup [(true, [ci, ci, ci]), (false, [CS.bool])]], boxes := [], rows := [] }
def C_blend_Toward_0 (Qcj : Fn) : Cfg := { spec := Qby [(190, spOf sig_wide_Over osig_wide_Over Qcj)], eqOk := Qb2, ownOff := ownOff, unroll := [5, 10] }
def mf_blend_Toward (Qcj : Fn) : Fn := Qax Tryz.prog (C_blend_Toward_0 Qcj) 64 177 Qpi Qnj
theorem mf_blend_Toward_eq (Qcj : Fn) (x0 x1 x2 x3 x4 x5 x6 : Int) : mf_blend_Toward Qcj [I x0, I x1, I x2, I x3, I x4, I x5, I x6] =
 bif x3 == x0 && (x4 == x1 && (x5 == x2 && true)) then
 some [I 0, I 0, I 0, B false]
 else
 bif decide (x6 < 0) then
 some [I 0, I 0, I 0, B false]
 else
 bif decide (x6 > 33554432) then
 some [I 0, I 0, I 0, B false]
 else
 (Qcj [I (IntKind.i64.wrap (x3 - x0)), I x6, I (IntKind.i64.wrap (IntKind.i64.wrap (IntKind.i64.wrap (0 + IntKind.i64.wrap (IntKind.i64.wrap (x3 - x0) * IntKind.i64.wrap (x3 - x0))) + IntKind.i64.wrap (IntKind.i64.wrap (x4 - x1) * IntKind.i64.wrap (x4 - x1))) + IntKind.i64.wrap (IntKind.i64.wrap (x5 - x2) * IntKind.i64.wrap (x5 - x2)))), I 2]).bind fun o3 =>
 (Qcj [I (IntKind.i64.wrap (x4 - x1)), I x6, I (IntKind.i64.wrap (IntKind.i64.wrap (IntKind.i64.wrap (0 + IntKind.i64.wrap (IntKind.i64.wrap (x3 - x0) * IntKind.i64.wrap (x3 - x0))) + IntKind.i64.wrap (IntKind.i64.wrap (x4 - x1) * IntKind.i64.wrap (x4 - x1))) + IntKind.i64.wrap (IntKind.i64.wrap (x5 - x2) * IntKind.i64.wrap (x5 - x2)))), I 2]).bind fun o4 =>
 (Qcj [I (IntKind.i64.wrap (x5 - x2)), I x6, I (IntKind.i64.wrap (IntKind.i64.wrap (IntKind.i64.wrap (0 + IntKind.i64.wrap (IntKind.i64.wrap (x3 - x0) * IntKind.i64.wrap (x3 - x0))) + IntKind.i64.wrap (IntKind.i64.wrap (x4 - x1) * IntKind.i64.wrap (x4 - x1))) + IntKind.i64.wrap (IntKind.i64.wrap (x5 - x2) * IntKind.i64.wrap (x5 - x2)))), I 2]).bind fun o5 =>
 some [I (IntKind.i64.wrap (x0 + gA o3 0)), I (IntKind.i64.wrap (x1 + gA o4 0)), I (IntKind.i64.wrap (x2 + gA o5 0)), B true] := by kernel_rfl
def Qei := mf_blend_Toward Qjd 
theorem sp_blend_Toward : Qaj Tryz.prog (C_blend_Toward_0 Qjd) := Qae rfl ⟨r_wide_Over, trivial⟩
theorem r_blend_Toward : Qbp Tryz.prog (177, spOf Qpi Qnj Qei) := Qa0 (C := (C_blend_Toward_0 Qjd)) (L := 64) (by kernel_rfl) (FnOK.bare rfl rfl rfl) sp_blend_Toward eqOk Qa7 (by kernel_rfl) (by kernel_rfl)
def sig_blend_Reach : Sk := { tmps := [TS.v true [ci, ci, ci], TS.v true [ci, ci, ci], TS.v true [ci, ci, ci], tf [ci]], boxes := [], rows := [] }
def osig_blend_Reach : Sk := { tmps := [tf [ci]], boxes := [], rows := [] }
def C_blend_Reach_0 (Qcf Qbf Qal : Fn) : Cfg := { spec := Qby [(189, spOf sig_blend_bend osig_blend_bend Qcf), (177, spOf Qpi Qnj Qbf), (92, spOf Qk6 Qj9 Qal)], eqOk := Qb2, ownOff := ownOff }
def sk_blend_Reach_6 : Sk := { tmps := [td, td, td, tf [ci], tf [CS.ptr 4 0], tf [CS.ptr 5 0], tf [CS.ptr 6 0], td, td, tf [ci], tf [ci], tf [ci]] ++ dd 62, boxes := [(4, 25, [ci, ci, ci]), (5, 25, [ci, ci, ci]), (6, 25, [ci, ci, ci])], rows := [] }
def ex_blend_Reach_6 : List (Ex × Sk) := [(Ex.exit 0, { tmps := [td, td, td, td, td, td, td, td, td, td, tf [ci]] ++ dd 63, boxes := [], rows := [] })]
def Qik (Qcf Qbf Qal : Fn) : Lp := Qkk Tryz.prog (C_blend_Reach_0 Qcf Qbf Qal) 64 6 (Qfk Tryz.prog 176 6) sk_blend_Reach_6 ex_blend_Reach_6
def C_blend_Reach_1 (Qcf Qbf Qal : Fn) (N6 : Lp) : Cfg := (C_blend_Reach_0 Qcf Qbf Qal).loop 6 sk_blend_Reach_6 ex_blend_Reach_6 N6
def mf_blend_Reach (Qcf Qbf Qal : Fn) (N6 : Lp) : Fn := Qax Tryz.prog (C_blend_Reach_1 Qcf Qbf Qal N6) 64 176 sig_blend_Reach osig_blend_Reach
theorem st_blend_Reach_6_eq (Qcf Qbf Qal : Fn) (v0 v1 v2 v3 v4 v5 v6 v7 v8 v9 v10 v11 v12 : Int) : Qik Qcf Qbf Qal [I v0, I v1, I v2, I v3, I v4, I v5, I v6, I v7, I v8, I v9, I v10, I v11, I v12] =
 bif decide (v3 > 0) then
 bif decide (IntKind.i64.wrap (v2 + v3) > v1) then
 some (0, [I v0, I v1, I v2, I (v3.fdiv (2 ^ min (Int.toNat 1) IntKind.i64.bits)), I v4, I v5, I v6, I v7, I v8, I v9, I v10, I v11, I v12])
 else
 (Qbf [I v7, I v8, I v9, I v4, I v5, I v6, I (IntKind.i64.wrap (v2 + v3))]).bind fun o8 =>
 (Qbf [I v7, I v8, I v9, I v10, I v11, I v12, I (IntKind.i64.wrap (v2 + v3))]).bind fun o9 =>
 (Qcf [jA o8 0, jA o8 1, jA o8 2, I v7, I v8, I v9, jA o9 0, jA o9 1, jA o9 2]).bind fun o10 =>
 bif decide (gA o10 0 <= IntKind.i64.wrap (IntKind.i64.wrap (16 * v0) * v0)) then
 some (0, [I v0, I v1, I (IntKind.i64.wrap (v2 + v3)), I (v3.fdiv (2 ^ min (Int.toNat 1) IntKind.i64.bits)), I v4, I v5, I v6, I v7, I v8, I v9, I v10, I v11, I v12])
 else
 some (0, [I v0, I v1, I v2, I (v3.fdiv (2 ^ min (Int.toNat 1) IntKind.i64.bits)), I v4, I v5, I v6, I v7, I v8, I v9, I v10, I v11, I v12])
 else
 some (1, [I v2]) := by kernel_rfl
theorem mf_blend_Reach_eq (Qcf Qbf Qal : Fn) (N6 : Lp) (x0 x1 x2 x3 x4 x5 x6 x7 x8 x9 : Int) : mf_blend_Reach Qcf Qbf Qal N6 [I x0, I x1, I x2, I x3, I x4, I x5, I x6, I x7, I x8, I x9] =
 bif x0 == x3 && (x1 == x4 && (x2 == x5 && true)) then
 some [I 0]
 else
 bif x6 == x3 && (x7 == x4 && (x8 == x5 && true)) then
 some [I 0]
 else
 (Qal [I x0, I x1, I x2, I x3, I x4, I x5]).bind fun o11 =>
 (Qal [I x3, I x4, I x5, I x6, I x7, I x8]).bind fun o12 =>
 (N6 [I x9, I (IntKind.i64.wrap (mn (gA o11 0) (gA o12 0) - 2)), I 0, I 16777216, I x0, I x1, I x2, I x3, I x4, I x5, I x6, I x7, I x8]).bind fun o13 =>
 bif o13.1.beq 1 then
 bif decide (gA o13.2 0 < 16) then
 some [I 0]
 else
 some [jA o13.2 0]
 else
 none := by kernel_rfl
def l_blend_Reach_6 := Qbn (Qik Qf0 Qei Qcz )
def Qky := mf_blend_Reach Qf0 Qei Qcz l_blend_Reach_6
theorem sp_blend_Reach : Qaj Tryz.prog (C_blend_Reach_0 Qf0 Qei Qcz) := Qae rfl ⟨r_blend_bend, r_blend_Toward, r_curve_Length, trivial⟩
theorem r_blend_Reach : Qbp Tryz.prog (176, spOf sig_blend_Reach osig_blend_Reach Qky) := Qa0 (C := (C_blend_Reach_1 Qf0 Qei Qcz l_blend_Reach_6)) (L := 64) (by kernel_rfl) ((FnOK.bare rfl rfl rfl).loop sp_blend_Reach eqOk Qa7 (by kernel_rfl) (by kernel_rfl)) sp_blend_Reach eqOk Qa7 (by kernel_rfl) (by kernel_rfl)
def sig_blend_Corner : Sk := { tmps := [TS.v true [ci, ci, ci], TS.v true [ci, ci, ci], TS.v true [ci, ci, ci], tf [ci]], boxes := [], rows := [] }
def osig_blend_Corner : Sk := { tmps := [tf [CS.sl kPt]], boxes := [], rows := [] }
def C_blend_Corner_0 (Qb8 Qej Qbf Qe6 : Fn) : Cfg := { spec := Qby [(70, spOf sig_wide_MulDiv Qpl Qb8), (178, spOf sig_blend_Pieces osig_blend_Pieces Qej), (177, spOf Qpi Qnj Qbf), (176, spOf sig_blend_Reach osig_blend_Reach Qe6)], eqOk := Qb2, ownOff := ownOff, unroll := [13] }
def sk_blend_Corner_9 : Sk := { tmps := [td, td, td, td, td, tf [CS.ptr 5 0], td, td, td, td, tf [CS.ptr 10 0], td, tf [CS.ptr 12 0], td, tf [ci], tf [CS.own 50 3], td, td, td, td, td, td, td, td, td, td, td, td, td, td, td, td, td, td, td, td, td, td, td, td, td, td, td, td, td, td, td, td, td, td, td, td, tf [ci], tf [ci]] ++ dd 57, boxes := [(5, 25, [ci, ci, ci]), (10, 25, [ci, ci, ci]), (12, 25, [ci, ci, ci])], rows := [(50, 25, kPt)] }
def ex_blend_Corner_9 : List (Ex × Sk) := [(Ex.exit 0, { tmps := [td, td, td, td, td, td, td, td, td, td, td, td, td, td, td, tf [CS.own 50 3]] ++ dd 95, boxes := [], rows := [(50, 25, kPt)] })]
def Qhw (Qb8 Qej Qbf Qe6 : Fn) : Lp := Qkk Tryz.prog (C_blend_Corner_0 Qb8 Qej Qbf Qe6) 64 9 (Qfk Tryz.prog 163 9) sk_blend_Corner_9 ex_blend_Corner_9
def C_blend_Corner_1 (Qb8 Qej Qbf Qe6 : Fn) (N9 : Lp) : Cfg := (C_blend_Corner_0 Qb8 Qej Qbf Qe6).loop 9 sk_blend_Corner_9 ex_blend_Corner_9 N9
def mf_blend_Corner (Qb8 Qej Qbf Qe6 : Fn) (N9 : Lp) : Fn := Qax Tryz.prog (C_blend_Corner_1 Qb8 Qej Qbf Qe6 N9) 64 163 sig_blend_Corner osig_blend_Corner
theorem st_blend_Corner_9_eq (Qb8 Qej Qbf Qe6 : Fn) (v0 : Rw) (v1 v2 v3 v4 v5 v6 v7 v8 v9 v10 v11 v12 : Int) : Qhw Qb8 Qej Qbf Qe6 [.view kPt v0, I v1, I v2, I v3, I v4, I v5, I v6, I v7, I v8, I v9, I v10, I v11, I v12] =
 bif decide (v3 < v2) then
 bif decide (0 <= v3) && decide (v3 < (v0.length : Int)) then
 (Qb8 [I (IntKind.i64.wrap (IntKind.i64.wrap (IntKind.i64.wrap (IntKind.i64.wrap (v1 - v3) * IntKind.i64.wrap (v1 - v3)) * IntKind.i64.wrap (v7 - v4)) + IntKind.i64.wrap (IntKind.i64.wrap (v3 * v3) * IntKind.i64.wrap (v10 - v4)))), I 1, I (IntKind.i64.wrap (v1 * v1)), I 2]).bind fun o12 =>
 bif decide (0 <= v3) && decide (v3 < (v0.length : Int)) then
 bif decide (0 <= v3) && decide (v3 < (v0.length : Int)) then
 (Qb8 [I (IntKind.i64.wrap (IntKind.i64.wrap (IntKind.i64.wrap (IntKind.i64.wrap (v1 - v3) * IntKind.i64.wrap (v1 - v3)) * IntKind.i64.wrap (v8 - v5)) + IntKind.i64.wrap (IntKind.i64.wrap (v3 * v3) * IntKind.i64.wrap (v11 - v5)))), I 1, I (IntKind.i64.wrap (v1 * v1)), I 2]).bind fun o13 =>
 bif decide (0 <= v3) && decide (v3 < (v0.length : Int)) then
 bif decide (0 <= v3) && decide (v3 < (v0.length : Int)) then
 (Qb8 [I (IntKind.i64.wrap (IntKind.i64.wrap (IntKind.i64.wrap (IntKind.i64.wrap (v1 - v3) * IntKind.i64.wrap (v1 - v3)) * IntKind.i64.wrap (v9 - v6)) + IntKind.i64.wrap (IntKind.i64.wrap (v3 * v3) * IntKind.i64.wrap (v12 - v6)))), I 1, I (IntKind.i64.wrap (v1 * v1)), I 2]).bind fun o14 =>
 bif decide (0 <= v3) && decide (v3 < (v0.length : Int)) then
 bif decide (0 <= v3) && decide (v3 < (v0.length : Int)) then
 some (0, [.view kPt ((((v0.set v3.toNat [I v4, I v5, I v6]).set v3.toNat [I (IntKind.i64.wrap (Qa1 (nth .dead (nth [] (v0.set v3.toNat [I v4, I v5, I v6]) v3.toNat) 0) + gA o12 0)), I (Qa1 (nth .dead (nth [] (v0.set v3.toNat [I v4, I v5, I v6]) v3.toNat) 1)), I (Qa1 (nth .dead (nth [] (v0.set v3.toNat [I v4, I v5, I v6]) v3.toNat) 2))]).set v3.toNat [I (Qa1 (nth .dead (nth [] ((v0.set v3.toNat [I v4, I v5, I v6]).set v3.toNat [I (IntKind.i64.wrap (Qa1 (nth .dead (nth [] (v0.set v3.toNat [I v4, I v5, I v6]) v3.toNat) 0) + gA o12 0)), I (Qa1 (nth .dead (nth [] (v0.set v3.toNat [I v4, I v5, I v6]) v3.toNat) 1)), I (Qa1 (nth .dead (nth [] (v0.set v3.toNat [I v4, I v5, I v6]) v3.toNat) 2))]) v3.toNat) 0)), I (IntKind.i64.wrap (Qa1 (nth .dead (nth [] ((v0.set v3.toNat [I v4, I v5, I v6]).set v3.toNat [I (IntKind.i64.wrap (Qa1 (nth .dead (nth [] (v0.set v3.toNat [I v4, I v5, I v6]) v3.toNat) 0) + gA o12 0)), I (Qa1 (nth .dead (nth [] (v0.set v3.toNat [I v4, I v5, I v6]) v3.toNat) 1)), I (Qa1 (nth .dead (nth [] (v0.set v3.toNat [I v4, I v5, I v6]) v3.toNat) 2))]) v3.toNat) 1) + gA o13 0)), I (Qa1 (nth .dead (nth [] ((v0.set v3.toNat [I v4, I v5, I v6]).set v3.toNat [I (IntKind.i64.wrap (Qa1 (nth .dead (nth [] (v0.set v3.toNat [I v4, I v5, I v6]) v3.toNat) 0) + gA o12 0)), I (Qa1 (nth .dead (nth [] (v0.set v3.toNat [I v4, I v5, I v6]) v3.toNat) 1)), I (Qa1 (nth .dead (nth [] (v0.set v3.toNat [I v4, I v5, I v6]) v3.toNat) 2))]) v3.toNat) 2))]).set v3.toNat [I (Qa1 (nth .dead (nth [] (((v0.set v3.toNat [I v4, I v5, I v6]).set v3.toNat [I (IntKind.i64.wrap (Qa1 (nth .dead (nth [] (v0.set v3.toNat [I v4, I v5, I v6]) v3.toNat) 0) + gA o12 0)), I (Qa1 (nth .dead (nth [] (v0.set v3.toNat [I v4, I v5, I v6]) v3.toNat) 1)), I (Qa1 (nth .dead (nth [] (v0.set v3.toNat [I v4, I v5, I v6]) v3.toNat) 2))]).set v3.toNat [I (Qa1 (nth .dead (nth [] ((v0.set v3.toNat [I v4, I v5, I v6]).set v3.toNat [I (IntKind.i64.wrap (Qa1 (nth .dead (nth [] (v0.set v3.toNat [I v4, I v5, I v6]) v3.toNat) 0) + gA o12 0)), I (Qa1 (nth .dead (nth [] (v0.set v3.toNat [I v4, I v5, I v6]) v3.toNat) 1)), I (Qa1 (nth .dead (nth [] (v0.set v3.toNat [I v4, I v5, I v6]) v3.toNat) 2))]) v3.toNat) 0)), I (IntKind.i64.wrap (Qa1 (nth .dead (nth [] ((v0.set v3.toNat [I v4, I v5, I v6]).set v3.toNat [I (IntKind.i64.wrap (Qa1 (nth .dead (nth [] (v0.set v3.toNat [I v4, I v5, I v6]) v3.toNat) 0) + gA o12 0)), I (Qa1 (nth .dead (nth [] (v0.set v3.toNat [I v4, I v5, I v6]) v3.toNat) 1)), I (Qa1 (nth .dead (nth [] (v0.set v3.toNat [I v4, I v5, I v6]) v3.toNat) 2))]) v3.toNat) 1) + gA o13 0)), I (Qa1 (nth .dead (nth [] ((v0.set v3.toNat [I v4, I v5, I v6]).set v3.toNat [I (IntKind.i64.wrap (Qa1 (nth .dead (nth [] (v0.set v3.toNat [I v4, I v5, I v6]) v3.toNat) 0) + gA o12 0)), I (Qa1 (nth .dead (nth [] (v0.set v3.toNat [I v4, I v5, I v6]) v3.toNat) 1)), I (Qa1 (nth .dead (nth [] (v0.set v3.toNat [I v4, I v5, I v6]) v3.toNat) 2))]) v3.toNat) 2))]) v3.toNat) 0)), I (Qa1 (nth .dead (nth [] (((v0.set v3.toNat [I v4, I v5, I v6]).set v3.toNat [I (IntKind.i64.wrap (Qa1 (nth .dead (nth [] (v0.set v3.toNat [I v4, I v5, I v6]) v3.toNat) 0) + gA o12 0)), I (Qa1 (nth .dead (nth [] (v0.set v3.toNat [I v4, I v5, I v6]) v3.toNat) 1)), I (Qa1 (nth .dead (nth [] (v0.set v3.toNat [I v4, I v5, I v6]) v3.toNat) 2))]).set v3.toNat [I (Qa1 (nth .dead (nth [] ((v0.set v3.toNat [I v4, I v5, I v6]).set v3.toNat [I (IntKind.i64.wrap (Qa1 (nth .dead (nth [] (v0.set v3.toNat [I v4, I v5, I v6]) v3.toNat) 0) + gA o12 0)), I (Qa1 (nth .dead (nth [] (v0.set v3.toNat [I v4, I v5, I v6]) v3.toNat) 1)), I (Qa1 (nth .dead (nth [] (v0.set v3.toNat [I v4, I v5, I v6]) v3.toNat) 2))]) v3.toNat) 0)), I (IntKind.i64.wrap (Qa1 (nth .dead (nth [] ((v0.set v3.toNat [I v4, I v5, I v6]).set v3.toNat [I (IntKind.i64.wrap (Qa1 (nth .dead (nth [] (v0.set v3.toNat [I v4, I v5, I v6]) v3.toNat) 0) + gA o12 0)), I (Qa1 (nth .dead (nth [] (v0.set v3.toNat [I v4, I v5, I v6]) v3.toNat) 1)), I (Qa1 (nth .dead (nth [] (v0.set v3.toNat [I v4, I v5, I v6]) v3.toNat) 2))]) v3.toNat) 1) + gA o13 0)), I (Qa1 (nth .dead (nth [] ((v0.set v3.toNat [I v4, I v5, I v6]).set v3.toNat [I (IntKind.i64.wrap (Qa1 (nth .dead (nth [] (v0.set v3.toNat [I v4, I v5, I v6]) v3.toNat) 0) + gA o12 0)), I (Qa1 (nth .dead (nth [] (v0.set v3.toNat [I v4, I v5, I v6]) v3.toNat) 1)), I (Qa1 (nth .dead (nth [] (v0.set v3.toNat [I v4, I v5, I v6]) v3.toNat) 2))]) v3.toNat) 2))]) v3.toNat) 1)), I (IntKind.i64.wrap (Qa1 (nth .dead (nth [] (((v0.set v3.toNat [I v4, I v5, I v6]).set v3.toNat [I (IntKind.i64.wrap (Qa1 (nth .dead (nth [] (v0.set v3.toNat [I v4, I v5, I v6]) v3.toNat) 0) + gA o12 0)), I (Qa1 (nth .dead (nth [] (v0.set v3.toNat [I v4, I v5, I v6]) v3.toNat) 1)), I (Qa1 (nth .dead (nth [] (v0.set v3.toNat [I v4, I v5, I v6]) v3.toNat) 2))]).set v3.toNat [I (Qa1 (nth .dead (nth [] ((v0.set v3.toNat [I v4, I v5, I v6]).set v3.toNat [I (IntKind.i64.wrap (Qa1 (nth .dead (nth [] (v0.set v3.toNat [I v4, I v5, I v6]) v3.toNat) 0) + gA o12 0)), I (Qa1 (nth .dead (nth [] (v0.set v3.toNat [I v4, I v5, I v6]) v3.toNat) 1)), I (Qa1 (nth .dead (nth [] (v0.set v3.toNat [I v4, I v5, I v6]) v3.toNat) 2))]) v3.toNat) 0)), I (IntKind.i64.wrap (Qa1 (nth .dead (nth [] ((v0.set v3.toNat [I v4, I v5, I v6]).set v3.toNat [I (IntKind.i64.wrap (Qa1 (nth .dead (nth [] (v0.set v3.toNat [I v4, I v5, I v6]) v3.toNat) 0) + gA o12 0)), I (Qa1 (nth .dead (nth [] (v0.set v3.toNat [I v4, I v5, I v6]) v3.toNat) 1)), I (Qa1 (nth .dead (nth [] (v0.set v3.toNat [I v4, I v5, I v6]) v3.toNat) 2))]) v3.toNat) 1) + gA o13 0)), I (Qa1 (nth .dead (nth [] ((v0.set v3.toNat [I v4, I v5, I v6]).set v3.toNat [I (IntKind.i64.wrap (Qa1 (nth .dead (nth [] (v0.set v3.toNat [I v4, I v5, I v6]) v3.toNat) 0) + gA o12 0)), I (Qa1 (nth .dead (nth [] (v0.set v3.toNat [I v4, I v5, I v6]) v3.toNat) 1)), I (Qa1 (nth .dead (nth [] (v0.set v3.toNat [I v4, I v5, I v6]) v3.toNat) 2))]) v3.toNat) 2))]) v3.toNat) 2) + gA o14 0))]), I v1, I v2, I (IntKind.i64.wrap (v3 + 1)), I v4, I v5, I v6, I v7, I v8, I v9, I v10, I v11, I v12])
 else
 none
 else
 none
 else
 none
 else
 none
 else
 none
 else
 none
 else
 none
 else
 some (1, [.view kPt v0]) := by kernel_rfl
theorem mf_blend_Corner_eq (Qb8 Qej Qbf Qe6 : Fn) (N9 : Lp) (x0 x1 x2 x3 x4 x5 x6 x7 x8 x9 : Int) : mf_blend_Corner Qb8 Qej Qbf Qe6 N9 [I x0, I x1, I x2, I x3, I x4, I x5, I x6, I x7, I x8, I x9] =
 (Qe6 [I x0, I x1, I x2, I x3, I x4, I x5, I x6, I x7, I x8, I x9]).bind fun o15 =>
 bif gA o15 0 == 0 then
 some [.view kPt [[I x3, I x4, I x5]]]
 else
 (Qbf [I x3, I x4, I x5, I x0, I x1, I x2, jA o15 0]).bind fun o16 =>
 (Qbf [I x3, I x4, I x5, I x6, I x7, I x8, jA o15 0]).bind fun o17 =>
 (Qej [jA o16 0, jA o16 1, jA o16 2, I x3, I x4, I x5, jA o17 0, jA o17 1, jA o17 2]).bind fun o18 =>
 bif decide (IntKind.i64.wrap (gA o18 0 + 1) = IntKind.i64.wrap (gA o18 0 + 1)) then
 bif decide (0 <= IntKind.i64.wrap (gA o18 0 + 1)) && decide (IntKind.i64.wrap (gA o18 0 + 1) * (↑24 : Int) <= 140737488355328) then
 (N9 [.view kPt (List.replicate (IntKind.i64.wrap (gA o18 0 + 1)).toNat [I 0, I 0, I 0]), jA o18 0, I (↑(List.replicate (IntKind.i64.wrap (gA o18 0 + 1)).toNat [I 0, I 0, I 0]).length : Int), I 0, I x3, I x4, I x5, jA o16 0, jA o16 1, jA o16 2, jA o17 0, jA o17 1, jA o17 2]).bind fun o19 =>
 bif o19.1.beq 1 then
 some [.view kPt (wA o19.2 0)]
 else
 none
 else
 none
 else
 none := by kernel_rfl
def l_blend_Corner_9 := Qbn (Qhw Qer Qhl Qei Qky )
def Qo4 := mf_blend_Corner Qer Qhl Qei Qky l_blend_Corner_9
theorem sp_blend_Corner : Qaj Tryz.prog (C_blend_Corner_0 Qer Qhl Qei Qky) := Qae rfl ⟨r_wide_MulDiv, r_blend_Pieces, r_blend_Toward, r_blend_Reach, trivial⟩
theorem r_blend_Corner : Qbp Tryz.prog (163, spOf sig_blend_Corner osig_blend_Corner Qo4) := Qa0 (C := (C_blend_Corner_1 Qer Qhl Qei Qky l_blend_Corner_9)) (L := 64) (by kernel_rfl) ((FnOK.bare rfl rfl rfl).loop sp_blend_Corner eqOk Qa7 (by kernel_rfl) (by kernel_rfl)) sp_blend_Corner eqOk Qa7 (by kernel_rfl) (by kernel_rfl)
def sig_path_scaled : Sk := { tmps := [TS.v true [ci, ci, ci]], boxes := [], rows := [] }
def osig_path_scaled : Sk := { tmps := [TS.v true [ci, ci, ci]], boxes := [], rows := [] }
def C_path_scaled_0 : Cfg := { spec := Qby [], eqOk := Qb2, ownOff := ownOff }
def mf_path_scaled : Fn := Qax Tryz.prog C_path_scaled_0 64 164 sig_path_scaled osig_path_scaled
theorem mf_path_scaled_eq (x0 x1 x2 : Int) : mf_path_scaled [I x0, I x1, I x2] =
 some [I (IntKind.i64.wrap (x0 * 16)), I (IntKind.i64.wrap (x1 * 16)), I (IntKind.i64.wrap (x2 * 16))] := by kernel_rfl
def Qns := mf_path_scaled 
theorem sp_path_scaled : Qaj Tryz.prog (C_path_scaled_0 ) := Qae rfl trivial
theorem r_path_scaled : Qbp Tryz.prog (164, spOf sig_path_scaled osig_path_scaled Qns) := Qa0 (C := C_path_scaled_0) (L := 64) (by kernel_rfl) (FnOK.bare rfl rfl rfl) sp_path_scaled eqOk Qa7 (by kernel_rfl) (by kernel_rfl)
def sig_path_corner : Sk := { tmps := [TS.v true [ci, ci, ci, ci, ci, ci, ci, ci, ci, ci, ci, ci, ci, CS.bool, ci, CS.bool, ci, ci, ci, ci, ci, CS.bool], TS.v true [ci, ci, ci, ci, ci, ci, ci, ci, ci, ci, ci, ci, ci, CS.bool, ci, CS.bool, ci, ci, ci, ci, ci, CS.bool]], boxes := [], rows := [] }
def osig_path_corner : Sk := { tmps := [TS.tup [(false, [CS.sl kPt]), (false, [CS.sl kPt])]], boxes := [], rows := [] }
def C_path_corner_0 (Qlr Qnl Qbd : Fn) : Cfg := { spec := Qby [(163, spOf sig_blend_Corner osig_blend_Corner Qlr), (164, spOf sig_path_scaled osig_path_scaled Qnl), (131, spOf Qna Qlb Qbd)], eqOk := Qb2, ownOff := ownOff }
def mf_path_corner (Qlr Qnl Qbd : Fn) : Fn := Qax Tryz.prog (C_path_corner_0 Qlr Qnl Qbd) 64 145 sig_path_corner osig_path_corner
theorem mf_path_corner_eq (Qlr Qnl Qbd : Fn) (x0 x1 x2 x3 x4 x5 x6 x7 x8 x9 x10 x11 x12 : Int) (x13 : Bool) (x14 : Int) (x15 : Bool) (x16 x17 x18 x19 x20 : Int) (x21 : Bool) (x22 x23 x24 x25 x26 x27 x28 x29 x30 x31 x32 x33 x34 : Int) (x35 : Bool) (x36 : Int) (x37 : Bool) (x38 x39 x40 x41 x42 : Int) (x43 : Bool) : mf_path_corner Qlr Qnl Qbd [I x0, I x1, I x2, I x3, I x4, I x5, I x6, I x7, I x8, I x9, I x10, I x11, I x12, B x13, I x14, B x15, I x16, I x17, I x18, I x19, I x20, B x21, I x22, I x23, I x24, I x25, I x26, I x27, I x28, I x29, I x30, I x31, I x32, I x33, I x34, B x35, I x36, B x37, I x38, I x39, I x40, I x41, I x42, B x43] =
 (Qbd [I x0, I x1, I x2, I x3, I x4, I x5, I x6, I x7, I x8, I x9, I x10, I x11, I x12, B x13, I x14, B x15, I x16, I x17, I x18, I x19, I x20, B x21]).bind fun o4 =>
 (Qnl [I x5, I x6, I x7]).bind fun o5 =>
 (Qbd [I x22, I x23, I x24, I x25, I x26, I x27, I x28, I x29, I x30, I x31, I x32, I x33, I x34, B x35, I x36, B x37, I x38, I x39, I x40, I x41, I x42, B x43]).bind fun o6 =>
 (Qlr [jA o4 0, jA o4 1, jA o4 2, jA o5 0, jA o5 1, jA o5 2, jA o6 0, jA o6 1, jA o6 2, I (IntKind.i64.wrap (x18 * 16))]).bind fun o7 =>
 bif decide (0 <= IntKind.i64.wrap (IntKind.i64.wrap ((IntKind.i64.wrap ((↑(wA o7 0).length : Int) - 1)).tdiv 2) + 1)) && decide (IntKind.i64.wrap (IntKind.i64.wrap ((IntKind.i64.wrap ((↑(wA o7 0).length : Int) - 1)).tdiv 2) + 1) <= (↑(wA o7 0).length : Int)) then
 bif decide (0 <= IntKind.i64.wrap ((IntKind.i64.wrap ((↑(wA o7 0).length : Int) - 1)).tdiv 2)) && decide (IntKind.i64.wrap ((IntKind.i64.wrap ((↑(wA o7 0).length : Int) - 1)).tdiv 2) <= (↑(wA o7 0).length : Int)) then
 some [.view kPt (List.take (IntKind.i64.wrap (IntKind.i64.wrap ((IntKind.i64.wrap ((↑(wA o7 0).length : Int) - 1)).tdiv 2) + 1)).toNat (wA o7 0)), .view kPt (List.drop (IntKind.i64.wrap ((IntKind.i64.wrap ((↑(wA o7 0).length : Int) - 1)).tdiv 2)).toNat (wA o7 0))]
 else
 none
 else
 none := by kernel_rfl
def m_path_corner := mf_path_corner Qo4 Qns Qeo 
theorem sp_path_corner : Qaj Tryz.prog (C_path_corner_0 Qo4 Qns Qeo) := Qae rfl ⟨r_blend_Corner, r_path_scaled, r_path_middle, trivial⟩
theorem r_path_corner : Qbp Tryz.prog (145, spOf sig_path_corner osig_path_corner m_path_corner) := Qa0 (C := (C_path_corner_0 Qo4 Qns Qeo)) (L := 64) (by kernel_rfl) (FnOK.bare rfl rfl rfl) sp_path_corner eqOk Qa7 (by kernel_rfl) (by kernel_rfl)
def Qoy : Sk := { tmps := [tf [ci]], boxes := [], rows := [] }
def Qm8 : Sk := { tmps := [TS.tup [(false, [ci]), (false, [ci]), (false, [ci]), (false, [CS.bool])]], boxes := [], rows := [] }
def C_curve_axes_0 : Cfg := { spec := Qby [], eqOk := Qb2, ownOff := ownOff }
def mf_curve_axes : Fn := Qax Tryz.prog C_curve_axes_0 64 139 Qoy Qm8
theorem mf_curve_axes_eq (x0 : Int) : mf_curve_axes [I x0] =
 bif x0 == 17 then
 some [I 0, I 1, I 2, B true]
 else
 bif x0 == 18 then
 some [I 2, I 0, I 1, B true]
 else
 bif x0 == 19 then
 some [I 1, I 2, I 0, B true]
 else
 some [I 0, I 0, I 0, B false] := by kernel_rfl
def Qeu := mf_curve_axes 
theorem sp_curve_axes : Qaj Tryz.prog (C_curve_axes_0 ) := Qae rfl trivial
theorem r_curve_axes : Qbp Tryz.prog (139, spOf Qoy Qm8 Qeu) := Qa0 (C := C_curve_axes_0) (L := 64) (by kernel_rfl) (FnOK.bare rfl rfl rfl) sp_curve_axes eqOk Qa7 (by kernel_rfl) (by kernel_rfl)
def sig_curve_Space : Sk := { tmps := [tf [ci], tf [ci], tf [ci], tf [ci]], boxes := [], rows := [] }
def osig_curve_Space : Sk := { tmps := [TS.v true [ci, ci, ci]], boxes := [], rows := [] }
def C_curve_Space_0 (Qcx : Fn) : Cfg := { spec := Qby [(139, spOf Qoy Qm8 Qcx)], eqOk := Qb2, ownOff := ownOff }
def mf_curve_Space (Qcx : Fn) : Fn := Qax Tryz.prog (C_curve_Space_0 Qcx) 64 162 sig_curve_Space osig_curve_Space
abbrev g_curve_Space_2 (o1 : List AC) (x2 : Int) (h2_0 h2_1 h2_2 : AC) : Option (List AC) :=
 bif decide (gA o1 2 = (↑0 : Int)) then
 some [I x2, h2_0, h2_1]
 else
 bif decide (gA o1 2 = (↑(0 + 1) : Int)) then
 some [h2_2, I x2, h2_1]
 else
 bif decide (gA o1 2 = (↑(0 + 1 + 1) : Int)) then
 some [h2_2, h2_0, I x2]
 else
 none
attribute [go_sem] g_curve_Space_2
abbrev g_curve_Space_1 (o1 : List AC) (x2 x1 : Int) (h1_0 h1_1 h1_2 : AC) : Option (List AC) :=
 bif decide (gA o1 1 = (↑0 : Int)) then
 g_curve_Space_2 o1 x2 h1_0 h1_1 (I x1)
 else
 bif decide (gA o1 1 = (↑(0 + 1) : Int)) then
 g_curve_Space_2 o1 x2 (I x1) h1_1 h1_2
 else
 bif decide (gA o1 1 = (↑(0 + 1 + 1) : Int)) then
 g_curve_Space_2 o1 x2 h1_0 (I x1) h1_2
 else
 none
attribute [go_sem] g_curve_Space_1
theorem mf_curve_Space_eq (Qcx : Fn) (x0 x1 x2 x3 : Int) : mf_curve_Space Qcx [I x0, I x1, I x2, I x3] =
 (Qcx [I x3]).bind fun o1 =>
 bif bA o1 3 then
 bif decide (gA o1 0 = (↑0 : Int)) then
 g_curve_Space_1 o1 x2 x1 (I 0) (I 0) (I x0)
 else
 bif decide (gA o1 0 = (↑(0 + 1) : Int)) then
 g_curve_Space_1 o1 x2 x1 (I x0) (I 0) (I 0)
 else
 bif decide (gA o1 0 = (↑(0 + 1 + 1) : Int)) then
 g_curve_Space_1 o1 x2 x1 (I 0) (I x0) (I 0)
 else
 none
 else
 some [I 0, I 0, I 0] := by kernel_rfl
def Qnu := mf_curve_Space Qeu 
theorem sp_curve_Space : Qaj Tryz.prog (C_curve_Space_0 Qeu) := Qae rfl ⟨r_curve_axes, trivial⟩
theorem r_curve_Space : Qbp Tryz.prog (162, spOf sig_curve_Space osig_curve_Space Qnu) := Qa0 (C := (C_curve_Space_0 Qeu)) (L := 64) (by kernel_rfl) (FnOK.bare rfl rfl rfl) sp_curve_Space eqOk Qa7 (by kernel_rfl) (by kernel_rfl)
def sig_curve_Plane : Sk := { tmps := [TS.v true [ci, ci, ci], tf [ci]], boxes := [], rows := [] }
def Qpn : Sk := { tmps := [TS.tup [(false, [ci]), (false, [ci]), (false, [ci])]], boxes := [], rows := [] }
def C_curve_Plane_0 (Qcx : Fn) : Cfg := { spec := Qby [(139, spOf Qoy Qm8 Qcx)], eqOk := Qb2, ownOff := ownOff }
def mf_curve_Plane (Qcx : Fn) : Fn := Qax Tryz.prog (C_curve_Plane_0 Qcx) 64 158 sig_curve_Plane Qpn
abbrev g_curve_Plane_2 (o1 : List AC) (h1_0 : AC) (x0 x1 x2 : Int) (h2_0 : AC) : Option (List AC) :=
 bif decide (gA o1 2 = (↑0 : Int)) then
 some [h1_0, h2_0, I x0]
 else
 bif decide (gA o1 2 = (↑(0 + 1) : Int)) then
 some [h1_0, h2_0, I x1]
 else
 bif decide (gA o1 2 = (↑(0 + 1 + 1) : Int)) then
 some [h1_0, h2_0, I x2]
 else
 none
attribute [go_sem] g_curve_Plane_2
abbrev g_curve_Plane_1 (o1 : List AC) (x0 x1 x2 : Int) (h1_0 : AC) : Option (List AC) :=
 bif decide (gA o1 1 = (↑0 : Int)) then
 g_curve_Plane_2 o1 h1_0 x0 x1 x2 (I x0)
 else
 bif decide (gA o1 1 = (↑(0 + 1) : Int)) then
 g_curve_Plane_2 o1 h1_0 x0 x1 x2 (I x1)
 else
 bif decide (gA o1 1 = (↑(0 + 1 + 1) : Int)) then
 g_curve_Plane_2 o1 h1_0 x0 x1 x2 (I x2)
 else
 none
attribute [go_sem] g_curve_Plane_1
theorem mf_curve_Plane_eq (Qcx : Fn) (x0 x1 x2 x3 : Int) : mf_curve_Plane Qcx [I x0, I x1, I x2, I x3] =
 (Qcx [I x3]).bind fun o1 =>
 bif !bA o1 3 then
 some [I 0, I 0, I 0]
 else
 bif decide (gA o1 0 = (↑0 : Int)) then
 g_curve_Plane_1 o1 x0 x1 x2 (I x0)
 else
 bif decide (gA o1 0 = (↑(0 + 1) : Int)) then
 g_curve_Plane_1 o1 x0 x1 x2 (I x1)
 else
 bif decide (gA o1 0 = (↑(0 + 1 + 1) : Int)) then
 g_curve_Plane_1 o1 x0 x1 x2 (I x2)
 else
 none := by kernel_rfl
def Qge := mf_curve_Plane Qeu 
theorem sp_curve_Plane : Qaj Tryz.prog (C_curve_Plane_0 Qeu) := Qae rfl ⟨r_curve_axes, trivial⟩
theorem r_curve_Plane : Qbp Tryz.prog (158, spOf sig_curve_Plane Qpn Qge) := Qa0 (C := (C_curve_Plane_0 Qeu)) (L := 64) (by kernel_rfl) (FnOK.bare rfl rfl rfl) sp_curve_Plane eqOk Qa7 (by kernel_rfl) (by kernel_rfl)
def Qpj : Sk := { tmps := [TS.v true [ci, ci, ci]], boxes := [], rows := [] }
def Qnp : Sk := { tmps := [TS.v true [ci, ci, ci]], boxes := [], rows := [] }
def C_curve_scaled_0 : Cfg := { spec := Qby [], eqOk := Qb2, ownOff := ownOff }
def mf_curve_scaled : Fn := Qax Tryz.prog C_curve_scaled_0 64 159 Qpj Qnp
theorem mf_curve_scaled_eq (x0 x1 x2 : Int) : mf_curve_scaled [I x0, I x1, I x2] =
 some [I (IntKind.i64.wrap (x0 * 16)), I (IntKind.i64.wrap (x1 * 16)), I (IntKind.i64.wrap (x2 * 16))] := by kernel_rfl
def Qe2 := mf_curve_scaled 
theorem sp_curve_scaled : Qaj Tryz.prog (C_curve_scaled_0 ) := Qae rfl trivial
theorem r_curve_scaled : Qbp Tryz.prog (159, spOf Qpj Qnp Qe2) := Qa0 (C := C_curve_scaled_0) (L := 64) (by kernel_rfl) (FnOK.bare rfl rfl rfl) sp_curve_scaled eqOk Qa7 (by kernel_rfl) (by kernel_rfl)
def Qnd : Sk := { tmps := [TS.v true [ci, ci, ci, ci], TS.v true [ci, ci, ci, ci]], boxes := [], rows := [] }
def Qk7 : Sk := { tmps := [tf [ci]], boxes := [], rows := [] }
def C_curve_cross_0 : Cfg := { spec := Qby [], eqOk := Qb2, ownOff := ownOff }
def mf_curve_cross : Fn := Qax Tryz.prog C_curve_cross_0 64 143 Qnd Qk7
theorem mf_curve_cross_eq (x0 x1 x2 x3 x4 x5 x6 x7 : Int) : mf_curve_cross [I x0, I x1, I x2, I x3, I x4, I x5, I x6, I x7] =
 some [I (IntKind.i64.wrap (IntKind.i64.wrap (x0 * x5) - IntKind.i64.wrap (x1 * x4)))] := by kernel_rfl
def Qe7 := mf_curve_cross 
theorem sp_curve_cross : Qaj Tryz.prog (C_curve_cross_0 ) := Qae rfl trivial
theorem r_curve_cross : Qbp Tryz.prog (143, spOf Qnd Qk7 Qe7) := Qa0 (C := C_curve_cross_0) (L := 64) (by kernel_rfl) (FnOK.bare rfl rfl rfl) sp_curve_cross eqOk Qa7 (by kernel_rfl) (by kernel_rfl)
def sig_curve_dot : Sk := { tmps := [TS.v true [ci, ci, ci, ci], TS.v true [ci, ci, ci, ci]], boxes := [], rows := [] }
def Qox : Sk := { tmps := [tf [ci]], boxes := [], rows := [] }
def C_curve_dot_0 : Cfg := { spec := Qby [], eqOk := Qb2, ownOff := ownOff }
def mf_curve_dot : Fn := Qax Tryz.prog C_curve_dot_0 64 141 sig_curve_dot Qox
theorem mf_curve_dot_eq (x0 x1 x2 x3 x4 x5 x6 x7 : Int) : mf_curve_dot [I x0, I x1, I x2, I x3, I x4, I x5, I x6, I x7] =
 some [I (IntKind.i64.wrap (IntKind.i64.wrap (x0 * x4) + IntKind.i64.wrap (x1 * x5)))] := by kernel_rfl
def Qgz := mf_curve_dot 
theorem sp_curve_dot : Qaj Tryz.prog (C_curve_dot_0 ) := Qae rfl trivial
theorem r_curve_dot : Qbp Tryz.prog (141, spOf sig_curve_dot Qox Qgz) := Qa0 (C := C_curve_dot_0) (L := 64) (by kernel_rfl) (FnOK.bare rfl rfl rfl) sp_curve_dot eqOk Qa7 (by kernel_rfl) (by kernel_rfl)
def sig_curve_Middle : Sk := { tmps := [TS.v true [ci, ci, ci, ci], TS.v true [ci, ci, ci, ci], tf [ci], tf [CS.bool]], boxes := [], rows := [] }
def osig_curve_Middle : Sk := { tmps := [TS.tup [(true, [ci, ci, ci, ci]), (false, [CS.bool])]], boxes := [], rows := [] }
def C_curve_Middle_0 (Qcj Qbs Qb9 : Fn) : Cfg := { spec := Qby [(190, spOf sig_wide_Over osig_wide_Over Qcj), (143, spOf Qnd Qk7 Qbs), (141, spOf sig_curve_dot Qox Qb9)], eqOk := Qb2, ownOff := ownOff }
def mf_curve_Middle (Qcj Qbs Qb9 : Fn) : Fn := Qax Tryz.prog (C_curve_Middle_0 Qcj Qbs Qb9) 64 188 sig_curve_Middle osig_curve_Middle
abbrev g_curve_Middle_3 (Qcj : Fn) (h1_2 : AC) (x2 x6 : Int) (h1_3 h1_4 : AC) (x3 x7 : Int) : Option (List AC) :=
 (Qcj [h1_2, I ((IntKind.i64.wrap (IntKind.i64.wrap (x2 + x6) + 1)).fdiv (2 ^ min (Int.toNat 1) IntKind.i64.bits)), h1_3, I 2]).bind fun o36 =>
 (Qcj [h1_4, I ((IntKind.i64.wrap (IntKind.i64.wrap (x2 + x6) + 1)).fdiv (2 ^ min (Int.toNat 1) IntKind.i64.bits)), h1_3, I 2]).bind fun o37 =>
 some [jA o36 0, jA o37 0, I ((IntKind.i64.wrap (IntKind.i64.wrap (x2 + x6) + 1)).fdiv (2 ^ min (Int.toNat 1) IntKind.i64.bits)), I ((IntKind.i64.wrap (IntKind.i64.wrap (x3 + x7) + 1)).fdiv (2 ^ min (Int.toNat 1) IntKind.i64.bits)), B true]
attribute [go_sem] g_curve_Middle_3
abbrev Qk9 (Qcj : Fn) (x2 x6 x3 x7 : Int) (h1_0 h1_1 : Bool) (h1_2 h1_3 h1_4 : AC) : Option (List AC) :=
 bif h1_0 then
 bif h1_1 then
 some [I 0, I 0, I 0, I 0, B false]
 else
 g_curve_Middle_3 Qcj h1_2 x2 x6 h1_3 h1_4 x3 x7
 else
 g_curve_Middle_3 Qcj h1_2 x2 x6 h1_3 h1_4 x3 x7
attribute [go_sem] Qk9
abbrev g_curve_Middle_2 (x9 : Bool) (Qcj : Fn) (x2 x6 x3 x7 x0 x1 : Int) (Qb9 : Fn) (x4 x5 x8 : Int) (Qbs : Fn) : Option (List AC) :=
 bif x9 then
 Qk9 Qcj x2 x6 x3 x7 (IntKind.i64.wrap (0 - x0) == 0) (IntKind.i64.wrap (0 - x1) == 0) (I (IntKind.i64.wrap (0 - x0))) (I (IntKind.i64.wrap (IntKind.i64.wrap (IntKind.i64.wrap (0 - x0) * IntKind.i64.wrap (0 - x0)) + IntKind.i64.wrap (IntKind.i64.wrap (0 - x1) * IntKind.i64.wrap (0 - x1))))) (I (IntKind.i64.wrap (0 - x1)))
 else
 (Qb9 [I x0, I x1, I x2, I x3, I x4, I x5, I x6, I x7]).bind fun o40 =>
 bif decide (gA o40 0 <= 0) then
 Qk9 Qcj x2 x6 x3 x7 (IntKind.i64.wrap (x8 * IntKind.i64.wrap (x5 - x1)) == 0) (IntKind.i64.wrap (x8 * IntKind.i64.wrap (x0 - x4)) == 0) (I (IntKind.i64.wrap (x8 * IntKind.i64.wrap (x5 - x1)))) (I (IntKind.i64.wrap (IntKind.i64.wrap (IntKind.i64.wrap (x8 * IntKind.i64.wrap (x5 - x1)) * IntKind.i64.wrap (x8 * IntKind.i64.wrap (x5 - x1))) + IntKind.i64.wrap (IntKind.i64.wrap (x8 * IntKind.i64.wrap (x0 - x4)) * IntKind.i64.wrap (x8 * IntKind.i64.wrap (x0 - x4)))))) (I (IntKind.i64.wrap (x8 * IntKind.i64.wrap (x0 - x4))))
 else
 (Qbs [I x0, I x1, I x2, I x3, I x4, I x5, I x6, I x7]).bind fun o45 =>
 bif decide (IntKind.i64.wrap (gA o45 0 * x8) <= 0) then
 Qk9 Qcj x2 x6 x3 x7 (IntKind.i64.wrap (0 - IntKind.i64.wrap (x0 + x4)) == 0) (IntKind.i64.wrap (0 - IntKind.i64.wrap (x1 + x5)) == 0) (I (IntKind.i64.wrap (0 - IntKind.i64.wrap (x0 + x4)))) (I (IntKind.i64.wrap (IntKind.i64.wrap (IntKind.i64.wrap (0 - IntKind.i64.wrap (x0 + x4)) * IntKind.i64.wrap (0 - IntKind.i64.wrap (x0 + x4))) + IntKind.i64.wrap (IntKind.i64.wrap (0 - IntKind.i64.wrap (x1 + x5)) * IntKind.i64.wrap (0 - IntKind.i64.wrap (x1 + x5)))))) (I (IntKind.i64.wrap (0 - IntKind.i64.wrap (x1 + x5))))
 else
 Qk9 Qcj x2 x6 x3 x7 (IntKind.i64.wrap (x0 + x4) == 0) (IntKind.i64.wrap (x1 + x5) == 0) (I (IntKind.i64.wrap (x0 + x4))) (I (IntKind.i64.wrap (IntKind.i64.wrap (IntKind.i64.wrap (x0 + x4) * IntKind.i64.wrap (x0 + x4)) + IntKind.i64.wrap (IntKind.i64.wrap (x1 + x5) * IntKind.i64.wrap (x1 + x5))))) (I (IntKind.i64.wrap (x1 + x5)))
attribute [go_sem] g_curve_Middle_2
theorem mf_curve_Middle_eq (Qcj Qbs Qb9 : Fn) (x0 x1 x2 x3 x4 x5 x6 x7 x8 : Int) (x9 : Bool) : mf_curve_Middle Qcj Qbs Qb9 [I x0, I x1, I x2, I x3, I x4, I x5, I x6, I x7, I x8, B x9] =
 bif x8 != 1 then
 bif x8 != -1 then
 some [I 0, I 0, I 0, I 0, B false]
 else
 g_curve_Middle_2 x9 Qcj x2 x6 x3 x7 x0 x1 Qb9 x4 x5 x8 Qbs
 else
 g_curve_Middle_2 x9 Qcj x2 x6 x3 x7 x0 x1 Qb9 x4 x5 x8 Qbs := by kernel_rfl
def Qjg := mf_curve_Middle Qjd Qe7 Qgz 
theorem sp_curve_Middle : Qaj Tryz.prog (C_curve_Middle_0 Qjd Qe7 Qgz) := Qae rfl ⟨r_wide_Over, r_curve_cross, r_curve_dot, trivial⟩
theorem r_curve_Middle : Qbp Tryz.prog (188, spOf sig_curve_Middle osig_curve_Middle Qjg) := Qa0 (C := (C_curve_Middle_0 Qjd Qe7 Qgz)) (L := 64) (by kernel_rfl) (FnOK.bare rfl rfl rfl) sp_curve_Middle eqOk Qa7 (by kernel_rfl) (by kernel_rfl)
def sig_curve_Flat : Sk := { tmps := [tf [ci], tf [ci]], boxes := [], rows := [] }
def osig_curve_Flat : Sk := { tmps := [tf [CS.bool]], boxes := [], rows := [] }
def C_curve_Flat_0 : Cfg := { spec := Qby [], eqOk := Qb2, ownOff := ownOff }
def mf_curve_Flat : Fn := Qax Tryz.prog C_curve_Flat_0 64 193 sig_curve_Flat osig_curve_Flat
theorem mf_curve_Flat_eq (x0 x1 : Int) : mf_curve_Flat [I x0, I x1] =
 some [B (decide (x1 <= IntKind.i64.wrap (IntKind.i64.wrap (IntKind.i64.wrap (8 * x0) * 4) - 64)))] := by kernel_rfl
def m_curve_Flat := mf_curve_Flat 
theorem sp_curve_Flat : Qaj Tryz.prog (C_curve_Flat_0 ) := Qae rfl trivial
theorem r_curve_Flat : Qbp Tryz.prog (193, spOf sig_curve_Flat osig_curve_Flat m_curve_Flat) := Qa0 (C := C_curve_Flat_0) (L := 64) (by kernel_rfl) (FnOK.bare rfl rfl rfl) sp_curve_Flat eqOk Qa7 (by kernel_rfl) (by kernel_rfl)
def Qj1 : Sk := { tmps := [tf [CS.ptr 20000 0], TS.v true [ci, ci, ci, ci], TS.v true [ci, ci, ci, ci], tf [CS.bool]], boxes := [(20000, 187, [ci, CS.own 20000 4])], rows := [(20000, 154, [kI, kI, kI, kI])] }
def Qjc : Sk := { tmps := [tf [CS.bool]], boxes := [(20000, 187, [ci, CS.own 20000 4])], rows := [(20000, 154, [kI, kI, kI, kI])] }
def Qj6 (M_curve_Flat Qbs : Fn) : Cfg := { spec := Qby [(193, spOf sig_curve_Flat osig_curve_Flat M_curve_Flat), (143, spOf Qnd Qk7 Qbs)], eqOk := Qb2, ownOff := ownOff }
def Qkw (M_curve_Flat Qbs : Fn) : Fn := Qax Tryz.prog (Qj6 M_curve_Flat Qbs) 64 187 Qj1 Qjc
theorem mf_curve_cutter_settled_eq (M_curve_Flat Qbs : Fn) (x0 : Rw) (x1 x2 x3 x4 x5 x6 x7 x8 : Int) (x9 : Bool) (x10 : Int) : Qkw M_curve_Flat Qbs [.view [kI, kI, kI, kI] x0, I x1, I x2, I x3, I x4, I x5, I x6, I x7, I x8, B x9, I x10] =
 bif !x9 then
 (Qbs [I x1, I x2, I x3, I x4, I x5, I x6, I x7, I x8]).bind fun o2 =>
 bif decide (IntKind.i64.wrap (gA o2 0 * x10) > 0) then
 (M_curve_Flat [I (mn x3 x7), I (IntKind.i64.wrap (IntKind.i64.wrap (IntKind.i64.wrap (x1 - x5) * IntKind.i64.wrap (x1 - x5)) + IntKind.i64.wrap (IntKind.i64.wrap (x2 - x6) * IntKind.i64.wrap (x2 - x6))))]).bind fun o3 =>
 some [.view [kI, kI, kI, kI] x0, B (bA o3 0), I x10]
 else
 some [.view [kI, kI, kI, kI] x0, B false, I x10]
 else
 some [.view [kI, kI, kI, kI] x0, B false, I x10] := by kernel_rfl
def Qd9 := Qkw m_curve_Flat Qe7 
theorem sp_curve_cutter_settled : Qaj Tryz.prog (Qj6 m_curve_Flat Qe7) := Qae rfl ⟨r_curve_Flat, r_curve_cross, trivial⟩
theorem r_curve_cutter_settled : Qbp Tryz.prog (187, spOf Qj1 Qjc Qd9) := Qa0 (C := (Qj6 m_curve_Flat Qe7)) (L := 64) (by kernel_rfl) (FnOK.bare rfl rfl rfl) sp_curve_cutter_settled eqOk Qa7 (by kernel_rfl) (by kernel_rfl)
def fuel_curve_cutter_piece : Nat := 20
def Qdc : Sk := { tmps := [tf [CS.ptr 20000 0], TS.v true [ci, ci, ci, ci], TS.v true [ci, ci, ci, ci], tf [CS.bool], tf [ci]], boxes := [(20000, 187, [ci, CS.own 20000 4])], rows := [(20000, 154, [kI, kI, kI, kI])] }
def Qc8 : Sk := { tmps := [TS.tup []], boxes := [(20000, 187, [ci, CS.own 20000 4])], rows := [(20000, 154, [kI, kI, kI, kI])] }
def Ql3 (Qb1 Qlo Qew : Fn) : Cfg := { spec := Qby [(175, spOf Qdc Qc8 Qb1), (188, spOf sig_curve_Middle osig_curve_Middle Qlo), (187, spOf Qj1 Qjc Qew)], eqOk := Qb2, pure := fun f => !(Qfy [175, 187] f), ownOff := ownOff }
def Qiw (Qb1 Qlo Qew : Fn) : Fn := Qax Tryz.prog (Ql3 Qb1 Qlo Qew) 64 175 Qdc Qc8
theorem mf_curve_cutter_piece_eq (Qb1 Qlo Qew : Fn) (x0 : Rw) (x1 x2 x3 x4 x5 x6 x7 x8 : Int) (x9 : Bool) (x10 x11 : Int) : Qiw Qb1 Qlo Qew [.view [kI, kI, kI, kI] x0, I x1, I x2, I x3, I x4, I x5, I x6, I x7, I x8, B x9, I x10, I x11] =
 bif decide (x10 < 16) then
 (Qew [.view [kI, kI, kI, kI] x0, I x1, I x2, I x3, I x4, I x5, I x6, I x7, I x8, B x9, I x11]).bind fun o4 =>
 bif !bA o4 1 then
 (Qlo [I x1, I x2, I x3, I x4, I x5, I x6, I x7, I x8, jA o4 2, B x9]).bind fun o5 =>
 bif bA o5 4 then
 (Qb1 [.view [kI, kI, kI, kI] (wA o4 0), I x1, I x2, I x3, I x4, jA o5 0, jA o5 1, jA o5 2, jA o5 3, B false, I (IntKind.i64.wrap (x10 + 1)), jA o4 2]).bind fun o6 =>
 (Qb1 [.view [kI, kI, kI, kI] (wA o6 0), jA o5 0, jA o5 1, jA o5 2, jA o5 3, I x5, I x6, I x7, I x8, B false, I (IntKind.i64.wrap (x10 + 1)), jA o6 1]).bind fun o7 =>
 some [.view [kI, kI, kI, kI] (wA o7 0), jA o7 1]
 else
 bif ((wA o4 0 ++ [[I x5, I x6, I x7, I x8]]).length * 32).ble 140737488355328 then
 some [.view [kI, kI, kI, kI] (wA o4 0 ++ [[I x5, I x6, I x7, I x8]]), jA o4 2]
 else
 none
 else
 bif ((wA o4 0 ++ [[I x5, I x6, I x7, I x8]]).length * 32).ble 140737488355328 then
 some [.view [kI, kI, kI, kI] (wA o4 0 ++ [[I x5, I x6, I x7, I x8]]), jA o4 2]
 else
 none
 else
 bif ((x0 ++ [[I x5, I x6, I x7, I x8]]).length * 32).ble 140737488355328 then
 some [.view [kI, kI, kI, kI] (x0 ++ [[I x5, I x6, I x7, I x8]]), I x11]
 else
 none := by kernel_rfl
def mG_curve_cutter_piece (M : Fn) : Fn := Qiw M Qjg Qd9 
def Qfh : Nat -> Fn
 | 0 => fun _ => none
 | n + 1 => mG_curve_cutter_piece (Qfh n)
theorem sp_curve_cutter_piece {M : Fn} (h : Qbp Tryz.prog (175, spOf Qdc Qc8 M)) : Qaj Tryz.prog (Ql3 M Qjg Qd9) := Qae rfl ⟨h, r_curve_Middle, r_curve_cutter_settled, trivial⟩
theorem rG_curve_cutter_piece {M : Fn} (h : Qbp Tryz.prog (175, spOf Qdc Qc8 M)) : Qbp Tryz.prog (175, spOf Qdc Qc8 (mG_curve_cutter_piece M)) := Qa0 (C := (Ql3 M Qjg Qd9)) (L := 64) (by kernel_rfl) (FnOK.bare rfl rfl rfl) (sp_curve_cutter_piece h) eqOk Qa7 (by kernel_rfl) (by kernel_rfl)
theorem rR_curve_cutter_piece : ∀ n, Qbp Tryz.prog (175, spOf Qdc Qc8 (Qfh n))
 | 0 => row_none
 | n + 1 => rG_curve_cutter_piece (rR_curve_cutter_piece n)
def Qjp := Qfh fuel_curve_cutter_piece
theorem r_curve_cutter_piece : Qbp Tryz.prog (175, spOf Qdc Qc8 Qjp) := rR_curve_cutter_piece fuel_curve_cutter_piece
def sig_curve_ends : Sk := { tmps := [TS.v true [ci, ci, ci, ci, ci, ci, ci, ci, ci, ci, ci, ci, ci, CS.bool, ci, CS.bool, ci, ci, ci, ci, ci, CS.bool]], boxes := [], rows := [] }
def osig_curve_ends : Sk := { tmps := [TS.tup [(true, [ci, ci, ci, ci]), (true, [ci, ci, ci, ci])]], boxes := [], rows := [] }
def C_curve_ends_0 (Qbj Qa5 : Fn) : Cfg := { spec := Qby [(158, spOf sig_curve_Plane Qpn Qbj), (159, spOf Qpj Qnp Qa5)], eqOk := Qb2, ownOff := ownOff }
def sk_curve_ends_4 : Sk := { tmps := [td, tf [CS.ptr 1 0], tf [CS.ptr 2 0], tf [CS.ptr 3 0], tf [CS.ptr 4 0], tf [ci], tf [ci], td, td, td, td, td, td, td, td, td, td, td, td, td, td, td, td, td, td, td, td, TS.v true [ci, ci, ci, ci, ci, ci], tf [ci]] ++ dd 27, boxes := [(1, 67, [ci, ci, ci, ci, ci, ci, ci, ci, ci, ci, ci, ci, ci, CS.bool, ci, CS.bool, ci, ci, ci, ci, ci, CS.bool]), (2, 154, [ci, ci, ci, ci]), (3, 154, [ci, ci, ci, ci]), (4, 173, [ci, ci, ci, ci, ci, ci, ci, ci])], rows := [] }
def ex_curve_ends_4 : List (Ex × Sk) := [(Ex.exit 0, { tmps := [td, td, tf [CS.ptr 2 0], tf [CS.ptr 3 0], tf [CS.ptr 4 0]] ++ dd 51, boxes := [(2, 154, [ci, ci, ci, ci]), (3, 154, [ci, ci, ci, ci]), (4, 173, [ci, ci, ci, ci, ci, ci, ci, ci])], rows := [] })]
def st_curve_ends_4 (Qbj Qa5 : Fn) : Lp := Qkk Tryz.prog (C_curve_ends_0 Qbj Qa5) 64 4 (Qfk Tryz.prog 140 4) sk_curve_ends_4 ex_curve_ends_4
def C_curve_ends_1 (Qbj Qa5 : Fn) (N4 : Lp) : Cfg := (C_curve_ends_0 Qbj Qa5).loop 4 sk_curve_ends_4 ex_curve_ends_4 N4
def mf_curve_ends (Qbj Qa5 : Fn) (N4 : Lp) : Fn := Qax Tryz.prog (C_curve_ends_1 Qbj Qa5 N4) 64 140 sig_curve_ends osig_curve_ends
abbrev g_s_curve_ends_4_1 (Qa5 Qbj : Fn) (v17 v8 v0 v1 v2 v3 v4 v5 v6 v7 v9 v10 v11 v12 v13 v14 v15 v16 v18 v19 v20 v21 : Int) (v22 : Bool) (v23 : Int) (v24 : Bool) (v25 v26 v27 v28 v29 : Int) (v30 : Bool) (v31 v32 v33 v34 v35 v36 v37 v38 v43 v44 v45 v46 v39 v40 v41 v42 : Int) (h1_0 h1_1 h1_2 : AC) : Option (Nat × List AC) :=
 (Qa5 [h1_0, h1_1, h1_2]).bind fun o9 =>
 (Qbj [jA o9 0, jA o9 1, jA o9 2, I v17]).bind fun o10 =>
 bif decide (v8 = (↑0 : Int)) then
 some (0, [I v0, I v1, I v2, I v3, I v4, I v5, I v6, I v7, I (IntKind.i64.wrap (v8 + 1)), I v9, I v10, I v11, I v12, I v13, I v14, I v15, I v16, I v17, I v18, I v19, I v20, I v21, B v22, I v23, B v24, I v25, I v26, I v27, I v28, I v29, B v30, I v31, I v32, I v33, I v34, I v35, I v36, I v37, I v38, I (IntKind.i64.wrap (gA o10 0 - v0)), I (IntKind.i64.wrap (gA o10 1 - v1)), I 0, jA o10 2, I v43, I v44, I v45, I v46])
 else
 bif decide (v8 = (↑(0 + 1) : Int)) then
 some (0, [I v0, I v1, I v2, I v3, I v4, I v5, I v6, I v7, I (IntKind.i64.wrap (v8 + 1)), I v9, I v10, I v11, I v12, I v13, I v14, I v15, I v16, I v17, I v18, I v19, I v20, I v21, B v22, I v23, B v24, I v25, I v26, I v27, I v28, I v29, B v30, I v31, I v32, I v33, I v34, I v35, I v36, I v37, I v38, I v39, I v40, I v41, I v42, I (IntKind.i64.wrap (gA o10 0 - v0)), I (IntKind.i64.wrap (gA o10 1 - v1)), I 0, jA o10 2])
 else
 none
attribute [go_sem] g_s_curve_ends_4_1
theorem st_curve_ends_4_eq (Qbj Qa5 : Fn) (v0 v1 v2 v3 v4 v5 v6 v7 v8 v9 v10 v11 v12 v13 v14 v15 v16 v17 v18 v19 v20 v21 : Int) (v22 : Bool) (v23 : Int) (v24 : Bool) (v25 v26 v27 v28 v29 : Int) (v30 : Bool) (v31 v32 v33 v34 v35 v36 v37 v38 v39 v40 v41 v42 v43 v44 v45 v46 : Int) : st_curve_ends_4 Qbj Qa5 [I v0, I v1, I v2, I v3, I v4, I v5, I v6, I v7, I v8, I v9, I v10, I v11, I v12, I v13, I v14, I v15, I v16, I v17, I v18, I v19, I v20, I v21, B v22, I v23, B v24, I v25, I v26, I v27, I v28, I v29, B v30, I v31, I v32, I v33, I v34, I v35, I v36, I v37, I v38, I v39, I v40, I v41, I v42, I v43, I v44, I v45, I v46] =
 bif decide (v8 < 2) then
 bif decide (v8 = (↑0 : Int)) then
 g_s_curve_ends_4_1 Qa5 Qbj v17 v8 v0 v1 v2 v3 v4 v5 v6 v7 v9 v10 v11 v12 v13 v14 v15 v16 v18 v19 v20 v21 v22 v23 v24 v25 v26 v27 v28 v29 v30 v31 v32 v33 v34 v35 v36 v37 v38 v43 v44 v45 v46 v39 v40 v41 v42 (I v2) (I v3) (I v4)
 else
 bif decide (v8 = (↑(0 + 1) : Int)) then
 g_s_curve_ends_4_1 Qa5 Qbj v17 v8 v0 v1 v2 v3 v4 v5 v6 v7 v9 v10 v11 v12 v13 v14 v15 v16 v18 v19 v20 v21 v22 v23 v24 v25 v26 v27 v28 v29 v30 v31 v32 v33 v34 v35 v36 v37 v38 v43 v44 v45 v46 v39 v40 v41 v42 (I v5) (I v6) (I v7)
 else
 none
 else
 some (1, [I v31, I v32, I v33, I v34, I v35, I v36, I v37, I v38, I v39, I v40, I v41, I v42, I v43, I v44, I v45, I v46]) := by kernel_rfl
theorem mf_curve_ends_eq (Qbj Qa5 : Fn) (N4 : Lp) (x0 x1 x2 x3 x4 x5 x6 x7 x8 x9 x10 x11 x12 : Int) (x13 : Bool) (x14 : Int) (x15 : Bool) (x16 x17 x18 x19 x20 : Int) (x21 : Bool) : mf_curve_ends Qbj Qa5 N4 [I x0, I x1, I x2, I x3, I x4, I x5, I x6, I x7, I x8, I x9, I x10, I x11, I x12, B x13, I x14, B x15, I x16, I x17, I x18, I x19, I x20, B x21] =
 (Qa5 [I x9, I x10, I x11]).bind fun o13 =>
 (Qbj [jA o13 0, jA o13 1, jA o13 2, I x8]).bind fun o14 =>
 (N4 [jA o14 0, jA o14 1, I x2, I x3, I x4, I x5, I x6, I x7, I 0, I x0, I x1, I x2, I x3, I x4, I x5, I x6, I x7, I x8, I x9, I x10, I x11, I x12, B x13, I x14, B x15, I x16, I x17, I x18, I x19, I x20, B x21, I 0, I 0, I 0, I 0, I 0, I 0, I 0, I 0, I 0, I 0, I 0, I 0, I 0, I 0, I 0, I 0]).bind fun o15 =>
 bif o15.1.beq 1 then
 some [jA o15.2 8, jA o15.2 9, jA o15.2 10, jA o15.2 11, jA o15.2 12, jA o15.2 13, jA o15.2 14, jA o15.2 15]
 else
 none := by kernel_rfl
def l_curve_ends_4 := Qbn (st_curve_ends_4 Qge Qe2 )
def Qkl := mf_curve_ends Qge Qe2 l_curve_ends_4
theorem sp_curve_ends : Qaj Tryz.prog (C_curve_ends_0 Qge Qe2) := Qae rfl ⟨r_curve_Plane, r_curve_scaled, trivial⟩
theorem r_curve_ends : Qbp Tryz.prog (140, spOf sig_curve_ends osig_curve_ends Qkl) := Qa0 (C := (C_curve_ends_1 Qge Qe2 l_curve_ends_4)) (L := 64) (by kernel_rfl) ((FnOK.bare rfl rfl rfl).loop sp_curve_ends eqOk Qa7 (by kernel_rfl) (by kernel_rfl)) sp_curve_ends eqOk Qa7 (by kernel_rfl) (by kernel_rfl)
def sig_wide_Cmp : Sk := { tmps := [tf [ci], tf [ci], tf [ci], tf [ci]], boxes := [], rows := [] }
def osig_wide_Cmp : Sk := { tmps := [tf [ci]], boxes := [], rows := [] }
def C_wide_Cmp_0 (Qcm Qav Qcg Qcw : Fn) : Cfg := { spec := Qby [(174, spOf Qpk Qn0 Qcm), (100, spOf Qiq Qhp Qav), (101, spOf sig_wide_size Qpf Qcg), (103, spOf sig_wide_sign Qow Qcw)], eqOk := Qb2, ownOff := ownOff }
def mf_wide_Cmp (Qcm Qav Qcg Qcw : Fn) : Fn := Qax Tryz.prog (C_wide_Cmp_0 Qcm Qav Qcg Qcw) 64 160 sig_wide_Cmp osig_wide_Cmp
theorem mf_wide_Cmp_eq (Qcm Qav Qcg Qcw : Fn) (x0 x1 x2 x3 : Int) : mf_wide_Cmp Qcm Qav Qcg Qcw [I x0, I x1, I x2, I x3] =
 (Qcw [I x0, I x1]).bind fun o9 =>
 (Qcw [I x2, I x3]).bind fun o10 =>
 bif gA o9 0 != gA o10 0 then
 bif decide (gA o9 0 < gA o10 0) then
 some [I (-1)]
 else
 some [I 1]
 else
 (Qcg [I x0]).bind fun o11 =>
 (Qcg [I x1]).bind fun o12 =>
 (Qav [U (gA o11 0), U (gA o12 0)]).bind fun o13 =>
 (Qcg [I x2]).bind fun o14 =>
 (Qcg [I x3]).bind fun o15 =>
 (Qav [U (gA o14 0), U (gA o15 0)]).bind fun o16 =>
 (Qcm [U (gA o13 0), U (gA o13 1), U (gA o16 0), U (gA o16 1)]).bind fun o17 =>
 some [I (IntKind.i64.wrap (gA o9 0 * gA o17 0))] := by kernel_rfl
def m_wide_Cmp := mf_wide_Cmp Qfl Qcr Qf6 Qf9 
theorem sp_wide_Cmp : Qaj Tryz.prog (C_wide_Cmp_0 Qfl Qcr Qf6 Qf9) := Qae rfl ⟨r_wide_compare, r_wide_product, r_wide_size, r_wide_sign, trivial⟩
theorem r_wide_Cmp : Qbp Tryz.prog (160, spOf sig_wide_Cmp osig_wide_Cmp m_wide_Cmp) := Qa0 (C := (C_wide_Cmp_0 Qfl Qcr Qf6 Qf9)) (L := 64) (by kernel_rfl) (FnOK.bare rfl rfl rfl) sp_wide_Cmp eqOk Qa7 (by kernel_rfl) (by kernel_rfl)
def sig_curve_near : Sk := { tmps := [tf [ci], tf [ci]], boxes := [], rows := [] }
def osig_curve_near : Sk := { tmps := [tf [CS.bool]], boxes := [], rows := [] }
def C_curve_near_0 (M_wide_Cmp : Fn) : Cfg := { spec := Qby [(160, spOf sig_wide_Cmp osig_wide_Cmp M_wide_Cmp)], eqOk := Qb2, ownOff := ownOff }
def mf_curve_near (M_wide_Cmp : Fn) : Fn := Qax Tryz.prog (C_curve_near_0 M_wide_Cmp) 64 142 sig_curve_near osig_curve_near
theorem mf_curve_near_eq (M_wide_Cmp : Fn) (x0 x1 : Int) : mf_curve_near M_wide_Cmp [I x0, I x1] =
 bif decide (IntKind.i64.wrap (IntKind.i64.wrap (mx x0 x1 - mn x0 x1) - 16) <= 0) then
 some [B true]
 else
 (M_wide_Cmp [I (IntKind.i64.wrap (IntKind.i64.wrap (mx x0 x1 - mn x0 x1) - 16)), I (IntKind.i64.wrap (IntKind.i64.wrap (mx x0 x1 - mn x0 x1) - 16)), I 64, I (mn x0 x1)]).bind fun o1 =>
 some [B (decide (gA o1 0 <= 0))] := by kernel_rfl
def m_curve_near := mf_curve_near m_wide_Cmp 
theorem sp_curve_near : Qaj Tryz.prog (C_curve_near_0 m_wide_Cmp) := Qae rfl ⟨r_wide_Cmp, trivial⟩
theorem r_curve_near : Qbp Tryz.prog (142, spOf sig_curve_near osig_curve_near m_curve_near) := Qa0 (C := (C_curve_near_0 m_wide_Cmp)) (L := 64) (by kernel_rfl) (FnOK.bare rfl rfl rfl) sp_curve_near eqOk Qa7 (by kernel_rfl) (by kernel_rfl)
def sig_curve_within : Sk := { tmps := [TS.v true [ci, ci, ci]], boxes := [], rows := [] }
def osig_curve_within : Sk := { tmps := [tf [CS.bool]], boxes := [], rows := [] }
def C_curve_within_0 : Cfg := { spec := Qby [], eqOk := Qb2, ownOff := ownOff, unroll := [2] }
def mf_curve_within : Fn := Qax Tryz.prog C_curve_within_0 64 138 sig_curve_within osig_curve_within
theorem mf_curve_within_eq (x0 x1 x2 : Int) : mf_curve_within [I x0, I x1, I x2] =
 bif decide (x0 < -1048576) then
 some [B false]
 else
 bif decide (x0 > 1048576) then
 some [B false]
 else
 bif decide (x1 < -1048576) then
 some [B false]
 else
 bif decide (x1 > 1048576) then
 some [B false]
 else
 bif decide (x2 < -1048576) then
 some [B false]
 else
 bif decide (x2 > 1048576) then
 some [B false]
 else
 some [B true] := by kernel_rfl
def Qlk := mf_curve_within 
theorem sp_curve_within : Qaj Tryz.prog (C_curve_within_0 ) := Qae rfl trivial
theorem r_curve_within : Qbp Tryz.prog (138, spOf sig_curve_within osig_curve_within Qlk) := Qa0 (C := C_curve_within_0) (L := 64) (by kernel_rfl) (FnOK.bare rfl rfl rfl) sp_curve_within eqOk Qa7 (by kernel_rfl) (by kernel_rfl)
def Qms : Sk := { tmps := [TS.v true [ci, ci, ci, ci, ci, ci, ci, ci, ci, ci, ci, ci, ci, CS.bool, ci, CS.bool, ci, ci, ci, ci, ci, CS.bool]], boxes := [], rows := [] }
def Qk8 : Sk := { tmps := [tf [CS.bool]], boxes := [], rows := [] }
def C_curve_Valid_0 (Qbs Qi5 Qb9 Qd7 Qcx Qe0 : Fn) : Cfg := { spec := Qby [(143, spOf Qnd Qk7 Qbs), (142, spOf sig_curve_near osig_curve_near Qi5), (141, spOf sig_curve_dot Qox Qb9), (140, spOf sig_curve_ends osig_curve_ends Qd7), (139, spOf Qoy Qm8 Qcx), (138, spOf sig_curve_within osig_curve_within Qe0)], eqOk := Qb2, ownOff := ownOff }
def mf_curve_Valid (Qbs Qi5 Qb9 Qd7 Qcx Qe0 : Fn) : Fn := Qax Tryz.prog (C_curve_Valid_0 Qbs Qi5 Qb9 Qd7 Qcx Qe0) 64 126 Qms Qk8
abbrev g_curve_Valid_1 (Qe0 : Fn) (x9 x10 x11 : Int) (Qd7 : Fn) (x0 x1 x2 x3 x4 x5 x6 x7 x8 x12 : Int) (x13 : Bool) (x14 : Int) (x15 : Bool) (x16 x17 x18 x19 x20 : Int) (x21 : Bool) (Qb9 Qi5 Qbs : Fn) : Option (List AC) :=
 (Qe0 [I x9, I x10, I x11]).bind fun o20 =>
 bif !bA o20 0 then
 some [B false]
 else
 (Qd7 [I x0, I x1, I x2, I x3, I x4, I x5, I x6, I x7, I x8, I x9, I x10, I x11, I x12, B x13, I x14, B x15, I x16, I x17, I x18, I x19, I x20, B x21]).bind fun o21 =>
 (Qb9 [jA o21 0, jA o21 1, jA o21 2, jA o21 3, jA o21 0, jA o21 1, jA o21 2, jA o21 3]).bind fun o22 =>
 (Qb9 [jA o21 4, jA o21 5, jA o21 6, jA o21 7, jA o21 4, jA o21 5, jA o21 6, jA o21 7]).bind fun o23 =>
 bif decide (gA o22 0 < IntKind.i64.wrap (128 * 128)) then
 some [B false]
 else
 bif decide (gA o23 0 < IntKind.i64.wrap (128 * 128)) then
 some [B false]
 else
 (Qi5 [I (IntKind.i64.wrap ((gA o22 0).tdiv 256)), I (IntKind.i64.wrap ((gA o23 0).tdiv 256))]).bind fun o24 =>
 bif !bA o24 0 then
 some [B false]
 else
 bif x13 then
 bif gA o21 0 == gA o21 4 then
 some [B (gA o21 1 == gA o21 5)]
 else
 some [B false]
 else
 (Qbs [jA o21 0, jA o21 1, jA o21 2, jA o21 3, jA o21 4, jA o21 5, jA o21 6, jA o21 7]).bind fun o25 =>
 bif gA o25 0 != 0 then
 some [B true]
 else
 (Qb9 [jA o21 0, jA o21 1, jA o21 2, jA o21 3, jA o21 4, jA o21 5, jA o21 6, jA o21 7]).bind fun o26 =>
 some [B (decide (gA o26 0 < 0))]
attribute [go_sem] g_curve_Valid_1
theorem mf_curve_Valid_eq (Qbs Qi5 Qb9 Qd7 Qcx Qe0 : Fn) (x0 x1 x2 x3 x4 x5 x6 x7 x8 x9 x10 x11 x12 : Int) (x13 : Bool) (x14 : Int) (x15 : Bool) (x16 x17 x18 x19 x20 : Int) (x21 : Bool) : mf_curve_Valid Qbs Qi5 Qb9 Qd7 Qcx Qe0 [I x0, I x1, I x2, I x3, I x4, I x5, I x6, I x7, I x8, I x9, I x10, I x11, I x12, B x13, I x14, B x15, I x16, I x17, I x18, I x19, I x20, B x21] =
 bif decide (x0 < 1) then
 some [B false]
 else
 bif decide (x0 > 6) then
 some [B false]
 else
 (Qe0 [I x2, I x3, I x4]).bind fun o17 =>
 bif !bA o17 0 then
 some [B false]
 else
 (Qe0 [I x5, I x6, I x7]).bind fun o18 =>
 bif !bA o18 0 then
 some [B false]
 else
 bif x0 != 3 then
 some [B true]
 else
 (Qcx [I x8]).bind fun o19 =>
 bif !bA o19 3 then
 some [B false]
 else
 bif x12 != 1 then
 bif x12 != -1 then
 some [B false]
 else
 g_curve_Valid_1 Qe0 x9 x10 x11 Qd7 x0 x1 x2 x3 x4 x5 x6 x7 x8 x12 x13 x14 x15 x16 x17 x18 x19 x20 x21 Qb9 Qi5 Qbs
 else
 g_curve_Valid_1 Qe0 x9 x10 x11 Qd7 x0 x1 x2 x3 x4 x5 x6 x7 x8 x12 x13 x14 x15 x16 x17 x18 x19 x20 x21 Qb9 Qi5 Qbs := by kernel_rfl
def Qe4 := mf_curve_Valid Qe7 m_curve_near Qgz Qkl Qeu Qlk 
theorem sp_curve_Valid : Qaj Tryz.prog (C_curve_Valid_0 Qe7 m_curve_near Qgz Qkl Qeu Qlk) := Qae rfl ⟨r_curve_cross, r_curve_near, r_curve_dot, r_curve_ends, r_curve_axes, r_curve_within, trivial⟩
theorem r_curve_Valid : Qbp Tryz.prog (126, spOf Qms Qk8 Qe4) := Qa0 (C := (C_curve_Valid_0 Qe7 m_curve_near Qgz Qkl Qeu Qlk)) (L := 64) (by kernel_rfl) (FnOK.bare rfl rfl rfl) sp_curve_Valid eqOk Qa7 (by kernel_rfl) (by kernel_rfl)
def sig_curve_Spokes : Sk := { tmps := [TS.v true [ci, ci, ci, ci, ci, ci, ci, ci, ci, ci, ci, ci, ci, CS.bool, ci, CS.bool, ci, ci, ci, ci, ci, CS.bool]], boxes := [], rows := [] }
def osig_curve_Spokes : Sk := { tmps := [TS.tup [(false, [CS.sl [kI, kI, kI, kI]]), (false, [CS.bool])]], boxes := [], rows := [] }
def C_curve_Spokes_0 (Qb1 Qfq Qb9 Qd7 Qbt : Fn) : Cfg := { spec := Qby [(175, spOf Qdc Qc8 Qb1), (118, spOf Qnx Qlu Qfq), (141, spOf sig_curve_dot Qox Qb9), (140, spOf sig_curve_ends osig_curve_ends Qd7), (126, spOf Qms Qk8 Qbt)], eqOk := Qb2, pure := fun f => !(Qfy [175] f), ownOff := ownOff, rowDst := [39] }
def mf_curve_Spokes (Qb1 Qfq Qb9 Qd7 Qbt : Fn) : Fn := Qax Tryz.prog (C_curve_Spokes_0 Qb1 Qfq Qb9 Qd7 Qbt) 64 161 sig_curve_Spokes osig_curve_Spokes
theorem mf_curve_Spokes_eq (Qb1 Qfq Qb9 Qd7 Qbt : Fn) (x0 x1 x2 x3 x4 x5 x6 x7 x8 x9 x10 x11 x12 : Int) (x13 : Bool) (x14 : Int) (x15 : Bool) (x16 x17 x18 x19 x20 : Int) (x21 : Bool) : mf_curve_Spokes Qb1 Qfq Qb9 Qd7 Qbt [I x0, I x1, I x2, I x3, I x4, I x5, I x6, I x7, I x8, I x9, I x10, I x11, I x12, B x13, I x14, B x15, I x16, I x17, I x18, I x19, I x20, B x21] =
 bif x0 != 3 then
 some [.view [kI, kI, kI, kI] [], B false]
 else
 (Qbt [I x0, I x1, I x2, I x3, I x4, I x5, I x6, I x7, I x8, I x9, I x10, I x11, I x12, B x13, I x14, B x15, I x16, I x17, I x18, I x19, I x20, B x21]).bind fun o7 =>
 bif !bA o7 0 then
 some [.view [kI, kI, kI, kI] [], B false]
 else
 (Qd7 [I x0, I x1, I x2, I x3, I x4, I x5, I x6, I x7, I x8, I x9, I x10, I x11, I x12, B x13, I x14, B x15, I x16, I x17, I x18, I x19, I x20, B x21]).bind fun o8 =>
 (Qb9 [jA o8 0, jA o8 1, jA o8 2, jA o8 3, jA o8 0, jA o8 1, jA o8 2, jA o8 3]).bind fun o9 =>
 (Qfq [jA o9 0, I 2]).bind fun o10 =>
 (Qb9 [jA o8 4, jA o8 5, jA o8 6, jA o8 7, jA o8 4, jA o8 5, jA o8 6, jA o8 7]).bind fun o11 =>
 (Qfq [jA o11 0, I 2]).bind fun o12 =>
 (Qb1 [.view [kI, kI, kI, kI] [[jA o8 0, jA o8 1, jA o10 0, jA o8 3]], jA o8 0, jA o8 1, jA o10 0, jA o8 3, jA o8 4, jA o8 5, jA o12 0, jA o8 7, B x13, I 0, I x12]).bind fun o13 =>
 some [.view [kI, kI, kI, kI] (wA o13 0), B true] := by kernel_rfl
def Qlp := mf_curve_Spokes Qjp Qjf Qgz Qkl Qe4 
theorem sp_curve_Spokes : Qaj Tryz.prog (C_curve_Spokes_0 Qjp Qjf Qgz Qkl Qe4) := Qae rfl ⟨r_curve_cutter_piece, r_wide_Sqrt, r_curve_dot, r_curve_ends, r_curve_Valid, trivial⟩
theorem r_curve_Spokes : Qbp Tryz.prog (161, spOf sig_curve_Spokes osig_curve_Spokes Qlp) := Qa0 (C := (C_curve_Spokes_0 Qjp Qjf Qgz Qkl Qe4)) (L := 64) (by kernel_rfl) (FnOK.bare rfl rfl rfl) sp_curve_Spokes eqOk Qa7 (by kernel_rfl) (by kernel_rfl)
def sig_curve_Chords : Sk := { tmps := [TS.v true [ci, ci, ci, ci, ci, ci, ci, ci, ci, ci, ci, ci, ci, CS.bool, ci, CS.bool, ci, ci, ci, ci, ci, CS.bool]], boxes := [], rows := [] }
def osig_curve_Chords : Sk := { tmps := [TS.tup [(false, [CS.sl kPt]), (false, [CS.bool])]], boxes := [], rows := [] }
def C_curve_Chords_0 (Qe5 Qbj Qa5 Qem Qbt : Fn) : Cfg := { spec := Qby [(162, spOf sig_curve_Space osig_curve_Space Qe5), (158, spOf sig_curve_Plane Qpn Qbj), (159, spOf Qpj Qnp Qa5), (161, spOf sig_curve_Spokes osig_curve_Spokes Qem), (126, spOf Qms Qk8 Qbt)], eqOk := Qb2, ownOff := ownOff }
def sk_curve_Chords_9 : Sk := { tmps := [td, tf [CS.ptr 1 0], td, td, td, td, tf [ci], tf [ci], td, tf [CS.own 41 3], td, td, td, td, td, td, td, td, td, td, td, td, td, td, td, td, td, td, td, td, td, td, td, td, td, td, td, td, td, td, td, td, tf [CS.sl [kI, kI, kI, kI]], tf [ci], tf [ci]] ++ dd 22, boxes := [(1, 67, [ci, ci, ci, ci, ci, ci, ci, ci, ci, ci, ci, ci, ci, CS.bool, ci, CS.bool, ci, ci, ci, ci, ci, CS.bool])], rows := [(41, 25, kPt)] }
def ex_curve_Chords_9 : List (Ex × Sk) := [(Ex.exit 0, { tmps := [td, td, td, td, td, td, td, td, td, tf [CS.own 41 3]] ++ dd 57, boxes := [], rows := [(41, 25, kPt)] })]
def Qhq (Qe5 Qbj Qa5 Qem Qbt : Fn) : Lp := Qkk Tryz.prog (C_curve_Chords_0 Qe5 Qbj Qa5 Qem Qbt) 64 9 (Qfk Tryz.prog 144 9) sk_curve_Chords_9 ex_curve_Chords_9
def C_curve_Chords_1 (Qe5 Qbj Qa5 Qem Qbt : Fn) (N9 : Lp) : Cfg := (C_curve_Chords_0 Qe5 Qbj Qa5 Qem Qbt).loop 9 sk_curve_Chords_9 ex_curve_Chords_9 N9
def mf_curve_Chords (Qe5 Qbj Qa5 Qem Qbt : Fn) (N9 : Lp) : Fn := Qax Tryz.prog (C_curve_Chords_1 Qe5 Qbj Qa5 Qem Qbt N9) 64 144 sig_curve_Chords osig_curve_Chords
theorem st_curve_Chords_9_eq (Qe5 Qbj Qa5 Qem Qbt : Fn) (v0 : Rw) (v1 v2 : Int) (v3 : Rw) (v4 v5 v6 v7 v8 v9 v10 v11 v12 v13 v14 v15 v16 v17 v18 : Int) (v19 : Bool) (v20 : Int) (v21 : Bool) (v22 v23 v24 v25 v26 : Int) (v27 : Bool) : Qhq Qe5 Qbj Qa5 Qem Qbt [.view kPt v0, I v1, I v2, .view [kI, kI, kI, kI] v3, I v4, I v5, I v6, I v7, I v8, I v9, I v10, I v11, I v12, I v13, I v14, I v15, I v16, I v17, I v18, B v19, I v20, B v21, I v22, I v23, I v24, I v25, I v26, B v27] =
 bif decide (v5 < v4) then
 bif decide (0 <= v5) && decide (v5 < (v3.length : Int)) then
 (Qe5 [I (IntKind.i64.wrap (v1 + gA (nth [] v3 v5.toNat) 0)), I (IntKind.i64.wrap (v2 + gA (nth [] v3 v5.toNat) 1)), jA (nth [] v3 v5.toNat) 3, I v14]).bind fun o14 =>
 bif decide (0 <= v5) && decide (v5 < (v0.length : Int)) then
 some (0, [.view kPt (v0.set v5.toNat [jA o14 0, jA o14 1, jA o14 2]), I v1, I v2, .view [kI, kI, kI, kI] v3, I v4, I (IntKind.i64.wrap (v5 + 1)), I v6, I v7, I v8, I v9, I v10, I v11, I v12, I v13, I v14, I v15, I v16, I v17, I v18, B v19, I v20, B v21, I v22, I v23, I v24, I v25, I v26, B v27])
 else
 none
 else
 none
 else
 some (1, [.view kPt v0]) := by kernel_rfl
theorem mf_curve_Chords_eq (Qe5 Qbj Qa5 Qem Qbt : Fn) (N9 : Lp) (x0 x1 x2 x3 x4 x5 x6 x7 x8 x9 x10 x11 x12 : Int) (x13 : Bool) (x14 : Int) (x15 : Bool) (x16 x17 x18 x19 x20 : Int) (x21 : Bool) : mf_curve_Chords Qe5 Qbj Qa5 Qem Qbt N9 [I x0, I x1, I x2, I x3, I x4, I x5, I x6, I x7, I x8, I x9, I x10, I x11, I x12, B x13, I x14, B x15, I x16, I x17, I x18, I x19, I x20, B x21] =
 (Qbt [I x0, I x1, I x2, I x3, I x4, I x5, I x6, I x7, I x8, I x9, I x10, I x11, I x12, B x13, I x14, B x15, I x16, I x17, I x18, I x19, I x20, B x21]).bind fun o15 =>
 bif !bA o15 0 then
 some [.view kPt [], B false]
 else
 (Qem [I x0, I x1, I x2, I x3, I x4, I x5, I x6, I x7, I x8, I x9, I x10, I x11, I x12, B x13, I x14, B x15, I x16, I x17, I x18, I x19, I x20, B x21]).bind fun o16 =>
 bif !bA o16 1 then
 (Qa5 [I x2, I x3, I x4]).bind fun o17 =>
 (Qa5 [I x5, I x6, I x7]).bind fun o18 =>
 some [.view kPt [[jA o17 0, jA o17 1, jA o17 2], [jA o18 0, jA o18 1, jA o18 2]], B true]
 else
 (Qa5 [I x9, I x10, I x11]).bind fun o19 =>
 (Qbj [jA o19 0, jA o19 1, jA o19 2, I x8]).bind fun o20 =>
 bif decide ((↑(wA o16 0).length : Int) = (↑(wA o16 0).length : Int)) then
 bif decide (0 <= (↑(wA o16 0).length : Int)) && decide ((↑(wA o16 0).length : Int) * (↑24 : Int) <= 140737488355328) then
 (N9 [.view kPt (List.replicate (↑(wA o16 0).length : Int).toNat [I 0, I 0, I 0]), jA o20 0, jA o20 1, .view [kI, kI, kI, kI] (wA o16 0), I (↑(wA o16 0).length : Int), I 0, I x0, I x1, I x2, I x3, I x4, I x5, I x6, I x7, I x8, I x9, I x10, I x11, I x12, B x13, I x14, B x15, I x16, I x17, I x18, I x19, I x20, B x21]).bind fun o21 =>
 bif o21.1.beq 1 then
 some [.view kPt (wA o21.2 0), B true]
 else
 none
 else
 none
 else
 none := by kernel_rfl
def l_curve_Chords_9 := Qbn (Qhq Qnu Qge Qe2 Qlp Qe4 )
def Qo6 := mf_curve_Chords Qnu Qge Qe2 Qlp Qe4 l_curve_Chords_9
theorem sp_curve_Chords : Qaj Tryz.prog (C_curve_Chords_0 Qnu Qge Qe2 Qlp Qe4) := Qae rfl ⟨r_curve_Space, r_curve_Plane, r_curve_scaled, r_curve_Spokes, r_curve_Valid, trivial⟩
theorem r_curve_Chords : Qbp Tryz.prog (144, spOf sig_curve_Chords osig_curve_Chords Qo6) := Qa0 (C := (C_curve_Chords_1 Qnu Qge Qe2 Qlp Qe4 l_curve_Chords_9)) (L := 64) (by kernel_rfl) ((FnOK.bare rfl rfl rfl).loop sp_curve_Chords eqOk Qa7 (by kernel_rfl) (by kernel_rfl)) sp_curve_Chords eqOk Qa7 (by kernel_rfl) (by kernel_rfl)
end Go.Bm
