/- functions of the program and of the references, as models -/
import Derived.Test.YtdllaekpkcanbaaGreatSeShelf
import Derived.Test.YtdllaekpkcanbaaGreatSeExt
import Derived.Test.YtdllaekpkcanbaaGreatSePre
import Derived.Test.YtdllaekpkcanbaaGreatBmTy
set_option linter.unusedSimpArgs false
set_option linter.unusedVariables false
set_option maxRecDepth 100000
noncomputable section
namespace Go.Bm
open Go.Proofs
def sig_cncref23_small : Sk := { tmps := [TS.v true [ci, ci, ci], tf [ci]], boxes := [], rows := [] }
def osig_cncref23_small : Sk := { tmps := [tf [CS.bool]], boxes := [], rows := [] }
def C_cncref23_small_0 : Cfg := { spec := lookS [], eqOk := eqAll, ownOff := ownOff, unroll := [2] }
def mf_cncref23_small : Fn := modelF Tryz.prog C_cncref23_small_0 64 119 sig_cncref23_small osig_cncref23_small
theorem mf_cncref23_small_eq (x0 x1 x2 x3 : Int) : mf_cncref23_small [I x0, I x1, I x2, I x3] =
 bif decide (x0 < IntKind.i64.wrap (0 - x3)) then
 some [B false]
 else
 bif decide (x0 > x3) then
 some [B false]
 else
 bif decide (x1 < IntKind.i64.wrap (0 - x3)) then
 some [B false]
 else
 bif decide (x1 > x3) then
 some [B false]
 else
 bif decide (x2 < IntKind.i64.wrap (0 - x3)) then
 some [B false]
 else
 bif decide (x2 > x3) then
 some [B false]
 else
 some [B true] := by kernel_rfl
def m_cncref23_small := mf_cncref23_small 
theorem sp_cncref23_small : SpecOK Tryz.prog (C_cncref23_small_0 ) := specOK_of rfl trivial
theorem r_cncref23_small : RowOK Tryz.prog (119, spOf sig_cncref23_small osig_cncref23_small m_cncref23_small) := row_of (C := C_cncref23_small_0) (L := 64) (by kernel_rfl) (FnOK.bare rfl rfl rfl) sp_cncref23_small eqOk mixOk (by kernel_rfl) (by kernel_rfl)
def sig_cncref23_Small : Sk := { tmps := [TS.v true [ci, ci, ci]], boxes := [], rows := [] }
def osig_cncref23_Small : Sk := { tmps := [tf [CS.bool]], boxes := [], rows := [] }
def C_cncref23_Small_0 (M_cncref23_small : Fn) : Cfg := { spec := lookS [(119, spOf sig_cncref23_small osig_cncref23_small M_cncref23_small)], eqOk := eqAll, ownOff := ownOff }
def mf_cncref23_Small (M_cncref23_small : Fn) : Fn := modelF Tryz.prog (C_cncref23_Small_0 M_cncref23_small) 64 94 sig_cncref23_Small osig_cncref23_Small
theorem mf_cncref23_Small_eq (M_cncref23_small : Fn) (x0 x1 x2 : Int) : mf_cncref23_Small M_cncref23_small [I x0, I x1, I x2] =
 (M_cncref23_small [I x0, I x1, I x2, I 33554432]).bind fun o1 =>
 some [B (bA o1 0)] := by kernel_rfl
def m_cncref23_Small := mf_cncref23_Small m_cncref23_small 
theorem sp_cncref23_Small : SpecOK Tryz.prog (C_cncref23_Small_0 m_cncref23_small) := specOK_of rfl ⟨r_cncref23_small, trivial⟩
theorem r_cncref23_Small : RowOK Tryz.prog (94, spOf sig_cncref23_Small osig_cncref23_Small m_cncref23_Small) := row_of (C := (C_cncref23_Small_0 m_cncref23_small)) (L := 64) (by kernel_rfl) (FnOK.bare rfl rfl rfl) sp_cncref23_Small eqOk mixOk (by kernel_rfl) (by kernel_rfl)
def sig_cncref25_Length : Sk := { tmps := [TS.v true [ci, ci, ci, CS.sl kSgm, CS.sl kPt]], boxes := [], rows := [] }
def osig_cncref25_Length : Sk := { tmps := [tf [ci]], boxes := [], rows := [] }
def C_cncref25_Length_0 : Cfg := { spec := lookS [], eqOk := eqAll, ownOff := ownOff }
def sk_cncref25_Length_3 : Sk := { tmps := [td, td, td, tf [ci], td, td, td, tf [CS.sl kSgm], tf [ci], tf [ci]] ++ dd 9, boxes := [], rows := [] }
def ex_cncref25_Length_3 : List (Ex × Sk) := [(Ex.exit 0, { tmps := [td, td, td, tf [ci]] ++ dd 15, boxes := [], rows := [] })]
def st_cncref25_Length_3 : Lp := stepL Tryz.prog C_cncref25_Length_0 64 3 (bodyOf Tryz.prog 25 3) sk_cncref25_Length_3 ex_cncref25_Length_3
def C_cncref25_Length_1 (N3 : Lp) : Cfg := C_cncref25_Length_0.loop 3 sk_cncref25_Length_3 ex_cncref25_Length_3 N3
def mf_cncref25_Length (N3 : Lp) : Fn := modelF Tryz.prog (C_cncref25_Length_1 N3) 64 25 sig_cncref25_Length osig_cncref25_Length
theorem st_cncref25_Length_3_eq (v0 : Int) (v1 : Rw) (v2 v3 : Int) : st_cncref25_Length_3 [I v0, .view kSgm v1, I v2, I v3] =
 bif decide (v3 < v2) then
 bif decide (0 <= v3) && decide (v3 < (v1.length : Int)) then
 some (0, [I (IntKind.i64.wrap (v0 + gA (nth [] v1 v3.toNat) 3)), .view kSgm v1, I v2, I (IntKind.i64.wrap (v3 + 1))])
 else
 none
 else
 some (1, [I v0]) := by kernel_rfl
theorem mf_cncref25_Length_eq (N3 : Lp) (x0 x1 x2 : Int) (x3 x4 : Rw) : mf_cncref25_Length N3 [I x0, I x1, I x2, .view kSgm x3, .view kPt x4] =
 (N3 [I 0, .view kSgm x3, I (x3.length : Int), I 0]).bind fun o1 =>
 bif o1.1.beq 1 then
 some [jA o1.2 0]
 else
 none := by kernel_rfl
def l_cncref25_Length_3 := loopC (st_cncref25_Length_3 )
def m_cncref25_Length := mf_cncref25_Length l_cncref25_Length_3
theorem sp_cncref25_Length : SpecOK Tryz.prog (C_cncref25_Length_0 ) := specOK_of rfl trivial
theorem r_cncref25_Length : RowOK Tryz.prog (25, spOf sig_cncref25_Length osig_cncref25_Length m_cncref25_Length) := row_of (C := (C_cncref25_Length_1 l_cncref25_Length_3)) (L := 64) (by kernel_rfl) ((FnOK.bare rfl rfl rfl).loop sp_cncref25_Length eqOk mixOk (by kernel_rfl) (by kernel_rfl)) sp_cncref25_Length eqOk mixOk (by kernel_rfl) (by kernel_rfl)
def sig_cncref23_root : Sk := { tmps := [tf [ci]], boxes := [], rows := [] }
def osig_cncref23_root : Sk := { tmps := [tf [ci]], boxes := [], rows := [] }
def C_cncref23_root_0 : Cfg := { spec := lookS [], eqOk := eqAll, ownOff := ownOff }
def sk_cncref23_root_3 : Sk := { tmps := [tf [ci], td, td, tf [ci], tf [ci]] ++ dd 17, boxes := [], rows := [] }
def ex_cncref23_root_3 : List (Ex × Sk) := [(Ex.exit 0, { tmps := [td, td, td, tf [ci]] ++ dd 18, boxes := [], rows := [] })]
def st_cncref23_root_3 : Lp := stepL Tryz.prog C_cncref23_root_0 64 3 (bodyOf Tryz.prog 117 3) sk_cncref23_root_3 ex_cncref23_root_3
def C_cncref23_root_1 (N3 : Lp) : Cfg := C_cncref23_root_0.loop 3 sk_cncref23_root_3 ex_cncref23_root_3 N3
def mf_cncref23_root (N3 : Lp) : Fn := modelF Tryz.prog (C_cncref23_root_1 N3) 64 117 sig_cncref23_root osig_cncref23_root
theorem st_cncref23_root_3_eq (v0 v1 v2 : Int) : st_cncref23_root_3 [I v0, I v1, I v2] =
 bif decide (v2 > 0) then
 bif decide (IntKind.i64.wrap (IntKind.i64.wrap (v1 + v2) * IntKind.i64.wrap (v1 + v2)) <= v0) then
 some (0, [I v0, I (IntKind.i64.wrap (v1 + v2)), I (v2.fdiv (2 ^ min (Int.toNat 1) IntKind.i64.bits))])
 else
 some (0, [I v0, I v1, I (v2.fdiv (2 ^ min (Int.toNat 1) IntKind.i64.bits))])
 else
 some (1, [I v1]) := by kernel_rfl
theorem mf_cncref23_root_eq (N3 : Lp) (x0 : Int) : mf_cncref23_root N3 [I x0] =
 (N3 [I x0, I 0, I 1073741824]).bind fun o1 =>
 bif o1.1.beq 1 then
 some [jA o1.2 0]
 else
 none := by kernel_rfl
def l_cncref23_root_3 := loopC (st_cncref23_root_3 )
def m_cncref23_root := mf_cncref23_root l_cncref23_root_3
theorem sp_cncref23_root : SpecOK Tryz.prog (C_cncref23_root_0 ) := specOK_of rfl trivial
theorem r_cncref23_root : RowOK Tryz.prog (117, spOf sig_cncref23_root osig_cncref23_root m_cncref23_root) := row_of (C := (C_cncref23_root_1 l_cncref23_root_3)) (L := 64) (by kernel_rfl) ((FnOK.bare rfl rfl rfl).loop sp_cncref23_root eqOk mixOk (by kernel_rfl) (by kernel_rfl)) sp_cncref23_root eqOk mixOk (by kernel_rfl) (by kernel_rfl)
def sig_cncref23_Square : Sk := { tmps := [TS.v true [ci, ci, ci], TS.v true [ci, ci, ci]], boxes := [], rows := [] }
def osig_cncref23_Square : Sk := { tmps := [tf [ci]], boxes := [], rows := [] }
def C_cncref23_Square_0 : Cfg := { spec := lookS [], eqOk := eqAll, ownOff := ownOff, unroll := [3] }
def mf_cncref23_Square : Fn := modelF Tryz.prog C_cncref23_Square_0 64 116 sig_cncref23_Square osig_cncref23_Square
theorem mf_cncref23_Square_eq (x0 x1 x2 x3 x4 x5 : Int) : mf_cncref23_Square [I x0, I x1, I x2, I x3, I x4, I x5] =
 some [I (IntKind.i64.wrap (IntKind.i64.wrap (IntKind.i64.wrap (0 + IntKind.i64.wrap (IntKind.i64.wrap (x0 - x3) * IntKind.i64.wrap (x0 - x3))) + IntKind.i64.wrap (IntKind.i64.wrap (x1 - x4) * IntKind.i64.wrap (x1 - x4))) + IntKind.i64.wrap (IntKind.i64.wrap (x2 - x5) * IntKind.i64.wrap (x2 - x5))))] := by kernel_rfl
def m_cncref23_Square := mf_cncref23_Square 
theorem sp_cncref23_Square : SpecOK Tryz.prog (C_cncref23_Square_0 ) := specOK_of rfl trivial
theorem r_cncref23_Square : RowOK Tryz.prog (116, spOf sig_cncref23_Square osig_cncref23_Square m_cncref23_Square) := row_of (C := C_cncref23_Square_0) (L := 64) (by kernel_rfl) (FnOK.bare rfl rfl rfl) sp_cncref23_Square eqOk mixOk (by kernel_rfl) (by kernel_rfl)
def sig_cncref23_Length : Sk := { tmps := [TS.v true [ci, ci, ci], TS.v true [ci, ci, ci]], boxes := [], rows := [] }
def osig_cncref23_Length : Sk := { tmps := [tf [ci]], boxes := [], rows := [] }
def C_cncref23_Length_0 (M_cncref23_root M_cncref23_Square : Fn) : Cfg := { spec := lookS [(117, spOf sig_cncref23_root osig_cncref23_root M_cncref23_root), (116, spOf sig_cncref23_Square osig_cncref23_Square M_cncref23_Square)], eqOk := eqAll, ownOff := ownOff }
def mf_cncref23_Length (M_cncref23_root M_cncref23_Square : Fn) : Fn := modelF Tryz.prog (C_cncref23_Length_0 M_cncref23_root M_cncref23_Square) 64 85 sig_cncref23_Length osig_cncref23_Length
theorem mf_cncref23_Length_eq (M_cncref23_root M_cncref23_Square : Fn) (x0 x1 x2 x3 x4 x5 : Int) : mf_cncref23_Length M_cncref23_root M_cncref23_Square [I x0, I x1, I x2, I x3, I x4, I x5] =
 (M_cncref23_Square [I x0, I x1, I x2, I x3, I x4, I x5]).bind fun o2 =>
 (M_cncref23_root [jA o2 0]).bind fun o3 =>
 bif decide (IntKind.i64.wrap (gA o3 0 * gA o3 0) < gA o2 0) then
 some [I (IntKind.i64.wrap (gA o3 0 + 1))]
 else
 some [jA o3 0] := by kernel_rfl
def m_cncref23_Length := mf_cncref23_Length m_cncref23_root m_cncref23_Square 
theorem sp_cncref23_Length : SpecOK Tryz.prog (C_cncref23_Length_0 m_cncref23_root m_cncref23_Square) := specOK_of rfl ⟨r_cncref23_root, r_cncref23_Square, trivial⟩
theorem r_cncref23_Length : RowOK Tryz.prog (85, spOf sig_cncref23_Length osig_cncref23_Length m_cncref23_Length) := row_of (C := (C_cncref23_Length_0 m_cncref23_root m_cncref23_Square)) (L := 64) (by kernel_rfl) (FnOK.bare rfl rfl rfl) sp_cncref23_Length eqOk mixOk (by kernel_rfl) (by kernel_rfl)
def sig_cncref25_inside : Sk := { tmps := [TS.v true [ci, ci, ci]], boxes := [], rows := [] }
def osig_cncref25_inside : Sk := { tmps := [tf [CS.bool]], boxes := [], rows := [] }
def C_cncref25_inside_0 : Cfg := { spec := lookS [], eqOk := eqAll, ownOff := ownOff, unroll := [2] }
def mf_cncref25_inside : Fn := modelF Tryz.prog C_cncref25_inside_0 64 93 sig_cncref25_inside osig_cncref25_inside
theorem mf_cncref25_inside_eq (x0 x1 x2 : Int) : mf_cncref25_inside [I x0, I x1, I x2] =
 bif decide (x0 < -16777216) then
 some [B false]
 else
 bif decide (x0 > 16777216) then
 some [B false]
 else
 bif decide (x1 < -16777216) then
 some [B false]
 else
 bif decide (x1 > 16777216) then
 some [B false]
 else
 bif decide (x2 < -16777216) then
 some [B false]
 else
 bif decide (x2 > 16777216) then
 some [B false]
 else
 some [B true] := by kernel_rfl
def m_cncref25_inside := mf_cncref25_inside 
theorem sp_cncref25_inside : SpecOK Tryz.prog (C_cncref25_inside_0 ) := specOK_of rfl trivial
theorem r_cncref25_inside : RowOK Tryz.prog (93, spOf sig_cncref25_inside osig_cncref25_inside m_cncref25_inside) := row_of (C := C_cncref25_inside_0) (L := 64) (by kernel_rfl) (FnOK.bare rfl rfl rfl) sp_cncref25_inside eqOk mixOk (by kernel_rfl) (by kernel_rfl)
def sig_cncref25_Valid : Sk := { tmps := [TS.v true [ci, ci, ci, CS.sl kSgm, CS.sl kPt]], boxes := [], rows := [] }
def osig_cncref25_Valid : Sk := { tmps := [tf [CS.bool]], boxes := [], rows := [] }
def C_cncref25_Valid_0 (M_cncref25_Length M_cncref23_Length M_cncref25_inside : Fn) : Cfg := { spec := lookS [(25, spOf sig_cncref25_Length osig_cncref25_Length M_cncref25_Length), (85, spOf sig_cncref23_Length osig_cncref23_Length M_cncref23_Length), (93, spOf sig_cncref25_inside osig_cncref25_inside M_cncref25_inside)], eqOk := eqAll, ownOff := ownOff }
def sk_cncref25_Valid_5 : Sk := { tmps := [td, tf [CS.ptr 1 0], td, tf [CS.ptr 3 0], tf [ci], td, td, td, td, td, td, td, td, td, td, td, td, td, td, td, td, td, td, td, td, td, td, td, td, td, tf [CS.sl kSgm], tf [ci], tf [ci]] ++ dd 90, boxes := [(1, 29, [ci, ci, ci, CS.sl kSgm, CS.sl kPt]), (3, 25, [ci, ci, ci])], rows := [] }
def ex_cncref25_Valid_5 : List (Ex × Sk) := [(Ex.ret, { tmps := [td, td, tf [CS.bool]] ++ dd 120, boxes := [], rows := [] }), (Ex.exit 0, { tmps := [td, tf [CS.ptr 1 0]] ++ dd 121, boxes := [(1, 29, [ci, ci, ci, CS.sl kSgm, CS.sl kPt])], rows := [] })]
def st_cncref25_Valid_5 (M_cncref25_Length M_cncref23_Length M_cncref25_inside : Fn) : Lp := stepL Tryz.prog (C_cncref25_Valid_0 M_cncref25_Length M_cncref23_Length M_cncref25_inside) 64 5 (bodyOf Tryz.prog 48 5) sk_cncref25_Valid_5 ex_cncref25_Valid_5
def C_cncref25_Valid_1 (M_cncref25_Length M_cncref23_Length M_cncref25_inside : Fn) (N5 : Lp) : Cfg := (C_cncref25_Valid_0 M_cncref25_Length M_cncref23_Length M_cncref25_inside).loop 5 sk_cncref25_Valid_5 ex_cncref25_Valid_5 N5
def sk_cncref25_Valid_13 : Sk := { tmps := [td, td, td, td, td, td, td, tf [ci], tf [ci], td, td, td, td, td, td, td, td, td, td, td, td, td, td, td, td, td, td, td, td, td, td, td, td, td, td, td, td, td, td, td, td, td, td, td, td, td, td, td, td, td, td, td, td, td, td, td, td, td, td, td, td, td, td, td, td, td, td, td, td, td, td, td, td, td, td, td, td, td, td, td, td, td, td, td, td, td, td, td, td, tf [CS.sl kPt], tf [ci], tf [ci]] ++ dd 31, boxes := [], rows := [] }
def ex_cncref25_Valid_13 : List (Ex × Sk) := [(Ex.ret, { tmps := [td, td, tf [CS.bool]] ++ dd 120, boxes := [], rows := [] }), (Ex.exit 2, { tmps := [td] ++ dd 122, boxes := [], rows := [] })]
def st_cncref25_Valid_13 (M_cncref25_Length M_cncref23_Length M_cncref25_inside : Fn) (N5 : Lp) : Lp := stepL Tryz.prog (C_cncref25_Valid_1 M_cncref25_Length M_cncref23_Length M_cncref25_inside N5) 64 13 (bodyOf Tryz.prog 48 13) sk_cncref25_Valid_13 ex_cncref25_Valid_13
def C_cncref25_Valid_2 (M_cncref25_Length M_cncref23_Length M_cncref25_inside : Fn) (N5 N13 : Lp) : Cfg := (C_cncref25_Valid_1 M_cncref25_Length M_cncref23_Length M_cncref25_inside N5).loop 13 sk_cncref25_Valid_13 ex_cncref25_Valid_13 N13
def mf_cncref25_Valid (M_cncref25_Length M_cncref23_Length M_cncref25_inside : Fn) (N5 N13 : Lp) : Fn := modelF Tryz.prog (C_cncref25_Valid_2 M_cncref25_Length M_cncref23_Length M_cncref25_inside N5 N13) 64 48 sig_cncref25_Valid osig_cncref25_Valid
theorem st_cncref25_Valid_5_eq (M_cncref25_Length M_cncref23_Length M_cncref25_inside : Fn) (v0 : Int) (v1 : Rw) (v2 v3 v4 v5 v6 : Int) (v7 v8 : Rw) (v9 v10 v11 : Int) : st_cncref25_Valid_5 M_cncref25_Length M_cncref23_Length M_cncref25_inside [I v0, .view kSgm v1, I v2, I v3, I v4, I v5, I v6, .view kSgm v7, .view kPt v8, I v9, I v10, I v11] =
 bif decide (v3 < v2) then
 bif decide (0 <= v3) && decide (v3 < (v1.length : Int)) then
 (M_cncref25_inside [jA (nth [] v1 v3.toNat) 0, jA (nth [] v1 v3.toNat) 1, jA (nth [] v1 v3.toNat) 2]).bind fun o10 =>
 bif !bA o10 0 then
 some (1, [B false])
 else
 bif gA (nth [] v1 v3.toNat) 0 == v9 && (gA (nth [] v1 v3.toNat) 1 == v10 && (gA (nth [] v1 v3.toNat) 2 == v11 && true)) then
 some (1, [B false])
 else
 (M_cncref23_Length [I v9, I v10, I v11, jA (nth [] v1 v3.toNat) 0, jA (nth [] v1 v3.toNat) 1, jA (nth [] v1 v3.toNat) 2]).bind fun o11 =>
 bif gA (nth [] v1 v3.toNat) 3 != gA o11 0 then
 some (1, [B false])
 else
 bif decide (gA (nth [] v1 v3.toNat) 4 < v0) then
 some (1, [B false])
 else
 bif decide (gA (nth [] v1 v3.toNat) 5 < 0) then
 some (1, [B false])
 else
 bif decide (gA (nth [] v1 v3.toNat) 5 > 16777216) then
 some (1, [B false])
 else
 bif decide (gA (nth [] v1 v3.toNat) 6 < 0) then
 some (1, [B false])
 else
 bif decide (gA (nth [] v1 v3.toNat) 6 > 16777216) then
 some (1, [B false])
 else
 some (0, [jA (nth [] v1 v3.toNat) 4, .view kSgm v1, I v2, I (IntKind.i64.wrap (v3 + 1)), I v4, I v5, I v6, .view kSgm v7, .view kPt v8, jA (nth [] v1 v3.toNat) 0, jA (nth [] v1 v3.toNat) 1, jA (nth [] v1 v3.toNat) 2])
 else
 none
 else
 some (2, [I v4, I v5, I v6, .view kSgm v7, .view kPt v8]) := by kernel_rfl
theorem st_cncref25_Valid_13_eq (M_cncref25_Length M_cncref23_Length M_cncref25_inside : Fn) (N5 : Lp) (v0 v1 : Int) (v2 : Rw) (v3 v4 : Int) : st_cncref25_Valid_13 M_cncref25_Length M_cncref23_Length M_cncref25_inside N5 [I v0, I v1, .view kPt v2, I v3, I v4] =
 bif decide (v4 < v3) then
 bif decide (0 <= v4) && decide (v4 < (v2.length : Int)) then
 bif decide (gA (nth [] v2 v4.toNat) 0 < v0) then
 some (1, [B false])
 else
 bif decide (gA (nth [] v2 v4.toNat) 0 > v1) then
 some (1, [B false])
 else
 bif decide (gA (nth [] v2 v4.toNat) 1 < 1) then
 some (1, [B false])
 else
 bif decide (gA (nth [] v2 v4.toNat) 1 > 6) then
 some (1, [B false])
 else
 bif decide (gA (nth [] v2 v4.toNat) 2 < 0) then
 some (1, [B false])
 else
 some (0, [jA (nth [] v2 v4.toNat) 0, I v1, .view kPt v2, I v3, I (IntKind.i64.wrap (v4 + 1))])
 else
 none
 else
 some (2, []) := by kernel_rfl
theorem mf_cncref25_Valid_eq (M_cncref25_Length M_cncref23_Length M_cncref25_inside : Fn) (N5 N13 : Lp) (x0 x1 x2 : Int) (x3 x4 : Rw) : mf_cncref25_Valid M_cncref25_Length M_cncref23_Length M_cncref25_inside N5 N13 [I x0, I x1, I x2, .view kSgm x3, .view kPt x4] =
 bif decide ((x3.length : Int) > 1048576) then
 some [B false]
 else
 bif decide ((x4.length : Int) > 80000) then
 some [B false]
 else
 (M_cncref25_inside [I x0, I x1, I x2]).bind fun o12 =>
 bif !bA o12 0 then
 some [B false]
 else
 (N5 [I 0, .view kSgm x3, I (x3.length : Int), I 0, I x0, I x1, I x2, .view kSgm x3, .view kPt x4, I x0, I x1, I x2]).bind fun o13 =>
 bif o13.1.beq 1 then
 some [B (bA o13.2 0)]
 else
 bif o13.1.beq 2 then
 (M_cncref25_Length [jA o13.2 0, jA o13.2 1, jA o13.2 2, .view kSgm (wA o13.2 3), .view kPt (wA o13.2 4)]).bind fun o14 =>
 (N13 [I 0, jA o14 0, .view kPt (wA o13.2 4), I (↑(wA o13.2 4).length : Int), I 0]).bind fun o15 =>
 bif o15.1.beq 1 then
 some [B (bA o15.2 0)]
 else
 bif o15.1.beq 2 then
 some [B true]
 else
 none
 else
 none := by kernel_rfl
def l_cncref25_Valid_5 := loopC (st_cncref25_Valid_5 m_cncref25_Length m_cncref23_Length m_cncref25_inside )
def l_cncref25_Valid_13 := loopC (st_cncref25_Valid_13 m_cncref25_Length m_cncref23_Length m_cncref25_inside l_cncref25_Valid_5)
def m_cncref25_Valid := mf_cncref25_Valid m_cncref25_Length m_cncref23_Length m_cncref25_inside l_cncref25_Valid_5 l_cncref25_Valid_13
theorem sp_cncref25_Valid : SpecOK Tryz.prog (C_cncref25_Valid_0 m_cncref25_Length m_cncref23_Length m_cncref25_inside) := specOK_of rfl ⟨r_cncref25_Length, r_cncref23_Length, r_cncref25_inside, trivial⟩
theorem r_cncref25_Valid : RowOK Tryz.prog (48, spOf sig_cncref25_Valid osig_cncref25_Valid m_cncref25_Valid) := row_of (C := (C_cncref25_Valid_2 m_cncref25_Length m_cncref23_Length m_cncref25_inside l_cncref25_Valid_5 l_cncref25_Valid_13)) (L := 64) (by kernel_rfl) (((FnOK.bare rfl rfl rfl).loop sp_cncref25_Valid eqOk mixOk (by kernel_rfl) (by kernel_rfl)).loop sp_cncref25_Valid eqOk mixOk (by kernel_rfl) (by kernel_rfl)) sp_cncref25_Valid eqOk mixOk (by kernel_rfl) (by kernel_rfl)
def sig_cncmill_Mod : Sk := { tmps := [tf [ci], tf [ci]], boxes := [], rows := [] }
def osig_cncmill_Mod : Sk := { tmps := [tf [ci]], boxes := [], rows := [] }
def C_cncmill_Mod_0 : Cfg := { spec := lookS [], eqOk := eqAll, ownOff := ownOff }
def mf_cncmill_Mod : Fn := modelF Tryz.prog C_cncmill_Mod_0 64 16 sig_cncmill_Mod osig_cncmill_Mod
theorem mf_cncmill_Mod_eq (x0 x1 : Int) : mf_cncmill_Mod [I x0, I x1] =
 bif decide (x1 = 0) then
 none
 else
 bif decide (x1 = 0) then
 none
 else
 some [I ((IntKind.i64.wrap (x0.tmod x1 + x1)).tmod x1)] := by kernel_rfl
def m_cncmill_Mod := mf_cncmill_Mod 
theorem sp_cncmill_Mod : SpecOK Tryz.prog (C_cncmill_Mod_0 ) := specOK_of rfl trivial
theorem r_cncmill_Mod : RowOK Tryz.prog (16, spOf sig_cncmill_Mod osig_cncmill_Mod m_cncmill_Mod) := row_of (C := C_cncmill_Mod_0) (L := 64) (by kernel_rfl) (FnOK.bare rfl rfl rfl) sp_cncmill_Mod eqOk mixOk (by kernel_rfl) (by kernel_rfl)
def sig_wide_signed : Sk := { tmps := [tf [CS.int .u64], tf [CS.bool]], boxes := [], rows := [] }
def osig_wide_signed : Sk := { tmps := [TS.tup [(false, [ci]), (false, [CS.bool])]], boxes := [], rows := [] }
def C_wide_signed_0 : Cfg := { spec := lookS [], eqOk := eqAll, ownOff := ownOff }
def mf_wide_signed : Fn := modelF Tryz.prog C_wide_signed_0 64 105 sig_wide_signed osig_wide_signed
theorem mf_wide_signed_eq (x0 : Int) (x1 : Bool) : mf_wide_signed [U x0, B x1] =
 bif x1 then
 bif decide (x0 <= 9223372036854775808) then
 some [I (IntKind.i64.wrap (IntKind.u64.wrap (0 - x0))), B true]
 else
 bif !x1 then
 bif decide (x0 < 9223372036854775808) then
 some [I (IntKind.i64.wrap x0), B true]
 else
 some [I 0, B false]
 else
 some [I 0, B false]
 else
 bif !x1 then
 bif decide (x0 < 9223372036854775808) then
 some [I (IntKind.i64.wrap x0), B true]
 else
 some [I 0, B false]
 else
 some [I 0, B false] := by kernel_rfl
def m_wide_signed := mf_wide_signed 
theorem sp_wide_signed : SpecOK Tryz.prog (C_wide_signed_0 ) := specOK_of rfl trivial
theorem r_wide_signed : RowOK Tryz.prog (105, spOf sig_wide_signed osig_wide_signed m_wide_signed) := row_of (C := C_wide_signed_0) (L := 64) (by kernel_rfl) (FnOK.bare rfl rfl rfl) sp_wide_signed eqOk mixOk (by kernel_rfl) (by kernel_rfl)
def sig_wide_compare : Sk := { tmps := [TS.v true [CS.int .u64, CS.int .u64], TS.v true [CS.int .u64, CS.int .u64]], boxes := [], rows := [] }
def osig_wide_compare : Sk := { tmps := [tf [ci]], boxes := [], rows := [] }
def C_wide_compare_0 : Cfg := { spec := lookS [], eqOk := eqAll, ownOff := ownOff }
def mf_wide_compare : Fn := modelF Tryz.prog C_wide_compare_0 64 174 sig_wide_compare osig_wide_compare
theorem mf_wide_compare_eq (x0 x1 x2 x3 : Int) : mf_wide_compare [U x0, U x1, U x2, U x3] =
 bif decide (x0 < x2) then
 some [I (-1)]
 else
 bif x0 == x2 then
 bif decide (x1 < x3) then
 some [I (-1)]
 else
 bif x0 == x2 && (x1 == x3 && true) then
 some [I 0]
 else
 some [I 1]
 else
 bif x0 == x2 && (x1 == x3 && true) then
 some [I 0]
 else
 some [I 1] := by kernel_rfl
def m_wide_compare := mf_wide_compare 
theorem sp_wide_compare : SpecOK Tryz.prog (C_wide_compare_0 ) := specOK_of rfl trivial
theorem r_wide_compare : RowOK Tryz.prog (174, spOf sig_wide_compare osig_wide_compare m_wide_compare) := row_of (C := C_wide_compare_0) (L := 64) (by kernel_rfl) (FnOK.bare rfl rfl rfl) sp_wide_compare eqOk mixOk (by kernel_rfl) (by kernel_rfl)
def sig_wide_product : Sk := { tmps := [tf [CS.int .u64], tf [CS.int .u64]], boxes := [], rows := [] }
def osig_wide_product : Sk := { tmps := [TS.v true [CS.int .u64, CS.int .u64]], boxes := [], rows := [] }
def C_wide_product_0 (M_bits_Mul64 : Fn) : Cfg := { spec := lookS [(121, spOf sig_bits_Mul64 osig_bits_Mul64 M_bits_Mul64)], eqOk := eqAll, ownOff := ownOff }
def mf_wide_product (M_bits_Mul64 : Fn) : Fn := modelF Tryz.prog (C_wide_product_0 M_bits_Mul64) 64 100 sig_wide_product osig_wide_product
theorem mf_wide_product_eq (M_bits_Mul64 : Fn) (x0 x1 : Int) : mf_wide_product M_bits_Mul64 [U x0, U x1] =
 (M_bits_Mul64 [U x0, U x1]).bind fun o1 =>
 some [U (gA o1 0), U (gA o1 1)] := by kernel_rfl
def m_wide_product := mf_wide_product m_bits_Mul64 
theorem sp_wide_product : SpecOK Tryz.prog (C_wide_product_0 m_bits_Mul64) := specOK_of rfl ⟨r_bits_Mul64, trivial⟩
theorem r_wide_product : RowOK Tryz.prog (100, spOf sig_wide_product osig_wide_product m_wide_product) := row_of (C := (C_wide_product_0 m_bits_Mul64)) (L := 64) (by kernel_rfl) (FnOK.bare rfl rfl rfl) sp_wide_product eqOk mixOk (by kernel_rfl) (by kernel_rfl)
def sig_wide_floorRoot : Sk := { tmps := [TS.v true [CS.int .u64, CS.int .u64]], boxes := [], rows := [] }
def osig_wide_floorRoot : Sk := { tmps := [tf [CS.int .u64]], boxes := [], rows := [] }
def C_wide_floorRoot_0 (M_wide_compare M_wide_product : Fn) : Cfg := { spec := lookS [(174, spOf sig_wide_compare osig_wide_compare M_wide_compare), (100, spOf sig_wide_product osig_wide_product M_wide_product)], eqOk := eqAll, ownOff := ownOff }
def sk_wide_floorRoot_3 : Sk := { tmps := [td, tf [CS.ptr 1 0], td, tf [CS.int .u64], tf [CS.int .u64]] ++ dd 16, boxes := [(1, 125, [CS.int .u64, CS.int .u64])], rows := [] }
def ex_wide_floorRoot_3 : List (Ex × Sk) := [(Ex.exit 0, { tmps := [td, td, td, tf [CS.int .u64]] ++ dd 17, boxes := [], rows := [] })]
def st_wide_floorRoot_3 (M_wide_compare M_wide_product : Fn) : Lp := stepL Tryz.prog (C_wide_floorRoot_0 M_wide_compare M_wide_product) 64 3 (bodyOf Tryz.prog 156 3) sk_wide_floorRoot_3 ex_wide_floorRoot_3
def C_wide_floorRoot_1 (M_wide_compare M_wide_product : Fn) (N3 : Lp) : Cfg := (C_wide_floorRoot_0 M_wide_compare M_wide_product).loop 3 sk_wide_floorRoot_3 ex_wide_floorRoot_3 N3
def mf_wide_floorRoot (M_wide_compare M_wide_product : Fn) (N3 : Lp) : Fn := modelF Tryz.prog (C_wide_floorRoot_1 M_wide_compare M_wide_product N3) 64 156 sig_wide_floorRoot osig_wide_floorRoot
theorem st_wide_floorRoot_3_eq (M_wide_compare M_wide_product : Fn) (v0 v1 v2 v3 : Int) : st_wide_floorRoot_3 M_wide_compare M_wide_product [U v0, U v1, U v2, U v3] =
 bif decide (v1 > 0) then
 (M_wide_product [U (IntKind.u64.wrap (↑(BitVec.ofInt IntKind.u64.bits v0 ||| BitVec.ofInt IntKind.u64.bits v1).toNat : Int)), U (IntKind.u64.wrap (↑(BitVec.ofInt IntKind.u64.bits v0 ||| BitVec.ofInt IntKind.u64.bits v1).toNat : Int))]).bind fun o3 =>
 (M_wide_compare [U (gA o3 0), U (gA o3 1), U v2, U v3]).bind fun o4 =>
 bif decide (gA o4 0 <= 0) then
 some (0, [U (IntKind.u64.wrap (↑(BitVec.ofInt IntKind.u64.bits v0 ||| BitVec.ofInt IntKind.u64.bits v1).toNat : Int)), U (v1.fdiv (2 ^ min (Int.toNat 1) IntKind.u64.bits)), U v2, U v3])
 else
 some (0, [U v0, U (v1.fdiv (2 ^ min (Int.toNat 1) IntKind.u64.bits)), U v2, U v3])
 else
 some (1, [U v0]) := by kernel_rfl
theorem mf_wide_floorRoot_eq (M_wide_compare M_wide_product : Fn) (N3 : Lp) (x0 x1 : Int) : mf_wide_floorRoot M_wide_compare M_wide_product N3 [U x0, U x1] =
 (N3 [U 0, U 9223372036854775808, U x0, U x1]).bind fun o5 =>
 bif o5.1.beq 1 then
 some [U (gA o5.2 0)]
 else
 none := by kernel_rfl
def l_wide_floorRoot_3 := loopC (st_wide_floorRoot_3 m_wide_compare m_wide_product )
def m_wide_floorRoot := mf_wide_floorRoot m_wide_compare m_wide_product l_wide_floorRoot_3
theorem sp_wide_floorRoot : SpecOK Tryz.prog (C_wide_floorRoot_0 m_wide_compare m_wide_product) := specOK_of rfl ⟨r_wide_compare, r_wide_product, trivial⟩
theorem r_wide_floorRoot : RowOK Tryz.prog (156, spOf sig_wide_floorRoot osig_wide_floorRoot m_wide_floorRoot) := row_of (C := (C_wide_floorRoot_1 m_wide_compare m_wide_product l_wide_floorRoot_3)) (L := 64) (by kernel_rfl) ((FnOK.bare rfl rfl rfl).loop sp_wide_floorRoot eqOk mixOk (by kernel_rfl) (by kernel_rfl)) sp_wide_floorRoot eqOk mixOk (by kernel_rfl) (by kernel_rfl)
def sig_wide_root : Sk := { tmps := [TS.v true [CS.int .u64, CS.int .u64], tf [ci]], boxes := [], rows := [] }
def osig_wide_root : Sk := { tmps := [TS.tup [(false, [ci]), (false, [CS.bool])]], boxes := [], rows := [] }
def C_wide_root_0 (M_wide_signed M_bits_Sub64 M_bits_Mul64 M_wide_floorRoot : Fn) : Cfg := { spec := lookS [(105, spOf sig_wide_signed osig_wide_signed M_wide_signed), (157, spOf sig_bits_Sub64 osig_bits_Sub64 M_bits_Sub64), (121, spOf sig_bits_Mul64 osig_bits_Mul64 M_bits_Mul64), (156, spOf sig_wide_floorRoot osig_wide_floorRoot M_wide_floorRoot)], eqOk := eqAll, ownOff := ownOff }
def mf_wide_root (M_wide_signed M_bits_Sub64 M_bits_Mul64 M_wide_floorRoot : Fn) : Fn := modelF Tryz.prog (C_wide_root_0 M_wide_signed M_bits_Sub64 M_bits_Mul64 M_wide_floorRoot) 64 136 sig_wide_root osig_wide_root
abbrev g_wide_root_1 (x2 : Int) (o17 : List AC) (M_wide_signed : Fn) (o14 o16 : List AC) : Option (List AC) :=
 bif x2 == 2 then
 bif decide (gA o17 0 > 0) then
 (M_wide_signed [U (IntKind.u64.wrap (gA o14 0 + 1)), B false]).bind fun o20 =>
 some [jA o20 0, B (bA o20 1)]
 else
 bif decide (gA o16 0 > gA o14 0) then
 (M_wide_signed [U (IntKind.u64.wrap (gA o14 0 + 1)), B false]).bind fun o21 =>
 some [jA o21 0, B (bA o21 1)]
 else
 (M_wide_signed [U (gA o14 0), B false]).bind fun o22 =>
 some [jA o22 0, B (bA o22 1)]
 else
 (M_wide_signed [U (gA o14 0), B false]).bind fun o23 =>
 some [jA o23 0, B (bA o23 1)]
attribute [go_sem] g_wide_root_1
theorem mf_wide_root_eq (M_wide_signed M_bits_Sub64 M_bits_Mul64 M_wide_floorRoot : Fn) (x0 x1 x2 : Int) : mf_wide_root M_wide_signed M_bits_Sub64 M_bits_Mul64 M_wide_floorRoot [U x0, U x1, I x2] =
 (M_wide_floorRoot [U x0, U x1]).bind fun o14 =>
 (M_bits_Mul64 [U (gA o14 0), U (gA o14 0)]).bind fun o15 =>
 (M_bits_Sub64 [U x1, U (gA o15 1), U 0]).bind fun o16 =>
 (M_bits_Sub64 [U x0, U (gA o15 0), U (gA o16 1)]).bind fun o17 =>
 bif x2 == 1 then
 bif decide (gA o17 0 > 0) then
 (M_wide_signed [U (IntKind.u64.wrap (gA o14 0 + 1)), B false]).bind fun o18 =>
 some [jA o18 0, B (bA o18 1)]
 else
 bif decide (gA o16 0 > 0) then
 (M_wide_signed [U (IntKind.u64.wrap (gA o14 0 + 1)), B false]).bind fun o19 =>
 some [jA o19 0, B (bA o19 1)]
 else
 g_wide_root_1 x2 o17 M_wide_signed o14 o16
 else
 g_wide_root_1 x2 o17 M_wide_signed o14 o16 := by kernel_rfl
def m_wide_root := mf_wide_root m_wide_signed m_bits_Sub64 m_bits_Mul64 m_wide_floorRoot 
theorem sp_wide_root : SpecOK Tryz.prog (C_wide_root_0 m_wide_signed m_bits_Sub64 m_bits_Mul64 m_wide_floorRoot) := specOK_of rfl ⟨r_wide_signed, r_bits_Sub64, r_bits_Mul64, r_wide_floorRoot, trivial⟩
theorem r_wide_root : RowOK Tryz.prog (136, spOf sig_wide_root osig_wide_root m_wide_root) := row_of (C := (C_wide_root_0 m_wide_signed m_bits_Sub64 m_bits_Mul64 m_wide_floorRoot)) (L := 64) (by kernel_rfl) (FnOK.bare rfl rfl rfl) sp_wide_root eqOk mixOk (by kernel_rfl) (by kernel_rfl)
def sig_wide_known : Sk := { tmps := [tf [ci]], boxes := [], rows := [] }
def osig_wide_known : Sk := { tmps := [tf [CS.bool]], boxes := [], rows := [] }
def C_wide_known_0 : Cfg := { spec := lookS [], eqOk := eqAll, ownOff := ownOff }
def mf_wide_known : Fn := modelF Tryz.prog C_wide_known_0 64 99 sig_wide_known osig_wide_known
theorem mf_wide_known_eq (x0 : Int) : mf_wide_known [I x0] =
 bif x0 == 0 then
 some [B true]
 else
 bif x0 == 1 then
 some [B true]
 else
 some [B (x0 == 2)] := by kernel_rfl
def m_wide_known := mf_wide_known 
theorem sp_wide_known : SpecOK Tryz.prog (C_wide_known_0 ) := specOK_of rfl trivial
theorem r_wide_known : RowOK Tryz.prog (99, spOf sig_wide_known osig_wide_known m_wide_known) := row_of (C := C_wide_known_0) (L := 64) (by kernel_rfl) (FnOK.bare rfl rfl rfl) sp_wide_known eqOk mixOk (by kernel_rfl) (by kernel_rfl)
def sig_wide_Sqrt : Sk := { tmps := [tf [ci], tf [ci]], boxes := [], rows := [] }
def osig_wide_Sqrt : Sk := { tmps := [TS.tup [(false, [ci]), (false, [CS.bool])]], boxes := [], rows := [] }
def C_wide_Sqrt_0 (M_wide_root M_wide_known : Fn) : Cfg := { spec := lookS [(136, spOf sig_wide_root osig_wide_root M_wide_root), (99, spOf sig_wide_known osig_wide_known M_wide_known)], eqOk := eqAll, ownOff := ownOff }
def mf_wide_Sqrt (M_wide_root M_wide_known : Fn) : Fn := modelF Tryz.prog (C_wide_Sqrt_0 M_wide_root M_wide_known) 64 118 sig_wide_Sqrt osig_wide_Sqrt
theorem mf_wide_Sqrt_eq (M_wide_root M_wide_known : Fn) (x0 x1 : Int) : mf_wide_Sqrt M_wide_root M_wide_known [I x0, I x1] =
 bif decide (x0 < 0) then
 some [I 0, B false]
 else
 (M_wide_known [I x1]).bind fun o2 =>
 bif !bA o2 0 then
 some [I 0, B false]
 else
 (M_wide_root [U 0, U (IntKind.u64.wrap x0), I x1]).bind fun o3 =>
 some [jA o3 0, B (bA o3 1)] := by kernel_rfl
def m_wide_Sqrt := mf_wide_Sqrt m_wide_root m_wide_known 
theorem sp_wide_Sqrt : SpecOK Tryz.prog (C_wide_Sqrt_0 m_wide_root m_wide_known) := specOK_of rfl ⟨r_wide_root, r_wide_known, trivial⟩
theorem r_wide_Sqrt : RowOK Tryz.prog (118, spOf sig_wide_Sqrt osig_wide_Sqrt m_wide_Sqrt) := row_of (C := (C_wide_Sqrt_0 m_wide_root m_wide_known)) (L := 64) (by kernel_rfl) (FnOK.bare rfl rfl rfl) sp_wide_Sqrt eqOk mixOk (by kernel_rfl) (by kernel_rfl)
def sig_curve_Length : Sk := { tmps := [TS.v true [ci, ci, ci], TS.v true [ci, ci, ci]], boxes := [], rows := [] }
def osig_curve_Length : Sk := { tmps := [tf [ci]], boxes := [], rows := [] }
def C_curve_Length_0 (M_wide_Sqrt : Fn) : Cfg := { spec := lookS [(118, spOf sig_wide_Sqrt osig_wide_Sqrt M_wide_Sqrt)], eqOk := eqAll, ownOff := ownOff, unroll := [3] }
def mf_curve_Length (M_wide_Sqrt : Fn) : Fn := modelF Tryz.prog (C_curve_Length_0 M_wide_Sqrt) 64 92 sig_curve_Length osig_curve_Length
theorem mf_curve_Length_eq (M_wide_Sqrt : Fn) (x0 x1 x2 x3 x4 x5 : Int) : mf_curve_Length M_wide_Sqrt [I x0, I x1, I x2, I x3, I x4, I x5] =
 (M_wide_Sqrt [I (IntKind.i64.wrap (IntKind.i64.wrap (IntKind.i64.wrap (0 + IntKind.i64.wrap (IntKind.i64.wrap (x0 - x3) * IntKind.i64.wrap (x0 - x3))) + IntKind.i64.wrap (IntKind.i64.wrap (x1 - x4) * IntKind.i64.wrap (x1 - x4))) + IntKind.i64.wrap (IntKind.i64.wrap (x2 - x5) * IntKind.i64.wrap (x2 - x5)))), I 1]).bind fun o1 =>
 some [jA o1 0] := by kernel_rfl
def m_curve_Length := mf_curve_Length m_wide_Sqrt 
theorem sp_curve_Length : SpecOK Tryz.prog (C_curve_Length_0 m_wide_Sqrt) := specOK_of rfl ⟨r_wide_Sqrt, trivial⟩
theorem r_curve_Length : RowOK Tryz.prog (92, spOf sig_curve_Length osig_curve_Length m_curve_Length) := row_of (C := (C_curve_Length_0 m_wide_Sqrt)) (L := 64) (by kernel_rfl) (FnOK.bare rfl rfl rfl) sp_curve_Length eqOk mixOk (by kernel_rfl) (by kernel_rfl)
def sig_path_inside : Sk := { tmps := [TS.v true [ci, ci, ci]], boxes := [], rows := [] }
def osig_path_inside : Sk := { tmps := [tf [CS.bool]], boxes := [], rows := [] }
def C_path_inside_0 : Cfg := { spec := lookS [], eqOk := eqAll, ownOff := ownOff, unroll := [2] }
def mf_path_inside : Fn := modelF Tryz.prog C_path_inside_0 64 91 sig_path_inside osig_path_inside
theorem mf_path_inside_eq (x0 x1 x2 : Int) : mf_path_inside [I x0, I x1, I x2] =
 bif decide (x0 < -16777216) then
 some [B false]
 else
 bif decide (x0 > 16777216) then
 some [B false]
 else
 bif decide (x1 < -16777216) then
 some [B false]
 else
 bif decide (x1 > 16777216) then
 some [B false]
 else
 bif decide (x2 < -16777216) then
 some [B false]
 else
 bif decide (x2 > 16777216) then
 some [B false]
 else
 some [B true] := by kernel_rfl
def m_path_inside := mf_path_inside 
theorem sp_path_inside : SpecOK Tryz.prog (C_path_inside_0 ) := specOK_of rfl trivial
theorem r_path_inside : RowOK Tryz.prog (91, spOf sig_path_inside osig_path_inside m_path_inside) := row_of (C := C_path_inside_0) (L := 64) (by kernel_rfl) (FnOK.bare rfl rfl rfl) sp_path_inside eqOk mixOk (by kernel_rfl) (by kernel_rfl)
def sig_path_Valid : Sk := { tmps := [TS.v true [ci, ci, ci, CS.sl kSgm, CS.sl kPt]], boxes := [], rows := [] }
def osig_path_Valid : Sk := { tmps := [tf [CS.bool]], boxes := [], rows := [] }
def C_path_Valid_0 (M_curve_Length M_path_inside : Fn) : Cfg := { spec := lookS [(92, spOf sig_curve_Length osig_curve_Length M_curve_Length), (91, spOf sig_path_inside osig_path_inside M_path_inside)], eqOk := eqAll, ownOff := ownOff }
def sk_path_Valid_5 : Sk := { tmps := [td, tf [CS.ptr 1 0], td, tf [CS.ptr 3 0], tf [ci], tf [ci], td, td, td, td, td, td, td, td, td, td, td, td, td, td, td, td, td, td, td, td, td, td, td, td, tf [CS.sl kSgm], tf [ci], tf [ci]] ++ dd 90, boxes := [(1, 29, [ci, ci, ci, CS.sl kSgm, CS.sl kPt]), (3, 25, [ci, ci, ci])], rows := [] }
def ex_path_Valid_5 : List (Ex × Sk) := [(Ex.ret, { tmps := [td, td, tf [CS.bool]] ++ dd 120, boxes := [], rows := [] }), (Ex.exit 0, { tmps := [td, tf [CS.ptr 1 0], td, td, td, tf [ci]] ++ dd 117, boxes := [(1, 29, [ci, ci, ci, CS.sl kSgm, CS.sl kPt])], rows := [] })]
def st_path_Valid_5 (M_curve_Length M_path_inside : Fn) : Lp := stepL Tryz.prog (C_path_Valid_0 M_curve_Length M_path_inside) 64 5 (bodyOf Tryz.prog 47 5) sk_path_Valid_5 ex_path_Valid_5
def C_path_Valid_1 (M_curve_Length M_path_inside : Fn) (N5 : Lp) : Cfg := (C_path_Valid_0 M_curve_Length M_path_inside).loop 5 sk_path_Valid_5 ex_path_Valid_5 N5
def sk_path_Valid_15 : Sk := { tmps := [td, td, td, td, td, tf [ci], td, td, tf [ci], td, td, td, td, td, td, td, td, td, td, td, td, td, td, td, td, td, td, td, td, td, td, td, td, td, td, td, td, td, td, td, td, td, td, td, td, td, td, td, td, td, td, td, td, td, td, td, td, td, td, td, td, td, td, td, td, td, td, td, td, td, td, td, td, td, td, td, td, td, td, td, td, td, td, td, td, td, td, td, td, tf [CS.sl kPt], tf [ci], tf [ci]] ++ dd 31, boxes := [], rows := [] }
def ex_path_Valid_15 : List (Ex × Sk) := [(Ex.ret, { tmps := [td, td, tf [CS.bool]] ++ dd 120, boxes := [], rows := [] }), (Ex.exit 2, { tmps := [td] ++ dd 122, boxes := [], rows := [] })]
def st_path_Valid_15 (M_curve_Length M_path_inside : Fn) (N5 : Lp) : Lp := stepL Tryz.prog (C_path_Valid_1 M_curve_Length M_path_inside N5) 64 15 (bodyOf Tryz.prog 47 15) sk_path_Valid_15 ex_path_Valid_15
def C_path_Valid_2 (M_curve_Length M_path_inside : Fn) (N5 N15 : Lp) : Cfg := (C_path_Valid_1 M_curve_Length M_path_inside N5).loop 15 sk_path_Valid_15 ex_path_Valid_15 N15
def mf_path_Valid (M_curve_Length M_path_inside : Fn) (N5 N15 : Lp) : Fn := modelF Tryz.prog (C_path_Valid_2 M_curve_Length M_path_inside N5 N15) 64 47 sig_path_Valid osig_path_Valid
theorem st_path_Valid_5_eq (M_curve_Length M_path_inside : Fn) (v0 v1 : Int) (v2 : Rw) (v3 v4 v5 v6 v7 : Int) (v8 v9 : Rw) (v10 v11 v12 : Int) : st_path_Valid_5 M_curve_Length M_path_inside [I v0, I v1, .view kSgm v2, I v3, I v4, I v5, I v6, I v7, .view kSgm v8, .view kPt v9, I v10, I v11, I v12] =
 bif decide (v4 < v3) then
 bif decide (0 <= v4) && decide (v4 < (v2.length : Int)) then
 (M_path_inside [jA (nth [] v2 v4.toNat) 0, jA (nth [] v2 v4.toNat) 1, jA (nth [] v2 v4.toNat) 2]).bind fun o8 =>
 bif !bA o8 0 then
 some (1, [B false])
 else
 bif gA (nth [] v2 v4.toNat) 0 == v10 && (gA (nth [] v2 v4.toNat) 1 == v11 && (gA (nth [] v2 v4.toNat) 2 == v12 && true)) then
 some (1, [B false])
 else
 (M_curve_Length [I v10, I v11, I v12, jA (nth [] v2 v4.toNat) 0, jA (nth [] v2 v4.toNat) 1, jA (nth [] v2 v4.toNat) 2]).bind fun o9 =>
 bif gA (nth [] v2 v4.toNat) 3 != gA o9 0 then
 some (1, [B false])
 else
 bif decide (gA (nth [] v2 v4.toNat) 4 < v0) then
 some (1, [B false])
 else
 bif decide (gA (nth [] v2 v4.toNat) 5 < 0) then
 some (1, [B false])
 else
 bif decide (gA (nth [] v2 v4.toNat) 5 > 16777216) then
 some (1, [B false])
 else
 bif decide (gA (nth [] v2 v4.toNat) 6 < 0) then
 some (1, [B false])
 else
 bif decide (gA (nth [] v2 v4.toNat) 6 > 16777216) then
 some (1, [B false])
 else
 some (0, [jA (nth [] v2 v4.toNat) 4, I (IntKind.i64.wrap (v1 + gA (nth [] v2 v4.toNat) 3)), .view kSgm v2, I v3, I (IntKind.i64.wrap (v4 + 1)), I v5, I v6, I v7, .view kSgm v8, .view kPt v9, jA (nth [] v2 v4.toNat) 0, jA (nth [] v2 v4.toNat) 1, jA (nth [] v2 v4.toNat) 2])
 else
 none
 else
 some (2, [I v1, I v5, I v6, I v7, .view kSgm v8, .view kPt v9]) := by kernel_rfl
theorem st_path_Valid_15_eq (M_curve_Length M_path_inside : Fn) (N5 : Lp) (v0 v1 : Int) (v2 : Rw) (v3 v4 : Int) : st_path_Valid_15 M_curve_Length M_path_inside N5 [I v0, I v1, .view kPt v2, I v3, I v4] =
 bif decide (v4 < v3) then
 bif decide (0 <= v4) && decide (v4 < (v2.length : Int)) then
 bif decide (gA (nth [] v2 v4.toNat) 0 < v1) then
 some (1, [B false])
 else
 bif decide (gA (nth [] v2 v4.toNat) 0 > v0) then
 some (1, [B false])
 else
 bif decide (gA (nth [] v2 v4.toNat) 1 < 1) then
 some (1, [B false])
 else
 bif decide (gA (nth [] v2 v4.toNat) 1 > 6) then
 some (1, [B false])
 else
 bif decide (gA (nth [] v2 v4.toNat) 2 < 0) then
 some (1, [B false])
 else
 some (0, [I v0, jA (nth [] v2 v4.toNat) 0, .view kPt v2, I v3, I (IntKind.i64.wrap (v4 + 1))])
 else
 none
 else
 some (2, []) := by kernel_rfl
theorem mf_path_Valid_eq (M_curve_Length M_path_inside : Fn) (N5 N15 : Lp) (x0 x1 x2 : Int) (x3 x4 : Rw) : mf_path_Valid M_curve_Length M_path_inside N5 N15 [I x0, I x1, I x2, .view kSgm x3, .view kPt x4] =
 bif decide ((x3.length : Int) > 1048576) then
 some [B false]
 else
 bif decide ((x4.length : Int) > 80000) then
 some [B false]
 else
 (M_path_inside [I x0, I x1, I x2]).bind fun o10 =>
 bif !bA o10 0 then
 some [B false]
 else
 (N5 [I 0, I 0, .view kSgm x3, I (x3.length : Int), I 0, I x0, I x1, I x2, .view kSgm x3, .view kPt x4, I x0, I x1, I x2]).bind fun o11 =>
 bif o11.1.beq 1 then
 some [B (bA o11.2 0)]
 else
 bif o11.1.beq 2 then
 (N15 [jA o11.2 0, I 0, .view kPt (wA o11.2 5), I (↑(wA o11.2 5).length : Int), I 0]).bind fun o12 =>
 bif o12.1.beq 1 then
 some [B (bA o12.2 0)]
 else
 bif o12.1.beq 2 then
 some [B true]
 else
 none
 else
 none := by kernel_rfl
def l_path_Valid_5 := loopC (st_path_Valid_5 m_curve_Length m_path_inside )
def l_path_Valid_15 := loopC (st_path_Valid_15 m_curve_Length m_path_inside l_path_Valid_5)
def m_path_Valid := mf_path_Valid m_curve_Length m_path_inside l_path_Valid_5 l_path_Valid_15
theorem sp_path_Valid : SpecOK Tryz.prog (C_path_Valid_0 m_curve_Length m_path_inside) := specOK_of rfl ⟨r_curve_Length, r_path_inside, trivial⟩
theorem r_path_Valid : RowOK Tryz.prog (47, spOf sig_path_Valid osig_path_Valid m_path_Valid) := row_of (C := (C_path_Valid_2 m_curve_Length m_path_inside l_path_Valid_5 l_path_Valid_15)) (L := 64) (by kernel_rfl) (((FnOK.bare rfl rfl rfl).loop sp_path_Valid eqOk mixOk (by kernel_rfl) (by kernel_rfl)).loop sp_path_Valid eqOk mixOk (by kernel_rfl) (by kernel_rfl)) sp_path_Valid eqOk mixOk (by kernel_rfl) (by kernel_rfl)
def sig_cncref23_Motion : Sk := { tmps := [tf [ci]], boxes := [], rows := [] }
def osig_cncref23_Motion : Sk := { tmps := [tf [CS.bool]], boxes := [], rows := [] }
def C_cncref23_Motion_0 : Cfg := { spec := lookS [], eqOk := eqAll, ownOff := ownOff }
def mf_cncref23_Motion : Fn := modelF Tryz.prog C_cncref23_Motion_0 64 79 sig_cncref23_Motion osig_cncref23_Motion
theorem mf_cncref23_Motion_eq (x0 : Int) : mf_cncref23_Motion [I x0] =
 bif decide (x0 >= 1) then
 some [B (decide (x0 <= 6))]
 else
 some [B false] := by kernel_rfl
def m_cncref23_Motion := mf_cncref23_Motion 
theorem sp_cncref23_Motion : SpecOK Tryz.prog (C_cncref23_Motion_0 ) := specOK_of rfl trivial
theorem r_cncref23_Motion : RowOK Tryz.prog (79, spOf sig_cncref23_Motion osig_cncref23_Motion m_cncref23_Motion) := row_of (C := C_cncref23_Motion_0) (L := 64) (by kernel_rfl) (FnOK.bare rfl rfl rfl) sp_cncref23_Motion eqOk mixOk (by kernel_rfl) (by kernel_rfl)
def sig_cncref25_synchronized : Sk := { tmps := [TS.v true [ci, ci, ci, ci, ci, ci, ci, ci, ci, ci, ci, ci, ci, CS.bool, ci, CS.bool, ci, ci, ci, ci, ci, CS.bool]], boxes := [], rows := [] }
def osig_cncref25_synchronized : Sk := { tmps := [tf [CS.bool]], boxes := [], rows := [] }
def C_cncref25_synchronized_0 : Cfg := { spec := lookS [], eqOk := eqAll, ownOff := ownOff }
def mf_cncref25_synchronized : Fn := modelF Tryz.prog C_cncref25_synchronized_0 64 83 sig_cncref25_synchronized osig_cncref25_synchronized
theorem mf_cncref25_synchronized_eq (x0 x1 x2 x3 x4 x5 x6 x7 x8 x9 x10 x11 x12 : Int) (x13 : Bool) (x14 : Int) (x15 : Bool) (x16 x17 x18 x19 x20 : Int) (x21 : Bool) : mf_cncref25_synchronized [I x0, I x1, I x2, I x3, I x4, I x5, I x6, I x7, I x8, I x9, I x10, I x11, I x12, B x13, I x14, B x15, I x16, I x17, I x18, I x19, I x20, B x21] =
 bif x0 == 5 then
 some [B true]
 else
 some [B (x0 == 6)] := by kernel_rfl
def m_cncref25_synchronized := mf_cncref25_synchronized 
theorem sp_cncref25_synchronized : SpecOK Tryz.prog (C_cncref25_synchronized_0 ) := specOK_of rfl trivial
theorem r_cncref25_synchronized : RowOK Tryz.prog (83, spOf sig_cncref25_synchronized osig_cncref25_synchronized m_cncref25_synchronized) := row_of (C := C_cncref25_synchronized_0) (L := 64) (by kernel_rfl) (FnOK.bare rfl rfl rfl) sp_cncref25_synchronized eqOk mixOk (by kernel_rfl) (by kernel_rfl)
def sig_cncref25_kind : Sk := { tmps := [tf [CS.sl kItm], tf [ci]], boxes := [], rows := [] }
def osig_cncref25_kind : Sk := { tmps := [tf [ci]], boxes := [], rows := [] }
def C_cncref25_kind_0 (M_cncref23_Motion M_cncref25_synchronized : Fn) : Cfg := { spec := lookS [(79, spOf sig_cncref23_Motion osig_cncref23_Motion M_cncref23_Motion), (83, spOf sig_cncref25_synchronized osig_cncref25_synchronized M_cncref25_synchronized)], eqOk := eqAll, ownOff := ownOff }
def sk_cncref25_kind_6 : Sk := { tmps := [tf [CS.sl kItm], td, td, td, td, tf [ci]] ++ dd 38, boxes := [], rows := [] }
def ex_cncref25_kind_6 : List (Ex × Sk) := [(Ex.ret, { tmps := [td, td, td, td, tf [ci]] ++ dd 39, boxes := [], rows := [] }), (Ex.exit 0, { tmps := [td] ++ dd 43, boxes := [], rows := [] })]
def st_cncref25_kind_6 (M_cncref23_Motion M_cncref25_synchronized : Fn) : Lp := stepL Tryz.prog (C_cncref25_kind_0 M_cncref23_Motion M_cncref25_synchronized) 64 6 (bodyOf Tryz.prog 87 6) sk_cncref25_kind_6 ex_cncref25_kind_6
def C_cncref25_kind_1 (M_cncref23_Motion M_cncref25_synchronized : Fn) (N6 : Lp) : Cfg := (C_cncref25_kind_0 M_cncref23_Motion M_cncref25_synchronized).loop 6 sk_cncref25_kind_6 ex_cncref25_kind_6 N6
def mf_cncref25_kind (M_cncref23_Motion M_cncref25_synchronized : Fn) (N6 : Lp) : Fn := modelF Tryz.prog (C_cncref25_kind_1 M_cncref23_Motion M_cncref25_synchronized N6) 64 87 sig_cncref25_kind osig_cncref25_kind
theorem st_cncref25_kind_6_eq (M_cncref23_Motion M_cncref25_synchronized : Fn) (v0 : Rw) (v1 : Int) : st_cncref25_kind_6 M_cncref23_Motion M_cncref25_synchronized [.view kItm v0, I v1] =
 bif decide (v1 < (v0.length : Int)) then
 bif decide (0 <= v1) && decide (v1 < (v0.length : Int)) then
 (M_cncref23_Motion [jA (nth [] v0 v1.toNat) 0]).bind fun o5 =>
 bif bA o5 0 then
 bif decide (0 <= v1) && decide (v1 < (v0.length : Int)) then
 (M_cncref25_synchronized [jA (nth [] v0 v1.toNat) 0, jA (nth [] v0 v1.toNat) 1, jA (nth [] v0 v1.toNat) 2, jA (nth [] v0 v1.toNat) 3, jA (nth [] v0 v1.toNat) 4, jA (nth [] v0 v1.toNat) 5, jA (nth [] v0 v1.toNat) 6, jA (nth [] v0 v1.toNat) 7, jA (nth [] v0 v1.toNat) 8, jA (nth [] v0 v1.toNat) 9, jA (nth [] v0 v1.toNat) 10, jA (nth [] v0 v1.toNat) 11, jA (nth [] v0 v1.toNat) 12, B (bA (nth [] v0 v1.toNat) 13), jA (nth [] v0 v1.toNat) 14, B (bA (nth [] v0 v1.toNat) 15), jA (nth [] v0 v1.toNat) 16, jA (nth [] v0 v1.toNat) 17, jA (nth [] v0 v1.toNat) 18, jA (nth [] v0 v1.toNat) 19, jA (nth [] v0 v1.toNat) 20, B (bA (nth [] v0 v1.toNat) 21)]).bind fun o6 =>
 bif bA o6 0 then
 some (1, [I 1])
 else
 some (2, [])
 else
 none
 else
 some (0, [.view kItm v0, I (IntKind.i64.wrap (v1 + 1))])
 else
 none
 else
 some (2, []) := by kernel_rfl
theorem mf_cncref25_kind_eq (M_cncref23_Motion M_cncref25_synchronized : Fn) (N6 : Lp) (x0 : Rw) (x1 : Int) : mf_cncref25_kind M_cncref23_Motion M_cncref25_synchronized N6 [.view kItm x0, I x1] =
 bif decide (0 <= x1) && decide (x1 < (x0.length : Int)) then
 bif gA (nth [] x0 x1.toNat) 0 == 4 then
 some [I 6]
 else
 bif decide (0 <= x1) && decide (x1 < (x0.length : Int)) then
 bif gA (nth [] x0 x1.toNat) 18 == 0 then
 some [I 1]
 else
 bif decide (0 <= x1) && decide (x1 < (x0.length : Int)) then
 (M_cncref25_synchronized [jA (nth [] x0 x1.toNat) 0, jA (nth [] x0 x1.toNat) 1, jA (nth [] x0 x1.toNat) 2, jA (nth [] x0 x1.toNat) 3, jA (nth [] x0 x1.toNat) 4, jA (nth [] x0 x1.toNat) 5, jA (nth [] x0 x1.toNat) 6, jA (nth [] x0 x1.toNat) 7, jA (nth [] x0 x1.toNat) 8, jA (nth [] x0 x1.toNat) 9, jA (nth [] x0 x1.toNat) 10, jA (nth [] x0 x1.toNat) 11, jA (nth [] x0 x1.toNat) 12, B (bA (nth [] x0 x1.toNat) 13), jA (nth [] x0 x1.toNat) 14, B (bA (nth [] x0 x1.toNat) 15), jA (nth [] x0 x1.toNat) 16, jA (nth [] x0 x1.toNat) 17, jA (nth [] x0 x1.toNat) 18, jA (nth [] x0 x1.toNat) 19, jA (nth [] x0 x1.toNat) 20, B (bA (nth [] x0 x1.toNat) 21)]).bind fun o7 =>
 bif bA o7 0 then
 some [I 1]
 else
 (N6 [.view kItm x0, I (IntKind.i64.wrap (x1 + 1))]).bind fun o8 =>
 bif o8.1.beq 1 then
 some [jA o8.2 0]
 else
 bif o8.1.beq 2 then
 some [I 2]
 else
 none
 else
 none
 else
 none
 else
 none := by kernel_rfl
def l_cncref25_kind_6 := loopC (st_cncref25_kind_6 m_cncref23_Motion m_cncref25_synchronized )
def m_cncref25_kind := mf_cncref25_kind m_cncref23_Motion m_cncref25_synchronized l_cncref25_kind_6
theorem sp_cncref25_kind : SpecOK Tryz.prog (C_cncref25_kind_0 m_cncref23_Motion m_cncref25_synchronized) := specOK_of rfl ⟨r_cncref23_Motion, r_cncref25_synchronized, trivial⟩
theorem r_cncref25_kind : RowOK Tryz.prog (87, spOf sig_cncref25_kind osig_cncref25_kind m_cncref25_kind) := row_of (C := (C_cncref25_kind_1 m_cncref23_Motion m_cncref25_synchronized l_cncref25_kind_6)) (L := 64) (by kernel_rfl) ((FnOK.bare rfl rfl rfl).loop sp_cncref25_kind eqOk mixOk (by kernel_rfl) (by kernel_rfl)) sp_cncref25_kind eqOk mixOk (by kernel_rfl) (by kernel_rfl)
def sig_cncref25_Smooth : Sk := { tmps := [TS.v true [ci, ci, ci, ci, ci, ci, ci, ci, ci, ci, ci, ci, ci, CS.bool, ci, CS.bool, ci, ci, ci, ci, ci, CS.bool]], boxes := [], rows := [] }
def osig_cncref25_Smooth : Sk := { tmps := [tf [CS.bool]], boxes := [], rows := [] }
def C_cncref25_Smooth_0 : Cfg := { spec := lookS [], eqOk := eqAll, ownOff := ownOff }
def mf_cncref25_Smooth : Fn := modelF Tryz.prog C_cncref25_Smooth_0 64 89 sig_cncref25_Smooth osig_cncref25_Smooth
theorem mf_cncref25_Smooth_eq (x0 x1 x2 x3 x4 x5 x6 x7 x8 x9 x10 x11 x12 : Int) (x13 : Bool) (x14 : Int) (x15 : Bool) (x16 x17 x18 x19 x20 : Int) (x21 : Bool) : mf_cncref25_Smooth [I x0, I x1, I x2, I x3, I x4, I x5, I x6, I x7, I x8, I x9, I x10, I x11, I x12, B x13, I x14, B x15, I x16, I x17, I x18, I x19, I x20, B x21] =
 bif x0 == 2 then
 some [B !(x2 == x5 && (x3 == x6 && (x4 == x7 && true)))]
 else
 some [B false] := by kernel_rfl
def m_cncref25_Smooth := mf_cncref25_Smooth 
theorem sp_cncref25_Smooth : SpecOK Tryz.prog (C_cncref25_Smooth_0 ) := specOK_of rfl trivial
theorem r_cncref25_Smooth : RowOK Tryz.prog (89, spOf sig_cncref25_Smooth osig_cncref25_Smooth m_cncref25_Smooth) := row_of (C := C_cncref25_Smooth_0) (L := 64) (by kernel_rfl) (FnOK.bare rfl rfl rfl) sp_cncref25_Smooth eqOk mixOk (by kernel_rfl) (by kernel_rfl)
def sig_cncref25_Soft : Sk := { tmps := [tf [CS.sl kItm], tf [ci]], boxes := [], rows := [] }
def osig_cncref25_Soft : Sk := { tmps := [tf [ci]], boxes := [], rows := [] }
def C_cncref25_Soft_0 (M_cncref25_Smooth : Fn) : Cfg := { spec := lookS [(89, spOf sig_cncref25_Smooth osig_cncref25_Smooth M_cncref25_Smooth)], eqOk := eqAll, ownOff := ownOff }
def sk_cncref25_Soft_4 : Sk := { tmps := [tf [CS.sl kItm], td, td, td, td, tf [ci]] ++ dd 34, boxes := [], rows := [] }
def ex_cncref25_Soft_4 : List (Ex × Sk) := [(Ex.ret, { tmps := [td, td, td, td, tf [ci]] ++ dd 35, boxes := [], rows := [] }), (Ex.exit 0, { tmps := [td] ++ dd 39, boxes := [], rows := [] })]
def st_cncref25_Soft_4 (M_cncref25_Smooth : Fn) : Lp := stepL Tryz.prog (C_cncref25_Soft_0 M_cncref25_Smooth) 64 4 (bodyOf Tryz.prog 86 4) sk_cncref25_Soft_4 ex_cncref25_Soft_4
def C_cncref25_Soft_1 (M_cncref25_Smooth : Fn) (N4 : Lp) : Cfg := (C_cncref25_Soft_0 M_cncref25_Smooth).loop 4 sk_cncref25_Soft_4 ex_cncref25_Soft_4 N4
def mf_cncref25_Soft (M_cncref25_Smooth : Fn) (N4 : Lp) : Fn := modelF Tryz.prog (C_cncref25_Soft_1 M_cncref25_Smooth N4) 64 86 sig_cncref25_Soft osig_cncref25_Soft
theorem st_cncref25_Soft_4_eq (M_cncref25_Smooth : Fn) (v0 : Rw) (v1 : Int) : st_cncref25_Soft_4 M_cncref25_Smooth [.view kItm v0, I v1] =
 bif decide (v1 < (v0.length : Int)) then
 bif decide (0 <= v1) && decide (v1 < (v0.length : Int)) then
 bif gA (nth [] v0 v1.toNat) 0 == 10 then
 some (0, [.view kItm v0, I (IntKind.i64.wrap (v1 + 1))])
 else
 bif decide (0 <= v1) && decide (v1 < (v0.length : Int)) then
 (M_cncref25_Smooth [jA (nth [] v0 v1.toNat) 0, jA (nth [] v0 v1.toNat) 1, jA (nth [] v0 v1.toNat) 2, jA (nth [] v0 v1.toNat) 3, jA (nth [] v0 v1.toNat) 4, jA (nth [] v0 v1.toNat) 5, jA (nth [] v0 v1.toNat) 6, jA (nth [] v0 v1.toNat) 7, jA (nth [] v0 v1.toNat) 8, jA (nth [] v0 v1.toNat) 9, jA (nth [] v0 v1.toNat) 10, jA (nth [] v0 v1.toNat) 11, jA (nth [] v0 v1.toNat) 12, B (bA (nth [] v0 v1.toNat) 13), jA (nth [] v0 v1.toNat) 14, B (bA (nth [] v0 v1.toNat) 15), jA (nth [] v0 v1.toNat) 16, jA (nth [] v0 v1.toNat) 17, jA (nth [] v0 v1.toNat) 18, jA (nth [] v0 v1.toNat) 19, jA (nth [] v0 v1.toNat) 20, B (bA (nth [] v0 v1.toNat) 21)]).bind fun o4 =>
 bif bA o4 0 then
 some (1, [I v1])
 else
 some (1, [I (-1)])
 else
 none
 else
 none
 else
 some (2, []) := by kernel_rfl
theorem mf_cncref25_Soft_eq (M_cncref25_Smooth : Fn) (N4 : Lp) (x0 : Rw) (x1 : Int) : mf_cncref25_Soft M_cncref25_Smooth N4 [.view kItm x0, I x1] =
 bif decide (0 <= x1) && decide (x1 < (x0.length : Int)) then
 (M_cncref25_Smooth [jA (nth [] x0 x1.toNat) 0, jA (nth [] x0 x1.toNat) 1, jA (nth [] x0 x1.toNat) 2, jA (nth [] x0 x1.toNat) 3, jA (nth [] x0 x1.toNat) 4, jA (nth [] x0 x1.toNat) 5, jA (nth [] x0 x1.toNat) 6, jA (nth [] x0 x1.toNat) 7, jA (nth [] x0 x1.toNat) 8, jA (nth [] x0 x1.toNat) 9, jA (nth [] x0 x1.toNat) 10, jA (nth [] x0 x1.toNat) 11, jA (nth [] x0 x1.toNat) 12, B (bA (nth [] x0 x1.toNat) 13), jA (nth [] x0 x1.toNat) 14, B (bA (nth [] x0 x1.toNat) 15), jA (nth [] x0 x1.toNat) 16, jA (nth [] x0 x1.toNat) 17, jA (nth [] x0 x1.toNat) 18, jA (nth [] x0 x1.toNat) 19, jA (nth [] x0 x1.toNat) 20, B (bA (nth [] x0 x1.toNat) 21)]).bind fun o5 =>
 bif !bA o5 0 then
 some [I (-1)]
 else
 bif decide (0 <= x1) && decide (x1 < (x0.length : Int)) then
 bif gA (nth [] x0 x1.toNat) 18 == 0 then
 some [I (-1)]
 else
 (N4 [.view kItm x0, I (IntKind.i64.wrap (x1 + 1))]).bind fun o6 =>
 bif o6.1.beq 1 then
 some [jA o6.2 0]
 else
 bif o6.1.beq 2 then
 some [I (-1)]
 else
 none
 else
 none
 else
 none := by kernel_rfl
def l_cncref25_Soft_4 := loopC (st_cncref25_Soft_4 m_cncref25_Smooth )
def m_cncref25_Soft := mf_cncref25_Soft m_cncref25_Smooth l_cncref25_Soft_4
theorem sp_cncref25_Soft : SpecOK Tryz.prog (C_cncref25_Soft_0 m_cncref25_Smooth) := specOK_of rfl ⟨r_cncref25_Smooth, trivial⟩
theorem r_cncref25_Soft : RowOK Tryz.prog (86, spOf sig_cncref25_Soft osig_cncref25_Soft m_cncref25_Soft) := row_of (C := (C_cncref25_Soft_1 m_cncref25_Smooth l_cncref25_Soft_4)) (L := 64) (by kernel_rfl) ((FnOK.bare rfl rfl rfl).loop sp_cncref25_Soft eqOk mixOk (by kernel_rfl) (by kernel_rfl)) sp_cncref25_Soft eqOk mixOk (by kernel_rfl) (by kernel_rfl)
def sig_cncref25_Center : Sk := { tmps := [TS.v true [ci, ci, ci, ci, ci, ci, ci, ci, ci, ci, ci, ci, ci, CS.bool, ci, CS.bool, ci, ci, ci, ci, ci, CS.bool]], boxes := [], rows := [] }
def osig_cncref25_Center : Sk := { tmps := [TS.v true [ci, ci, ci]], boxes := [], rows := [] }
def C_cncref25_Center_0 : Cfg := { spec := lookS [], eqOk := eqAll, ownOff := ownOff }
def mf_cncref25_Center : Fn := modelF Tryz.prog C_cncref25_Center_0 64 90 sig_cncref25_Center osig_cncref25_Center
theorem mf_cncref25_Center_eq (x0 x1 x2 x3 x4 x5 x6 x7 x8 x9 x10 x11 x12 : Int) (x13 : Bool) (x14 : Int) (x15 : Bool) (x16 x17 x18 x19 x20 : Int) (x21 : Bool) : mf_cncref25_Center [I x0, I x1, I x2, I x3, I x4, I x5, I x6, I x7, I x8, I x9, I x10, I x11, I x12, B x13, I x14, B x15, I x16, I x17, I x18, I x19, I x20, B x21] =
 some [I (IntKind.i64.wrap (IntKind.i64.wrap (x2 + x5) * 8)), I (IntKind.i64.wrap (IntKind.i64.wrap (x3 + x6) * 8)), I (IntKind.i64.wrap (IntKind.i64.wrap (x4 + x7) * 8))] := by kernel_rfl
def m_cncref25_Center := mf_cncref25_Center 
theorem sp_cncref25_Center : SpecOK Tryz.prog (C_cncref25_Center_0 ) := specOK_of rfl trivial
theorem r_cncref25_Center : RowOK Tryz.prog (90, spOf sig_cncref25_Center osig_cncref25_Center m_cncref25_Center) := row_of (C := C_cncref25_Center_0) (L := 64) (by kernel_rfl) (FnOK.bare rfl rfl rfl) sp_cncref25_Center eqOk mixOk (by kernel_rfl) (by kernel_rfl)
def sig_cncref24_Rounded : Sk := { tmps := [tf [ci], tf [ci]], boxes := [], rows := [] }
def osig_cncref24_Rounded : Sk := { tmps := [tf [ci]], boxes := [], rows := [] }
def C_cncref24_Rounded_0 : Cfg := { spec := lookS [], eqOk := eqAll, ownOff := ownOff }
def mf_cncref24_Rounded : Fn := modelF Tryz.prog C_cncref24_Rounded_0 64 72 sig_cncref24_Rounded osig_cncref24_Rounded
theorem mf_cncref24_Rounded_eq (x0 x1 : Int) : mf_cncref24_Rounded [I x0, I x1] =
 bif decide (IntKind.i64.wrap (2 * x1) = 0) then
 none
 else
 bif decide (IntKind.i64.wrap (2 * x1) = 0) then
 none
 else
 bif decide ((IntKind.i64.wrap (IntKind.i64.wrap (2 * x0) + x1)).tmod (IntKind.i64.wrap (2 * x1)) < 0) then
 some [I (IntKind.i64.wrap (IntKind.i64.wrap ((IntKind.i64.wrap (IntKind.i64.wrap (2 * x0) + x1)).tdiv (IntKind.i64.wrap (2 * x1))) - 1))]
 else
 some [I (IntKind.i64.wrap ((IntKind.i64.wrap (IntKind.i64.wrap (2 * x0) + x1)).tdiv (IntKind.i64.wrap (2 * x1))))] := by kernel_rfl
def m_cncref24_Rounded := mf_cncref24_Rounded 
theorem sp_cncref24_Rounded : SpecOK Tryz.prog (C_cncref24_Rounded_0 ) := specOK_of rfl trivial
theorem r_cncref24_Rounded : RowOK Tryz.prog (72, spOf sig_cncref24_Rounded osig_cncref24_Rounded m_cncref24_Rounded) := row_of (C := C_cncref24_Rounded_0) (L := 64) (by kernel_rfl) (FnOK.bare rfl rfl rfl) sp_cncref24_Rounded eqOk mixOk (by kernel_rfl) (by kernel_rfl)
def sig_cncref24_Add : Sk := { tmps := [TS.v true [ci, ci, ci], TS.v true [ci, ci, ci]], boxes := [], rows := [] }
def osig_cncref24_Add : Sk := { tmps := [TS.v true [ci, ci, ci]], boxes := [], rows := [] }
def C_cncref24_Add_0 : Cfg := { spec := lookS [], eqOk := eqAll, ownOff := ownOff }
def mf_cncref24_Add : Fn := modelF Tryz.prog C_cncref24_Add_0 64 185 sig_cncref24_Add osig_cncref24_Add
theorem mf_cncref24_Add_eq (x0 x1 x2 x3 x4 x5 : Int) : mf_cncref24_Add [I x0, I x1, I x2, I x3, I x4, I x5] =
 some [I (IntKind.i64.wrap (x0 + x3)), I (IntKind.i64.wrap (x1 + x4)), I (IntKind.i64.wrap (x2 + x5))] := by kernel_rfl
def m_cncref24_Add := mf_cncref24_Add 
theorem sp_cncref24_Add : SpecOK Tryz.prog (C_cncref24_Add_0 ) := specOK_of rfl trivial
theorem r_cncref24_Add : RowOK Tryz.prog (185, spOf sig_cncref24_Add osig_cncref24_Add m_cncref24_Add) := row_of (C := C_cncref24_Add_0) (L := 64) (by kernel_rfl) (FnOK.bare rfl rfl rfl) sp_cncref24_Add eqOk mixOk (by kernel_rfl) (by kernel_rfl)
def sig_cncref24_Minus : Sk := { tmps := [TS.v true [ci, ci, ci], TS.v true [ci, ci, ci]], boxes := [], rows := [] }
def osig_cncref24_Minus : Sk := { tmps := [TS.v true [ci, ci, ci]], boxes := [], rows := [] }
def C_cncref24_Minus_0 : Cfg := { spec := lookS [], eqOk := eqAll, ownOff := ownOff }
def mf_cncref24_Minus : Fn := modelF Tryz.prog C_cncref24_Minus_0 64 186 sig_cncref24_Minus osig_cncref24_Minus
theorem mf_cncref24_Minus_eq (x0 x1 x2 x3 x4 x5 : Int) : mf_cncref24_Minus [I x0, I x1, I x2, I x3, I x4, I x5] =
 some [I (IntKind.i64.wrap (x0 - x3)), I (IntKind.i64.wrap (x1 - x4)), I (IntKind.i64.wrap (x2 - x5))] := by kernel_rfl
def m_cncref24_Minus := mf_cncref24_Minus 
theorem sp_cncref24_Minus : SpecOK Tryz.prog (C_cncref24_Minus_0 ) := specOK_of rfl trivial
theorem r_cncref24_Minus : RowOK Tryz.prog (186, spOf sig_cncref24_Minus osig_cncref24_Minus m_cncref24_Minus) := row_of (C := C_cncref24_Minus_0) (L := 64) (by kernel_rfl) (FnOK.bare rfl rfl rfl) sp_cncref24_Minus eqOk mixOk (by kernel_rfl) (by kernel_rfl)
def sig_cncref24_Bend : Sk := { tmps := [TS.v true [ci, ci, ci], TS.v true [ci, ci, ci], TS.v true [ci, ci, ci]], boxes := [], rows := [] }
def osig_cncref24_Bend : Sk := { tmps := [tf [ci]], boxes := [], rows := [] }
def C_cncref24_Bend_0 (M_cncref23_Square M_cncref24_Add M_cncref24_Minus : Fn) : Cfg := { spec := lookS [(116, spOf sig_cncref23_Square osig_cncref23_Square M_cncref23_Square), (185, spOf sig_cncref24_Add osig_cncref24_Add M_cncref24_Add), (186, spOf sig_cncref24_Minus osig_cncref24_Minus M_cncref24_Minus)], eqOk := eqAll, ownOff := ownOff }
def mf_cncref24_Bend (M_cncref23_Square M_cncref24_Add M_cncref24_Minus : Fn) : Fn := modelF Tryz.prog (C_cncref24_Bend_0 M_cncref23_Square M_cncref24_Add M_cncref24_Minus) 64 173 sig_cncref24_Bend osig_cncref24_Bend
theorem mf_cncref24_Bend_eq (M_cncref23_Square M_cncref24_Add M_cncref24_Minus : Fn) (x0 x1 x2 x3 x4 x5 x6 x7 x8 : Int) : mf_cncref24_Bend M_cncref23_Square M_cncref24_Add M_cncref24_Minus [I x0, I x1, I x2, I x3, I x4, I x5, I x6, I x7, I x8] =
 (M_cncref24_Minus [I x0, I x1, I x2, I x3, I x4, I x5]).bind fun o4 =>
 (M_cncref24_Minus [I x6, I x7, I x8, I x3, I x4, I x5]).bind fun o5 =>
 (M_cncref24_Add [jA o4 0, jA o4 1, jA o4 2, jA o5 0, jA o5 1, jA o5 2]).bind fun o6 =>
 (M_cncref23_Square [jA o6 0, jA o6 1, jA o6 2, I 0, I 0, I 0]).bind fun o7 =>
 some [jA o7 0] := by kernel_rfl
def m_cncref24_Bend := mf_cncref24_Bend m_cncref23_Square m_cncref24_Add m_cncref24_Minus 
theorem sp_cncref24_Bend : SpecOK Tryz.prog (C_cncref24_Bend_0 m_cncref23_Square m_cncref24_Add m_cncref24_Minus) := specOK_of rfl ⟨r_cncref23_Square, r_cncref24_Add, r_cncref24_Minus, trivial⟩
theorem r_cncref24_Bend : RowOK Tryz.prog (173, spOf sig_cncref24_Bend osig_cncref24_Bend m_cncref24_Bend) := row_of (C := (C_cncref24_Bend_0 m_cncref23_Square m_cncref24_Add m_cncref24_Minus)) (L := 64) (by kernel_rfl) (FnOK.bare rfl rfl rfl) sp_cncref24_Bend eqOk mixOk (by kernel_rfl) (by kernel_rfl)
def sig_cncref24_Pieces : Sk := { tmps := [TS.v true [ci, ci, ci], TS.v true [ci, ci, ci], TS.v true [ci, ci, ci]], boxes := [], rows := [] }
def osig_cncref24_Pieces : Sk := { tmps := [tf [ci]], boxes := [], rows := [] }
def C_cncref24_Pieces_0 (M_cncref24_Bend : Fn) : Cfg := { spec := lookS [(173, spOf sig_cncref24_Bend osig_cncref24_Bend M_cncref24_Bend)], eqOk := eqAll, ownOff := ownOff }
def sk_cncref24_Pieces_2 : Sk := { tmps := [td, td, td, tf [CS.ptr 3 0], tf [CS.ptr 4 0], tf [CS.ptr 5 0], td, tf [ci]] ++ dd 22, boxes := [(3, 25, [ci, ci, ci]), (4, 25, [ci, ci, ci]), (5, 25, [ci, ci, ci])], rows := [] }
def ex_cncref24_Pieces_2 : List (Ex × Sk) := [(Ex.exit 0, { tmps := [td, td, td, td, td, td, td, tf [ci]] ++ dd 22, boxes := [], rows := [] })]
def st_cncref24_Pieces_2 (M_cncref24_Bend : Fn) : Lp := stepL Tryz.prog (C_cncref24_Pieces_0 M_cncref24_Bend) 64 2 (bodyOf Tryz.prog 155 2) sk_cncref24_Pieces_2 ex_cncref24_Pieces_2
def C_cncref24_Pieces_1 (M_cncref24_Bend : Fn) (N2 : Lp) : Cfg := (C_cncref24_Pieces_0 M_cncref24_Bend).loop 2 sk_cncref24_Pieces_2 ex_cncref24_Pieces_2 N2
def mf_cncref24_Pieces (M_cncref24_Bend : Fn) (N2 : Lp) : Fn := modelF Tryz.prog (C_cncref24_Pieces_1 M_cncref24_Bend N2) 64 155 sig_cncref24_Pieces osig_cncref24_Pieces
theorem st_cncref24_Pieces_2_eq (M_cncref24_Bend : Fn) (v0 v1 v2 v3 v4 v5 v6 v7 v8 v9 : Int) : st_cncref24_Pieces_2 M_cncref24_Bend [I v0, I v1, I v2, I v3, I v4, I v5, I v6, I v7, I v8, I v9] =
 bif decide (v0 < 64) then
 (M_cncref24_Bend [I v1, I v2, I v3, I v4, I v5, I v6, I v7, I v8, I v9]).bind fun o2 =>
 bif decide (gA o2 0 > IntKind.i64.wrap (IntKind.i64.wrap (IntKind.i64.wrap (IntKind.i64.wrap (IntKind.i64.wrap (IntKind.i64.wrap (16 * v0) * v0) * v0) * v0) * 4) * 4)) then
 some (0, [I (IntKind.i64.wrap (v0 * 2)), I v1, I v2, I v3, I v4, I v5, I v6, I v7, I v8, I v9])
 else
 some (1, [I v0])
 else
 some (1, [I v0]) := by kernel_rfl
theorem mf_cncref24_Pieces_eq (M_cncref24_Bend : Fn) (N2 : Lp) (x0 x1 x2 x3 x4 x5 x6 x7 x8 : Int) : mf_cncref24_Pieces M_cncref24_Bend N2 [I x0, I x1, I x2, I x3, I x4, I x5, I x6, I x7, I x8] =
 (N2 [I 2, I x0, I x1, I x2, I x3, I x4, I x5, I x6, I x7, I x8]).bind fun o3 =>
 bif o3.1.beq 1 then
 some [jA o3.2 0]
 else
 none := by kernel_rfl
def l_cncref24_Pieces_2 := loopC (st_cncref24_Pieces_2 m_cncref24_Bend )
def m_cncref24_Pieces := mf_cncref24_Pieces m_cncref24_Bend l_cncref24_Pieces_2
theorem sp_cncref24_Pieces : SpecOK Tryz.prog (C_cncref24_Pieces_0 m_cncref24_Bend) := specOK_of rfl ⟨r_cncref24_Bend, trivial⟩
theorem r_cncref24_Pieces : RowOK Tryz.prog (155, spOf sig_cncref24_Pieces osig_cncref24_Pieces m_cncref24_Pieces) := row_of (C := (C_cncref24_Pieces_1 m_cncref24_Bend l_cncref24_Pieces_2)) (L := 64) (by kernel_rfl) ((FnOK.bare rfl rfl rfl).loop sp_cncref24_Pieces eqOk mixOk (by kernel_rfl) (by kernel_rfl)) sp_cncref24_Pieces eqOk mixOk (by kernel_rfl) (by kernel_rfl)
def sig_cncref23_product : Sk := { tmps := [tf [CS.int .u64], tf [CS.int .u64]], boxes := [], rows := [] }
def osig_cncref23_product : Sk := { tmps := [TS.tup [(false, [CS.int .u64]), (false, [CS.int .u64])]], boxes := [], rows := [] }
def C_cncref23_product_0 : Cfg := { spec := lookS [], eqOk := eqAll, ownOff := ownOff }
def mf_cncref23_product : Fn := modelF Tryz.prog C_cncref23_product_0 64 192 sig_cncref23_product osig_cncref23_product
theorem mf_cncref23_product_eq (x0 x1 : Int) : mf_cncref23_product [U x0, U x1] =
 some [U (IntKind.u64.wrap (IntKind.u64.wrap (IntKind.u64.wrap (x0.fdiv (2 ^ min (Int.toNat 32) IntKind.u64.bits) * x1.fdiv (2 ^ min (Int.toNat 32) IntKind.u64.bits)) + (IntKind.u64.wrap (IntKind.u64.wrap (x0.fdiv (2 ^ min (Int.toNat 32) IntKind.u64.bits) * IntKind.u64.wrap (↑(BitVec.ofInt IntKind.u64.bits x1 &&& BitVec.ofInt IntKind.u64.bits 4294967295).toNat : Int)) + (IntKind.u64.wrap (IntKind.u64.wrap (↑(BitVec.ofInt IntKind.u64.bits x0 &&& BitVec.ofInt IntKind.u64.bits 4294967295).toNat : Int) * IntKind.u64.wrap (↑(BitVec.ofInt IntKind.u64.bits x1 &&& BitVec.ofInt IntKind.u64.bits 4294967295).toNat : Int))).fdiv (2 ^ min (Int.toNat 32) IntKind.u64.bits))).fdiv (2 ^ min (Int.toNat 32) IntKind.u64.bits)) + (IntKind.u64.wrap (IntKind.u64.wrap (IntKind.u64.wrap (↑(BitVec.ofInt IntKind.u64.bits x0 &&& BitVec.ofInt IntKind.u64.bits 4294967295).toNat : Int) * x1.fdiv (2 ^ min (Int.toNat 32) IntKind.u64.bits)) + IntKind.u64.wrap (↑(BitVec.ofInt IntKind.u64.bits (IntKind.u64.wrap (IntKind.u64.wrap (x0.fdiv (2 ^ min (Int.toNat 32) IntKind.u64.bits) * IntKind.u64.wrap (↑(BitVec.ofInt IntKind.u64.bits x1 &&& BitVec.ofInt IntKind.u64.bits 4294967295).toNat : Int)) + (IntKind.u64.wrap (IntKind.u64.wrap (↑(BitVec.ofInt IntKind.u64.bits x0 &&& BitVec.ofInt IntKind.u64.bits 4294967295).toNat : Int) * IntKind.u64.wrap (↑(BitVec.ofInt IntKind.u64.bits x1 &&& BitVec.ofInt IntKind.u64.bits 4294967295).toNat : Int))).fdiv (2 ^ min (Int.toNat 32) IntKind.u64.bits))) &&& BitVec.ofInt IntKind.u64.bits 4294967295).toNat : Int))).fdiv (2 ^ min (Int.toNat 32) IntKind.u64.bits))), U (IntKind.u64.wrap (↑(BitVec.ofInt IntKind.u64.bits (IntKind.u64.wrap (IntKind.u64.wrap (IntKind.u64.wrap (IntKind.u64.wrap (↑(BitVec.ofInt IntKind.u64.bits x0 &&& BitVec.ofInt IntKind.u64.bits 4294967295).toNat : Int) * x1.fdiv (2 ^ min (Int.toNat 32) IntKind.u64.bits)) + IntKind.u64.wrap (↑(BitVec.ofInt IntKind.u64.bits (IntKind.u64.wrap (IntKind.u64.wrap (x0.fdiv (2 ^ min (Int.toNat 32) IntKind.u64.bits) * IntKind.u64.wrap (↑(BitVec.ofInt IntKind.u64.bits x1 &&& BitVec.ofInt IntKind.u64.bits 4294967295).toNat : Int)) + (IntKind.u64.wrap (IntKind.u64.wrap (↑(BitVec.ofInt IntKind.u64.bits x0 &&& BitVec.ofInt IntKind.u64.bits 4294967295).toNat : Int) * IntKind.u64.wrap (↑(BitVec.ofInt IntKind.u64.bits x1 &&& BitVec.ofInt IntKind.u64.bits 4294967295).toNat : Int))).fdiv (2 ^ min (Int.toNat 32) IntKind.u64.bits))) &&& BitVec.ofInt IntKind.u64.bits 4294967295).toNat : Int)) * 2 ^ min (Int.toNat 32) IntKind.u64.bits)) ||| BitVec.ofInt IntKind.u64.bits (IntKind.u64.wrap (↑(BitVec.ofInt IntKind.u64.bits (IntKind.u64.wrap (IntKind.u64.wrap (↑(BitVec.ofInt IntKind.u64.bits x0 &&& BitVec.ofInt IntKind.u64.bits 4294967295).toNat : Int) * IntKind.u64.wrap (↑(BitVec.ofInt IntKind.u64.bits x1 &&& BitVec.ofInt IntKind.u64.bits 4294967295).toNat : Int))) &&& BitVec.ofInt IntKind.u64.bits 4294967295).toNat : Int))).toNat : Int))] := by kernel_rfl
def m_cncref23_product := mf_cncref23_product 
theorem sp_cncref23_product : SpecOK Tryz.prog (C_cncref23_product_0 ) := specOK_of rfl trivial
theorem r_cncref23_product : RowOK Tryz.prog (192, spOf sig_cncref23_product osig_cncref23_product m_cncref23_product) := row_of (C := C_cncref23_product_0) (L := 64) (by kernel_rfl) (FnOK.bare rfl rfl rfl) sp_cncref23_product eqOk mixOk (by kernel_rfl) (by kernel_rfl)
def sig_cncref23_most : Sk := { tmps := [tf [CS.int .u64], tf [CS.int .u64], tf [CS.int .u64], tf [CS.int .u64], tf [CS.bool]], boxes := [], rows := [] }
def osig_cncref23_most : Sk := { tmps := [tf [CS.bool]], boxes := [], rows := [] }
def C_cncref23_most_0 (M_cncref23_product : Fn) : Cfg := { spec := lookS [(192, spOf sig_cncref23_product osig_cncref23_product M_cncref23_product)], eqOk := eqAll, ownOff := ownOff }
def mf_cncref23_most (M_cncref23_product : Fn) : Fn := modelF Tryz.prog (C_cncref23_most_0 M_cncref23_product) 64 184 sig_cncref23_most osig_cncref23_most
theorem mf_cncref23_most_eq (M_cncref23_product : Fn) (x0 x1 x2 x3 : Int) (x4 : Bool) : mf_cncref23_most M_cncref23_product [U x0, U x1, U x2, U x3, B x4] =
 (M_cncref23_product [U x0, U x1]).bind fun o2 =>
 (M_cncref23_product [U x2, U x3]).bind fun o3 =>
 bif decide (gA o2 0 < gA o3 0) then
 some [B true]
 else
 bif gA o2 0 == gA o3 0 then
 bif decide (gA o2 1 < gA o3 1) then
 some [B true]
 else
 bif gA o2 1 == gA o3 1 then
 some [B !x4]
 else
 some [B false]
 else
 some [B false] := by kernel_rfl
def m_cncref23_most := mf_cncref23_most m_cncref23_product 
theorem sp_cncref23_most : SpecOK Tryz.prog (C_cncref23_most_0 m_cncref23_product) := specOK_of rfl ⟨r_cncref23_product, trivial⟩
theorem r_cncref23_most : RowOK Tryz.prog (184, spOf sig_cncref23_most osig_cncref23_most m_cncref23_most) := row_of (C := (C_cncref23_most_0 m_cncref23_product)) (L := 64) (by kernel_rfl) (FnOK.bare rfl rfl rfl) sp_cncref23_most eqOk mixOk (by kernel_rfl) (by kernel_rfl)
def sig_cncref23_Near : Sk := { tmps := [tf [ci], tf [ci], tf [ci]], boxes := [], rows := [] }
def osig_cncref23_Near : Sk := { tmps := [tf [ci]], boxes := [], rows := [] }
def C_cncref23_Near_0 (M_cncref23_most : Fn) : Cfg := { spec := lookS [(184, spOf sig_cncref23_most osig_cncref23_most M_cncref23_most)], eqOk := eqAll, ownOff := ownOff }
def sk_cncref23_Near_3 : Sk := { tmps := [tf [ci], td, td, td, td, td, td, tf [CS.int .u64], tf [CS.int .u64], tf [CS.int .u64], tf [CS.int .u64]] ++ dd 51, boxes := [], rows := [] }
def ex_cncref23_Near_3 : List (Ex × Sk) := [(Ex.exit 0, { tmps := [tf [ci], td, td, td, td, td, td, tf [CS.int .u64], tf [CS.int .u64], tf [CS.int .u64]] ++ dd 52, boxes := [], rows := [] })]
def st_cncref23_Near_3 (M_cncref23_most : Fn) : Lp := stepL Tryz.prog (C_cncref23_Near_0 M_cncref23_most) 64 3 (bodyOf Tryz.prog 172 3) sk_cncref23_Near_3 ex_cncref23_Near_3
def C_cncref23_Near_1 (M_cncref23_most : Fn) (N3 : Lp) : Cfg := (C_cncref23_Near_0 M_cncref23_most).loop 3 sk_cncref23_Near_3 ex_cncref23_Near_3 N3
def mf_cncref23_Near (M_cncref23_most : Fn) (N3 : Lp) : Fn := modelF Tryz.prog (C_cncref23_Near_1 M_cncref23_most N3) 64 172 sig_cncref23_Near osig_cncref23_Near
theorem st_cncref23_Near_3_eq (M_cncref23_most : Fn) (v0 v1 v2 v3 v4 : Int) : st_cncref23_Near_3 M_cncref23_most [I v0, U v1, U v2, U v3, U v4] =
 bif decide (v4 > 0) then
 (M_cncref23_most [U (IntKind.u64.wrap (IntKind.u64.wrap (v3 + v4) * IntKind.u64.wrap (v3 + v4))), U v2, U v1, U v1, B false]).bind fun o3 =>
 bif bA o3 0 then
 some (0, [I v0, U v1, U v2, U (IntKind.u64.wrap (v3 + v4)), U (v4.fdiv (2 ^ min (Int.toNat 1) IntKind.u64.bits))])
 else
 some (0, [I v0, U v1, U v2, U v3, U (v4.fdiv (2 ^ min (Int.toNat 1) IntKind.u64.bits))])
 else
 some (1, [I v0, U v1, U v2, U v3]) := by kernel_rfl
theorem mf_cncref23_Near_eq (M_cncref23_most : Fn) (N3 : Lp) (x0 x1 x2 : Int) : mf_cncref23_Near M_cncref23_most N3 [I x0, I x1, I x2] =
 (N3 [I x0, U (IntKind.u64.wrap (IntKind.i64.wrap (mx x0 (IntKind.i64.wrap (0 - x0)) * x1))), U (IntKind.u64.wrap x2), U 0, U 134217728]).bind fun o4 =>
 bif o4.1.beq 1 then
 (M_cncref23_most [U (IntKind.u64.wrap (IntKind.u64.wrap (IntKind.u64.wrap (2 * gA o4.2 3) + 1) * IntKind.u64.wrap (IntKind.u64.wrap (2 * gA o4.2 3) + 1))), U (gA o4.2 2), U (IntKind.u64.wrap (2 * gA o4.2 1)), U (IntKind.u64.wrap (2 * gA o4.2 1)), B (decide (gA o4.2 0 < 0))]).bind fun o5 =>
 bif bA o5 0 then
 bif decide (gA o4.2 0 < 0) then
 some [I (IntKind.i64.wrap (0 - IntKind.i64.wrap (IntKind.u64.wrap (gA o4.2 3 + 1))))]
 else
 some [I (IntKind.i64.wrap (IntKind.u64.wrap (gA o4.2 3 + 1)))]
 else
 bif decide (gA o4.2 0 < 0) then
 some [I (IntKind.i64.wrap (0 - IntKind.i64.wrap (gA o4.2 3)))]
 else
 some [I (IntKind.i64.wrap (gA o4.2 3))]
 else
 none := by kernel_rfl
def l_cncref23_Near_3 := loopC (st_cncref23_Near_3 m_cncref23_most )
def m_cncref23_Near := mf_cncref23_Near m_cncref23_most l_cncref23_Near_3
theorem sp_cncref23_Near : SpecOK Tryz.prog (C_cncref23_Near_0 m_cncref23_most) := specOK_of rfl ⟨r_cncref23_most, trivial⟩
theorem r_cncref23_Near : RowOK Tryz.prog (172, spOf sig_cncref23_Near osig_cncref23_Near m_cncref23_Near) := row_of (C := (C_cncref23_Near_1 m_cncref23_most l_cncref23_Near_3)) (L := 64) (by kernel_rfl) ((FnOK.bare rfl rfl rfl).loop sp_cncref23_Near eqOk mixOk (by kernel_rfl) (by kernel_rfl)) sp_cncref23_Near eqOk mixOk (by kernel_rfl) (by kernel_rfl)
def sig_cncref24_Toward : Sk := { tmps := [TS.v true [ci, ci, ci], TS.v true [ci, ci, ci], tf [ci]], boxes := [], rows := [] }
def osig_cncref24_Toward : Sk := { tmps := [TS.tup [(true, [ci, ci, ci]), (false, [CS.bool])]], boxes := [], rows := [] }
def C_cncref24_Toward_0 (M_cncref23_Near M_cncref23_Square : Fn) : Cfg := { spec := lookS [(172, spOf sig_cncref23_Near osig_cncref23_Near M_cncref23_Near), (116, spOf sig_cncref23_Square osig_cncref23_Square M_cncref23_Square)], eqOk := eqAll, ownOff := ownOff, unroll := [6] }
def mf_cncref24_Toward (M_cncref23_Near M_cncref23_Square : Fn) : Fn := modelF Tryz.prog (C_cncref24_Toward_0 M_cncref23_Near M_cncref23_Square) 64 154 sig_cncref24_Toward osig_cncref24_Toward
theorem mf_cncref24_Toward_eq (M_cncref23_Near M_cncref23_Square : Fn) (x0 x1 x2 x3 x4 x5 x6 : Int) : mf_cncref24_Toward M_cncref23_Near M_cncref23_Square [I x0, I x1, I x2, I x3, I x4, I x5, I x6] =
 (M_cncref23_Square [I x3, I x4, I x5, I x0, I x1, I x2]).bind fun o4 =>
 bif gA o4 0 == 0 then
 some [I 0, I 0, I 0, B false]
 else
 bif decide (x6 < 0) then
 some [I 0, I 0, I 0, B false]
 else
 bif decide (x6 > 33554432) then
 some [I 0, I 0, I 0, B false]
 else
 (M_cncref23_Near [I (IntKind.i64.wrap (x3 - x0)), I x6, jA o4 0]).bind fun o5 =>
 (M_cncref23_Near [I (IntKind.i64.wrap (x4 - x1)), I x6, jA o4 0]).bind fun o6 =>
 (M_cncref23_Near [I (IntKind.i64.wrap (x5 - x2)), I x6, jA o4 0]).bind fun o7 =>
 some [I (IntKind.i64.wrap (x0 + gA o5 0)), I (IntKind.i64.wrap (x1 + gA o6 0)), I (IntKind.i64.wrap (x2 + gA o7 0)), B true] := by kernel_rfl
def m_cncref24_Toward := mf_cncref24_Toward m_cncref23_Near m_cncref23_Square 
theorem sp_cncref24_Toward : SpecOK Tryz.prog (C_cncref24_Toward_0 m_cncref23_Near m_cncref23_Square) := specOK_of rfl ⟨r_cncref23_Near, r_cncref23_Square, trivial⟩
theorem r_cncref24_Toward : RowOK Tryz.prog (154, spOf sig_cncref24_Toward osig_cncref24_Toward m_cncref24_Toward) := row_of (C := (C_cncref24_Toward_0 m_cncref23_Near m_cncref23_Square)) (L := 64) (by kernel_rfl) (FnOK.bare rfl rfl rfl) sp_cncref24_Toward eqOk mixOk (by kernel_rfl) (by kernel_rfl)
def sig_cncref24_permitted : Sk := { tmps := [TS.v true [ci, ci, ci], TS.v true [ci, ci, ci], TS.v true [ci, ci, ci], tf [ci], tf [ci]], boxes := [], rows := [] }
def osig_cncref24_permitted : Sk := { tmps := [tf [CS.bool]], boxes := [], rows := [] }
def C_cncref24_permitted_0 (M_cncref24_Bend M_cncref24_Toward M_cncref23_Length : Fn) : Cfg := { spec := lookS [(173, spOf sig_cncref24_Bend osig_cncref24_Bend M_cncref24_Bend), (154, spOf sig_cncref24_Toward osig_cncref24_Toward M_cncref24_Toward), (85, spOf sig_cncref23_Length osig_cncref23_Length M_cncref23_Length)], eqOk := eqAll, ownOff := ownOff }
def mf_cncref24_permitted (M_cncref24_Bend M_cncref24_Toward M_cncref23_Length : Fn) : Fn := modelF Tryz.prog (C_cncref24_permitted_0 M_cncref24_Bend M_cncref24_Toward M_cncref23_Length) 64 171 sig_cncref24_permitted osig_cncref24_permitted
theorem mf_cncref24_permitted_eq (M_cncref24_Bend M_cncref24_Toward M_cncref23_Length : Fn) (x0 x1 x2 x3 x4 x5 x6 x7 x8 x9 x10 : Int) : mf_cncref24_permitted M_cncref24_Bend M_cncref24_Toward M_cncref23_Length [I x0, I x1, I x2, I x3, I x4, I x5, I x6, I x7, I x8, I x9, I x10] =
 (M_cncref23_Length [I x0, I x1, I x2, I x3, I x4, I x5]).bind fun o5 =>
 (M_cncref23_Length [I x3, I x4, I x5, I x6, I x7, I x8]).bind fun o6 =>
 bif decide (x10 > IntKind.i64.wrap (mn (gA o5 0) (gA o6 0) - 2)) then
 some [B false]
 else
 (M_cncref24_Toward [I x3, I x4, I x5, I x0, I x1, I x2, I x10]).bind fun o7 =>
 (M_cncref24_Toward [I x3, I x4, I x5, I x6, I x7, I x8, I x10]).bind fun o8 =>
 (M_cncref24_Bend [jA o7 0, jA o7 1, jA o7 2, I x3, I x4, I x5, jA o8 0, jA o8 1, jA o8 2]).bind fun o9 =>
 some [B (decide (gA o9 0 <= IntKind.i64.wrap (IntKind.i64.wrap (16 * x9) * x9)))] := by kernel_rfl
def m_cncref24_permitted := mf_cncref24_permitted m_cncref24_Bend m_cncref24_Toward m_cncref23_Length 
theorem sp_cncref24_permitted : SpecOK Tryz.prog (C_cncref24_permitted_0 m_cncref24_Bend m_cncref24_Toward m_cncref23_Length) := specOK_of rfl ⟨r_cncref24_Bend, r_cncref24_Toward, r_cncref23_Length, trivial⟩
theorem r_cncref24_permitted : RowOK Tryz.prog (171, spOf sig_cncref24_permitted osig_cncref24_permitted m_cncref24_permitted) := row_of (C := (C_cncref24_permitted_0 m_cncref24_Bend m_cncref24_Toward m_cncref23_Length)) (L := 64) (by kernel_rfl) (FnOK.bare rfl rfl rfl) sp_cncref24_permitted eqOk mixOk (by kernel_rfl) (by kernel_rfl)
def sig_cncref24_Reach : Sk := { tmps := [TS.v true [ci, ci, ci], TS.v true [ci, ci, ci], TS.v true [ci, ci, ci], tf [ci]], boxes := [], rows := [] }
def osig_cncref24_Reach : Sk := { tmps := [tf [ci]], boxes := [], rows := [] }
def C_cncref24_Reach_0 (M_cncref24_permitted : Fn) : Cfg := { spec := lookS [(171, spOf sig_cncref24_permitted osig_cncref24_permitted M_cncref24_permitted)], eqOk := eqAll, ownOff := ownOff }
def sk_cncref24_Reach_5 : Sk := { tmps := [td, td, td, tf [ci], tf [CS.ptr 4 0], tf [CS.ptr 5 0], tf [CS.ptr 6 0], td, td, tf [ci], tf [ci]] ++ dd 26, boxes := [(4, 25, [ci, ci, ci]), (5, 25, [ci, ci, ci]), (6, 25, [ci, ci, ci])], rows := [] }
def ex_cncref24_Reach_5 : List (Ex × Sk) := [(Ex.exit 0, { tmps := [td, td, td, td, td, td, td, td, td, tf [ci]] ++ dd 27, boxes := [], rows := [] })]
def st_cncref24_Reach_5 (M_cncref24_permitted : Fn) : Lp := stepL Tryz.prog (C_cncref24_Reach_0 M_cncref24_permitted) 64 5 (bodyOf Tryz.prog 153 5) sk_cncref24_Reach_5 ex_cncref24_Reach_5
def C_cncref24_Reach_1 (M_cncref24_permitted : Fn) (N5 : Lp) : Cfg := (C_cncref24_Reach_0 M_cncref24_permitted).loop 5 sk_cncref24_Reach_5 ex_cncref24_Reach_5 N5
def mf_cncref24_Reach (M_cncref24_permitted : Fn) (N5 : Lp) : Fn := modelF Tryz.prog (C_cncref24_Reach_1 M_cncref24_permitted N5) 64 153 sig_cncref24_Reach osig_cncref24_Reach
theorem st_cncref24_Reach_5_eq (M_cncref24_permitted : Fn) (v0 v1 v2 v3 v4 v5 v6 v7 v8 v9 v10 v11 : Int) : st_cncref24_Reach_5 M_cncref24_permitted [I v0, I v1, I v2, I v3, I v4, I v5, I v6, I v7, I v8, I v9, I v10, I v11] =
 bif decide (v2 > 0) then
 (M_cncref24_permitted [I v3, I v4, I v5, I v6, I v7, I v8, I v9, I v10, I v11, I v0, I (IntKind.i64.wrap (v1 + v2))]).bind fun o2 =>
 bif bA o2 0 then
 some (0, [I v0, I (IntKind.i64.wrap (v1 + v2)), I (v2.fdiv (2 ^ min (Int.toNat 1) IntKind.i64.bits)), I v3, I v4, I v5, I v6, I v7, I v8, I v9, I v10, I v11])
 else
 some (0, [I v0, I v1, I (v2.fdiv (2 ^ min (Int.toNat 1) IntKind.i64.bits)), I v3, I v4, I v5, I v6, I v7, I v8, I v9, I v10, I v11])
 else
 some (1, [I v1]) := by kernel_rfl
theorem mf_cncref24_Reach_eq (M_cncref24_permitted : Fn) (N5 : Lp) (x0 x1 x2 x3 x4 x5 x6 x7 x8 x9 : Int) : mf_cncref24_Reach M_cncref24_permitted N5 [I x0, I x1, I x2, I x3, I x4, I x5, I x6, I x7, I x8, I x9] =
 bif x0 == x3 && (x1 == x4 && (x2 == x5 && true)) then
 some [I 0]
 else
 bif x6 == x3 && (x7 == x4 && (x8 == x5 && true)) then
 some [I 0]
 else
 (N5 [I x9, I 0, I 16777216, I x0, I x1, I x2, I x3, I x4, I x5, I x6, I x7, I x8]).bind fun o3 =>
 bif o3.1.beq 1 then
 bif decide (gA o3.2 0 < 16) then
 some [I 0]
 else
 some [jA o3.2 0]
 else
 none := by kernel_rfl
def l_cncref24_Reach_5 := loopC (st_cncref24_Reach_5 m_cncref24_permitted )
def m_cncref24_Reach := mf_cncref24_Reach m_cncref24_permitted l_cncref24_Reach_5
theorem sp_cncref24_Reach : SpecOK Tryz.prog (C_cncref24_Reach_0 m_cncref24_permitted) := specOK_of rfl ⟨r_cncref24_permitted, trivial⟩
theorem r_cncref24_Reach : RowOK Tryz.prog (153, spOf sig_cncref24_Reach osig_cncref24_Reach m_cncref24_Reach) := row_of (C := (C_cncref24_Reach_1 m_cncref24_permitted l_cncref24_Reach_5)) (L := 64) (by kernel_rfl) ((FnOK.bare rfl rfl rfl).loop sp_cncref24_Reach eqOk mixOk (by kernel_rfl) (by kernel_rfl)) sp_cncref24_Reach eqOk mixOk (by kernel_rfl) (by kernel_rfl)
def sig_cncref24_Corner : Sk := { tmps := [TS.v true [ci, ci, ci], TS.v true [ci, ci, ci], TS.v true [ci, ci, ci], tf [ci]], boxes := [], rows := [] }
def osig_cncref24_Corner : Sk := { tmps := [tf [CS.sl kPt]], boxes := [], rows := [] }
def C_cncref24_Corner_0 (M_cncref24_Rounded M_cncref24_Pieces M_cncref24_Toward M_cncref24_Reach : Fn) : Cfg := { spec := lookS [(72, spOf sig_cncref24_Rounded osig_cncref24_Rounded M_cncref24_Rounded), (155, spOf sig_cncref24_Pieces osig_cncref24_Pieces M_cncref24_Pieces), (154, spOf sig_cncref24_Toward osig_cncref24_Toward M_cncref24_Toward), (153, spOf sig_cncref24_Reach osig_cncref24_Reach M_cncref24_Reach)], eqOk := eqAll, ownOff := ownOff, prom := fun b => bif Nat.beq b 9 then [(15, 25)] else [], unroll := [13] }
def sk_cncref24_Corner_9 : Sk := { tmps := [td, td, td, td, td, tf [CS.ptr 5 0], td, td, td, td, tf [CS.ptr 10 0], td, tf [CS.ptr 12 0], td, tf [ci], tf [CS.own 15 3], tf [ci]] ++ dd 80, boxes := [(5, 25, [ci, ci, ci]), (10, 25, [ci, ci, ci]), (12, 25, [ci, ci, ci])], rows := [(15, 25, kPt)] }
def ex_cncref24_Corner_9 : List (Ex × Sk) := [(Ex.exit 0, { tmps := [td, td, td, td, td, td, td, td, td, td, td, td, td, td, td, tf [CS.own 15 3]] ++ dd 81, boxes := [], rows := [(15, 25, kPt)] })]
def st_cncref24_Corner_9 (M_cncref24_Rounded M_cncref24_Pieces M_cncref24_Toward M_cncref24_Reach : Fn) : Lp := stepL Tryz.prog (C_cncref24_Corner_0 M_cncref24_Rounded M_cncref24_Pieces M_cncref24_Toward M_cncref24_Reach) 64 9 (bodyOf Tryz.prog 135 9) sk_cncref24_Corner_9 ex_cncref24_Corner_9
def C_cncref24_Corner_1 (M_cncref24_Rounded M_cncref24_Pieces M_cncref24_Toward M_cncref24_Reach : Fn) (N9 : Lp) : Cfg := (C_cncref24_Corner_0 M_cncref24_Rounded M_cncref24_Pieces M_cncref24_Toward M_cncref24_Reach).loop 9 sk_cncref24_Corner_9 ex_cncref24_Corner_9 N9
def mf_cncref24_Corner (M_cncref24_Rounded M_cncref24_Pieces M_cncref24_Toward M_cncref24_Reach : Fn) (N9 : Lp) : Fn := modelF Tryz.prog (C_cncref24_Corner_1 M_cncref24_Rounded M_cncref24_Pieces M_cncref24_Toward M_cncref24_Reach N9) 64 135 sig_cncref24_Corner osig_cncref24_Corner
theorem st_cncref24_Corner_9_eq (M_cncref24_Rounded M_cncref24_Pieces M_cncref24_Toward M_cncref24_Reach : Fn) (v0 : Rw) (v1 v2 v3 v4 v5 v6 v7 v8 v9 v10 v11 : Int) : st_cncref24_Corner_9 M_cncref24_Rounded M_cncref24_Pieces M_cncref24_Toward M_cncref24_Reach [.view kPt v0, I v1, I v2, I v3, I v4, I v5, I v6, I v7, I v8, I v9, I v10, I v11] =
 bif decide (v2 <= v1) then
 (M_cncref24_Rounded [I (IntKind.i64.wrap (IntKind.i64.wrap (IntKind.i64.wrap (IntKind.i64.wrap (v1 - v2) * IntKind.i64.wrap (v1 - v2)) * IntKind.i64.wrap (v6 - v3)) + IntKind.i64.wrap (IntKind.i64.wrap (v2 * v2) * IntKind.i64.wrap (v9 - v3)))), I (IntKind.i64.wrap (v1 * v1))]).bind fun o19 =>
 (M_cncref24_Rounded [I (IntKind.i64.wrap (IntKind.i64.wrap (IntKind.i64.wrap (IntKind.i64.wrap (v1 - v2) * IntKind.i64.wrap (v1 - v2)) * IntKind.i64.wrap (v7 - v4)) + IntKind.i64.wrap (IntKind.i64.wrap (v2 * v2) * IntKind.i64.wrap (v10 - v4)))), I (IntKind.i64.wrap (v1 * v1))]).bind fun o20 =>
 (M_cncref24_Rounded [I (IntKind.i64.wrap (IntKind.i64.wrap (IntKind.i64.wrap (IntKind.i64.wrap (v1 - v2) * IntKind.i64.wrap (v1 - v2)) * IntKind.i64.wrap (v8 - v5)) + IntKind.i64.wrap (IntKind.i64.wrap (v2 * v2) * IntKind.i64.wrap (v11 - v5)))), I (IntKind.i64.wrap (v1 * v1))]).bind fun o21 =>
 bif ((v0 ++ [[I (IntKind.i64.wrap (v3 + gA o19 0)), I (IntKind.i64.wrap (v4 + gA o20 0)), I (IntKind.i64.wrap (v5 + gA o21 0))]]).length * 24).ble 140737488355328 then
 some (0, [.view kPt (v0 ++ [[I (IntKind.i64.wrap (v3 + gA o19 0)), I (IntKind.i64.wrap (v4 + gA o20 0)), I (IntKind.i64.wrap (v5 + gA o21 0))]]), I v1, I (IntKind.i64.wrap (v2 + 1)), I v3, I v4, I v5, I v6, I v7, I v8, I v9, I v10, I v11])
 else
 none
 else
 some (1, [.view kPt v0]) := by kernel_rfl
theorem mf_cncref24_Corner_eq (M_cncref24_Rounded M_cncref24_Pieces M_cncref24_Toward M_cncref24_Reach : Fn) (N9 : Lp) (x0 x1 x2 x3 x4 x5 x6 x7 x8 x9 : Int) : mf_cncref24_Corner M_cncref24_Rounded M_cncref24_Pieces M_cncref24_Toward M_cncref24_Reach N9 [I x0, I x1, I x2, I x3, I x4, I x5, I x6, I x7, I x8, I x9] =
 (M_cncref24_Reach [I x0, I x1, I x2, I x3, I x4, I x5, I x6, I x7, I x8, I x9]).bind fun o22 =>
 bif gA o22 0 == 0 then
 some [.view kPt [[I x3, I x4, I x5]]]
 else
 (M_cncref24_Toward [I x3, I x4, I x5, I x0, I x1, I x2, jA o22 0]).bind fun o23 =>
 (M_cncref24_Toward [I x3, I x4, I x5, I x6, I x7, I x8, jA o22 0]).bind fun o24 =>
 (M_cncref24_Pieces [jA o23 0, jA o23 1, jA o23 2, I x3, I x4, I x5, jA o24 0, jA o24 1, jA o24 2]).bind fun o25 =>
 (N9 [.view kPt [], jA o25 0, I 0, I x3, I x4, I x5, jA o23 0, jA o23 1, jA o23 2, jA o24 0, jA o24 1, jA o24 2]).bind fun o26 =>
 bif o26.1.beq 1 then
 some [.view kPt (wA o26.2 0)]
 else
 none := by kernel_rfl
def l_cncref24_Corner_9 := loopC (st_cncref24_Corner_9 m_cncref24_Rounded m_cncref24_Pieces m_cncref24_Toward m_cncref24_Reach )
def m_cncref24_Corner := mf_cncref24_Corner m_cncref24_Rounded m_cncref24_Pieces m_cncref24_Toward m_cncref24_Reach l_cncref24_Corner_9
theorem sp_cncref24_Corner : SpecOK Tryz.prog (C_cncref24_Corner_0 m_cncref24_Rounded m_cncref24_Pieces m_cncref24_Toward m_cncref24_Reach) := specOK_of rfl ⟨r_cncref24_Rounded, r_cncref24_Pieces, r_cncref24_Toward, r_cncref24_Reach, trivial⟩
theorem r_cncref24_Corner : RowOK Tryz.prog (135, spOf sig_cncref24_Corner osig_cncref24_Corner m_cncref24_Corner) := row_of (C := (C_cncref24_Corner_1 m_cncref24_Rounded m_cncref24_Pieces m_cncref24_Toward m_cncref24_Reach l_cncref24_Corner_9)) (L := 64) (by kernel_rfl) ((FnOK.bare rfl rfl rfl).loop sp_cncref24_Corner eqOk mixOk (by kernel_rfl) (by kernel_rfl)) sp_cncref24_Corner eqOk mixOk (by kernel_rfl) (by kernel_rfl)
def sig_cncref23_Fine : Sk := { tmps := [TS.v true [ci, ci, ci]], boxes := [], rows := [] }
def osig_cncref23_Fine : Sk := { tmps := [TS.v true [ci, ci, ci]], boxes := [], rows := [] }
def C_cncref23_Fine_0 : Cfg := { spec := lookS [], eqOk := eqAll, ownOff := ownOff }
def mf_cncref23_Fine : Fn := modelF Tryz.prog C_cncref23_Fine_0 64 81 sig_cncref23_Fine osig_cncref23_Fine
theorem mf_cncref23_Fine_eq (x0 x1 x2 : Int) : mf_cncref23_Fine [I x0, I x1, I x2] =
 some [I (IntKind.i64.wrap (x0 * 16)), I (IntKind.i64.wrap (x1 * 16)), I (IntKind.i64.wrap (x2 * 16))] := by kernel_rfl
def m_cncref23_Fine := mf_cncref23_Fine 
theorem sp_cncref23_Fine : SpecOK Tryz.prog (C_cncref23_Fine_0 ) := specOK_of rfl trivial
theorem r_cncref23_Fine : RowOK Tryz.prog (81, spOf sig_cncref23_Fine osig_cncref23_Fine m_cncref23_Fine) := row_of (C := C_cncref23_Fine_0) (L := 64) (by kernel_rfl) (FnOK.bare rfl rfl rfl) sp_cncref23_Fine eqOk mixOk (by kernel_rfl) (by kernel_rfl)
def sig_cncref25_joined : Sk := { tmps := [tf [CS.sl kItm], tf [ci], tf [ci]], boxes := [], rows := [] }
def osig_cncref25_joined : Sk := { tmps := [tf [CS.sl kPt]], boxes := [], rows := [] }
def C_cncref25_joined_0 (M_cncref24_Corner M_cncref23_Fine M_cncref25_Center : Fn) : Cfg := { spec := lookS [(135, spOf sig_cncref24_Corner osig_cncref24_Corner M_cncref24_Corner), (81, spOf sig_cncref23_Fine osig_cncref23_Fine M_cncref23_Fine), (90, spOf sig_cncref25_Center osig_cncref25_Center M_cncref25_Center)], eqOk := eqAll, ownOff := ownOff }
def mf_cncref25_joined (M_cncref24_Corner M_cncref23_Fine M_cncref25_Center : Fn) : Fn := modelF Tryz.prog (C_cncref25_joined_0 M_cncref24_Corner M_cncref23_Fine M_cncref25_Center) 64 115 sig_cncref25_joined osig_cncref25_joined
theorem mf_cncref25_joined_eq (M_cncref24_Corner M_cncref23_Fine M_cncref25_Center : Fn) (x0 : Rw) (x1 x2 : Int) : mf_cncref25_joined M_cncref24_Corner M_cncref23_Fine M_cncref25_Center [.view kItm x0, I x1, I x2] =
 bif decide (0 <= x1) && decide (x1 < (x0.length : Int)) then
 (M_cncref25_Center [jA (nth [] x0 x1.toNat) 0, jA (nth [] x0 x1.toNat) 1, jA (nth [] x0 x1.toNat) 2, jA (nth [] x0 x1.toNat) 3, jA (nth [] x0 x1.toNat) 4, jA (nth [] x0 x1.toNat) 5, jA (nth [] x0 x1.toNat) 6, jA (nth [] x0 x1.toNat) 7, jA (nth [] x0 x1.toNat) 8, jA (nth [] x0 x1.toNat) 9, jA (nth [] x0 x1.toNat) 10, jA (nth [] x0 x1.toNat) 11, jA (nth [] x0 x1.toNat) 12, B (bA (nth [] x0 x1.toNat) 13), jA (nth [] x0 x1.toNat) 14, B (bA (nth [] x0 x1.toNat) 15), jA (nth [] x0 x1.toNat) 16, jA (nth [] x0 x1.toNat) 17, jA (nth [] x0 x1.toNat) 18, jA (nth [] x0 x1.toNat) 19, jA (nth [] x0 x1.toNat) 20, B (bA (nth [] x0 x1.toNat) 21)]).bind fun o4 =>
 bif decide (0 <= x1) && decide (x1 < (x0.length : Int)) then
 (M_cncref23_Fine [jA (nth [] x0 x1.toNat) 5, jA (nth [] x0 x1.toNat) 6, jA (nth [] x0 x1.toNat) 7]).bind fun o5 =>
 bif decide (0 <= x2) && decide (x2 < (x0.length : Int)) then
 (M_cncref25_Center [jA (nth [] x0 x2.toNat) 0, jA (nth [] x0 x2.toNat) 1, jA (nth [] x0 x2.toNat) 2, jA (nth [] x0 x2.toNat) 3, jA (nth [] x0 x2.toNat) 4, jA (nth [] x0 x2.toNat) 5, jA (nth [] x0 x2.toNat) 6, jA (nth [] x0 x2.toNat) 7, jA (nth [] x0 x2.toNat) 8, jA (nth [] x0 x2.toNat) 9, jA (nth [] x0 x2.toNat) 10, jA (nth [] x0 x2.toNat) 11, jA (nth [] x0 x2.toNat) 12, B (bA (nth [] x0 x2.toNat) 13), jA (nth [] x0 x2.toNat) 14, B (bA (nth [] x0 x2.toNat) 15), jA (nth [] x0 x2.toNat) 16, jA (nth [] x0 x2.toNat) 17, jA (nth [] x0 x2.toNat) 18, jA (nth [] x0 x2.toNat) 19, jA (nth [] x0 x2.toNat) 20, B (bA (nth [] x0 x2.toNat) 21)]).bind fun o6 =>
 bif decide (0 <= x1) && decide (x1 < (x0.length : Int)) then
 (M_cncref24_Corner [jA o4 0, jA o4 1, jA o4 2, jA o5 0, jA o5 1, jA o5 2, jA o6 0, jA o6 1, jA o6 2, I (IntKind.i64.wrap (gA (nth [] x0 x1.toNat) 18 * 16))]).bind fun o7 =>
 some [.view kPt (wA o7 0)]
 else
 none
 else
 none
 else
 none
 else
 none := by kernel_rfl
def m_cncref25_joined := mf_cncref25_joined m_cncref24_Corner m_cncref23_Fine m_cncref25_Center 
theorem sp_cncref25_joined : SpecOK Tryz.prog (C_cncref25_joined_0 m_cncref24_Corner m_cncref23_Fine m_cncref25_Center) := specOK_of rfl ⟨r_cncref24_Corner, r_cncref23_Fine, r_cncref25_Center, trivial⟩
theorem r_cncref25_joined : RowOK Tryz.prog (115, spOf sig_cncref25_joined osig_cncref25_joined m_cncref25_joined) := row_of (C := (C_cncref25_joined_0 m_cncref24_Corner m_cncref23_Fine m_cncref25_Center)) (L := 64) (by kernel_rfl) (FnOK.bare rfl rfl rfl) sp_cncref25_joined eqOk mixOk (by kernel_rfl) (by kernel_rfl)
def sig_cncref23_Space : Sk := { tmps := [tf [ci], tf [ci], tf [ci], tf [ci]], boxes := [], rows := [] }
def osig_cncref23_Space : Sk := { tmps := [TS.v true [ci, ci, ci]], boxes := [], rows := [] }
def C_cncref23_Space_0 : Cfg := { spec := lookS [], eqOk := eqAll, ownOff := ownOff }
def mf_cncref23_Space : Fn := modelF Tryz.prog C_cncref23_Space_0 64 125 sig_cncref23_Space osig_cncref23_Space
theorem mf_cncref23_Space_eq (x0 x1 x2 x3 : Int) : mf_cncref23_Space [I x0, I x1, I x2, I x3] =
 bif x3 == 17 then
 some [I x0, I x1, I x2]
 else
 bif x3 == 18 then
 some [I x1, I x2, I x0]
 else
 bif x3 == 19 then
 some [I x2, I x0, I x1]
 else
 some [I 0, I 0, I 0] := by kernel_rfl
def m_cncref23_Space := mf_cncref23_Space 
theorem sp_cncref23_Space : SpecOK Tryz.prog (C_cncref23_Space_0 ) := specOK_of rfl trivial
theorem r_cncref23_Space : RowOK Tryz.prog (125, spOf sig_cncref23_Space osig_cncref23_Space m_cncref23_Space) := row_of (C := C_cncref23_Space_0) (L := 64) (by kernel_rfl) (FnOK.bare rfl rfl rfl) sp_cncref23_Space eqOk mixOk (by kernel_rfl) (by kernel_rfl)
def sig_cncref23_Plane : Sk := { tmps := [TS.v true [ci, ci, ci], tf [ci]], boxes := [], rows := [] }
def osig_cncref23_Plane : Sk := { tmps := [TS.tup [(false, [ci]), (false, [ci]), (false, [ci])]], boxes := [], rows := [] }
def C_cncref23_Plane_0 : Cfg := { spec := lookS [], eqOk := eqAll, ownOff := ownOff }
def mf_cncref23_Plane : Fn := modelF Tryz.prog C_cncref23_Plane_0 64 123 sig_cncref23_Plane osig_cncref23_Plane
theorem mf_cncref23_Plane_eq (x0 x1 x2 x3 : Int) : mf_cncref23_Plane [I x0, I x1, I x2, I x3] =
 bif x3 == 17 then
 some [I x0, I x1, I x2]
 else
 bif x3 == 18 then
 some [I x2, I x0, I x1]
 else
 bif x3 == 19 then
 some [I x1, I x2, I x0]
 else
 some [I 0, I 0, I 0] := by kernel_rfl
def m_cncref23_Plane := mf_cncref23_Plane 
theorem sp_cncref23_Plane : SpecOK Tryz.prog (C_cncref23_Plane_0 ) := specOK_of rfl trivial
theorem r_cncref23_Plane : RowOK Tryz.prog (123, spOf sig_cncref23_Plane osig_cncref23_Plane m_cncref23_Plane) := row_of (C := C_cncref23_Plane_0) (L := 64) (by kernel_rfl) (FnOK.bare rfl rfl rfl) sp_cncref23_Plane eqOk mixOk (by kernel_rfl) (by kernel_rfl)
def sig_cncref23_half : Sk := { tmps := [tf [ci], tf [ci]], boxes := [], rows := [] }
def osig_cncref23_half : Sk := { tmps := [tf [ci]], boxes := [], rows := [] }
def C_cncref23_half_0 : Cfg := { spec := lookS [], eqOk := eqAll, ownOff := ownOff }
def mf_cncref23_half : Fn := modelF Tryz.prog C_cncref23_half_0 64 183 sig_cncref23_half osig_cncref23_half
theorem mf_cncref23_half_eq (x0 x1 : Int) : mf_cncref23_half [I x0, I x1] =
 some [I ((IntKind.i64.wrap (IntKind.i64.wrap (x0 + x1) + 1)).fdiv (2 ^ min (Int.toNat 1) IntKind.i64.bits))] := by kernel_rfl
def m_cncref23_half := mf_cncref23_half 
theorem sp_cncref23_half : SpecOK Tryz.prog (C_cncref23_half_0 ) := specOK_of rfl trivial
theorem r_cncref23_half : RowOK Tryz.prog (183, spOf sig_cncref23_half osig_cncref23_half m_cncref23_half) := row_of (C := C_cncref23_half_0) (L := 64) (by kernel_rfl) (FnOK.bare rfl rfl rfl) sp_cncref23_half eqOk mixOk (by kernel_rfl) (by kernel_rfl)
def sig_cncref23_Cross : Sk := { tmps := [TS.v true [ci, ci, ci, ci], TS.v true [ci, ci, ci, ci]], boxes := [], rows := [] }
def osig_cncref23_Cross : Sk := { tmps := [tf [ci]], boxes := [], rows := [] }
def C_cncref23_Cross_0 : Cfg := { spec := lookS [], eqOk := eqAll, ownOff := ownOff }
def mf_cncref23_Cross : Fn := modelF Tryz.prog C_cncref23_Cross_0 64 150 sig_cncref23_Cross osig_cncref23_Cross
theorem mf_cncref23_Cross_eq (x0 x1 x2 x3 x4 x5 x6 x7 : Int) : mf_cncref23_Cross [I x0, I x1, I x2, I x3, I x4, I x5, I x6, I x7] =
 some [I (IntKind.i64.wrap (IntKind.i64.wrap (x0 * x5) - IntKind.i64.wrap (x1 * x4)))] := by kernel_rfl
def m_cncref23_Cross := mf_cncref23_Cross 
theorem sp_cncref23_Cross : SpecOK Tryz.prog (C_cncref23_Cross_0 ) := specOK_of rfl trivial
theorem r_cncref23_Cross : RowOK Tryz.prog (150, spOf sig_cncref23_Cross osig_cncref23_Cross m_cncref23_Cross) := row_of (C := C_cncref23_Cross_0) (L := 64) (by kernel_rfl) (FnOK.bare rfl rfl rfl) sp_cncref23_Cross eqOk mixOk (by kernel_rfl) (by kernel_rfl)
def sig_cncref23_Dot : Sk := { tmps := [TS.v true [ci, ci, ci, ci], TS.v true [ci, ci, ci, ci]], boxes := [], rows := [] }
def osig_cncref23_Dot : Sk := { tmps := [tf [ci]], boxes := [], rows := [] }
def C_cncref23_Dot_0 : Cfg := { spec := lookS [], eqOk := eqAll, ownOff := ownOff }
def mf_cncref23_Dot : Fn := modelF Tryz.prog C_cncref23_Dot_0 64 148 sig_cncref23_Dot osig_cncref23_Dot
theorem mf_cncref23_Dot_eq (x0 x1 x2 x3 x4 x5 x6 x7 : Int) : mf_cncref23_Dot [I x0, I x1, I x2, I x3, I x4, I x5, I x6, I x7] =
 some [I (IntKind.i64.wrap (IntKind.i64.wrap (x0 * x4) + IntKind.i64.wrap (x1 * x5)))] := by kernel_rfl
def m_cncref23_Dot := mf_cncref23_Dot 
theorem sp_cncref23_Dot : SpecOK Tryz.prog (C_cncref23_Dot_0 ) := specOK_of rfl trivial
theorem r_cncref23_Dot : RowOK Tryz.prog (148, spOf sig_cncref23_Dot osig_cncref23_Dot m_cncref23_Dot) := row_of (C := C_cncref23_Dot_0) (L := 64) (by kernel_rfl) (FnOK.bare rfl rfl rfl) sp_cncref23_Dot eqOk mixOk (by kernel_rfl) (by kernel_rfl)
def sig_cncref23_Middle : Sk := { tmps := [TS.v true [ci, ci, ci, ci], TS.v true [ci, ci, ci, ci], tf [ci], tf [CS.bool]], boxes := [], rows := [] }
def osig_cncref23_Middle : Sk := { tmps := [TS.tup [(true, [ci, ci, ci, ci]), (false, [CS.bool])]], boxes := [], rows := [] }
def C_cncref23_Middle_0 (M_cncref23_Near M_cncref23_half M_cncref23_Cross M_cncref23_Dot : Fn) : Cfg := { spec := lookS [(172, spOf sig_cncref23_Near osig_cncref23_Near M_cncref23_Near), (183, spOf sig_cncref23_half osig_cncref23_half M_cncref23_half), (150, spOf sig_cncref23_Cross osig_cncref23_Cross M_cncref23_Cross), (148, spOf sig_cncref23_Dot osig_cncref23_Dot M_cncref23_Dot)], eqOk := eqAll, ownOff := ownOff }
def mf_cncref23_Middle (M_cncref23_Near M_cncref23_half M_cncref23_Cross M_cncref23_Dot : Fn) : Fn := modelF Tryz.prog (C_cncref23_Middle_0 M_cncref23_Near M_cncref23_half M_cncref23_Cross M_cncref23_Dot) 64 170 sig_cncref23_Middle osig_cncref23_Middle
abbrev g_cncref23_Middle_1 (M_cncref23_half : Fn) (x2 x6 : Int) (M_cncref23_Near : Fn) (x3 x7 : Int) (h1_0 h1_1 : Bool) (h1_2 h1_3 h1_4 : AC) : Option (List AC) :=
 bif h1_0 then
 bif h1_1 then
 some [I 0, I 0, I 0, I 0, B false]
 else
 (M_cncref23_half [I x2, I x6]).bind fun o104 =>
 (M_cncref23_Near [h1_2, jA o104 0, h1_3]).bind fun o105 =>
 (M_cncref23_Near [h1_4, jA o104 0, h1_3]).bind fun o106 =>
 (M_cncref23_half [I x3, I x7]).bind fun o107 =>
 some [jA o105 0, jA o106 0, jA o104 0, jA o107 0, B true]
 else
 (M_cncref23_half [I x2, I x6]).bind fun o108 =>
 (M_cncref23_Near [h1_2, jA o108 0, h1_3]).bind fun o109 =>
 (M_cncref23_Near [h1_4, jA o108 0, h1_3]).bind fun o110 =>
 (M_cncref23_half [I x3, I x7]).bind fun o111 =>
 some [jA o109 0, jA o110 0, jA o108 0, jA o111 0, B true]
attribute [go_sem] g_cncref23_Middle_1
abbrev g_cncref23_Middle_2 (M_cncref23_Dot : Fn) (x0 x1 x2 x3 x4 x5 x6 x7 : Int) (M_cncref23_half M_cncref23_Near : Fn) (x8 : Int) : Option (List AC) :=
 (M_cncref23_Dot [I x0, I x1, I x2, I x3, I x4, I x5, I x6, I x7]).bind fun o122 =>
 bif decide (gA o122 0 > 0) then
 g_cncref23_Middle_1 M_cncref23_half x2 x6 M_cncref23_Near x3 x7 (IntKind.i64.wrap (0 - IntKind.i64.wrap (x0 + x4)) == 0) (IntKind.i64.wrap (0 - IntKind.i64.wrap (x1 + x5)) == 0) (I (IntKind.i64.wrap (0 - IntKind.i64.wrap (x0 + x4)))) (I (IntKind.i64.wrap (IntKind.i64.wrap (IntKind.i64.wrap (0 - IntKind.i64.wrap (x0 + x4)) * IntKind.i64.wrap (0 - IntKind.i64.wrap (x0 + x4))) + IntKind.i64.wrap (IntKind.i64.wrap (0 - IntKind.i64.wrap (x1 + x5)) * IntKind.i64.wrap (0 - IntKind.i64.wrap (x1 + x5)))))) (I (IntKind.i64.wrap (0 - IntKind.i64.wrap (x1 + x5))))
 else
 g_cncref23_Middle_1 M_cncref23_half x2 x6 M_cncref23_Near x3 x7 (IntKind.i64.wrap (x8 * IntKind.i64.wrap (x5 - x1)) == 0) (IntKind.i64.wrap (x8 * IntKind.i64.wrap (x0 - x4)) == 0) (I (IntKind.i64.wrap (x8 * IntKind.i64.wrap (x5 - x1)))) (I (IntKind.i64.wrap (IntKind.i64.wrap (IntKind.i64.wrap (x8 * IntKind.i64.wrap (x5 - x1)) * IntKind.i64.wrap (x8 * IntKind.i64.wrap (x5 - x1))) + IntKind.i64.wrap (IntKind.i64.wrap (x8 * IntKind.i64.wrap (x0 - x4)) * IntKind.i64.wrap (x8 * IntKind.i64.wrap (x0 - x4)))))) (I (IntKind.i64.wrap (x8 * IntKind.i64.wrap (x0 - x4))))
attribute [go_sem] g_cncref23_Middle_2
abbrev g_cncref23_Middle_3 (x9 : Bool) (M_cncref23_half : Fn) (x2 x6 : Int) (M_cncref23_Near : Fn) (x3 x7 x0 x1 : Int) (M_cncref23_Dot : Fn) (x4 x5 : Int) (M_cncref23_Cross : Fn) (x8 : Int) : Option (List AC) :=
 bif x9 then
 g_cncref23_Middle_1 M_cncref23_half x2 x6 M_cncref23_Near x3 x7 (IntKind.i64.wrap (0 - x0) == 0) (IntKind.i64.wrap (0 - x1) == 0) (I (IntKind.i64.wrap (0 - x0))) (I (IntKind.i64.wrap (IntKind.i64.wrap (IntKind.i64.wrap (0 - x0) * IntKind.i64.wrap (0 - x0)) + IntKind.i64.wrap (IntKind.i64.wrap (0 - x1) * IntKind.i64.wrap (0 - x1))))) (I (IntKind.i64.wrap (0 - x1)))
 else
 (M_cncref23_Dot [I x0, I x1, I x2, I x3, I x4, I x5, I x6, I x7]).bind fun o112 =>
 bif decide (gA o112 0 > 0) then
 (M_cncref23_Cross [I x0, I x1, I x2, I x3, I x4, I x5, I x6, I x7]).bind fun o113 =>
 bif decide (IntKind.i64.wrap (gA o113 0 * x8) > 0) then
 g_cncref23_Middle_1 M_cncref23_half x2 x6 M_cncref23_Near x3 x7 (IntKind.i64.wrap (x0 + x4) == 0) (IntKind.i64.wrap (x1 + x5) == 0) (I (IntKind.i64.wrap (x0 + x4))) (I (IntKind.i64.wrap (IntKind.i64.wrap (IntKind.i64.wrap (x0 + x4) * IntKind.i64.wrap (x0 + x4)) + IntKind.i64.wrap (IntKind.i64.wrap (x1 + x5) * IntKind.i64.wrap (x1 + x5))))) (I (IntKind.i64.wrap (x1 + x5)))
 else
 g_cncref23_Middle_2 M_cncref23_Dot x0 x1 x2 x3 x4 x5 x6 x7 M_cncref23_half M_cncref23_Near x8
 else
 g_cncref23_Middle_2 M_cncref23_Dot x0 x1 x2 x3 x4 x5 x6 x7 M_cncref23_half M_cncref23_Near x8
attribute [go_sem] g_cncref23_Middle_3
theorem mf_cncref23_Middle_eq (M_cncref23_Near M_cncref23_half M_cncref23_Cross M_cncref23_Dot : Fn) (x0 x1 x2 x3 x4 x5 x6 x7 x8 : Int) (x9 : Bool) : mf_cncref23_Middle M_cncref23_Near M_cncref23_half M_cncref23_Cross M_cncref23_Dot [I x0, I x1, I x2, I x3, I x4, I x5, I x6, I x7, I x8, B x9] =
 bif x8 != 1 then
 bif x8 != -1 then
 some [I 0, I 0, I 0, I 0, B false]
 else
 g_cncref23_Middle_3 x9 M_cncref23_half x2 x6 M_cncref23_Near x3 x7 x0 x1 M_cncref23_Dot x4 x5 M_cncref23_Cross x8
 else
 g_cncref23_Middle_3 x9 M_cncref23_half x2 x6 M_cncref23_Near x3 x7 x0 x1 M_cncref23_Dot x4 x5 M_cncref23_Cross x8 := by kernel_rfl
def m_cncref23_Middle := mf_cncref23_Middle m_cncref23_Near m_cncref23_half m_cncref23_Cross m_cncref23_Dot 
theorem sp_cncref23_Middle : SpecOK Tryz.prog (C_cncref23_Middle_0 m_cncref23_Near m_cncref23_half m_cncref23_Cross m_cncref23_Dot) := specOK_of rfl ⟨r_cncref23_Near, r_cncref23_half, r_cncref23_Cross, r_cncref23_Dot, trivial⟩
theorem r_cncref23_Middle : RowOK Tryz.prog (170, spOf sig_cncref23_Middle osig_cncref23_Middle m_cncref23_Middle) := row_of (C := (C_cncref23_Middle_0 m_cncref23_Near m_cncref23_half m_cncref23_Cross m_cncref23_Dot)) (L := 64) (by kernel_rfl) (FnOK.bare rfl rfl rfl) sp_cncref23_Middle eqOk mixOk (by kernel_rfl) (by kernel_rfl)
def sig_cncref23_Flat : Sk := { tmps := [tf [ci], tf [ci]], boxes := [], rows := [] }
def osig_cncref23_Flat : Sk := { tmps := [tf [CS.bool]], boxes := [], rows := [] }
def C_cncref23_Flat_0 : Cfg := { spec := lookS [], eqOk := eqAll, ownOff := ownOff }
def mf_cncref23_Flat : Fn := modelF Tryz.prog C_cncref23_Flat_0 64 182 sig_cncref23_Flat osig_cncref23_Flat
theorem mf_cncref23_Flat_eq (x0 x1 : Int) : mf_cncref23_Flat [I x0, I x1] =
 some [B (decide (x1 <= IntKind.i64.wrap (IntKind.i64.wrap (IntKind.i64.wrap (8 * x0) * 4) - 64)))] := by kernel_rfl
def m_cncref23_Flat := mf_cncref23_Flat 
theorem sp_cncref23_Flat : SpecOK Tryz.prog (C_cncref23_Flat_0 ) := specOK_of rfl trivial
theorem r_cncref23_Flat : RowOK Tryz.prog (182, spOf sig_cncref23_Flat osig_cncref23_Flat m_cncref23_Flat) := row_of (C := C_cncref23_Flat_0) (L := 64) (by kernel_rfl) (FnOK.bare rfl rfl rfl) sp_cncref23_Flat eqOk mixOk (by kernel_rfl) (by kernel_rfl)
def sig_cncref23_settled : Sk := { tmps := [TS.v true [ci, ci, ci, ci], TS.v true [ci, ci, ci, ci], tf [ci], tf [CS.bool]], boxes := [], rows := [] }
def osig_cncref23_settled : Sk := { tmps := [tf [CS.bool]], boxes := [], rows := [] }
def C_cncref23_settled_0 (M_cncref23_Flat M_cncref23_Cross : Fn) : Cfg := { spec := lookS [(182, spOf sig_cncref23_Flat osig_cncref23_Flat M_cncref23_Flat), (150, spOf sig_cncref23_Cross osig_cncref23_Cross M_cncref23_Cross)], eqOk := eqAll, ownOff := ownOff }
def mf_cncref23_settled (M_cncref23_Flat M_cncref23_Cross : Fn) : Fn := modelF Tryz.prog (C_cncref23_settled_0 M_cncref23_Flat M_cncref23_Cross) 64 169 sig_cncref23_settled osig_cncref23_settled
theorem mf_cncref23_settled_eq (M_cncref23_Flat M_cncref23_Cross : Fn) (x0 x1 x2 x3 x4 x5 x6 x7 x8 : Int) (x9 : Bool) : mf_cncref23_settled M_cncref23_Flat M_cncref23_Cross [I x0, I x1, I x2, I x3, I x4, I x5, I x6, I x7, I x8, B x9] =
 bif !x9 then
 (M_cncref23_Cross [I x0, I x1, I x2, I x3, I x4, I x5, I x6, I x7]).bind fun o2 =>
 bif decide (IntKind.i64.wrap (gA o2 0 * x8) > 0) then
 (M_cncref23_Flat [I (mn x2 x6), I (IntKind.i64.wrap (IntKind.i64.wrap (IntKind.i64.wrap (x0 - x4) * IntKind.i64.wrap (x0 - x4)) + IntKind.i64.wrap (IntKind.i64.wrap (x1 - x5) * IntKind.i64.wrap (x1 - x5))))]).bind fun o3 =>
 some [B (bA o3 0)]
 else
 some [B false]
 else
 some [B false] := by kernel_rfl
def m_cncref23_settled := mf_cncref23_settled m_cncref23_Flat m_cncref23_Cross 
theorem sp_cncref23_settled : SpecOK Tryz.prog (C_cncref23_settled_0 m_cncref23_Flat m_cncref23_Cross) := specOK_of rfl ⟨r_cncref23_Flat, r_cncref23_Cross, trivial⟩
theorem r_cncref23_settled : RowOK Tryz.prog (169, spOf sig_cncref23_settled osig_cncref23_settled m_cncref23_settled) := row_of (C := (C_cncref23_settled_0 m_cncref23_Flat m_cncref23_Cross)) (L := 64) (by kernel_rfl) (FnOK.bare rfl rfl rfl) sp_cncref23_settled eqOk mixOk (by kernel_rfl) (by kernel_rfl)
def fuel_cncref23_pieces : Nat := 20
def sig_cncref23_pieces : Sk := { tmps := [TS.v true [ci, ci, ci, ci], TS.v true [ci, ci, ci, ci], tf [ci], tf [CS.bool], tf [ci]], boxes := [], rows := [] }
def osig_cncref23_pieces : Sk := { tmps := [tf [CS.own 103700 4]], boxes := [], rows := [(103700, 154, [kI, kI, kI, kI])] }
def C_cncref23_pieces_0 (M_cncref23_pieces M_cncref23_Middle M_cncref23_settled : Fn) : Cfg := { spec := lookS [(152, spOf sig_cncref23_pieces osig_cncref23_pieces M_cncref23_pieces), (170, spOf sig_cncref23_Middle osig_cncref23_Middle M_cncref23_Middle), (169, spOf sig_cncref23_settled osig_cncref23_settled M_cncref23_settled)], eqOk := eqAll, pure := fun f => !(elemN [152] f), ownOff := ownOff, rowDst := [23], rowAs := fun d => bif Nat.beq d 23 then 103700 else d, ownRes := true }
def mf_cncref23_pieces (M_cncref23_pieces M_cncref23_Middle M_cncref23_settled : Fn) : Fn := modelF Tryz.prog (C_cncref23_pieces_0 M_cncref23_pieces M_cncref23_Middle M_cncref23_settled) 64 152 sig_cncref23_pieces osig_cncref23_pieces
theorem mf_cncref23_pieces_eq (M_cncref23_pieces M_cncref23_Middle M_cncref23_settled : Fn) (x0 x1 x2 x3 x4 x5 x6 x7 x8 : Int) (x9 : Bool) (x10 : Int) : mf_cncref23_pieces M_cncref23_pieces M_cncref23_Middle M_cncref23_settled [I x0, I x1, I x2, I x3, I x4, I x5, I x6, I x7, I x8, B x9, I x10] =
 bif decide (x10 >= 16) then
 some [.view [kI, kI, kI, kI] [[I x4, I x5, I x6, I x7]]]
 else
 (M_cncref23_settled [I x0, I x1, I x2, I x3, I x4, I x5, I x6, I x7, I x8, B x9]).bind fun o4 =>
 bif bA o4 0 then
 some [.view [kI, kI, kI, kI] [[I x4, I x5, I x6, I x7]]]
 else
 (M_cncref23_Middle [I x0, I x1, I x2, I x3, I x4, I x5, I x6, I x7, I x8, B x9]).bind fun o5 =>
 (M_cncref23_pieces [I x0, I x1, I x2, I x3, jA o5 0, jA o5 1, jA o5 2, jA o5 3, I x8, B false, I (IntKind.i64.wrap (x10 + 1))]).bind fun o6 =>
 (M_cncref23_pieces [jA o5 0, jA o5 1, jA o5 2, jA o5 3, I x4, I x5, I x6, I x7, I x8, B false, I (IntKind.i64.wrap (x10 + 1))]).bind fun o7 =>
 bif ((wA o6 0 ++ wA o7 0).length * 32).ble 140737488355328 then
 some [.view [kI, kI, kI, kI] (wA o6 0 ++ wA o7 0)]
 else
 none := by kernel_rfl
def mG_cncref23_pieces (M : Fn) : Fn := mf_cncref23_pieces M m_cncref23_Middle m_cncref23_settled 
def mR_cncref23_pieces : Nat -> Fn
 | 0 => fun _ => none
 | n + 1 => mG_cncref23_pieces (mR_cncref23_pieces n)
theorem sp_cncref23_pieces {M : Fn} (h : RowOK Tryz.prog (152, spOf sig_cncref23_pieces osig_cncref23_pieces M)) : SpecOK Tryz.prog (C_cncref23_pieces_0 M m_cncref23_Middle m_cncref23_settled) := specOK_of rfl ⟨h, r_cncref23_Middle, r_cncref23_settled, trivial⟩
theorem rG_cncref23_pieces {M : Fn} (h : RowOK Tryz.prog (152, spOf sig_cncref23_pieces osig_cncref23_pieces M)) : RowOK Tryz.prog (152, spOf sig_cncref23_pieces osig_cncref23_pieces (mG_cncref23_pieces M)) := row_of (C := (C_cncref23_pieces_0 M m_cncref23_Middle m_cncref23_settled)) (L := 64) (by kernel_rfl) (FnOK.bare rfl rfl rfl) (sp_cncref23_pieces h) eqOk mixOk (by kernel_rfl) (by kernel_rfl)
theorem rR_cncref23_pieces : ∀ n, RowOK Tryz.prog (152, spOf sig_cncref23_pieces osig_cncref23_pieces (mR_cncref23_pieces n))
 | 0 => row_none
 | n + 1 => rG_cncref23_pieces (rR_cncref23_pieces n)
def m_cncref23_pieces := mR_cncref23_pieces fuel_cncref23_pieces
theorem r_cncref23_pieces : RowOK Tryz.prog (152, spOf sig_cncref23_pieces osig_cncref23_pieces m_cncref23_pieces) := rR_cncref23_pieces fuel_cncref23_pieces
def sig_cncref23_spoke : Sk := { tmps := [TS.v true [ci, ci, ci, ci]], boxes := [], rows := [] }
def osig_cncref23_spoke : Sk := { tmps := [TS.v true [ci, ci, ci, ci]], boxes := [], rows := [] }
def C_cncref23_spoke_0 (M_cncref23_root M_cncref23_Dot : Fn) : Cfg := { spec := lookS [(117, spOf sig_cncref23_root osig_cncref23_root M_cncref23_root), (148, spOf sig_cncref23_Dot osig_cncref23_Dot M_cncref23_Dot)], eqOk := eqAll, ownOff := ownOff }
def mf_cncref23_spoke (M_cncref23_root M_cncref23_Dot : Fn) : Fn := modelF Tryz.prog (C_cncref23_spoke_0 M_cncref23_root M_cncref23_Dot) 64 168 sig_cncref23_spoke osig_cncref23_spoke
theorem mf_cncref23_spoke_eq (M_cncref23_root M_cncref23_Dot : Fn) (x0 x1 x2 x3 : Int) : mf_cncref23_spoke M_cncref23_root M_cncref23_Dot [I x0, I x1, I x2, I x3] =
 (M_cncref23_Dot [I (IntKind.i64.wrap (x0 * 16)), I (IntKind.i64.wrap (x1 * 16)), I 0, I (IntKind.i64.wrap (x3 * 16)), I (IntKind.i64.wrap (x0 * 16)), I (IntKind.i64.wrap (x1 * 16)), I 0, I (IntKind.i64.wrap (x3 * 16))]).bind fun o2 =>
 (M_cncref23_root [jA o2 0]).bind fun o3 =>
 bif decide (IntKind.i64.wrap (gA o3 0 * IntKind.i64.wrap (gA o3 0 + 1)) < gA o2 0) then
 some [I (IntKind.i64.wrap (x0 * 16)), I (IntKind.i64.wrap (x1 * 16)), I (IntKind.i64.wrap (gA o3 0 + 1)), I (IntKind.i64.wrap (x3 * 16))]
 else
 some [I (IntKind.i64.wrap (x0 * 16)), I (IntKind.i64.wrap (x1 * 16)), jA o3 0, I (IntKind.i64.wrap (x3 * 16))] := by kernel_rfl
def m_cncref23_spoke := mf_cncref23_spoke m_cncref23_root m_cncref23_Dot 
theorem sp_cncref23_spoke : SpecOK Tryz.prog (C_cncref23_spoke_0 m_cncref23_root m_cncref23_Dot) := specOK_of rfl ⟨r_cncref23_root, r_cncref23_Dot, trivial⟩
theorem r_cncref23_spoke : RowOK Tryz.prog (168, spOf sig_cncref23_spoke osig_cncref23_spoke m_cncref23_spoke) := row_of (C := (C_cncref23_spoke_0 m_cncref23_root m_cncref23_Dot)) (L := 64) (by kernel_rfl) (FnOK.bare rfl rfl rfl) sp_cncref23_spoke eqOk mixOk (by kernel_rfl) (by kernel_rfl)
def sig_cncref23_ends : Sk := { tmps := [TS.v true [ci, ci, ci, ci, ci, ci, ci, ci, ci, ci, ci, ci, ci, CS.bool, ci, CS.bool, ci, ci, ci, ci, ci, CS.bool]], boxes := [], rows := [] }
def osig_cncref23_ends : Sk := { tmps := [TS.tup [(true, [ci, ci, ci, ci]), (true, [ci, ci, ci, ci])]], boxes := [], rows := [] }
def C_cncref23_ends_0 (M_cncref23_Plane : Fn) : Cfg := { spec := lookS [(123, spOf sig_cncref23_Plane osig_cncref23_Plane M_cncref23_Plane)], eqOk := eqAll, ownOff := ownOff }
def mf_cncref23_ends (M_cncref23_Plane : Fn) : Fn := modelF Tryz.prog (C_cncref23_ends_0 M_cncref23_Plane) 64 147 sig_cncref23_ends osig_cncref23_ends
theorem mf_cncref23_ends_eq (M_cncref23_Plane : Fn) (x0 x1 x2 x3 x4 x5 x6 x7 x8 x9 x10 x11 x12 : Int) (x13 : Bool) (x14 : Int) (x15 : Bool) (x16 x17 x18 x19 x20 : Int) (x21 : Bool) : mf_cncref23_ends M_cncref23_Plane [I x0, I x1, I x2, I x3, I x4, I x5, I x6, I x7, I x8, I x9, I x10, I x11, I x12, B x13, I x14, B x15, I x16, I x17, I x18, I x19, I x20, B x21] =
 (M_cncref23_Plane [I x9, I x10, I x11, I x8]).bind fun o3 =>
 (M_cncref23_Plane [I x2, I x3, I x4, I x8]).bind fun o4 =>
 (M_cncref23_Plane [I x5, I x6, I x7, I x8]).bind fun o5 =>
 some [I (IntKind.i64.wrap (gA o4 0 - gA o3 0)), I (IntKind.i64.wrap (gA o4 1 - gA o3 1)), I 0, jA o4 2, I (IntKind.i64.wrap (gA o5 0 - gA o3 0)), I (IntKind.i64.wrap (gA o5 1 - gA o3 1)), I 0, jA o5 2] := by kernel_rfl
def m_cncref23_ends := mf_cncref23_ends m_cncref23_Plane 
theorem sp_cncref23_ends : SpecOK Tryz.prog (C_cncref23_ends_0 m_cncref23_Plane) := specOK_of rfl ⟨r_cncref23_Plane, trivial⟩
theorem r_cncref23_ends : RowOK Tryz.prog (147, spOf sig_cncref23_ends osig_cncref23_ends m_cncref23_ends) := row_of (C := (C_cncref23_ends_0 m_cncref23_Plane)) (L := 64) (by kernel_rfl) (FnOK.bare rfl rfl rfl) sp_cncref23_ends eqOk mixOk (by kernel_rfl) (by kernel_rfl)
def sig_cncref23_Ends : Sk := { tmps := [TS.v true [ci, ci, ci, ci, ci, ci, ci, ci, ci, ci, ci, ci, ci, CS.bool, ci, CS.bool, ci, ci, ci, ci, ci, CS.bool]], boxes := [], rows := [] }
def osig_cncref23_Ends : Sk := { tmps := [TS.tup [(true, [ci, ci, ci, ci]), (true, [ci, ci, ci, ci])]], boxes := [], rows := [] }
def C_cncref23_Ends_0 (M_cncref23_spoke M_cncref23_ends : Fn) : Cfg := { spec := lookS [(168, spOf sig_cncref23_spoke osig_cncref23_spoke M_cncref23_spoke), (147, spOf sig_cncref23_ends osig_cncref23_ends M_cncref23_ends)], eqOk := eqAll, ownOff := ownOff }
def mf_cncref23_Ends (M_cncref23_spoke M_cncref23_ends : Fn) : Fn := modelF Tryz.prog (C_cncref23_Ends_0 M_cncref23_spoke M_cncref23_ends) 64 151 sig_cncref23_Ends osig_cncref23_Ends
theorem mf_cncref23_Ends_eq (M_cncref23_spoke M_cncref23_ends : Fn) (x0 x1 x2 x3 x4 x5 x6 x7 x8 x9 x10 x11 x12 : Int) (x13 : Bool) (x14 : Int) (x15 : Bool) (x16 x17 x18 x19 x20 : Int) (x21 : Bool) : mf_cncref23_Ends M_cncref23_spoke M_cncref23_ends [I x0, I x1, I x2, I x3, I x4, I x5, I x6, I x7, I x8, I x9, I x10, I x11, I x12, B x13, I x14, B x15, I x16, I x17, I x18, I x19, I x20, B x21] =
 (M_cncref23_ends [I x0, I x1, I x2, I x3, I x4, I x5, I x6, I x7, I x8, I x9, I x10, I x11, I x12, B x13, I x14, B x15, I x16, I x17, I x18, I x19, I x20, B x21]).bind fun o3 =>
 (M_cncref23_spoke [jA o3 0, jA o3 1, jA o3 2, jA o3 3]).bind fun o4 =>
 (M_cncref23_spoke [jA o3 4, jA o3 5, jA o3 6, jA o3 7]).bind fun o5 =>
 some [jA o4 0, jA o4 1, jA o4 2, jA o4 3, jA o5 0, jA o5 1, jA o5 2, jA o5 3] := by kernel_rfl
def m_cncref23_Ends := mf_cncref23_Ends m_cncref23_spoke m_cncref23_ends 
theorem sp_cncref23_Ends : SpecOK Tryz.prog (C_cncref23_Ends_0 m_cncref23_spoke m_cncref23_ends) := specOK_of rfl ⟨r_cncref23_spoke, r_cncref23_ends, trivial⟩
theorem r_cncref23_Ends : RowOK Tryz.prog (151, spOf sig_cncref23_Ends osig_cncref23_Ends m_cncref23_Ends) := row_of (C := (C_cncref23_Ends_0 m_cncref23_spoke m_cncref23_ends)) (L := 64) (by kernel_rfl) (FnOK.bare rfl rfl rfl) sp_cncref23_Ends eqOk mixOk (by kernel_rfl) (by kernel_rfl)
def sig_cncref01_cmp : Sk := { tmps := [tf [CS.sl [Kd.int .u64]], tf [CS.sl [Kd.int .u64]]], boxes := [], rows := [] }
def osig_cncref01_cmp : Sk := { tmps := [tf [ci]], boxes := [], rows := [] }
def C_cncref01_cmp_0 : Cfg := { spec := lookS [], eqOk := eqAll, ownOff := ownOff }
def sk_cncref01_cmp_6 : Sk := { tmps := [tf [CS.sl [Kd.int .u64]], tf [CS.sl [Kd.int .u64]], td, td, td, tf [ci]] ++ dd 35, boxes := [], rows := [] }
def ex_cncref01_cmp_6 : List (Ex × Sk) := [(Ex.ret, { tmps := [td, td, td, td, tf [ci]] ++ dd 36, boxes := [], rows := [] }), (Ex.exit 0, { tmps := [td] ++ dd 40, boxes := [], rows := [] })]
def st_cncref01_cmp_6 : Lp := stepL Tryz.prog C_cncref01_cmp_0 64 6 (bodyOf Tryz.prog 166 6) sk_cncref01_cmp_6 ex_cncref01_cmp_6
def C_cncref01_cmp_1 (N6 : Lp) : Cfg := C_cncref01_cmp_0.loop 6 sk_cncref01_cmp_6 ex_cncref01_cmp_6 N6
def mf_cncref01_cmp (N6 : Lp) : Fn := modelF Tryz.prog (C_cncref01_cmp_1 N6) 64 166 sig_cncref01_cmp osig_cncref01_cmp
theorem st_cncref01_cmp_6_eq (v0 v1 : Rw) (v2 : Int) : st_cncref01_cmp_6 [.view [Kd.int .u64] v0, .view [Kd.int .u64] v1, I v2] =
 bif decide (v2 >= 0) then
 bif decide (0 <= v2) && decide (v2 < (v0.length : Int)) then
 bif decide (0 <= v2) && decide (v2 < (v1.length : Int)) then
 bif decide (intOf (nth .dead (nth [] v0 v2.toNat) 0) < intOf (nth .dead (nth [] v1 v2.toNat) 0)) then
 some (1, [I (-1)])
 else
 bif decide (0 <= v2) && decide (v2 < (v0.length : Int)) then
 bif decide (0 <= v2) && decide (v2 < (v1.length : Int)) then
 bif decide (intOf (nth .dead (nth [] v0 v2.toNat) 0) > intOf (nth .dead (nth [] v1 v2.toNat) 0)) then
 some (1, [I 1])
 else
 some (0, [.view [Kd.int IntKind.u64] v0, .view [Kd.int IntKind.u64] v1, I (IntKind.i64.wrap (v2 - 1))])
 else
 none
 else
 none
 else
 none
 else
 none
 else
 some (2, []) := by kernel_rfl
theorem mf_cncref01_cmp_eq (N6 : Lp) (x0 x1 : Rw) : mf_cncref01_cmp N6 [.view [Kd.int .u64] x0, .view [Kd.int .u64] x1] =
 bif (x0.length : Int) != (x1.length : Int) then
 bif decide ((x0.length : Int) < (x1.length : Int)) then
 some [I (-1)]
 else
 some [I 1]
 else
 (N6 [.view [Kd.int IntKind.u64] x0, .view [Kd.int IntKind.u64] x1, I (IntKind.i64.wrap ((x0.length : Int) - 1))]).bind fun o1 =>
 bif o1.1.beq 1 then
 some [I (intOf (nth .dead o1.2 0))]
 else
 bif o1.1.beq 2 then
 some [I 0]
 else
 none := by kernel_rfl
def l_cncref01_cmp_6 := loopC (st_cncref01_cmp_6 )
def m_cncref01_cmp := mf_cncref01_cmp l_cncref01_cmp_6
theorem sp_cncref01_cmp : SpecOK Tryz.prog (C_cncref01_cmp_0 ) := specOK_of rfl trivial
theorem r_cncref01_cmp : RowOK Tryz.prog (166, spOf sig_cncref01_cmp osig_cncref01_cmp m_cncref01_cmp) := row_of (C := (C_cncref01_cmp_1 l_cncref01_cmp_6)) (L := 64) (by kernel_rfl) ((FnOK.bare rfl rfl rfl).loop sp_cncref01_cmp eqOk mixOk (by kernel_rfl) (by kernel_rfl)) sp_cncref01_cmp eqOk mixOk (by kernel_rfl) (by kernel_rfl)
def sig_cncref01_cut : Sk := { tmps := [tf [CS.sl [Kd.int .u64]]], boxes := [], rows := [] }
def osig_cncref01_cut : Sk := { tmps := [tf [CS.sl [Kd.int .u64]]], boxes := [], rows := [] }
def C_cncref01_cut_0 : Cfg := { spec := lookS [], eqOk := eqAll, ownOff := ownOff }
def sk_cncref01_cut_1 : Sk := { tmps := [tf [CS.sl [Kd.int .u64]]] ++ dd 20, boxes := [], rows := [] }
def ex_cncref01_cut_1 : List (Ex × Sk) := [(Ex.exit 0, { tmps := [tf [CS.sl [Kd.int .u64]]] ++ dd 20, boxes := [], rows := [] })]
def st_cncref01_cut_1 : Lp := stepL Tryz.prog C_cncref01_cut_0 64 1 (bodyOf Tryz.prog 191 1) sk_cncref01_cut_1 ex_cncref01_cut_1
def C_cncref01_cut_1 (N1 : Lp) : Cfg := C_cncref01_cut_0.loop 1 sk_cncref01_cut_1 ex_cncref01_cut_1 N1
def mf_cncref01_cut (N1 : Lp) : Fn := modelF Tryz.prog (C_cncref01_cut_1 N1) 64 191 sig_cncref01_cut osig_cncref01_cut
theorem st_cncref01_cut_1_eq (v0 : Rw) : st_cncref01_cut_1 [.view [Kd.int .u64] v0] =
 bif decide ((v0.length : Int) > 0) then
 bif decide (0 <= IntKind.i64.wrap ((v0.length : Int) - 1)) && decide (IntKind.i64.wrap ((v0.length : Int) - 1) < (v0.length : Int)) then
 bif intOf (nth .dead (nth [] v0 (IntKind.i64.wrap ((v0.length : Int) - 1)).toNat) 0) == 0 then
 bif decide (0 <= IntKind.i64.wrap ((v0.length : Int) - 1)) && decide (IntKind.i64.wrap ((v0.length : Int) - 1) <= (v0.length : Int)) then
 some (0, [.view [Kd.int IntKind.u64] (List.take (IntKind.i64.wrap ((v0.length : Int) - 1)).toNat v0)])
 else
 none
 else
 some (1, [.view [Kd.int IntKind.u64] v0])
 else
 none
 else
 some (1, [.view [Kd.int IntKind.u64] v0]) := by kernel_rfl
theorem mf_cncref01_cut_eq (N1 : Lp) (x0 : Rw) : mf_cncref01_cut N1 [.view [Kd.int .u64] x0] =
 (N1 [.view [Kd.int IntKind.u64] x0]).bind fun o1 =>
 bif o1.1.beq 1 then
 some [.view [Kd.int IntKind.u64] (rowsOf (nth .dead o1.2 0))]
 else
 none := by kernel_rfl
def l_cncref01_cut_1 := loopC (st_cncref01_cut_1 )
def m_cncref01_cut := mf_cncref01_cut l_cncref01_cut_1
theorem sp_cncref01_cut : SpecOK Tryz.prog (C_cncref01_cut_0 ) := specOK_of rfl trivial
theorem r_cncref01_cut : RowOK Tryz.prog (191, spOf sig_cncref01_cut osig_cncref01_cut m_cncref01_cut) := row_of (C := (C_cncref01_cut_1 l_cncref01_cut_1)) (L := 64) (by kernel_rfl) ((FnOK.bare rfl rfl rfl).loop sp_cncref01_cut eqOk mixOk (by kernel_rfl) (by kernel_rfl)) sp_cncref01_cut eqOk mixOk (by kernel_rfl) (by kernel_rfl)
def sig_cncref01_mul : Sk := { tmps := [tf [CS.sl [Kd.int .u64]], tf [CS.sl [Kd.int .u64]]], boxes := [], rows := [] }
def osig_cncref01_mul : Sk := { tmps := [tf [CS.sl [Kd.int .u64]]], boxes := [], rows := [] }
def C_cncref01_mul_0 (M_cncref01_cut : Fn) : Cfg := { spec := lookS [(191, spOf sig_cncref01_cut osig_cncref01_cut M_cncref01_cut)], eqOk := eqAll, ownOff := ownOff }
def sk_cncref01_mul_7 : Sk := { tmps := [tf [CS.sl [Kd.int .u64]], tf [CS.sl [Kd.int .u64]], td, td, td, tf [CS.own 15 1], tf [ci], tf [CS.int .u64], tf [ci]] ++ dd 63, boxes := [], rows := [(15, 123, [Kd.int .u64])] }
def ex_cncref01_mul_7 : List (Ex × Sk) := [(Ex.exit 2, { tmps := [tf [CS.sl [Kd.int .u64]], tf [CS.sl [Kd.int .u64]], td, td, td, tf [CS.own 15 1], tf [ci], tf [CS.int .u64]] ++ dd 64, boxes := [], rows := [(15, 123, [Kd.int .u64])] })]
def st_cncref01_mul_7 (M_cncref01_cut : Fn) : Lp := stepL Tryz.prog (C_cncref01_mul_0 M_cncref01_cut) 64 7 (bodyOf Tryz.prog 179 7) sk_cncref01_mul_7 ex_cncref01_mul_7
def C_cncref01_mul_1 (M_cncref01_cut : Fn) (N7 : Lp) : Cfg := (C_cncref01_mul_0 M_cncref01_cut).loop 7 sk_cncref01_mul_7 ex_cncref01_mul_7 N7
def sk_cncref01_mul_3 : Sk := { tmps := [tf [CS.sl [Kd.int .u64]], tf [CS.sl [Kd.int .u64]], td, td, td, tf [CS.own 15 1], tf [ci]] ++ dd 65, boxes := [], rows := [(15, 123, [Kd.int .u64])] }
def ex_cncref01_mul_3 : List (Ex × Sk) := [(Ex.exit 0, { tmps := [td, td, td, td, td, tf [CS.own 15 1]] ++ dd 66, boxes := [], rows := [(15, 123, [Kd.int .u64])] })]
def st_cncref01_mul_3 (M_cncref01_cut : Fn) (N7 : Lp) : Lp := stepL Tryz.prog (C_cncref01_mul_1 M_cncref01_cut N7) 64 3 (bodyOf Tryz.prog 179 3) sk_cncref01_mul_3 ex_cncref01_mul_3
def C_cncref01_mul_2 (M_cncref01_cut : Fn) (N7 N3 : Lp) : Cfg := (C_cncref01_mul_1 M_cncref01_cut N7).loop 3 sk_cncref01_mul_3 ex_cncref01_mul_3 N3
def mf_cncref01_mul (M_cncref01_cut : Fn) (N7 N3 : Lp) : Fn := modelF Tryz.prog (C_cncref01_mul_2 M_cncref01_cut N7 N3) 64 179 sig_cncref01_mul osig_cncref01_mul
theorem st_cncref01_mul_7_eq (M_cncref01_cut : Fn) (v0 v1 v2 : Rw) (v3 v4 v5 : Int) : st_cncref01_mul_7 M_cncref01_cut [.view [Kd.int .u64] v0, .view [Kd.int .u64] v1, .view [Kd.int .u64] v2, I v3, U v4, I v5] =
 bif decide (v5 < (v2.length : Int)) then
 bif decide (0 <= IntKind.i64.wrap (v3 + v5)) && decide (IntKind.i64.wrap (v3 + v5) < (v0.length : Int)) then
 bif decide (0 <= v3) && decide (v3 < (v1.length : Int)) then
 bif decide (0 <= v5) && decide (v5 < (v2.length : Int)) then
 bif decide (0 <= IntKind.i64.wrap (v3 + v5)) && decide (IntKind.i64.wrap (v3 + v5) < (v0.length : Int)) then
 some (0, [.view [Kd.int IntKind.u64] (v0.set (IntKind.i64.wrap (v3 + v5)).toNat [U (IntKind.u64.wrap (↑(BitVec.ofInt IntKind.u64.bits (IntKind.u64.wrap (IntKind.u64.wrap (intOf (nth .dead (nth [] v0 (IntKind.i64.wrap (v3 + v5)).toNat) 0) + IntKind.u64.wrap (intOf (nth .dead (nth [] v1 v3.toNat) 0) * intOf (nth .dead (nth [] v2 v5.toNat) 0))) + v4)) &&& BitVec.ofInt IntKind.u64.bits 65535).toNat : Int))]), .view [Kd.int IntKind.u64] v1, .view [Kd.int IntKind.u64] v2, I v3, U ((IntKind.u64.wrap (IntKind.u64.wrap (intOf (nth .dead (nth [] v0 (IntKind.i64.wrap (v3 + v5)).toNat) 0) + IntKind.u64.wrap (intOf (nth .dead (nth [] v1 v3.toNat) 0) * intOf (nth .dead (nth [] v2 v5.toNat) 0))) + v4)).fdiv (2 ^ min (Int.toNat 16) IntKind.u64.bits)), I (IntKind.i64.wrap (v5 + 1))])
 else
 none
 else
 none
 else
 none
 else
 none
 else
 some (1, [.view [Kd.int IntKind.u64] v0, .view [Kd.int IntKind.u64] v1, .view [Kd.int IntKind.u64] v2, I v3, U v4]) := by kernel_rfl
theorem st_cncref01_mul_3_eq (M_cncref01_cut : Fn) (N7 : Lp) (v0 v1 v2 : Rw) (v3 : Int) : st_cncref01_mul_3 M_cncref01_cut N7 [.view [Kd.int .u64] v0, .view [Kd.int .u64] v1, .view [Kd.int .u64] v2, I v3] =
 bif decide (v3 < (v1.length : Int)) then
 (N7 [.view [Kd.int IntKind.u64] v0, .view [Kd.int IntKind.u64] v1, .view [Kd.int IntKind.u64] v2, I v3, U 0, I 0]).bind fun o3 =>
 bif o3.1.beq 1 then
 bif decide (0 <= IntKind.i64.wrap (intOf (nth .dead o3.2 3) + (↑(rowsOf (nth .dead o3.2 2)).length : Int))) && decide (IntKind.i64.wrap (intOf (nth .dead o3.2 3) + (↑(rowsOf (nth .dead o3.2 2)).length : Int)) < (↑(rowsOf (nth .dead o3.2 0)).length : Int)) then
 bif decide (0 <= IntKind.i64.wrap (intOf (nth .dead o3.2 3) + (↑(rowsOf (nth .dead o3.2 2)).length : Int))) && decide (IntKind.i64.wrap (intOf (nth .dead o3.2 3) + (↑(rowsOf (nth .dead o3.2 2)).length : Int)) < (↑(rowsOf (nth .dead o3.2 0)).length : Int)) then
 some (0, [.view [Kd.int IntKind.u64] ((rowsOf (nth .dead o3.2 0)).set (IntKind.i64.wrap (intOf (nth .dead o3.2 3) + (↑(rowsOf (nth .dead o3.2 2)).length : Int))).toNat [U (IntKind.u64.wrap (intOf (nth .dead (nth [] (rowsOf (nth .dead o3.2 0)) (IntKind.i64.wrap (intOf (nth .dead o3.2 3) + (↑(rowsOf (nth .dead o3.2 2)).length : Int))).toNat) 0) + intOf (nth .dead o3.2 4)))]), .view [Kd.int IntKind.u64] (rowsOf (nth .dead o3.2 1)), .view [Kd.int IntKind.u64] (rowsOf (nth .dead o3.2 2)), I (IntKind.i64.wrap (intOf (nth .dead o3.2 3) + 1))])
 else
 none
 else
 none
 else
 none
 else
 some (1, [.view [Kd.int IntKind.u64] v0]) := by kernel_rfl
theorem mf_cncref01_mul_eq (M_cncref01_cut : Fn) (N7 N3 : Lp) (x0 x1 : Rw) : mf_cncref01_mul M_cncref01_cut N7 N3 [.view [Kd.int .u64] x0, .view [Kd.int .u64] x1] =
 bif decide (IntKind.i64.wrap ((x0.length : Int) + (x1.length : Int)) = IntKind.i64.wrap ((x0.length : Int) + (x1.length : Int))) then
 bif decide (0 <= IntKind.i64.wrap ((x0.length : Int) + (x1.length : Int))) && decide (IntKind.i64.wrap ((x0.length : Int) + (x1.length : Int)) * (↑8 : Int) <= 140737488355328) then
 (N3 [.view [Kd.int IntKind.u64] (List.replicate (IntKind.i64.wrap ((x0.length : Int) + (x1.length : Int))).toNat [U 0]), .view [Kd.int IntKind.u64] x0, .view [Kd.int IntKind.u64] x1, I 0]).bind fun o4 =>
 bif o4.1.beq 1 then
 (M_cncref01_cut [.view [Kd.int IntKind.u64] (rowsOf (nth .dead o4.2 0))]).bind fun o5 =>
 some [.view [Kd.int IntKind.u64] (rowsOf (nth .dead o5 0))]
 else
 none
 else
 none
 else
 none := by kernel_rfl
def l_cncref01_mul_7 := loopC (st_cncref01_mul_7 m_cncref01_cut )
def l_cncref01_mul_3 := loopC (st_cncref01_mul_3 m_cncref01_cut l_cncref01_mul_7)
def m_cncref01_mul := mf_cncref01_mul m_cncref01_cut l_cncref01_mul_7 l_cncref01_mul_3
theorem sp_cncref01_mul : SpecOK Tryz.prog (C_cncref01_mul_0 m_cncref01_cut) := specOK_of rfl ⟨r_cncref01_cut, trivial⟩
theorem r_cncref01_mul : RowOK Tryz.prog (179, spOf sig_cncref01_mul osig_cncref01_mul m_cncref01_mul) := row_of (C := (C_cncref01_mul_2 m_cncref01_cut l_cncref01_mul_7 l_cncref01_mul_3)) (L := 64) (by kernel_rfl) (((FnOK.bare rfl rfl rfl).loop sp_cncref01_mul eqOk mixOk (by kernel_rfl) (by kernel_rfl)).loop sp_cncref01_mul eqOk mixOk (by kernel_rfl) (by kernel_rfl)) sp_cncref01_mul eqOk mixOk (by kernel_rfl) (by kernel_rfl)
def sig_cncref01_limbs : Sk := { tmps := [tf [CS.int .u64]], boxes := [], rows := [] }
def osig_cncref01_limbs : Sk := { tmps := [tf [CS.sl [Kd.int .u64]]], boxes := [], rows := [] }
def C_cncref01_limbs_0 : Cfg := { spec := lookS [], eqOk := eqAll, ownOff := ownOff, prom := fun b => bif Nat.beq b 2 then [(3, 123)] else [] }
def sk_cncref01_limbs_2 : Sk := { tmps := [tf [CS.int .u64], td, td, tf [CS.own 3 1]] ++ dd 10, boxes := [], rows := [(3, 123, [Kd.int .u64])] }
def ex_cncref01_limbs_2 : List (Ex × Sk) := [(Ex.exit 0, { tmps := [td, td, td, tf [CS.own 3 1]] ++ dd 10, boxes := [], rows := [(3, 123, [Kd.int .u64])] })]
def st_cncref01_limbs_2 : Lp := stepL Tryz.prog C_cncref01_limbs_0 64 2 (bodyOf Tryz.prog 180 2) sk_cncref01_limbs_2 ex_cncref01_limbs_2
def C_cncref01_limbs_1 (N2 : Lp) : Cfg := C_cncref01_limbs_0.loop 2 sk_cncref01_limbs_2 ex_cncref01_limbs_2 N2
def mf_cncref01_limbs (N2 : Lp) : Fn := modelF Tryz.prog (C_cncref01_limbs_1 N2) 64 180 sig_cncref01_limbs osig_cncref01_limbs
theorem st_cncref01_limbs_2_eq (v0 : Rw) (v1 : Int) : st_cncref01_limbs_2 [.view [Kd.int .u64] v0, U v1] =
 bif decide (v1 > 0) then
 bif ((v0 ++ [[U (IntKind.u64.wrap (↑(BitVec.ofInt IntKind.u64.bits v1 &&& BitVec.ofInt IntKind.u64.bits 65535).toNat : Int))]]).length * 8).ble 140737488355328 then
 some (0, [.view [Kd.int IntKind.u64] (v0 ++ [[U (IntKind.u64.wrap (↑(BitVec.ofInt IntKind.u64.bits v1 &&& BitVec.ofInt IntKind.u64.bits 65535).toNat : Int))]]), U (v1.fdiv (2 ^ min (Int.toNat 16) IntKind.u64.bits))])
 else
 none
 else
 some (1, [.view [Kd.int IntKind.u64] v0]) := by kernel_rfl
theorem mf_cncref01_limbs_eq (N2 : Lp) (x0 : Int) : mf_cncref01_limbs N2 [U x0] =
 (N2 [.view [Kd.int IntKind.u64] [], U x0]).bind fun o1 =>
 bif o1.1.beq 1 then
 some [.view [Kd.int IntKind.u64] (rowsOf (nth .dead o1.2 0))]
 else
 none := by kernel_rfl
def l_cncref01_limbs_2 := loopC (st_cncref01_limbs_2 )
def m_cncref01_limbs := mf_cncref01_limbs l_cncref01_limbs_2
theorem sp_cncref01_limbs : SpecOK Tryz.prog (C_cncref01_limbs_0 ) := specOK_of rfl trivial
theorem r_cncref01_limbs : RowOK Tryz.prog (180, spOf sig_cncref01_limbs osig_cncref01_limbs m_cncref01_limbs) := row_of (C := (C_cncref01_limbs_1 l_cncref01_limbs_2)) (L := 64) (by kernel_rfl) ((FnOK.bare rfl rfl rfl).loop sp_cncref01_limbs eqOk mixOk (by kernel_rfl) (by kernel_rfl)) sp_cncref01_limbs eqOk mixOk (by kernel_rfl) (by kernel_rfl)
def sig_cncref01_mag : Sk := { tmps := [tf [ci]], boxes := [], rows := [] }
def osig_cncref01_mag : Sk := { tmps := [tf [CS.int .u64]], boxes := [], rows := [] }
def C_cncref01_mag_0 : Cfg := { spec := lookS [], eqOk := eqAll, ownOff := ownOff }
def mf_cncref01_mag : Fn := modelF Tryz.prog C_cncref01_mag_0 64 181 sig_cncref01_mag osig_cncref01_mag
theorem mf_cncref01_mag_eq (x0 : Int) : mf_cncref01_mag [I x0] =
 bif decide (x0 < 0) then
 some [U (IntKind.u64.wrap (IntKind.u64.wrap (IntKind.i64.wrap (0 - IntKind.i64.wrap (x0 + 1))) + 1))]
 else
 some [U (IntKind.u64.wrap x0)] := by kernel_rfl
def m_cncref01_mag := mf_cncref01_mag 
theorem sp_cncref01_mag : SpecOK Tryz.prog (C_cncref01_mag_0 ) := specOK_of rfl trivial
theorem r_cncref01_mag : RowOK Tryz.prog (181, spOf sig_cncref01_mag osig_cncref01_mag m_cncref01_mag) := row_of (C := C_cncref01_mag_0) (L := 64) (by kernel_rfl) (FnOK.bare rfl rfl rfl) sp_cncref01_mag eqOk mixOk (by kernel_rfl) (by kernel_rfl)
def sig_cncref01_product : Sk := { tmps := [tf [ci], tf [ci]], boxes := [], rows := [] }
def osig_cncref01_product : Sk := { tmps := [tf [CS.sl [Kd.int .u64]]], boxes := [], rows := [] }
def C_cncref01_product_0 (M_cncref01_mul M_cncref01_limbs M_cncref01_mag : Fn) : Cfg := { spec := lookS [(179, spOf sig_cncref01_mul osig_cncref01_mul M_cncref01_mul), (180, spOf sig_cncref01_limbs osig_cncref01_limbs M_cncref01_limbs), (181, spOf sig_cncref01_mag osig_cncref01_mag M_cncref01_mag)], eqOk := eqAll, ownOff := ownOff }
def mf_cncref01_product (M_cncref01_mul M_cncref01_limbs M_cncref01_mag : Fn) : Fn := modelF Tryz.prog (C_cncref01_product_0 M_cncref01_mul M_cncref01_limbs M_cncref01_mag) 64 167 sig_cncref01_product osig_cncref01_product
theorem mf_cncref01_product_eq (M_cncref01_mul M_cncref01_limbs M_cncref01_mag : Fn) (x0 x1 : Int) : mf_cncref01_product M_cncref01_mul M_cncref01_limbs M_cncref01_mag [I x0, I x1] =
 (M_cncref01_mag [I x0]).bind fun o5 =>
 (M_cncref01_limbs [U (intOf (nth .dead o5 0))]).bind fun o6 =>
 (M_cncref01_mag [I x1]).bind fun o7 =>
 (M_cncref01_limbs [U (intOf (nth .dead o7 0))]).bind fun o8 =>
 (M_cncref01_mul [.view [Kd.int IntKind.u64] (rowsOf (nth .dead o6 0)), .view [Kd.int IntKind.u64] (rowsOf (nth .dead o8 0))]).bind fun o9 =>
 some [.view [Kd.int IntKind.u64] (rowsOf (nth .dead o9 0))] := by kernel_rfl
def m_cncref01_product := mf_cncref01_product m_cncref01_mul m_cncref01_limbs m_cncref01_mag 
theorem sp_cncref01_product : SpecOK Tryz.prog (C_cncref01_product_0 m_cncref01_mul m_cncref01_limbs m_cncref01_mag) := specOK_of rfl ⟨r_cncref01_mul, r_cncref01_limbs, r_cncref01_mag, trivial⟩
theorem r_cncref01_product : RowOK Tryz.prog (167, spOf sig_cncref01_product osig_cncref01_product m_cncref01_product) := row_of (C := (C_cncref01_product_0 m_cncref01_mul m_cncref01_limbs m_cncref01_mag)) (L := 64) (by kernel_rfl) (FnOK.bare rfl rfl rfl) sp_cncref01_product eqOk mixOk (by kernel_rfl) (by kernel_rfl)
def sig_cncref01_sign : Sk := { tmps := [tf [ci], tf [ci]], boxes := [], rows := [] }
def osig_cncref01_sign : Sk := { tmps := [tf [ci]], boxes := [], rows := [] }
def C_cncref01_sign_0 : Cfg := { spec := lookS [], eqOk := eqAll, ownOff := ownOff }
def mf_cncref01_sign : Fn := modelF Tryz.prog C_cncref01_sign_0 64 165 sig_cncref01_sign osig_cncref01_sign
theorem mf_cncref01_sign_eq (x0 x1 : Int) : mf_cncref01_sign [I x0, I x1] =
 bif x0 == 0 then
 some [I 0]
 else
 bif x1 == 0 then
 some [I 0]
 else
 bif decide (x0 < 0) == decide (x1 < 0) then
 some [I 1]
 else
 some [I (-1)] := by kernel_rfl
def m_cncref01_sign := mf_cncref01_sign 
theorem sp_cncref01_sign : SpecOK Tryz.prog (C_cncref01_sign_0 ) := specOK_of rfl trivial
theorem r_cncref01_sign : RowOK Tryz.prog (165, spOf sig_cncref01_sign osig_cncref01_sign m_cncref01_sign) := row_of (C := C_cncref01_sign_0) (L := 64) (by kernel_rfl) (FnOK.bare rfl rfl rfl) sp_cncref01_sign eqOk mixOk (by kernel_rfl) (by kernel_rfl)
def sig_cncref01_Cmp : Sk := { tmps := [tf [ci], tf [ci], tf [ci], tf [ci]], boxes := [], rows := [] }
def osig_cncref01_Cmp : Sk := { tmps := [tf [ci]], boxes := [], rows := [] }
def C_cncref01_Cmp_0 (M_cncref01_cmp M_cncref01_product M_cncref01_sign : Fn) : Cfg := { spec := lookS [(166, spOf sig_cncref01_cmp osig_cncref01_cmp M_cncref01_cmp), (167, spOf sig_cncref01_product osig_cncref01_product M_cncref01_product), (165, spOf sig_cncref01_sign osig_cncref01_sign M_cncref01_sign)], eqOk := eqAll, ownOff := ownOff }
def mf_cncref01_Cmp (M_cncref01_cmp M_cncref01_product M_cncref01_sign : Fn) : Fn := modelF Tryz.prog (C_cncref01_Cmp_0 M_cncref01_cmp M_cncref01_product M_cncref01_sign) 64 149 sig_cncref01_Cmp osig_cncref01_Cmp
theorem mf_cncref01_Cmp_eq (M_cncref01_cmp M_cncref01_product M_cncref01_sign : Fn) (x0 x1 x2 x3 : Int) : mf_cncref01_Cmp M_cncref01_cmp M_cncref01_product M_cncref01_sign [I x0, I x1, I x2, I x3] =
 (M_cncref01_sign [I x0, I x1]).bind fun o5 =>
 (M_cncref01_sign [I x2, I x3]).bind fun o6 =>
 bif decide (intOf (nth .dead o5 0) < intOf (nth .dead o6 0)) then
 some [I (-1)]
 else
 bif decide (intOf (nth .dead o5 0) > intOf (nth .dead o6 0)) then
 some [I 1]
 else
 (M_cncref01_product [I x0, I x1]).bind fun o7 =>
 (M_cncref01_product [I x2, I x3]).bind fun o8 =>
 (M_cncref01_cmp [.view [Kd.int IntKind.u64] (rowsOf (nth .dead o7 0)), .view [Kd.int IntKind.u64] (rowsOf (nth .dead o8 0))]).bind fun o9 =>
 some [I (IntKind.i64.wrap (intOf (nth .dead o5 0) * intOf (nth .dead o9 0)))] := by kernel_rfl
def m_cncref01_Cmp := mf_cncref01_Cmp m_cncref01_cmp m_cncref01_product m_cncref01_sign 
theorem sp_cncref01_Cmp : SpecOK Tryz.prog (C_cncref01_Cmp_0 m_cncref01_cmp m_cncref01_product m_cncref01_sign) := specOK_of rfl ⟨r_cncref01_cmp, r_cncref01_product, r_cncref01_sign, trivial⟩
theorem r_cncref01_Cmp : RowOK Tryz.prog (149, spOf sig_cncref01_Cmp osig_cncref01_Cmp m_cncref01_Cmp) := row_of (C := (C_cncref01_Cmp_0 m_cncref01_cmp m_cncref01_product m_cncref01_sign)) (L := 64) (by kernel_rfl) (FnOK.bare rfl rfl rfl) sp_cncref01_Cmp eqOk mixOk (by kernel_rfl) (by kernel_rfl)
def sig_cncref23_within : Sk := { tmps := [TS.v true [ci, ci, ci]], boxes := [], rows := [] }
def osig_cncref23_within : Sk := { tmps := [tf [CS.bool]], boxes := [], rows := [] }
def C_cncref23_within_0 (M_cncref23_small : Fn) : Cfg := { spec := lookS [(119, spOf sig_cncref23_small osig_cncref23_small M_cncref23_small)], eqOk := eqAll, ownOff := ownOff }
def mf_cncref23_within (M_cncref23_small : Fn) : Fn := modelF Tryz.prog (C_cncref23_within_0 M_cncref23_small) 64 146 sig_cncref23_within osig_cncref23_within
theorem mf_cncref23_within_eq (M_cncref23_small : Fn) (x0 x1 x2 : Int) : mf_cncref23_within M_cncref23_small [I x0, I x1, I x2] =
 (M_cncref23_small [I x0, I x1, I x2, I 1048576]).bind fun o1 =>
 some [B (bA o1 0)] := by kernel_rfl
def m_cncref23_within := mf_cncref23_within m_cncref23_small 
theorem sp_cncref23_within : SpecOK Tryz.prog (C_cncref23_within_0 m_cncref23_small) := specOK_of rfl ⟨r_cncref23_small, trivial⟩
theorem r_cncref23_within : RowOK Tryz.prog (146, spOf sig_cncref23_within osig_cncref23_within m_cncref23_within) := row_of (C := (C_cncref23_within_0 m_cncref23_small)) (L := 64) (by kernel_rfl) (FnOK.bare rfl rfl rfl) sp_cncref23_within eqOk mixOk (by kernel_rfl) (by kernel_rfl)
end Go.Bm
