/- functions of the program and of the references, as models -/
import Derived.Test.YtdllaekpkcanbaaSeShelf
import Derived.Test.YtdllaekpkcanbaaSeExt
import Derived.Test.YtdllaekpkcanbaaSePre
import Derived.Test.YtdllaekpkcanbaaBmTy
set_option linter.unusedSimpArgs false
set_option linter.unusedVariables false
set_option maxRecDepth 100000
noncomputable section
namespace Go.Bm
open Go.Proofs
def sig_cncref23_Plane : Sk := { tmps := [TS.v true [ci, ci, ci], tf [ci]], boxes := [], rows := [] }
def osig_cncref23_Plane : Sk := { tmps := [TS.tup [(false, [ci]), (false, [ci]), (false, [ci])]], boxes := [], rows := [] }
def C_cncref23_Plane_0 : Cfg := { spec := lookS [], eqOk := eqAll, ownOff := ownOff }
def mf_cncref23_Plane : Fn := modelF Try.prog C_cncref23_Plane_0 64 64 sig_cncref23_Plane osig_cncref23_Plane
theorem mf_cncref23_Plane_eq (x0 x1 x2 x3 : Int) : mf_cncref23_Plane [I x0, I x1, I x2, I x3] =
 bif x3 == 17 then
 some [I x0, I x1, I x2]
 else
 bif x3 == 18 then
 some [I x2, I x0, I x1]
 else
 bif x3 == 19 then
 some [I x1, I x2, I x0]
 else
 some [I 0, I 0, I 0] := by kernel_rfl
def m_cncref23_Plane := mf_cncref23_Plane 
theorem sp_cncref23_Plane : SpecOK Try.prog (C_cncref23_Plane_0 ) := specOK_of rfl trivial
theorem r_cncref23_Plane : RowOK Try.prog (64, spOf sig_cncref23_Plane osig_cncref23_Plane m_cncref23_Plane) := row_of (C := C_cncref23_Plane_0) (L := 64) (by kernel_rfl) (FnOK.bare rfl rfl rfl) sp_cncref23_Plane eqOk mixOk (by kernel_rfl) (by kernel_rfl)
def sig_cncref23_root : Sk := { tmps := [tf [ci]], boxes := [], rows := [] }
def osig_cncref23_root : Sk := { tmps := [tf [ci]], boxes := [], rows := [] }
def C_cncref23_root_0 : Cfg := { spec := lookS [], eqOk := eqAll, ownOff := ownOff }
def sk_cncref23_root_3 : Sk := { tmps := [tf [ci], td, td, tf [ci], tf [ci]] ++ dd 17, boxes := [], rows := [] }
def ex_cncref23_root_3 : List (Ex × Sk) := [(Ex.exit 0, { tmps := [td, td, td, tf [ci]] ++ dd 18, boxes := [], rows := [] })]
def st_cncref23_root_3 : Lp := stepL Try.prog C_cncref23_root_0 64 3 (bodyOf Try.prog 142 3) sk_cncref23_root_3 ex_cncref23_root_3
def C_cncref23_root_1 (N3 : Lp) : Cfg := C_cncref23_root_0.loop 3 sk_cncref23_root_3 ex_cncref23_root_3 N3
def mf_cncref23_root (N3 : Lp) : Fn := modelF Try.prog (C_cncref23_root_1 N3) 64 142 sig_cncref23_root osig_cncref23_root
theorem st_cncref23_root_3_eq (v0 v1 v2 : Int) : st_cncref23_root_3 [I v0, I v1, I v2] =
 bif decide (v2 > 0) then
 bif decide (IntKind.i64.wrap (IntKind.i64.wrap (v1 + v2) * IntKind.i64.wrap (v1 + v2)) <= v0) then
 some (0, [I v0, I (IntKind.i64.wrap (v1 + v2)), I (v2.fdiv (2 ^ min (Int.toNat 1) IntKind.i64.bits))])
 else
 some (0, [I v0, I v1, I (v2.fdiv (2 ^ min (Int.toNat 1) IntKind.i64.bits))])
 else
 some (1, [I v1]) := by kernel_rfl
theorem mf_cncref23_root_eq (N3 : Lp) (x0 : Int) : mf_cncref23_root N3 [I x0] =
 (N3 [I x0, I 0, I 1073741824]).bind fun o1 =>
 bif o1.1.beq 1 then
 some [jA o1.2 0]
 else
 none := by kernel_rfl
def l_cncref23_root_3 := loopC (st_cncref23_root_3 )
def m_cncref23_root := mf_cncref23_root l_cncref23_root_3
abbrev g_cncref23_Valid_2 (x13 : Bool) (o61 : List AC) (M_cncref23_Cross M_cncref23_Dot : Fn) : Option (List AC) :=
 bif x13 then
 bif gA o61 0 == gA o61 4 then
 some [B (gA o61 1 == gA o61 5)]
 else
 some [B false]
 else
 (M_cncref23_Cross [jA o61 0, jA o61 1, jA o61 2, jA o61 3, jA o61 4, jA o61 5, jA o61 6, jA o61 7]).bind fun o65 =>
 bif gA o65 0 != 0 then
 some [B true]
 else
 (M_cncref23_Dot [jA o61 0, jA o61 1, jA o61 2, jA o61 3, jA o61 4, jA o61 5, jA o61 6, jA o61 7]).bind fun o66 =>
 some [B (decide (gA o66 0 < 0))]
attribute [go_sem] g_cncref23_Valid_2
abbrev g_cncref23_Valid_1 (M_cncref23_within : Fn) (x9 x10 x11 : Int) (M_cncref23_ends : Fn) (x0 x1 x2 x3 x4 x5 x6 x7 x8 x12 : Int) (x13 : Bool) (x14 : Int) (x15 : Bool) (x16 x17 x18 x19 x20 : Int) (x21 : Bool) (M_cncref23_Dot M_cncref01_Cmp M_cncref23_Cross : Fn) : Option (List AC) :=
 (M_cncref23_within [I x9, I x10, I x11]).bind fun o60 =>
 bif !bA o60 0 then
 some [B false]
 else
 (M_cncref23_ends [I x0, I x1, I x2, I x3, I x4, I x5, I x6, I x7, I x8, I x9, I x10, I x11, I x12, B x13, I x14, B x15, I x16, I x17, I x18, I x19, I x20, B x21]).bind fun o61 =>
 (M_cncref23_Dot [jA o61 0, jA o61 1, jA o61 2, jA o61 3, jA o61 0, jA o61 1, jA o61 2, jA o61 3]).bind fun o62 =>
 (M_cncref23_Dot [jA o61 4, jA o61 5, jA o61 6, jA o61 7, jA o61 4, jA o61 5, jA o61 6, jA o61 7]).bind fun o63 =>
 bif decide (gA o62 0 < 64) then
 some [B false]
 else
 bif decide (gA o63 0 < 64) then
 some [B false]
 else
 bif decide (IntKind.i64.wrap (IntKind.i64.wrap (gA o62 0 + gA o63 0) - 16) > 0) then
 (M_cncref01_Cmp [I (IntKind.i64.wrap (IntKind.i64.wrap (gA o62 0 + gA o63 0) - 16)), I (IntKind.i64.wrap (IntKind.i64.wrap (gA o62 0 + gA o63 0) - 16)), I (IntKind.i64.wrap (4 * gA o62 0)), jA o63 0]).bind fun o64 =>
 bif decide (gA o64 0 > 0) then
 some [B false]
 else
 g_cncref23_Valid_2 x13 o61 M_cncref23_Cross M_cncref23_Dot
 else
 g_cncref23_Valid_2 x13 o61 M_cncref23_Cross M_cncref23_Dot
attribute [go_sem] g_cncref23_Valid_1
def sig_wide_compare : Sk := { tmps := [TS.v true [CS.int .u64, CS.int .u64], TS.v true [CS.int .u64, CS.int .u64]], boxes := [], rows := [] }
def osig_wide_compare : Sk := { tmps := [tf [ci]], boxes := [], rows := [] }
def C_wide_compare_0 : Cfg := { spec := lookS [], eqOk := eqAll, ownOff := ownOff }
def mf_wide_compare : Fn := modelF Try.prog C_wide_compare_0 64 105 sig_wide_compare osig_wide_compare
theorem mf_wide_compare_eq (x0 x1 x2 x3 : Int) : mf_wide_compare [U x0, U x1, U x2, U x3] =
 bif decide (x0 < x2) then
 some [I (-1)]
 else
 bif x0 == x2 then
 bif decide (x1 < x3) then
 some [I (-1)]
 else
 bif x0 == x2 && (x1 == x3 && true) then
 some [I 0]
 else
 some [I 1]
 else
 bif x0 == x2 && (x1 == x3 && true) then
 some [I 0]
 else
 some [I 1] := by kernel_rfl
def m_wide_compare := mf_wide_compare 
theorem sp_wide_compare : SpecOK Try.prog (C_wide_compare_0 ) := specOK_of rfl trivial
theorem r_wide_compare : RowOK Try.prog (105, spOf sig_wide_compare osig_wide_compare m_wide_compare) := row_of (C := C_wide_compare_0) (L := 64) (by kernel_rfl) (FnOK.bare rfl rfl rfl) sp_wide_compare eqOk mixOk (by kernel_rfl) (by kernel_rfl)
def sig_wide_product : Sk := { tmps := [tf [CS.int .u64], tf [CS.int .u64]], boxes := [], rows := [] }
def osig_wide_product : Sk := { tmps := [TS.v true [CS.int .u64, CS.int .u64]], boxes := [], rows := [] }
def C_wide_product_0 (M_bits_Mul64 : Fn) : Cfg := { spec := lookS [(147, spOf sig_bits_Mul64 osig_bits_Mul64 M_bits_Mul64)], eqOk := eqAll, ownOff := ownOff }
def mf_wide_product (M_bits_Mul64 : Fn) : Fn := modelF Try.prog (C_wide_product_0 M_bits_Mul64) 64 106 sig_wide_product osig_wide_product
theorem mf_wide_product_eq (M_bits_Mul64 : Fn) (x0 x1 : Int) : mf_wide_product M_bits_Mul64 [U x0, U x1] =
 (M_bits_Mul64 [U x0, U x1]).bind fun o1 =>
 some [U (gA o1 0), U (gA o1 1)] := by kernel_rfl
def m_wide_product := mf_wide_product m_bits_Mul64 
theorem sp_wide_product : SpecOK Try.prog (C_wide_product_0 m_bits_Mul64) := specOK_of rfl ⟨r_bits_Mul64, trivial⟩
theorem r_wide_product : RowOK Try.prog (106, spOf sig_wide_product osig_wide_product m_wide_product) := row_of (C := (C_wide_product_0 m_bits_Mul64)) (L := 64) (by kernel_rfl) (FnOK.bare rfl rfl rfl) sp_wide_product eqOk mixOk (by kernel_rfl) (by kernel_rfl)
def sig_wide_size : Sk := { tmps := [tf [ci]], boxes := [], rows := [] }
def osig_wide_size : Sk := { tmps := [tf [CS.int .u64]], boxes := [], rows := [] }
def C_wide_size_0 : Cfg := { spec := lookS [], eqOk := eqAll, ownOff := ownOff }
def mf_wide_size : Fn := modelF Try.prog C_wide_size_0 64 107 sig_wide_size osig_wide_size
theorem mf_wide_size_eq (x0 : Int) : mf_wide_size [I x0] =
 bif decide (x0 < 0) then
 some [U (IntKind.u64.wrap (IntKind.u64.wrap (IntKind.i64.wrap (0 - IntKind.i64.wrap (x0 + 1))) + 1))]
 else
 some [U (IntKind.u64.wrap x0)] := by kernel_rfl
def m_wide_size := mf_wide_size 
theorem sp_wide_size : SpecOK Try.prog (C_wide_size_0 ) := specOK_of rfl trivial
theorem r_wide_size : RowOK Try.prog (107, spOf sig_wide_size osig_wide_size m_wide_size) := row_of (C := C_wide_size_0) (L := 64) (by kernel_rfl) (FnOK.bare rfl rfl rfl) sp_wide_size eqOk mixOk (by kernel_rfl) (by kernel_rfl)
def sig_wide_sign : Sk := { tmps := [tf [ci], tf [ci]], boxes := [], rows := [] }
def osig_wide_sign : Sk := { tmps := [tf [ci]], boxes := [], rows := [] }
def C_wide_sign_0 : Cfg := { spec := lookS [], eqOk := eqAll, ownOff := ownOff }
def mf_wide_sign : Fn := modelF Try.prog C_wide_sign_0 64 104 sig_wide_sign osig_wide_sign
theorem mf_wide_sign_eq (x0 x1 : Int) : mf_wide_sign [I x0, I x1] =
 bif x0 == 0 then
 some [I 0]
 else
 bif x1 == 0 then
 some [I 0]
 else
 bif decide (x0 < 0) == decide (x1 < 0) then
 some [I 1]
 else
 some [I (-1)] := by kernel_rfl
def m_wide_sign := mf_wide_sign 
theorem sp_wide_sign : SpecOK Try.prog (C_wide_sign_0 ) := specOK_of rfl trivial
theorem r_wide_sign : RowOK Try.prog (104, spOf sig_wide_sign osig_wide_sign m_wide_sign) := row_of (C := C_wide_sign_0) (L := 64) (by kernel_rfl) (FnOK.bare rfl rfl rfl) sp_wide_sign eqOk mixOk (by kernel_rfl) (by kernel_rfl)
def sig_wide_Cmp : Sk := { tmps := [tf [ci], tf [ci], tf [ci], tf [ci]], boxes := [], rows := [] }
def osig_wide_Cmp : Sk := { tmps := [tf [ci]], boxes := [], rows := [] }
def C_wide_Cmp_0 (M_wide_compare M_wide_product M_wide_size M_wide_sign : Fn) : Cfg := { spec := lookS [(105, spOf sig_wide_compare osig_wide_compare M_wide_compare), (106, spOf sig_wide_product osig_wide_product M_wide_product), (107, spOf sig_wide_size osig_wide_size M_wide_size), (104, spOf sig_wide_sign osig_wide_sign M_wide_sign)], eqOk := eqAll, ownOff := ownOff }
def mf_wide_Cmp (M_wide_compare M_wide_product M_wide_size M_wide_sign : Fn) : Fn := modelF Try.prog (C_wide_Cmp_0 M_wide_compare M_wide_product M_wide_size M_wide_sign) 64 57 sig_wide_Cmp osig_wide_Cmp
theorem mf_wide_Cmp_eq (M_wide_compare M_wide_product M_wide_size M_wide_sign : Fn) (x0 x1 x2 x3 : Int) : mf_wide_Cmp M_wide_compare M_wide_product M_wide_size M_wide_sign [I x0, I x1, I x2, I x3] =
 (M_wide_sign [I x0, I x1]).bind fun o9 =>
 (M_wide_sign [I x2, I x3]).bind fun o10 =>
 bif gA o9 0 != gA o10 0 then
 bif decide (gA o9 0 < gA o10 0) then
 some [I (-1)]
 else
 some [I 1]
 else
 (M_wide_size [I x0]).bind fun o11 =>
 (M_wide_size [I x1]).bind fun o12 =>
 (M_wide_product [U (gA o11 0), U (gA o12 0)]).bind fun o13 =>
 (M_wide_size [I x2]).bind fun o14 =>
 (M_wide_size [I x3]).bind fun o15 =>
 (M_wide_product [U (gA o14 0), U (gA o15 0)]).bind fun o16 =>
 (M_wide_compare [U (gA o13 0), U (gA o13 1), U (gA o16 0), U (gA o16 1)]).bind fun o17 =>
 some [I (IntKind.i64.wrap (gA o9 0 * gA o17 0))] := by kernel_rfl
def m_wide_Cmp := mf_wide_Cmp m_wide_compare m_wide_product m_wide_size m_wide_sign 
theorem sp_wide_Cmp : SpecOK Try.prog (C_wide_Cmp_0 m_wide_compare m_wide_product m_wide_size m_wide_sign) := specOK_of rfl ⟨r_wide_compare, r_wide_product, r_wide_size, r_wide_sign, trivial⟩
theorem r_wide_Cmp : RowOK Try.prog (57, spOf sig_wide_Cmp osig_wide_Cmp m_wide_Cmp) := row_of (C := (C_wide_Cmp_0 m_wide_compare m_wide_product m_wide_size m_wide_sign)) (L := 64) (by kernel_rfl) (FnOK.bare rfl rfl rfl) sp_wide_Cmp eqOk mixOk (by kernel_rfl) (by kernel_rfl)
def sig_contour_dot : Sk := { tmps := [TS.v true [ci, ci], TS.v true [ci, ci]], boxes := [], rows := [] }
def osig_contour_dot : Sk := { tmps := [tf [ci]], boxes := [], rows := [] }
def C_contour_dot_0 : Cfg := { spec := lookS [], eqOk := eqAll, ownOff := ownOff }
def mf_contour_dot : Fn := modelF Try.prog C_contour_dot_0 64 69 sig_contour_dot osig_contour_dot
theorem mf_contour_dot_eq (x0 x1 x2 x3 : Int) : mf_contour_dot [I x0, I x1, I x2, I x3] =
 some [I (IntKind.i64.wrap (IntKind.i64.wrap (x0 * x2) + IntKind.i64.wrap (x1 * x3)))] := by kernel_rfl
def m_contour_dot := mf_contour_dot 
theorem sp_contour_dot : SpecOK Try.prog (C_contour_dot_0 ) := specOK_of rfl trivial
theorem r_contour_dot : RowOK Try.prog (69, spOf sig_contour_dot osig_contour_dot m_contour_dot) := row_of (C := C_contour_dot_0) (L := 64) (by kernel_rfl) (FnOK.bare rfl rfl rfl) sp_contour_dot eqOk mixOk (by kernel_rfl) (by kernel_rfl)
def sig_contour_cross : Sk := { tmps := [TS.v true [ci, ci], TS.v true [ci, ci]], boxes := [], rows := [] }
def osig_contour_cross : Sk := { tmps := [tf [ci]], boxes := [], rows := [] }
def C_contour_cross_0 : Cfg := { spec := lookS [], eqOk := eqAll, ownOff := ownOff }
def mf_contour_cross : Fn := modelF Try.prog C_contour_cross_0 64 123 sig_contour_cross osig_contour_cross
theorem mf_contour_cross_eq (x0 x1 x2 x3 : Int) : mf_contour_cross [I x0, I x1, I x2, I x3] =
 some [I (IntKind.i64.wrap (IntKind.i64.wrap (x0 * x3) - IntKind.i64.wrap (x1 * x2)))] := by kernel_rfl
def m_contour_cross := mf_contour_cross 
theorem sp_contour_cross : SpecOK Try.prog (C_contour_cross_0 ) := specOK_of rfl trivial
theorem r_contour_cross : RowOK Try.prog (123, spOf sig_contour_cross osig_contour_cross m_contour_cross) := row_of (C := C_contour_cross_0) (L := 64) (by kernel_rfl) (FnOK.bare rfl rfl rfl) sp_contour_cross eqOk mixOk (by kernel_rfl) (by kernel_rfl)
def sig_contour_near : Sk := { tmps := [TS.v true [ci, ci], TS.v true [ci, ci], tf [ci]], boxes := [], rows := [] }
def osig_contour_near : Sk := { tmps := [tf [CS.bool]], boxes := [], rows := [] }
def C_contour_near_0 (M_wide_Cmp M_contour_dot M_contour_cross : Fn) : Cfg := { spec := lookS [(57, spOf sig_wide_Cmp osig_wide_Cmp M_wide_Cmp), (69, spOf sig_contour_dot osig_contour_dot M_contour_dot), (123, spOf sig_contour_cross osig_contour_cross M_contour_cross)], eqOk := eqAll, ownOff := ownOff }
def mf_contour_near (M_wide_Cmp M_contour_dot M_contour_cross : Fn) : Fn := modelF Try.prog (C_contour_near_0 M_wide_Cmp M_contour_dot M_contour_cross) 64 72 sig_contour_near osig_contour_near
theorem mf_contour_near_eq (M_wide_Cmp M_contour_dot M_contour_cross : Fn) (x0 x1 x2 x3 x4 : Int) : mf_contour_near M_wide_Cmp M_contour_dot M_contour_cross [I x0, I x1, I x2, I x3, I x4] =
 (M_contour_cross [I x0, I x1, I x2, I x3]).bind fun o4 =>
 (M_contour_dot [I x0, I x1, I x2, I x3]).bind fun o5 =>
 bif decide (gA o5 0 >= 0) then
 (M_contour_dot [I x0, I x1, I x0, I x1]).bind fun o6 =>
 (M_wide_Cmp [jA o4 0, jA o4 0, I (IntKind.i64.wrap (x4 * x4)), jA o6 0]).bind fun o7 =>
 some [B (decide (gA o7 0 <= 0))]
 else
 some [B false] := by kernel_rfl
def m_contour_near := mf_contour_near m_wide_Cmp m_contour_dot m_contour_cross 
theorem sp_contour_near : SpecOK Try.prog (C_contour_near_0 m_wide_Cmp m_contour_dot m_contour_cross) := specOK_of rfl ⟨r_wide_Cmp, r_contour_dot, r_contour_cross, trivial⟩
theorem r_contour_near : RowOK Try.prog (72, spOf sig_contour_near osig_contour_near m_contour_near) := row_of (C := (C_contour_near_0 m_wide_Cmp m_contour_dot m_contour_cross)) (L := 64) (by kernel_rfl) (FnOK.bare rfl rfl rfl) sp_contour_near eqOk mixOk (by kernel_rfl) (by kernel_rfl)
def sig_contour_passed : Sk := { tmps := [TS.v true [ci, ci], TS.v true [ci, ci], TS.v true [ci, ci], tf [ci]], boxes := [], rows := [] }
def osig_contour_passed : Sk := { tmps := [tf [CS.bool]], boxes := [], rows := [] }
def C_contour_passed_0 (M_contour_dot M_contour_cross : Fn) : Cfg := { spec := lookS [(69, spOf sig_contour_dot osig_contour_dot M_contour_dot), (123, spOf sig_contour_cross osig_contour_cross M_contour_cross)], eqOk := eqAll, ownOff := ownOff }
def mf_contour_passed (M_contour_dot M_contour_cross : Fn) : Fn := modelF Try.prog (C_contour_passed_0 M_contour_dot M_contour_cross) 64 71 sig_contour_passed osig_contour_passed
theorem mf_contour_passed_eq (M_contour_dot M_contour_cross : Fn) (x0 x1 x2 x3 x4 x5 x6 : Int) : mf_contour_passed M_contour_dot M_contour_cross [I x0, I x1, I x2, I x3, I x4, I x5, I x6] =
 (M_contour_cross [I x0, I x1, I x2, I x3]).bind fun o9 =>
 bif decide (IntKind.i64.wrap (gA o9 0 * x6) > 0) then
 (M_contour_cross [I x0, I x1, I x4, I x5]).bind fun o10 =>
 bif decide (IntKind.i64.wrap (gA o10 0 * x6) >= 0) then
 (M_contour_cross [I x4, I x5, I x2, I x3]).bind fun o11 =>
 some [B (decide (IntKind.i64.wrap (gA o11 0 * x6) >= 0))]
 else
 some [B false]
 else
 bif IntKind.i64.wrap (gA o9 0 * x6) == 0 then
 (M_contour_dot [I x0, I x1, I x2, I x3]).bind fun o12 =>
 bif decide (gA o12 0 < 0) then
 (M_contour_cross [I x0, I x1, I x4, I x5]).bind fun o13 =>
 some [B (decide (IntKind.i64.wrap (gA o13 0 * x6) >= 0))]
 else
 (M_contour_cross [I x2, I x3, I x4, I x5]).bind fun o14 =>
 bif decide (IntKind.i64.wrap (gA o14 0 * x6) <= 0) then
 some [B true]
 else
 (M_contour_cross [I x4, I x5, I x0, I x1]).bind fun o15 =>
 some [B (decide (IntKind.i64.wrap (gA o15 0 * x6) <= 0))]
 else
 (M_contour_cross [I x2, I x3, I x4, I x5]).bind fun o16 =>
 bif decide (IntKind.i64.wrap (gA o16 0 * x6) <= 0) then
 some [B true]
 else
 (M_contour_cross [I x4, I x5, I x0, I x1]).bind fun o17 =>
 some [B (decide (IntKind.i64.wrap (gA o17 0 * x6) <= 0))] := by kernel_rfl
def m_contour_passed := mf_contour_passed m_contour_dot m_contour_cross 
theorem sp_contour_passed : SpecOK Try.prog (C_contour_passed_0 m_contour_dot m_contour_cross) := specOK_of rfl ⟨r_contour_dot, r_contour_cross, trivial⟩
theorem r_contour_passed : RowOK Try.prog (71, spOf sig_contour_passed osig_contour_passed m_contour_passed) := row_of (C := (C_contour_passed_0 m_contour_dot m_contour_cross)) (L := 64) (by kernel_rfl) (FnOK.bare rfl rfl rfl) sp_contour_passed eqOk mixOk (by kernel_rfl) (by kernel_rfl)
def sig_contour_above : Sk := { tmps := [tf [ci], tf [ci], tf [ci]], boxes := [], rows := [] }
def osig_contour_above : Sk := { tmps := [tf [CS.bool]], boxes := [], rows := [] }
def C_contour_above_0 (M_wide_Cmp : Fn) : Cfg := { spec := lookS [(57, spOf sig_wide_Cmp osig_wide_Cmp M_wide_Cmp)], eqOk := eqAll, ownOff := ownOff }
def mf_contour_above (M_wide_Cmp : Fn) : Fn := modelF Try.prog (C_contour_above_0 M_wide_Cmp) 64 70 sig_contour_above osig_contour_above
theorem mf_contour_above_eq (M_wide_Cmp : Fn) (x0 x1 x2 : Int) : mf_contour_above M_wide_Cmp [I x0, I x1, I x2] =
 bif decide (IntKind.i64.wrap (IntKind.i64.wrap (x0 - x1) - IntKind.i64.wrap (x2 * x2)) <= 0) then
 some [B true]
 else
 (M_wide_Cmp [I (IntKind.i64.wrap (IntKind.i64.wrap (x0 - x1) - IntKind.i64.wrap (x2 * x2))), I (IntKind.i64.wrap (IntKind.i64.wrap (x0 - x1) - IntKind.i64.wrap (x2 * x2))), I (IntKind.i64.wrap (IntKind.i64.wrap (4 * x2) * x2)), I x1]).bind fun o1 =>
 some [B (decide (gA o1 0 <= 0))] := by kernel_rfl
def m_contour_above := mf_contour_above m_wide_Cmp 
theorem sp_contour_above : SpecOK Try.prog (C_contour_above_0 m_wide_Cmp) := specOK_of rfl ⟨r_wide_Cmp, trivial⟩
theorem r_contour_above : RowOK Try.prog (70, spOf sig_contour_above osig_contour_above m_contour_above) := row_of (C := (C_contour_above_0 m_wide_Cmp)) (L := 64) (by kernel_rfl) (FnOK.bare rfl rfl rfl) sp_contour_above eqOk mixOk (by kernel_rfl) (by kernel_rfl)
def sig_curve_axes : Sk := { tmps := [tf [ci]], boxes := [], rows := [] }
def osig_curve_axes : Sk := { tmps := [TS.tup [(false, [ci]), (false, [ci]), (false, [ci]), (false, [CS.bool])]], boxes := [], rows := [] }
def C_curve_axes_0 : Cfg := { spec := lookS [], eqOk := eqAll, ownOff := ownOff }
def mf_curve_axes : Fn := modelF Try.prog C_curve_axes_0 64 118 sig_curve_axes osig_curve_axes
theorem mf_curve_axes_eq (x0 : Int) : mf_curve_axes [I x0] =
 bif x0 == 17 then
 some [I 0, I 1, I 2, B true]
 else
 bif x0 == 18 then
 some [I 2, I 0, I 1, B true]
 else
 bif x0 == 19 then
 some [I 1, I 2, I 0, B true]
 else
 some [I 0, I 0, I 0, B false] := by kernel_rfl
def m_curve_axes := mf_curve_axes 
theorem sp_curve_axes : SpecOK Try.prog (C_curve_axes_0 ) := specOK_of rfl trivial
theorem r_curve_axes : RowOK Try.prog (118, spOf sig_curve_axes osig_curve_axes m_curve_axes) := row_of (C := C_curve_axes_0) (L := 64) (by kernel_rfl) (FnOK.bare rfl rfl rfl) sp_curve_axes eqOk mixOk (by kernel_rfl) (by kernel_rfl)
def sig_curve_Plane : Sk := { tmps := [TS.v true [ci, ci, ci], tf [ci]], boxes := [], rows := [] }
def osig_curve_Plane : Sk := { tmps := [TS.tup [(false, [ci]), (false, [ci]), (false, [ci])]], boxes := [], rows := [] }
def C_curve_Plane_0 (M_curve_axes : Fn) : Cfg := { spec := lookS [(118, spOf sig_curve_axes osig_curve_axes M_curve_axes)], eqOk := eqAll, ownOff := ownOff }
def mf_curve_Plane (M_curve_axes : Fn) : Fn := modelF Try.prog (C_curve_Plane_0 M_curve_axes) 64 67 sig_curve_Plane osig_curve_Plane
abbrev g_curve_Plane_2 (o1 : List AC) (h1_0 : AC) (x0 x1 x2 : Int) (h2_0 : AC) : Option (List AC) :=
 bif decide (gA o1 2 = (↑0 : Int)) then
 some [h1_0, h2_0, I x0]
 else
 bif decide (gA o1 2 = (↑(0 + 1) : Int)) then
 some [h1_0, h2_0, I x1]
 else
 bif decide (gA o1 2 = (↑(0 + 1 + 1) : Int)) then
 some [h1_0, h2_0, I x2]
 else
 none
attribute [go_sem] g_curve_Plane_2
abbrev g_curve_Plane_1 (o1 : List AC) (x0 x1 x2 : Int) (h1_0 : AC) : Option (List AC) :=
 bif decide (gA o1 1 = (↑0 : Int)) then
 g_curve_Plane_2 o1 h1_0 x0 x1 x2 (I x0)
 else
 bif decide (gA o1 1 = (↑(0 + 1) : Int)) then
 g_curve_Plane_2 o1 h1_0 x0 x1 x2 (I x1)
 else
 bif decide (gA o1 1 = (↑(0 + 1 + 1) : Int)) then
 g_curve_Plane_2 o1 h1_0 x0 x1 x2 (I x2)
 else
 none
attribute [go_sem] g_curve_Plane_1
theorem mf_curve_Plane_eq (M_curve_axes : Fn) (x0 x1 x2 x3 : Int) : mf_curve_Plane M_curve_axes [I x0, I x1, I x2, I x3] =
 (M_curve_axes [I x3]).bind fun o1 =>
 bif !bA o1 3 then
 some [I 0, I 0, I 0]
 else
 bif decide (gA o1 0 = (↑0 : Int)) then
 g_curve_Plane_1 o1 x0 x1 x2 (I x0)
 else
 bif decide (gA o1 0 = (↑(0 + 1) : Int)) then
 g_curve_Plane_1 o1 x0 x1 x2 (I x1)
 else
 bif decide (gA o1 0 = (↑(0 + 1 + 1) : Int)) then
 g_curve_Plane_1 o1 x0 x1 x2 (I x2)
 else
 none := by kernel_rfl
def m_curve_Plane := mf_curve_Plane m_curve_axes 
theorem sp_curve_Plane : SpecOK Try.prog (C_curve_Plane_0 m_curve_axes) := specOK_of rfl ⟨r_curve_axes, trivial⟩
theorem r_curve_Plane : RowOK Try.prog (67, spOf sig_curve_Plane osig_curve_Plane m_curve_Plane) := row_of (C := (C_curve_Plane_0 m_curve_axes)) (L := 64) (by kernel_rfl) (FnOK.bare rfl rfl rfl) sp_curve_Plane eqOk mixOk (by kernel_rfl) (by kernel_rfl)
def sig_contour_scaled : Sk := { tmps := [TS.v true [ci, ci, ci]], boxes := [], rows := [] }
def osig_contour_scaled : Sk := { tmps := [TS.v true [ci, ci, ci]], boxes := [], rows := [] }
def C_contour_scaled_0 : Cfg := { spec := lookS [], eqOk := eqAll, ownOff := ownOff }
def mf_contour_scaled : Fn := modelF Try.prog C_contour_scaled_0 64 68 sig_contour_scaled osig_contour_scaled
theorem mf_contour_scaled_eq (x0 x1 x2 : Int) : mf_contour_scaled [I x0, I x1, I x2] =
 some [I (IntKind.i64.wrap (x0 * 16)), I (IntKind.i64.wrap (x1 * 16)), I (IntKind.i64.wrap (x2 * 16))] := by kernel_rfl
def m_contour_scaled := mf_contour_scaled 
theorem sp_contour_scaled : SpecOK Try.prog (C_contour_scaled_0 ) := specOK_of rfl trivial
theorem r_contour_scaled : RowOK Try.prog (68, spOf sig_contour_scaled osig_contour_scaled m_contour_scaled) := row_of (C := C_contour_scaled_0) (L := 64) (by kernel_rfl) (FnOK.bare rfl rfl rfl) sp_contour_scaled eqOk mixOk (by kernel_rfl) (by kernel_rfl)
def sig_curve_cross : Sk := { tmps := [TS.v true [ci, ci, ci, ci], TS.v true [ci, ci, ci, ci]], boxes := [], rows := [] }
def osig_curve_cross : Sk := { tmps := [tf [ci]], boxes := [], rows := [] }
def C_curve_cross_0 : Cfg := { spec := lookS [], eqOk := eqAll, ownOff := ownOff }
def mf_curve_cross : Fn := modelF Try.prog C_curve_cross_0 64 122 sig_curve_cross osig_curve_cross
theorem mf_curve_cross_eq (x0 x1 x2 x3 x4 x5 x6 x7 : Int) : mf_curve_cross [I x0, I x1, I x2, I x3, I x4, I x5, I x6, I x7] =
 some [I (IntKind.i64.wrap (IntKind.i64.wrap (x0 * x5) - IntKind.i64.wrap (x1 * x4)))] := by kernel_rfl
def m_curve_cross := mf_curve_cross 
theorem sp_curve_cross : SpecOK Try.prog (C_curve_cross_0 ) := specOK_of rfl trivial
theorem r_curve_cross : RowOK Try.prog (122, spOf sig_curve_cross osig_curve_cross m_curve_cross) := row_of (C := C_curve_cross_0) (L := 64) (by kernel_rfl) (FnOK.bare rfl rfl rfl) sp_curve_cross eqOk mixOk (by kernel_rfl) (by kernel_rfl)
def sig_curve_near : Sk := { tmps := [tf [ci], tf [ci]], boxes := [], rows := [] }
def osig_curve_near : Sk := { tmps := [tf [CS.bool]], boxes := [], rows := [] }
def C_curve_near_0 (M_wide_Cmp : Fn) : Cfg := { spec := lookS [(57, spOf sig_wide_Cmp osig_wide_Cmp M_wide_Cmp)], eqOk := eqAll, ownOff := ownOff }
def mf_curve_near (M_wide_Cmp : Fn) : Fn := modelF Try.prog (C_curve_near_0 M_wide_Cmp) 64 121 sig_curve_near osig_curve_near
theorem mf_curve_near_eq (M_wide_Cmp : Fn) (x0 x1 : Int) : mf_curve_near M_wide_Cmp [I x0, I x1] =
 bif decide (IntKind.i64.wrap (IntKind.i64.wrap (mx x0 x1 - mn x0 x1) - 16) <= 0) then
 some [B true]
 else
 (M_wide_Cmp [I (IntKind.i64.wrap (IntKind.i64.wrap (mx x0 x1 - mn x0 x1) - 16)), I (IntKind.i64.wrap (IntKind.i64.wrap (mx x0 x1 - mn x0 x1) - 16)), I 64, I (mn x0 x1)]).bind fun o1 =>
 some [B (decide (gA o1 0 <= 0))] := by kernel_rfl
def m_curve_near := mf_curve_near m_wide_Cmp 
theorem sp_curve_near : SpecOK Try.prog (C_curve_near_0 m_wide_Cmp) := specOK_of rfl ⟨r_wide_Cmp, trivial⟩
theorem r_curve_near : RowOK Try.prog (121, spOf sig_curve_near osig_curve_near m_curve_near) := row_of (C := (C_curve_near_0 m_wide_Cmp)) (L := 64) (by kernel_rfl) (FnOK.bare rfl rfl rfl) sp_curve_near eqOk mixOk (by kernel_rfl) (by kernel_rfl)
def sig_curve_dot : Sk := { tmps := [TS.v true [ci, ci, ci, ci], TS.v true [ci, ci, ci, ci]], boxes := [], rows := [] }
def osig_curve_dot : Sk := { tmps := [tf [ci]], boxes := [], rows := [] }
def C_curve_dot_0 : Cfg := { spec := lookS [], eqOk := eqAll, ownOff := ownOff }
def mf_curve_dot : Fn := modelF Try.prog C_curve_dot_0 64 120 sig_curve_dot osig_curve_dot
theorem mf_curve_dot_eq (x0 x1 x2 x3 x4 x5 x6 x7 : Int) : mf_curve_dot [I x0, I x1, I x2, I x3, I x4, I x5, I x6, I x7] =
 some [I (IntKind.i64.wrap (IntKind.i64.wrap (x0 * x4) + IntKind.i64.wrap (x1 * x5)))] := by kernel_rfl
def m_curve_dot := mf_curve_dot 
theorem sp_curve_dot : SpecOK Try.prog (C_curve_dot_0 ) := specOK_of rfl trivial
theorem r_curve_dot : RowOK Try.prog (120, spOf sig_curve_dot osig_curve_dot m_curve_dot) := row_of (C := C_curve_dot_0) (L := 64) (by kernel_rfl) (FnOK.bare rfl rfl rfl) sp_curve_dot eqOk mixOk (by kernel_rfl) (by kernel_rfl)
def sig_curve_scaled : Sk := { tmps := [TS.v true [ci, ci, ci]], boxes := [], rows := [] }
def osig_curve_scaled : Sk := { tmps := [TS.v true [ci, ci, ci]], boxes := [], rows := [] }
def C_curve_scaled_0 : Cfg := { spec := lookS [], eqOk := eqAll, ownOff := ownOff }
def mf_curve_scaled : Fn := modelF Try.prog C_curve_scaled_0 64 93 sig_curve_scaled osig_curve_scaled
theorem mf_curve_scaled_eq (x0 x1 x2 : Int) : mf_curve_scaled [I x0, I x1, I x2] =
 some [I (IntKind.i64.wrap (x0 * 16)), I (IntKind.i64.wrap (x1 * 16)), I (IntKind.i64.wrap (x2 * 16))] := by kernel_rfl
def m_curve_scaled := mf_curve_scaled 
theorem sp_curve_scaled : SpecOK Try.prog (C_curve_scaled_0 ) := specOK_of rfl trivial
theorem r_curve_scaled : RowOK Try.prog (93, spOf sig_curve_scaled osig_curve_scaled m_curve_scaled) := row_of (C := C_curve_scaled_0) (L := 64) (by kernel_rfl) (FnOK.bare rfl rfl rfl) sp_curve_scaled eqOk mixOk (by kernel_rfl) (by kernel_rfl)
def sig_curve_ends : Sk := { tmps := [TS.v true [ci, ci, ci, ci, ci, ci, ci, ci, ci, ci, ci, ci, ci, CS.bool, ci, CS.bool, ci, ci, ci, ci, ci, CS.bool]], boxes := [], rows := [] }
def osig_curve_ends : Sk := { tmps := [TS.tup [(true, [ci, ci, ci, ci]), (true, [ci, ci, ci, ci])]], boxes := [], rows := [] }
def C_curve_ends_0 (M_curve_Plane M_curve_scaled : Fn) : Cfg := { spec := lookS [(67, spOf sig_curve_Plane osig_curve_Plane M_curve_Plane), (93, spOf sig_curve_scaled osig_curve_scaled M_curve_scaled)], eqOk := eqAll, ownOff := ownOff }
def sk_curve_ends_4 : Sk := { tmps := [td, tf [CS.ptr 1 0], tf [CS.ptr 2 0], tf [CS.ptr 3 0], tf [CS.ptr 4 0], tf [ci], tf [ci], td, td, td, td, td, td, td, td, td, td, td, td, td, td, td, td, td, td, td, td, TS.v true [ci, ci, ci, ci, ci, ci], tf [ci]] ++ dd 27, boxes := [(1, 33, [ci, ci, ci, ci, ci, ci, ci, ci, ci, ci, ci, ci, ci, CS.bool, ci, CS.bool, ci, ci, ci, ci, ci, CS.bool]), (2, 99, [ci, ci, ci, ci]), (3, 99, [ci, ci, ci, ci]), (4, 170, [ci, ci, ci, ci, ci, ci, ci, ci])], rows := [] }
def ex_curve_ends_4 : List (Ex × Sk) := [(Ex.exit 0, { tmps := [td, td, tf [CS.ptr 2 0], tf [CS.ptr 3 0], tf [CS.ptr 4 0]] ++ dd 51, boxes := [(2, 99, [ci, ci, ci, ci]), (3, 99, [ci, ci, ci, ci]), (4, 170, [ci, ci, ci, ci, ci, ci, ci, ci])], rows := [] })]
def st_curve_ends_4 (M_curve_Plane M_curve_scaled : Fn) : Lp := stepL Try.prog (C_curve_ends_0 M_curve_Plane M_curve_scaled) 64 4 (bodyOf Try.prog 119 4) sk_curve_ends_4 ex_curve_ends_4
def C_curve_ends_1 (M_curve_Plane M_curve_scaled : Fn) (N4 : Lp) : Cfg := (C_curve_ends_0 M_curve_Plane M_curve_scaled).loop 4 sk_curve_ends_4 ex_curve_ends_4 N4
def mf_curve_ends (M_curve_Plane M_curve_scaled : Fn) (N4 : Lp) : Fn := modelF Try.prog (C_curve_ends_1 M_curve_Plane M_curve_scaled N4) 64 119 sig_curve_ends osig_curve_ends
abbrev g_s_curve_ends_4_1 (M_curve_scaled M_curve_Plane : Fn) (v17 v8 v0 v1 v2 v3 v4 v5 v6 v7 v9 v10 v11 v12 v13 v14 v15 v16 v18 v19 v20 v21 : Int) (v22 : Bool) (v23 : Int) (v24 : Bool) (v25 v26 v27 v28 v29 : Int) (v30 : Bool) (v31 v32 v33 v34 v35 v36 v37 v38 v43 v44 v45 v46 v39 v40 v41 v42 : Int) (h1_0 h1_1 h1_2 : AC) : Option (Nat × List AC) :=
 (M_curve_scaled [h1_0, h1_1, h1_2]).bind fun o9 =>
 (M_curve_Plane [jA o9 0, jA o9 1, jA o9 2, I v17]).bind fun o10 =>
 bif decide (v8 = (↑0 : Int)) then
 some (0, [I v0, I v1, I v2, I v3, I v4, I v5, I v6, I v7, I (IntKind.i64.wrap (v8 + 1)), I v9, I v10, I v11, I v12, I v13, I v14, I v15, I v16, I v17, I v18, I v19, I v20, I v21, B v22, I v23, B v24, I v25, I v26, I v27, I v28, I v29, B v30, I v31, I v32, I v33, I v34, I v35, I v36, I v37, I v38, I (IntKind.i64.wrap (gA o10 0 - v0)), I (IntKind.i64.wrap (gA o10 1 - v1)), I 0, jA o10 2, I v43, I v44, I v45, I v46])
 else
 bif decide (v8 = (↑(0 + 1) : Int)) then
 some (0, [I v0, I v1, I v2, I v3, I v4, I v5, I v6, I v7, I (IntKind.i64.wrap (v8 + 1)), I v9, I v10, I v11, I v12, I v13, I v14, I v15, I v16, I v17, I v18, I v19, I v20, I v21, B v22, I v23, B v24, I v25, I v26, I v27, I v28, I v29, B v30, I v31, I v32, I v33, I v34, I v35, I v36, I v37, I v38, I v39, I v40, I v41, I v42, I (IntKind.i64.wrap (gA o10 0 - v0)), I (IntKind.i64.wrap (gA o10 1 - v1)), I 0, jA o10 2])
 else
 none
attribute [go_sem] g_s_curve_ends_4_1
theorem st_curve_ends_4_eq (M_curve_Plane M_curve_scaled : Fn) (v0 v1 v2 v3 v4 v5 v6 v7 v8 v9 v10 v11 v12 v13 v14 v15 v16 v17 v18 v19 v20 v21 : Int) (v22 : Bool) (v23 : Int) (v24 : Bool) (v25 v26 v27 v28 v29 : Int) (v30 : Bool) (v31 v32 v33 v34 v35 v36 v37 v38 v39 v40 v41 v42 v43 v44 v45 v46 : Int) : st_curve_ends_4 M_curve_Plane M_curve_scaled [I v0, I v1, I v2, I v3, I v4, I v5, I v6, I v7, I v8, I v9, I v10, I v11, I v12, I v13, I v14, I v15, I v16, I v17, I v18, I v19, I v20, I v21, B v22, I v23, B v24, I v25, I v26, I v27, I v28, I v29, B v30, I v31, I v32, I v33, I v34, I v35, I v36, I v37, I v38, I v39, I v40, I v41, I v42, I v43, I v44, I v45, I v46] =
 bif decide (v8 < 2) then
 bif decide (v8 = (↑0 : Int)) then
 g_s_curve_ends_4_1 M_curve_scaled M_curve_Plane v17 v8 v0 v1 v2 v3 v4 v5 v6 v7 v9 v10 v11 v12 v13 v14 v15 v16 v18 v19 v20 v21 v22 v23 v24 v25 v26 v27 v28 v29 v30 v31 v32 v33 v34 v35 v36 v37 v38 v43 v44 v45 v46 v39 v40 v41 v42 (I v2) (I v3) (I v4)
 else
 bif decide (v8 = (↑(0 + 1) : Int)) then
 g_s_curve_ends_4_1 M_curve_scaled M_curve_Plane v17 v8 v0 v1 v2 v3 v4 v5 v6 v7 v9 v10 v11 v12 v13 v14 v15 v16 v18 v19 v20 v21 v22 v23 v24 v25 v26 v27 v28 v29 v30 v31 v32 v33 v34 v35 v36 v37 v38 v43 v44 v45 v46 v39 v40 v41 v42 (I v5) (I v6) (I v7)
 else
 none
 else
 some (1, [I v31, I v32, I v33, I v34, I v35, I v36, I v37, I v38, I v39, I v40, I v41, I v42, I v43, I v44, I v45, I v46]) := by kernel_rfl
theorem mf_curve_ends_eq (M_curve_Plane M_curve_scaled : Fn) (N4 : Lp) (x0 x1 x2 x3 x4 x5 x6 x7 x8 x9 x10 x11 x12 : Int) (x13 : Bool) (x14 : Int) (x15 : Bool) (x16 x17 x18 x19 x20 : Int) (x21 : Bool) : mf_curve_ends M_curve_Plane M_curve_scaled N4 [I x0, I x1, I x2, I x3, I x4, I x5, I x6, I x7, I x8, I x9, I x10, I x11, I x12, B x13, I x14, B x15, I x16, I x17, I x18, I x19, I x20, B x21] =
 (M_curve_scaled [I x9, I x10, I x11]).bind fun o13 =>
 (M_curve_Plane [jA o13 0, jA o13 1, jA o13 2, I x8]).bind fun o14 =>
 (N4 [jA o14 0, jA o14 1, I x2, I x3, I x4, I x5, I x6, I x7, I 0, I x0, I x1, I x2, I x3, I x4, I x5, I x6, I x7, I x8, I x9, I x10, I x11, I x12, B x13, I x14, B x15, I x16, I x17, I x18, I x19, I x20, B x21, I 0, I 0, I 0, I 0, I 0, I 0, I 0, I 0, I 0, I 0, I 0, I 0, I 0, I 0, I 0, I 0]).bind fun o15 =>
 bif o15.1.beq 1 then
 some [jA o15.2 8, jA o15.2 9, jA o15.2 10, jA o15.2 11, jA o15.2 12, jA o15.2 13, jA o15.2 14, jA o15.2 15]
 else
 none := by kernel_rfl
def l_curve_ends_4 := loopC (st_curve_ends_4 m_curve_Plane m_curve_scaled )
def m_curve_ends := mf_curve_ends m_curve_Plane m_curve_scaled l_curve_ends_4
theorem sp_curve_ends : SpecOK Try.prog (C_curve_ends_0 m_curve_Plane m_curve_scaled) := specOK_of rfl ⟨r_curve_Plane, r_curve_scaled, trivial⟩
theorem r_curve_ends : RowOK Try.prog (119, spOf sig_curve_ends osig_curve_ends m_curve_ends) := row_of (C := (C_curve_ends_1 m_curve_Plane m_curve_scaled l_curve_ends_4)) (L := 64) (by kernel_rfl) ((FnOK.bare rfl rfl rfl).loop sp_curve_ends eqOk mixOk (by kernel_rfl) (by kernel_rfl)) sp_curve_ends eqOk mixOk (by kernel_rfl) (by kernel_rfl)
def sig_curve_within : Sk := { tmps := [TS.v true [ci, ci, ci]], boxes := [], rows := [] }
def osig_curve_within : Sk := { tmps := [tf [CS.bool]], boxes := [], rows := [] }
def C_curve_within_0 : Cfg := { spec := lookS [], eqOk := eqAll, ownOff := ownOff, unroll := [2] }
def mf_curve_within : Fn := modelF Try.prog C_curve_within_0 64 117 sig_curve_within osig_curve_within
theorem mf_curve_within_eq (x0 x1 x2 : Int) : mf_curve_within [I x0, I x1, I x2] =
 bif decide (x0 < -1048576) then
 some [B false]
 else
 bif decide (x0 > 1048576) then
 some [B false]
 else
 bif decide (x1 < -1048576) then
 some [B false]
 else
 bif decide (x1 > 1048576) then
 some [B false]
 else
 bif decide (x2 < -1048576) then
 some [B false]
 else
 bif decide (x2 > 1048576) then
 some [B false]
 else
 some [B true] := by kernel_rfl
def m_curve_within := mf_curve_within 
theorem sp_curve_within : SpecOK Try.prog (C_curve_within_0 ) := specOK_of rfl trivial
theorem r_curve_within : RowOK Try.prog (117, spOf sig_curve_within osig_curve_within m_curve_within) := row_of (C := C_curve_within_0) (L := 64) (by kernel_rfl) (FnOK.bare rfl rfl rfl) sp_curve_within eqOk mixOk (by kernel_rfl) (by kernel_rfl)
def sig_curve_Valid : Sk := { tmps := [TS.v true [ci, ci, ci, ci, ci, ci, ci, ci, ci, ci, ci, ci, ci, CS.bool, ci, CS.bool, ci, ci, ci, ci, ci, CS.bool]], boxes := [], rows := [] }
def osig_curve_Valid : Sk := { tmps := [tf [CS.bool]], boxes := [], rows := [] }
def C_curve_Valid_0 (M_curve_cross M_curve_near M_curve_dot M_curve_ends M_curve_axes M_curve_within : Fn) : Cfg := { spec := lookS [(122, spOf sig_curve_cross osig_curve_cross M_curve_cross), (121, spOf sig_curve_near osig_curve_near M_curve_near), (120, spOf sig_curve_dot osig_curve_dot M_curve_dot), (119, spOf sig_curve_ends osig_curve_ends M_curve_ends), (118, spOf sig_curve_axes osig_curve_axes M_curve_axes), (117, spOf sig_curve_within osig_curve_within M_curve_within)], eqOk := eqAll, ownOff := ownOff }
def mf_curve_Valid (M_curve_cross M_curve_near M_curve_dot M_curve_ends M_curve_axes M_curve_within : Fn) : Fn := modelF Try.prog (C_curve_Valid_0 M_curve_cross M_curve_near M_curve_dot M_curve_ends M_curve_axes M_curve_within) 64 66 sig_curve_Valid osig_curve_Valid
abbrev g_curve_Valid_1 (M_curve_within : Fn) (x9 x10 x11 : Int) (M_curve_ends : Fn) (x0 x1 x2 x3 x4 x5 x6 x7 x8 x12 : Int) (x13 : Bool) (x14 : Int) (x15 : Bool) (x16 x17 x18 x19 x20 : Int) (x21 : Bool) (M_curve_dot M_curve_near M_curve_cross : Fn) : Option (List AC) :=
 (M_curve_within [I x9, I x10, I x11]).bind fun o20 =>
 bif !bA o20 0 then
 some [B false]
 else
 (M_curve_ends [I x0, I x1, I x2, I x3, I x4, I x5, I x6, I x7, I x8, I x9, I x10, I x11, I x12, B x13, I x14, B x15, I x16, I x17, I x18, I x19, I x20, B x21]).bind fun o21 =>
 (M_curve_dot [jA o21 0, jA o21 1, jA o21 2, jA o21 3, jA o21 0, jA o21 1, jA o21 2, jA o21 3]).bind fun o22 =>
 (M_curve_dot [jA o21 4, jA o21 5, jA o21 6, jA o21 7, jA o21 4, jA o21 5, jA o21 6, jA o21 7]).bind fun o23 =>
 bif decide (gA o22 0 < IntKind.i64.wrap (128 * 128)) then
 some [B false]
 else
 bif decide (gA o23 0 < IntKind.i64.wrap (128 * 128)) then
 some [B false]
 else
 (M_curve_near [I (IntKind.i64.wrap ((gA o22 0).tdiv 256)), I (IntKind.i64.wrap ((gA o23 0).tdiv 256))]).bind fun o24 =>
 bif !bA o24 0 then
 some [B false]
 else
 bif x13 then
 bif gA o21 0 == gA o21 4 then
 some [B (gA o21 1 == gA o21 5)]
 else
 some [B false]
 else
 (M_curve_cross [jA o21 0, jA o21 1, jA o21 2, jA o21 3, jA o21 4, jA o21 5, jA o21 6, jA o21 7]).bind fun o25 =>
 bif gA o25 0 != 0 then
 some [B true]
 else
 (M_curve_dot [jA o21 0, jA o21 1, jA o21 2, jA o21 3, jA o21 4, jA o21 5, jA o21 6, jA o21 7]).bind fun o26 =>
 some [B (decide (gA o26 0 < 0))]
attribute [go_sem] g_curve_Valid_1
theorem mf_curve_Valid_eq (M_curve_cross M_curve_near M_curve_dot M_curve_ends M_curve_axes M_curve_within : Fn) (x0 x1 x2 x3 x4 x5 x6 x7 x8 x9 x10 x11 x12 : Int) (x13 : Bool) (x14 : Int) (x15 : Bool) (x16 x17 x18 x19 x20 : Int) (x21 : Bool) : mf_curve_Valid M_curve_cross M_curve_near M_curve_dot M_curve_ends M_curve_axes M_curve_within [I x0, I x1, I x2, I x3, I x4, I x5, I x6, I x7, I x8, I x9, I x10, I x11, I x12, B x13, I x14, B x15, I x16, I x17, I x18, I x19, I x20, B x21] =
 bif decide (x0 < 1) then
 some [B false]
 else
 bif decide (x0 > 6) then
 some [B false]
 else
 (M_curve_within [I x2, I x3, I x4]).bind fun o17 =>
 bif !bA o17 0 then
 some [B false]
 else
 (M_curve_within [I x5, I x6, I x7]).bind fun o18 =>
 bif !bA o18 0 then
 some [B false]
 else
 bif x0 != 3 then
 some [B true]
 else
 (M_curve_axes [I x8]).bind fun o19 =>
 bif !bA o19 3 then
 some [B false]
 else
 bif x12 != 1 then
 bif x12 != -1 then
 some [B false]
 else
 g_curve_Valid_1 M_curve_within x9 x10 x11 M_curve_ends x0 x1 x2 x3 x4 x5 x6 x7 x8 x12 x13 x14 x15 x16 x17 x18 x19 x20 x21 M_curve_dot M_curve_near M_curve_cross
 else
 g_curve_Valid_1 M_curve_within x9 x10 x11 M_curve_ends x0 x1 x2 x3 x4 x5 x6 x7 x8 x12 x13 x14 x15 x16 x17 x18 x19 x20 x21 M_curve_dot M_curve_near M_curve_cross := by kernel_rfl
def m_curve_Valid := mf_curve_Valid m_curve_cross m_curve_near m_curve_dot m_curve_ends m_curve_axes m_curve_within 
theorem sp_curve_Valid : SpecOK Try.prog (C_curve_Valid_0 m_curve_cross m_curve_near m_curve_dot m_curve_ends m_curve_axes m_curve_within) := specOK_of rfl ⟨r_curve_cross, r_curve_near, r_curve_dot, r_curve_ends, r_curve_axes, r_curve_within, trivial⟩
theorem r_curve_Valid : RowOK Try.prog (66, spOf sig_curve_Valid osig_curve_Valid m_curve_Valid) := row_of (C := (C_curve_Valid_0 m_curve_cross m_curve_near m_curve_dot m_curve_ends m_curve_axes m_curve_within)) (L := 64) (by kernel_rfl) (FnOK.bare rfl rfl rfl) sp_curve_Valid eqOk mixOk (by kernel_rfl) (by kernel_rfl)
def sig_contour_OnArc : Sk := { tmps := [TS.v true [ci, ci, ci, ci, ci, ci, ci, ci, ci, ci, ci, ci, ci, CS.bool, ci, CS.bool, ci, ci, ci, ci, ci, CS.bool], TS.v true [ci, ci, ci], tf [ci]], boxes := [], rows := [] }
def osig_contour_OnArc : Sk := { tmps := [tf [CS.bool]], boxes := [], rows := [] }
def C_contour_OnArc_0 (M_contour_near M_contour_passed M_contour_above M_contour_dot M_curve_Plane M_contour_scaled M_curve_Valid : Fn) : Cfg := { spec := lookS [(72, spOf sig_contour_near osig_contour_near M_contour_near), (71, spOf sig_contour_passed osig_contour_passed M_contour_passed), (70, spOf sig_contour_above osig_contour_above M_contour_above), (69, spOf sig_contour_dot osig_contour_dot M_contour_dot), (67, spOf sig_curve_Plane osig_curve_Plane M_curve_Plane), (68, spOf sig_contour_scaled osig_contour_scaled M_contour_scaled), (66, spOf sig_curve_Valid osig_curve_Valid M_curve_Valid)], eqOk := eqAll, ownOff := ownOff }
def mf_contour_OnArc (M_contour_near M_contour_passed M_contour_above M_contour_dot M_curve_Plane M_contour_scaled M_curve_Valid : Fn) : Fn := modelF Try.prog (C_contour_OnArc_0 M_contour_near M_contour_passed M_contour_above M_contour_dot M_curve_Plane M_contour_scaled M_curve_Valid) 64 26 sig_contour_OnArc osig_contour_OnArc
theorem mf_contour_OnArc_eq (M_contour_near M_contour_passed M_contour_above M_contour_dot M_curve_Plane M_contour_scaled M_curve_Valid : Fn) (x0 x1 x2 x3 x4 x5 x6 x7 x8 x9 x10 x11 x12 : Int) (x13 : Bool) (x14 : Int) (x15 : Bool) (x16 x17 x18 x19 x20 : Int) (x21 : Bool) (x22 x23 x24 x25 : Int) : mf_contour_OnArc M_contour_near M_contour_passed M_contour_above M_contour_dot M_curve_Plane M_contour_scaled M_curve_Valid [I x0, I x1, I x2, I x3, I x4, I x5, I x6, I x7, I x8, I x9, I x10, I x11, I x12, B x13, I x14, B x15, I x16, I x17, I x18, I x19, I x20, B x21, I x22, I x23, I x24, I x25] =
 bif x0 != 3 then
 some [B false]
 else
 (M_curve_Valid [I x0, I x1, I x2, I x3, I x4, I x5, I x6, I x7, I x8, I x9, I x10, I x11, I x12, B x13, I x14, B x15, I x16, I x17, I x18, I x19, I x20, B x21]).bind fun o19 =>
 bif !bA o19 0 then
 some [B false]
 else
 (M_contour_scaled [I x9, I x10, I x11]).bind fun o20 =>
 (M_curve_Plane [jA o20 0, jA o20 1, jA o20 2, I x8]).bind fun o21 =>
 (M_contour_scaled [I x2, I x3, I x4]).bind fun o22 =>
 (M_curve_Plane [jA o22 0, jA o22 1, jA o22 2, I x8]).bind fun o23 =>
 (M_contour_scaled [I x5, I x6, I x7]).bind fun o24 =>
 (M_curve_Plane [jA o24 0, jA o24 1, jA o24 2, I x8]).bind fun o25 =>
 (M_curve_Plane [I x22, I x23, I x24, I x8]).bind fun o26 =>
 (M_contour_dot [I (IntKind.i64.wrap (gA o23 0 - gA o21 0)), I (IntKind.i64.wrap (gA o23 1 - gA o21 1)), I (IntKind.i64.wrap (gA o23 0 - gA o21 0)), I (IntKind.i64.wrap (gA o23 1 - gA o21 1))]).bind fun o27 =>
 (M_contour_dot [I (IntKind.i64.wrap (gA o25 0 - gA o21 0)), I (IntKind.i64.wrap (gA o25 1 - gA o21 1)), I (IntKind.i64.wrap (gA o25 0 - gA o21 0)), I (IntKind.i64.wrap (gA o25 1 - gA o21 1))]).bind fun o28 =>
 (M_contour_dot [I (IntKind.i64.wrap (gA o23 0 - gA o21 0)), I (IntKind.i64.wrap (gA o23 1 - gA o21 1)), I (IntKind.i64.wrap (gA o23 0 - gA o21 0)), I (IntKind.i64.wrap (gA o23 1 - gA o21 1))]).bind fun o29 =>
 (M_contour_dot [I (IntKind.i64.wrap (gA o25 0 - gA o21 0)), I (IntKind.i64.wrap (gA o25 1 - gA o21 1)), I (IntKind.i64.wrap (gA o25 0 - gA o21 0)), I (IntKind.i64.wrap (gA o25 1 - gA o21 1))]).bind fun o30 =>
 (M_contour_dot [I (IntKind.i64.wrap (gA o26 0 - gA o21 0)), I (IntKind.i64.wrap (gA o26 1 - gA o21 1)), I (IntKind.i64.wrap (gA o26 0 - gA o21 0)), I (IntKind.i64.wrap (gA o26 1 - gA o21 1))]).bind fun o31 =>
 (M_contour_above [I (mn (gA o27 0) (gA o28 0)), jA o31 0, I x25]).bind fun o32 =>
 bif !bA o32 0 then
 some [B false]
 else
 (M_contour_dot [I (IntKind.i64.wrap (gA o26 0 - gA o21 0)), I (IntKind.i64.wrap (gA o26 1 - gA o21 1)), I (IntKind.i64.wrap (gA o26 0 - gA o21 0)), I (IntKind.i64.wrap (gA o26 1 - gA o21 1))]).bind fun o33 =>
 (M_contour_above [jA o33 0, I (mx (gA o29 0) (gA o30 0)), I x25]).bind fun o34 =>
 bif !bA o34 0 then
 some [B false]
 else
 bif decide (gA o26 2 < IntKind.i64.wrap (mn (gA o23 2) (gA o25 2) - x25)) then
 some [B false]
 else
 bif decide (gA o26 2 > IntKind.i64.wrap (mx (gA o23 2) (gA o25 2) + x25)) then
 some [B false]
 else
 bif x13 then
 some [B true]
 else
 (M_contour_passed [I (IntKind.i64.wrap (gA o23 0 - gA o21 0)), I (IntKind.i64.wrap (gA o23 1 - gA o21 1)), I (IntKind.i64.wrap (gA o25 0 - gA o21 0)), I (IntKind.i64.wrap (gA o25 1 - gA o21 1)), I (IntKind.i64.wrap (gA o26 0 - gA o21 0)), I (IntKind.i64.wrap (gA o26 1 - gA o21 1)), I x12]).bind fun o35 =>
 bif bA o35 0 then
 some [B true]
 else
 (M_contour_near [I (IntKind.i64.wrap (gA o23 0 - gA o21 0)), I (IntKind.i64.wrap (gA o23 1 - gA o21 1)), I (IntKind.i64.wrap (gA o26 0 - gA o21 0)), I (IntKind.i64.wrap (gA o26 1 - gA o21 1)), I x25]).bind fun o36 =>
 bif bA o36 0 then
 some [B true]
 else
 (M_contour_near [I (IntKind.i64.wrap (gA o25 0 - gA o21 0)), I (IntKind.i64.wrap (gA o25 1 - gA o21 1)), I (IntKind.i64.wrap (gA o26 0 - gA o21 0)), I (IntKind.i64.wrap (gA o26 1 - gA o21 1)), I x25]).bind fun o37 =>
 some [B (bA o37 0)] := by kernel_rfl
def m_contour_OnArc := mf_contour_OnArc m_contour_near m_contour_passed m_contour_above m_contour_dot m_curve_Plane m_contour_scaled m_curve_Valid 
theorem sp_contour_OnArc : SpecOK Try.prog (C_contour_OnArc_0 m_contour_near m_contour_passed m_contour_above m_contour_dot m_curve_Plane m_contour_scaled m_curve_Valid) := specOK_of rfl ⟨r_contour_near, r_contour_passed, r_contour_above, r_contour_dot, r_curve_Plane, r_contour_scaled, r_curve_Valid, trivial⟩
theorem r_contour_OnArc : RowOK Try.prog (26, spOf sig_contour_OnArc osig_contour_OnArc m_contour_OnArc) := row_of (C := (C_contour_OnArc_0 m_contour_near m_contour_passed m_contour_above m_contour_dot m_curve_Plane m_contour_scaled m_curve_Valid)) (L := 64) (by kernel_rfl) (FnOK.bare rfl rfl rfl) sp_contour_OnArc eqOk mixOk (by kernel_rfl) (by kernel_rfl)
def sig_cncmill_Mod : Sk := { tmps := [tf [ci], tf [ci]], boxes := [], rows := [] }
def osig_cncmill_Mod : Sk := { tmps := [tf [ci]], boxes := [], rows := [] }
def C_cncmill_Mod_0 : Cfg := { spec := lookS [], eqOk := eqAll, ownOff := ownOff }
def mf_cncmill_Mod : Fn := modelF Try.prog C_cncmill_Mod_0 64 23 sig_cncmill_Mod osig_cncmill_Mod
theorem mf_cncmill_Mod_eq (x0 x1 : Int) : mf_cncmill_Mod [I x0, I x1] =
 bif decide (x1 = 0) then
 none
 else
 bif decide (x1 = 0) then
 none
 else
 some [I ((IntKind.i64.wrap (x0.tmod x1 + x1)).tmod x1)] := by kernel_rfl
def m_cncmill_Mod := mf_cncmill_Mod 
theorem sp_cncmill_Mod : SpecOK Try.prog (C_cncmill_Mod_0 ) := specOK_of rfl trivial
theorem r_cncmill_Mod : RowOK Try.prog (23, spOf sig_cncmill_Mod osig_cncmill_Mod m_cncmill_Mod) := row_of (C := C_cncmill_Mod_0) (L := 64) (by kernel_rfl) (FnOK.bare rfl rfl rfl) sp_cncmill_Mod eqOk mixOk (by kernel_rfl) (by kernel_rfl)
def sig_cncref23_Space : Sk := { tmps := [tf [ci], tf [ci], tf [ci], tf [ci]], boxes := [], rows := [] }
def osig_cncref23_Space : Sk := { tmps := [TS.v true [ci, ci, ci]], boxes := [], rows := [] }
def C_cncref23_Space_0 : Cfg := { spec := lookS [], eqOk := eqAll, ownOff := ownOff }
def mf_cncref23_Space : Fn := modelF Try.prog C_cncref23_Space_0 64 65 sig_cncref23_Space osig_cncref23_Space
theorem mf_cncref23_Space_eq (x0 x1 x2 x3 : Int) : mf_cncref23_Space [I x0, I x1, I x2, I x3] =
 bif x3 == 17 then
 some [I x0, I x1, I x2]
 else
 bif x3 == 18 then
 some [I x1, I x2, I x0]
 else
 bif x3 == 19 then
 some [I x2, I x0, I x1]
 else
 some [I 0, I 0, I 0] := by kernel_rfl
def m_cncref23_Space := mf_cncref23_Space 
theorem sp_cncref23_Space : SpecOK Try.prog (C_cncref23_Space_0 ) := specOK_of rfl trivial
theorem r_cncref23_Space : RowOK Try.prog (65, spOf sig_cncref23_Space osig_cncref23_Space m_cncref23_Space) := row_of (C := C_cncref23_Space_0) (L := 64) (by kernel_rfl) (FnOK.bare rfl rfl rfl) sp_cncref23_Space eqOk mixOk (by kernel_rfl) (by kernel_rfl)
def sig_cncref23_product : Sk := { tmps := [tf [CS.int .u64], tf [CS.int .u64]], boxes := [], rows := [] }
def osig_cncref23_product : Sk := { tmps := [TS.tup [(false, [CS.int .u64]), (false, [CS.int .u64])]], boxes := [], rows := [] }
def C_cncref23_product_0 : Cfg := { spec := lookS [], eqOk := eqAll, ownOff := ownOff }
def mf_cncref23_product : Fn := modelF Try.prog C_cncref23_product_0 64 187 sig_cncref23_product osig_cncref23_product
theorem mf_cncref23_product_eq (x0 x1 : Int) : mf_cncref23_product [U x0, U x1] =
 some [U (IntKind.u64.wrap (IntKind.u64.wrap (IntKind.u64.wrap (x0.fdiv (2 ^ min (Int.toNat 32) IntKind.u64.bits) * x1.fdiv (2 ^ min (Int.toNat 32) IntKind.u64.bits)) + (IntKind.u64.wrap (IntKind.u64.wrap (x0.fdiv (2 ^ min (Int.toNat 32) IntKind.u64.bits) * IntKind.u64.wrap (↑(BitVec.ofInt IntKind.u64.bits x1 &&& BitVec.ofInt IntKind.u64.bits 4294967295).toNat : Int)) + (IntKind.u64.wrap (IntKind.u64.wrap (↑(BitVec.ofInt IntKind.u64.bits x0 &&& BitVec.ofInt IntKind.u64.bits 4294967295).toNat : Int) * IntKind.u64.wrap (↑(BitVec.ofInt IntKind.u64.bits x1 &&& BitVec.ofInt IntKind.u64.bits 4294967295).toNat : Int))).fdiv (2 ^ min (Int.toNat 32) IntKind.u64.bits))).fdiv (2 ^ min (Int.toNat 32) IntKind.u64.bits)) + (IntKind.u64.wrap (IntKind.u64.wrap (IntKind.u64.wrap (↑(BitVec.ofInt IntKind.u64.bits x0 &&& BitVec.ofInt IntKind.u64.bits 4294967295).toNat : Int) * x1.fdiv (2 ^ min (Int.toNat 32) IntKind.u64.bits)) + IntKind.u64.wrap (↑(BitVec.ofInt IntKind.u64.bits (IntKind.u64.wrap (IntKind.u64.wrap (x0.fdiv (2 ^ min (Int.toNat 32) IntKind.u64.bits) * IntKind.u64.wrap (↑(BitVec.ofInt IntKind.u64.bits x1 &&& BitVec.ofInt IntKind.u64.bits 4294967295).toNat : Int)) + (IntKind.u64.wrap (IntKind.u64.wrap (↑(BitVec.ofInt IntKind.u64.bits x0 &&& BitVec.ofInt IntKind.u64.bits 4294967295).toNat : Int) * IntKind.u64.wrap (↑(BitVec.ofInt IntKind.u64.bits x1 &&& BitVec.ofInt IntKind.u64.bits 4294967295).toNat : Int))).fdiv (2 ^ min (Int.toNat 32) IntKind.u64.bits))) &&& BitVec.ofInt IntKind.u64.bits 4294967295).toNat : Int))).fdiv (2 ^ min (Int.toNat 32) IntKind.u64.bits))), U (IntKind.u64.wrap (↑(BitVec.ofInt IntKind.u64.bits (IntKind.u64.wrap (IntKind.u64.wrap (IntKind.u64.wrap (IntKind.u64.wrap (↑(BitVec.ofInt IntKind.u64.bits x0 &&& BitVec.ofInt IntKind.u64.bits 4294967295).toNat : Int) * x1.fdiv (2 ^ min (Int.toNat 32) IntKind.u64.bits)) + IntKind.u64.wrap (↑(BitVec.ofInt IntKind.u64.bits (IntKind.u64.wrap (IntKind.u64.wrap (x0.fdiv (2 ^ min (Int.toNat 32) IntKind.u64.bits) * IntKind.u64.wrap (↑(BitVec.ofInt IntKind.u64.bits x1 &&& BitVec.ofInt IntKind.u64.bits 4294967295).toNat : Int)) + (IntKind.u64.wrap (IntKind.u64.wrap (↑(BitVec.ofInt IntKind.u64.bits x0 &&& BitVec.ofInt IntKind.u64.bits 4294967295).toNat : Int) * IntKind.u64.wrap (↑(BitVec.ofInt IntKind.u64.bits x1 &&& BitVec.ofInt IntKind.u64.bits 4294967295).toNat : Int))).fdiv (2 ^ min (Int.toNat 32) IntKind.u64.bits))) &&& BitVec.ofInt IntKind.u64.bits 4294967295).toNat : Int)) * 2 ^ min (Int.toNat 32) IntKind.u64.bits)) ||| BitVec.ofInt IntKind.u64.bits (IntKind.u64.wrap (↑(BitVec.ofInt IntKind.u64.bits (IntKind.u64.wrap (IntKind.u64.wrap (↑(BitVec.ofInt IntKind.u64.bits x0 &&& BitVec.ofInt IntKind.u64.bits 4294967295).toNat : Int) * IntKind.u64.wrap (↑(BitVec.ofInt IntKind.u64.bits x1 &&& BitVec.ofInt IntKind.u64.bits 4294967295).toNat : Int))) &&& BitVec.ofInt IntKind.u64.bits 4294967295).toNat : Int))).toNat : Int))] := by kernel_rfl
def m_cncref23_product := mf_cncref23_product 
def sig_cncref23_most : Sk := { tmps := [tf [CS.int .u64], tf [CS.int .u64], tf [CS.int .u64], tf [CS.int .u64], tf [CS.bool]], boxes := [], rows := [] }
def osig_cncref23_most : Sk := { tmps := [tf [CS.bool]], boxes := [], rows := [] }
def C_cncref23_most_0 (M_cncref23_product : Fn) : Cfg := { spec := lookS [(187, spOf sig_cncref23_product osig_cncref23_product M_cncref23_product)], eqOk := eqAll, ownOff := ownOff }
def mf_cncref23_most (M_cncref23_product : Fn) : Fn := modelF Try.prog (C_cncref23_most_0 M_cncref23_product) 64 180 sig_cncref23_most osig_cncref23_most
theorem mf_cncref23_most_eq (M_cncref23_product : Fn) (x0 x1 x2 x3 : Int) (x4 : Bool) : mf_cncref23_most M_cncref23_product [U x0, U x1, U x2, U x3, B x4] =
 (M_cncref23_product [U x0, U x1]).bind fun o2 =>
 (M_cncref23_product [U x2, U x3]).bind fun o3 =>
 bif decide (gA o2 0 < gA o3 0) then
 some [B true]
 else
 bif gA o2 0 == gA o3 0 then
 bif decide (gA o2 1 < gA o3 1) then
 some [B true]
 else
 bif gA o2 1 == gA o3 1 then
 some [B !x4]
 else
 some [B false]
 else
 some [B false] := by kernel_rfl
def m_cncref23_most := mf_cncref23_most m_cncref23_product 
def sig_cncref23_Near : Sk := { tmps := [tf [ci], tf [ci], tf [ci]], boxes := [], rows := [] }
def osig_cncref23_Near : Sk := { tmps := [tf [ci]], boxes := [], rows := [] }
def C_cncref23_Near_0 (M_cncref23_most : Fn) : Cfg := { spec := lookS [(180, spOf sig_cncref23_most osig_cncref23_most M_cncref23_most)], eqOk := eqAll, ownOff := ownOff }
def sk_cncref23_Near_3 : Sk := { tmps := [tf [ci], td, td, td, td, td, td, tf [CS.int .u64], tf [CS.int .u64], tf [CS.int .u64], tf [CS.int .u64]] ++ dd 51, boxes := [], rows := [] }
def ex_cncref23_Near_3 : List (Ex × Sk) := [(Ex.exit 0, { tmps := [tf [ci], td, td, td, td, td, td, tf [CS.int .u64], tf [CS.int .u64], tf [CS.int .u64]] ++ dd 52, boxes := [], rows := [] })]
def st_cncref23_Near_3 (M_cncref23_most : Fn) : Lp := stepL Try.prog (C_cncref23_Near_0 M_cncref23_most) 64 3 (bodyOf Try.prog 170 3) sk_cncref23_Near_3 ex_cncref23_Near_3
def C_cncref23_Near_1 (M_cncref23_most : Fn) (N3 : Lp) : Cfg := (C_cncref23_Near_0 M_cncref23_most).loop 3 sk_cncref23_Near_3 ex_cncref23_Near_3 N3
def mf_cncref23_Near (M_cncref23_most : Fn) (N3 : Lp) : Fn := modelF Try.prog (C_cncref23_Near_1 M_cncref23_most N3) 64 170 sig_cncref23_Near osig_cncref23_Near
theorem st_cncref23_Near_3_eq (M_cncref23_most : Fn) (v0 v1 v2 v3 v4 : Int) : st_cncref23_Near_3 M_cncref23_most [I v0, U v1, U v2, U v3, U v4] =
 bif decide (v4 > 0) then
 (M_cncref23_most [U (IntKind.u64.wrap (IntKind.u64.wrap (v3 + v4) * IntKind.u64.wrap (v3 + v4))), U v2, U v1, U v1, B false]).bind fun o3 =>
 bif bA o3 0 then
 some (0, [I v0, U v1, U v2, U (IntKind.u64.wrap (v3 + v4)), U (v4.fdiv (2 ^ min (Int.toNat 1) IntKind.u64.bits))])
 else
 some (0, [I v0, U v1, U v2, U v3, U (v4.fdiv (2 ^ min (Int.toNat 1) IntKind.u64.bits))])
 else
 some (1, [I v0, U v1, U v2, U v3]) := by kernel_rfl
theorem mf_cncref23_Near_eq (M_cncref23_most : Fn) (N3 : Lp) (x0 x1 x2 : Int) : mf_cncref23_Near M_cncref23_most N3 [I x0, I x1, I x2] =
 (N3 [I x0, U (IntKind.u64.wrap (IntKind.i64.wrap (mx x0 (IntKind.i64.wrap (0 - x0)) * x1))), U (IntKind.u64.wrap x2), U 0, U 134217728]).bind fun o4 =>
 bif o4.1.beq 1 then
 (M_cncref23_most [U (IntKind.u64.wrap (IntKind.u64.wrap (IntKind.u64.wrap (2 * gA o4.2 3) + 1) * IntKind.u64.wrap (IntKind.u64.wrap (2 * gA o4.2 3) + 1))), U (gA o4.2 2), U (IntKind.u64.wrap (2 * gA o4.2 1)), U (IntKind.u64.wrap (2 * gA o4.2 1)), B (decide (gA o4.2 0 < 0))]).bind fun o5 =>
 bif bA o5 0 then
 bif decide (gA o4.2 0 < 0) then
 some [I (IntKind.i64.wrap (0 - IntKind.i64.wrap (IntKind.u64.wrap (gA o4.2 3 + 1))))]
 else
 some [I (IntKind.i64.wrap (IntKind.u64.wrap (gA o4.2 3 + 1)))]
 else
 bif decide (gA o4.2 0 < 0) then
 some [I (IntKind.i64.wrap (0 - IntKind.i64.wrap (gA o4.2 3)))]
 else
 some [I (IntKind.i64.wrap (gA o4.2 3))]
 else
 none := by kernel_rfl
def l_cncref23_Near_3 := loopC (st_cncref23_Near_3 m_cncref23_most )
def m_cncref23_Near := mf_cncref23_Near m_cncref23_most l_cncref23_Near_3
abbrev g_cncref23_Middle_1 (M_cncref23_half : Fn) (x2 x6 : Int) (M_cncref23_Near : Fn) (x3 x7 : Int) (h1_0 h1_1 : Bool) (h1_2 h1_3 h1_4 : AC) : Option (List AC) :=
 bif h1_0 then
 bif h1_1 then
 some [I 0, I 0, I 0, I 0, B false]
 else
 (M_cncref23_half [I x2, I x6]).bind fun o104 =>
 (M_cncref23_Near [h1_2, jA o104 0, h1_3]).bind fun o105 =>
 (M_cncref23_Near [h1_4, jA o104 0, h1_3]).bind fun o106 =>
 (M_cncref23_half [I x3, I x7]).bind fun o107 =>
 some [jA o105 0, jA o106 0, jA o104 0, jA o107 0, B true]
 else
 (M_cncref23_half [I x2, I x6]).bind fun o108 =>
 (M_cncref23_Near [h1_2, jA o108 0, h1_3]).bind fun o109 =>
 (M_cncref23_Near [h1_4, jA o108 0, h1_3]).bind fun o110 =>
 (M_cncref23_half [I x3, I x7]).bind fun o111 =>
 some [jA o109 0, jA o110 0, jA o108 0, jA o111 0, B true]
attribute [go_sem] g_cncref23_Middle_1
abbrev g_cncref23_Middle_2 (M_cncref23_Dot : Fn) (x0 x1 x2 x3 x4 x5 x6 x7 : Int) (M_cncref23_half M_cncref23_Near : Fn) (x8 : Int) : Option (List AC) :=
 (M_cncref23_Dot [I x0, I x1, I x2, I x3, I x4, I x5, I x6, I x7]).bind fun o122 =>
 bif decide (gA o122 0 > 0) then
 g_cncref23_Middle_1 M_cncref23_half x2 x6 M_cncref23_Near x3 x7 (IntKind.i64.wrap (0 - IntKind.i64.wrap (x0 + x4)) == 0) (IntKind.i64.wrap (0 - IntKind.i64.wrap (x1 + x5)) == 0) (I (IntKind.i64.wrap (0 - IntKind.i64.wrap (x0 + x4)))) (I (IntKind.i64.wrap (IntKind.i64.wrap (IntKind.i64.wrap (0 - IntKind.i64.wrap (x0 + x4)) * IntKind.i64.wrap (0 - IntKind.i64.wrap (x0 + x4))) + IntKind.i64.wrap (IntKind.i64.wrap (0 - IntKind.i64.wrap (x1 + x5)) * IntKind.i64.wrap (0 - IntKind.i64.wrap (x1 + x5)))))) (I (IntKind.i64.wrap (0 - IntKind.i64.wrap (x1 + x5))))
 else
 g_cncref23_Middle_1 M_cncref23_half x2 x6 M_cncref23_Near x3 x7 (IntKind.i64.wrap (x8 * IntKind.i64.wrap (x5 - x1)) == 0) (IntKind.i64.wrap (x8 * IntKind.i64.wrap (x0 - x4)) == 0) (I (IntKind.i64.wrap (x8 * IntKind.i64.wrap (x5 - x1)))) (I (IntKind.i64.wrap (IntKind.i64.wrap (IntKind.i64.wrap (x8 * IntKind.i64.wrap (x5 - x1)) * IntKind.i64.wrap (x8 * IntKind.i64.wrap (x5 - x1))) + IntKind.i64.wrap (IntKind.i64.wrap (x8 * IntKind.i64.wrap (x0 - x4)) * IntKind.i64.wrap (x8 * IntKind.i64.wrap (x0 - x4)))))) (I (IntKind.i64.wrap (x8 * IntKind.i64.wrap (x0 - x4))))
attribute [go_sem] g_cncref23_Middle_2
abbrev g_cncref23_Middle_3 (x9 : Bool) (M_cncref23_half : Fn) (x2 x6 : Int) (M_cncref23_Near : Fn) (x3 x7 x0 x1 : Int) (M_cncref23_Dot : Fn) (x4 x5 : Int) (M_cncref23_Cross : Fn) (x8 : Int) : Option (List AC) :=
 bif x9 then
 g_cncref23_Middle_1 M_cncref23_half x2 x6 M_cncref23_Near x3 x7 (IntKind.i64.wrap (0 - x0) == 0) (IntKind.i64.wrap (0 - x1) == 0) (I (IntKind.i64.wrap (0 - x0))) (I (IntKind.i64.wrap (IntKind.i64.wrap (IntKind.i64.wrap (0 - x0) * IntKind.i64.wrap (0 - x0)) + IntKind.i64.wrap (IntKind.i64.wrap (0 - x1) * IntKind.i64.wrap (0 - x1))))) (I (IntKind.i64.wrap (0 - x1)))
 else
 (M_cncref23_Dot [I x0, I x1, I x2, I x3, I x4, I x5, I x6, I x7]).bind fun o112 =>
 bif decide (gA o112 0 > 0) then
 (M_cncref23_Cross [I x0, I x1, I x2, I x3, I x4, I x5, I x6, I x7]).bind fun o113 =>
 bif decide (IntKind.i64.wrap (gA o113 0 * x8) > 0) then
 g_cncref23_Middle_1 M_cncref23_half x2 x6 M_cncref23_Near x3 x7 (IntKind.i64.wrap (x0 + x4) == 0) (IntKind.i64.wrap (x1 + x5) == 0) (I (IntKind.i64.wrap (x0 + x4))) (I (IntKind.i64.wrap (IntKind.i64.wrap (IntKind.i64.wrap (x0 + x4) * IntKind.i64.wrap (x0 + x4)) + IntKind.i64.wrap (IntKind.i64.wrap (x1 + x5) * IntKind.i64.wrap (x1 + x5))))) (I (IntKind.i64.wrap (x1 + x5)))
 else
 g_cncref23_Middle_2 M_cncref23_Dot x0 x1 x2 x3 x4 x5 x6 x7 M_cncref23_half M_cncref23_Near x8
 else
 g_cncref23_Middle_2 M_cncref23_Dot x0 x1 x2 x3 x4 x5 x6 x7 M_cncref23_half M_cncref23_Near x8
attribute [go_sem] g_cncref23_Middle_3
def sig_cncmill_turned : Sk := { tmps := [tf [ci], tf [ci]], boxes := [], rows := [] }
def osig_cncmill_turned : Sk := { tmps := [TS.tup [(false, [ci]), (false, [ci])]], boxes := [], rows := [] }
def C_cncmill_turned_0 : Cfg := { spec := lookS [], eqOk := eqAll, ownOff := ownOff }
def mf_cncmill_turned : Fn := modelF Try.prog C_cncmill_turned_0 64 112 sig_cncmill_turned osig_cncmill_turned
theorem mf_cncmill_turned_eq (x0 x1 : Int) : mf_cncmill_turned [I x0, I x1] =
 bif decide (0 <= x1.tmod 4) && decide (x1.tmod 4 < (↑[[I x0], [I 0], [I (IntKind.i64.wrap (0 - x0))], [I 0]].length : Int)) then
 bif decide (0 <= x1.tmod 4) && decide (x1.tmod 4 < (↑[[I 0], [I x0], [I 0], [I (IntKind.i64.wrap (0 - x0))]].length : Int)) then
 some [I (intOf (nth .dead (nth [] [[I x0], [I 0], [I (IntKind.i64.wrap (0 - x0))], [I 0]] (x1.tmod 4).toNat) 0)), I (intOf (nth .dead (nth [] [[I 0], [I x0], [I 0], [I (IntKind.i64.wrap (0 - x0))]] (x1.tmod 4).toNat) 0))]
 else
 none
 else
 none := by kernel_rfl
def m_cncmill_turned := mf_cncmill_turned 
theorem sp_cncmill_turned : SpecOK Try.prog (C_cncmill_turned_0 ) := specOK_of rfl trivial
theorem r_cncmill_turned : RowOK Try.prog (112, spOf sig_cncmill_turned osig_cncmill_turned m_cncmill_turned) := row_of (C := C_cncmill_turned_0) (L := 64) (by kernel_rfl) (FnOK.bare rfl rfl rfl) sp_cncmill_turned eqOk mixOk (by kernel_rfl) (by kernel_rfl)
end Go.Bm
