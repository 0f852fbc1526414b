/- functions of the program and of the references, as models -/
import Derived.Test.YtdllaekpkcanbaaSeShelf
import Derived.Test.YtdllaekpkcanbaaSeExt
import Derived.Test.YtdllaekpkcanbaaSePre
import Derived.Test.YtdllaekpkcanbaaBmTy
set_option linter.unusedSimpArgs false
set_option linter.unusedVariables false
set_option maxRecDepth 100000
noncomputable section
namespace Go.Bm
open Go.Proofs
def Qm6 : Sk := { tmps := [TS.v true [ci, ci, ci], tf [ci]], boxes := [], rows := [] }
def Qma : Sk := { tmps := [TS.tup [(false, [ci]), (false, [ci]), (false, [ci])]], boxes := [], rows := [] }
def Qm4 : Cfg := { spec := Qbq [], eqOk := Qbw, ownOff := ownOff }
def mf_cncref23_Plane : Fn := Qat Try.prog Qm4 64 64 Qm6 Qma
theorem mf_cncref23_Plane_eq (x0 x1 x2 x3 : Int) : mf_cncref23_Plane [I x0, I x1, I x2, I x3] =
 bif x3 == 17 then
 some [I x0, I x1, I x2]
 else
 bif x3 == 18 then
 some [I x2, I x0, I x1]
 else
 bif x3 == 19 then
 some [I x1, I x2, I x0]
 else
 some [I 0, I 0, I 0] := by kernel_rfl
def Qfz := mf_cncref23_Plane 
theorem sp_cncref23_Plane : Qan Try.prog (Qm4 ) := Qad rfl trivial
theorem r_cncref23_Plane : Qbv Try.prog (64, spOf Qm6 Qma Qfz) := Qa7 (C := Qm4) (L := 64) (by kernel_rfl) (FnOK.bare rfl rfl rfl) sp_cncref23_Plane eqOk Qbo (by kernel_rfl) (by kernel_rfl)
def sig_cncref23_root : Sk := { tmps := [tf [ci]], boxes := [], rows := [] }
def osig_cncref23_root : Sk := { tmps := [tf [ci]], boxes := [], rows := [] }
def C_cncref23_root_0 : Cfg := { spec := Qbq [], eqOk := Qbw, ownOff := ownOff }
def sk_cncref23_root_3 : Sk := { tmps := [tf [ci], td, td, tf [ci], tf [ci]] ++ dd 17, boxes := [], rows := [] }
def ex_cncref23_root_3 : List (Ex × Sk) := [(Ex.exit 0, { tmps := [td, td, td, tf [ci]] ++ dd 18, boxes := [], rows := [] })]
def Qd8 : Lp := stepL Try.prog C_cncref23_root_0 64 3 (Qhz Try.prog 142 3) sk_cncref23_root_3 ex_cncref23_root_3
def C_cncref23_root_1 (N3 : Lp) : Cfg := C_cncref23_root_0.loop 3 sk_cncref23_root_3 ex_cncref23_root_3 N3
def mf_cncref23_root (N3 : Lp) : Fn := Qat Try.prog (C_cncref23_root_1 N3) 64 142 sig_cncref23_root osig_cncref23_root
theorem st_cncref23_root_3_eq (v0 v1 v2 : Int) : Qd8 [I v0, I v1, I v2] =
 bif decide (v2 > 0) then
 bif decide (IntKind.i64.wrap (IntKind.i64.wrap (v1 + v2) * IntKind.i64.wrap (v1 + v2)) <= v0) then
 some (0, [I v0, I (IntKind.i64.wrap (v1 + v2)), I (v2.fdiv (2 ^ min (Int.toNat 1) IntKind.i64.bits))])
 else
 some (0, [I v0, I v1, I (v2.fdiv (2 ^ min (Int.toNat 1) IntKind.i64.bits))])
 else
 some (1, [I v1]) := by kernel_rfl
theorem mf_cncref23_root_eq (N3 : Lp) (x0 : Int) : mf_cncref23_root N3 [I x0] =
 (N3 [I x0, I 0, I 1073741824]).bind fun o1 =>
 bif o1.1.beq 1 then
 some [jA o1.2 0]
 else
 none := by kernel_rfl
def l_cncref23_root_3 := Qb1 (Qd8 )
def m_cncref23_root := mf_cncref23_root l_cncref23_root_3
abbrev Qmo (x13 : Bool) (o61 : List AC) (Qf6 Qda : Fn) : Option (List AC) :=
 bif x13 then
 bif gA o61 0 == gA o61 4 then
 some [B (gA o61 1 == gA o61 5)]
 else
 some [B false]
 else
 (Qf6 [jA o61 0, jA o61 1, jA o61 2, jA o61 3, jA o61 4, jA o61 5, jA o61 6, jA o61 7]).bind fun o65 =>
 bif gA o65 0 != 0 then
 some [B true]
 else
 (Qda [jA o61 0, jA o61 1, jA o61 2, jA o61 3, jA o61 4, jA o61 5, jA o61 6, jA o61 7]).bind fun o66 =>
 some [B (decide (gA o66 0 < 0))]
attribute [go_sem] Qmo
abbrev g_cncref23_Valid_1 (M_cncref23_within : Fn) (x9 x10 x11 : Int) (M_cncref23_ends : Fn) (x0 x1 x2 x3 x4 x5 x6 x7 x8 x12 : Int) (x13 : Bool) (x14 : Int) (x15 : Bool) (x16 x17 x18 x19 x20 : Int) (x21 : Bool) (Qda M_cncref01_Cmp Qf6 : Fn) : Option (List AC) :=
 (M_cncref23_within [I x9, I x10, I x11]).bind fun o60 =>
 bif !bA o60 0 then
 some [B false]
 else
 (M_cncref23_ends [I x0, I x1, I x2, I x3, I x4, I x5, I x6, I x7, I x8, I x9, I x10, I x11, I x12, B x13, I x14, B x15, I x16, I x17, I x18, I x19, I x20, B x21]).bind fun o61 =>
 (Qda [jA o61 0, jA o61 1, jA o61 2, jA o61 3, jA o61 0, jA o61 1, jA o61 2, jA o61 3]).bind fun o62 =>
 (Qda [jA o61 4, jA o61 5, jA o61 6, jA o61 7, jA o61 4, jA o61 5, jA o61 6, jA o61 7]).bind fun o63 =>
 bif decide (gA o62 0 < 64) then
 some [B false]
 else
 bif decide (gA o63 0 < 64) then
 some [B false]
 else
 bif decide (IntKind.i64.wrap (IntKind.i64.wrap (gA o62 0 + gA o63 0) - 16) > 0) then
 (M_cncref01_Cmp [I (IntKind.i64.wrap (IntKind.i64.wrap (gA o62 0 + gA o63 0) - 16)), I (IntKind.i64.wrap (IntKind.i64.wrap (gA o62 0 + gA o63 0) - 16)), I (IntKind.i64.wrap (4 * gA o62 0)), jA o63 0]).bind fun o64 =>
 bif decide (gA o64 0 > 0) then
 some [B false]
 else
 Qmo x13 o61 Qf6 Qda
 else
 Qmo x13 o61 Qf6 Qda
attribute [go_sem] g_cncref23_Valid_1
def Qlg : Sk := { tmps := [TS.v true [CS.int .u64, CS.int .u64], TS.v true [CS.int .u64, CS.int .u64]], boxes := [], rows := [] }
def Qj9 : Sk := { tmps := [tf [ci]], boxes := [], rows := [] }
def C_wide_compare_0 : Cfg := { spec := Qbq [], eqOk := Qbw, ownOff := ownOff }
def mf_wide_compare : Fn := Qat Try.prog C_wide_compare_0 64 105 Qlg Qj9
theorem mf_wide_compare_eq (x0 x1 x2 x3 : Int) : mf_wide_compare [U x0, U x1, U x2, U x3] =
 bif decide (x0 < x2) then
 some [I (-1)]
 else
 bif x0 == x2 then
 bif decide (x1 < x3) then
 some [I (-1)]
 else
 bif x0 == x2 && (x1 == x3 && true) then
 some [I 0]
 else
 some [I 1]
 else
 bif x0 == x2 && (x1 == x3 && true) then
 some [I 0]
 else
 some [I 1] := by kernel_rfl
def Qd3 := mf_wide_compare 
theorem sp_wide_compare : Qan Try.prog (C_wide_compare_0 ) := Qad rfl trivial
theorem r_wide_compare : Qbv Try.prog (105, spOf Qlg Qj9 Qd3) := Qa7 (C := C_wide_compare_0) (L := 64) (by kernel_rfl) (FnOK.bare rfl rfl rfl) sp_wide_compare eqOk Qbo (by kernel_rfl) (by kernel_rfl)
def Qf4 : Sk := { tmps := [tf [CS.int .u64], tf [CS.int .u64]], boxes := [], rows := [] }
def Qfe : Sk := { tmps := [TS.v true [CS.int .u64, CS.int .u64]], boxes := [], rows := [] }
def C_wide_product_0 (Qd1 : Fn) : Cfg := { spec := Qbq [(147, spOf Qkz Qjb Qd1)], eqOk := Qbw, ownOff := ownOff }
def mf_wide_product (Qd1 : Fn) : Fn := Qat Try.prog (C_wide_product_0 Qd1) 64 106 Qf4 Qfe
theorem mf_wide_product_eq (Qd1 : Fn) (x0 x1 : Int) : mf_wide_product Qd1 [U x0, U x1] =
 (Qd1 [U x0, U x1]).bind fun o1 =>
 some [U (gA o1 0), U (gA o1 1)] := by kernel_rfl
def Qbp := mf_wide_product Qed 
theorem sp_wide_product : Qan Try.prog (C_wide_product_0 Qed) := Qad rfl ⟨r_bits_Mul64, trivial⟩
theorem r_wide_product : Qbv Try.prog (106, spOf Qf4 Qfe Qbp) := Qa7 (C := (C_wide_product_0 Qed)) (L := 64) (by kernel_rfl) (FnOK.bare rfl rfl rfl) sp_wide_product eqOk Qbo (by kernel_rfl) (by kernel_rfl)
def Qon : Sk := { tmps := [tf [ci]], boxes := [], rows := [] }
def Qk8 : Sk := { tmps := [tf [CS.int .u64]], boxes := [], rows := [] }
def C_wide_size_0 : Cfg := { spec := Qbq [], eqOk := Qbw, ownOff := ownOff }
def mf_wide_size : Fn := Qat Try.prog C_wide_size_0 64 107 Qon Qk8
theorem mf_wide_size_eq (x0 : Int) : mf_wide_size [I x0] =
 bif decide (x0 < 0) then
 some [U (IntKind.u64.wrap (IntKind.u64.wrap (IntKind.i64.wrap (0 - IntKind.i64.wrap (x0 + 1))) + 1))]
 else
 some [U (IntKind.u64.wrap x0)] := by kernel_rfl
def Qem := mf_wide_size 
theorem sp_wide_size : Qan Try.prog (C_wide_size_0 ) := Qad rfl trivial
theorem r_wide_size : Qbv Try.prog (107, spOf Qon Qk8 Qem) := Qa7 (C := C_wide_size_0) (L := 64) (by kernel_rfl) (FnOK.bare rfl rfl rfl) sp_wide_size eqOk Qbo (by kernel_rfl) (by kernel_rfl)
def Qnl : Sk := { tmps := [tf [ci], tf [ci]], boxes := [], rows := [] }
def Qk0 : Sk := { tmps := [tf [ci]], boxes := [], rows := [] }
def C_wide_sign_0 : Cfg := { spec := Qbq [], eqOk := Qbw, ownOff := ownOff }
def mf_wide_sign : Fn := Qat Try.prog C_wide_sign_0 64 104 Qnl Qk0
theorem mf_wide_sign_eq (x0 x1 : Int) : mf_wide_sign [I x0, I x1] =
 bif x0 == 0 then
 some [I 0]
 else
 bif x1 == 0 then
 some [I 0]
 else
 bif decide (x0 < 0) == decide (x1 < 0) then
 some [I 1]
 else
 some [I (-1)] := by kernel_rfl
def Qel := mf_wide_sign 
theorem sp_wide_sign : Qan Try.prog (C_wide_sign_0 ) := Qad rfl trivial
theorem r_wide_sign : Qbv Try.prog (104, spOf Qnl Qk0 Qel) := Qa7 (C := C_wide_sign_0) (L := 64) (by kernel_rfl) (FnOK.bare rfl rfl rfl) sp_wide_sign eqOk Qbo (by kernel_rfl) (by kernel_rfl)
def Qmm : Sk := { tmps := [tf [ci], tf [ci], tf [ci], tf [ci]], boxes := [], rows := [] }
def Qjw : Sk := { tmps := [tf [ci]], boxes := [], rows := [] }
def C_wide_Cmp_0 (Qbk Qak Qbg Qbu : Fn) : Cfg := { spec := Qbq [(105, spOf Qlg Qj9 Qbk), (106, spOf Qf4 Qfe Qak), (107, spOf Qon Qk8 Qbg), (104, spOf Qnl Qk0 Qbu)], eqOk := Qbw, ownOff := ownOff }
def mf_wide_Cmp (Qbk Qak Qbg Qbu : Fn) : Fn := Qat Try.prog (C_wide_Cmp_0 Qbk Qak Qbg Qbu) 64 57 Qmm Qjw
theorem mf_wide_Cmp_eq (Qbk Qak Qbg Qbu : Fn) (x0 x1 x2 x3 : Int) : mf_wide_Cmp Qbk Qak Qbg Qbu [I x0, I x1, I x2, I x3] =
 (Qbu [I x0, I x1]).bind fun o9 =>
 (Qbu [I x2, I x3]).bind fun o10 =>
 bif gA o9 0 != gA o10 0 then
 bif decide (gA o9 0 < gA o10 0) then
 some [I (-1)]
 else
 some [I 1]
 else
 (Qbg [I x0]).bind fun o11 =>
 (Qbg [I x1]).bind fun o12 =>
 (Qak [U (gA o11 0), U (gA o12 0)]).bind fun o13 =>
 (Qbg [I x2]).bind fun o14 =>
 (Qbg [I x3]).bind fun o15 =>
 (Qak [U (gA o14 0), U (gA o15 0)]).bind fun o16 =>
 (Qbk [U (gA o13 0), U (gA o13 1), U (gA o16 0), U (gA o16 1)]).bind fun o17 =>
 some [I (IntKind.i64.wrap (gA o9 0 * gA o17 0))] := by kernel_rfl
def Qen := mf_wide_Cmp Qd3 Qbp Qem Qel 
theorem sp_wide_Cmp : Qan Try.prog (C_wide_Cmp_0 Qd3 Qbp Qem Qel) := Qad rfl ⟨r_wide_compare, r_wide_product, r_wide_size, r_wide_sign, trivial⟩
theorem r_wide_Cmp : Qbv Try.prog (57, spOf Qmm Qjw Qen) := Qa7 (C := (C_wide_Cmp_0 Qd3 Qbp Qem Qel)) (L := 64) (by kernel_rfl) (FnOK.bare rfl rfl rfl) sp_wide_Cmp eqOk Qbo (by kernel_rfl) (by kernel_rfl)
def Qjc : Sk := { tmps := [TS.v true [ci, ci], TS.v true [ci, ci]], boxes := [], rows := [] }
def Qhy : Sk := { tmps := [tf [ci]], boxes := [], rows := [] }
def C_contour_dot_0 : Cfg := { spec := Qbq [], eqOk := Qbw, ownOff := ownOff }
def mf_contour_dot : Fn := Qat Try.prog C_contour_dot_0 64 69 Qjc Qhy
theorem mf_contour_dot_eq (x0 x1 x2 x3 : Int) : mf_contour_dot [I x0, I x1, I x2, I x3] =
 some [I (IntKind.i64.wrap (IntKind.i64.wrap (x0 * x2) + IntKind.i64.wrap (x1 * x3)))] := by kernel_rfl
def Qds := mf_contour_dot 
theorem sp_contour_dot : Qan Try.prog (C_contour_dot_0 ) := Qad rfl trivial
theorem r_contour_dot : Qbv Try.prog (69, spOf Qjc Qhy Qds) := Qa7 (C := C_contour_dot_0) (L := 64) (by kernel_rfl) (FnOK.bare rfl rfl rfl) sp_contour_dot eqOk Qbo (by kernel_rfl) (by kernel_rfl)
def Qjz : Sk := { tmps := [TS.v true [ci, ci], TS.v true [ci, ci]], boxes := [], rows := [] }
def Qir : Sk := { tmps := [tf [ci]], boxes := [], rows := [] }
def C_contour_cross_0 : Cfg := { spec := Qbq [], eqOk := Qbw, ownOff := ownOff }
def mf_contour_cross : Fn := Qat Try.prog C_contour_cross_0 64 123 Qjz Qir
theorem mf_contour_cross_eq (x0 x1 x2 x3 : Int) : mf_contour_cross [I x0, I x1, I x2, I x3] =
 some [I (IntKind.i64.wrap (IntKind.i64.wrap (x0 * x3) - IntKind.i64.wrap (x1 * x2)))] := by kernel_rfl
def Qd9 := mf_contour_cross 
theorem sp_contour_cross : Qan Try.prog (C_contour_cross_0 ) := Qad rfl trivial
theorem r_contour_cross : Qbv Try.prog (123, spOf Qjz Qir Qd9) := Qa7 (C := C_contour_cross_0) (L := 64) (by kernel_rfl) (FnOK.bare rfl rfl rfl) sp_contour_cross eqOk Qbo (by kernel_rfl) (by kernel_rfl)
def sig_contour_near : Sk := { tmps := [TS.v true [ci, ci], TS.v true [ci, ci], tf [ci]], boxes := [], rows := [] }
def osig_contour_near : Sk := { tmps := [tf [CS.bool]], boxes := [], rows := [] }
def C_contour_near_0 (Qbr Qaz Qa6 : Fn) : Cfg := { spec := Qbq [(57, spOf Qmm Qjw Qbr), (69, spOf Qjc Qhy Qaz), (123, spOf Qjz Qir Qa6)], eqOk := Qbw, ownOff := ownOff }
def mf_contour_near (Qbr Qaz Qa6 : Fn) : Fn := Qat Try.prog (C_contour_near_0 Qbr Qaz Qa6) 64 72 sig_contour_near osig_contour_near
theorem mf_contour_near_eq (Qbr Qaz Qa6 : Fn) (x0 x1 x2 x3 x4 : Int) : mf_contour_near Qbr Qaz Qa6 [I x0, I x1, I x2, I x3, I x4] =
 (Qa6 [I x0, I x1, I x2, I x3]).bind fun o4 =>
 (Qaz [I x0, I x1, I x2, I x3]).bind fun o5 =>
 bif decide (gA o5 0 >= 0) then
 (Qaz [I x0, I x1, I x0, I x1]).bind fun o6 =>
 (Qbr [jA o4 0, jA o4 0, I (IntKind.i64.wrap (x4 * x4)), jA o6 0]).bind fun o7 =>
 some [B (decide (gA o7 0 <= 0))]
 else
 some [B false] := by kernel_rfl
def Qk5 := mf_contour_near Qen Qds Qd9 
theorem sp_contour_near : Qan Try.prog (C_contour_near_0 Qen Qds Qd9) := Qad rfl ⟨r_wide_Cmp, r_contour_dot, r_contour_cross, trivial⟩
theorem r_contour_near : Qbv Try.prog (72, spOf sig_contour_near osig_contour_near Qk5) := Qa7 (C := (C_contour_near_0 Qen Qds Qd9)) (L := 64) (by kernel_rfl) (FnOK.bare rfl rfl rfl) sp_contour_near eqOk Qbo (by kernel_rfl) (by kernel_rfl)
def Qm5 : Sk := { tmps := [TS.v true [ci, ci], TS.v true [ci, ci], TS.v true [ci, ci], tf [ci]], boxes := [], rows := [] }
def Qlw : Sk := { tmps := [tf [CS.bool]], boxes := [], rows := [] }
def Qn2 (Qaz Qa6 : Fn) : Cfg := { spec := Qbq [(69, spOf Qjc Qhy Qaz), (123, spOf Qjz Qir Qa6)], eqOk := Qbw, ownOff := ownOff }
def mf_contour_passed (Qaz Qa6 : Fn) : Fn := Qat Try.prog (Qn2 Qaz Qa6) 64 71 Qm5 Qlw
theorem mf_contour_passed_eq (Qaz Qa6 : Fn) (x0 x1 x2 x3 x4 x5 x6 : Int) : mf_contour_passed Qaz Qa6 [I x0, I x1, I x2, I x3, I x4, I x5, I x6] =
 (Qa6 [I x0, I x1, I x2, I x3]).bind fun o9 =>
 bif decide (IntKind.i64.wrap (gA o9 0 * x6) > 0) then
 (Qa6 [I x0, I x1, I x4, I x5]).bind fun o10 =>
 bif decide (IntKind.i64.wrap (gA o10 0 * x6) >= 0) then
 (Qa6 [I x4, I x5, I x2, I x3]).bind fun o11 =>
 some [B (decide (IntKind.i64.wrap (gA o11 0 * x6) >= 0))]
 else
 some [B false]
 else
 bif IntKind.i64.wrap (gA o9 0 * x6) == 0 then
 (Qaz [I x0, I x1, I x2, I x3]).bind fun o12 =>
 bif decide (gA o12 0 < 0) then
 (Qa6 [I x0, I x1, I x4, I x5]).bind fun o13 =>
 some [B (decide (IntKind.i64.wrap (gA o13 0 * x6) >= 0))]
 else
 (Qa6 [I x2, I x3, I x4, I x5]).bind fun o14 =>
 bif decide (IntKind.i64.wrap (gA o14 0 * x6) <= 0) then
 some [B true]
 else
 (Qa6 [I x4, I x5, I x0, I x1]).bind fun o15 =>
 some [B (decide (IntKind.i64.wrap (gA o15 0 * x6) <= 0))]
 else
 (Qa6 [I x2, I x3, I x4, I x5]).bind fun o16 =>
 bif decide (IntKind.i64.wrap (gA o16 0 * x6) <= 0) then
 some [B true]
 else
 (Qa6 [I x4, I x5, I x0, I x1]).bind fun o17 =>
 some [B (decide (IntKind.i64.wrap (gA o17 0 * x6) <= 0))] := by kernel_rfl
def Qh1 := mf_contour_passed Qds Qd9 
theorem sp_contour_passed : Qan Try.prog (Qn2 Qds Qd9) := Qad rfl ⟨r_contour_dot, r_contour_cross, trivial⟩
theorem r_contour_passed : Qbv Try.prog (71, spOf Qm5 Qlw Qh1) := Qa7 (C := (Qn2 Qds Qd9)) (L := 64) (by kernel_rfl) (FnOK.bare rfl rfl rfl) sp_contour_passed eqOk Qbo (by kernel_rfl) (by kernel_rfl)
def sig_contour_above : Sk := { tmps := [tf [ci], tf [ci], tf [ci]], boxes := [], rows := [] }
def Qn1 : Sk := { tmps := [tf [CS.bool]], boxes := [], rows := [] }
def C_contour_above_0 (Qbr : Fn) : Cfg := { spec := Qbq [(57, spOf Qmm Qjw Qbr)], eqOk := Qbw, ownOff := ownOff }
def mf_contour_above (Qbr : Fn) : Fn := Qat Try.prog (C_contour_above_0 Qbr) 64 70 sig_contour_above Qn1
theorem mf_contour_above_eq (Qbr : Fn) (x0 x1 x2 : Int) : mf_contour_above Qbr [I x0, I x1, I x2] =
 bif decide (IntKind.i64.wrap (IntKind.i64.wrap (x0 - x1) - IntKind.i64.wrap (x2 * x2)) <= 0) then
 some [B true]
 else
 (Qbr [I (IntKind.i64.wrap (IntKind.i64.wrap (x0 - x1) - IntKind.i64.wrap (x2 * x2))), I (IntKind.i64.wrap (IntKind.i64.wrap (x0 - x1) - IntKind.i64.wrap (x2 * x2))), I (IntKind.i64.wrap (IntKind.i64.wrap (4 * x2) * x2)), I x1]).bind fun o1 =>
 some [B (decide (gA o1 0 <= 0))] := by kernel_rfl
def Qjt := mf_contour_above Qen 
theorem sp_contour_above : Qan Try.prog (C_contour_above_0 Qen) := Qad rfl ⟨r_wide_Cmp, trivial⟩
theorem r_contour_above : Qbv Try.prog (70, spOf sig_contour_above Qn1 Qjt) := Qa7 (C := (C_contour_above_0 Qen)) (L := 64) (by kernel_rfl) (FnOK.bare rfl rfl rfl) sp_contour_above eqOk Qbo (by kernel_rfl) (by kernel_rfl)
def Qkt : Sk := { tmps := [tf [ci]], boxes := [], rows := [] }
def Qja : Sk := { tmps := [TS.tup [(false, [ci]), (false, [ci]), (false, [ci]), (false, [CS.bool])]], boxes := [], rows := [] }
def C_curve_axes_0 : Cfg := { spec := Qbq [], eqOk := Qbw, ownOff := ownOff }
def mf_curve_axes : Fn := Qat Try.prog C_curve_axes_0 64 118 Qkt Qja
theorem mf_curve_axes_eq (x0 : Int) : mf_curve_axes [I x0] =
 bif x0 == 17 then
 some [I 0, I 1, I 2, B true]
 else
 bif x0 == 18 then
 some [I 2, I 0, I 1, B true]
 else
 bif x0 == 19 then
 some [I 1, I 2, I 0, B true]
 else
 some [I 0, I 0, I 0, B false] := by kernel_rfl
def Qdl := mf_curve_axes 
theorem sp_curve_axes : Qan Try.prog (C_curve_axes_0 ) := Qad rfl trivial
theorem r_curve_axes : Qbv Try.prog (118, spOf Qkt Qja Qdl) := Qa7 (C := C_curve_axes_0) (L := 64) (by kernel_rfl) (FnOK.bare rfl rfl rfl) sp_curve_axes eqOk Qbo (by kernel_rfl) (by kernel_rfl)
def Qjg : Sk := { tmps := [TS.v true [ci, ci, ci], tf [ci]], boxes := [], rows := [] }
def Qh0 : Sk := { tmps := [TS.tup [(false, [ci]), (false, [ci]), (false, [ci])]], boxes := [], rows := [] }
def C_curve_Plane_0 (Qby : Fn) : Cfg := { spec := Qbq [(118, spOf Qkt Qja Qby)], eqOk := Qbw, ownOff := ownOff }
def mf_curve_Plane (Qby : Fn) : Fn := Qat Try.prog (C_curve_Plane_0 Qby) 64 67 Qjg Qh0
abbrev g_curve_Plane_2 (o1 : List AC) (h1_0 : AC) (x0 x1 x2 : Int) (h2_0 : AC) : Option (List AC) :=
 bif decide (gA o1 2 = (↑0 : Int)) then
 some [h1_0, h2_0, I x0]
 else
 bif decide (gA o1 2 = (↑(0 + 1) : Int)) then
 some [h1_0, h2_0, I x1]
 else
 bif decide (gA o1 2 = (↑(0 + 1 + 1) : Int)) then
 some [h1_0, h2_0, I x2]
 else
 none
attribute [go_sem] g_curve_Plane_2
abbrev Qmu (o1 : List AC) (x0 x1 x2 : Int) (h1_0 : AC) : Option (List AC) :=
 bif decide (gA o1 1 = (↑0 : Int)) then
 g_curve_Plane_2 o1 h1_0 x0 x1 x2 (I x0)
 else
 bif decide (gA o1 1 = (↑(0 + 1) : Int)) then
 g_curve_Plane_2 o1 h1_0 x0 x1 x2 (I x1)
 else
 bif decide (gA o1 1 = (↑(0 + 1 + 1) : Int)) then
 g_curve_Plane_2 o1 h1_0 x0 x1 x2 (I x2)
 else
 none
attribute [go_sem] Qmu
theorem mf_curve_Plane_eq (Qby : Fn) (x0 x1 x2 x3 : Int) : mf_curve_Plane Qby [I x0, I x1, I x2, I x3] =
 (Qby [I x3]).bind fun o1 =>
 bif !bA o1 3 then
 some [I 0, I 0, I 0]
 else
 bif decide (gA o1 0 = (↑0 : Int)) then
 Qmu o1 x0 x1 x2 (I x0)
 else
 bif decide (gA o1 0 = (↑(0 + 1) : Int)) then
 Qmu o1 x0 x1 x2 (I x1)
 else
 bif decide (gA o1 0 = (↑(0 + 1 + 1) : Int)) then
 Qmu o1 x0 x1 x2 (I x2)
 else
 none := by kernel_rfl
def Qdj := mf_curve_Plane Qdl 
theorem sp_curve_Plane : Qan Try.prog (C_curve_Plane_0 Qdl) := Qad rfl ⟨r_curve_axes, trivial⟩
theorem r_curve_Plane : Qbv Try.prog (67, spOf Qjg Qh0 Qdj) := Qa7 (C := (C_curve_Plane_0 Qdl)) (L := 64) (by kernel_rfl) (FnOK.bare rfl rfl rfl) sp_curve_Plane eqOk Qbo (by kernel_rfl) (by kernel_rfl)
def Qiu : Sk := { tmps := [TS.v true [ci, ci, ci]], boxes := [], rows := [] }
def Qhm : Sk := { tmps := [TS.v true [ci, ci, ci]], boxes := [], rows := [] }
def Qnz : Cfg := { spec := Qbq [], eqOk := Qbw, ownOff := ownOff }
def mf_contour_scaled : Fn := Qat Try.prog Qnz 64 68 Qiu Qhm
theorem mf_contour_scaled_eq (x0 x1 x2 : Int) : mf_contour_scaled [I x0, I x1, I x2] =
 some [I (IntKind.i64.wrap (x0 * 16)), I (IntKind.i64.wrap (x1 * 16)), I (IntKind.i64.wrap (x2 * 16))] := by kernel_rfl
def Qdv := mf_contour_scaled 
theorem sp_contour_scaled : Qan Try.prog (Qnz ) := Qad rfl trivial
theorem r_contour_scaled : Qbv Try.prog (68, spOf Qiu Qhm Qdv) := Qa7 (C := Qnz) (L := 64) (by kernel_rfl) (FnOK.bare rfl rfl rfl) sp_contour_scaled eqOk Qbo (by kernel_rfl) (by kernel_rfl)
def Qjh : Sk := { tmps := [TS.v true [ci, ci, ci, ci], TS.v true [ci, ci, ci, ci]], boxes := [], rows := [] }
def Qh5 : Sk := { tmps := [tf [ci]], boxes := [], rows := [] }
def C_curve_cross_0 : Cfg := { spec := Qbq [], eqOk := Qbw, ownOff := ownOff }
def mf_curve_cross : Fn := Qat Try.prog C_curve_cross_0 64 122 Qjh Qh5
theorem mf_curve_cross_eq (x0 x1 x2 x3 x4 x5 x6 x7 : Int) : mf_curve_cross [I x0, I x1, I x2, I x3, I x4, I x5, I x6, I x7] =
 some [I (IntKind.i64.wrap (IntKind.i64.wrap (x0 * x5) - IntKind.i64.wrap (x1 * x4)))] := by kernel_rfl
def Qdu := mf_curve_cross 
theorem sp_curve_cross : Qan Try.prog (C_curve_cross_0 ) := Qad rfl trivial
theorem r_curve_cross : Qbv Try.prog (122, spOf Qjh Qh5 Qdu) := Qa7 (C := C_curve_cross_0) (L := 64) (by kernel_rfl) (FnOK.bare rfl rfl rfl) sp_curve_cross eqOk Qbo (by kernel_rfl) (by kernel_rfl)
def sig_curve_near : Sk := { tmps := [tf [ci], tf [ci]], boxes := [], rows := [] }
def osig_curve_near : Sk := { tmps := [tf [CS.bool]], boxes := [], rows := [] }
def C_curve_near_0 (Qbr : Fn) : Cfg := { spec := Qbq [(57, spOf Qmm Qjw Qbr)], eqOk := Qbw, ownOff := ownOff }
def mf_curve_near (Qbr : Fn) : Fn := Qat Try.prog (C_curve_near_0 Qbr) 64 121 sig_curve_near osig_curve_near
theorem mf_curve_near_eq (Qbr : Fn) (x0 x1 : Int) : mf_curve_near Qbr [I x0, I x1] =
 bif decide (IntKind.i64.wrap (IntKind.i64.wrap (mx x0 x1 - mn x0 x1) - 16) <= 0) then
 some [B true]
 else
 (Qbr [I (IntKind.i64.wrap (IntKind.i64.wrap (mx x0 x1 - mn x0 x1) - 16)), I (IntKind.i64.wrap (IntKind.i64.wrap (mx x0 x1 - mn x0 x1) - 16)), I 64, I (mn x0 x1)]).bind fun o1 =>
 some [B (decide (gA o1 0 <= 0))] := by kernel_rfl
def m_curve_near := mf_curve_near Qen 
theorem sp_curve_near : Qan Try.prog (C_curve_near_0 Qen) := Qad rfl ⟨r_wide_Cmp, trivial⟩
theorem r_curve_near : Qbv Try.prog (121, spOf sig_curve_near osig_curve_near m_curve_near) := Qa7 (C := (C_curve_near_0 Qen)) (L := 64) (by kernel_rfl) (FnOK.bare rfl rfl rfl) sp_curve_near eqOk Qbo (by kernel_rfl) (by kernel_rfl)
def Qnx : Sk := { tmps := [TS.v true [ci, ci, ci, ci], TS.v true [ci, ci, ci, ci]], boxes := [], rows := [] }
def Qkx : Sk := { tmps := [tf [ci]], boxes := [], rows := [] }
def C_curve_dot_0 : Cfg := { spec := Qbq [], eqOk := Qbw, ownOff := ownOff }
def mf_curve_dot : Fn := Qat Try.prog C_curve_dot_0 64 120 Qnx Qkx
theorem mf_curve_dot_eq (x0 x1 x2 x3 x4 x5 x6 x7 : Int) : mf_curve_dot [I x0, I x1, I x2, I x3, I x4, I x5, I x6, I x7] =
 some [I (IntKind.i64.wrap (IntKind.i64.wrap (x0 * x4) + IntKind.i64.wrap (x1 * x5)))] := by kernel_rfl
def Qeu := mf_curve_dot 
theorem sp_curve_dot : Qan Try.prog (C_curve_dot_0 ) := Qad rfl trivial
theorem r_curve_dot : Qbv Try.prog (120, spOf Qnx Qkx Qeu) := Qa7 (C := C_curve_dot_0) (L := 64) (by kernel_rfl) (FnOK.bare rfl rfl rfl) sp_curve_dot eqOk Qbo (by kernel_rfl) (by kernel_rfl)
def Qll : Sk := { tmps := [TS.v true [ci, ci, ci]], boxes := [], rows := [] }
def Qka : Sk := { tmps := [TS.v true [ci, ci, ci]], boxes := [], rows := [] }
def C_curve_scaled_0 : Cfg := { spec := Qbq [], eqOk := Qbw, ownOff := ownOff }
def mf_curve_scaled : Fn := Qat Try.prog C_curve_scaled_0 64 93 Qll Qka
theorem mf_curve_scaled_eq (x0 x1 x2 : Int) : mf_curve_scaled [I x0, I x1, I x2] =
 some [I (IntKind.i64.wrap (x0 * 16)), I (IntKind.i64.wrap (x1 * 16)), I (IntKind.i64.wrap (x2 * 16))] := by kernel_rfl
def Qdp := mf_curve_scaled 
theorem sp_curve_scaled : Qan Try.prog (C_curve_scaled_0 ) := Qad rfl trivial
theorem r_curve_scaled : Qbv Try.prog (93, spOf Qll Qka Qdp) := Qa7 (C := C_curve_scaled_0) (L := 64) (by kernel_rfl) (FnOK.bare rfl rfl rfl) sp_curve_scaled eqOk Qbo (by kernel_rfl) (by kernel_rfl)
def sig_curve_ends : Sk := { tmps := [TS.v true [ci, ci, ci, ci, ci, ci, ci, ci, ci, ci, ci, ci, ci, CS.bool, ci, CS.bool, ci, ci, ci, ci, ci, CS.bool]], boxes := [], rows := [] }
def Qoh : Sk := { tmps := [TS.tup [(true, [ci, ci, ci, ci]), (true, [ci, ci, ci, ci])]], boxes := [], rows := [] }
def C_curve_ends_0 (Qaj Qao : Fn) : Cfg := { spec := Qbq [(67, spOf Qjg Qh0 Qaj), (93, spOf Qll Qka Qao)], eqOk := Qbw, ownOff := ownOff }
def sk_curve_ends_4 : Sk := { tmps := [td, tf [CS.ptr 1 0], tf [CS.ptr 2 0], tf [CS.ptr 3 0], tf [CS.ptr 4 0], tf [ci], tf [ci], td, td, td, td, td, td, td, td, td, td, td, td, td, td, td, td, td, td, td, td, TS.v true [ci, ci, ci, ci, ci, ci], tf [ci]] ++ dd 27, boxes := [(1, 33, [ci, ci, ci, ci, ci, ci, ci, ci, ci, ci, ci, ci, ci, CS.bool, ci, CS.bool, ci, ci, ci, ci, ci, CS.bool]), (2, 99, [ci, ci, ci, ci]), (3, 99, [ci, ci, ci, ci]), (4, 170, [ci, ci, ci, ci, ci, ci, ci, ci])], rows := [] }
def ex_curve_ends_4 : List (Ex × Sk) := [(Ex.exit 0, { tmps := [td, td, tf [CS.ptr 2 0], tf [CS.ptr 3 0], tf [CS.ptr 4 0]] ++ dd 51, boxes := [(2, 99, [ci, ci, ci, ci]), (3, 99, [ci, ci, ci, ci]), (4, 170, [ci, ci, ci, ci, ci, ci, ci, ci])], rows := [] })]
def st_curve_ends_4 (Qaj Qao : Fn) : Lp := stepL Try.prog (C_curve_ends_0 Qaj Qao) 64 4 (Qhz Try.prog 119 4) sk_curve_ends_4 ex_curve_ends_4
def C_curve_ends_1 (Qaj Qao : Fn) (N4 : Lp) : Cfg := (C_curve_ends_0 Qaj Qao).loop 4 sk_curve_ends_4 ex_curve_ends_4 N4
def mf_curve_ends (Qaj Qao : Fn) (N4 : Lp) : Fn := Qat Try.prog (C_curve_ends_1 Qaj Qao N4) 64 119 sig_curve_ends Qoh
abbrev Qny (Qao Qaj : Fn) (v17 v8 v0 v1 v2 v3 v4 v5 v6 v7 v9 v10 v11 v12 v13 v14 v15 v16 v18 v19 v20 v21 : Int) (v22 : Bool) (v23 : Int) (v24 : Bool) (v25 v26 v27 v28 v29 : Int) (v30 : Bool) (v31 v32 v33 v34 v35 v36 v37 v38 v43 v44 v45 v46 v39 v40 v41 v42 : Int) (h1_0 h1_1 h1_2 : AC) : Option (Nat × List AC) :=
 (Qao [h1_0, h1_1, h1_2]).bind fun o9 =>
 (Qaj [jA o9 0, jA o9 1, jA o9 2, I v17]).bind fun o10 =>
 bif decide (v8 = (↑0 : Int)) then
 some (0, [I v0, I v1, I v2, I v3, I v4, I v5, I v6, I v7, I (IntKind.i64.wrap (v8 + 1)), I v9, I v10, I v11, I v12, I v13, I v14, I v15, I v16, I v17, I v18, I v19, I v20, I v21, B v22, I v23, B v24, I v25, I v26, I v27, I v28, I v29, B v30, I v31, I v32, I v33, I v34, I v35, I v36, I v37, I v38, I (IntKind.i64.wrap (gA o10 0 - v0)), I (IntKind.i64.wrap (gA o10 1 - v1)), I 0, jA o10 2, I v43, I v44, I v45, I v46])
 else
 bif decide (v8 = (↑(0 + 1) : Int)) then
 some (0, [I v0, I v1, I v2, I v3, I v4, I v5, I v6, I v7, I (IntKind.i64.wrap (v8 + 1)), I v9, I v10, I v11, I v12, I v13, I v14, I v15, I v16, I v17, I v18, I v19, I v20, I v21, B v22, I v23, B v24, I v25, I v26, I v27, I v28, I v29, B v30, I v31, I v32, I v33, I v34, I v35, I v36, I v37, I v38, I v39, I v40, I v41, I v42, I (IntKind.i64.wrap (gA o10 0 - v0)), I (IntKind.i64.wrap (gA o10 1 - v1)), I 0, jA o10 2])
 else
 none
attribute [go_sem] Qny
theorem Qn6 (Qaj Qao : Fn) (v0 v1 v2 v3 v4 v5 v6 v7 v8 v9 v10 v11 v12 v13 v14 v15 v16 v17 v18 v19 v20 v21 : Int) (v22 : Bool) (v23 : Int) (v24 : Bool) (v25 v26 v27 v28 v29 : Int) (v30 : Bool) (v31 v32 v33 v34 v35 v36 v37 v38 v39 v40 v41 v42 v43 v44 v45 v46 : Int) : st_curve_ends_4 Qaj Qao [I v0, I v1, I v2, I v3, I v4, I v5, I v6, I v7, I v8, I v9, I v10, I v11, I v12, I v13, I v14, I v15, I v16, I v17, I v18, I v19, I v20, I v21, B v22, I v23, B v24, I v25, I v26, I v27, I v28, I v29, B v30, I v31, I v32, I v33, I v34, I v35, I v36, I v37, I v38, I v39, I v40, I v41, I v42, I v43, I v44, I v45, I v46] =
 bif decide (v8 < 2) then
 bif decide (v8 = (↑0 : Int)) then
 Qny Qao Qaj v17 v8 v0 v1 v2 v3 v4 v5 v6 v7 v9 v10 v11 v12 v13 v14 v15 v16 v18 v19 v20 v21 v22 v23 v24 v25 v26 v27 v28 v29 v30 v31 v32 v33 v34 v35 v36 v37 v38 v43 v44 v45 v46 v39 v40 v41 v42 (I v2) (I v3) (I v4)
 else
 bif decide (v8 = (↑(0 + 1) : Int)) then
 Qny Qao Qaj v17 v8 v0 v1 v2 v3 v4 v5 v6 v7 v9 v10 v11 v12 v13 v14 v15 v16 v18 v19 v20 v21 v22 v23 v24 v25 v26 v27 v28 v29 v30 v31 v32 v33 v34 v35 v36 v37 v38 v43 v44 v45 v46 v39 v40 v41 v42 (I v5) (I v6) (I v7)
 else
 none
 else
 some (1, [I v31, I v32, I v33, I v34, I v35, I v36, I v37, I v38, I v39, I v40, I v41, I v42, I v43, I v44, I v45, I v46]) := by kernel_rfl
theorem mf_curve_ends_eq (Qaj Qao : Fn) (N4 : Lp) (x0 x1 x2 x3 x4 x5 x6 x7 x8 x9 x10 x11 x12 : Int) (x13 : Bool) (x14 : Int) (x15 : Bool) (x16 x17 x18 x19 x20 : Int) (x21 : Bool) : mf_curve_ends Qaj Qao N4 [I x0, I x1, I x2, I x3, I x4, I x5, I x6, I x7, I x8, I x9, I x10, I x11, I x12, B x13, I x14, B x15, I x16, I x17, I x18, I x19, I x20, B x21] =
 (Qao [I x9, I x10, I x11]).bind fun o13 =>
 (Qaj [jA o13 0, jA o13 1, jA o13 2, I x8]).bind fun o14 =>
 (N4 [jA o14 0, jA o14 1, I x2, I x3, I x4, I x5, I x6, I x7, I 0, I x0, I x1, I x2, I x3, I x4, I x5, I x6, I x7, I x8, I x9, I x10, I x11, I x12, B x13, I x14, B x15, I x16, I x17, I x18, I x19, I x20, B x21, I 0, I 0, I 0, I 0, I 0, I 0, I 0, I 0, I 0, I 0, I 0, I 0, I 0, I 0, I 0, I 0]).bind fun o15 =>
 bif o15.1.beq 1 then
 some [jA o15.2 8, jA o15.2 9, jA o15.2 10, jA o15.2 11, jA o15.2 12, jA o15.2 13, jA o15.2 14, jA o15.2 15]
 else
 none := by kernel_rfl
def l_curve_ends_4 := Qb1 (st_curve_ends_4 Qdj Qdp )
def Qg9 := mf_curve_ends Qdj Qdp l_curve_ends_4
theorem sp_curve_ends : Qan Try.prog (C_curve_ends_0 Qdj Qdp) := Qad rfl ⟨r_curve_Plane, r_curve_scaled, trivial⟩
theorem r_curve_ends : Qbv Try.prog (119, spOf sig_curve_ends Qoh Qg9) := Qa7 (C := (C_curve_ends_1 Qdj Qdp l_curve_ends_4)) (L := 64) (by kernel_rfl) ((FnOK.bare rfl rfl rfl).loop sp_curve_ends eqOk Qbo (by kernel_rfl) (by kernel_rfl)) sp_curve_ends eqOk Qbo (by kernel_rfl) (by kernel_rfl)
def sig_curve_within : Sk := { tmps := [TS.v true [ci, ci, ci]], boxes := [], rows := [] }
def osig_curve_within : Sk := { tmps := [tf [CS.bool]], boxes := [], rows := [] }
def C_curve_within_0 : Cfg := { spec := Qbq [], eqOk := Qbw, ownOff := ownOff, unroll := [2] }
def mf_curve_within : Fn := Qat Try.prog C_curve_within_0 64 117 sig_curve_within osig_curve_within
theorem mf_curve_within_eq (x0 x1 x2 : Int) : mf_curve_within [I x0, I x1, I x2] =
 bif decide (x0 < -1048576) then
 some [B false]
 else
 bif decide (x0 > 1048576) then
 some [B false]
 else
 bif decide (x1 < -1048576) then
 some [B false]
 else
 bif decide (x1 > 1048576) then
 some [B false]
 else
 bif decide (x2 < -1048576) then
 some [B false]
 else
 bif decide (x2 > 1048576) then
 some [B false]
 else
 some [B true] := by kernel_rfl
def Qic := mf_curve_within 
theorem sp_curve_within : Qan Try.prog (C_curve_within_0 ) := Qad rfl trivial
theorem r_curve_within : Qbv Try.prog (117, spOf sig_curve_within osig_curve_within Qic) := Qa7 (C := C_curve_within_0) (L := 64) (by kernel_rfl) (FnOK.bare rfl rfl rfl) sp_curve_within eqOk Qbo (by kernel_rfl) (by kernel_rfl)
def Qfj : Sk := { tmps := [TS.v true [ci, ci, ci, ci, ci, ci, ci, ci, ci, ci, ci, ci, ci, CS.bool, ci, CS.bool, ci, ci, ci, ci, ci, CS.bool]], boxes := [], rows := [] }
def Qew : Sk := { tmps := [tf [CS.bool]], boxes := [], rows := [] }
def C_curve_Valid_0 (Qa0 Qge Qbb Qc3 Qby Qdn : Fn) : Cfg := { spec := Qbq [(122, spOf Qjh Qh5 Qa0), (121, spOf sig_curve_near osig_curve_near Qge), (120, spOf Qnx Qkx Qbb), (119, spOf sig_curve_ends Qoh Qc3), (118, spOf Qkt Qja Qby), (117, spOf sig_curve_within osig_curve_within Qdn)], eqOk := Qbw, ownOff := ownOff }
def mf_curve_Valid (Qa0 Qge Qbb Qc3 Qby Qdn : Fn) : Fn := Qat Try.prog (C_curve_Valid_0 Qa0 Qge Qbb Qc3 Qby Qdn) 64 66 Qfj Qew
abbrev g_curve_Valid_1 (Qdn : Fn) (x9 x10 x11 : Int) (Qc3 : Fn) (x0 x1 x2 x3 x4 x5 x6 x7 x8 x12 : Int) (x13 : Bool) (x14 : Int) (x15 : Bool) (x16 x17 x18 x19 x20 : Int) (x21 : Bool) (Qbb Qge Qa0 : Fn) : Option (List AC) :=
 (Qdn [I x9, I x10, I x11]).bind fun o20 =>
 bif !bA o20 0 then
 some [B false]
 else
 (Qc3 [I x0, I x1, I x2, I x3, I x4, I x5, I x6, I x7, I x8, I x9, I x10, I x11, I x12, B x13, I x14, B x15, I x16, I x17, I x18, I x19, I x20, B x21]).bind fun o21 =>
 (Qbb [jA o21 0, jA o21 1, jA o21 2, jA o21 3, jA o21 0, jA o21 1, jA o21 2, jA o21 3]).bind fun o22 =>
 (Qbb [jA o21 4, jA o21 5, jA o21 6, jA o21 7, jA o21 4, jA o21 5, jA o21 6, jA o21 7]).bind fun o23 =>
 bif decide (gA o22 0 < IntKind.i64.wrap (128 * 128)) then
 some [B false]
 else
 bif decide (gA o23 0 < IntKind.i64.wrap (128 * 128)) then
 some [B false]
 else
 (Qge [I (IntKind.i64.wrap ((gA o22 0).tdiv 256)), I (IntKind.i64.wrap ((gA o23 0).tdiv 256))]).bind fun o24 =>
 bif !bA o24 0 then
 some [B false]
 else
 bif x13 then
 bif gA o21 0 == gA o21 4 then
 some [B (gA o21 1 == gA o21 5)]
 else
 some [B false]
 else
 (Qa0 [jA o21 0, jA o21 1, jA o21 2, jA o21 3, jA o21 4, jA o21 5, jA o21 6, jA o21 7]).bind fun o25 =>
 bif gA o25 0 != 0 then
 some [B true]
 else
 (Qbb [jA o21 0, jA o21 1, jA o21 2, jA o21 3, jA o21 4, jA o21 5, jA o21 6, jA o21 7]).bind fun o26 =>
 some [B (decide (gA o26 0 < 0))]
attribute [go_sem] g_curve_Valid_1
theorem mf_curve_Valid_eq (Qa0 Qge Qbb Qc3 Qby Qdn : Fn) (x0 x1 x2 x3 x4 x5 x6 x7 x8 x9 x10 x11 x12 : Int) (x13 : Bool) (x14 : Int) (x15 : Bool) (x16 x17 x18 x19 x20 : Int) (x21 : Bool) : mf_curve_Valid Qa0 Qge Qbb Qc3 Qby Qdn [I x0, I x1, I x2, I x3, I x4, I x5, I x6, I x7, I x8, I x9, I x10, I x11, I x12, B x13, I x14, B x15, I x16, I x17, I x18, I x19, I x20, B x21] =
 bif decide (x0 < 1) then
 some [B false]
 else
 bif decide (x0 > 6) then
 some [B false]
 else
 (Qdn [I x2, I x3, I x4]).bind fun o17 =>
 bif !bA o17 0 then
 some [B false]
 else
 (Qdn [I x5, I x6, I x7]).bind fun o18 =>
 bif !bA o18 0 then
 some [B false]
 else
 bif x0 != 3 then
 some [B true]
 else
 (Qby [I x8]).bind fun o19 =>
 bif !bA o19 3 then
 some [B false]
 else
 bif x12 != 1 then
 bif x12 != -1 then
 some [B false]
 else
 g_curve_Valid_1 Qdn x9 x10 x11 Qc3 x0 x1 x2 x3 x4 x5 x6 x7 x8 x12 x13 x14 x15 x16 x17 x18 x19 x20 x21 Qbb Qge Qa0
 else
 g_curve_Valid_1 Qdn x9 x10 x11 Qc3 x0 x1 x2 x3 x4 x5 x6 x7 x8 x12 x13 x14 x15 x16 x17 x18 x19 x20 x21 Qbb Qge Qa0 := by kernel_rfl
def Qbx := mf_curve_Valid Qdu m_curve_near Qeu Qg9 Qdl Qic 
theorem sp_curve_Valid : Qan Try.prog (C_curve_Valid_0 Qdu m_curve_near Qeu Qg9 Qdl Qic) := Qad rfl ⟨r_curve_cross, r_curve_near, r_curve_dot, r_curve_ends, r_curve_axes, r_curve_within, trivial⟩
theorem Qm1 : Qbv Try.prog (66, spOf Qfj Qew Qbx) := Qa7 (C := (C_curve_Valid_0 Qdu m_curve_near Qeu Qg9 Qdl Qic)) (L := 64) (by kernel_rfl) (FnOK.bare rfl rfl rfl) sp_curve_Valid eqOk Qbo (by kernel_rfl) (by kernel_rfl)
def sig_contour_OnArc : Sk := { tmps := [TS.v true [ci, ci, ci, ci, ci, ci, ci, ci, ci, ci, ci, ci, ci, CS.bool, ci, CS.bool, ci, ci, ci, ci, ci, CS.bool], TS.v true [ci, ci, ci], tf [ci]], boxes := [], rows := [] }
def Qof : Sk := { tmps := [tf [CS.bool]], boxes := [], rows := [] }
def C_contour_OnArc_0 (Qgj Qfy Qfk Qaz Qaj Qbj Qai : Fn) : Cfg := { spec := Qbq [(72, spOf sig_contour_near osig_contour_near Qgj), (71, spOf Qm5 Qlw Qfy), (70, spOf sig_contour_above Qn1 Qfk), (69, spOf Qjc Qhy Qaz), (67, spOf Qjg Qh0 Qaj), (68, spOf Qiu Qhm Qbj), (66, spOf Qfj Qew Qai)], eqOk := Qbw, ownOff := ownOff }
def mf_contour_OnArc (Qgj Qfy Qfk Qaz Qaj Qbj Qai : Fn) : Fn := Qat Try.prog (C_contour_OnArc_0 Qgj Qfy Qfk Qaz Qaj Qbj Qai) 64 26 sig_contour_OnArc Qof
theorem mf_contour_OnArc_eq (Qgj Qfy Qfk Qaz Qaj Qbj Qai : Fn) (x0 x1 x2 x3 x4 x5 x6 x7 x8 x9 x10 x11 x12 : Int) (x13 : Bool) (x14 : Int) (x15 : Bool) (x16 x17 x18 x19 x20 : Int) (x21 : Bool) (x22 x23 x24 x25 : Int) : mf_contour_OnArc Qgj Qfy Qfk Qaz Qaj Qbj Qai [I x0, I x1, I x2, I x3, I x4, I x5, I x6, I x7, I x8, I x9, I x10, I x11, I x12, B x13, I x14, B x15, I x16, I x17, I x18, I x19, I x20, B x21, I x22, I x23, I x24, I x25] =
 bif x0 != 3 then
 some [B false]
 else
 (Qai [I x0, I x1, I x2, I x3, I x4, I x5, I x6, I x7, I x8, I x9, I x10, I x11, I x12, B x13, I x14, B x15, I x16, I x17, I x18, I x19, I x20, B x21]).bind fun o19 =>
 bif !bA o19 0 then
 some [B false]
 else
 (Qbj [I x9, I x10, I x11]).bind fun o20 =>
 (Qaj [jA o20 0, jA o20 1, jA o20 2, I x8]).bind fun o21 =>
 (Qbj [I x2, I x3, I x4]).bind fun o22 =>
 (Qaj [jA o22 0, jA o22 1, jA o22 2, I x8]).bind fun o23 =>
 (Qbj [I x5, I x6, I x7]).bind fun o24 =>
 (Qaj [jA o24 0, jA o24 1, jA o24 2, I x8]).bind fun o25 =>
 (Qaj [I x22, I x23, I x24, I x8]).bind fun o26 =>
 (Qaz [I (IntKind.i64.wrap (gA o23 0 - gA o21 0)), I (IntKind.i64.wrap (gA o23 1 - gA o21 1)), I (IntKind.i64.wrap (gA o23 0 - gA o21 0)), I (IntKind.i64.wrap (gA o23 1 - gA o21 1))]).bind fun o27 =>
 (Qaz [I (IntKind.i64.wrap (gA o25 0 - gA o21 0)), I (IntKind.i64.wrap (gA o25 1 - gA o21 1)), I (IntKind.i64.wrap (gA o25 0 - gA o21 0)), I (IntKind.i64.wrap (gA o25 1 - gA o21 1))]).bind fun o28 =>
 (Qaz [I (IntKind.i64.wrap (gA o23 0 - gA o21 0)), I (IntKind.i64.wrap (gA o23 1 - gA o21 1)), I (IntKind.i64.wrap (gA o23 0 - gA o21 0)), I (IntKind.i64.wrap (gA o23 1 - gA o21 1))]).bind fun o29 =>
 (Qaz [I (IntKind.i64.wrap (gA o25 0 - gA o21 0)), I (IntKind.i64.wrap (gA o25 1 - gA o21 1)), I (IntKind.i64.wrap (gA o25 0 - gA o21 0)), I (IntKind.i64.wrap (gA o25 1 - gA o21 1))]).bind fun o30 =>
 (Qaz [I (IntKind.i64.wrap (gA o26 0 - gA o21 0)), I (IntKind.i64.wrap (gA o26 1 - gA o21 1)), I (IntKind.i64.wrap (gA o26 0 - gA o21 0)), I (IntKind.i64.wrap (gA o26 1 - gA o21 1))]).bind fun o31 =>
 (Qfk [I (mn (gA o27 0) (gA o28 0)), jA o31 0, I x25]).bind fun o32 =>
 bif !bA o32 0 then
 some [B false]
 else
 (Qaz [I (IntKind.i64.wrap (gA o26 0 - gA o21 0)), I (IntKind.i64.wrap (gA o26 1 - gA o21 1)), I (IntKind.i64.wrap (gA o26 0 - gA o21 0)), I (IntKind.i64.wrap (gA o26 1 - gA o21 1))]).bind fun o33 =>
 (Qfk [jA o33 0, I (mx (gA o29 0) (gA o30 0)), I x25]).bind fun o34 =>
 bif !bA o34 0 then
 some [B false]
 else
 bif decide (gA o26 2 < IntKind.i64.wrap (mn (gA o23 2) (gA o25 2) - x25)) then
 some [B false]
 else
 bif decide (gA o26 2 > IntKind.i64.wrap (mx (gA o23 2) (gA o25 2) + x25)) then
 some [B false]
 else
 bif x13 then
 some [B true]
 else
 (Qfy [I (IntKind.i64.wrap (gA o23 0 - gA o21 0)), I (IntKind.i64.wrap (gA o23 1 - gA o21 1)), I (IntKind.i64.wrap (gA o25 0 - gA o21 0)), I (IntKind.i64.wrap (gA o25 1 - gA o21 1)), I (IntKind.i64.wrap (gA o26 0 - gA o21 0)), I (IntKind.i64.wrap (gA o26 1 - gA o21 1)), I x12]).bind fun o35 =>
 bif bA o35 0 then
 some [B true]
 else
 (Qgj [I (IntKind.i64.wrap (gA o23 0 - gA o21 0)), I (IntKind.i64.wrap (gA o23 1 - gA o21 1)), I (IntKind.i64.wrap (gA o26 0 - gA o21 0)), I (IntKind.i64.wrap (gA o26 1 - gA o21 1)), I x25]).bind fun o36 =>
 bif bA o36 0 then
 some [B true]
 else
 (Qgj [I (IntKind.i64.wrap (gA o25 0 - gA o21 0)), I (IntKind.i64.wrap (gA o25 1 - gA o21 1)), I (IntKind.i64.wrap (gA o26 0 - gA o21 0)), I (IntKind.i64.wrap (gA o26 1 - gA o21 1)), I x25]).bind fun o37 =>
 some [B (bA o37 0)] := by kernel_rfl
def Qjn := mf_contour_OnArc Qk5 Qh1 Qjt Qds Qdj Qdv Qbx 
theorem sp_contour_OnArc : Qan Try.prog (C_contour_OnArc_0 Qk5 Qh1 Qjt Qds Qdj Qdv Qbx) := Qad rfl ⟨r_contour_near, r_contour_passed, r_contour_above, r_contour_dot, r_curve_Plane, r_contour_scaled, Qm1, trivial⟩
theorem r_contour_OnArc : Qbv Try.prog (26, spOf sig_contour_OnArc Qof Qjn) := Qa7 (C := (C_contour_OnArc_0 Qk5 Qh1 Qjt Qds Qdj Qdv Qbx)) (L := 64) (by kernel_rfl) (FnOK.bare rfl rfl rfl) sp_contour_OnArc eqOk Qbo (by kernel_rfl) (by kernel_rfl)
def Qoa : Sk := { tmps := [tf [ci], tf [ci]], boxes := [], rows := [] }
def Qlb : Sk := { tmps := [tf [ci]], boxes := [], rows := [] }
def C_cncmill_Mod_0 : Cfg := { spec := Qbq [], eqOk := Qbw, ownOff := ownOff }
def mf_cncmill_Mod : Fn := Qat Try.prog C_cncmill_Mod_0 64 23 Qoa Qlb
theorem mf_cncmill_Mod_eq (x0 x1 : Int) : mf_cncmill_Mod [I x0, I x1] =
 bif decide (x1 = 0) then
 none
 else
 bif decide (x1 = 0) then
 none
 else
 some [I ((IntKind.i64.wrap (x0.tmod x1 + x1)).tmod x1)] := by kernel_rfl
def Qep := mf_cncmill_Mod 
theorem sp_cncmill_Mod : Qan Try.prog (C_cncmill_Mod_0 ) := Qad rfl trivial
theorem r_cncmill_Mod : Qbv Try.prog (23, spOf Qoa Qlb Qep) := Qa7 (C := C_cncmill_Mod_0) (L := 64) (by kernel_rfl) (FnOK.bare rfl rfl rfl) sp_cncmill_Mod eqOk Qbo (by kernel_rfl) (by kernel_rfl)
def Qoo : Sk := { tmps := [tf [ci], tf [ci], tf [ci], tf [ci]], boxes := [], rows := [] }
def Qln : Sk := { tmps := [TS.v true [ci, ci, ci]], boxes := [], rows := [] }
def Qm3 : Cfg := { spec := Qbq [], eqOk := Qbw, ownOff := ownOff }
def mf_cncref23_Space : Fn := Qat Try.prog Qm3 64 65 Qoo Qln
theorem mf_cncref23_Space_eq (x0 x1 x2 x3 : Int) : mf_cncref23_Space [I x0, I x1, I x2, I x3] =
 bif x3 == 17 then
 some [I x0, I x1, I x2]
 else
 bif x3 == 18 then
 some [I x1, I x2, I x0]
 else
 bif x3 == 19 then
 some [I x2, I x0, I x1]
 else
 some [I 0, I 0, I 0] := by kernel_rfl
def Qf7 := mf_cncref23_Space 
theorem sp_cncref23_Space : Qan Try.prog (Qm3 ) := Qad rfl trivial
theorem r_cncref23_Space : Qbv Try.prog (65, spOf Qoo Qln Qf7) := Qa7 (C := Qm3) (L := 64) (by kernel_rfl) (FnOK.bare rfl rfl rfl) sp_cncref23_Space eqOk Qbo (by kernel_rfl) (by kernel_rfl)
def sig_cncref23_product : Sk := { tmps := [tf [CS.int .u64], tf [CS.int .u64]], boxes := [], rows := [] }
def osig_cncref23_product : Sk := { tmps := [TS.tup [(false, [CS.int .u64]), (false, [CS.int .u64])]], boxes := [], rows := [] }
def C_cncref23_product_0 : Cfg := { spec := Qbq [], eqOk := Qbw, ownOff := ownOff }
def mf_cncref23_product : Fn := Qat Try.prog C_cncref23_product_0 64 187 sig_cncref23_product osig_cncref23_product
theorem mf_cncref23_product_eq (x0 x1 : Int) : mf_cncref23_product [U x0, U x1] =
 some [U (IntKind.u64.wrap (IntKind.u64.wrap (IntKind.u64.wrap (x0.fdiv (2 ^ min (Int.toNat 32) IntKind.u64.bits) * x1.fdiv (2 ^ min (Int.toNat 32) IntKind.u64.bits)) + (IntKind.u64.wrap (IntKind.u64.wrap (x0.fdiv (2 ^ min (Int.toNat 32) IntKind.u64.bits) * IntKind.u64.wrap (↑(BitVec.ofInt IntKind.u64.bits x1 &&& BitVec.ofInt IntKind.u64.bits 4294967295).toNat : Int)) + (IntKind.u64.wrap (IntKind.u64.wrap (↑(BitVec.ofInt IntKind.u64.bits x0 &&& BitVec.ofInt IntKind.u64.bits 4294967295).toNat : Int) * IntKind.u64.wrap (↑(BitVec.ofInt IntKind.u64.bits x1 &&& BitVec.ofInt IntKind.u64.bits 4294967295).toNat : Int))).fdiv (2 ^ min (Int.toNat 32) IntKind.u64.bits))).fdiv (2 ^ min (Int.toNat 32) IntKind.u64.bits)) + (IntKind.u64.wrap (IntKind.u64.wrap (IntKind.u64.wrap (↑(BitVec.ofInt IntKind.u64.bits x0 &&& BitVec.ofInt IntKind.u64.bits 4294967295).toNat : Int) * x1.fdiv (2 ^ min (Int.toNat 32) IntKind.u64.bits)) + IntKind.u64.wrap (↑(BitVec.ofInt IntKind.u64.bits (IntKind.u64.wrap (IntKind.u64.wrap (x0.fdiv (2 ^ min (Int.toNat 32) IntKind.u64.bits) * IntKind.u64.wrap (↑(BitVec.ofInt IntKind.u64.bits x1 &&& BitVec.ofInt IntKind.u64.bits 4294967295).toNat : Int)) + (IntKind.u64.wrap (IntKind.u64.wrap (↑(BitVec.ofInt IntKind.u64.bits x0 &&& BitVec.ofInt IntKind.u64.bits 4294967295).toNat : Int) * IntKind.u64.wrap (↑(BitVec.ofInt IntKind.u64.bits x1 &&& BitVec.ofInt IntKind.u64.bits 4294967295).toNat : Int))).fdiv (2 ^ min (Int.toNat 32) IntKind.u64.bits))) &&& BitVec.ofInt IntKind.u64.bits 4294967295).toNat : Int))).fdiv (2 ^ min (Int.toNat 32) IntKind.u64.bits))), U (IntKind.u64.wrap (↑(BitVec.ofInt IntKind.u64.bits (IntKind.u64.wrap (IntKind.u64.wrap (IntKind.u64.wrap (IntKind.u64.wrap (↑(BitVec.ofInt IntKind.u64.bits x0 &&& BitVec.ofInt IntKind.u64.bits 4294967295).toNat : Int) * x1.fdiv (2 ^ min (Int.toNat 32) IntKind.u64.bits)) + IntKind.u64.wrap (↑(BitVec.ofInt IntKind.u64.bits (IntKind.u64.wrap (IntKind.u64.wrap (x0.fdiv (2 ^ min (Int.toNat 32) IntKind.u64.bits) * IntKind.u64.wrap (↑(BitVec.ofInt IntKind.u64.bits x1 &&& BitVec.ofInt IntKind.u64.bits 4294967295).toNat : Int)) + (IntKind.u64.wrap (IntKind.u64.wrap (↑(BitVec.ofInt IntKind.u64.bits x0 &&& BitVec.ofInt IntKind.u64.bits 4294967295).toNat : Int) * IntKind.u64.wrap (↑(BitVec.ofInt IntKind.u64.bits x1 &&& BitVec.ofInt IntKind.u64.bits 4294967295).toNat : Int))).fdiv (2 ^ min (Int.toNat 32) IntKind.u64.bits))) &&& BitVec.ofInt IntKind.u64.bits 4294967295).toNat : Int)) * 2 ^ min (Int.toNat 32) IntKind.u64.bits)) ||| BitVec.ofInt IntKind.u64.bits (IntKind.u64.wrap (↑(BitVec.ofInt IntKind.u64.bits (IntKind.u64.wrap (IntKind.u64.wrap (↑(BitVec.ofInt IntKind.u64.bits x0 &&& BitVec.ofInt IntKind.u64.bits 4294967295).toNat : Int) * IntKind.u64.wrap (↑(BitVec.ofInt IntKind.u64.bits x1 &&& BitVec.ofInt IntKind.u64.bits 4294967295).toNat : Int))) &&& BitVec.ofInt IntKind.u64.bits 4294967295).toNat : Int))).toNat : Int))] := by kernel_rfl
def Qnd := mf_cncref23_product 
def sig_cncref23_most : Sk := { tmps := [tf [CS.int .u64], tf [CS.int .u64], tf [CS.int .u64], tf [CS.int .u64], tf [CS.bool]], boxes := [], rows := [] }
def osig_cncref23_most : Sk := { tmps := [tf [CS.bool]], boxes := [], rows := [] }
def C_cncref23_most_0 (Qea : Fn) : Cfg := { spec := Qbq [(187, spOf sig_cncref23_product osig_cncref23_product Qea)], eqOk := Qbw, ownOff := ownOff }
def mf_cncref23_most (Qea : Fn) : Fn := Qat Try.prog (C_cncref23_most_0 Qea) 64 180 sig_cncref23_most osig_cncref23_most
theorem mf_cncref23_most_eq (Qea : Fn) (x0 x1 x2 x3 : Int) (x4 : Bool) : mf_cncref23_most Qea [U x0, U x1, U x2, U x3, B x4] =
 (Qea [U x0, U x1]).bind fun o2 =>
 (Qea [U x2, U x3]).bind fun o3 =>
 bif decide (gA o2 0 < gA o3 0) then
 some [B true]
 else
 bif gA o2 0 == gA o3 0 then
 bif decide (gA o2 1 < gA o3 1) then
 some [B true]
 else
 bif gA o2 1 == gA o3 1 then
 some [B !x4]
 else
 some [B false]
 else
 some [B false] := by kernel_rfl
def m_cncref23_most := mf_cncref23_most Qnd 
def sig_cncref23_Near : Sk := { tmps := [tf [ci], tf [ci], tf [ci]], boxes := [], rows := [] }
def osig_cncref23_Near : Sk := { tmps := [tf [ci]], boxes := [], rows := [] }
def C_cncref23_Near_0 (Qch : Fn) : Cfg := { spec := Qbq [(180, spOf sig_cncref23_most osig_cncref23_most Qch)], eqOk := Qbw, ownOff := ownOff }
def sk_cncref23_Near_3 : Sk := { tmps := [tf [ci], td, td, td, td, td, td, tf [CS.int .u64], tf [CS.int .u64], tf [CS.int .u64], tf [CS.int .u64]] ++ dd 51, boxes := [], rows := [] }
def ex_cncref23_Near_3 : List (Ex × Sk) := [(Ex.exit 0, { tmps := [tf [ci], td, td, td, td, td, td, tf [CS.int .u64], tf [CS.int .u64], tf [CS.int .u64]] ++ dd 52, boxes := [], rows := [] })]
def Qd7 (Qch : Fn) : Lp := stepL Try.prog (C_cncref23_Near_0 Qch) 64 3 (Qhz Try.prog 170 3) sk_cncref23_Near_3 ex_cncref23_Near_3
def C_cncref23_Near_1 (Qch : Fn) (N3 : Lp) : Cfg := (C_cncref23_Near_0 Qch).loop 3 sk_cncref23_Near_3 ex_cncref23_Near_3 N3
def mf_cncref23_Near (Qch : Fn) (N3 : Lp) : Fn := Qat Try.prog (C_cncref23_Near_1 Qch N3) 64 170 sig_cncref23_Near osig_cncref23_Near
theorem st_cncref23_Near_3_eq (Qch : Fn) (v0 v1 v2 v3 v4 : Int) : Qd7 Qch [I v0, U v1, U v2, U v3, U v4] =
 bif decide (v4 > 0) then
 (Qch [U (IntKind.u64.wrap (IntKind.u64.wrap (v3 + v4) * IntKind.u64.wrap (v3 + v4))), U v2, U v1, U v1, B false]).bind fun o3 =>
 bif bA o3 0 then
 some (0, [I v0, U v1, U v2, U (IntKind.u64.wrap (v3 + v4)), U (v4.fdiv (2 ^ min (Int.toNat 1) IntKind.u64.bits))])
 else
 some (0, [I v0, U v1, U v2, U v3, U (v4.fdiv (2 ^ min (Int.toNat 1) IntKind.u64.bits))])
 else
 some (1, [I v0, U v1, U v2, U v3]) := by kernel_rfl
theorem mf_cncref23_Near_eq (Qch : Fn) (N3 : Lp) (x0 x1 x2 : Int) : mf_cncref23_Near Qch N3 [I x0, I x1, I x2] =
 (N3 [I x0, U (IntKind.u64.wrap (IntKind.i64.wrap (mx x0 (IntKind.i64.wrap (0 - x0)) * x1))), U (IntKind.u64.wrap x2), U 0, U 134217728]).bind fun o4 =>
 bif o4.1.beq 1 then
 (Qch [U (IntKind.u64.wrap (IntKind.u64.wrap (IntKind.u64.wrap (2 * gA o4.2 3) + 1) * IntKind.u64.wrap (IntKind.u64.wrap (2 * gA o4.2 3) + 1))), U (gA o4.2 2), U (IntKind.u64.wrap (2 * gA o4.2 1)), U (IntKind.u64.wrap (2 * gA o4.2 1)), B (decide (gA o4.2 0 < 0))]).bind fun o5 =>
 bif bA o5 0 then
 bif decide (gA o4.2 0 < 0) then
 some [I (IntKind.i64.wrap (0 - IntKind.i64.wrap (IntKind.u64.wrap (gA o4.2 3 + 1))))]
 else
 some [I (IntKind.i64.wrap (IntKind.u64.wrap (gA o4.2 3 + 1)))]
 else
 bif decide (gA o4.2 0 < 0) then
 some [I (IntKind.i64.wrap (0 - IntKind.i64.wrap (gA o4.2 3)))]
 else
 some [I (IntKind.i64.wrap (gA o4.2 3))]
 else
 none := by kernel_rfl
def l_cncref23_Near_3 := Qb1 (Qd7 m_cncref23_most )
def Qnt := mf_cncref23_Near m_cncref23_most l_cncref23_Near_3
abbrev Qfr (Qcw : Fn) (x2 x6 : Int) (Qc0 : Fn) (x3 x7 : Int) (h1_0 h1_1 : Bool) (h1_2 h1_3 h1_4 : AC) : Option (List AC) :=
 bif h1_0 then
 bif h1_1 then
 some [I 0, I 0, I 0, I 0, B false]
 else
 (Qcw [I x2, I x6]).bind fun o104 =>
 (Qc0 [h1_2, jA o104 0, h1_3]).bind fun o105 =>
 (Qc0 [h1_4, jA o104 0, h1_3]).bind fun o106 =>
 (Qcw [I x3, I x7]).bind fun o107 =>
 some [jA o105 0, jA o106 0, jA o104 0, jA o107 0, B true]
 else
 (Qcw [I x2, I x6]).bind fun o108 =>
 (Qc0 [h1_2, jA o108 0, h1_3]).bind fun o109 =>
 (Qc0 [h1_4, jA o108 0, h1_3]).bind fun o110 =>
 (Qcw [I x3, I x7]).bind fun o111 =>
 some [jA o109 0, jA o110 0, jA o108 0, jA o111 0, B true]
attribute [go_sem] Qfr
abbrev Qlm (Qda : Fn) (x0 x1 x2 x3 x4 x5 x6 x7 : Int) (Qcw Qc0 : Fn) (x8 : Int) : Option (List AC) :=
 (Qda [I x0, I x1, I x2, I x3, I x4, I x5, I x6, I x7]).bind fun o122 =>
 bif decide (gA o122 0 > 0) then
 Qfr Qcw x2 x6 Qc0 x3 x7 (IntKind.i64.wrap (0 - IntKind.i64.wrap (x0 + x4)) == 0) (IntKind.i64.wrap (0 - IntKind.i64.wrap (x1 + x5)) == 0) (I (IntKind.i64.wrap (0 - IntKind.i64.wrap (x0 + x4)))) (I (IntKind.i64.wrap (IntKind.i64.wrap (IntKind.i64.wrap (0 - IntKind.i64.wrap (x0 + x4)) * IntKind.i64.wrap (0 - IntKind.i64.wrap (x0 + x4))) + IntKind.i64.wrap (IntKind.i64.wrap (0 - IntKind.i64.wrap (x1 + x5)) * IntKind.i64.wrap (0 - IntKind.i64.wrap (x1 + x5)))))) (I (IntKind.i64.wrap (0 - IntKind.i64.wrap (x1 + x5))))
 else
 Qfr Qcw x2 x6 Qc0 x3 x7 (IntKind.i64.wrap (x8 * IntKind.i64.wrap (x5 - x1)) == 0) (IntKind.i64.wrap (x8 * IntKind.i64.wrap (x0 - x4)) == 0) (I (IntKind.i64.wrap (x8 * IntKind.i64.wrap (x5 - x1)))) (I (IntKind.i64.wrap (IntKind.i64.wrap (IntKind.i64.wrap (x8 * IntKind.i64.wrap (x5 - x1)) * IntKind.i64.wrap (x8 * IntKind.i64.wrap (x5 - x1))) + IntKind.i64.wrap (IntKind.i64.wrap (x8 * IntKind.i64.wrap (x0 - x4)) * IntKind.i64.wrap (x8 * IntKind.i64.wrap (x0 - x4)))))) (I (IntKind.i64.wrap (x8 * IntKind.i64.wrap (x0 - x4))))
attribute [go_sem] Qlm
abbrev g_cncref23_Middle_3 (x9 : Bool) (Qcw : Fn) (x2 x6 : Int) (Qc0 : Fn) (x3 x7 x0 x1 : Int) (Qda : Fn) (x4 x5 : Int) (Qf6 : Fn) (x8 : Int) : Option (List AC) :=
 bif x9 then
 Qfr Qcw x2 x6 Qc0 x3 x7 (IntKind.i64.wrap (0 - x0) == 0) (IntKind.i64.wrap (0 - x1) == 0) (I (IntKind.i64.wrap (0 - x0))) (I (IntKind.i64.wrap (IntKind.i64.wrap (IntKind.i64.wrap (0 - x0) * IntKind.i64.wrap (0 - x0)) + IntKind.i64.wrap (IntKind.i64.wrap (0 - x1) * IntKind.i64.wrap (0 - x1))))) (I (IntKind.i64.wrap (0 - x1)))
 else
 (Qda [I x0, I x1, I x2, I x3, I x4, I x5, I x6, I x7]).bind fun o112 =>
 bif decide (gA o112 0 > 0) then
 (Qf6 [I x0, I x1, I x2, I x3, I x4, I x5, I x6, I x7]).bind fun o113 =>
 bif decide (IntKind.i64.wrap (gA o113 0 * x8) > 0) then
 Qfr Qcw x2 x6 Qc0 x3 x7 (IntKind.i64.wrap (x0 + x4) == 0) (IntKind.i64.wrap (x1 + x5) == 0) (I (IntKind.i64.wrap (x0 + x4))) (I (IntKind.i64.wrap (IntKind.i64.wrap (IntKind.i64.wrap (x0 + x4) * IntKind.i64.wrap (x0 + x4)) + IntKind.i64.wrap (IntKind.i64.wrap (x1 + x5) * IntKind.i64.wrap (x1 + x5))))) (I (IntKind.i64.wrap (x1 + x5)))
 else
 Qlm Qda x0 x1 x2 x3 x4 x5 x6 x7 Qcw Qc0 x8
 else
 Qlm Qda x0 x1 x2 x3 x4 x5 x6 x7 Qcw Qc0 x8
attribute [go_sem] g_cncref23_Middle_3
def Qnh : Sk := { tmps := [tf [ci], tf [ci]], boxes := [], rows := [] }
def Qlx : Sk := { tmps := [TS.tup [(false, [ci]), (false, [ci])]], boxes := [], rows := [] }
def Qnm : Cfg := { spec := Qbq [], eqOk := Qbw, ownOff := ownOff }
def mf_cncmill_turned : Fn := Qat Try.prog Qnm 64 112 Qnh Qlx
theorem mf_cncmill_turned_eq (x0 x1 : Int) : mf_cncmill_turned [I x0, I x1] =
 bif decide (0 <= x1.tmod 4) && decide (x1.tmod 4 < (↑[[I x0], [I 0], [I (IntKind.i64.wrap (0 - x0))], [I 0]].length : Int)) then
 bif decide (0 <= x1.tmod 4) && decide (x1.tmod 4 < (↑[[I 0], [I x0], [I 0], [I (IntKind.i64.wrap (0 - x0))]].length : Int)) then
 some [I (Qav (nth .dead (nth [] [[I x0], [I 0], [I (IntKind.i64.wrap (0 - x0))], [I 0]] (x1.tmod 4).toNat) 0)), I (Qav (nth .dead (nth [] [[I 0], [I x0], [I 0], [I (IntKind.i64.wrap (0 - x0))]] (x1.tmod 4).toNat) 0))]
 else
 none
 else
 none := by kernel_rfl
def Qf0 := mf_cncmill_turned 
theorem sp_cncmill_turned : Qan Try.prog (Qnm ) := Qad rfl trivial
theorem r_cncmill_turned : Qbv Try.prog (112, spOf Qnh Qlx Qf0) := Qa7 (C := Qnm) (L := 64) (by kernel_rfl) (FnOK.bare rfl rfl rfl) sp_cncmill_turned eqOk Qbo (by kernel_rfl) (by kernel_rfl)
end Go.Bm
