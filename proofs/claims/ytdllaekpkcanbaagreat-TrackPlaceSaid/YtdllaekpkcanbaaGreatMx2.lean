/- functions of the program and of the references, as models -/
import Derived.Test.YtdllaekpkcanbaaGreatMx1
set_option linter.unusedSimpArgs false
set_option linter.unusedVariables false
set_option maxRecDepth 100000
namespace Go.Bm
open Go.Proofs
def sig_cncref25_Center : Sk := { tmps := [TS.v true [CS.int .i64, CS.int .i64, CS.int .i64, CS.int .i64, CS.int .i64, CS.int .i64, CS.int .i64, CS.int .i64, CS.int .i64, CS.int .i64, CS.int .i64, CS.int .i64, CS.int .i64, CS.bool, CS.int .i64, CS.bool, CS.int .i64, CS.int .i64, CS.int .i64, CS.int .i64, CS.int .i64, CS.bool]], boxes := [], rows := [] }
def osig_cncref25_Center : Sk := { tmps := [TS.v true [CS.int .i64, CS.int .i64, CS.int .i64]], boxes := [], rows := [] }
noncomputable def C_cncref25_Center_0  : Cfg := { spec := lookS [], eqOk := eqAll, ownOff := ownOff }
noncomputable def mf_cncref25_Center   : List AC → Option (List AC) := modelF Tryz.prog C_cncref25_Center_0 64 90 sig_cncref25_Center osig_cncref25_Center
theorem mf_cncref25_Center_eq   (x0 x1 x2 x3 x4 x5 x6 x7 x8 x9 x10 x11 x12 : Int) (x13 : Bool) (x14 : Int) (x15 : Bool) (x16 x17 x18 x19 x20 : Int) (x21 : Bool) : mf_cncref25_Center   [I x0, I x1, I x2, I x3, I x4, I x5, I x6, I x7, I x8, I x9, I x10, I x11, I x12, AC.bool x13, I x14, AC.bool x15, I x16, I x17, I x18, I x19, I x20, AC.bool x21] =
 some [I (IntKind.i64.wrap (IntKind.i64.wrap (x2 + x5) * 8)), I (IntKind.i64.wrap (IntKind.i64.wrap (x3 + x6) * 8)), I (IntKind.i64.wrap (IntKind.i64.wrap (x4 + x7) * 8))] := by kernel_rfl
noncomputable def m_cncref25_Center := mf_cncref25_Center  
theorem sp_cncref25_Center : SpecOK Tryz.prog (C_cncref25_Center_0 ) := specOK_of rfl trivial
theorem r_cncref25_Center : RowOK Tryz.prog (90, spOf sig_cncref25_Center osig_cncref25_Center m_cncref25_Center) := row_of (C := C_cncref25_Center_0) (L := 64) (sig := sig_cncref25_Center) (osig := osig_cncref25_Center) (by kernel_rfl) (FnOK.bare rfl rfl rfl) sp_cncref25_Center eqOk mixOk (by kernel_rfl) (by kernel_rfl)
def sig_cncref24_Rounded : Sk := { tmps := [TS.v false [CS.int .i64], TS.v false [CS.int .i64]], boxes := [], rows := [] }
def osig_cncref24_Rounded : Sk := { tmps := [TS.v false [CS.int .i64]], boxes := [], rows := [] }
noncomputable def C_cncref24_Rounded_0  : Cfg := { spec := lookS [], eqOk := eqAll, ownOff := ownOff }
noncomputable def mf_cncref24_Rounded   : List AC → Option (List AC) := modelF Tryz.prog C_cncref24_Rounded_0 64 72 sig_cncref24_Rounded osig_cncref24_Rounded
theorem mf_cncref24_Rounded_eq   (x0 x1 : Int) : mf_cncref24_Rounded   [I x0, I x1] =
 bif decide (IntKind.i64.wrap (2 * x1) = 0) then
 none
 else
 bif decide (IntKind.i64.wrap (2 * x1) = 0) then
 none
 else
 bif decide ((IntKind.i64.wrap (IntKind.i64.wrap (2 * x0) + x1)).tmod (IntKind.i64.wrap (2 * x1)) < 0) then
 some [I (IntKind.i64.wrap (IntKind.i64.wrap ((IntKind.i64.wrap (IntKind.i64.wrap (2 * x0) + x1)).tdiv (IntKind.i64.wrap (2 * x1))) - 1))]
 else
 some [I (IntKind.i64.wrap ((IntKind.i64.wrap (IntKind.i64.wrap (2 * x0) + x1)).tdiv (IntKind.i64.wrap (2 * x1))))] := by kernel_rfl
noncomputable def m_cncref24_Rounded := mf_cncref24_Rounded  
theorem sp_cncref24_Rounded : SpecOK Tryz.prog (C_cncref24_Rounded_0 ) := specOK_of rfl trivial
theorem r_cncref24_Rounded : RowOK Tryz.prog (72, spOf sig_cncref24_Rounded osig_cncref24_Rounded m_cncref24_Rounded) := row_of (C := C_cncref24_Rounded_0) (L := 64) (sig := sig_cncref24_Rounded) (osig := osig_cncref24_Rounded) (by kernel_rfl) (FnOK.bare rfl rfl rfl) sp_cncref24_Rounded eqOk mixOk (by kernel_rfl) (by kernel_rfl)
def sig_cncref24_Add : Sk := { tmps := [TS.v true [CS.int .i64, CS.int .i64, CS.int .i64], TS.v true [CS.int .i64, CS.int .i64, CS.int .i64]], boxes := [], rows := [] }
def osig_cncref24_Add : Sk := { tmps := [TS.v true [CS.int .i64, CS.int .i64, CS.int .i64]], boxes := [], rows := [] }
noncomputable def C_cncref24_Add_0  : Cfg := { spec := lookS [], eqOk := eqAll, ownOff := ownOff }
noncomputable def mf_cncref24_Add   : List AC → Option (List AC) := modelF Tryz.prog C_cncref24_Add_0 64 185 sig_cncref24_Add osig_cncref24_Add
theorem mf_cncref24_Add_eq   (x0 x1 x2 x3 x4 x5 : Int) : mf_cncref24_Add   [I x0, I x1, I x2, I x3, I x4, I x5] =
 some [I (IntKind.i64.wrap (x0 + x3)), I (IntKind.i64.wrap (x1 + x4)), I (IntKind.i64.wrap (x2 + x5))] := by kernel_rfl
noncomputable def m_cncref24_Add := mf_cncref24_Add  
theorem sp_cncref24_Add : SpecOK Tryz.prog (C_cncref24_Add_0 ) := specOK_of rfl trivial
theorem r_cncref24_Add : RowOK Tryz.prog (185, spOf sig_cncref24_Add osig_cncref24_Add m_cncref24_Add) := row_of (C := C_cncref24_Add_0) (L := 64) (sig := sig_cncref24_Add) (osig := osig_cncref24_Add) (by kernel_rfl) (FnOK.bare rfl rfl rfl) sp_cncref24_Add eqOk mixOk (by kernel_rfl) (by kernel_rfl)
def sig_cncref24_Minus : Sk := { tmps := [TS.v true [CS.int .i64, CS.int .i64, CS.int .i64], TS.v true [CS.int .i64, CS.int .i64, CS.int .i64]], boxes := [], rows := [] }
def osig_cncref24_Minus : Sk := { tmps := [TS.v true [CS.int .i64, CS.int .i64, CS.int .i64]], boxes := [], rows := [] }
noncomputable def C_cncref24_Minus_0  : Cfg := { spec := lookS [], eqOk := eqAll, ownOff := ownOff }
noncomputable def mf_cncref24_Minus   : List AC → Option (List AC) := modelF Tryz.prog C_cncref24_Minus_0 64 186 sig_cncref24_Minus osig_cncref24_Minus
theorem mf_cncref24_Minus_eq   (x0 x1 x2 x3 x4 x5 : Int) : mf_cncref24_Minus   [I x0, I x1, I x2, I x3, I x4, I x5] =
 some [I (IntKind.i64.wrap (x0 - x3)), I (IntKind.i64.wrap (x1 - x4)), I (IntKind.i64.wrap (x2 - x5))] := by kernel_rfl
noncomputable def m_cncref24_Minus := mf_cncref24_Minus  
theorem sp_cncref24_Minus : SpecOK Tryz.prog (C_cncref24_Minus_0 ) := specOK_of rfl trivial
theorem r_cncref24_Minus : RowOK Tryz.prog (186, spOf sig_cncref24_Minus osig_cncref24_Minus m_cncref24_Minus) := row_of (C := C_cncref24_Minus_0) (L := 64) (sig := sig_cncref24_Minus) (osig := osig_cncref24_Minus) (by kernel_rfl) (FnOK.bare rfl rfl rfl) sp_cncref24_Minus eqOk mixOk (by kernel_rfl) (by kernel_rfl)
def sig_cncref24_Bend : Sk := { tmps := [TS.v true [CS.int .i64, CS.int .i64, CS.int .i64], TS.v true [CS.int .i64, CS.int .i64, CS.int .i64], TS.v true [CS.int .i64, CS.int .i64, CS.int .i64]], boxes := [], rows := [] }
def osig_cncref24_Bend : Sk := { tmps := [TS.v false [CS.int .i64]], boxes := [], rows := [] }
noncomputable def C_cncref24_Bend_0 (M_cncref23_Square M_cncref24_Add M_cncref24_Minus : List AC → Option (List AC)) : Cfg := { spec := lookS [(116, spOf sig_cncref23_Square osig_cncref23_Square M_cncref23_Square), (185, spOf sig_cncref24_Add osig_cncref24_Add M_cncref24_Add), (186, spOf sig_cncref24_Minus osig_cncref24_Minus M_cncref24_Minus)], eqOk := eqAll, ownOff := ownOff }
noncomputable def mf_cncref24_Bend (M_cncref23_Square M_cncref24_Add M_cncref24_Minus : List AC → Option (List AC))  : List AC → Option (List AC) := modelF Tryz.prog (C_cncref24_Bend_0 M_cncref23_Square M_cncref24_Add M_cncref24_Minus) 64 173 sig_cncref24_Bend osig_cncref24_Bend
theorem mf_cncref24_Bend_eq (M_cncref23_Square M_cncref24_Add M_cncref24_Minus : List AC → Option (List AC))  (x0 x1 x2 x3 x4 x5 x6 x7 x8 : Int) : mf_cncref24_Bend M_cncref23_Square M_cncref24_Add M_cncref24_Minus  [I x0, I x1, I x2, I x3, I x4, I x5, I x6, I x7, I x8] =
 (M_cncref24_Minus [I x0, I x1, I x2, I x3, I x4, I x5]).bind fun o4 =>
 (M_cncref24_Minus [I x6, I x7, I x8, I x3, I x4, I x5]).bind fun o5 =>
 (M_cncref24_Add [I (intOf (nth .dead o4 0)), I (intOf (nth .dead o4 1)), I (intOf (nth .dead o4 2)), I (intOf (nth .dead o5 0)), I (intOf (nth .dead o5 1)), I (intOf (nth .dead o5 2))]).bind fun o6 =>
 (M_cncref23_Square [I (intOf (nth .dead o6 0)), I (intOf (nth .dead o6 1)), I (intOf (nth .dead o6 2)), I 0, I 0, I 0]).bind fun o7 =>
 some [I (intOf (nth .dead o7 0))] := by kernel_rfl
noncomputable def m_cncref24_Bend := mf_cncref24_Bend m_cncref23_Square m_cncref24_Add m_cncref24_Minus 
theorem sp_cncref24_Bend : SpecOK Tryz.prog (C_cncref24_Bend_0 m_cncref23_Square m_cncref24_Add m_cncref24_Minus) := specOK_of rfl ⟨r_cncref23_Square, r_cncref24_Add, r_cncref24_Minus, trivial⟩
theorem r_cncref24_Bend : RowOK Tryz.prog (173, spOf sig_cncref24_Bend osig_cncref24_Bend m_cncref24_Bend) := row_of (C := (C_cncref24_Bend_0 m_cncref23_Square m_cncref24_Add m_cncref24_Minus)) (L := 64) (sig := sig_cncref24_Bend) (osig := osig_cncref24_Bend) (by kernel_rfl) (FnOK.bare rfl rfl rfl) sp_cncref24_Bend eqOk mixOk (by kernel_rfl) (by kernel_rfl)
def sig_cncref24_Pieces : Sk := { tmps := [TS.v true [CS.int .i64, CS.int .i64, CS.int .i64], TS.v true [CS.int .i64, CS.int .i64, CS.int .i64], TS.v true [CS.int .i64, CS.int .i64, CS.int .i64]], boxes := [], rows := [] }
def osig_cncref24_Pieces : Sk := { tmps := [TS.v false [CS.int .i64]], boxes := [], rows := [] }
noncomputable def C_cncref24_Pieces_0 (M_cncref24_Bend : List AC → Option (List AC)) : Cfg := { spec := lookS [(173, spOf sig_cncref24_Bend osig_cncref24_Bend M_cncref24_Bend)], eqOk := eqAll, ownOff := ownOff }
def sk_cncref24_Pieces_2 : Sk := { tmps := [TS.dead, TS.dead, TS.dead, TS.v false [CS.ptr 3 0], TS.v false [CS.ptr 4 0], TS.v false [CS.ptr 5 0], TS.dead, TS.v false [CS.int .i64]] ++ dd 22, boxes := [(3, 25, [CS.int .i64, CS.int .i64, CS.int .i64]), (4, 25, [CS.int .i64, CS.int .i64, CS.int .i64]), (5, 25, [CS.int .i64, CS.int .i64, CS.int .i64])], rows := [] }
def ex_cncref24_Pieces_2 : List (Ex × Sk) := [(Ex.exit 0, { tmps := [TS.dead, TS.dead, TS.dead, TS.dead, TS.dead, TS.dead, TS.dead, TS.v false [CS.int .i64]] ++ dd 22, boxes := [], rows := [] })]
noncomputable def st_cncref24_Pieces_2 (M_cncref24_Bend : List AC → Option (List AC))  : List AC → Option (Nat × List AC) := stepL Tryz.prog (C_cncref24_Pieces_0 M_cncref24_Bend) 64 2 (bodyOf Tryz.prog 155 2) sk_cncref24_Pieces_2 ex_cncref24_Pieces_2
noncomputable def C_cncref24_Pieces_1 (M_cncref24_Bend : List AC → Option (List AC))  (N2 : List AC → Option (Nat × List AC)) : Cfg := (C_cncref24_Pieces_0 M_cncref24_Bend).loop 2 sk_cncref24_Pieces_2 ex_cncref24_Pieces_2 N2
noncomputable def mf_cncref24_Pieces (M_cncref24_Bend : List AC → Option (List AC))  (N2 : List AC → Option (Nat × List AC)) : List AC → Option (List AC) := modelF Tryz.prog (C_cncref24_Pieces_1 M_cncref24_Bend N2) 64 155 sig_cncref24_Pieces osig_cncref24_Pieces
theorem st_cncref24_Pieces_2_eq (M_cncref24_Bend : List AC → Option (List AC))  (v0 v1 v2 v3 v4 v5 v6 v7 v8 v9 : Int) : st_cncref24_Pieces_2 M_cncref24_Bend  [I v0, I v1, I v2, I v3, I v4, I v5, I v6, I v7, I v8, I v9] =
 bif decide (v0 < 64) then
 (M_cncref24_Bend [I v1, I v2, I v3, I v4, I v5, I v6, I v7, I v8, I v9]).bind fun o2 =>
 bif decide (intOf (nth .dead o2 0) > IntKind.i64.wrap (IntKind.i64.wrap (IntKind.i64.wrap (IntKind.i64.wrap (IntKind.i64.wrap (IntKind.i64.wrap (16 * v0) * v0) * v0) * v0) * 4) * 4)) then
 some (0, [I (IntKind.i64.wrap (v0 * 2)), I v1, I v2, I v3, I v4, I v5, I v6, I v7, I v8, I v9])
 else
 some (1, [I v0])
 else
 some (1, [I v0]) := by kernel_rfl
theorem mf_cncref24_Pieces_eq (M_cncref24_Bend : List AC → Option (List AC))  (N2 : List AC → Option (Nat × List AC)) (x0 x1 x2 x3 x4 x5 x6 x7 x8 : Int) : mf_cncref24_Pieces M_cncref24_Bend  N2 [I x0, I x1, I x2, I x3, I x4, I x5, I x6, I x7, I x8] =
 (N2 [I 2, I x0, I x1, I x2, I x3, I x4, I x5, I x6, I x7, I x8]).bind fun o3 =>
 bif o3.fst.beq 1 then
 some [I (intOf (nth .dead o3.snd 0))]
 else
 none := by kernel_rfl
noncomputable def l_cncref24_Pieces_2 := loopC (st_cncref24_Pieces_2 m_cncref24_Bend )
noncomputable def m_cncref24_Pieces := mf_cncref24_Pieces m_cncref24_Bend  l_cncref24_Pieces_2
theorem sp_cncref24_Pieces : SpecOK Tryz.prog (C_cncref24_Pieces_0 m_cncref24_Bend) := specOK_of rfl ⟨r_cncref24_Bend, trivial⟩
theorem r_cncref24_Pieces : RowOK Tryz.prog (155, spOf sig_cncref24_Pieces osig_cncref24_Pieces m_cncref24_Pieces) := row_of (C := (C_cncref24_Pieces_1 m_cncref24_Bend l_cncref24_Pieces_2)) (L := 64) (sig := sig_cncref24_Pieces) (osig := osig_cncref24_Pieces) (by kernel_rfl) ((FnOK.bare rfl rfl rfl).loop sp_cncref24_Pieces eqOk mixOk (by kernel_rfl) (by kernel_rfl)) sp_cncref24_Pieces eqOk mixOk (by kernel_rfl) (by kernel_rfl)
def sig_cncref23_product : Sk := { tmps := [TS.v false [CS.int .u64], TS.v false [CS.int .u64]], boxes := [], rows := [] }
def osig_cncref23_product : Sk := { tmps := [TS.tup [(false, [CS.int .u64]), (false, [CS.int .u64])]], boxes := [], rows := [] }
noncomputable def C_cncref23_product_0  : Cfg := { spec := lookS [], eqOk := eqAll, ownOff := ownOff }
noncomputable def mf_cncref23_product   : List AC → Option (List AC) := modelF Tryz.prog C_cncref23_product_0 64 192 sig_cncref23_product osig_cncref23_product
theorem mf_cncref23_product_eq   (x0 x1 : Int) : mf_cncref23_product   [AC.int .u64 x0, AC.int .u64 x1] =
 some [AC.int IntKind.u64 (IntKind.u64.wrap (IntKind.u64.wrap (IntKind.u64.wrap (x0.fdiv (2 ^ min (Int.toNat 32) IntKind.u64.bits) * x1.fdiv (2 ^ min (Int.toNat 32) IntKind.u64.bits)) + (IntKind.u64.wrap (IntKind.u64.wrap (x0.fdiv (2 ^ min (Int.toNat 32) IntKind.u64.bits) * IntKind.u64.wrap (↑(BitVec.ofInt IntKind.u64.bits x1 &&& BitVec.ofInt IntKind.u64.bits 4294967295).toNat : Int)) + (IntKind.u64.wrap (IntKind.u64.wrap (↑(BitVec.ofInt IntKind.u64.bits x0 &&& BitVec.ofInt IntKind.u64.bits 4294967295).toNat : Int) * IntKind.u64.wrap (↑(BitVec.ofInt IntKind.u64.bits x1 &&& BitVec.ofInt IntKind.u64.bits 4294967295).toNat : Int))).fdiv (2 ^ min (Int.toNat 32) IntKind.u64.bits))).fdiv (2 ^ min (Int.toNat 32) IntKind.u64.bits)) + (IntKind.u64.wrap (IntKind.u64.wrap (IntKind.u64.wrap (↑(BitVec.ofInt IntKind.u64.bits x0 &&& BitVec.ofInt IntKind.u64.bits 4294967295).toNat : Int) * x1.fdiv (2 ^ min (Int.toNat 32) IntKind.u64.bits)) + IntKind.u64.wrap (↑(BitVec.ofInt IntKind.u64.bits (IntKind.u64.wrap (IntKind.u64.wrap (x0.fdiv (2 ^ min (Int.toNat 32) IntKind.u64.bits) * IntKind.u64.wrap (↑(BitVec.ofInt IntKind.u64.bits x1 &&& BitVec.ofInt IntKind.u64.bits 4294967295).toNat : Int)) + (IntKind.u64.wrap (IntKind.u64.wrap (↑(BitVec.ofInt IntKind.u64.bits x0 &&& BitVec.ofInt IntKind.u64.bits 4294967295).toNat : Int) * IntKind.u64.wrap (↑(BitVec.ofInt IntKind.u64.bits x1 &&& BitVec.ofInt IntKind.u64.bits 4294967295).toNat : Int))).fdiv (2 ^ min (Int.toNat 32) IntKind.u64.bits))) &&& BitVec.ofInt IntKind.u64.bits 4294967295).toNat : Int))).fdiv (2 ^ min (Int.toNat 32) IntKind.u64.bits))), AC.int IntKind.u64 (IntKind.u64.wrap (↑(BitVec.ofInt IntKind.u64.bits (IntKind.u64.wrap (IntKind.u64.wrap (IntKind.u64.wrap (IntKind.u64.wrap (↑(BitVec.ofInt IntKind.u64.bits x0 &&& BitVec.ofInt IntKind.u64.bits 4294967295).toNat : Int) * x1.fdiv (2 ^ min (Int.toNat 32) IntKind.u64.bits)) + IntKind.u64.wrap (↑(BitVec.ofInt IntKind.u64.bits (IntKind.u64.wrap (IntKind.u64.wrap (x0.fdiv (2 ^ min (Int.toNat 32) IntKind.u64.bits) * IntKind.u64.wrap (↑(BitVec.ofInt IntKind.u64.bits x1 &&& BitVec.ofInt IntKind.u64.bits 4294967295).toNat : Int)) + (IntKind.u64.wrap (IntKind.u64.wrap (↑(BitVec.ofInt IntKind.u64.bits x0 &&& BitVec.ofInt IntKind.u64.bits 4294967295).toNat : Int) * IntKind.u64.wrap (↑(BitVec.ofInt IntKind.u64.bits x1 &&& BitVec.ofInt IntKind.u64.bits 4294967295).toNat : Int))).fdiv (2 ^ min (Int.toNat 32) IntKind.u64.bits))) &&& BitVec.ofInt IntKind.u64.bits 4294967295).toNat : Int)) * 2 ^ min (Int.toNat 32) IntKind.u64.bits)) ||| BitVec.ofInt IntKind.u64.bits (IntKind.u64.wrap (↑(BitVec.ofInt IntKind.u64.bits (IntKind.u64.wrap (IntKind.u64.wrap (↑(BitVec.ofInt IntKind.u64.bits x0 &&& BitVec.ofInt IntKind.u64.bits 4294967295).toNat : Int) * IntKind.u64.wrap (↑(BitVec.ofInt IntKind.u64.bits x1 &&& BitVec.ofInt IntKind.u64.bits 4294967295).toNat : Int))) &&& BitVec.ofInt IntKind.u64.bits 4294967295).toNat : Int))).toNat : Int))] := by kernel_rfl
noncomputable def m_cncref23_product := mf_cncref23_product  
theorem sp_cncref23_product : SpecOK Tryz.prog (C_cncref23_product_0 ) := specOK_of rfl trivial
theorem r_cncref23_product : RowOK Tryz.prog (192, spOf sig_cncref23_product osig_cncref23_product m_cncref23_product) := row_of (C := C_cncref23_product_0) (L := 64) (sig := sig_cncref23_product) (osig := osig_cncref23_product) (by kernel_rfl) (FnOK.bare rfl rfl rfl) sp_cncref23_product eqOk mixOk (by kernel_rfl) (by kernel_rfl)
def sig_cncref23_most : Sk := { tmps := [TS.v false [CS.int .u64], TS.v false [CS.int .u64], TS.v false [CS.int .u64], TS.v false [CS.int .u64], TS.v false [CS.bool]], boxes := [], rows := [] }
def osig_cncref23_most : Sk := { tmps := [TS.v false [CS.bool]], boxes := [], rows := [] }
noncomputable def C_cncref23_most_0 (M_cncref23_product : List AC → Option (List AC)) : Cfg := { spec := lookS [(192, spOf sig_cncref23_product osig_cncref23_product M_cncref23_product)], eqOk := eqAll, ownOff := ownOff }
noncomputable def mf_cncref23_most (M_cncref23_product : List AC → Option (List AC))  : List AC → Option (List AC) := modelF Tryz.prog (C_cncref23_most_0 M_cncref23_product) 64 184 sig_cncref23_most osig_cncref23_most
theorem mf_cncref23_most_eq (M_cncref23_product : List AC → Option (List AC))  (x0 x1 x2 x3 : Int) (x4 : Bool) : mf_cncref23_most M_cncref23_product  [AC.int .u64 x0, AC.int .u64 x1, AC.int .u64 x2, AC.int .u64 x3, AC.bool x4] =
 (M_cncref23_product [AC.int IntKind.u64 x0, AC.int IntKind.u64 x1]).bind fun o2 =>
 (M_cncref23_product [AC.int IntKind.u64 x2, AC.int IntKind.u64 x3]).bind fun o3 =>
 bif decide (intOf (nth .dead o2 0) < intOf (nth .dead o3 0)) then
 some [AC.bool true]
 else
 bif intOf (nth .dead o2 0) == intOf (nth .dead o3 0) then
 bif decide (intOf (nth .dead o2 1) < intOf (nth .dead o3 1)) then
 some [AC.bool true]
 else
 bif intOf (nth .dead o2 1) == intOf (nth .dead o3 1) then
 some [AC.bool !x4]
 else
 some [AC.bool false]
 else
 some [AC.bool false] := by kernel_rfl
noncomputable def m_cncref23_most := mf_cncref23_most m_cncref23_product 
theorem sp_cncref23_most : SpecOK Tryz.prog (C_cncref23_most_0 m_cncref23_product) := specOK_of rfl ⟨r_cncref23_product, trivial⟩
theorem r_cncref23_most : RowOK Tryz.prog (184, spOf sig_cncref23_most osig_cncref23_most m_cncref23_most) := row_of (C := (C_cncref23_most_0 m_cncref23_product)) (L := 64) (sig := sig_cncref23_most) (osig := osig_cncref23_most) (by kernel_rfl) (FnOK.bare rfl rfl rfl) sp_cncref23_most eqOk mixOk (by kernel_rfl) (by kernel_rfl)
def sig_cncref23_Near : Sk := { tmps := [TS.v false [CS.int .i64], TS.v false [CS.int .i64], TS.v false [CS.int .i64]], boxes := [], rows := [] }
def osig_cncref23_Near : Sk := { tmps := [TS.v false [CS.int .i64]], boxes := [], rows := [] }
noncomputable def C_cncref23_Near_0 (M_cncref23_most : List AC → Option (List AC)) : Cfg := { spec := lookS [(184, spOf sig_cncref23_most osig_cncref23_most M_cncref23_most)], eqOk := eqAll, ownOff := ownOff }
def sk_cncref23_Near_3 : Sk := { tmps := [TS.v false [CS.int .i64], TS.dead, TS.dead, TS.dead, TS.dead, TS.dead, TS.dead, TS.v false [CS.int .u64], TS.v false [CS.int .u64], TS.v false [CS.int .u64], TS.v false [CS.int .u64]] ++ dd 51, boxes := [], rows := [] }
def ex_cncref23_Near_3 : List (Ex × Sk) := [(Ex.exit 0, { tmps := [TS.v false [CS.int .i64], TS.dead, TS.dead, TS.dead, TS.dead, TS.dead, TS.dead, TS.v false [CS.int .u64], TS.v false [CS.int .u64], TS.v false [CS.int .u64]] ++ dd 52, boxes := [], rows := [] })]
noncomputable def st_cncref23_Near_3 (M_cncref23_most : List AC → Option (List AC))  : List AC → Option (Nat × List AC) := stepL Tryz.prog (C_cncref23_Near_0 M_cncref23_most) 64 3 (bodyOf Tryz.prog 172 3) sk_cncref23_Near_3 ex_cncref23_Near_3
noncomputable def C_cncref23_Near_1 (M_cncref23_most : List AC → Option (List AC))  (N3 : List AC → Option (Nat × List AC)) : Cfg := (C_cncref23_Near_0 M_cncref23_most).loop 3 sk_cncref23_Near_3 ex_cncref23_Near_3 N3
noncomputable def mf_cncref23_Near (M_cncref23_most : List AC → Option (List AC))  (N3 : List AC → Option (Nat × List AC)) : List AC → Option (List AC) := modelF Tryz.prog (C_cncref23_Near_1 M_cncref23_most N3) 64 172 sig_cncref23_Near osig_cncref23_Near
theorem st_cncref23_Near_3_eq (M_cncref23_most : List AC → Option (List AC))  (v0 v1 v2 v3 v4 : Int) : st_cncref23_Near_3 M_cncref23_most  [I v0, AC.int .u64 v1, AC.int .u64 v2, AC.int .u64 v3, AC.int .u64 v4] =
 bif decide (v4 > 0) then
 (M_cncref23_most [AC.int IntKind.u64 (IntKind.u64.wrap (IntKind.u64.wrap (v3 + v4) * IntKind.u64.wrap (v3 + v4))), AC.int IntKind.u64 v2, AC.int IntKind.u64 v1, AC.int IntKind.u64 v1, AC.bool false]).bind fun o3 =>
 bif boolOf (nth .dead o3 0) then
 some (0, [I v0, AC.int IntKind.u64 v1, AC.int IntKind.u64 v2, AC.int IntKind.u64 (IntKind.u64.wrap (v3 + v4)), AC.int IntKind.u64 (v4.fdiv (2 ^ min (Int.toNat 1) IntKind.u64.bits))])
 else
 some (0, [I v0, AC.int IntKind.u64 v1, AC.int IntKind.u64 v2, AC.int IntKind.u64 v3, AC.int IntKind.u64 (v4.fdiv (2 ^ min (Int.toNat 1) IntKind.u64.bits))])
 else
 some (1, [I v0, AC.int IntKind.u64 v1, AC.int IntKind.u64 v2, AC.int IntKind.u64 v3]) := by kernel_rfl
theorem mf_cncref23_Near_eq (M_cncref23_most : List AC → Option (List AC))  (N3 : List AC → Option (Nat × List AC)) (x0 x1 x2 : Int) : mf_cncref23_Near M_cncref23_most  N3 [I x0, I x1, I x2] =
 (N3 [I x0, AC.int IntKind.u64 (IntKind.u64.wrap (IntKind.i64.wrap (mx x0 (IntKind.i64.wrap (0 - x0)) * x1))), AC.int IntKind.u64 (IntKind.u64.wrap x2), AC.int IntKind.u64 0, AC.int IntKind.u64 134217728]).bind fun o4 =>
 bif o4.fst.beq 1 then
 (M_cncref23_most [AC.int IntKind.u64 (IntKind.u64.wrap (IntKind.u64.wrap (IntKind.u64.wrap (2 * intOf (nth .dead o4.snd 3)) + 1) * IntKind.u64.wrap (IntKind.u64.wrap (2 * intOf (nth .dead o4.snd 3)) + 1))), AC.int IntKind.u64 (intOf (nth .dead o4.snd 2)), AC.int IntKind.u64 (IntKind.u64.wrap (2 * intOf (nth .dead o4.snd 1))), AC.int IntKind.u64 (IntKind.u64.wrap (2 * intOf (nth .dead o4.snd 1))), AC.bool (decide (intOf (nth .dead o4.snd 0) < 0))]).bind fun o5 =>
 bif boolOf (nth .dead o5 0) then
 bif decide (intOf (nth .dead o4.snd 0) < 0) then
 some [I (IntKind.i64.wrap (0 - IntKind.i64.wrap (IntKind.u64.wrap (intOf (nth .dead o4.snd 3) + 1))))]
 else
 some [I (IntKind.i64.wrap (IntKind.u64.wrap (intOf (nth .dead o4.snd 3) + 1)))]
 else
 bif decide (intOf (nth .dead o4.snd 0) < 0) then
 some [I (IntKind.i64.wrap (0 - IntKind.i64.wrap (intOf (nth .dead o4.snd 3))))]
 else
 some [I (IntKind.i64.wrap (intOf (nth .dead o4.snd 3)))]
 else
 none := by kernel_rfl
noncomputable def l_cncref23_Near_3 := loopC (st_cncref23_Near_3 m_cncref23_most )
noncomputable def m_cncref23_Near := mf_cncref23_Near m_cncref23_most  l_cncref23_Near_3
theorem sp_cncref23_Near : SpecOK Tryz.prog (C_cncref23_Near_0 m_cncref23_most) := specOK_of rfl ⟨r_cncref23_most, trivial⟩
theorem r_cncref23_Near : RowOK Tryz.prog (172, spOf sig_cncref23_Near osig_cncref23_Near m_cncref23_Near) := row_of (C := (C_cncref23_Near_1 m_cncref23_most l_cncref23_Near_3)) (L := 64) (sig := sig_cncref23_Near) (osig := osig_cncref23_Near) (by kernel_rfl) ((FnOK.bare rfl rfl rfl).loop sp_cncref23_Near eqOk mixOk (by kernel_rfl) (by kernel_rfl)) sp_cncref23_Near eqOk mixOk (by kernel_rfl) (by kernel_rfl)
def sig_cncref24_Toward : Sk := { tmps := [TS.v true [CS.int .i64, CS.int .i64, CS.int .i64], TS.v true [CS.int .i64, CS.int .i64, CS.int .i64], TS.v false [CS.int .i64]], boxes := [], rows := [] }
def osig_cncref24_Toward : Sk := { tmps := [TS.tup [(true, [CS.int .i64, CS.int .i64, CS.int .i64]), (false, [CS.bool])]], boxes := [], rows := [] }
noncomputable def C_cncref24_Toward_0 (M_cncref23_Near M_cncref23_Square : List AC → Option (List AC)) : Cfg := { spec := lookS [(172, spOf sig_cncref23_Near osig_cncref23_Near M_cncref23_Near), (116, spOf sig_cncref23_Square osig_cncref23_Square M_cncref23_Square)], eqOk := eqAll, ownOff := ownOff, unroll := [6] }
noncomputable def mf_cncref24_Toward (M_cncref23_Near M_cncref23_Square : List AC → Option (List AC))  : List AC → Option (List AC) := modelF Tryz.prog (C_cncref24_Toward_0 M_cncref23_Near M_cncref23_Square) 64 154 sig_cncref24_Toward osig_cncref24_Toward
theorem mf_cncref24_Toward_eq (M_cncref23_Near M_cncref23_Square : List AC → Option (List AC))  (x0 x1 x2 x3 x4 x5 x6 : Int) : mf_cncref24_Toward M_cncref23_Near M_cncref23_Square  [I x0, I x1, I x2, I x3, I x4, I x5, I x6] =
 (M_cncref23_Square [I x3, I x4, I x5, I x0, I x1, I x2]).bind fun o4 =>
 bif intOf (nth .dead o4 0) == 0 then
 some [I 0, I 0, I 0, AC.bool false]
 else
 bif decide (x6 < 0) then
 some [I 0, I 0, I 0, AC.bool false]
 else
 bif decide (x6 > 33554432) then
 some [I 0, I 0, I 0, AC.bool false]
 else
 (M_cncref23_Near [I (IntKind.i64.wrap (x3 - x0)), I x6, I (intOf (nth .dead o4 0))]).bind fun o5 =>
 (M_cncref23_Near [I (IntKind.i64.wrap (x4 - x1)), I x6, I (intOf (nth .dead o4 0))]).bind fun o6 =>
 (M_cncref23_Near [I (IntKind.i64.wrap (x5 - x2)), I x6, I (intOf (nth .dead o4 0))]).bind fun o7 =>
 some [I (IntKind.i64.wrap (x0 + intOf (nth .dead o5 0))), I (IntKind.i64.wrap (x1 + intOf (nth .dead o6 0))), I (IntKind.i64.wrap (x2 + intOf (nth .dead o7 0))), AC.bool true] := by kernel_rfl
noncomputable def m_cncref24_Toward := mf_cncref24_Toward m_cncref23_Near m_cncref23_Square 
theorem sp_cncref24_Toward : SpecOK Tryz.prog (C_cncref24_Toward_0 m_cncref23_Near m_cncref23_Square) := specOK_of rfl ⟨r_cncref23_Near, r_cncref23_Square, trivial⟩
theorem r_cncref24_Toward : RowOK Tryz.prog (154, spOf sig_cncref24_Toward osig_cncref24_Toward m_cncref24_Toward) := row_of (C := (C_cncref24_Toward_0 m_cncref23_Near m_cncref23_Square)) (L := 64) (sig := sig_cncref24_Toward) (osig := osig_cncref24_Toward) (by kernel_rfl) (FnOK.bare rfl rfl rfl) sp_cncref24_Toward eqOk mixOk (by kernel_rfl) (by kernel_rfl)
def sig_cncref24_permitted : Sk := { tmps := [TS.v true [CS.int .i64, CS.int .i64, CS.int .i64], TS.v true [CS.int .i64, CS.int .i64, CS.int .i64], TS.v true [CS.int .i64, CS.int .i64, CS.int .i64], TS.v false [CS.int .i64], TS.v false [CS.int .i64]], boxes := [], rows := [] }
def osig_cncref24_permitted : Sk := { tmps := [TS.v false [CS.bool]], boxes := [], rows := [] }
noncomputable def C_cncref24_permitted_0 (M_cncref24_Bend M_cncref24_Toward M_cncref23_Length : List AC → Option (List AC)) : Cfg := { spec := lookS [(173, spOf sig_cncref24_Bend osig_cncref24_Bend M_cncref24_Bend), (154, spOf sig_cncref24_Toward osig_cncref24_Toward M_cncref24_Toward), (85, spOf sig_cncref23_Length osig_cncref23_Length M_cncref23_Length)], eqOk := eqAll, ownOff := ownOff }
noncomputable def mf_cncref24_permitted (M_cncref24_Bend M_cncref24_Toward M_cncref23_Length : List AC → Option (List AC))  : List AC → Option (List AC) := modelF Tryz.prog (C_cncref24_permitted_0 M_cncref24_Bend M_cncref24_Toward M_cncref23_Length) 64 171 sig_cncref24_permitted osig_cncref24_permitted
theorem mf_cncref24_permitted_eq (M_cncref24_Bend M_cncref24_Toward M_cncref23_Length : List AC → Option (List AC))  (x0 x1 x2 x3 x4 x5 x6 x7 x8 x9 x10 : Int) : mf_cncref24_permitted M_cncref24_Bend M_cncref24_Toward M_cncref23_Length  [I x0, I x1, I x2, I x3, I x4, I x5, I x6, I x7, I x8, I x9, I x10] =
 (M_cncref23_Length [I x0, I x1, I x2, I x3, I x4, I x5]).bind fun o5 =>
 (M_cncref23_Length [I x3, I x4, I x5, I x6, I x7, I x8]).bind fun o6 =>
 bif decide (x10 > IntKind.i64.wrap (mn (intOf (nth .dead o5 0)) (intOf (nth .dead o6 0)) - 2)) then
 some [AC.bool false]
 else
 (M_cncref24_Toward [I x3, I x4, I x5, I x0, I x1, I x2, I x10]).bind fun o7 =>
 (M_cncref24_Toward [I x3, I x4, I x5, I x6, I x7, I x8, I x10]).bind fun o8 =>
 (M_cncref24_Bend [I (intOf (nth .dead o7 0)), I (intOf (nth .dead o7 1)), I (intOf (nth .dead o7 2)), I x3, I x4, I x5, I (intOf (nth .dead o8 0)), I (intOf (nth .dead o8 1)), I (intOf (nth .dead o8 2))]).bind fun o9 =>
 some [AC.bool (decide (intOf (nth .dead o9 0) ≤ IntKind.i64.wrap (IntKind.i64.wrap (16 * x9) * x9)))] := by kernel_rfl
noncomputable def m_cncref24_permitted := mf_cncref24_permitted m_cncref24_Bend m_cncref24_Toward m_cncref23_Length 
theorem sp_cncref24_permitted : SpecOK Tryz.prog (C_cncref24_permitted_0 m_cncref24_Bend m_cncref24_Toward m_cncref23_Length) := specOK_of rfl ⟨r_cncref24_Bend, r_cncref24_Toward, r_cncref23_Length, trivial⟩
theorem r_cncref24_permitted : RowOK Tryz.prog (171, spOf sig_cncref24_permitted osig_cncref24_permitted m_cncref24_permitted) := row_of (C := (C_cncref24_permitted_0 m_cncref24_Bend m_cncref24_Toward m_cncref23_Length)) (L := 64) (sig := sig_cncref24_permitted) (osig := osig_cncref24_permitted) (by kernel_rfl) (FnOK.bare rfl rfl rfl) sp_cncref24_permitted eqOk mixOk (by kernel_rfl) (by kernel_rfl)
def sig_cncref24_Reach : Sk := { tmps := [TS.v true [CS.int .i64, CS.int .i64, CS.int .i64], TS.v true [CS.int .i64, CS.int .i64, CS.int .i64], TS.v true [CS.int .i64, CS.int .i64, CS.int .i64], TS.v false [CS.int .i64]], boxes := [], rows := [] }
def osig_cncref24_Reach : Sk := { tmps := [TS.v false [CS.int .i64]], boxes := [], rows := [] }
noncomputable def C_cncref24_Reach_0 (M_cncref24_permitted : List AC → Option (List AC)) : Cfg := { spec := lookS [(171, spOf sig_cncref24_permitted osig_cncref24_permitted M_cncref24_permitted)], eqOk := eqAll, ownOff := ownOff }
def sk_cncref24_Reach_5 : Sk := { tmps := [TS.dead, TS.dead, TS.dead, TS.v false [CS.int .i64], TS.v false [CS.ptr 4 0], TS.v false [CS.ptr 5 0], TS.v false [CS.ptr 6 0], TS.dead, TS.dead, TS.v false [CS.int .i64], TS.v false [CS.int .i64]] ++ dd 26, boxes := [(4, 25, [CS.int .i64, CS.int .i64, CS.int .i64]), (5, 25, [CS.int .i64, CS.int .i64, CS.int .i64]), (6, 25, [CS.int .i64, CS.int .i64, CS.int .i64])], rows := [] }
def ex_cncref24_Reach_5 : List (Ex × Sk) := [(Ex.exit 0, { tmps := [TS.dead, TS.dead, TS.dead, TS.dead, TS.dead, TS.dead, TS.dead, TS.dead, TS.dead, TS.v false [CS.int .i64]] ++ dd 27, boxes := [], rows := [] })]
noncomputable def st_cncref24_Reach_5 (M_cncref24_permitted : List AC → Option (List AC))  : List AC → Option (Nat × List AC) := stepL Tryz.prog (C_cncref24_Reach_0 M_cncref24_permitted) 64 5 (bodyOf Tryz.prog 153 5) sk_cncref24_Reach_5 ex_cncref24_Reach_5
noncomputable def C_cncref24_Reach_1 (M_cncref24_permitted : List AC → Option (List AC))  (N5 : List AC → Option (Nat × List AC)) : Cfg := (C_cncref24_Reach_0 M_cncref24_permitted).loop 5 sk_cncref24_Reach_5 ex_cncref24_Reach_5 N5
noncomputable def mf_cncref24_Reach (M_cncref24_permitted : List AC → Option (List AC))  (N5 : List AC → Option (Nat × List AC)) : List AC → Option (List AC) := modelF Tryz.prog (C_cncref24_Reach_1 M_cncref24_permitted N5) 64 153 sig_cncref24_Reach osig_cncref24_Reach
theorem st_cncref24_Reach_5_eq (M_cncref24_permitted : List AC → Option (List AC))  (v0 v1 v2 v3 v4 v5 v6 v7 v8 v9 v10 v11 : Int) : st_cncref24_Reach_5 M_cncref24_permitted  [I v0, I v1, I v2, I v3, I v4, I v5, I v6, I v7, I v8, I v9, I v10, I v11] =
 bif decide (v2 > 0) then
 (M_cncref24_permitted [I v3, I v4, I v5, I v6, I v7, I v8, I v9, I v10, I v11, I v0, I (IntKind.i64.wrap (v1 + v2))]).bind fun o2 =>
 bif boolOf (nth .dead o2 0) then
 some (0, [I v0, I (IntKind.i64.wrap (v1 + v2)), I (v2.fdiv (2 ^ min (Int.toNat 1) IntKind.i64.bits)), I v3, I v4, I v5, I v6, I v7, I v8, I v9, I v10, I v11])
 else
 some (0, [I v0, I v1, I (v2.fdiv (2 ^ min (Int.toNat 1) IntKind.i64.bits)), I v3, I v4, I v5, I v6, I v7, I v8, I v9, I v10, I v11])
 else
 some (1, [I v1]) := by kernel_rfl
theorem mf_cncref24_Reach_eq (M_cncref24_permitted : List AC → Option (List AC))  (N5 : List AC → Option (Nat × List AC)) (x0 x1 x2 x3 x4 x5 x6 x7 x8 x9 : Int) : mf_cncref24_Reach M_cncref24_permitted  N5 [I x0, I x1, I x2, I x3, I x4, I x5, I x6, I x7, I x8, I x9] =
 bif x0 == x3 && (x1 == x4 && (x2 == x5 && true)) then
 some [I 0]
 else
 bif x6 == x3 && (x7 == x4 && (x8 == x5 && true)) then
 some [I 0]
 else
 (N5 [I x9, I 0, I 16777216, I x0, I x1, I x2, I x3, I x4, I x5, I x6, I x7, I x8]).bind fun o3 =>
 bif o3.fst.beq 1 then
 bif decide (intOf (nth .dead o3.snd 0) < 16) then
 some [I 0]
 else
 some [I (intOf (nth .dead o3.snd 0))]
 else
 none := by kernel_rfl
noncomputable def l_cncref24_Reach_5 := loopC (st_cncref24_Reach_5 m_cncref24_permitted )
noncomputable def m_cncref24_Reach := mf_cncref24_Reach m_cncref24_permitted  l_cncref24_Reach_5
theorem sp_cncref24_Reach : SpecOK Tryz.prog (C_cncref24_Reach_0 m_cncref24_permitted) := specOK_of rfl ⟨r_cncref24_permitted, trivial⟩
theorem r_cncref24_Reach : RowOK Tryz.prog (153, spOf sig_cncref24_Reach osig_cncref24_Reach m_cncref24_Reach) := row_of (C := (C_cncref24_Reach_1 m_cncref24_permitted l_cncref24_Reach_5)) (L := 64) (sig := sig_cncref24_Reach) (osig := osig_cncref24_Reach) (by kernel_rfl) ((FnOK.bare rfl rfl rfl).loop sp_cncref24_Reach eqOk mixOk (by kernel_rfl) (by kernel_rfl)) sp_cncref24_Reach eqOk mixOk (by kernel_rfl) (by kernel_rfl)
def sig_cncref24_Corner : Sk := { tmps := [TS.v true [CS.int .i64, CS.int .i64, CS.int .i64], TS.v true [CS.int .i64, CS.int .i64, CS.int .i64], TS.v true [CS.int .i64, CS.int .i64, CS.int .i64], TS.v false [CS.int .i64]], boxes := [], rows := [] }
def osig_cncref24_Corner : Sk := { tmps := [TS.v false [CS.sl kPt]], boxes := [], rows := [] }
noncomputable def C_cncref24_Corner_0 (M_cncref24_Rounded M_cncref24_Pieces M_cncref24_Toward M_cncref24_Reach : List AC → Option (List AC)) : Cfg := { spec := lookS [(72, spOf sig_cncref24_Rounded osig_cncref24_Rounded M_cncref24_Rounded), (155, spOf sig_cncref24_Pieces osig_cncref24_Pieces M_cncref24_Pieces), (154, spOf sig_cncref24_Toward osig_cncref24_Toward M_cncref24_Toward), (153, spOf sig_cncref24_Reach osig_cncref24_Reach M_cncref24_Reach)], eqOk := eqAll, ownOff := ownOff, prom := fun b => bif Nat.beq b 9 then [(15, 25)] else [], unroll := [13] }
def sk_cncref24_Corner_9 : Sk := { tmps := [TS.dead, TS.dead, TS.dead, TS.dead, TS.dead, TS.v false [CS.ptr 5 0], TS.dead, TS.dead, TS.dead, TS.dead, TS.v false [CS.ptr 10 0], TS.dead, TS.v false [CS.ptr 12 0], TS.dead, TS.v false [CS.int .i64], TS.v false [CS.own 15 3], TS.v false [CS.int .i64]] ++ dd 80, boxes := [(5, 25, [CS.int .i64, CS.int .i64, CS.int .i64]), (10, 25, [CS.int .i64, CS.int .i64, CS.int .i64]), (12, 25, [CS.int .i64, CS.int .i64, CS.int .i64])], rows := [(15, 25, kPt)] }
def ex_cncref24_Corner_9 : List (Ex × Sk) := [(Ex.exit 0, { tmps := [TS.dead, TS.dead, TS.dead, TS.dead, TS.dead, TS.dead, TS.dead, TS.dead, TS.dead, TS.dead, TS.dead, TS.dead, TS.dead, TS.dead, TS.dead, TS.v false [CS.own 15 3]] ++ dd 81, boxes := [], rows := [(15, 25, kPt)] })]
noncomputable def st_cncref24_Corner_9 (M_cncref24_Rounded M_cncref24_Pieces M_cncref24_Toward M_cncref24_Reach : List AC → Option (List AC))  : List AC → Option (Nat × List AC) := stepL Tryz.prog (C_cncref24_Corner_0 M_cncref24_Rounded M_cncref24_Pieces M_cncref24_Toward M_cncref24_Reach) 64 9 (bodyOf Tryz.prog 135 9) sk_cncref24_Corner_9 ex_cncref24_Corner_9
noncomputable def C_cncref24_Corner_1 (M_cncref24_Rounded M_cncref24_Pieces M_cncref24_Toward M_cncref24_Reach : List AC → Option (List AC))  (N9 : List AC → Option (Nat × List AC)) : Cfg := (C_cncref24_Corner_0 M_cncref24_Rounded M_cncref24_Pieces M_cncref24_Toward M_cncref24_Reach).loop 9 sk_cncref24_Corner_9 ex_cncref24_Corner_9 N9
noncomputable def mf_cncref24_Corner (M_cncref24_Rounded M_cncref24_Pieces M_cncref24_Toward M_cncref24_Reach : List AC → Option (List AC))  (N9 : List AC → Option (Nat × List AC)) : List AC → Option (List AC) := modelF Tryz.prog (C_cncref24_Corner_1 M_cncref24_Rounded M_cncref24_Pieces M_cncref24_Toward M_cncref24_Reach N9) 64 135 sig_cncref24_Corner osig_cncref24_Corner
theorem st_cncref24_Corner_9_eq (M_cncref24_Rounded M_cncref24_Pieces M_cncref24_Toward M_cncref24_Reach : List AC → Option (List AC))  (v0 : List (List AC)) (v1 v2 v3 v4 v5 v6 v7 v8 v9 v10 v11 : Int) : st_cncref24_Corner_9 M_cncref24_Rounded M_cncref24_Pieces M_cncref24_Toward M_cncref24_Reach  [AC.view kPt v0, I v1, I v2, I v3, I v4, I v5, I v6, I v7, I v8, I v9, I v10, I v11] =
 bif decide (v2 ≤ v1) then
 (M_cncref24_Rounded [I (IntKind.i64.wrap (IntKind.i64.wrap (IntKind.i64.wrap (IntKind.i64.wrap (v1 - v2) * IntKind.i64.wrap (v1 - v2)) * IntKind.i64.wrap (v6 - v3)) + IntKind.i64.wrap (IntKind.i64.wrap (v2 * v2) * IntKind.i64.wrap (v9 - v3)))), I (IntKind.i64.wrap (v1 * v1))]).bind fun o19 =>
 (M_cncref24_Rounded [I (IntKind.i64.wrap (IntKind.i64.wrap (IntKind.i64.wrap (IntKind.i64.wrap (v1 - v2) * IntKind.i64.wrap (v1 - v2)) * IntKind.i64.wrap (v7 - v4)) + IntKind.i64.wrap (IntKind.i64.wrap (v2 * v2) * IntKind.i64.wrap (v10 - v4)))), I (IntKind.i64.wrap (v1 * v1))]).bind fun o20 =>
 (M_cncref24_Rounded [I (IntKind.i64.wrap (IntKind.i64.wrap (IntKind.i64.wrap (IntKind.i64.wrap (v1 - v2) * IntKind.i64.wrap (v1 - v2)) * IntKind.i64.wrap (v8 - v5)) + IntKind.i64.wrap (IntKind.i64.wrap (v2 * v2) * IntKind.i64.wrap (v11 - v5)))), I (IntKind.i64.wrap (v1 * v1))]).bind fun o21 =>
 bif ((v0 ++ [[I (IntKind.i64.wrap (v3 + intOf (nth .dead o19 0))), I (IntKind.i64.wrap (v4 + intOf (nth .dead o20 0))), I (IntKind.i64.wrap (v5 + intOf (nth .dead o21 0)))]]).length * 24).ble 140737488355328 then
 some (0, [AC.view kPt (v0 ++ [[I (IntKind.i64.wrap (v3 + intOf (nth .dead o19 0))), I (IntKind.i64.wrap (v4 + intOf (nth .dead o20 0))), I (IntKind.i64.wrap (v5 + intOf (nth .dead o21 0)))]]), I v1, I (IntKind.i64.wrap (v2 + 1)), I v3, I v4, I v5, I v6, I v7, I v8, I v9, I v10, I v11])
 else
 none
 else
 some (1, [AC.view kPt v0]) := by kernel_rfl
theorem mf_cncref24_Corner_eq (M_cncref24_Rounded M_cncref24_Pieces M_cncref24_Toward M_cncref24_Reach : List AC → Option (List AC))  (N9 : List AC → Option (Nat × List AC)) (x0 x1 x2 x3 x4 x5 x6 x7 x8 x9 : Int) : mf_cncref24_Corner M_cncref24_Rounded M_cncref24_Pieces M_cncref24_Toward M_cncref24_Reach  N9 [I x0, I x1, I x2, I x3, I x4, I x5, I x6, I x7, I x8, I x9] =
 (M_cncref24_Reach [I x0, I x1, I x2, I x3, I x4, I x5, I x6, I x7, I x8, I x9]).bind fun o22 =>
 bif intOf (nth .dead o22 0) == 0 then
 some [AC.view kPt [[I x3, I x4, I x5]]]
 else
 (M_cncref24_Toward [I x3, I x4, I x5, I x0, I x1, I x2, I (intOf (nth .dead o22 0))]).bind fun o23 =>
 (M_cncref24_Toward [I x3, I x4, I x5, I x6, I x7, I x8, I (intOf (nth .dead o22 0))]).bind fun o24 =>
 (M_cncref24_Pieces [I (intOf (nth .dead o23 0)), I (intOf (nth .dead o23 1)), I (intOf (nth .dead o23 2)), I x3, I x4, I x5, I (intOf (nth .dead o24 0)), I (intOf (nth .dead o24 1)), I (intOf (nth .dead o24 2))]).bind fun o25 =>
 (N9 [AC.view kPt [], I (intOf (nth .dead o25 0)), I 0, I x3, I x4, I x5, I (intOf (nth .dead o23 0)), I (intOf (nth .dead o23 1)), I (intOf (nth .dead o23 2)), I (intOf (nth .dead o24 0)), I (intOf (nth .dead o24 1)), I (intOf (nth .dead o24 2))]).bind fun o26 =>
 bif o26.fst.beq 1 then
 some [AC.view kPt (rowsOf (nth .dead o26.snd 0))]
 else
 none := by kernel_rfl
noncomputable def l_cncref24_Corner_9 := loopC (st_cncref24_Corner_9 m_cncref24_Rounded m_cncref24_Pieces m_cncref24_Toward m_cncref24_Reach )
noncomputable def m_cncref24_Corner := mf_cncref24_Corner m_cncref24_Rounded m_cncref24_Pieces m_cncref24_Toward m_cncref24_Reach  l_cncref24_Corner_9
theorem sp_cncref24_Corner : SpecOK Tryz.prog (C_cncref24_Corner_0 m_cncref24_Rounded m_cncref24_Pieces m_cncref24_Toward m_cncref24_Reach) := specOK_of rfl ⟨r_cncref24_Rounded, r_cncref24_Pieces, r_cncref24_Toward, r_cncref24_Reach, trivial⟩
theorem r_cncref24_Corner : RowOK Tryz.prog (135, spOf sig_cncref24_Corner osig_cncref24_Corner m_cncref24_Corner) := row_of (C := (C_cncref24_Corner_1 m_cncref24_Rounded m_cncref24_Pieces m_cncref24_Toward m_cncref24_Reach l_cncref24_Corner_9)) (L := 64) (sig := sig_cncref24_Corner) (osig := osig_cncref24_Corner) (by kernel_rfl) ((FnOK.bare rfl rfl rfl).loop sp_cncref24_Corner eqOk mixOk (by kernel_rfl) (by kernel_rfl)) sp_cncref24_Corner eqOk mixOk (by kernel_rfl) (by kernel_rfl)
def sig_cncref23_Fine : Sk := { tmps := [TS.v true [CS.int .i64, CS.int .i64, CS.int .i64]], boxes := [], rows := [] }
def osig_cncref23_Fine : Sk := { tmps := [TS.v true [CS.int .i64, CS.int .i64, CS.int .i64]], boxes := [], rows := [] }
noncomputable def C_cncref23_Fine_0  : Cfg := { spec := lookS [], eqOk := eqAll, ownOff := ownOff }
noncomputable def mf_cncref23_Fine   : List AC → Option (List AC) := modelF Tryz.prog C_cncref23_Fine_0 64 81 sig_cncref23_Fine osig_cncref23_Fine
theorem mf_cncref23_Fine_eq   (x0 x1 x2 : Int) : mf_cncref23_Fine   [I x0, I x1, I x2] =
 some [I (IntKind.i64.wrap (x0 * 16)), I (IntKind.i64.wrap (x1 * 16)), I (IntKind.i64.wrap (x2 * 16))] := by kernel_rfl
noncomputable def m_cncref23_Fine := mf_cncref23_Fine  
theorem sp_cncref23_Fine : SpecOK Tryz.prog (C_cncref23_Fine_0 ) := specOK_of rfl trivial
theorem r_cncref23_Fine : RowOK Tryz.prog (81, spOf sig_cncref23_Fine osig_cncref23_Fine m_cncref23_Fine) := row_of (C := C_cncref23_Fine_0) (L := 64) (sig := sig_cncref23_Fine) (osig := osig_cncref23_Fine) (by kernel_rfl) (FnOK.bare rfl rfl rfl) sp_cncref23_Fine eqOk mixOk (by kernel_rfl) (by kernel_rfl)
def sig_cncref25_joined : Sk := { tmps := [TS.v false [CS.sl kItm], TS.v false [CS.int .i64], TS.v false [CS.int .i64]], boxes := [], rows := [] }
def osig_cncref25_joined : Sk := { tmps := [TS.v false [CS.sl kPt]], boxes := [], rows := [] }
noncomputable def C_cncref25_joined_0 (M_cncref24_Corner M_cncref23_Fine M_cncref25_Center : List AC → Option (List AC)) : Cfg := { spec := lookS [(135, spOf sig_cncref24_Corner osig_cncref24_Corner M_cncref24_Corner), (81, spOf sig_cncref23_Fine osig_cncref23_Fine M_cncref23_Fine), (90, spOf sig_cncref25_Center osig_cncref25_Center M_cncref25_Center)], eqOk := eqAll, ownOff := ownOff }
noncomputable def mf_cncref25_joined (M_cncref24_Corner M_cncref23_Fine M_cncref25_Center : List AC → Option (List AC))  : List AC → Option (List AC) := modelF Tryz.prog (C_cncref25_joined_0 M_cncref24_Corner M_cncref23_Fine M_cncref25_Center) 64 115 sig_cncref25_joined osig_cncref25_joined
theorem mf_cncref25_joined_eq (M_cncref24_Corner M_cncref23_Fine M_cncref25_Center : List AC → Option (List AC))  (x0 : List (List AC)) (x1 x2 : Int) : mf_cncref25_joined M_cncref24_Corner M_cncref23_Fine M_cncref25_Center  [AC.view kItm x0, I x1, I x2] =
 bif decide (0 ≤ x1) && decide (x1 < (↑x0.length : Int)) then
 (M_cncref25_Center [I (intOf (nth .dead (nth [] x0 x1.toNat) 0)), I (intOf (nth .dead (nth [] x0 x1.toNat) 1)), I (intOf (nth .dead (nth [] x0 x1.toNat) 2)), I (intOf (nth .dead (nth [] x0 x1.toNat) 3)), I (intOf (nth .dead (nth [] x0 x1.toNat) 4)), I (intOf (nth .dead (nth [] x0 x1.toNat) 5)), I (intOf (nth .dead (nth [] x0 x1.toNat) 6)), I (intOf (nth .dead (nth [] x0 x1.toNat) 7)), I (intOf (nth .dead (nth [] x0 x1.toNat) 8)), I (intOf (nth .dead (nth [] x0 x1.toNat) 9)), I (intOf (nth .dead (nth [] x0 x1.toNat) 10)), I (intOf (nth .dead (nth [] x0 x1.toNat) 11)), I (intOf (nth .dead (nth [] x0 x1.toNat) 12)), AC.bool (boolOf (nth .dead (nth [] x0 x1.toNat) 13)), I (intOf (nth .dead (nth [] x0 x1.toNat) 14)), AC.bool (boolOf (nth .dead (nth [] x0 x1.toNat) 15)), I (intOf (nth .dead (nth [] x0 x1.toNat) 16)), I (intOf (nth .dead (nth [] x0 x1.toNat) 17)), I (intOf (nth .dead (nth [] x0 x1.toNat) 18)), I (intOf (nth .dead (nth [] x0 x1.toNat) 19)), I (intOf (nth .dead (nth [] x0 x1.toNat) 20)), AC.bool (boolOf (nth .dead (nth [] x0 x1.toNat) 21))]).bind fun o4 =>
 bif decide (0 ≤ x1) && decide (x1 < (↑x0.length : Int)) then
 (M_cncref23_Fine [I (intOf (nth .dead (nth [] x0 x1.toNat) 5)), I (intOf (nth .dead (nth [] x0 x1.toNat) 6)), I (intOf (nth .dead (nth [] x0 x1.toNat) 7))]).bind fun o5 =>
 bif decide (0 ≤ x2) && decide (x2 < (↑x0.length : Int)) then
 (M_cncref25_Center [I (intOf (nth .dead (nth [] x0 x2.toNat) 0)), I (intOf (nth .dead (nth [] x0 x2.toNat) 1)), I (intOf (nth .dead (nth [] x0 x2.toNat) 2)), I (intOf (nth .dead (nth [] x0 x2.toNat) 3)), I (intOf (nth .dead (nth [] x0 x2.toNat) 4)), I (intOf (nth .dead (nth [] x0 x2.toNat) 5)), I (intOf (nth .dead (nth [] x0 x2.toNat) 6)), I (intOf (nth .dead (nth [] x0 x2.toNat) 7)), I (intOf (nth .dead (nth [] x0 x2.toNat) 8)), I (intOf (nth .dead (nth [] x0 x2.toNat) 9)), I (intOf (nth .dead (nth [] x0 x2.toNat) 10)), I (intOf (nth .dead (nth [] x0 x2.toNat) 11)), I (intOf (nth .dead (nth [] x0 x2.toNat) 12)), AC.bool (boolOf (nth .dead (nth [] x0 x2.toNat) 13)), I (intOf (nth .dead (nth [] x0 x2.toNat) 14)), AC.bool (boolOf (nth .dead (nth [] x0 x2.toNat) 15)), I (intOf (nth .dead (nth [] x0 x2.toNat) 16)), I (intOf (nth .dead (nth [] x0 x2.toNat) 17)), I (intOf (nth .dead (nth [] x0 x2.toNat) 18)), I (intOf (nth .dead (nth [] x0 x2.toNat) 19)), I (intOf (nth .dead (nth [] x0 x2.toNat) 20)), AC.bool (boolOf (nth .dead (nth [] x0 x2.toNat) 21))]).bind fun o6 =>
 bif decide (0 ≤ x1) && decide (x1 < (↑x0.length : Int)) then
 (M_cncref24_Corner [I (intOf (nth .dead o4 0)), I (intOf (nth .dead o4 1)), I (intOf (nth .dead o4 2)), I (intOf (nth .dead o5 0)), I (intOf (nth .dead o5 1)), I (intOf (nth .dead o5 2)), I (intOf (nth .dead o6 0)), I (intOf (nth .dead o6 1)), I (intOf (nth .dead o6 2)), I (IntKind.i64.wrap (intOf (nth .dead (nth [] x0 x1.toNat) 18) * 16))]).bind fun o7 =>
 some [AC.view kPt (rowsOf (nth .dead o7 0))]
 else
 none
 else
 none
 else
 none
 else
 none := by kernel_rfl
noncomputable def m_cncref25_joined := mf_cncref25_joined m_cncref24_Corner m_cncref23_Fine m_cncref25_Center 
theorem sp_cncref25_joined : SpecOK Tryz.prog (C_cncref25_joined_0 m_cncref24_Corner m_cncref23_Fine m_cncref25_Center) := specOK_of rfl ⟨r_cncref24_Corner, r_cncref23_Fine, r_cncref25_Center, trivial⟩
theorem r_cncref25_joined : RowOK Tryz.prog (115, spOf sig_cncref25_joined osig_cncref25_joined m_cncref25_joined) := row_of (C := (C_cncref25_joined_0 m_cncref24_Corner m_cncref23_Fine m_cncref25_Center)) (L := 64) (sig := sig_cncref25_joined) (osig := osig_cncref25_joined) (by kernel_rfl) (FnOK.bare rfl rfl rfl) sp_cncref25_joined eqOk mixOk (by kernel_rfl) (by kernel_rfl)
def sig_cncref23_Space : Sk := { tmps := [TS.v false [CS.int .i64], TS.v false [CS.int .i64], TS.v false [CS.int .i64], TS.v false [CS.int .i64]], boxes := [], rows := [] }
def osig_cncref23_Space : Sk := { tmps := [TS.v true [CS.int .i64, CS.int .i64, CS.int .i64]], boxes := [], rows := [] }
noncomputable def C_cncref23_Space_0  : Cfg := { spec := lookS [], eqOk := eqAll, ownOff := ownOff }
noncomputable def mf_cncref23_Space   : List AC → Option (List AC) := modelF Tryz.prog C_cncref23_Space_0 64 125 sig_cncref23_Space osig_cncref23_Space
theorem mf_cncref23_Space_eq   (x0 x1 x2 x3 : Int) : mf_cncref23_Space   [I x0, I x1, I x2, I x3] =
 bif x3 == 17 then
 some [I x0, I x1, I x2]
 else
 bif x3 == 18 then
 some [I x1, I x2, I x0]
 else
 bif x3 == 19 then
 some [I x2, I x0, I x1]
 else
 some [I 0, I 0, I 0] := by kernel_rfl
noncomputable def m_cncref23_Space := mf_cncref23_Space  
theorem sp_cncref23_Space : SpecOK Tryz.prog (C_cncref23_Space_0 ) := specOK_of rfl trivial
theorem r_cncref23_Space : RowOK Tryz.prog (125, spOf sig_cncref23_Space osig_cncref23_Space m_cncref23_Space) := row_of (C := C_cncref23_Space_0) (L := 64) (sig := sig_cncref23_Space) (osig := osig_cncref23_Space) (by kernel_rfl) (FnOK.bare rfl rfl rfl) sp_cncref23_Space eqOk mixOk (by kernel_rfl) (by kernel_rfl)
def sig_cncref23_Plane : Sk := { tmps := [TS.v true [CS.int .i64, CS.int .i64, CS.int .i64], TS.v false [CS.int .i64]], boxes := [], rows := [] }
def osig_cncref23_Plane : Sk := { tmps := [TS.tup [(false, [CS.int .i64]), (false, [CS.int .i64]), (false, [CS.int .i64])]], boxes := [], rows := [] }
noncomputable def C_cncref23_Plane_0  : Cfg := { spec := lookS [], eqOk := eqAll, ownOff := ownOff }
noncomputable def mf_cncref23_Plane   : List AC → Option (List AC) := modelF Tryz.prog C_cncref23_Plane_0 64 123 sig_cncref23_Plane osig_cncref23_Plane
theorem mf_cncref23_Plane_eq   (x0 x1 x2 x3 : Int) : mf_cncref23_Plane   [I x0, I x1, I x2, I x3] =
 bif x3 == 17 then
 some [I x0, I x1, I x2]
 else
 bif x3 == 18 then
 some [I x2, I x0, I x1]
 else
 bif x3 == 19 then
 some [I x1, I x2, I x0]
 else
 some [I 0, I 0, I 0] := by kernel_rfl
noncomputable def m_cncref23_Plane := mf_cncref23_Plane  
theorem sp_cncref23_Plane : SpecOK Tryz.prog (C_cncref23_Plane_0 ) := specOK_of rfl trivial
theorem r_cncref23_Plane : RowOK Tryz.prog (123, spOf sig_cncref23_Plane osig_cncref23_Plane m_cncref23_Plane) := row_of (C := C_cncref23_Plane_0) (L := 64) (sig := sig_cncref23_Plane) (osig := osig_cncref23_Plane) (by kernel_rfl) (FnOK.bare rfl rfl rfl) sp_cncref23_Plane eqOk mixOk (by kernel_rfl) (by kernel_rfl)
def sig_cncref23_half : Sk := { tmps := [TS.v false [CS.int .i64], TS.v false [CS.int .i64]], boxes := [], rows := [] }
def osig_cncref23_half : Sk := { tmps := [TS.v false [CS.int .i64]], boxes := [], rows := [] }
noncomputable def C_cncref23_half_0  : Cfg := { spec := lookS [], eqOk := eqAll, ownOff := ownOff }
noncomputable def mf_cncref23_half   : List AC → Option (List AC) := modelF Tryz.prog C_cncref23_half_0 64 183 sig_cncref23_half osig_cncref23_half
theorem mf_cncref23_half_eq   (x0 x1 : Int) : mf_cncref23_half   [I x0, I x1] =
 some [I ((IntKind.i64.wrap (IntKind.i64.wrap (x0 + x1) + 1)).fdiv (2 ^ min (Int.toNat 1) IntKind.i64.bits))] := by kernel_rfl
noncomputable def m_cncref23_half := mf_cncref23_half  
theorem sp_cncref23_half : SpecOK Tryz.prog (C_cncref23_half_0 ) := specOK_of rfl trivial
theorem r_cncref23_half : RowOK Tryz.prog (183, spOf sig_cncref23_half osig_cncref23_half m_cncref23_half) := row_of (C := C_cncref23_half_0) (L := 64) (sig := sig_cncref23_half) (osig := osig_cncref23_half) (by kernel_rfl) (FnOK.bare rfl rfl rfl) sp_cncref23_half eqOk mixOk (by kernel_rfl) (by kernel_rfl)
def sig_cncref23_Cross : Sk := { tmps := [TS.v true [CS.int .i64, CS.int .i64, CS.int .i64, CS.int .i64], TS.v true [CS.int .i64, CS.int .i64, CS.int .i64, CS.int .i64]], boxes := [], rows := [] }
def osig_cncref23_Cross : Sk := { tmps := [TS.v false [CS.int .i64]], boxes := [], rows := [] }
noncomputable def C_cncref23_Cross_0  : Cfg := { spec := lookS [], eqOk := eqAll, ownOff := ownOff }
noncomputable def mf_cncref23_Cross   : List AC → Option (List AC) := modelF Tryz.prog C_cncref23_Cross_0 64 150 sig_cncref23_Cross osig_cncref23_Cross
theorem mf_cncref23_Cross_eq   (x0 x1 x2 x3 x4 x5 x6 x7 : Int) : mf_cncref23_Cross   [I x0, I x1, I x2, I x3, I x4, I x5, I x6, I x7] =
 some [I (IntKind.i64.wrap (IntKind.i64.wrap (x0 * x5) - IntKind.i64.wrap (x1 * x4)))] := by kernel_rfl
noncomputable def m_cncref23_Cross := mf_cncref23_Cross  
theorem sp_cncref23_Cross : SpecOK Tryz.prog (C_cncref23_Cross_0 ) := specOK_of rfl trivial
theorem r_cncref23_Cross : RowOK Tryz.prog (150, spOf sig_cncref23_Cross osig_cncref23_Cross m_cncref23_Cross) := row_of (C := C_cncref23_Cross_0) (L := 64) (sig := sig_cncref23_Cross) (osig := osig_cncref23_Cross) (by kernel_rfl) (FnOK.bare rfl rfl rfl) sp_cncref23_Cross eqOk mixOk (by kernel_rfl) (by kernel_rfl)
def sig_cncref23_Dot : Sk := { tmps := [TS.v true [CS.int .i64, CS.int .i64, CS.int .i64, CS.int .i64], TS.v true [CS.int .i64, CS.int .i64, CS.int .i64, CS.int .i64]], boxes := [], rows := [] }
def osig_cncref23_Dot : Sk := { tmps := [TS.v false [CS.int .i64]], boxes := [], rows := [] }
noncomputable def C_cncref23_Dot_0  : Cfg := { spec := lookS [], eqOk := eqAll, ownOff := ownOff }
noncomputable def mf_cncref23_Dot   : List AC → Option (List AC) := modelF Tryz.prog C_cncref23_Dot_0 64 148 sig_cncref23_Dot osig_cncref23_Dot
theorem mf_cncref23_Dot_eq   (x0 x1 x2 x3 x4 x5 x6 x7 : Int) : mf_cncref23_Dot   [I x0, I x1, I x2, I x3, I x4, I x5, I x6, I x7] =
 some [I (IntKind.i64.wrap (IntKind.i64.wrap (x0 * x4) + IntKind.i64.wrap (x1 * x5)))] := by kernel_rfl
noncomputable def m_cncref23_Dot := mf_cncref23_Dot  
theorem sp_cncref23_Dot : SpecOK Tryz.prog (C_cncref23_Dot_0 ) := specOK_of rfl trivial
theorem r_cncref23_Dot : RowOK Tryz.prog (148, spOf sig_cncref23_Dot osig_cncref23_Dot m_cncref23_Dot) := row_of (C := C_cncref23_Dot_0) (L := 64) (sig := sig_cncref23_Dot) (osig := osig_cncref23_Dot) (by kernel_rfl) (FnOK.bare rfl rfl rfl) sp_cncref23_Dot eqOk mixOk (by kernel_rfl) (by kernel_rfl)
def sig_cncref23_Middle : Sk := { tmps := [TS.v true [CS.int .i64, CS.int .i64, CS.int .i64, CS.int .i64], TS.v true [CS.int .i64, CS.int .i64, CS.int .i64, CS.int .i64], TS.v false [CS.int .i64], TS.v false [CS.bool]], boxes := [], rows := [] }
def osig_cncref23_Middle : Sk := { tmps := [TS.tup [(true, [CS.int .i64, CS.int .i64, CS.int .i64, CS.int .i64]), (false, [CS.bool])]], boxes := [], rows := [] }
noncomputable def C_cncref23_Middle_0 (M_cncref23_Near M_cncref23_half M_cncref23_Cross M_cncref23_Dot : List AC → Option (List AC)) : Cfg := { spec := lookS [(172, spOf sig_cncref23_Near osig_cncref23_Near M_cncref23_Near), (183, spOf sig_cncref23_half osig_cncref23_half M_cncref23_half), (150, spOf sig_cncref23_Cross osig_cncref23_Cross M_cncref23_Cross), (148, spOf sig_cncref23_Dot osig_cncref23_Dot M_cncref23_Dot)], eqOk := eqAll, ownOff := ownOff }
noncomputable def mf_cncref23_Middle (M_cncref23_Near M_cncref23_half M_cncref23_Cross M_cncref23_Dot : List AC → Option (List AC))  : List AC → Option (List AC) := modelF Tryz.prog (C_cncref23_Middle_0 M_cncref23_Near M_cncref23_half M_cncref23_Cross M_cncref23_Dot) 64 170 sig_cncref23_Middle osig_cncref23_Middle
theorem mf_cncref23_Middle_eq (M_cncref23_Near M_cncref23_half M_cncref23_Cross M_cncref23_Dot : List AC → Option (List AC))  (x0 x1 x2 x3 x4 x5 x6 x7 x8 : Int) (x9 : Bool) : mf_cncref23_Middle M_cncref23_Near M_cncref23_half M_cncref23_Cross M_cncref23_Dot  [I x0, I x1, I x2, I x3, I x4, I x5, I x6, I x7, I x8, AC.bool x9] =
 bif x8 != 1 then
 bif x8 != -1 then
 some [I 0, I 0, I 0, I 0, AC.bool false]
 else
 bif x9 then
 bif IntKind.i64.wrap (0 - x0) == 0 then
 bif IntKind.i64.wrap (0 - x1) == 0 then
 some [I 0, I 0, I 0, I 0, AC.bool false]
 else
 (M_cncref23_half [I x2, I x6]).bind fun o104 =>
 (M_cncref23_Near [I (IntKind.i64.wrap (0 - x0)), I (intOf (nth .dead o104 0)), I (IntKind.i64.wrap (IntKind.i64.wrap (IntKind.i64.wrap (0 - x0) * IntKind.i64.wrap (0 - x0)) + IntKind.i64.wrap (IntKind.i64.wrap (0 - x1) * IntKind.i64.wrap (0 - x1))))]).bind fun o105 =>
 (M_cncref23_Near [I (IntKind.i64.wrap (0 - x1)), I (intOf (nth .dead o104 0)), I (IntKind.i64.wrap (IntKind.i64.wrap (IntKind.i64.wrap (0 - x0) * IntKind.i64.wrap (0 - x0)) + IntKind.i64.wrap (IntKind.i64.wrap (0 - x1) * IntKind.i64.wrap (0 - x1))))]).bind fun o106 =>
 (M_cncref23_half [I x3, I x7]).bind fun o107 =>
 some [I (intOf (nth .dead o105 0)), I (intOf (nth .dead o106 0)), I (intOf (nth .dead o104 0)), I (intOf (nth .dead o107 0)), AC.bool true]
 else
 (M_cncref23_half [I x2, I x6]).bind fun o108 =>
 (M_cncref23_Near [I (IntKind.i64.wrap (0 - x0)), I (intOf (nth .dead o108 0)), I (IntKind.i64.wrap (IntKind.i64.wrap (IntKind.i64.wrap (0 - x0) * IntKind.i64.wrap (0 - x0)) + IntKind.i64.wrap (IntKind.i64.wrap (0 - x1) * IntKind.i64.wrap (0 - x1))))]).bind fun o109 =>
 (M_cncref23_Near [I (IntKind.i64.wrap (0 - x1)), I (intOf (nth .dead o108 0)), I (IntKind.i64.wrap (IntKind.i64.wrap (IntKind.i64.wrap (0 - x0) * IntKind.i64.wrap (0 - x0)) + IntKind.i64.wrap (IntKind.i64.wrap (0 - x1) * IntKind.i64.wrap (0 - x1))))]).bind fun o110 =>
 (M_cncref23_half [I x3, I x7]).bind fun o111 =>
 some [I (intOf (nth .dead o109 0)), I (intOf (nth .dead o110 0)), I (intOf (nth .dead o108 0)), I (intOf (nth .dead o111 0)), AC.bool true]
 else
 (M_cncref23_Dot [I x0, I x1, I x2, I x3, I x4, I x5, I x6, I x7]).bind fun o112 =>
 bif decide (intOf (nth .dead o112 0) > 0) then
 (M_cncref23_Cross [I x0, I x1, I x2, I x3, I x4, I x5, I x6, I x7]).bind fun o113 =>
 bif decide (IntKind.i64.wrap (intOf (nth .dead o113 0) * x8) > 0) then
 bif IntKind.i64.wrap (x0 + x4) == 0 then
 bif IntKind.i64.wrap (x1 + x5) == 0 then
 some [I 0, I 0, I 0, I 0, AC.bool false]
 else
 (M_cncref23_half [I x2, I x6]).bind fun o114 =>
 (M_cncref23_Near [I (IntKind.i64.wrap (x0 + x4)), I (intOf (nth .dead o114 0)), I (IntKind.i64.wrap (IntKind.i64.wrap (IntKind.i64.wrap (x0 + x4) * IntKind.i64.wrap (x0 + x4)) + IntKind.i64.wrap (IntKind.i64.wrap (x1 + x5) * IntKind.i64.wrap (x1 + x5))))]).bind fun o115 =>
 (M_cncref23_Near [I (IntKind.i64.wrap (x1 + x5)), I (intOf (nth .dead o114 0)), I (IntKind.i64.wrap (IntKind.i64.wrap (IntKind.i64.wrap (x0 + x4) * IntKind.i64.wrap (x0 + x4)) + IntKind.i64.wrap (IntKind.i64.wrap (x1 + x5) * IntKind.i64.wrap (x1 + x5))))]).bind fun o116 =>
 (M_cncref23_half [I x3, I x7]).bind fun o117 =>
 some [I (intOf (nth .dead o115 0)), I (intOf (nth .dead o116 0)), I (intOf (nth .dead o114 0)), I (intOf (nth .dead o117 0)), AC.bool true]
 else
 (M_cncref23_half [I x2, I x6]).bind fun o118 =>
 (M_cncref23_Near [I (IntKind.i64.wrap (x0 + x4)), I (intOf (nth .dead o118 0)), I (IntKind.i64.wrap (IntKind.i64.wrap (IntKind.i64.wrap (x0 + x4) * IntKind.i64.wrap (x0 + x4)) + IntKind.i64.wrap (IntKind.i64.wrap (x1 + x5) * IntKind.i64.wrap (x1 + x5))))]).bind fun o119 =>
 (M_cncref23_Near [I (IntKind.i64.wrap (x1 + x5)), I (intOf (nth .dead o118 0)), I (IntKind.i64.wrap (IntKind.i64.wrap (IntKind.i64.wrap (x0 + x4) * IntKind.i64.wrap (x0 + x4)) + IntKind.i64.wrap (IntKind.i64.wrap (x1 + x5) * IntKind.i64.wrap (x1 + x5))))]).bind fun o120 =>
 (M_cncref23_half [I x3, I x7]).bind fun o121 =>
 some [I (intOf (nth .dead o119 0)), I (intOf (nth .dead o120 0)), I (intOf (nth .dead o118 0)), I (intOf (nth .dead o121 0)), AC.bool true]
 else
 (M_cncref23_Dot [I x0, I x1, I x2, I x3, I x4, I x5, I x6, I x7]).bind fun o122 =>
 bif decide (intOf (nth .dead o122 0) > 0) then
 bif IntKind.i64.wrap (0 - IntKind.i64.wrap (x0 + x4)) == 0 then
 bif IntKind.i64.wrap (0 - IntKind.i64.wrap (x1 + x5)) == 0 then
 some [I 0, I 0, I 0, I 0, AC.bool false]
 else
 (M_cncref23_half [I x2, I x6]).bind fun o123 =>
 (M_cncref23_Near [I (IntKind.i64.wrap (0 - IntKind.i64.wrap (x0 + x4))), I (intOf (nth .dead o123 0)), I (IntKind.i64.wrap (IntKind.i64.wrap (IntKind.i64.wrap (0 - IntKind.i64.wrap (x0 + x4)) * IntKind.i64.wrap (0 - IntKind.i64.wrap (x0 + x4))) + IntKind.i64.wrap (IntKind.i64.wrap (0 - IntKind.i64.wrap (x1 + x5)) * IntKind.i64.wrap (0 - IntKind.i64.wrap (x1 + x5)))))]).bind fun o124 =>
 (M_cncref23_Near [I (IntKind.i64.wrap (0 - IntKind.i64.wrap (x1 + x5))), I (intOf (nth .dead o123 0)), I (IntKind.i64.wrap (IntKind.i64.wrap (IntKind.i64.wrap (0 - IntKind.i64.wrap (x0 + x4)) * IntKind.i64.wrap (0 - IntKind.i64.wrap (x0 + x4))) + IntKind.i64.wrap (IntKind.i64.wrap (0 - IntKind.i64.wrap (x1 + x5)) * IntKind.i64.wrap (0 - IntKind.i64.wrap (x1 + x5)))))]).bind fun o125 =>
 (M_cncref23_half [I x3, I x7]).bind fun o126 =>
 some [I (intOf (nth .dead o124 0)), I (intOf (nth .dead o125 0)), I (intOf (nth .dead o123 0)), I (intOf (nth .dead o126 0)), AC.bool true]
 else
 (M_cncref23_half [I x2, I x6]).bind fun o127 =>
 (M_cncref23_Near [I (IntKind.i64.wrap (0 - IntKind.i64.wrap (x0 + x4))), I (intOf (nth .dead o127 0)), I (IntKind.i64.wrap (IntKind.i64.wrap (IntKind.i64.wrap (0 - IntKind.i64.wrap (x0 + x4)) * IntKind.i64.wrap (0 - IntKind.i64.wrap (x0 + x4))) + IntKind.i64.wrap (IntKind.i64.wrap (0 - IntKind.i64.wrap (x1 + x5)) * IntKind.i64.wrap (0 - IntKind.i64.wrap (x1 + x5)))))]).bind fun o128 =>
 (M_cncref23_Near [I (IntKind.i64.wrap (0 - IntKind.i64.wrap (x1 + x5))), I (intOf (nth .dead o127 0)), I (IntKind.i64.wrap (IntKind.i64.wrap (IntKind.i64.wrap (0 - IntKind.i64.wrap (x0 + x4)) * IntKind.i64.wrap (0 - IntKind.i64.wrap (x0 + x4))) + IntKind.i64.wrap (IntKind.i64.wrap (0 - IntKind.i64.wrap (x1 + x5)) * IntKind.i64.wrap (0 - IntKind.i64.wrap (x1 + x5)))))]).bind fun o129 =>
 (M_cncref23_half [I x3, I x7]).bind fun o130 =>
 some [I (intOf (nth .dead o128 0)), I (intOf (nth .dead o129 0)), I (intOf (nth .dead o127 0)), I (intOf (nth .dead o130 0)), AC.bool true]
 else
 bif IntKind.i64.wrap (x8 * IntKind.i64.wrap (x5 - x1)) == 0 then
 bif IntKind.i64.wrap (x8 * IntKind.i64.wrap (x0 - x4)) == 0 then
 some [I 0, I 0, I 0, I 0, AC.bool false]
 else
 (M_cncref23_half [I x2, I x6]).bind fun o131 =>
 (M_cncref23_Near [I (IntKind.i64.wrap (x8 * IntKind.i64.wrap (x5 - x1))), I (intOf (nth .dead o131 0)), I (IntKind.i64.wrap (IntKind.i64.wrap (IntKind.i64.wrap (x8 * IntKind.i64.wrap (x5 - x1)) * IntKind.i64.wrap (x8 * IntKind.i64.wrap (x5 - x1))) + IntKind.i64.wrap (IntKind.i64.wrap (x8 * IntKind.i64.wrap (x0 - x4)) * IntKind.i64.wrap (x8 * IntKind.i64.wrap (x0 - x4)))))]).bind fun o132 =>
 (M_cncref23_Near [I (IntKind.i64.wrap (x8 * IntKind.i64.wrap (x0 - x4))), I (intOf (nth .dead o131 0)), I (IntKind.i64.wrap (IntKind.i64.wrap (IntKind.i64.wrap (x8 * IntKind.i64.wrap (x5 - x1)) * IntKind.i64.wrap (x8 * IntKind.i64.wrap (x5 - x1))) + IntKind.i64.wrap (IntKind.i64.wrap (x8 * IntKind.i64.wrap (x0 - x4)) * IntKind.i64.wrap (x8 * IntKind.i64.wrap (x0 - x4)))))]).bind fun o133 =>
 (M_cncref23_half [I x3, I x7]).bind fun o134 =>
 some [I (intOf (nth .dead o132 0)), I (intOf (nth .dead o133 0)), I (intOf (nth .dead o131 0)), I (intOf (nth .dead o134 0)), AC.bool true]
 else
 (M_cncref23_half [I x2, I x6]).bind fun o135 =>
 (M_cncref23_Near [I (IntKind.i64.wrap (x8 * IntKind.i64.wrap (x5 - x1))), I (intOf (nth .dead o135 0)), I (IntKind.i64.wrap (IntKind.i64.wrap (IntKind.i64.wrap (x8 * IntKind.i64.wrap (x5 - x1)) * IntKind.i64.wrap (x8 * IntKind.i64.wrap (x5 - x1))) + IntKind.i64.wrap (IntKind.i64.wrap (x8 * IntKind.i64.wrap (x0 - x4)) * IntKind.i64.wrap (x8 * IntKind.i64.wrap (x0 - x4)))))]).bind fun o136 =>
 (M_cncref23_Near [I (IntKind.i64.wrap (x8 * IntKind.i64.wrap (x0 - x4))), I (intOf (nth .dead o135 0)), I (IntKind.i64.wrap (IntKind.i64.wrap (IntKind.i64.wrap (x8 * IntKind.i64.wrap (x5 - x1)) * IntKind.i64.wrap (x8 * IntKind.i64.wrap (x5 - x1))) + IntKind.i64.wrap (IntKind.i64.wrap (x8 * IntKind.i64.wrap (x0 - x4)) * IntKind.i64.wrap (x8 * IntKind.i64.wrap (x0 - x4)))))]).bind fun o137 =>
 (M_cncref23_half [I x3, I x7]).bind fun o138 =>
 some [I (intOf (nth .dead o136 0)), I (intOf (nth .dead o137 0)), I (intOf (nth .dead o135 0)), I (intOf (nth .dead o138 0)), AC.bool true]
 else
 (M_cncref23_Dot [I x0, I x1, I x2, I x3, I x4, I x5, I x6, I x7]).bind fun o139 =>
 bif decide (intOf (nth .dead o139 0) > 0) then
 bif IntKind.i64.wrap (0 - IntKind.i64.wrap (x0 + x4)) == 0 then
 bif IntKind.i64.wrap (0 - IntKind.i64.wrap (x1 + x5)) == 0 then
 some [I 0, I 0, I 0, I 0, AC.bool false]
 else
 (M_cncref23_half [I x2, I x6]).bind fun o140 =>
 (M_cncref23_Near [I (IntKind.i64.wrap (0 - IntKind.i64.wrap (x0 + x4))), I (intOf (nth .dead o140 0)), I (IntKind.i64.wrap (IntKind.i64.wrap (IntKind.i64.wrap (0 - IntKind.i64.wrap (x0 + x4)) * IntKind.i64.wrap (0 - IntKind.i64.wrap (x0 + x4))) + IntKind.i64.wrap (IntKind.i64.wrap (0 - IntKind.i64.wrap (x1 + x5)) * IntKind.i64.wrap (0 - IntKind.i64.wrap (x1 + x5)))))]).bind fun o141 =>
 (M_cncref23_Near [I (IntKind.i64.wrap (0 - IntKind.i64.wrap (x1 + x5))), I (intOf (nth .dead o140 0)), I (IntKind.i64.wrap (IntKind.i64.wrap (IntKind.i64.wrap (0 - IntKind.i64.wrap (x0 + x4)) * IntKind.i64.wrap (0 - IntKind.i64.wrap (x0 + x4))) + IntKind.i64.wrap (IntKind.i64.wrap (0 - IntKind.i64.wrap (x1 + x5)) * IntKind.i64.wrap (0 - IntKind.i64.wrap (x1 + x5)))))]).bind fun o142 =>
 (M_cncref23_half [I x3, I x7]).bind fun o143 =>
 some [I (intOf (nth .dead o141 0)), I (intOf (nth .dead o142 0)), I (intOf (nth .dead o140 0)), I (intOf (nth .dead o143 0)), AC.bool true]
 else
 (M_cncref23_half [I x2, I x6]).bind fun o144 =>
 (M_cncref23_Near [I (IntKind.i64.wrap (0 - IntKind.i64.wrap (x0 + x4))), I (intOf (nth .dead o144 0)), I (IntKind.i64.wrap (IntKind.i64.wrap (IntKind.i64.wrap (0 - IntKind.i64.wrap (x0 + x4)) * IntKind.i64.wrap (0 - IntKind.i64.wrap (x0 + x4))) + IntKind.i64.wrap (IntKind.i64.wrap (0 - IntKind.i64.wrap (x1 + x5)) * IntKind.i64.wrap (0 - IntKind.i64.wrap (x1 + x5)))))]).bind fun o145 =>
 (M_cncref23_Near [I (IntKind.i64.wrap (0 - IntKind.i64.wrap (x1 + x5))), I (intOf (nth .dead o144 0)), I (IntKind.i64.wrap (IntKind.i64.wrap (IntKind.i64.wrap (0 - IntKind.i64.wrap (x0 + x4)) * IntKind.i64.wrap (0 - IntKind.i64.wrap (x0 + x4))) + IntKind.i64.wrap (IntKind.i64.wrap (0 - IntKind.i64.wrap (x1 + x5)) * IntKind.i64.wrap (0 - IntKind.i64.wrap (x1 + x5)))))]).bind fun o146 =>
 (M_cncref23_half [I x3, I x7]).bind fun o147 =>
 some [I (intOf (nth .dead o145 0)), I (intOf (nth .dead o146 0)), I (intOf (nth .dead o144 0)), I (intOf (nth .dead o147 0)), AC.bool true]
 else
 bif IntKind.i64.wrap (x8 * IntKind.i64.wrap (x5 - x1)) == 0 then
 bif IntKind.i64.wrap (x8 * IntKind.i64.wrap (x0 - x4)) == 0 then
 some [I 0, I 0, I 0, I 0, AC.bool false]
 else
 (M_cncref23_half [I x2, I x6]).bind fun o148 =>
 (M_cncref23_Near [I (IntKind.i64.wrap (x8 * IntKind.i64.wrap (x5 - x1))), I (intOf (nth .dead o148 0)), I (IntKind.i64.wrap (IntKind.i64.wrap (IntKind.i64.wrap (x8 * IntKind.i64.wrap (x5 - x1)) * IntKind.i64.wrap (x8 * IntKind.i64.wrap (x5 - x1))) + IntKind.i64.wrap (IntKind.i64.wrap (x8 * IntKind.i64.wrap (x0 - x4)) * IntKind.i64.wrap (x8 * IntKind.i64.wrap (x0 - x4)))))]).bind fun o149 =>
 (M_cncref23_Near [I (IntKind.i64.wrap (x8 * IntKind.i64.wrap (x0 - x4))), I (intOf (nth .dead o148 0)), I (IntKind.i64.wrap (IntKind.i64.wrap (IntKind.i64.wrap (x8 * IntKind.i64.wrap (x5 - x1)) * IntKind.i64.wrap (x8 * IntKind.i64.wrap (x5 - x1))) + IntKind.i64.wrap (IntKind.i64.wrap (x8 * IntKind.i64.wrap (x0 - x4)) * IntKind.i64.wrap (x8 * IntKind.i64.wrap (x0 - x4)))))]).bind fun o150 =>
 (M_cncref23_half [I x3, I x7]).bind fun o151 =>
 some [I (intOf (nth .dead o149 0)), I (intOf (nth .dead o150 0)), I (intOf (nth .dead o148 0)), I (intOf (nth .dead o151 0)), AC.bool true]
 else
 (M_cncref23_half [I x2, I x6]).bind fun o152 =>
 (M_cncref23_Near [I (IntKind.i64.wrap (x8 * IntKind.i64.wrap (x5 - x1))), I (intOf (nth .dead o152 0)), I (IntKind.i64.wrap (IntKind.i64.wrap (IntKind.i64.wrap (x8 * IntKind.i64.wrap (x5 - x1)) * IntKind.i64.wrap (x8 * IntKind.i64.wrap (x5 - x1))) + IntKind.i64.wrap (IntKind.i64.wrap (x8 * IntKind.i64.wrap (x0 - x4)) * IntKind.i64.wrap (x8 * IntKind.i64.wrap (x0 - x4)))))]).bind fun o153 =>
 (M_cncref23_Near [I (IntKind.i64.wrap (x8 * IntKind.i64.wrap (x0 - x4))), I (intOf (nth .dead o152 0)), I (IntKind.i64.wrap (IntKind.i64.wrap (IntKind.i64.wrap (x8 * IntKind.i64.wrap (x5 - x1)) * IntKind.i64.wrap (x8 * IntKind.i64.wrap (x5 - x1))) + IntKind.i64.wrap (IntKind.i64.wrap (x8 * IntKind.i64.wrap (x0 - x4)) * IntKind.i64.wrap (x8 * IntKind.i64.wrap (x0 - x4)))))]).bind fun o154 =>
 (M_cncref23_half [I x3, I x7]).bind fun o155 =>
 some [I (intOf (nth .dead o153 0)), I (intOf (nth .dead o154 0)), I (intOf (nth .dead o152 0)), I (intOf (nth .dead o155 0)), AC.bool true]
 else
 bif x9 then
 bif IntKind.i64.wrap (0 - x0) == 0 then
 bif IntKind.i64.wrap (0 - x1) == 0 then
 some [I 0, I 0, I 0, I 0, AC.bool false]
 else
 (M_cncref23_half [I x2, I x6]).bind fun o156 =>
 (M_cncref23_Near [I (IntKind.i64.wrap (0 - x0)), I (intOf (nth .dead o156 0)), I (IntKind.i64.wrap (IntKind.i64.wrap (IntKind.i64.wrap (0 - x0) * IntKind.i64.wrap (0 - x0)) + IntKind.i64.wrap (IntKind.i64.wrap (0 - x1) * IntKind.i64.wrap (0 - x1))))]).bind fun o157 =>
 (M_cncref23_Near [I (IntKind.i64.wrap (0 - x1)), I (intOf (nth .dead o156 0)), I (IntKind.i64.wrap (IntKind.i64.wrap (IntKind.i64.wrap (0 - x0) * IntKind.i64.wrap (0 - x0)) + IntKind.i64.wrap (IntKind.i64.wrap (0 - x1) * IntKind.i64.wrap (0 - x1))))]).bind fun o158 =>
 (M_cncref23_half [I x3, I x7]).bind fun o159 =>
 some [I (intOf (nth .dead o157 0)), I (intOf (nth .dead o158 0)), I (intOf (nth .dead o156 0)), I (intOf (nth .dead o159 0)), AC.bool true]
 else
 (M_cncref23_half [I x2, I x6]).bind fun o160 =>
 (M_cncref23_Near [I (IntKind.i64.wrap (0 - x0)), I (intOf (nth .dead o160 0)), I (IntKind.i64.wrap (IntKind.i64.wrap (IntKind.i64.wrap (0 - x0) * IntKind.i64.wrap (0 - x0)) + IntKind.i64.wrap (IntKind.i64.wrap (0 - x1) * IntKind.i64.wrap (0 - x1))))]).bind fun o161 =>
 (M_cncref23_Near [I (IntKind.i64.wrap (0 - x1)), I (intOf (nth .dead o160 0)), I (IntKind.i64.wrap (IntKind.i64.wrap (IntKind.i64.wrap (0 - x0) * IntKind.i64.wrap (0 - x0)) + IntKind.i64.wrap (IntKind.i64.wrap (0 - x1) * IntKind.i64.wrap (0 - x1))))]).bind fun o162 =>
 (M_cncref23_half [I x3, I x7]).bind fun o163 =>
 some [I (intOf (nth .dead o161 0)), I (intOf (nth .dead o162 0)), I (intOf (nth .dead o160 0)), I (intOf (nth .dead o163 0)), AC.bool true]
 else
 (M_cncref23_Dot [I x0, I x1, I x2, I x3, I x4, I x5, I x6, I x7]).bind fun o164 =>
 bif decide (intOf (nth .dead o164 0) > 0) then
 (M_cncref23_Cross [I x0, I x1, I x2, I x3, I x4, I x5, I x6, I x7]).bind fun o165 =>
 bif decide (IntKind.i64.wrap (intOf (nth .dead o165 0) * x8) > 0) then
 bif IntKind.i64.wrap (x0 + x4) == 0 then
 bif IntKind.i64.wrap (x1 + x5) == 0 then
 some [I 0, I 0, I 0, I 0, AC.bool false]
 else
 (M_cncref23_half [I x2, I x6]).bind fun o166 =>
 (M_cncref23_Near [I (IntKind.i64.wrap (x0 + x4)), I (intOf (nth .dead o166 0)), I (IntKind.i64.wrap (IntKind.i64.wrap (IntKind.i64.wrap (x0 + x4) * IntKind.i64.wrap (x0 + x4)) + IntKind.i64.wrap (IntKind.i64.wrap (x1 + x5) * IntKind.i64.wrap (x1 + x5))))]).bind fun o167 =>
 (M_cncref23_Near [I (IntKind.i64.wrap (x1 + x5)), I (intOf (nth .dead o166 0)), I (IntKind.i64.wrap (IntKind.i64.wrap (IntKind.i64.wrap (x0 + x4) * IntKind.i64.wrap (x0 + x4)) + IntKind.i64.wrap (IntKind.i64.wrap (x1 + x5) * IntKind.i64.wrap (x1 + x5))))]).bind fun o168 =>
 (M_cncref23_half [I x3, I x7]).bind fun o169 =>
 some [I (intOf (nth .dead o167 0)), I (intOf (nth .dead o168 0)), I (intOf (nth .dead o166 0)), I (intOf (nth .dead o169 0)), AC.bool true]
 else
 (M_cncref23_half [I x2, I x6]).bind fun o170 =>
 (M_cncref23_Near [I (IntKind.i64.wrap (x0 + x4)), I (intOf (nth .dead o170 0)), I (IntKind.i64.wrap (IntKind.i64.wrap (IntKind.i64.wrap (x0 + x4) * IntKind.i64.wrap (x0 + x4)) + IntKind.i64.wrap (IntKind.i64.wrap (x1 + x5) * IntKind.i64.wrap (x1 + x5))))]).bind fun o171 =>
 (M_cncref23_Near [I (IntKind.i64.wrap (x1 + x5)), I (intOf (nth .dead o170 0)), I (IntKind.i64.wrap (IntKind.i64.wrap (IntKind.i64.wrap (x0 + x4) * IntKind.i64.wrap (x0 + x4)) + IntKind.i64.wrap (IntKind.i64.wrap (x1 + x5) * IntKind.i64.wrap (x1 + x5))))]).bind fun o172 =>
 (M_cncref23_half [I x3, I x7]).bind fun o173 =>
 some [I (intOf (nth .dead o171 0)), I (intOf (nth .dead o172 0)), I (intOf (nth .dead o170 0)), I (intOf (nth .dead o173 0)), AC.bool true]
 else
 (M_cncref23_Dot [I x0, I x1, I x2, I x3, I x4, I x5, I x6, I x7]).bind fun o174 =>
 bif decide (intOf (nth .dead o174 0) > 0) then
 bif IntKind.i64.wrap (0 - IntKind.i64.wrap (x0 + x4)) == 0 then
 bif IntKind.i64.wrap (0 - IntKind.i64.wrap (x1 + x5)) == 0 then
 some [I 0, I 0, I 0, I 0, AC.bool false]
 else
 (M_cncref23_half [I x2, I x6]).bind fun o175 =>
 (M_cncref23_Near [I (IntKind.i64.wrap (0 - IntKind.i64.wrap (x0 + x4))), I (intOf (nth .dead o175 0)), I (IntKind.i64.wrap (IntKind.i64.wrap (IntKind.i64.wrap (0 - IntKind.i64.wrap (x0 + x4)) * IntKind.i64.wrap (0 - IntKind.i64.wrap (x0 + x4))) + IntKind.i64.wrap (IntKind.i64.wrap (0 - IntKind.i64.wrap (x1 + x5)) * IntKind.i64.wrap (0 - IntKind.i64.wrap (x1 + x5)))))]).bind fun o176 =>
 (M_cncref23_Near [I (IntKind.i64.wrap (0 - IntKind.i64.wrap (x1 + x5))), I (intOf (nth .dead o175 0)), I (IntKind.i64.wrap (IntKind.i64.wrap (IntKind.i64.wrap (0 - IntKind.i64.wrap (x0 + x4)) * IntKind.i64.wrap (0 - IntKind.i64.wrap (x0 + x4))) + IntKind.i64.wrap (IntKind.i64.wrap (0 - IntKind.i64.wrap (x1 + x5)) * IntKind.i64.wrap (0 - IntKind.i64.wrap (x1 + x5)))))]).bind fun o177 =>
 (M_cncref23_half [I x3, I x7]).bind fun o178 =>
 some [I (intOf (nth .dead o176 0)), I (intOf (nth .dead o177 0)), I (intOf (nth .dead o175 0)), I (intOf (nth .dead o178 0)), AC.bool true]
 else
 (M_cncref23_half [I x2, I x6]).bind fun o179 =>
 (M_cncref23_Near [I (IntKind.i64.wrap (0 - IntKind.i64.wrap (x0 + x4))), I (intOf (nth .dead o179 0)), I (IntKind.i64.wrap (IntKind.i64.wrap (IntKind.i64.wrap (0 - IntKind.i64.wrap (x0 + x4)) * IntKind.i64.wrap (0 - IntKind.i64.wrap (x0 + x4))) + IntKind.i64.wrap (IntKind.i64.wrap (0 - IntKind.i64.wrap (x1 + x5)) * IntKind.i64.wrap (0 - IntKind.i64.wrap (x1 + x5)))))]).bind fun o180 =>
 (M_cncref23_Near [I (IntKind.i64.wrap (0 - IntKind.i64.wrap (x1 + x5))), I (intOf (nth .dead o179 0)), I (IntKind.i64.wrap (IntKind.i64.wrap (IntKind.i64.wrap (0 - IntKind.i64.wrap (x0 + x4)) * IntKind.i64.wrap (0 - IntKind.i64.wrap (x0 + x4))) + IntKind.i64.wrap (IntKind.i64.wrap (0 - IntKind.i64.wrap (x1 + x5)) * IntKind.i64.wrap (0 - IntKind.i64.wrap (x1 + x5)))))]).bind fun o181 =>
 (M_cncref23_half [I x3, I x7]).bind fun o182 =>
 some [I (intOf (nth .dead o180 0)), I (intOf (nth .dead o181 0)), I (intOf (nth .dead o179 0)), I (intOf (nth .dead o182 0)), AC.bool true]
 else
 bif IntKind.i64.wrap (x8 * IntKind.i64.wrap (x5 - x1)) == 0 then
 bif IntKind.i64.wrap (x8 * IntKind.i64.wrap (x0 - x4)) == 0 then
 some [I 0, I 0, I 0, I 0, AC.bool false]
 else
 (M_cncref23_half [I x2, I x6]).bind fun o183 =>
 (M_cncref23_Near [I (IntKind.i64.wrap (x8 * IntKind.i64.wrap (x5 - x1))), I (intOf (nth .dead o183 0)), I (IntKind.i64.wrap (IntKind.i64.wrap (IntKind.i64.wrap (x8 * IntKind.i64.wrap (x5 - x1)) * IntKind.i64.wrap (x8 * IntKind.i64.wrap (x5 - x1))) + IntKind.i64.wrap (IntKind.i64.wrap (x8 * IntKind.i64.wrap (x0 - x4)) * IntKind.i64.wrap (x8 * IntKind.i64.wrap (x0 - x4)))))]).bind fun o184 =>
 (M_cncref23_Near [I (IntKind.i64.wrap (x8 * IntKind.i64.wrap (x0 - x4))), I (intOf (nth .dead o183 0)), I (IntKind.i64.wrap (IntKind.i64.wrap (IntKind.i64.wrap (x8 * IntKind.i64.wrap (x5 - x1)) * IntKind.i64.wrap (x8 * IntKind.i64.wrap (x5 - x1))) + IntKind.i64.wrap (IntKind.i64.wrap (x8 * IntKind.i64.wrap (x0 - x4)) * IntKind.i64.wrap (x8 * IntKind.i64.wrap (x0 - x4)))))]).bind fun o185 =>
 (M_cncref23_half [I x3, I x7]).bind fun o186 =>
 some [I (intOf (nth .dead o184 0)), I (intOf (nth .dead o185 0)), I (intOf (nth .dead o183 0)), I (intOf (nth .dead o186 0)), AC.bool true]
 else
 (M_cncref23_half [I x2, I x6]).bind fun o187 =>
 (M_cncref23_Near [I (IntKind.i64.wrap (x8 * IntKind.i64.wrap (x5 - x1))), I (intOf (nth .dead o187 0)), I (IntKind.i64.wrap (IntKind.i64.wrap (IntKind.i64.wrap (x8 * IntKind.i64.wrap (x5 - x1)) * IntKind.i64.wrap (x8 * IntKind.i64.wrap (x5 - x1))) + IntKind.i64.wrap (IntKind.i64.wrap (x8 * IntKind.i64.wrap (x0 - x4)) * IntKind.i64.wrap (x8 * IntKind.i64.wrap (x0 - x4)))))]).bind fun o188 =>
 (M_cncref23_Near [I (IntKind.i64.wrap (x8 * IntKind.i64.wrap (x0 - x4))), I (intOf (nth .dead o187 0)), I (IntKind.i64.wrap (IntKind.i64.wrap (IntKind.i64.wrap (x8 * IntKind.i64.wrap (x5 - x1)) * IntKind.i64.wrap (x8 * IntKind.i64.wrap (x5 - x1))) + IntKind.i64.wrap (IntKind.i64.wrap (x8 * IntKind.i64.wrap (x0 - x4)) * IntKind.i64.wrap (x8 * IntKind.i64.wrap (x0 - x4)))))]).bind fun o189 =>
 (M_cncref23_half [I x3, I x7]).bind fun o190 =>
 some [I (intOf (nth .dead o188 0)), I (intOf (nth .dead o189 0)), I (intOf (nth .dead o187 0)), I (intOf (nth .dead o190 0)), AC.bool true]
 else
 (M_cncref23_Dot [I x0, I x1, I x2, I x3, I x4, I x5, I x6, I x7]).bind fun o191 =>
 bif decide (intOf (nth .dead o191 0) > 0) then
 bif IntKind.i64.wrap (0 - IntKind.i64.wrap (x0 + x4)) == 0 then
 bif IntKind.i64.wrap (0 - IntKind.i64.wrap (x1 + x5)) == 0 then
 some [I 0, I 0, I 0, I 0, AC.bool false]
 else
 (M_cncref23_half [I x2, I x6]).bind fun o192 =>
 (M_cncref23_Near [I (IntKind.i64.wrap (0 - IntKind.i64.wrap (x0 + x4))), I (intOf (nth .dead o192 0)), I (IntKind.i64.wrap (IntKind.i64.wrap (IntKind.i64.wrap (0 - IntKind.i64.wrap (x0 + x4)) * IntKind.i64.wrap (0 - IntKind.i64.wrap (x0 + x4))) + IntKind.i64.wrap (IntKind.i64.wrap (0 - IntKind.i64.wrap (x1 + x5)) * IntKind.i64.wrap (0 - IntKind.i64.wrap (x1 + x5)))))]).bind fun o193 =>
 (M_cncref23_Near [I (IntKind.i64.wrap (0 - IntKind.i64.wrap (x1 + x5))), I (intOf (nth .dead o192 0)), I (IntKind.i64.wrap (IntKind.i64.wrap (IntKind.i64.wrap (0 - IntKind.i64.wrap (x0 + x4)) * IntKind.i64.wrap (0 - IntKind.i64.wrap (x0 + x4))) + IntKind.i64.wrap (IntKind.i64.wrap (0 - IntKind.i64.wrap (x1 + x5)) * IntKind.i64.wrap (0 - IntKind.i64.wrap (x1 + x5)))))]).bind fun o194 =>
 (M_cncref23_half [I x3, I x7]).bind fun o195 =>
 some [I (intOf (nth .dead o193 0)), I (intOf (nth .dead o194 0)), I (intOf (nth .dead o192 0)), I (intOf (nth .dead o195 0)), AC.bool true]
 else
 (M_cncref23_half [I x2, I x6]).bind fun o196 =>
 (M_cncref23_Near [I (IntKind.i64.wrap (0 - IntKind.i64.wrap (x0 + x4))), I (intOf (nth .dead o196 0)), I (IntKind.i64.wrap (IntKind.i64.wrap (IntKind.i64.wrap (0 - IntKind.i64.wrap (x0 + x4)) * IntKind.i64.wrap (0 - IntKind.i64.wrap (x0 + x4))) + IntKind.i64.wrap (IntKind.i64.wrap (0 - IntKind.i64.wrap (x1 + x5)) * IntKind.i64.wrap (0 - IntKind.i64.wrap (x1 + x5)))))]).bind fun o197 =>
 (M_cncref23_Near [I (IntKind.i64.wrap (0 - IntKind.i64.wrap (x1 + x5))), I (intOf (nth .dead o196 0)), I (IntKind.i64.wrap (IntKind.i64.wrap (IntKind.i64.wrap (0 - IntKind.i64.wrap (x0 + x4)) * IntKind.i64.wrap (0 - IntKind.i64.wrap (x0 + x4))) + IntKind.i64.wrap (IntKind.i64.wrap (0 - IntKind.i64.wrap (x1 + x5)) * IntKind.i64.wrap (0 - IntKind.i64.wrap (x1 + x5)))))]).bind fun o198 =>
 (M_cncref23_half [I x3, I x7]).bind fun o199 =>
 some [I (intOf (nth .dead o197 0)), I (intOf (nth .dead o198 0)), I (intOf (nth .dead o196 0)), I (intOf (nth .dead o199 0)), AC.bool true]
 else
 bif IntKind.i64.wrap (x8 * IntKind.i64.wrap (x5 - x1)) == 0 then
 bif IntKind.i64.wrap (x8 * IntKind.i64.wrap (x0 - x4)) == 0 then
 some [I 0, I 0, I 0, I 0, AC.bool false]
 else
 (M_cncref23_half [I x2, I x6]).bind fun o200 =>
 (M_cncref23_Near [I (IntKind.i64.wrap (x8 * IntKind.i64.wrap (x5 - x1))), I (intOf (nth .dead o200 0)), I (IntKind.i64.wrap (IntKind.i64.wrap (IntKind.i64.wrap (x8 * IntKind.i64.wrap (x5 - x1)) * IntKind.i64.wrap (x8 * IntKind.i64.wrap (x5 - x1))) + IntKind.i64.wrap (IntKind.i64.wrap (x8 * IntKind.i64.wrap (x0 - x4)) * IntKind.i64.wrap (x8 * IntKind.i64.wrap (x0 - x4)))))]).bind fun o201 =>
 (M_cncref23_Near [I (IntKind.i64.wrap (x8 * IntKind.i64.wrap (x0 - x4))), I (intOf (nth .dead o200 0)), I (IntKind.i64.wrap (IntKind.i64.wrap (IntKind.i64.wrap (x8 * IntKind.i64.wrap (x5 - x1)) * IntKind.i64.wrap (x8 * IntKind.i64.wrap (x5 - x1))) + IntKind.i64.wrap (IntKind.i64.wrap (x8 * IntKind.i64.wrap (x0 - x4)) * IntKind.i64.wrap (x8 * IntKind.i64.wrap (x0 - x4)))))]).bind fun o202 =>
 (M_cncref23_half [I x3, I x7]).bind fun o203 =>
 some [I (intOf (nth .dead o201 0)), I (intOf (nth .dead o202 0)), I (intOf (nth .dead o200 0)), I (intOf (nth .dead o203 0)), AC.bool true]
 else
 (M_cncref23_half [I x2, I x6]).bind fun o204 =>
 (M_cncref23_Near [I (IntKind.i64.wrap (x8 * IntKind.i64.wrap (x5 - x1))), I (intOf (nth .dead o204 0)), I (IntKind.i64.wrap (IntKind.i64.wrap (IntKind.i64.wrap (x8 * IntKind.i64.wrap (x5 - x1)) * IntKind.i64.wrap (x8 * IntKind.i64.wrap (x5 - x1))) + IntKind.i64.wrap (IntKind.i64.wrap (x8 * IntKind.i64.wrap (x0 - x4)) * IntKind.i64.wrap (x8 * IntKind.i64.wrap (x0 - x4)))))]).bind fun o205 =>
 (M_cncref23_Near [I (IntKind.i64.wrap (x8 * IntKind.i64.wrap (x0 - x4))), I (intOf (nth .dead o204 0)), I (IntKind.i64.wrap (IntKind.i64.wrap (IntKind.i64.wrap (x8 * IntKind.i64.wrap (x5 - x1)) * IntKind.i64.wrap (x8 * IntKind.i64.wrap (x5 - x1))) + IntKind.i64.wrap (IntKind.i64.wrap (x8 * IntKind.i64.wrap (x0 - x4)) * IntKind.i64.wrap (x8 * IntKind.i64.wrap (x0 - x4)))))]).bind fun o206 =>
 (M_cncref23_half [I x3, I x7]).bind fun o207 =>
 some [I (intOf (nth .dead o205 0)), I (intOf (nth .dead o206 0)), I (intOf (nth .dead o204 0)), I (intOf (nth .dead o207 0)), AC.bool true] := by kernel_rfl
noncomputable def m_cncref23_Middle := mf_cncref23_Middle m_cncref23_Near m_cncref23_half m_cncref23_Cross m_cncref23_Dot 
theorem sp_cncref23_Middle : SpecOK Tryz.prog (C_cncref23_Middle_0 m_cncref23_Near m_cncref23_half m_cncref23_Cross m_cncref23_Dot) := specOK_of rfl ⟨r_cncref23_Near, r_cncref23_half, r_cncref23_Cross, r_cncref23_Dot, trivial⟩
theorem r_cncref23_Middle : RowOK Tryz.prog (170, spOf sig_cncref23_Middle osig_cncref23_Middle m_cncref23_Middle) := row_of (C := (C_cncref23_Middle_0 m_cncref23_Near m_cncref23_half m_cncref23_Cross m_cncref23_Dot)) (L := 64) (sig := sig_cncref23_Middle) (osig := osig_cncref23_Middle) (by kernel_rfl) (FnOK.bare rfl rfl rfl) sp_cncref23_Middle eqOk mixOk (by kernel_rfl) (by kernel_rfl)
def sig_cncref23_Flat : Sk := { tmps := [TS.v false [CS.int .i64], TS.v false [CS.int .i64]], boxes := [], rows := [] }
def osig_cncref23_Flat : Sk := { tmps := [TS.v false [CS.bool]], boxes := [], rows := [] }
noncomputable def C_cncref23_Flat_0  : Cfg := { spec := lookS [], eqOk := eqAll, ownOff := ownOff }
noncomputable def mf_cncref23_Flat   : List AC → Option (List AC) := modelF Tryz.prog C_cncref23_Flat_0 64 182 sig_cncref23_Flat osig_cncref23_Flat
theorem mf_cncref23_Flat_eq   (x0 x1 : Int) : mf_cncref23_Flat   [I x0, I x1] =
 some [AC.bool (decide (x1 ≤ IntKind.i64.wrap (IntKind.i64.wrap (IntKind.i64.wrap (8 * x0) * 4) - 64)))] := by kernel_rfl
noncomputable def m_cncref23_Flat := mf_cncref23_Flat  
theorem sp_cncref23_Flat : SpecOK Tryz.prog (C_cncref23_Flat_0 ) := specOK_of rfl trivial
theorem r_cncref23_Flat : RowOK Tryz.prog (182, spOf sig_cncref23_Flat osig_cncref23_Flat m_cncref23_Flat) := row_of (C := C_cncref23_Flat_0) (L := 64) (sig := sig_cncref23_Flat) (osig := osig_cncref23_Flat) (by kernel_rfl) (FnOK.bare rfl rfl rfl) sp_cncref23_Flat eqOk mixOk (by kernel_rfl) (by kernel_rfl)
def sig_cncref23_settled : Sk := { tmps := [TS.v true [CS.int .i64, CS.int .i64, CS.int .i64, CS.int .i64], TS.v true [CS.int .i64, CS.int .i64, CS.int .i64, CS.int .i64], TS.v false [CS.int .i64], TS.v false [CS.bool]], boxes := [], rows := [] }
def osig_cncref23_settled : Sk := { tmps := [TS.v false [CS.bool]], boxes := [], rows := [] }
noncomputable def C_cncref23_settled_0 (M_cncref23_Flat M_cncref23_Cross : List AC → Option (List AC)) : Cfg := { spec := lookS [(182, spOf sig_cncref23_Flat osig_cncref23_Flat M_cncref23_Flat), (150, spOf sig_cncref23_Cross osig_cncref23_Cross M_cncref23_Cross)], eqOk := eqAll, ownOff := ownOff }
noncomputable def mf_cncref23_settled (M_cncref23_Flat M_cncref23_Cross : List AC → Option (List AC))  : List AC → Option (List AC) := modelF Tryz.prog (C_cncref23_settled_0 M_cncref23_Flat M_cncref23_Cross) 64 169 sig_cncref23_settled osig_cncref23_settled
theorem mf_cncref23_settled_eq (M_cncref23_Flat M_cncref23_Cross : List AC → Option (List AC))  (x0 x1 x2 x3 x4 x5 x6 x7 x8 : Int) (x9 : Bool) : mf_cncref23_settled M_cncref23_Flat M_cncref23_Cross  [I x0, I x1, I x2, I x3, I x4, I x5, I x6, I x7, I x8, AC.bool x9] =
 bif !x9 then
 (M_cncref23_Cross [I x0, I x1, I x2, I x3, I x4, I x5, I x6, I x7]).bind fun o2 =>
 bif decide (IntKind.i64.wrap (intOf (nth .dead o2 0) * x8) > 0) then
 (M_cncref23_Flat [I (mn x2 x6), I (IntKind.i64.wrap (IntKind.i64.wrap (IntKind.i64.wrap (x0 - x4) * IntKind.i64.wrap (x0 - x4)) + IntKind.i64.wrap (IntKind.i64.wrap (x1 - x5) * IntKind.i64.wrap (x1 - x5))))]).bind fun o3 =>
 some [AC.bool (boolOf (nth .dead o3 0))]
 else
 some [AC.bool false]
 else
 some [AC.bool false] := by kernel_rfl
noncomputable def m_cncref23_settled := mf_cncref23_settled m_cncref23_Flat m_cncref23_Cross 
theorem sp_cncref23_settled : SpecOK Tryz.prog (C_cncref23_settled_0 m_cncref23_Flat m_cncref23_Cross) := specOK_of rfl ⟨r_cncref23_Flat, r_cncref23_Cross, trivial⟩
theorem r_cncref23_settled : RowOK Tryz.prog (169, spOf sig_cncref23_settled osig_cncref23_settled m_cncref23_settled) := row_of (C := (C_cncref23_settled_0 m_cncref23_Flat m_cncref23_Cross)) (L := 64) (sig := sig_cncref23_settled) (osig := osig_cncref23_settled) (by kernel_rfl) (FnOK.bare rfl rfl rfl) sp_cncref23_settled eqOk mixOk (by kernel_rfl) (by kernel_rfl)
def fuel_cncref23_pieces : Nat := 20
def sig_cncref23_pieces : Sk := { tmps := [TS.v true [CS.int .i64, CS.int .i64, CS.int .i64, CS.int .i64], TS.v true [CS.int .i64, CS.int .i64, CS.int .i64, CS.int .i64], TS.v false [CS.int .i64], TS.v false [CS.bool], TS.v false [CS.int .i64]], boxes := [], rows := [] }
def osig_cncref23_pieces : Sk := { tmps := [TS.v false [CS.own 103700 4]], boxes := [], rows := [(103700, 154, [kI, kI, kI, kI])] }
noncomputable def C_cncref23_pieces_0 (M_cncref23_pieces M_cncref23_Middle M_cncref23_settled : List AC → Option (List AC)) : Cfg := { spec := lookS [(152, spOf sig_cncref23_pieces osig_cncref23_pieces M_cncref23_pieces), (170, spOf sig_cncref23_Middle osig_cncref23_Middle M_cncref23_Middle), (169, spOf sig_cncref23_settled osig_cncref23_settled M_cncref23_settled)], eqOk := eqAll, pure := fun f => !(elemN [152] f), ownOff := ownOff, rowDst := [23], rowAs := fun d => bif Nat.beq d 23 then 103700 else d, ownRes := true }
noncomputable def mf_cncref23_pieces (M_cncref23_pieces M_cncref23_Middle M_cncref23_settled : List AC → Option (List AC))  : List AC → Option (List AC) := modelF Tryz.prog (C_cncref23_pieces_0 M_cncref23_pieces M_cncref23_Middle M_cncref23_settled) 64 152 sig_cncref23_pieces osig_cncref23_pieces
theorem mf_cncref23_pieces_eq (M_cncref23_pieces M_cncref23_Middle M_cncref23_settled : List AC → Option (List AC))  (x0 x1 x2 x3 x4 x5 x6 x7 x8 : Int) (x9 : Bool) (x10 : Int) : mf_cncref23_pieces M_cncref23_pieces M_cncref23_Middle M_cncref23_settled  [I x0, I x1, I x2, I x3, I x4, I x5, I x6, I x7, I x8, AC.bool x9, I x10] =
 bif decide (x10 ≥ 16) then
 some [AC.view [kI, kI, kI, kI] [[I x4, I x5, I x6, I x7]]]
 else
 (M_cncref23_settled [I x0, I x1, I x2, I x3, I x4, I x5, I x6, I x7, I x8, AC.bool x9]).bind fun o4 =>
 bif boolOf (nth .dead o4 0) then
 some [AC.view [kI, kI, kI, kI] [[I x4, I x5, I x6, I x7]]]
 else
 (M_cncref23_Middle [I x0, I x1, I x2, I x3, I x4, I x5, I x6, I x7, I x8, AC.bool x9]).bind fun o5 =>
 (M_cncref23_pieces [I x0, I x1, I x2, I x3, I (intOf (nth .dead o5 0)), I (intOf (nth .dead o5 1)), I (intOf (nth .dead o5 2)), I (intOf (nth .dead o5 3)), I x8, AC.bool false, I (IntKind.i64.wrap (x10 + 1))]).bind fun o6 =>
 (M_cncref23_pieces [I (intOf (nth .dead o5 0)), I (intOf (nth .dead o5 1)), I (intOf (nth .dead o5 2)), I (intOf (nth .dead o5 3)), I x4, I x5, I x6, I x7, I x8, AC.bool false, I (IntKind.i64.wrap (x10 + 1))]).bind fun o7 =>
 bif ((rowsOf (nth .dead o6 0) ++ rowsOf (nth .dead o7 0)).length * 32).ble 140737488355328 then
 some [AC.view [kI, kI, kI, kI] (rowsOf (nth .dead o6 0) ++ rowsOf (nth .dead o7 0))]
 else
 none := by kernel_rfl
noncomputable def mG_cncref23_pieces (M : List AC → Option (List AC)) : List AC → Option (List AC) := mf_cncref23_pieces M m_cncref23_Middle m_cncref23_settled 
noncomputable def mR_cncref23_pieces : Nat → List AC → Option (List AC)
 | 0 => fun _ => none
 | n + 1 => mG_cncref23_pieces (mR_cncref23_pieces n)
theorem sp_cncref23_pieces {M : List AC → Option (List AC)} (h : RowOK Tryz.prog (152, spOf sig_cncref23_pieces osig_cncref23_pieces M)) : SpecOK Tryz.prog (C_cncref23_pieces_0 M m_cncref23_Middle m_cncref23_settled) := specOK_of rfl ⟨h, r_cncref23_Middle, r_cncref23_settled, trivial⟩
theorem rG_cncref23_pieces {M : List AC → Option (List AC)} (h : RowOK Tryz.prog (152, spOf sig_cncref23_pieces osig_cncref23_pieces M)) : RowOK Tryz.prog (152, spOf sig_cncref23_pieces osig_cncref23_pieces (mG_cncref23_pieces M)) := row_of (C := (C_cncref23_pieces_0 M m_cncref23_Middle m_cncref23_settled)) (L := 64) (sig := sig_cncref23_pieces) (osig := osig_cncref23_pieces) (by kernel_rfl) (FnOK.bare rfl rfl rfl) (sp_cncref23_pieces h) eqOk mixOk (by kernel_rfl) (by kernel_rfl)
theorem rR_cncref23_pieces : ∀ n, RowOK Tryz.prog (152, spOf sig_cncref23_pieces osig_cncref23_pieces (mR_cncref23_pieces n))
 | 0 => row_none
 | n + 1 => rG_cncref23_pieces (rR_cncref23_pieces n)
noncomputable def m_cncref23_pieces := mR_cncref23_pieces fuel_cncref23_pieces
theorem r_cncref23_pieces : RowOK Tryz.prog (152, spOf sig_cncref23_pieces osig_cncref23_pieces m_cncref23_pieces) := rR_cncref23_pieces fuel_cncref23_pieces
def sig_cncref23_spoke : Sk := { tmps := [TS.v true [CS.int .i64, CS.int .i64, CS.int .i64, CS.int .i64]], boxes := [], rows := [] }
def osig_cncref23_spoke : Sk := { tmps := [TS.v true [CS.int .i64, CS.int .i64, CS.int .i64, CS.int .i64]], boxes := [], rows := [] }
noncomputable def C_cncref23_spoke_0 (M_cncref23_root M_cncref23_Dot : List AC → Option (List AC)) : Cfg := { spec := lookS [(117, spOf sig_cncref23_root osig_cncref23_root M_cncref23_root), (148, spOf sig_cncref23_Dot osig_cncref23_Dot M_cncref23_Dot)], eqOk := eqAll, ownOff := ownOff }
noncomputable def mf_cncref23_spoke (M_cncref23_root M_cncref23_Dot : List AC → Option (List AC))  : List AC → Option (List AC) := modelF Tryz.prog (C_cncref23_spoke_0 M_cncref23_root M_cncref23_Dot) 64 168 sig_cncref23_spoke osig_cncref23_spoke
theorem mf_cncref23_spoke_eq (M_cncref23_root M_cncref23_Dot : List AC → Option (List AC))  (x0 x1 x2 x3 : Int) : mf_cncref23_spoke M_cncref23_root M_cncref23_Dot  [I x0, I x1, I x2, I x3] =
 (M_cncref23_Dot [I (IntKind.i64.wrap (x0 * 16)), I (IntKind.i64.wrap (x1 * 16)), I 0, I (IntKind.i64.wrap (x3 * 16)), I (IntKind.i64.wrap (x0 * 16)), I (IntKind.i64.wrap (x1 * 16)), I 0, I (IntKind.i64.wrap (x3 * 16))]).bind fun o2 =>
 (M_cncref23_root [I (intOf (nth .dead o2 0))]).bind fun o3 =>
 bif decide (IntKind.i64.wrap (intOf (nth .dead o3 0) * IntKind.i64.wrap (intOf (nth .dead o3 0) + 1)) < intOf (nth .dead o2 0)) then
 some [I (IntKind.i64.wrap (x0 * 16)), I (IntKind.i64.wrap (x1 * 16)), I (IntKind.i64.wrap (intOf (nth .dead o3 0) + 1)), I (IntKind.i64.wrap (x3 * 16))]
 else
 some [I (IntKind.i64.wrap (x0 * 16)), I (IntKind.i64.wrap (x1 * 16)), I (intOf (nth .dead o3 0)), I (IntKind.i64.wrap (x3 * 16))] := by kernel_rfl
noncomputable def m_cncref23_spoke := mf_cncref23_spoke m_cncref23_root m_cncref23_Dot 
theorem sp_cncref23_spoke : SpecOK Tryz.prog (C_cncref23_spoke_0 m_cncref23_root m_cncref23_Dot) := specOK_of rfl ⟨r_cncref23_root, r_cncref23_Dot, trivial⟩
theorem r_cncref23_spoke : RowOK Tryz.prog (168, spOf sig_cncref23_spoke osig_cncref23_spoke m_cncref23_spoke) := row_of (C := (C_cncref23_spoke_0 m_cncref23_root m_cncref23_Dot)) (L := 64) (sig := sig_cncref23_spoke) (osig := osig_cncref23_spoke) (by kernel_rfl) (FnOK.bare rfl rfl rfl) sp_cncref23_spoke eqOk mixOk (by kernel_rfl) (by kernel_rfl)
def sig_cncref23_ends : Sk := { tmps := [TS.v true [CS.int .i64, CS.int .i64, CS.int .i64, CS.int .i64, CS.int .i64, CS.int .i64, CS.int .i64, CS.int .i64, CS.int .i64, CS.int .i64, CS.int .i64, CS.int .i64, CS.int .i64, CS.bool, CS.int .i64, CS.bool, CS.int .i64, CS.int .i64, CS.int .i64, CS.int .i64, CS.int .i64, CS.bool]], boxes := [], rows := [] }
def osig_cncref23_ends : Sk := { tmps := [TS.tup [(true, [CS.int .i64, CS.int .i64, CS.int .i64, CS.int .i64]), (true, [CS.int .i64, CS.int .i64, CS.int .i64, CS.int .i64])]], boxes := [], rows := [] }
noncomputable def C_cncref23_ends_0 (M_cncref23_Plane : List AC → Option (List AC)) : Cfg := { spec := lookS [(123, spOf sig_cncref23_Plane osig_cncref23_Plane M_cncref23_Plane)], eqOk := eqAll, ownOff := ownOff }
noncomputable def mf_cncref23_ends (M_cncref23_Plane : List AC → Option (List AC))  : List AC → Option (List AC) := modelF Tryz.prog (C_cncref23_ends_0 M_cncref23_Plane) 64 147 sig_cncref23_ends osig_cncref23_ends
theorem mf_cncref23_ends_eq (M_cncref23_Plane : List AC → Option (List AC))  (x0 x1 x2 x3 x4 x5 x6 x7 x8 x9 x10 x11 x12 : Int) (x13 : Bool) (x14 : Int) (x15 : Bool) (x16 x17 x18 x19 x20 : Int) (x21 : Bool) : mf_cncref23_ends M_cncref23_Plane  [I x0, I x1, I x2, I x3, I x4, I x5, I x6, I x7, I x8, I x9, I x10, I x11, I x12, AC.bool x13, I x14, AC.bool x15, I x16, I x17, I x18, I x19, I x20, AC.bool x21] =
 (M_cncref23_Plane [I x9, I x10, I x11, I x8]).bind fun o3 =>
 (M_cncref23_Plane [I x2, I x3, I x4, I x8]).bind fun o4 =>
 (M_cncref23_Plane [I x5, I x6, I x7, I x8]).bind fun o5 =>
 some [I (IntKind.i64.wrap (intOf (nth .dead o4 0) - intOf (nth .dead o3 0))), I (IntKind.i64.wrap (intOf (nth .dead o4 1) - intOf (nth .dead o3 1))), I 0, I (intOf (nth .dead o4 2)), I (IntKind.i64.wrap (intOf (nth .dead o5 0) - intOf (nth .dead o3 0))), I (IntKind.i64.wrap (intOf (nth .dead o5 1) - intOf (nth .dead o3 1))), I 0, I (intOf (nth .dead o5 2))] := by kernel_rfl
noncomputable def m_cncref23_ends := mf_cncref23_ends m_cncref23_Plane 
theorem sp_cncref23_ends : SpecOK Tryz.prog (C_cncref23_ends_0 m_cncref23_Plane) := specOK_of rfl ⟨r_cncref23_Plane, trivial⟩
theorem r_cncref23_ends : RowOK Tryz.prog (147, spOf sig_cncref23_ends osig_cncref23_ends m_cncref23_ends) := row_of (C := (C_cncref23_ends_0 m_cncref23_Plane)) (L := 64) (sig := sig_cncref23_ends) (osig := osig_cncref23_ends) (by kernel_rfl) (FnOK.bare rfl rfl rfl) sp_cncref23_ends eqOk mixOk (by kernel_rfl) (by kernel_rfl)
def sig_cncref23_Ends : Sk := { tmps := [TS.v true [CS.int .i64, CS.int .i64, CS.int .i64, CS.int .i64, CS.int .i64, CS.int .i64, CS.int .i64, CS.int .i64, CS.int .i64, CS.int .i64, CS.int .i64, CS.int .i64, CS.int .i64, CS.bool, CS.int .i64, CS.bool, CS.int .i64, CS.int .i64, CS.int .i64, CS.int .i64, CS.int .i64, CS.bool]], boxes := [], rows := [] }
def osig_cncref23_Ends : Sk := { tmps := [TS.tup [(true, [CS.int .i64, CS.int .i64, CS.int .i64, CS.int .i64]), (true, [CS.int .i64, CS.int .i64, CS.int .i64, CS.int .i64])]], boxes := [], rows := [] }
noncomputable def C_cncref23_Ends_0 (M_cncref23_spoke M_cncref23_ends : List AC → Option (List AC)) : Cfg := { spec := lookS [(168, spOf sig_cncref23_spoke osig_cncref23_spoke M_cncref23_spoke), (147, spOf sig_cncref23_ends osig_cncref23_ends M_cncref23_ends)], eqOk := eqAll, ownOff := ownOff }
noncomputable def mf_cncref23_Ends (M_cncref23_spoke M_cncref23_ends : List AC → Option (List AC))  : List AC → Option (List AC) := modelF Tryz.prog (C_cncref23_Ends_0 M_cncref23_spoke M_cncref23_ends) 64 151 sig_cncref23_Ends osig_cncref23_Ends
theorem mf_cncref23_Ends_eq (M_cncref23_spoke M_cncref23_ends : List AC → Option (List AC))  (x0 x1 x2 x3 x4 x5 x6 x7 x8 x9 x10 x11 x12 : Int) (x13 : Bool) (x14 : Int) (x15 : Bool) (x16 x17 x18 x19 x20 : Int) (x21 : Bool) : mf_cncref23_Ends M_cncref23_spoke M_cncref23_ends  [I x0, I x1, I x2, I x3, I x4, I x5, I x6, I x7, I x8, I x9, I x10, I x11, I x12, AC.bool x13, I x14, AC.bool x15, I x16, I x17, I x18, I x19, I x20, AC.bool x21] =
 (M_cncref23_ends [I x0, I x1, I x2, I x3, I x4, I x5, I x6, I x7, I x8, I x9, I x10, I x11, I x12, AC.bool x13, I x14, AC.bool x15, I x16, I x17, I x18, I x19, I x20, AC.bool x21]).bind fun o3 =>
 (M_cncref23_spoke [I (intOf (nth .dead o3 0)), I (intOf (nth .dead o3 1)), I (intOf (nth .dead o3 2)), I (intOf (nth .dead o3 3))]).bind fun o4 =>
 (M_cncref23_spoke [I (intOf (nth .dead o3 4)), I (intOf (nth .dead o3 5)), I (intOf (nth .dead o3 6)), I (intOf (nth .dead o3 7))]).bind fun o5 =>
 some [I (intOf (nth .dead o4 0)), I (intOf (nth .dead o4 1)), I (intOf (nth .dead o4 2)), I (intOf (nth .dead o4 3)), I (intOf (nth .dead o5 0)), I (intOf (nth .dead o5 1)), I (intOf (nth .dead o5 2)), I (intOf (nth .dead o5 3))] := by kernel_rfl
noncomputable def m_cncref23_Ends := mf_cncref23_Ends m_cncref23_spoke m_cncref23_ends 
theorem sp_cncref23_Ends : SpecOK Tryz.prog (C_cncref23_Ends_0 m_cncref23_spoke m_cncref23_ends) := specOK_of rfl ⟨r_cncref23_spoke, r_cncref23_ends, trivial⟩
theorem r_cncref23_Ends : RowOK Tryz.prog (151, spOf sig_cncref23_Ends osig_cncref23_Ends m_cncref23_Ends) := row_of (C := (C_cncref23_Ends_0 m_cncref23_spoke m_cncref23_ends)) (L := 64) (sig := sig_cncref23_Ends) (osig := osig_cncref23_Ends) (by kernel_rfl) (FnOK.bare rfl rfl rfl) sp_cncref23_Ends eqOk mixOk (by kernel_rfl) (by kernel_rfl)
def sig_cncref01_cmp : Sk := { tmps := [TS.v false [CS.sl [Kd.int .u64]], TS.v false [CS.sl [Kd.int .u64]]], boxes := [], rows := [] }
def osig_cncref01_cmp : Sk := { tmps := [TS.v false [CS.int .i64]], boxes := [], rows := [] }
noncomputable def C_cncref01_cmp_0  : Cfg := { spec := lookS [], eqOk := eqAll, ownOff := ownOff }
def sk_cncref01_cmp_6 : Sk := { tmps := [TS.v false [CS.sl [Kd.int .u64]], TS.v false [CS.sl [Kd.int .u64]], TS.dead, TS.dead, TS.dead, TS.v false [CS.int .i64]] ++ dd 35, boxes := [], rows := [] }
def ex_cncref01_cmp_6 : List (Ex × Sk) := [(Ex.ret, { tmps := [TS.dead, TS.dead, TS.dead, TS.dead, TS.v false [CS.int .i64]] ++ dd 36, boxes := [], rows := [] }), (Ex.exit 0, { tmps := [TS.dead] ++ dd 40, boxes := [], rows := [] })]
noncomputable def st_cncref01_cmp_6   : List AC → Option (Nat × List AC) := stepL Tryz.prog C_cncref01_cmp_0 64 6 (bodyOf Tryz.prog 166 6) sk_cncref01_cmp_6 ex_cncref01_cmp_6
noncomputable def C_cncref01_cmp_1   (N6 : List AC → Option (Nat × List AC)) : Cfg := C_cncref01_cmp_0.loop 6 sk_cncref01_cmp_6 ex_cncref01_cmp_6 N6
noncomputable def mf_cncref01_cmp   (N6 : List AC → Option (Nat × List AC)) : List AC → Option (List AC) := modelF Tryz.prog (C_cncref01_cmp_1  N6) 64 166 sig_cncref01_cmp osig_cncref01_cmp
theorem st_cncref01_cmp_6_eq   (v0 v1 : List (List AC)) (v2 : Int) : st_cncref01_cmp_6   [AC.view [Kd.int .u64] v0, AC.view [Kd.int .u64] v1, I v2] =
 bif decide (v2 ≥ 0) then
 bif decide (0 ≤ v2) && decide (v2 < (↑v0.length : Int)) then
 bif decide (0 ≤ v2) && decide (v2 < (↑v1.length : Int)) then
 bif decide (intOf (nth .dead (nth [] v0 v2.toNat) 0) < intOf (nth .dead (nth [] v1 v2.toNat) 0)) then
 some (1, [I (-1)])
 else
 bif decide (0 ≤ v2) && decide (v2 < (↑v0.length : Int)) then
 bif decide (0 ≤ v2) && decide (v2 < (↑v1.length : Int)) then
 bif decide (intOf (nth .dead (nth [] v0 v2.toNat) 0) > intOf (nth .dead (nth [] v1 v2.toNat) 0)) then
 some (1, [I 1])
 else
 some (0, [AC.view [Kd.int IntKind.u64] v0, AC.view [Kd.int IntKind.u64] v1, I (IntKind.i64.wrap (v2 - 1))])
 else
 none
 else
 none
 else
 none
 else
 none
 else
 some (2, []) := by kernel_rfl
theorem mf_cncref01_cmp_eq   (N6 : List AC → Option (Nat × List AC)) (x0 x1 : List (List AC)) : mf_cncref01_cmp   N6 [AC.view [Kd.int .u64] x0, AC.view [Kd.int .u64] x1] =
 bif (↑x0.length : Int) != (↑x1.length : Int) then
 bif decide ((↑x0.length : Int) < (↑x1.length : Int)) then
 some [I (-1)]
 else
 some [I 1]
 else
 (N6 [AC.view [Kd.int IntKind.u64] x0, AC.view [Kd.int IntKind.u64] x1, I (IntKind.i64.wrap ((↑x0.length : Int) - 1))]).bind fun o1 =>
 bif o1.fst.beq 1 then
 some [I (intOf (nth .dead o1.snd 0))]
 else
 bif o1.fst.beq 2 then
 some [I 0]
 else
 none := by kernel_rfl
noncomputable def l_cncref01_cmp_6 := loopC (st_cncref01_cmp_6  )
noncomputable def m_cncref01_cmp := mf_cncref01_cmp   l_cncref01_cmp_6
theorem sp_cncref01_cmp : SpecOK Tryz.prog (C_cncref01_cmp_0 ) := specOK_of rfl trivial
theorem r_cncref01_cmp : RowOK Tryz.prog (166, spOf sig_cncref01_cmp osig_cncref01_cmp m_cncref01_cmp) := row_of (C := (C_cncref01_cmp_1  l_cncref01_cmp_6)) (L := 64) (sig := sig_cncref01_cmp) (osig := osig_cncref01_cmp) (by kernel_rfl) ((FnOK.bare rfl rfl rfl).loop sp_cncref01_cmp eqOk mixOk (by kernel_rfl) (by kernel_rfl)) sp_cncref01_cmp eqOk mixOk (by kernel_rfl) (by kernel_rfl)
def sig_cncref01_cut : Sk := { tmps := [TS.v false [CS.sl [Kd.int .u64]]], boxes := [], rows := [] }
def osig_cncref01_cut : Sk := { tmps := [TS.v false [CS.sl [Kd.int .u64]]], boxes := [], rows := [] }
noncomputable def C_cncref01_cut_0  : Cfg := { spec := lookS [], eqOk := eqAll, ownOff := ownOff }
def sk_cncref01_cut_1 : Sk := { tmps := [TS.v false [CS.sl [Kd.int .u64]]] ++ dd 20, boxes := [], rows := [] }
def ex_cncref01_cut_1 : List (Ex × Sk) := [(Ex.exit 0, { tmps := [TS.v false [CS.sl [Kd.int .u64]]] ++ dd 20, boxes := [], rows := [] })]
noncomputable def st_cncref01_cut_1   : List AC → Option (Nat × List AC) := stepL Tryz.prog C_cncref01_cut_0 64 1 (bodyOf Tryz.prog 191 1) sk_cncref01_cut_1 ex_cncref01_cut_1
noncomputable def C_cncref01_cut_1   (N1 : List AC → Option (Nat × List AC)) : Cfg := C_cncref01_cut_0.loop 1 sk_cncref01_cut_1 ex_cncref01_cut_1 N1
noncomputable def mf_cncref01_cut   (N1 : List AC → Option (Nat × List AC)) : List AC → Option (List AC) := modelF Tryz.prog (C_cncref01_cut_1  N1) 64 191 sig_cncref01_cut osig_cncref01_cut
theorem st_cncref01_cut_1_eq   (v0 : List (List AC)) : st_cncref01_cut_1   [AC.view [Kd.int .u64] v0] =
 bif decide ((↑v0.length : Int) > 0) then
 bif decide (0 ≤ IntKind.i64.wrap ((↑v0.length : Int) - 1)) && decide (IntKind.i64.wrap ((↑v0.length : Int) - 1) < (↑v0.length : Int)) then
 bif intOf (nth .dead (nth [] v0 (IntKind.i64.wrap ((↑v0.length : Int) - 1)).toNat) 0) == 0 then
 bif decide (0 ≤ IntKind.i64.wrap ((↑v0.length : Int) - 1)) && decide (IntKind.i64.wrap ((↑v0.length : Int) - 1) ≤ (↑v0.length : Int)) then
 some (0, [AC.view [Kd.int IntKind.u64] (List.take (IntKind.i64.wrap ((↑v0.length : Int) - 1)).toNat v0)])
 else
 none
 else
 some (1, [AC.view [Kd.int IntKind.u64] v0])
 else
 none
 else
 some (1, [AC.view [Kd.int IntKind.u64] v0]) := by kernel_rfl
theorem mf_cncref01_cut_eq   (N1 : List AC → Option (Nat × List AC)) (x0 : List (List AC)) : mf_cncref01_cut   N1 [AC.view [Kd.int .u64] x0] =
 (N1 [AC.view [Kd.int IntKind.u64] x0]).bind fun o1 =>
 bif o1.fst.beq 1 then
 some [AC.view [Kd.int IntKind.u64] (rowsOf (nth .dead o1.snd 0))]
 else
 none := by kernel_rfl
noncomputable def l_cncref01_cut_1 := loopC (st_cncref01_cut_1  )
noncomputable def m_cncref01_cut := mf_cncref01_cut   l_cncref01_cut_1
theorem sp_cncref01_cut : SpecOK Tryz.prog (C_cncref01_cut_0 ) := specOK_of rfl trivial
theorem r_cncref01_cut : RowOK Tryz.prog (191, spOf sig_cncref01_cut osig_cncref01_cut m_cncref01_cut) := row_of (C := (C_cncref01_cut_1  l_cncref01_cut_1)) (L := 64) (sig := sig_cncref01_cut) (osig := osig_cncref01_cut) (by kernel_rfl) ((FnOK.bare rfl rfl rfl).loop sp_cncref01_cut eqOk mixOk (by kernel_rfl) (by kernel_rfl)) sp_cncref01_cut eqOk mixOk (by kernel_rfl) (by kernel_rfl)
def sig_cncref01_mul : Sk := { tmps := [TS.v false [CS.sl [Kd.int .u64]], TS.v false [CS.sl [Kd.int .u64]]], boxes := [], rows := [] }
def osig_cncref01_mul : Sk := { tmps := [TS.v false [CS.sl [Kd.int .u64]]], boxes := [], rows := [] }
noncomputable def C_cncref01_mul_0 (M_cncref01_cut : List AC → Option (List AC)) : Cfg := { spec := lookS [(191, spOf sig_cncref01_cut osig_cncref01_cut M_cncref01_cut)], eqOk := eqAll, ownOff := ownOff }
def sk_cncref01_mul_7 : Sk := { tmps := [TS.v false [CS.sl [Kd.int .u64]], TS.v false [CS.sl [Kd.int .u64]], TS.dead, TS.dead, TS.dead, TS.v false [CS.own 15 1], TS.v false [CS.int .i64], TS.v false [CS.int .u64], TS.v false [CS.int .i64]] ++ dd 63, boxes := [], rows := [(15, 123, [Kd.int .u64])] }
def ex_cncref01_mul_7 : List (Ex × Sk) := [(Ex.exit 2, { tmps := [TS.v false [CS.sl [Kd.int .u64]], TS.v false [CS.sl [Kd.int .u64]], TS.dead, TS.dead, TS.dead, TS.v false [CS.own 15 1], TS.v false [CS.int .i64], TS.v false [CS.int .u64]] ++ dd 64, boxes := [], rows := [(15, 123, [Kd.int .u64])] })]
noncomputable def st_cncref01_mul_7 (M_cncref01_cut : List AC → Option (List AC))  : List AC → Option (Nat × List AC) := stepL Tryz.prog (C_cncref01_mul_0 M_cncref01_cut) 64 7 (bodyOf Tryz.prog 179 7) sk_cncref01_mul_7 ex_cncref01_mul_7
noncomputable def C_cncref01_mul_1 (M_cncref01_cut : List AC → Option (List AC))  (N7 : List AC → Option (Nat × List AC)) : Cfg := (C_cncref01_mul_0 M_cncref01_cut).loop 7 sk_cncref01_mul_7 ex_cncref01_mul_7 N7
def sk_cncref01_mul_3 : Sk := { tmps := [TS.v false [CS.sl [Kd.int .u64]], TS.v false [CS.sl [Kd.int .u64]], TS.dead, TS.dead, TS.dead, TS.v false [CS.own 15 1], TS.v false [CS.int .i64]] ++ dd 65, boxes := [], rows := [(15, 123, [Kd.int .u64])] }
def ex_cncref01_mul_3 : List (Ex × Sk) := [(Ex.exit 0, { tmps := [TS.dead, TS.dead, TS.dead, TS.dead, TS.dead, TS.v false [CS.own 15 1]] ++ dd 66, boxes := [], rows := [(15, 123, [Kd.int .u64])] })]
noncomputable def st_cncref01_mul_3 (M_cncref01_cut : List AC → Option (List AC))  (N7 : List AC → Option (Nat × List AC)) : List AC → Option (Nat × List AC) := stepL Tryz.prog (C_cncref01_mul_1 M_cncref01_cut N7) 64 3 (bodyOf Tryz.prog 179 3) sk_cncref01_mul_3 ex_cncref01_mul_3
noncomputable def C_cncref01_mul_2 (M_cncref01_cut : List AC → Option (List AC))  (N7 N3 : List AC → Option (Nat × List AC)) : Cfg := (C_cncref01_mul_1 M_cncref01_cut N7).loop 3 sk_cncref01_mul_3 ex_cncref01_mul_3 N3
noncomputable def mf_cncref01_mul (M_cncref01_cut : List AC → Option (List AC))  (N7 N3 : List AC → Option (Nat × List AC)) : List AC → Option (List AC) := modelF Tryz.prog (C_cncref01_mul_2 M_cncref01_cut N7 N3) 64 179 sig_cncref01_mul osig_cncref01_mul
theorem st_cncref01_mul_7_eq (M_cncref01_cut : List AC → Option (List AC))  (v0 v1 v2 : List (List AC)) (v3 v4 v5 : Int) : st_cncref01_mul_7 M_cncref01_cut  [AC.view [Kd.int .u64] v0, AC.view [Kd.int .u64] v1, AC.view [Kd.int .u64] v2, I v3, AC.int .u64 v4, I v5] =
 bif decide (v5 < (↑v2.length : Int)) then
 bif decide (0 ≤ IntKind.i64.wrap (v3 + v5)) && decide (IntKind.i64.wrap (v3 + v5) < (↑v0.length : Int)) then
 bif decide (0 ≤ v3) && decide (v3 < (↑v1.length : Int)) then
 bif decide (0 ≤ v5) && decide (v5 < (↑v2.length : Int)) then
 bif decide (0 ≤ IntKind.i64.wrap (v3 + v5)) && decide (IntKind.i64.wrap (v3 + v5) < (↑v0.length : Int)) then
 some (0, [AC.view [Kd.int IntKind.u64] (v0.set (IntKind.i64.wrap (v3 + v5)).toNat [AC.int IntKind.u64 (IntKind.u64.wrap (↑(BitVec.ofInt IntKind.u64.bits (IntKind.u64.wrap (IntKind.u64.wrap (intOf (nth .dead (nth [] v0 (IntKind.i64.wrap (v3 + v5)).toNat) 0) + IntKind.u64.wrap (intOf (nth .dead (nth [] v1 v3.toNat) 0) * intOf (nth .dead (nth [] v2 v5.toNat) 0))) + v4)) &&& BitVec.ofInt IntKind.u64.bits 65535).toNat : Int))]), AC.view [Kd.int IntKind.u64] v1, AC.view [Kd.int IntKind.u64] v2, I v3, AC.int IntKind.u64 ((IntKind.u64.wrap (IntKind.u64.wrap (intOf (nth .dead (nth [] v0 (IntKind.i64.wrap (v3 + v5)).toNat) 0) + IntKind.u64.wrap (intOf (nth .dead (nth [] v1 v3.toNat) 0) * intOf (nth .dead (nth [] v2 v5.toNat) 0))) + v4)).fdiv (2 ^ min (Int.toNat 16) IntKind.u64.bits)), I (IntKind.i64.wrap (v5 + 1))])
 else
 none
 else
 none
 else
 none
 else
 none
 else
 some (1, [AC.view [Kd.int IntKind.u64] v0, AC.view [Kd.int IntKind.u64] v1, AC.view [Kd.int IntKind.u64] v2, I v3, AC.int IntKind.u64 v4]) := by kernel_rfl
theorem st_cncref01_mul_3_eq (M_cncref01_cut : List AC → Option (List AC))  (N7 : List AC → Option (Nat × List AC)) (v0 v1 v2 : List (List AC)) (v3 : Int) : st_cncref01_mul_3 M_cncref01_cut  N7 [AC.view [Kd.int .u64] v0, AC.view [Kd.int .u64] v1, AC.view [Kd.int .u64] v2, I v3] =
 bif decide (v3 < (↑v1.length : Int)) then
 (N7 [AC.view [Kd.int IntKind.u64] v0, AC.view [Kd.int IntKind.u64] v1, AC.view [Kd.int IntKind.u64] v2, I v3, AC.int IntKind.u64 0, I 0]).bind fun o3 =>
 bif o3.fst.beq 1 then
 bif decide (0 ≤ IntKind.i64.wrap (intOf (nth .dead o3.snd 3) + (↑(rowsOf (nth .dead o3.snd 2)).length : Int))) && decide (IntKind.i64.wrap (intOf (nth .dead o3.snd 3) + (↑(rowsOf (nth .dead o3.snd 2)).length : Int)) < (↑(rowsOf (nth .dead o3.snd 0)).length : Int)) then
 bif decide (0 ≤ IntKind.i64.wrap (intOf (nth .dead o3.snd 3) + (↑(rowsOf (nth .dead o3.snd 2)).length : Int))) && decide (IntKind.i64.wrap (intOf (nth .dead o3.snd 3) + (↑(rowsOf (nth .dead o3.snd 2)).length : Int)) < (↑(rowsOf (nth .dead o3.snd 0)).length : Int)) then
 some (0, [AC.view [Kd.int IntKind.u64] ((rowsOf (nth .dead o3.snd 0)).set (IntKind.i64.wrap (intOf (nth .dead o3.snd 3) + (↑(rowsOf (nth .dead o3.snd 2)).length : Int))).toNat [AC.int IntKind.u64 (IntKind.u64.wrap (intOf (nth .dead (nth [] (rowsOf (nth .dead o3.snd 0)) (IntKind.i64.wrap (intOf (nth .dead o3.snd 3) + (↑(rowsOf (nth .dead o3.snd 2)).length : Int))).toNat) 0) + intOf (nth .dead o3.snd 4)))]), AC.view [Kd.int IntKind.u64] (rowsOf (nth .dead o3.snd 1)), AC.view [Kd.int IntKind.u64] (rowsOf (nth .dead o3.snd 2)), I (IntKind.i64.wrap (intOf (nth .dead o3.snd 3) + 1))])
 else
 none
 else
 none
 else
 none
 else
 some (1, [AC.view [Kd.int IntKind.u64] v0]) := by kernel_rfl
theorem mf_cncref01_mul_eq (M_cncref01_cut : List AC → Option (List AC))  (N7 N3 : List AC → Option (Nat × List AC)) (x0 x1 : List (List AC)) : mf_cncref01_mul M_cncref01_cut  N7 N3 [AC.view [Kd.int .u64] x0, AC.view [Kd.int .u64] x1] =
 bif decide (IntKind.i64.wrap ((↑x0.length : Int) + (↑x1.length : Int)) = IntKind.i64.wrap ((↑x0.length : Int) + (↑x1.length : Int))) then
 bif decide (0 ≤ IntKind.i64.wrap ((↑x0.length : Int) + (↑x1.length : Int))) && decide (IntKind.i64.wrap ((↑x0.length : Int) + (↑x1.length : Int)) * (↑8 : Int) ≤ 140737488355328) then
 (N3 [AC.view [Kd.int IntKind.u64] (List.replicate (IntKind.i64.wrap ((↑x0.length : Int) + (↑x1.length : Int))).toNat [AC.int IntKind.u64 0]), AC.view [Kd.int IntKind.u64] x0, AC.view [Kd.int IntKind.u64] x1, I 0]).bind fun o4 =>
 bif o4.fst.beq 1 then
 (M_cncref01_cut [AC.view [Kd.int IntKind.u64] (rowsOf (nth .dead o4.snd 0))]).bind fun o5 =>
 some [AC.view [Kd.int IntKind.u64] (rowsOf (nth .dead o5 0))]
 else
 none
 else
 none
 else
 none := by kernel_rfl
noncomputable def l_cncref01_mul_7 := loopC (st_cncref01_mul_7 m_cncref01_cut )
noncomputable def l_cncref01_mul_3 := loopC (st_cncref01_mul_3 m_cncref01_cut  l_cncref01_mul_7)
noncomputable def m_cncref01_mul := mf_cncref01_mul m_cncref01_cut  l_cncref01_mul_7 l_cncref01_mul_3
theorem sp_cncref01_mul : SpecOK Tryz.prog (C_cncref01_mul_0 m_cncref01_cut) := specOK_of rfl ⟨r_cncref01_cut, trivial⟩
theorem r_cncref01_mul : RowOK Tryz.prog (179, spOf sig_cncref01_mul osig_cncref01_mul m_cncref01_mul) := row_of (C := (C_cncref01_mul_2 m_cncref01_cut l_cncref01_mul_7 l_cncref01_mul_3)) (L := 64) (sig := sig_cncref01_mul) (osig := osig_cncref01_mul) (by kernel_rfl) (((FnOK.bare rfl rfl rfl).loop sp_cncref01_mul eqOk mixOk (by kernel_rfl) (by kernel_rfl)).loop sp_cncref01_mul eqOk mixOk (by kernel_rfl) (by kernel_rfl)) sp_cncref01_mul eqOk mixOk (by kernel_rfl) (by kernel_rfl)
def sig_cncref01_limbs : Sk := { tmps := [TS.v false [CS.int .u64]], boxes := [], rows := [] }
def osig_cncref01_limbs : Sk := { tmps := [TS.v false [CS.sl [Kd.int .u64]]], boxes := [], rows := [] }
noncomputable def C_cncref01_limbs_0  : Cfg := { spec := lookS [], eqOk := eqAll, ownOff := ownOff, prom := fun b => bif Nat.beq b 2 then [(3, 123)] else [] }
def sk_cncref01_limbs_2 : Sk := { tmps := [TS.v false [CS.int .u64], TS.dead, TS.dead, TS.v false [CS.own 3 1]] ++ dd 10, boxes := [], rows := [(3, 123, [Kd.int .u64])] }
def ex_cncref01_limbs_2 : List (Ex × Sk) := [(Ex.exit 0, { tmps := [TS.dead, TS.dead, TS.dead, TS.v false [CS.own 3 1]] ++ dd 10, boxes := [], rows := [(3, 123, [Kd.int .u64])] })]
noncomputable def st_cncref01_limbs_2   : List AC → Option (Nat × List AC) := stepL Tryz.prog C_cncref01_limbs_0 64 2 (bodyOf Tryz.prog 180 2) sk_cncref01_limbs_2 ex_cncref01_limbs_2
noncomputable def C_cncref01_limbs_1   (N2 : List AC → Option (Nat × List AC)) : Cfg := C_cncref01_limbs_0.loop 2 sk_cncref01_limbs_2 ex_cncref01_limbs_2 N2
noncomputable def mf_cncref01_limbs   (N2 : List AC → Option (Nat × List AC)) : List AC → Option (List AC) := modelF Tryz.prog (C_cncref01_limbs_1  N2) 64 180 sig_cncref01_limbs osig_cncref01_limbs
theorem st_cncref01_limbs_2_eq   (v0 : List (List AC)) (v1 : Int) : st_cncref01_limbs_2   [AC.view [Kd.int .u64] v0, AC.int .u64 v1] =
 bif decide (v1 > 0) then
 bif ((v0 ++ [[AC.int IntKind.u64 (IntKind.u64.wrap (↑(BitVec.ofInt IntKind.u64.bits v1 &&& BitVec.ofInt IntKind.u64.bits 65535).toNat : Int))]]).length * 8).ble 140737488355328 then
 some (0, [AC.view [Kd.int IntKind.u64] (v0 ++ [[AC.int IntKind.u64 (IntKind.u64.wrap (↑(BitVec.ofInt IntKind.u64.bits v1 &&& BitVec.ofInt IntKind.u64.bits 65535).toNat : Int))]]), AC.int IntKind.u64 (v1.fdiv (2 ^ min (Int.toNat 16) IntKind.u64.bits))])
 else
 none
 else
 some (1, [AC.view [Kd.int IntKind.u64] v0]) := by kernel_rfl
theorem mf_cncref01_limbs_eq   (N2 : List AC → Option (Nat × List AC)) (x0 : Int) : mf_cncref01_limbs   N2 [AC.int .u64 x0] =
 (N2 [AC.view [Kd.int IntKind.u64] [], AC.int IntKind.u64 x0]).bind fun o1 =>
 bif o1.fst.beq 1 then
 some [AC.view [Kd.int IntKind.u64] (rowsOf (nth .dead o1.snd 0))]
 else
 none := by kernel_rfl
noncomputable def l_cncref01_limbs_2 := loopC (st_cncref01_limbs_2  )
noncomputable def m_cncref01_limbs := mf_cncref01_limbs   l_cncref01_limbs_2
theorem sp_cncref01_limbs : SpecOK Tryz.prog (C_cncref01_limbs_0 ) := specOK_of rfl trivial
theorem r_cncref01_limbs : RowOK Tryz.prog (180, spOf sig_cncref01_limbs osig_cncref01_limbs m_cncref01_limbs) := row_of (C := (C_cncref01_limbs_1  l_cncref01_limbs_2)) (L := 64) (sig := sig_cncref01_limbs) (osig := osig_cncref01_limbs) (by kernel_rfl) ((FnOK.bare rfl rfl rfl).loop sp_cncref01_limbs eqOk mixOk (by kernel_rfl) (by kernel_rfl)) sp_cncref01_limbs eqOk mixOk (by kernel_rfl) (by kernel_rfl)
def sig_cncref01_mag : Sk := { tmps := [TS.v false [CS.int .i64]], boxes := [], rows := [] }
def osig_cncref01_mag : Sk := { tmps := [TS.v false [CS.int .u64]], boxes := [], rows := [] }
noncomputable def C_cncref01_mag_0  : Cfg := { spec := lookS [], eqOk := eqAll, ownOff := ownOff }
noncomputable def mf_cncref01_mag   : List AC → Option (List AC) := modelF Tryz.prog C_cncref01_mag_0 64 181 sig_cncref01_mag osig_cncref01_mag
theorem mf_cncref01_mag_eq   (x0 : Int) : mf_cncref01_mag   [I x0] =
 bif decide (x0 < 0) then
 some [AC.int IntKind.u64 (IntKind.u64.wrap (IntKind.u64.wrap (IntKind.i64.wrap (0 - IntKind.i64.wrap (x0 + 1))) + 1))]
 else
 some [AC.int IntKind.u64 (IntKind.u64.wrap x0)] := by kernel_rfl
noncomputable def m_cncref01_mag := mf_cncref01_mag  
theorem sp_cncref01_mag : SpecOK Tryz.prog (C_cncref01_mag_0 ) := specOK_of rfl trivial
theorem r_cncref01_mag : RowOK Tryz.prog (181, spOf sig_cncref01_mag osig_cncref01_mag m_cncref01_mag) := row_of (C := C_cncref01_mag_0) (L := 64) (sig := sig_cncref01_mag) (osig := osig_cncref01_mag) (by kernel_rfl) (FnOK.bare rfl rfl rfl) sp_cncref01_mag eqOk mixOk (by kernel_rfl) (by kernel_rfl)
def sig_cncref01_product : Sk := { tmps := [TS.v false [CS.int .i64], TS.v false [CS.int .i64]], boxes := [], rows := [] }
def osig_cncref01_product : Sk := { tmps := [TS.v false [CS.sl [Kd.int .u64]]], boxes := [], rows := [] }
noncomputable def C_cncref01_product_0 (M_cncref01_mul M_cncref01_limbs M_cncref01_mag : List AC → Option (List AC)) : Cfg := { spec := lookS [(179, spOf sig_cncref01_mul osig_cncref01_mul M_cncref01_mul), (180, spOf sig_cncref01_limbs osig_cncref01_limbs M_cncref01_limbs), (181, spOf sig_cncref01_mag osig_cncref01_mag M_cncref01_mag)], eqOk := eqAll, ownOff := ownOff }
noncomputable def mf_cncref01_product (M_cncref01_mul M_cncref01_limbs M_cncref01_mag : List AC → Option (List AC))  : List AC → Option (List AC) := modelF Tryz.prog (C_cncref01_product_0 M_cncref01_mul M_cncref01_limbs M_cncref01_mag) 64 167 sig_cncref01_product osig_cncref01_product
theorem mf_cncref01_product_eq (M_cncref01_mul M_cncref01_limbs M_cncref01_mag : List AC → Option (List AC))  (x0 x1 : Int) : mf_cncref01_product M_cncref01_mul M_cncref01_limbs M_cncref01_mag  [I x0, I x1] =
 (M_cncref01_mag [I x0]).bind fun o5 =>
 (M_cncref01_limbs [AC.int IntKind.u64 (intOf (nth .dead o5 0))]).bind fun o6 =>
 (M_cncref01_mag [I x1]).bind fun o7 =>
 (M_cncref01_limbs [AC.int IntKind.u64 (intOf (nth .dead o7 0))]).bind fun o8 =>
 (M_cncref01_mul [AC.view [Kd.int IntKind.u64] (rowsOf (nth .dead o6 0)), AC.view [Kd.int IntKind.u64] (rowsOf (nth .dead o8 0))]).bind fun o9 =>
 some [AC.view [Kd.int IntKind.u64] (rowsOf (nth .dead o9 0))] := by kernel_rfl
noncomputable def m_cncref01_product := mf_cncref01_product m_cncref01_mul m_cncref01_limbs m_cncref01_mag 
theorem sp_cncref01_product : SpecOK Tryz.prog (C_cncref01_product_0 m_cncref01_mul m_cncref01_limbs m_cncref01_mag) := specOK_of rfl ⟨r_cncref01_mul, r_cncref01_limbs, r_cncref01_mag, trivial⟩
theorem r_cncref01_product : RowOK Tryz.prog (167, spOf sig_cncref01_product osig_cncref01_product m_cncref01_product) := row_of (C := (C_cncref01_product_0 m_cncref01_mul m_cncref01_limbs m_cncref01_mag)) (L := 64) (sig := sig_cncref01_product) (osig := osig_cncref01_product) (by kernel_rfl) (FnOK.bare rfl rfl rfl) sp_cncref01_product eqOk mixOk (by kernel_rfl) (by kernel_rfl)
def sig_cncref01_sign : Sk := { tmps := [TS.v false [CS.int .i64], TS.v false [CS.int .i64]], boxes := [], rows := [] }
def osig_cncref01_sign : Sk := { tmps := [TS.v false [CS.int .i64]], boxes := [], rows := [] }
noncomputable def C_cncref01_sign_0  : Cfg := { spec := lookS [], eqOk := eqAll, ownOff := ownOff }
noncomputable def mf_cncref01_sign   : List AC → Option (List AC) := modelF Tryz.prog C_cncref01_sign_0 64 165 sig_cncref01_sign osig_cncref01_sign
theorem mf_cncref01_sign_eq   (x0 x1 : Int) : mf_cncref01_sign   [I x0, I x1] =
 bif x0 == 0 then
 some [I 0]
 else
 bif x1 == 0 then
 some [I 0]
 else
 bif decide (x0 < 0) == decide (x1 < 0) then
 some [I 1]
 else
 some [I (-1)] := by kernel_rfl
noncomputable def m_cncref01_sign := mf_cncref01_sign  
theorem sp_cncref01_sign : SpecOK Tryz.prog (C_cncref01_sign_0 ) := specOK_of rfl trivial
theorem r_cncref01_sign : RowOK Tryz.prog (165, spOf sig_cncref01_sign osig_cncref01_sign m_cncref01_sign) := row_of (C := C_cncref01_sign_0) (L := 64) (sig := sig_cncref01_sign) (osig := osig_cncref01_sign) (by kernel_rfl) (FnOK.bare rfl rfl rfl) sp_cncref01_sign eqOk mixOk (by kernel_rfl) (by kernel_rfl)
def sig_cncref01_Cmp : Sk := { tmps := [TS.v false [CS.int .i64], TS.v false [CS.int .i64], TS.v false [CS.int .i64], TS.v false [CS.int .i64]], boxes := [], rows := [] }
def osig_cncref01_Cmp : Sk := { tmps := [TS.v false [CS.int .i64]], boxes := [], rows := [] }
noncomputable def C_cncref01_Cmp_0 (M_cncref01_cmp M_cncref01_product M_cncref01_sign : List AC → Option (List AC)) : Cfg := { spec := lookS [(166, spOf sig_cncref01_cmp osig_cncref01_cmp M_cncref01_cmp), (167, spOf sig_cncref01_product osig_cncref01_product M_cncref01_product), (165, spOf sig_cncref01_sign osig_cncref01_sign M_cncref01_sign)], eqOk := eqAll, ownOff := ownOff }
noncomputable def mf_cncref01_Cmp (M_cncref01_cmp M_cncref01_product M_cncref01_sign : List AC → Option (List AC))  : List AC → Option (List AC) := modelF Tryz.prog (C_cncref01_Cmp_0 M_cncref01_cmp M_cncref01_product M_cncref01_sign) 64 149 sig_cncref01_Cmp osig_cncref01_Cmp
theorem mf_cncref01_Cmp_eq (M_cncref01_cmp M_cncref01_product M_cncref01_sign : List AC → Option (List AC))  (x0 x1 x2 x3 : Int) : mf_cncref01_Cmp M_cncref01_cmp M_cncref01_product M_cncref01_sign  [I x0, I x1, I x2, I x3] =
 (M_cncref01_sign [I x0, I x1]).bind fun o5 =>
 (M_cncref01_sign [I x2, I x3]).bind fun o6 =>
 bif decide (intOf (nth .dead o5 0) < intOf (nth .dead o6 0)) then
 some [I (-1)]
 else
 bif decide (intOf (nth .dead o5 0) > intOf (nth .dead o6 0)) then
 some [I 1]
 else
 (M_cncref01_product [I x0, I x1]).bind fun o7 =>
 (M_cncref01_product [I x2, I x3]).bind fun o8 =>
 (M_cncref01_cmp [AC.view [Kd.int IntKind.u64] (rowsOf (nth .dead o7 0)), AC.view [Kd.int IntKind.u64] (rowsOf (nth .dead o8 0))]).bind fun o9 =>
 some [I (IntKind.i64.wrap (intOf (nth .dead o5 0) * intOf (nth .dead o9 0)))] := by kernel_rfl
noncomputable def m_cncref01_Cmp := mf_cncref01_Cmp m_cncref01_cmp m_cncref01_product m_cncref01_sign 
theorem sp_cncref01_Cmp : SpecOK Tryz.prog (C_cncref01_Cmp_0 m_cncref01_cmp m_cncref01_product m_cncref01_sign) := specOK_of rfl ⟨r_cncref01_cmp, r_cncref01_product, r_cncref01_sign, trivial⟩
theorem r_cncref01_Cmp : RowOK Tryz.prog (149, spOf sig_cncref01_Cmp osig_cncref01_Cmp m_cncref01_Cmp) := row_of (C := (C_cncref01_Cmp_0 m_cncref01_cmp m_cncref01_product m_cncref01_sign)) (L := 64) (sig := sig_cncref01_Cmp) (osig := osig_cncref01_Cmp) (by kernel_rfl) (FnOK.bare rfl rfl rfl) sp_cncref01_Cmp eqOk mixOk (by kernel_rfl) (by kernel_rfl)
def sig_cncref23_small : Sk := { tmps := [TS.v true [CS.int .i64, CS.int .i64, CS.int .i64], TS.v false [CS.int .i64]], boxes := [], rows := [] }
def osig_cncref23_small : Sk := { tmps := [TS.v false [CS.bool]], boxes := [], rows := [] }
noncomputable def C_cncref23_small_0  : Cfg := { spec := lookS [], eqOk := eqAll, ownOff := ownOff, unroll := [2] }
noncomputable def mf_cncref23_small   : List AC → Option (List AC) := modelF Tryz.prog C_cncref23_small_0 64 119 sig_cncref23_small osig_cncref23_small
theorem mf_cncref23_small_eq   (x0 x1 x2 x3 : Int) : mf_cncref23_small   [I x0, I x1, I x2, I x3] =
 bif decide (x0 < IntKind.i64.wrap (0 - x3)) then
 some [AC.bool false]
 else
 bif decide (x0 > x3) then
 some [AC.bool false]
 else
 bif decide (x1 < IntKind.i64.wrap (0 - x3)) then
 some [AC.bool false]
 else
 bif decide (x1 > x3) then
 some [AC.bool false]
 else
 bif decide (x2 < IntKind.i64.wrap (0 - x3)) then
 some [AC.bool false]
 else
 bif decide (x2 > x3) then
 some [AC.bool false]
 else
 some [AC.bool true] := by kernel_rfl
noncomputable def m_cncref23_small := mf_cncref23_small  
theorem sp_cncref23_small : SpecOK Tryz.prog (C_cncref23_small_0 ) := specOK_of rfl trivial
theorem r_cncref23_small : RowOK Tryz.prog (119, spOf sig_cncref23_small osig_cncref23_small m_cncref23_small) := row_of (C := C_cncref23_small_0) (L := 64) (sig := sig_cncref23_small) (osig := osig_cncref23_small) (by kernel_rfl) (FnOK.bare rfl rfl rfl) sp_cncref23_small eqOk mixOk (by kernel_rfl) (by kernel_rfl)
def sig_cncref23_within : Sk := { tmps := [TS.v true [CS.int .i64, CS.int .i64, CS.int .i64]], boxes := [], rows := [] }
def osig_cncref23_within : Sk := { tmps := [TS.v false [CS.bool]], boxes := [], rows := [] }
noncomputable def C_cncref23_within_0 (M_cncref23_small : List AC → Option (List AC)) : Cfg := { spec := lookS [(119, spOf sig_cncref23_small osig_cncref23_small M_cncref23_small)], eqOk := eqAll, ownOff := ownOff }
noncomputable def mf_cncref23_within (M_cncref23_small : List AC → Option (List AC))  : List AC → Option (List AC) := modelF Tryz.prog (C_cncref23_within_0 M_cncref23_small) 64 146 sig_cncref23_within osig_cncref23_within
theorem mf_cncref23_within_eq (M_cncref23_small : List AC → Option (List AC))  (x0 x1 x2 : Int) : mf_cncref23_within M_cncref23_small  [I x0, I x1, I x2] =
 (M_cncref23_small [I x0, I x1, I x2, I 1048576]).bind fun o1 =>
 some [AC.bool (boolOf (nth .dead o1 0))] := by kernel_rfl
noncomputable def m_cncref23_within := mf_cncref23_within m_cncref23_small 
theorem sp_cncref23_within : SpecOK Tryz.prog (C_cncref23_within_0 m_cncref23_small) := specOK_of rfl ⟨r_cncref23_small, trivial⟩
theorem r_cncref23_within : RowOK Tryz.prog (146, spOf sig_cncref23_within osig_cncref23_within m_cncref23_within) := row_of (C := (C_cncref23_within_0 m_cncref23_small)) (L := 64) (sig := sig_cncref23_within) (osig := osig_cncref23_within) (by kernel_rfl) (FnOK.bare rfl rfl rfl) sp_cncref23_within eqOk mixOk (by kernel_rfl) (by kernel_rfl)
def sig_cncref23_Valid : Sk := { tmps := [TS.v true [CS.int .i64, CS.int .i64, CS.int .i64, CS.int .i64, CS.int .i64, CS.int .i64, CS.int .i64, CS.int .i64, CS.int .i64, CS.int .i64, CS.int .i64, CS.int .i64, CS.int .i64, CS.bool, CS.int .i64, CS.bool, CS.int .i64, CS.int .i64, CS.int .i64, CS.int .i64, CS.int .i64, CS.bool]], boxes := [], rows := [] }
def osig_cncref23_Valid : Sk := { tmps := [TS.v false [CS.bool]], boxes := [], rows := [] }
noncomputable def C_cncref23_Valid_0 (M_cncref23_Cross M_cncref01_Cmp M_cncref23_Dot M_cncref23_ends M_cncref23_within M_cncref23_Motion : List AC → Option (List AC)) : Cfg := { spec := lookS [(150, spOf sig_cncref23_Cross osig_cncref23_Cross M_cncref23_Cross), (149, spOf sig_cncref01_Cmp osig_cncref01_Cmp M_cncref01_Cmp), (148, spOf sig_cncref23_Dot osig_cncref23_Dot M_cncref23_Dot), (147, spOf sig_cncref23_ends osig_cncref23_ends M_cncref23_ends), (146, spOf sig_cncref23_within osig_cncref23_within M_cncref23_within), (79, spOf sig_cncref23_Motion osig_cncref23_Motion M_cncref23_Motion)], eqOk := eqAll, ownOff := ownOff }
noncomputable def mf_cncref23_Valid (M_cncref23_Cross M_cncref01_Cmp M_cncref23_Dot M_cncref23_ends M_cncref23_within M_cncref23_Motion : List AC → Option (List AC))  : List AC → Option (List AC) := modelF Tryz.prog (C_cncref23_Valid_0 M_cncref23_Cross M_cncref01_Cmp M_cncref23_Dot M_cncref23_ends M_cncref23_within M_cncref23_Motion) 64 133 sig_cncref23_Valid osig_cncref23_Valid
theorem mf_cncref23_Valid_eq (M_cncref23_Cross M_cncref01_Cmp M_cncref23_Dot M_cncref23_ends M_cncref23_within M_cncref23_Motion : List AC → Option (List AC))  (x0 x1 x2 x3 x4 x5 x6 x7 x8 x9 x10 x11 x12 : Int) (x13 : Bool) (x14 : Int) (x15 : Bool) (x16 x17 x18 x19 x20 : Int) (x21 : Bool) : mf_cncref23_Valid M_cncref23_Cross M_cncref01_Cmp M_cncref23_Dot M_cncref23_ends M_cncref23_within M_cncref23_Motion  [I x0, I x1, I x2, I x3, I x4, I x5, I x6, I x7, I x8, I x9, I x10, I x11, I x12, AC.bool x13, I x14, AC.bool x15, I x16, I x17, I x18, I x19, I x20, AC.bool x21] =
 (M_cncref23_Motion [I x0]).bind fun o57 =>
 bif !boolOf (nth .dead o57 0) then
 some [AC.bool false]
 else
 (M_cncref23_within [I x2, I x3, I x4]).bind fun o58 =>
 bif !boolOf (nth .dead o58 0) then
 some [AC.bool false]
 else
 (M_cncref23_within [I x5, I x6, I x7]).bind fun o59 =>
 bif !boolOf (nth .dead o59 0) then
 some [AC.bool false]
 else
 bif x0 != 3 then
 some [AC.bool true]
 else
 bif x8 != 17 then
 bif x8 != 18 then
 bif x8 != 19 then
 some [AC.bool false]
 else
 bif x12 != 1 then
 bif x12 != -1 then
 some [AC.bool false]
 else
 (M_cncref23_within [I x9, I x10, I x11]).bind fun o60 =>
 bif !boolOf (nth .dead o60 0) then
 some [AC.bool false]
 else
 (M_cncref23_ends [I x0, I x1, I x2, I x3, I x4, I x5, I x6, I x7, I x8, I x9, I x10, I x11, I x12, AC.bool x13, I x14, AC.bool x15, I x16, I x17, I x18, I x19, I x20, AC.bool x21]).bind fun o61 =>
 (M_cncref23_Dot [I (intOf (nth .dead o61 0)), I (intOf (nth .dead o61 1)), I (intOf (nth .dead o61 2)), I (intOf (nth .dead o61 3)), I (intOf (nth .dead o61 0)), I (intOf (nth .dead o61 1)), I (intOf (nth .dead o61 2)), I (intOf (nth .dead o61 3))]).bind fun o62 =>
 (M_cncref23_Dot [I (intOf (nth .dead o61 4)), I (intOf (nth .dead o61 5)), I (intOf (nth .dead o61 6)), I (intOf (nth .dead o61 7)), I (intOf (nth .dead o61 4)), I (intOf (nth .dead o61 5)), I (intOf (nth .dead o61 6)), I (intOf (nth .dead o61 7))]).bind fun o63 =>
 bif decide (intOf (nth .dead o62 0) < 64) then
 some [AC.bool false]
 else
 bif decide (intOf (nth .dead o63 0) < 64) then
 some [AC.bool false]
 else
 bif decide (IntKind.i64.wrap (IntKind.i64.wrap (intOf (nth .dead o62 0) + intOf (nth .dead o63 0)) - 16) > 0) then
 (M_cncref01_Cmp [I (IntKind.i64.wrap (IntKind.i64.wrap (intOf (nth .dead o62 0) + intOf (nth .dead o63 0)) - 16)), I (IntKind.i64.wrap (IntKind.i64.wrap (intOf (nth .dead o62 0) + intOf (nth .dead o63 0)) - 16)), I (IntKind.i64.wrap (4 * intOf (nth .dead o62 0))), I (intOf (nth .dead o63 0))]).bind fun o64 =>
 bif decide (intOf (nth .dead o64 0) > 0) then
 some [AC.bool false]
 else
 bif x13 then
 bif intOf (nth .dead o61 0) == intOf (nth .dead o61 4) then
 some [AC.bool (intOf (nth .dead o61 1) == intOf (nth .dead o61 5))]
 else
 some [AC.bool false]
 else
 (M_cncref23_Cross [I (intOf (nth .dead o61 0)), I (intOf (nth .dead o61 1)), I (intOf (nth .dead o61 2)), I (intOf (nth .dead o61 3)), I (intOf (nth .dead o61 4)), I (intOf (nth .dead o61 5)), I (intOf (nth .dead o61 6)), I (intOf (nth .dead o61 7))]).bind fun o65 =>
 bif intOf (nth .dead o65 0) != 0 then
 some [AC.bool true]
 else
 (M_cncref23_Dot [I (intOf (nth .dead o61 0)), I (intOf (nth .dead o61 1)), I (intOf (nth .dead o61 2)), I (intOf (nth .dead o61 3)), I (intOf (nth .dead o61 4)), I (intOf (nth .dead o61 5)), I (intOf (nth .dead o61 6)), I (intOf (nth .dead o61 7))]).bind fun o66 =>
 some [AC.bool (decide (intOf (nth .dead o66 0) < 0))]
 else
 bif x13 then
 bif intOf (nth .dead o61 0) == intOf (nth .dead o61 4) then
 some [AC.bool (intOf (nth .dead o61 1) == intOf (nth .dead o61 5))]
 else
 some [AC.bool false]
 else
 (M_cncref23_Cross [I (intOf (nth .dead o61 0)), I (intOf (nth .dead o61 1)), I (intOf (nth .dead o61 2)), I (intOf (nth .dead o61 3)), I (intOf (nth .dead o61 4)), I (intOf (nth .dead o61 5)), I (intOf (nth .dead o61 6)), I (intOf (nth .dead o61 7))]).bind fun o67 =>
 bif intOf (nth .dead o67 0) != 0 then
 some [AC.bool true]
 else
 (M_cncref23_Dot [I (intOf (nth .dead o61 0)), I (intOf (nth .dead o61 1)), I (intOf (nth .dead o61 2)), I (intOf (nth .dead o61 3)), I (intOf (nth .dead o61 4)), I (intOf (nth .dead o61 5)), I (intOf (nth .dead o61 6)), I (intOf (nth .dead o61 7))]).bind fun o68 =>
 some [AC.bool (decide (intOf (nth .dead o68 0) < 0))]
 else
 (M_cncref23_within [I x9, I x10, I x11]).bind fun o69 =>
 bif !boolOf (nth .dead o69 0) then
 some [AC.bool false]
 else
 (M_cncref23_ends [I x0, I x1, I x2, I x3, I x4, I x5, I x6, I x7, I x8, I x9, I x10, I x11, I x12, AC.bool x13, I x14, AC.bool x15, I x16, I x17, I x18, I x19, I x20, AC.bool x21]).bind fun o70 =>
 (M_cncref23_Dot [I (intOf (nth .dead o70 0)), I (intOf (nth .dead o70 1)), I (intOf (nth .dead o70 2)), I (intOf (nth .dead o70 3)), I (intOf (nth .dead o70 0)), I (intOf (nth .dead o70 1)), I (intOf (nth .dead o70 2)), I (intOf (nth .dead o70 3))]).bind fun o71 =>
 (M_cncref23_Dot [I (intOf (nth .dead o70 4)), I (intOf (nth .dead o70 5)), I (intOf (nth .dead o70 6)), I (intOf (nth .dead o70 7)), I (intOf (nth .dead o70 4)), I (intOf (nth .dead o70 5)), I (intOf (nth .dead o70 6)), I (intOf (nth .dead o70 7))]).bind fun o72 =>
 bif decide (intOf (nth .dead o71 0) < 64) then
 some [AC.bool false]
 else
 bif decide (intOf (nth .dead o72 0) < 64) then
 some [AC.bool false]
 else
 bif decide (IntKind.i64.wrap (IntKind.i64.wrap (intOf (nth .dead o71 0) + intOf (nth .dead o72 0)) - 16) > 0) then
 (M_cncref01_Cmp [I (IntKind.i64.wrap (IntKind.i64.wrap (intOf (nth .dead o71 0) + intOf (nth .dead o72 0)) - 16)), I (IntKind.i64.wrap (IntKind.i64.wrap (intOf (nth .dead o71 0) + intOf (nth .dead o72 0)) - 16)), I (IntKind.i64.wrap (4 * intOf (nth .dead o71 0))), I (intOf (nth .dead o72 0))]).bind fun o73 =>
 bif decide (intOf (nth .dead o73 0) > 0) then
 some [AC.bool false]
 else
 bif x13 then
 bif intOf (nth .dead o70 0) == intOf (nth .dead o70 4) then
 some [AC.bool (intOf (nth .dead o70 1) == intOf (nth .dead o70 5))]
 else
 some [AC.bool false]
 else
 (M_cncref23_Cross [I (intOf (nth .dead o70 0)), I (intOf (nth .dead o70 1)), I (intOf (nth .dead o70 2)), I (intOf (nth .dead o70 3)), I (intOf (nth .dead o70 4)), I (intOf (nth .dead o70 5)), I (intOf (nth .dead o70 6)), I (intOf (nth .dead o70 7))]).bind fun o74 =>
 bif intOf (nth .dead o74 0) != 0 then
 some [AC.bool true]
 else
 (M_cncref23_Dot [I (intOf (nth .dead o70 0)), I (intOf (nth .dead o70 1)), I (intOf (nth .dead o70 2)), I (intOf (nth .dead o70 3)), I (intOf (nth .dead o70 4)), I (intOf (nth .dead o70 5)), I (intOf (nth .dead o70 6)), I (intOf (nth .dead o70 7))]).bind fun o75 =>
 some [AC.bool (decide (intOf (nth .dead o75 0) < 0))]
 else
 bif x13 then
 bif intOf (nth .dead o70 0) == intOf (nth .dead o70 4) then
 some [AC.bool (intOf (nth .dead o70 1) == intOf (nth .dead o70 5))]
 else
 some [AC.bool false]
 else
 (M_cncref23_Cross [I (intOf (nth .dead o70 0)), I (intOf (nth .dead o70 1)), I (intOf (nth .dead o70 2)), I (intOf (nth .dead o70 3)), I (intOf (nth .dead o70 4)), I (intOf (nth .dead o70 5)), I (intOf (nth .dead o70 6)), I (intOf (nth .dead o70 7))]).bind fun o76 =>
 bif intOf (nth .dead o76 0) != 0 then
 some [AC.bool true]
 else
 (M_cncref23_Dot [I (intOf (nth .dead o70 0)), I (intOf (nth .dead o70 1)), I (intOf (nth .dead o70 2)), I (intOf (nth .dead o70 3)), I (intOf (nth .dead o70 4)), I (intOf (nth .dead o70 5)), I (intOf (nth .dead o70 6)), I (intOf (nth .dead o70 7))]).bind fun o77 =>
 some [AC.bool (decide (intOf (nth .dead o77 0) < 0))]
 else
 bif x12 != 1 then
 bif x12 != -1 then
 some [AC.bool false]
 else
 (M_cncref23_within [I x9, I x10, I x11]).bind fun o78 =>
 bif !boolOf (nth .dead o78 0) then
 some [AC.bool false]
 else
 (M_cncref23_ends [I x0, I x1, I x2, I x3, I x4, I x5, I x6, I x7, I x8, I x9, I x10, I x11, I x12, AC.bool x13, I x14, AC.bool x15, I x16, I x17, I x18, I x19, I x20, AC.bool x21]).bind fun o79 =>
 (M_cncref23_Dot [I (intOf (nth .dead o79 0)), I (intOf (nth .dead o79 1)), I (intOf (nth .dead o79 2)), I (intOf (nth .dead o79 3)), I (intOf (nth .dead o79 0)), I (intOf (nth .dead o79 1)), I (intOf (nth .dead o79 2)), I (intOf (nth .dead o79 3))]).bind fun o80 =>
 (M_cncref23_Dot [I (intOf (nth .dead o79 4)), I (intOf (nth .dead o79 5)), I (intOf (nth .dead o79 6)), I (intOf (nth .dead o79 7)), I (intOf (nth .dead o79 4)), I (intOf (nth .dead o79 5)), I (intOf (nth .dead o79 6)), I (intOf (nth .dead o79 7))]).bind fun o81 =>
 bif decide (intOf (nth .dead o80 0) < 64) then
 some [AC.bool false]
 else
 bif decide (intOf (nth .dead o81 0) < 64) then
 some [AC.bool false]
 else
 bif decide (IntKind.i64.wrap (IntKind.i64.wrap (intOf (nth .dead o80 0) + intOf (nth .dead o81 0)) - 16) > 0) then
 (M_cncref01_Cmp [I (IntKind.i64.wrap (IntKind.i64.wrap (intOf (nth .dead o80 0) + intOf (nth .dead o81 0)) - 16)), I (IntKind.i64.wrap (IntKind.i64.wrap (intOf (nth .dead o80 0) + intOf (nth .dead o81 0)) - 16)), I (IntKind.i64.wrap (4 * intOf (nth .dead o80 0))), I (intOf (nth .dead o81 0))]).bind fun o82 =>
 bif decide (intOf (nth .dead o82 0) > 0) then
 some [AC.bool false]
 else
 bif x13 then
 bif intOf (nth .dead o79 0) == intOf (nth .dead o79 4) then
 some [AC.bool (intOf (nth .dead o79 1) == intOf (nth .dead o79 5))]
 else
 some [AC.bool false]
 else
 (M_cncref23_Cross [I (intOf (nth .dead o79 0)), I (intOf (nth .dead o79 1)), I (intOf (nth .dead o79 2)), I (intOf (nth .dead o79 3)), I (intOf (nth .dead o79 4)), I (intOf (nth .dead o79 5)), I (intOf (nth .dead o79 6)), I (intOf (nth .dead o79 7))]).bind fun o83 =>
 bif intOf (nth .dead o83 0) != 0 then
 some [AC.bool true]
 else
 (M_cncref23_Dot [I (intOf (nth .dead o79 0)), I (intOf (nth .dead o79 1)), I (intOf (nth .dead o79 2)), I (intOf (nth .dead o79 3)), I (intOf (nth .dead o79 4)), I (intOf (nth .dead o79 5)), I (intOf (nth .dead o79 6)), I (intOf (nth .dead o79 7))]).bind fun o84 =>
 some [AC.bool (decide (intOf (nth .dead o84 0) < 0))]
 else
 bif x13 then
 bif intOf (nth .dead o79 0) == intOf (nth .dead o79 4) then
 some [AC.bool (intOf (nth .dead o79 1) == intOf (nth .dead o79 5))]
 else
 some [AC.bool false]
 else
 (M_cncref23_Cross [I (intOf (nth .dead o79 0)), I (intOf (nth .dead o79 1)), I (intOf (nth .dead o79 2)), I (intOf (nth .dead o79 3)), I (intOf (nth .dead o79 4)), I (intOf (nth .dead o79 5)), I (intOf (nth .dead o79 6)), I (intOf (nth .dead o79 7))]).bind fun o85 =>
 bif intOf (nth .dead o85 0) != 0 then
 some [AC.bool true]
 else
 (M_cncref23_Dot [I (intOf (nth .dead o79 0)), I (intOf (nth .dead o79 1)), I (intOf (nth .dead o79 2)), I (intOf (nth .dead o79 3)), I (intOf (nth .dead o79 4)), I (intOf (nth .dead o79 5)), I (intOf (nth .dead o79 6)), I (intOf (nth .dead o79 7))]).bind fun o86 =>
 some [AC.bool (decide (intOf (nth .dead o86 0) < 0))]
 else
 (M_cncref23_within [I x9, I x10, I x11]).bind fun o87 =>
 bif !boolOf (nth .dead o87 0) then
 some [AC.bool false]
 else
 (M_cncref23_ends [I x0, I x1, I x2, I x3, I x4, I x5, I x6, I x7, I x8, I x9, I x10, I x11, I x12, AC.bool x13, I x14, AC.bool x15, I x16, I x17, I x18, I x19, I x20, AC.bool x21]).bind fun o88 =>
 (M_cncref23_Dot [I (intOf (nth .dead o88 0)), I (intOf (nth .dead o88 1)), I (intOf (nth .dead o88 2)), I (intOf (nth .dead o88 3)), I (intOf (nth .dead o88 0)), I (intOf (nth .dead o88 1)), I (intOf (nth .dead o88 2)), I (intOf (nth .dead o88 3))]).bind fun o89 =>
 (M_cncref23_Dot [I (intOf (nth .dead o88 4)), I (intOf (nth .dead o88 5)), I (intOf (nth .dead o88 6)), I (intOf (nth .dead o88 7)), I (intOf (nth .dead o88 4)), I (intOf (nth .dead o88 5)), I (intOf (nth .dead o88 6)), I (intOf (nth .dead o88 7))]).bind fun o90 =>
 bif decide (intOf (nth .dead o89 0) < 64) then
 some [AC.bool false]
 else
 bif decide (intOf (nth .dead o90 0) < 64) then
 some [AC.bool false]
 else
 bif decide (IntKind.i64.wrap (IntKind.i64.wrap (intOf (nth .dead o89 0) + intOf (nth .dead o90 0)) - 16) > 0) then
 (M_cncref01_Cmp [I (IntKind.i64.wrap (IntKind.i64.wrap (intOf (nth .dead o89 0) + intOf (nth .dead o90 0)) - 16)), I (IntKind.i64.wrap (IntKind.i64.wrap (intOf (nth .dead o89 0) + intOf (nth .dead o90 0)) - 16)), I (IntKind.i64.wrap (4 * intOf (nth .dead o89 0))), I (intOf (nth .dead o90 0))]).bind fun o91 =>
 bif decide (intOf (nth .dead o91 0) > 0) then
 some [AC.bool false]
 else
 bif x13 then
 bif intOf (nth .dead o88 0) == intOf (nth .dead o88 4) then
 some [AC.bool (intOf (nth .dead o88 1) == intOf (nth .dead o88 5))]
 else
 some [AC.bool false]
 else
 (M_cncref23_Cross [I (intOf (nth .dead o88 0)), I (intOf (nth .dead o88 1)), I (intOf (nth .dead o88 2)), I (intOf (nth .dead o88 3)), I (intOf (nth .dead o88 4)), I (intOf (nth .dead o88 5)), I (intOf (nth .dead o88 6)), I (intOf (nth .dead o88 7))]).bind fun o92 =>
 bif intOf (nth .dead o92 0) != 0 then
 some [AC.bool true]
 else
 (M_cncref23_Dot [I (intOf (nth .dead o88 0)), I (intOf (nth .dead o88 1)), I (intOf (nth .dead o88 2)), I (intOf (nth .dead o88 3)), I (intOf (nth .dead o88 4)), I (intOf (nth .dead o88 5)), I (intOf (nth .dead o88 6)), I (intOf (nth .dead o88 7))]).bind fun o93 =>
 some [AC.bool (decide (intOf (nth .dead o93 0) < 0))]
 else
 bif x13 then
 bif intOf (nth .dead o88 0) == intOf (nth .dead o88 4) then
 some [AC.bool (intOf (nth .dead o88 1) == intOf (nth .dead o88 5))]
 else
 some [AC.bool false]
 else
 (M_cncref23_Cross [I (intOf (nth .dead o88 0)), I (intOf (nth .dead o88 1)), I (intOf (nth .dead o88 2)), I (intOf (nth .dead o88 3)), I (intOf (nth .dead o88 4)), I (intOf (nth .dead o88 5)), I (intOf (nth .dead o88 6)), I (intOf (nth .dead o88 7))]).bind fun o94 =>
 bif intOf (nth .dead o94 0) != 0 then
 some [AC.bool true]
 else
 (M_cncref23_Dot [I (intOf (nth .dead o88 0)), I (intOf (nth .dead o88 1)), I (intOf (nth .dead o88 2)), I (intOf (nth .dead o88 3)), I (intOf (nth .dead o88 4)), I (intOf (nth .dead o88 5)), I (intOf (nth .dead o88 6)), I (intOf (nth .dead o88 7))]).bind fun o95 =>
 some [AC.bool (decide (intOf (nth .dead o95 0) < 0))]
 else
 bif x12 != 1 then
 bif x12 != -1 then
 some [AC.bool false]
 else
 (M_cncref23_within [I x9, I x10, I x11]).bind fun o96 =>
 bif !boolOf (nth .dead o96 0) then
 some [AC.bool false]
 else
 (M_cncref23_ends [I x0, I x1, I x2, I x3, I x4, I x5, I x6, I x7, I x8, I x9, I x10, I x11, I x12, AC.bool x13, I x14, AC.bool x15, I x16, I x17, I x18, I x19, I x20, AC.bool x21]).bind fun o97 =>
 (M_cncref23_Dot [I (intOf (nth .dead o97 0)), I (intOf (nth .dead o97 1)), I (intOf (nth .dead o97 2)), I (intOf (nth .dead o97 3)), I (intOf (nth .dead o97 0)), I (intOf (nth .dead o97 1)), I (intOf (nth .dead o97 2)), I (intOf (nth .dead o97 3))]).bind fun o98 =>
 (M_cncref23_Dot [I (intOf (nth .dead o97 4)), I (intOf (nth .dead o97 5)), I (intOf (nth .dead o97 6)), I (intOf (nth .dead o97 7)), I (intOf (nth .dead o97 4)), I (intOf (nth .dead o97 5)), I (intOf (nth .dead o97 6)), I (intOf (nth .dead o97 7))]).bind fun o99 =>
 bif decide (intOf (nth .dead o98 0) < 64) then
 some [AC.bool false]
 else
 bif decide (intOf (nth .dead o99 0) < 64) then
 some [AC.bool false]
 else
 bif decide (IntKind.i64.wrap (IntKind.i64.wrap (intOf (nth .dead o98 0) + intOf (nth .dead o99 0)) - 16) > 0) then
 (M_cncref01_Cmp [I (IntKind.i64.wrap (IntKind.i64.wrap (intOf (nth .dead o98 0) + intOf (nth .dead o99 0)) - 16)), I (IntKind.i64.wrap (IntKind.i64.wrap (intOf (nth .dead o98 0) + intOf (nth .dead o99 0)) - 16)), I (IntKind.i64.wrap (4 * intOf (nth .dead o98 0))), I (intOf (nth .dead o99 0))]).bind fun o100 =>
 bif decide (intOf (nth .dead o100 0) > 0) then
 some [AC.bool false]
 else
 bif x13 then
 bif intOf (nth .dead o97 0) == intOf (nth .dead o97 4) then
 some [AC.bool (intOf (nth .dead o97 1) == intOf (nth .dead o97 5))]
 else
 some [AC.bool false]
 else
 (M_cncref23_Cross [I (intOf (nth .dead o97 0)), I (intOf (nth .dead o97 1)), I (intOf (nth .dead o97 2)), I (intOf (nth .dead o97 3)), I (intOf (nth .dead o97 4)), I (intOf (nth .dead o97 5)), I (intOf (nth .dead o97 6)), I (intOf (nth .dead o97 7))]).bind fun o101 =>
 bif intOf (nth .dead o101 0) != 0 then
 some [AC.bool true]
 else
 (M_cncref23_Dot [I (intOf (nth .dead o97 0)), I (intOf (nth .dead o97 1)), I (intOf (nth .dead o97 2)), I (intOf (nth .dead o97 3)), I (intOf (nth .dead o97 4)), I (intOf (nth .dead o97 5)), I (intOf (nth .dead o97 6)), I (intOf (nth .dead o97 7))]).bind fun o102 =>
 some [AC.bool (decide (intOf (nth .dead o102 0) < 0))]
 else
 bif x13 then
 bif intOf (nth .dead o97 0) == intOf (nth .dead o97 4) then
 some [AC.bool (intOf (nth .dead o97 1) == intOf (nth .dead o97 5))]
 else
 some [AC.bool false]
 else
 (M_cncref23_Cross [I (intOf (nth .dead o97 0)), I (intOf (nth .dead o97 1)), I (intOf (nth .dead o97 2)), I (intOf (nth .dead o97 3)), I (intOf (nth .dead o97 4)), I (intOf (nth .dead o97 5)), I (intOf (nth .dead o97 6)), I (intOf (nth .dead o97 7))]).bind fun o103 =>
 bif intOf (nth .dead o103 0) != 0 then
 some [AC.bool true]
 else
 (M_cncref23_Dot [I (intOf (nth .dead o97 0)), I (intOf (nth .dead o97 1)), I (intOf (nth .dead o97 2)), I (intOf (nth .dead o97 3)), I (intOf (nth .dead o97 4)), I (intOf (nth .dead o97 5)), I (intOf (nth .dead o97 6)), I (intOf (nth .dead o97 7))]).bind fun o104 =>
 some [AC.bool (decide (intOf (nth .dead o104 0) < 0))]
 else
 (M_cncref23_within [I x9, I x10, I x11]).bind fun o105 =>
 bif !boolOf (nth .dead o105 0) then
 some [AC.bool false]
 else
 (M_cncref23_ends [I x0, I x1, I x2, I x3, I x4, I x5, I x6, I x7, I x8, I x9, I x10, I x11, I x12, AC.bool x13, I x14, AC.bool x15, I x16, I x17, I x18, I x19, I x20, AC.bool x21]).bind fun o106 =>
 (M_cncref23_Dot [I (intOf (nth .dead o106 0)), I (intOf (nth .dead o106 1)), I (intOf (nth .dead o106 2)), I (intOf (nth .dead o106 3)), I (intOf (nth .dead o106 0)), I (intOf (nth .dead o106 1)), I (intOf (nth .dead o106 2)), I (intOf (nth .dead o106 3))]).bind fun o107 =>
 (M_cncref23_Dot [I (intOf (nth .dead o106 4)), I (intOf (nth .dead o106 5)), I (intOf (nth .dead o106 6)), I (intOf (nth .dead o106 7)), I (intOf (nth .dead o106 4)), I (intOf (nth .dead o106 5)), I (intOf (nth .dead o106 6)), I (intOf (nth .dead o106 7))]).bind fun o108 =>
 bif decide (intOf (nth .dead o107 0) < 64) then
 some [AC.bool false]
 else
 bif decide (intOf (nth .dead o108 0) < 64) then
 some [AC.bool false]
 else
 bif decide (IntKind.i64.wrap (IntKind.i64.wrap (intOf (nth .dead o107 0) + intOf (nth .dead o108 0)) - 16) > 0) then
 (M_cncref01_Cmp [I (IntKind.i64.wrap (IntKind.i64.wrap (intOf (nth .dead o107 0) + intOf (nth .dead o108 0)) - 16)), I (IntKind.i64.wrap (IntKind.i64.wrap (intOf (nth .dead o107 0) + intOf (nth .dead o108 0)) - 16)), I (IntKind.i64.wrap (4 * intOf (nth .dead o107 0))), I (intOf (nth .dead o108 0))]).bind fun o109 =>
 bif decide (intOf (nth .dead o109 0) > 0) then
 some [AC.bool false]
 else
 bif x13 then
 bif intOf (nth .dead o106 0) == intOf (nth .dead o106 4) then
 some [AC.bool (intOf (nth .dead o106 1) == intOf (nth .dead o106 5))]
 else
 some [AC.bool false]
 else
 (M_cncref23_Cross [I (intOf (nth .dead o106 0)), I (intOf (nth .dead o106 1)), I (intOf (nth .dead o106 2)), I (intOf (nth .dead o106 3)), I (intOf (nth .dead o106 4)), I (intOf (nth .dead o106 5)), I (intOf (nth .dead o106 6)), I (intOf (nth .dead o106 7))]).bind fun o110 =>
 bif intOf (nth .dead o110 0) != 0 then
 some [AC.bool true]
 else
 (M_cncref23_Dot [I (intOf (nth .dead o106 0)), I (intOf (nth .dead o106 1)), I (intOf (nth .dead o106 2)), I (intOf (nth .dead o106 3)), I (intOf (nth .dead o106 4)), I (intOf (nth .dead o106 5)), I (intOf (nth .dead o106 6)), I (intOf (nth .dead o106 7))]).bind fun o111 =>
 some [AC.bool (decide (intOf (nth .dead o111 0) < 0))]
 else
 bif x13 then
 bif intOf (nth .dead o106 0) == intOf (nth .dead o106 4) then
 some [AC.bool (intOf (nth .dead o106 1) == intOf (nth .dead o106 5))]
 else
 some [AC.bool false]
 else
 (M_cncref23_Cross [I (intOf (nth .dead o106 0)), I (intOf (nth .dead o106 1)), I (intOf (nth .dead o106 2)), I (intOf (nth .dead o106 3)), I (intOf (nth .dead o106 4)), I (intOf (nth .dead o106 5)), I (intOf (nth .dead o106 6)), I (intOf (nth .dead o106 7))]).bind fun o112 =>
 bif intOf (nth .dead o112 0) != 0 then
 some [AC.bool true]
 else
 (M_cncref23_Dot [I (intOf (nth .dead o106 0)), I (intOf (nth .dead o106 1)), I (intOf (nth .dead o106 2)), I (intOf (nth .dead o106 3)), I (intOf (nth .dead o106 4)), I (intOf (nth .dead o106 5)), I (intOf (nth .dead o106 6)), I (intOf (nth .dead o106 7))]).bind fun o113 =>
 some [AC.bool (decide (intOf (nth .dead o113 0) < 0))] := by kernel_rfl
noncomputable def m_cncref23_Valid := mf_cncref23_Valid m_cncref23_Cross m_cncref01_Cmp m_cncref23_Dot m_cncref23_ends m_cncref23_within m_cncref23_Motion 
theorem sp_cncref23_Valid : SpecOK Tryz.prog (C_cncref23_Valid_0 m_cncref23_Cross m_cncref01_Cmp m_cncref23_Dot m_cncref23_ends m_cncref23_within m_cncref23_Motion) := specOK_of rfl ⟨r_cncref23_Cross, r_cncref01_Cmp, r_cncref23_Dot, r_cncref23_ends, r_cncref23_within, r_cncref23_Motion, trivial⟩
theorem r_cncref23_Valid : RowOK Tryz.prog (133, spOf sig_cncref23_Valid osig_cncref23_Valid m_cncref23_Valid) := row_of (C := (C_cncref23_Valid_0 m_cncref23_Cross m_cncref01_Cmp m_cncref23_Dot m_cncref23_ends m_cncref23_within m_cncref23_Motion)) (L := 64) (sig := sig_cncref23_Valid) (osig := osig_cncref23_Valid) (by kernel_rfl) (FnOK.bare rfl rfl rfl) sp_cncref23_Valid eqOk mixOk (by kernel_rfl) (by kernel_rfl)
def sig_cncref23_Spokes : Sk := { tmps := [TS.v true [CS.int .i64, CS.int .i64, CS.int .i64, CS.int .i64, CS.int .i64, CS.int .i64, CS.int .i64, CS.int .i64, CS.int .i64, CS.int .i64, CS.int .i64, CS.int .i64, CS.int .i64, CS.bool, CS.int .i64, CS.bool, CS.int .i64, CS.int .i64, CS.int .i64, CS.int .i64, CS.int .i64, CS.bool]], boxes := [], rows := [] }
def osig_cncref23_Spokes : Sk := { tmps := [TS.tup [(false, [CS.sl [kI, kI, kI, kI]]), (false, [CS.bool])]], boxes := [], rows := [] }
noncomputable def C_cncref23_Spokes_0 (M_cncref23_pieces M_cncref23_Ends M_cncref23_Valid : List AC → Option (List AC)) : Cfg := { spec := lookS [(152, spOf sig_cncref23_pieces osig_cncref23_pieces M_cncref23_pieces), (151, spOf sig_cncref23_Ends osig_cncref23_Ends M_cncref23_Ends), (133, spOf sig_cncref23_Valid osig_cncref23_Valid M_cncref23_Valid)], eqOk := eqAll, pure := fun f => !(elemN [152] f), ownOff := ownOff, rowDst := [20] }
noncomputable def mf_cncref23_Spokes (M_cncref23_pieces M_cncref23_Ends M_cncref23_Valid : List AC → Option (List AC))  : List AC → Option (List AC) := modelF Tryz.prog (C_cncref23_Spokes_0 M_cncref23_pieces M_cncref23_Ends M_cncref23_Valid) 64 134 sig_cncref23_Spokes osig_cncref23_Spokes
theorem mf_cncref23_Spokes_eq (M_cncref23_pieces M_cncref23_Ends M_cncref23_Valid : List AC → Option (List AC))  (x0 x1 x2 x3 x4 x5 x6 x7 x8 x9 x10 x11 x12 : Int) (x13 : Bool) (x14 : Int) (x15 : Bool) (x16 x17 x18 x19 x20 : Int) (x21 : Bool) : mf_cncref23_Spokes M_cncref23_pieces M_cncref23_Ends M_cncref23_Valid  [I x0, I x1, I x2, I x3, I x4, I x5, I x6, I x7, I x8, I x9, I x10, I x11, I x12, AC.bool x13, I x14, AC.bool x15, I x16, I x17, I x18, I x19, I x20, AC.bool x21] =
 bif x0 != 3 then
 some [AC.view [kI, kI, kI, kI] [], AC.bool false]
 else
 (M_cncref23_Valid [I x0, I x1, I x2, I x3, I x4, I x5, I x6, I x7, I x8, I x9, I x10, I x11, I x12, AC.bool x13, I x14, AC.bool x15, I x16, I x17, I x18, I x19, I x20, AC.bool x21]).bind fun o3 =>
 bif !boolOf (nth .dead o3 0) then
 some [AC.view [kI, kI, kI, kI] [], AC.bool false]
 else
 (M_cncref23_Ends [I x0, I x1, I x2, I x3, I x4, I x5, I x6, I x7, I x8, I x9, I x10, I x11, I x12, AC.bool x13, I x14, AC.bool x15, I x16, I x17, I x18, I x19, I x20, AC.bool x21]).bind fun o4 =>
 (M_cncref23_pieces [I (intOf (nth .dead o4 0)), I (intOf (nth .dead o4 1)), I (intOf (nth .dead o4 2)), I (intOf (nth .dead o4 3)), I (intOf (nth .dead o4 4)), I (intOf (nth .dead o4 5)), I (intOf (nth .dead o4 6)), I (intOf (nth .dead o4 7)), I x12, AC.bool x13, I 0]).bind fun o5 =>
 bif (([[I (intOf (nth .dead o4 0)), I (intOf (nth .dead o4 1)), I (intOf (nth .dead o4 2)), I (intOf (nth .dead o4 3))]] ++ rowsOf (nth .dead o5 0)).length * 32).ble 140737488355328 then
 some [AC.view [kI, kI, kI, kI] ([[I (intOf (nth .dead o4 0)), I (intOf (nth .dead o4 1)), I (intOf (nth .dead o4 2)), I (intOf (nth .dead o4 3))]] ++ rowsOf (nth .dead o5 0)), AC.bool true]
 else
 none := by kernel_rfl
noncomputable def m_cncref23_Spokes := mf_cncref23_Spokes m_cncref23_pieces m_cncref23_Ends m_cncref23_Valid 
theorem sp_cncref23_Spokes : SpecOK Tryz.prog (C_cncref23_Spokes_0 m_cncref23_pieces m_cncref23_Ends m_cncref23_Valid) := specOK_of rfl ⟨r_cncref23_pieces, r_cncref23_Ends, r_cncref23_Valid, trivial⟩
theorem r_cncref23_Spokes : RowOK Tryz.prog (134, spOf sig_cncref23_Spokes osig_cncref23_Spokes m_cncref23_Spokes) := row_of (C := (C_cncref23_Spokes_0 m_cncref23_pieces m_cncref23_Ends m_cncref23_Valid)) (L := 64) (sig := sig_cncref23_Spokes) (osig := osig_cncref23_Spokes) (by kernel_rfl) (FnOK.bare rfl rfl rfl) sp_cncref23_Spokes eqOk mixOk (by kernel_rfl) (by kernel_rfl)
def sig_cncref23_Chords : Sk := { tmps := [TS.v true [CS.int .i64, CS.int .i64, CS.int .i64, CS.int .i64, CS.int .i64, CS.int .i64, CS.int .i64, CS.int .i64, CS.int .i64, CS.int .i64, CS.int .i64, CS.int .i64, CS.int .i64, CS.bool, CS.int .i64, CS.bool, CS.int .i64, CS.int .i64, CS.int .i64, CS.int .i64, CS.int .i64, CS.bool]], boxes := [], rows := [] }
def osig_cncref23_Chords : Sk := { tmps := [TS.tup [(false, [CS.sl kPt]), (false, [CS.bool])]], boxes := [], rows := [] }
noncomputable def C_cncref23_Chords_0 (M_cncref23_Space M_cncref23_Plane M_cncref23_Fine M_cncref23_Spokes M_cncref23_Valid : List AC → Option (List AC)) : Cfg := { spec := lookS [(125, spOf sig_cncref23_Space osig_cncref23_Space M_cncref23_Space), (123, spOf sig_cncref23_Plane osig_cncref23_Plane M_cncref23_Plane), (81, spOf sig_cncref23_Fine osig_cncref23_Fine M_cncref23_Fine), (134, spOf sig_cncref23_Spokes osig_cncref23_Spokes M_cncref23_Spokes), (133, spOf sig_cncref23_Valid osig_cncref23_Valid M_cncref23_Valid)], eqOk := eqAll, ownOff := ownOff, prom := fun b => bif Nat.beq b 9 then [(9, 25)] else [] }
def sk_cncref23_Chords_9 : Sk := { tmps := [TS.dead, TS.v false [CS.ptr 1 0], TS.dead, TS.dead, TS.dead, TS.dead, TS.v false [CS.int .i64], TS.v false [CS.int .i64], TS.dead, TS.v false [CS.own 9 3], TS.dead, TS.dead, TS.dead, TS.dead, TS.dead, TS.dead, TS.dead, TS.dead, TS.dead, TS.dead, TS.dead, TS.dead, TS.dead, TS.dead, TS.dead, TS.dead, TS.dead, TS.dead, TS.dead, TS.dead, TS.dead, TS.dead, TS.dead, TS.dead, TS.dead, TS.dead, TS.dead, TS.dead, TS.dead, TS.v false [CS.sl [kI, kI, kI, kI]], TS.v false [CS.int .i64], TS.v false [CS.int .i64]] ++ dd 21, boxes := [(1, 67, [CS.int .i64, CS.int .i64, CS.int .i64, CS.int .i64, CS.int .i64, CS.int .i64, CS.int .i64, CS.int .i64, CS.int .i64, CS.int .i64, CS.int .i64, CS.int .i64, CS.int .i64, CS.bool, CS.int .i64, CS.bool, CS.int .i64, CS.int .i64, CS.int .i64, CS.int .i64, CS.int .i64, CS.bool])], rows := [(9, 25, kPt)] }
def ex_cncref23_Chords_9 : List (Ex × Sk) := [(Ex.exit 0, { tmps := [TS.dead, TS.dead, TS.dead, TS.dead, TS.dead, TS.dead, TS.dead, TS.dead, TS.dead, TS.v false [CS.own 9 3]] ++ dd 53, boxes := [], rows := [(9, 25, kPt)] })]
noncomputable def st_cncref23_Chords_9 (M_cncref23_Space M_cncref23_Plane M_cncref23_Fine M_cncref23_Spokes M_cncref23_Valid : List AC → Option (List AC))  : List AC → Option (Nat × List AC) := stepL Tryz.prog (C_cncref23_Chords_0 M_cncref23_Space M_cncref23_Plane M_cncref23_Fine M_cncref23_Spokes M_cncref23_Valid) 64 9 (bodyOf Tryz.prog 114 9) sk_cncref23_Chords_9 ex_cncref23_Chords_9
noncomputable def C_cncref23_Chords_1 (M_cncref23_Space M_cncref23_Plane M_cncref23_Fine M_cncref23_Spokes M_cncref23_Valid : List AC → Option (List AC))  (N9 : List AC → Option (Nat × List AC)) : Cfg := (C_cncref23_Chords_0 M_cncref23_Space M_cncref23_Plane M_cncref23_Fine M_cncref23_Spokes M_cncref23_Valid).loop 9 sk_cncref23_Chords_9 ex_cncref23_Chords_9 N9
noncomputable def mf_cncref23_Chords (M_cncref23_Space M_cncref23_Plane M_cncref23_Fine M_cncref23_Spokes M_cncref23_Valid : List AC → Option (List AC))  (N9 : List AC → Option (Nat × List AC)) : List AC → Option (List AC) := modelF Tryz.prog (C_cncref23_Chords_1 M_cncref23_Space M_cncref23_Plane M_cncref23_Fine M_cncref23_Spokes M_cncref23_Valid N9) 64 114 sig_cncref23_Chords osig_cncref23_Chords
theorem st_cncref23_Chords_9_eq (M_cncref23_Space M_cncref23_Plane M_cncref23_Fine M_cncref23_Spokes M_cncref23_Valid : List AC → Option (List AC))  (v0 : List (List AC)) (v1 v2 : Int) (v3 : List (List AC)) (v4 v5 v6 v7 v8 v9 v10 v11 v12 v13 v14 v15 v16 v17 v18 : Int) (v19 : Bool) (v20 : Int) (v21 : Bool) (v22 v23 v24 v25 v26 : Int) (v27 : Bool) : st_cncref23_Chords_9 M_cncref23_Space M_cncref23_Plane M_cncref23_Fine M_cncref23_Spokes M_cncref23_Valid  [AC.view kPt v0, I v1, I v2, AC.view [kI, kI, kI, kI] v3, I v4, I v5, I v6, I v7, I v8, I v9, I v10, I v11, I v12, I v13, I v14, I v15, I v16, I v17, I v18, AC.bool v19, I v20, AC.bool v21, I v22, I v23, I v24, I v25, I v26, AC.bool v27] =
 bif decide (v5 < v4) then
 bif decide (0 ≤ v5) && decide (v5 < (↑v3.length : Int)) then
 (M_cncref23_Space [I (IntKind.i64.wrap (v1 + intOf (nth .dead (nth [] v3 v5.toNat) 0))), I (IntKind.i64.wrap (v2 + intOf (nth .dead (nth [] v3 v5.toNat) 1))), I (intOf (nth .dead (nth [] v3 v5.toNat) 3)), I v14]).bind fun o21 =>
 bif ((v0 ++ [[I (intOf (nth .dead o21 0)), I (intOf (nth .dead o21 1)), I (intOf (nth .dead o21 2))]]).length * 24).ble 140737488355328 then
 some (0, [AC.view kPt (v0 ++ [[I (intOf (nth .dead o21 0)), I (intOf (nth .dead o21 1)), I (intOf (nth .dead o21 2))]]), I v1, I v2, AC.view [kI, kI, kI, kI] v3, I v4, I (IntKind.i64.wrap (v5 + 1)), I v6, I v7, I v8, I v9, I v10, I v11, I v12, I v13, I v14, I v15, I v16, I v17, I v18, AC.bool v19, I v20, AC.bool v21, I v22, I v23, I v24, I v25, I v26, AC.bool v27])
 else
 none
 else
 none
 else
 some (1, [AC.view kPt v0]) := by kernel_rfl
theorem mf_cncref23_Chords_eq (M_cncref23_Space M_cncref23_Plane M_cncref23_Fine M_cncref23_Spokes M_cncref23_Valid : List AC → Option (List AC))  (N9 : List AC → Option (Nat × List AC)) (x0 x1 x2 x3 x4 x5 x6 x7 x8 x9 x10 x11 x12 : Int) (x13 : Bool) (x14 : Int) (x15 : Bool) (x16 x17 x18 x19 x20 : Int) (x21 : Bool) : mf_cncref23_Chords M_cncref23_Space M_cncref23_Plane M_cncref23_Fine M_cncref23_Spokes M_cncref23_Valid  N9 [I x0, I x1, I x2, I x3, I x4, I x5, I x6, I x7, I x8, I x9, I x10, I x11, I x12, AC.bool x13, I x14, AC.bool x15, I x16, I x17, I x18, I x19, I x20, AC.bool x21] =
 (M_cncref23_Valid [I x0, I x1, I x2, I x3, I x4, I x5, I x6, I x7, I x8, I x9, I x10, I x11, I x12, AC.bool x13, I x14, AC.bool x15, I x16, I x17, I x18, I x19, I x20, AC.bool x21]).bind fun o22 =>
 bif !boolOf (nth .dead o22 0) then
 some [AC.view kPt [], AC.bool false]
 else
 (M_cncref23_Spokes [I x0, I x1, I x2, I x3, I x4, I x5, I x6, I x7, I x8, I x9, I x10, I x11, I x12, AC.bool x13, I x14, AC.bool x15, I x16, I x17, I x18, I x19, I x20, AC.bool x21]).bind fun o23 =>
 bif !boolOf (nth .dead o23 1) then
 (M_cncref23_Fine [I x2, I x3, I x4]).bind fun o24 =>
 (M_cncref23_Fine [I x5, I x6, I x7]).bind fun o25 =>
 some [AC.view kPt [[I (intOf (nth .dead o24 0)), I (intOf (nth .dead o24 1)), I (intOf (nth .dead o24 2))], [I (intOf (nth .dead o25 0)), I (intOf (nth .dead o25 1)), I (intOf (nth .dead o25 2))]], AC.bool true]
 else
 (M_cncref23_Fine [I x9, I x10, I x11]).bind fun o26 =>
 (M_cncref23_Plane [I (intOf (nth .dead o26 0)), I (intOf (nth .dead o26 1)), I (intOf (nth .dead o26 2)), I x8]).bind fun o27 =>
 (N9 [AC.view kPt [], I (intOf (nth .dead o27 0)), I (intOf (nth .dead o27 1)), AC.view [kI, kI, kI, kI] (rowsOf (nth .dead o23 0)), I (↑(rowsOf (nth .dead o23 0)).length : Int), I 0, I x0, I x1, I x2, I x3, I x4, I x5, I x6, I x7, I x8, I x9, I x10, I x11, I x12, AC.bool x13, I x14, AC.bool x15, I x16, I x17, I x18, I x19, I x20, AC.bool x21]).bind fun o28 =>
 bif o28.fst.beq 1 then
 some [AC.view kPt (rowsOf (nth .dead o28.snd 0)), AC.bool true]
 else
 none := by kernel_rfl
noncomputable def l_cncref23_Chords_9 := loopC (st_cncref23_Chords_9 m_cncref23_Space m_cncref23_Plane m_cncref23_Fine m_cncref23_Spokes m_cncref23_Valid )
noncomputable def m_cncref23_Chords := mf_cncref23_Chords m_cncref23_Space m_cncref23_Plane m_cncref23_Fine m_cncref23_Spokes m_cncref23_Valid  l_cncref23_Chords_9
theorem sp_cncref23_Chords : SpecOK Tryz.prog (C_cncref23_Chords_0 m_cncref23_Space m_cncref23_Plane m_cncref23_Fine m_cncref23_Spokes m_cncref23_Valid) := specOK_of rfl ⟨r_cncref23_Space, r_cncref23_Plane, r_cncref23_Fine, r_cncref23_Spokes, r_cncref23_Valid, trivial⟩
theorem r_cncref23_Chords : RowOK Tryz.prog (114, spOf sig_cncref23_Chords osig_cncref23_Chords m_cncref23_Chords) := row_of (C := (C_cncref23_Chords_1 m_cncref23_Space m_cncref23_Plane m_cncref23_Fine m_cncref23_Spokes m_cncref23_Valid l_cncref23_Chords_9)) (L := 64) (sig := sig_cncref23_Chords) (osig := osig_cncref23_Chords) (by kernel_rfl) ((FnOK.bare rfl rfl rfl).loop sp_cncref23_Chords eqOk mixOk (by kernel_rfl) (by kernel_rfl)) sp_cncref23_Chords eqOk mixOk (by kernel_rfl) (by kernel_rfl)
def sig_cncref25_points : Sk := { tmps := [TS.v false [CS.sl kItm], TS.v false [CS.int .i64], TS.v false [CS.int .i64]], boxes := [], rows := [] }
def osig_cncref25_points : Sk := { tmps := [TS.v false [CS.sl kPt]], boxes := [], rows := [] }
noncomputable def C_cncref25_points_0 (M_cncref25_Center M_cncref25_Soft M_cncref25_joined M_cncref25_Smooth M_cncref23_Chords : List AC → Option (List AC)) : Cfg := { spec := lookS [(90, spOf sig_cncref25_Center osig_cncref25_Center M_cncref25_Center), (86, spOf sig_cncref25_Soft osig_cncref25_Soft M_cncref25_Soft), (115, spOf sig_cncref25_joined osig_cncref25_joined M_cncref25_joined), (89, spOf sig_cncref25_Smooth osig_cncref25_Smooth M_cncref25_Smooth), (114, spOf sig_cncref23_Chords osig_cncref23_Chords M_cncref23_Chords)], eqOk := eqAll, ownOff := ownOff }
noncomputable def mf_cncref25_points (M_cncref25_Center M_cncref25_Soft M_cncref25_joined M_cncref25_Smooth M_cncref23_Chords : List AC → Option (List AC))  : List AC → Option (List AC) := modelF Tryz.prog (C_cncref25_points_0 M_cncref25_Center M_cncref25_Soft M_cncref25_joined M_cncref25_Smooth M_cncref23_Chords) 64 84 sig_cncref25_points osig_cncref25_points
theorem mf_cncref25_points_eq (M_cncref25_Center M_cncref25_Soft M_cncref25_joined M_cncref25_Smooth M_cncref23_Chords : List AC → Option (List AC))  (x0 : List (List AC)) (x1 x2 : Int) : mf_cncref25_points M_cncref25_Center M_cncref25_Soft M_cncref25_joined M_cncref25_Smooth M_cncref23_Chords  [AC.view kItm x0, I x1, I x2] =
 bif decide (0 ≤ x1) && decide (x1 < (↑x0.length : Int)) then
 (M_cncref23_Chords [I (intOf (nth .dead (nth [] x0 x1.toNat) 0)), I (intOf (nth .dead (nth [] x0 x1.toNat) 1)), I (intOf (nth .dead (nth [] x0 x1.toNat) 2)), I (intOf (nth .dead (nth [] x0 x1.toNat) 3)), I (intOf (nth .dead (nth [] x0 x1.toNat) 4)), I (intOf (nth .dead (nth [] x0 x1.toNat) 5)), I (intOf (nth .dead (nth [] x0 x1.toNat) 6)), I (intOf (nth .dead (nth [] x0 x1.toNat) 7)), I (intOf (nth .dead (nth [] x0 x1.toNat) 8)), I (intOf (nth .dead (nth [] x0 x1.toNat) 9)), I (intOf (nth .dead (nth [] x0 x1.toNat) 10)), I (intOf (nth .dead (nth [] x0 x1.toNat) 11)), I (intOf (nth .dead (nth [] x0 x1.toNat) 12)), AC.bool (boolOf (nth .dead (nth [] x0 x1.toNat) 13)), I (intOf (nth .dead (nth [] x0 x1.toNat) 14)), AC.bool (boolOf (nth .dead (nth [] x0 x1.toNat) 15)), I (intOf (nth .dead (nth [] x0 x1.toNat) 16)), I (intOf (nth .dead (nth [] x0 x1.toNat) 17)), I (intOf (nth .dead (nth [] x0 x1.toNat) 18)), I (intOf (nth .dead (nth [] x0 x1.toNat) 19)), I (intOf (nth .dead (nth [] x0 x1.toNat) 20)), AC.bool (boolOf (nth .dead (nth [] x0 x1.toNat) 21))]).bind fun o11 =>
 bif decide (0 ≤ x1) && decide (x1 < (↑x0.length : Int)) then
 (M_cncref25_Smooth [I (intOf (nth .dead (nth [] x0 x1.toNat) 0)), I (intOf (nth .dead (nth [] x0 x1.toNat) 1)), I (intOf (nth .dead (nth [] x0 x1.toNat) 2)), I (intOf (nth .dead (nth [] x0 x1.toNat) 3)), I (intOf (nth .dead (nth [] x0 x1.toNat) 4)), I (intOf (nth .dead (nth [] x0 x1.toNat) 5)), I (intOf (nth .dead (nth [] x0 x1.toNat) 6)), I (intOf (nth .dead (nth [] x0 x1.toNat) 7)), I (intOf (nth .dead (nth [] x0 x1.toNat) 8)), I (intOf (nth .dead (nth [] x0 x1.toNat) 9)), I (intOf (nth .dead (nth [] x0 x1.toNat) 10)), I (intOf (nth .dead (nth [] x0 x1.toNat) 11)), I (intOf (nth .dead (nth [] x0 x1.toNat) 12)), AC.bool (boolOf (nth .dead (nth [] x0 x1.toNat) 13)), I (intOf (nth .dead (nth [] x0 x1.toNat) 14)), AC.bool (boolOf (nth .dead (nth [] x0 x1.toNat) 15)), I (intOf (nth .dead (nth [] x0 x1.toNat) 16)), I (intOf (nth .dead (nth [] x0 x1.toNat) 17)), I (intOf (nth .dead (nth [] x0 x1.toNat) 18)), I (intOf (nth .dead (nth [] x0 x1.toNat) 19)), I (intOf (nth .dead (nth [] x0 x1.toNat) 20)), AC.bool (boolOf (nth .dead (nth [] x0 x1.toNat) 21))]).bind fun o12 =>
 bif !boolOf (nth .dead o12 0) then
 some [AC.view kPt (rowsOf (nth .dead o11 0))]
 else
 bif decide (0 ≤ 1) && decide (1 ≤ (↑(rowsOf (nth .dead o11 0)).length : Int)) then
 bif decide (0 ≤ 1) && decide (1 ≤ (↑(rowsOf (nth .dead o11 0)).length : Int)) then
 bif decide (x2 ≥ 0) then
 (M_cncref25_joined [AC.view kItm x0, I x2, I x1]).bind fun o13 =>
 bif decide (0 ≤ IntKind.i64.wrap ((↑(rowsOf (nth .dead o13 0)).length : Int).tdiv 2)) && decide (IntKind.i64.wrap ((↑(rowsOf (nth .dead o13 0)).length : Int).tdiv 2) ≤ (↑(rowsOf (nth .dead o13 0)).length : Int)) then
 (M_cncref25_Soft [AC.view kItm x0, I x1]).bind fun o14 =>
 bif decide (intOf (nth .dead o14 0) ≥ 0) then
 (M_cncref25_joined [AC.view kItm x0, I x1, I (intOf (nth .dead o14 0))]).bind fun o15 =>
 bif decide (0 ≤ IntKind.i64.wrap (IntKind.i64.wrap ((↑(rowsOf (nth .dead o15 0)).length : Int).tdiv 2) + 1)) && decide (IntKind.i64.wrap (IntKind.i64.wrap ((↑(rowsOf (nth .dead o15 0)).length : Int).tdiv 2) + 1) ≤ (↑(rowsOf (nth .dead o15 0)).length : Int)) then
 bif (([] ++ List.drop (IntKind.i64.wrap ((↑(rowsOf (nth .dead o13 0)).length : Int).tdiv 2)).toNat (rowsOf (nth .dead o13 0))).length * 24).ble 140737488355328 then
 bif decide (0 ≤ x1) && decide (x1 < (↑x0.length : Int)) then
 (M_cncref25_Center [I (intOf (nth .dead (nth [] x0 x1.toNat) 0)), I (intOf (nth .dead (nth [] x0 x1.toNat) 1)), I (intOf (nth .dead (nth [] x0 x1.toNat) 2)), I (intOf (nth .dead (nth [] x0 x1.toNat) 3)), I (intOf (nth .dead (nth [] x0 x1.toNat) 4)), I (intOf (nth .dead (nth [] x0 x1.toNat) 5)), I (intOf (nth .dead (nth [] x0 x1.toNat) 6)), I (intOf (nth .dead (nth [] x0 x1.toNat) 7)), I (intOf (nth .dead (nth [] x0 x1.toNat) 8)), I (intOf (nth .dead (nth [] x0 x1.toNat) 9)), I (intOf (nth .dead (nth [] x0 x1.toNat) 10)), I (intOf (nth .dead (nth [] x0 x1.toNat) 11)), I (intOf (nth .dead (nth [] x0 x1.toNat) 12)), AC.bool (boolOf (nth .dead (nth [] x0 x1.toNat) 13)), I (intOf (nth .dead (nth [] x0 x1.toNat) 14)), AC.bool (boolOf (nth .dead (nth [] x0 x1.toNat) 15)), I (intOf (nth .dead (nth [] x0 x1.toNat) 16)), I (intOf (nth .dead (nth [] x0 x1.toNat) 17)), I (intOf (nth .dead (nth [] x0 x1.toNat) 18)), I (intOf (nth .dead (nth [] x0 x1.toNat) 19)), I (intOf (nth .dead (nth [] x0 x1.toNat) 20)), AC.bool (boolOf (nth .dead (nth [] x0 x1.toNat) 21))]).bind fun o16 =>
 bif (([] ++ List.drop (IntKind.i64.wrap ((↑(rowsOf (nth .dead o13 0)).length : Int).tdiv 2)).toNat (rowsOf (nth .dead o13 0)) ++ [[I (intOf (nth .dead o16 0)), I (intOf (nth .dead o16 1)), I (intOf (nth .dead o16 2))]]).length * 24).ble 140737488355328 then
 bif (([] ++ List.drop (IntKind.i64.wrap ((↑(rowsOf (nth .dead o13 0)).length : Int).tdiv 2)).toNat (rowsOf (nth .dead o13 0)) ++ [[I (intOf (nth .dead o16 0)), I (intOf (nth .dead o16 1)), I (intOf (nth .dead o16 2))]] ++ List.take (IntKind.i64.wrap (IntKind.i64.wrap ((↑(rowsOf (nth .dead o15 0)).length : Int).tdiv 2) + 1)).toNat (rowsOf (nth .dead o15 0))).length * 24).ble 140737488355328 then
 some [AC.view kPt ([] ++ List.drop (IntKind.i64.wrap ((↑(rowsOf (nth .dead o13 0)).length : Int).tdiv 2)).toNat (rowsOf (nth .dead o13 0)) ++ [[I (intOf (nth .dead o16 0)), I (intOf (nth .dead o16 1)), I (intOf (nth .dead o16 2))]] ++ List.take (IntKind.i64.wrap (IntKind.i64.wrap ((↑(rowsOf (nth .dead o15 0)).length : Int).tdiv 2) + 1)).toNat (rowsOf (nth .dead o15 0)))]
 else
 none
 else
 none
 else
 none
 else
 none
 else
 none
 else
 bif (([] ++ List.drop (IntKind.i64.wrap ((↑(rowsOf (nth .dead o13 0)).length : Int).tdiv 2)).toNat (rowsOf (nth .dead o13 0))).length * 24).ble 140737488355328 then
 bif decide (0 ≤ x1) && decide (x1 < (↑x0.length : Int)) then
 (M_cncref25_Center [I (intOf (nth .dead (nth [] x0 x1.toNat) 0)), I (intOf (nth .dead (nth [] x0 x1.toNat) 1)), I (intOf (nth .dead (nth [] x0 x1.toNat) 2)), I (intOf (nth .dead (nth [] x0 x1.toNat) 3)), I (intOf (nth .dead (nth [] x0 x1.toNat) 4)), I (intOf (nth .dead (nth [] x0 x1.toNat) 5)), I (intOf (nth .dead (nth [] x0 x1.toNat) 6)), I (intOf (nth .dead (nth [] x0 x1.toNat) 7)), I (intOf (nth .dead (nth [] x0 x1.toNat) 8)), I (intOf (nth .dead (nth [] x0 x1.toNat) 9)), I (intOf (nth .dead (nth [] x0 x1.toNat) 10)), I (intOf (nth .dead (nth [] x0 x1.toNat) 11)), I (intOf (nth .dead (nth [] x0 x1.toNat) 12)), AC.bool (boolOf (nth .dead (nth [] x0 x1.toNat) 13)), I (intOf (nth .dead (nth [] x0 x1.toNat) 14)), AC.bool (boolOf (nth .dead (nth [] x0 x1.toNat) 15)), I (intOf (nth .dead (nth [] x0 x1.toNat) 16)), I (intOf (nth .dead (nth [] x0 x1.toNat) 17)), I (intOf (nth .dead (nth [] x0 x1.toNat) 18)), I (intOf (nth .dead (nth [] x0 x1.toNat) 19)), I (intOf (nth .dead (nth [] x0 x1.toNat) 20)), AC.bool (boolOf (nth .dead (nth [] x0 x1.toNat) 21))]).bind fun o17 =>
 bif (([] ++ List.drop (IntKind.i64.wrap ((↑(rowsOf (nth .dead o13 0)).length : Int).tdiv 2)).toNat (rowsOf (nth .dead o13 0)) ++ [[I (intOf (nth .dead o17 0)), I (intOf (nth .dead o17 1)), I (intOf (nth .dead o17 2))]]).length * 24).ble 140737488355328 then
 bif (([] ++ List.drop (IntKind.i64.wrap ((↑(rowsOf (nth .dead o13 0)).length : Int).tdiv 2)).toNat (rowsOf (nth .dead o13 0)) ++ [[I (intOf (nth .dead o17 0)), I (intOf (nth .dead o17 1)), I (intOf (nth .dead o17 2))]] ++ List.drop (Int.toNat 1) (rowsOf (nth .dead o11 0))).length * 24).ble 140737488355328 then
 some [AC.view kPt ([] ++ List.drop (IntKind.i64.wrap ((↑(rowsOf (nth .dead o13 0)).length : Int).tdiv 2)).toNat (rowsOf (nth .dead o13 0)) ++ [[I (intOf (nth .dead o17 0)), I (intOf (nth .dead o17 1)), I (intOf (nth .dead o17 2))]] ++ List.drop (Int.toNat 1) (rowsOf (nth .dead o11 0)))]
 else
 none
 else
 none
 else
 none
 else
 none
 else
 none
 else
 (M_cncref25_Soft [AC.view kItm x0, I x1]).bind fun o18 =>
 bif decide (intOf (nth .dead o18 0) ≥ 0) then
 (M_cncref25_joined [AC.view kItm x0, I x1, I (intOf (nth .dead o18 0))]).bind fun o19 =>
 bif decide (0 ≤ IntKind.i64.wrap (IntKind.i64.wrap ((↑(rowsOf (nth .dead o19 0)).length : Int).tdiv 2) + 1)) && decide (IntKind.i64.wrap (IntKind.i64.wrap ((↑(rowsOf (nth .dead o19 0)).length : Int).tdiv 2) + 1) ≤ (↑(rowsOf (nth .dead o19 0)).length : Int)) then
 bif (([] ++ List.take (Int.toNat 1) (rowsOf (nth .dead o11 0))).length * 24).ble 140737488355328 then
 bif decide (0 ≤ x1) && decide (x1 < (↑x0.length : Int)) then
 (M_cncref25_Center [I (intOf (nth .dead (nth [] x0 x1.toNat) 0)), I (intOf (nth .dead (nth [] x0 x1.toNat) 1)), I (intOf (nth .dead (nth [] x0 x1.toNat) 2)), I (intOf (nth .dead (nth [] x0 x1.toNat) 3)), I (intOf (nth .dead (nth [] x0 x1.toNat) 4)), I (intOf (nth .dead (nth [] x0 x1.toNat) 5)), I (intOf (nth .dead (nth [] x0 x1.toNat) 6)), I (intOf (nth .dead (nth [] x0 x1.toNat) 7)), I (intOf (nth .dead (nth [] x0 x1.toNat) 8)), I (intOf (nth .dead (nth [] x0 x1.toNat) 9)), I (intOf (nth .dead (nth [] x0 x1.toNat) 10)), I (intOf (nth .dead (nth [] x0 x1.toNat) 11)), I (intOf (nth .dead (nth [] x0 x1.toNat) 12)), AC.bool (boolOf (nth .dead (nth [] x0 x1.toNat) 13)), I (intOf (nth .dead (nth [] x0 x1.toNat) 14)), AC.bool (boolOf (nth .dead (nth [] x0 x1.toNat) 15)), I (intOf (nth .dead (nth [] x0 x1.toNat) 16)), I (intOf (nth .dead (nth [] x0 x1.toNat) 17)), I (intOf (nth .dead (nth [] x0 x1.toNat) 18)), I (intOf (nth .dead (nth [] x0 x1.toNat) 19)), I (intOf (nth .dead (nth [] x0 x1.toNat) 20)), AC.bool (boolOf (nth .dead (nth [] x0 x1.toNat) 21))]).bind fun o20 =>
 bif (([] ++ List.take (Int.toNat 1) (rowsOf (nth .dead o11 0)) ++ [[I (intOf (nth .dead o20 0)), I (intOf (nth .dead o20 1)), I (intOf (nth .dead o20 2))]]).length * 24).ble 140737488355328 then
 bif (([] ++ List.take (Int.toNat 1) (rowsOf (nth .dead o11 0)) ++ [[I (intOf (nth .dead o20 0)), I (intOf (nth .dead o20 1)), I (intOf (nth .dead o20 2))]] ++ List.take (IntKind.i64.wrap (IntKind.i64.wrap ((↑(rowsOf (nth .dead o19 0)).length : Int).tdiv 2) + 1)).toNat (rowsOf (nth .dead o19 0))).length * 24).ble 140737488355328 then
 some [AC.view kPt ([] ++ List.take (Int.toNat 1) (rowsOf (nth .dead o11 0)) ++ [[I (intOf (nth .dead o20 0)), I (intOf (nth .dead o20 1)), I (intOf (nth .dead o20 2))]] ++ List.take (IntKind.i64.wrap (IntKind.i64.wrap ((↑(rowsOf (nth .dead o19 0)).length : Int).tdiv 2) + 1)).toNat (rowsOf (nth .dead o19 0)))]
 else
 none
 else
 none
 else
 none
 else
 none
 else
 none
 else
 bif (([] ++ List.take (Int.toNat 1) (rowsOf (nth .dead o11 0))).length * 24).ble 140737488355328 then
 bif decide (0 ≤ x1) && decide (x1 < (↑x0.length : Int)) then
 (M_cncref25_Center [I (intOf (nth .dead (nth [] x0 x1.toNat) 0)), I (intOf (nth .dead (nth [] x0 x1.toNat) 1)), I (intOf (nth .dead (nth [] x0 x1.toNat) 2)), I (intOf (nth .dead (nth [] x0 x1.toNat) 3)), I (intOf (nth .dead (nth [] x0 x1.toNat) 4)), I (intOf (nth .dead (nth [] x0 x1.toNat) 5)), I (intOf (nth .dead (nth [] x0 x1.toNat) 6)), I (intOf (nth .dead (nth [] x0 x1.toNat) 7)), I (intOf (nth .dead (nth [] x0 x1.toNat) 8)), I (intOf (nth .dead (nth [] x0 x1.toNat) 9)), I (intOf (nth .dead (nth [] x0 x1.toNat) 10)), I (intOf (nth .dead (nth [] x0 x1.toNat) 11)), I (intOf (nth .dead (nth [] x0 x1.toNat) 12)), AC.bool (boolOf (nth .dead (nth [] x0 x1.toNat) 13)), I (intOf (nth .dead (nth [] x0 x1.toNat) 14)), AC.bool (boolOf (nth .dead (nth [] x0 x1.toNat) 15)), I (intOf (nth .dead (nth [] x0 x1.toNat) 16)), I (intOf (nth .dead (nth [] x0 x1.toNat) 17)), I (intOf (nth .dead (nth [] x0 x1.toNat) 18)), I (intOf (nth .dead (nth [] x0 x1.toNat) 19)), I (intOf (nth .dead (nth [] x0 x1.toNat) 20)), AC.bool (boolOf (nth .dead (nth [] x0 x1.toNat) 21))]).bind fun o21 =>
 bif (([] ++ List.take (Int.toNat 1) (rowsOf (nth .dead o11 0)) ++ [[I (intOf (nth .dead o21 0)), I (intOf (nth .dead o21 1)), I (intOf (nth .dead o21 2))]]).length * 24).ble 140737488355328 then
 bif (([] ++ List.take (Int.toNat 1) (rowsOf (nth .dead o11 0)) ++ [[I (intOf (nth .dead o21 0)), I (intOf (nth .dead o21 1)), I (intOf (nth .dead o21 2))]] ++ List.drop (Int.toNat 1) (rowsOf (nth .dead o11 0))).length * 24).ble 140737488355328 then
 some [AC.view kPt ([] ++ List.take (Int.toNat 1) (rowsOf (nth .dead o11 0)) ++ [[I (intOf (nth .dead o21 0)), I (intOf (nth .dead o21 1)), I (intOf (nth .dead o21 2))]] ++ List.drop (Int.toNat 1) (rowsOf (nth .dead o11 0)))]
 else
 none
 else
 none
 else
 none
 else
 none
 else
 none
 else
 none
 else
 none
 else
 none := by kernel_rfl
noncomputable def m_cncref25_points := mf_cncref25_points m_cncref25_Center m_cncref25_Soft m_cncref25_joined m_cncref25_Smooth m_cncref23_Chords 
theorem sp_cncref25_points : SpecOK Tryz.prog (C_cncref25_points_0 m_cncref25_Center m_cncref25_Soft m_cncref25_joined m_cncref25_Smooth m_cncref23_Chords) := specOK_of rfl ⟨r_cncref25_Center, r_cncref25_Soft, r_cncref25_joined, r_cncref25_Smooth, r_cncref23_Chords, trivial⟩
theorem r_cncref25_points : RowOK Tryz.prog (84, spOf sig_cncref25_points osig_cncref25_points m_cncref25_points) := row_of (C := (C_cncref25_points_0 m_cncref25_Center m_cncref25_Soft m_cncref25_joined m_cncref25_Smooth m_cncref23_Chords)) (L := 64) (sig := sig_cncref25_points) (osig := osig_cncref25_points) (by kernel_rfl) (FnOK.bare rfl rfl rfl) sp_cncref25_points eqOk mixOk (by kernel_rfl) (by kernel_rfl)
def sig_cncref25_Rate : Sk := { tmps := [TS.v true [CS.int .i64, CS.int .i64, CS.int .i64, CS.int .i64, CS.int .i64, CS.int .i64, CS.int .i64, CS.int .i64, CS.int .i64, CS.int .i64, CS.int .i64, CS.int .i64, CS.int .i64, CS.bool, CS.int .i64, CS.bool, CS.int .i64, CS.int .i64, CS.int .i64, CS.int .i64, CS.int .i64, CS.bool], TS.v false [CS.int .i64]], boxes := [], rows := [] }
def osig_cncref25_Rate : Sk := { tmps := [TS.v false [CS.int .i64]], boxes := [], rows := [] }
noncomputable def C_cncref25_Rate_0 (M_cncref24_Rounded : List AC → Option (List AC)) : Cfg := { spec := lookS [(72, spOf sig_cncref24_Rounded osig_cncref24_Rounded M_cncref24_Rounded)], eqOk := eqAll, ownOff := ownOff }
noncomputable def mf_cncref25_Rate (M_cncref24_Rounded : List AC → Option (List AC))  : List AC → Option (List AC) := modelF Tryz.prog (C_cncref25_Rate_0 M_cncref24_Rounded) 64 82 sig_cncref25_Rate osig_cncref25_Rate
theorem mf_cncref25_Rate_eq (M_cncref24_Rounded : List AC → Option (List AC))  (x0 x1 x2 x3 x4 x5 x6 x7 x8 x9 x10 x11 x12 : Int) (x13 : Bool) (x14 : Int) (x15 : Bool) (x16 x17 x18 x19 x20 : Int) (x21 : Bool) (x22 : Int) : mf_cncref25_Rate M_cncref24_Rounded  [I x0, I x1, I x2, I x3, I x4, I x5, I x6, I x7, I x8, I x9, I x10, I x11, I x12, AC.bool x13, I x14, AC.bool x15, I x16, I x17, I x18, I x19, I x20, AC.bool x21, I x22] =
 bif x0 == 1 then
 some [I 0]
 else
 bif x15 then
 (M_cncref24_Rounded [I (IntKind.i64.wrap (IntKind.i64.wrap (mn (IntKind.i64.wrap (x14 * mx x22 1)) 60000000 * 16) * 256)), I 60000]).bind fun o2 =>
 some [I (mx (intOf (nth .dead o2 0)) 1)]
 else
 (M_cncref24_Rounded [I (IntKind.i64.wrap (IntKind.i64.wrap (mn x14 60000000 * 16) * 256)), I 60000]).bind fun o3 =>
 some [I (mx (intOf (nth .dead o3 0)) 1)] := by kernel_rfl
noncomputable def m_cncref25_Rate := mf_cncref25_Rate m_cncref24_Rounded 
theorem sp_cncref25_Rate : SpecOK Tryz.prog (C_cncref25_Rate_0 m_cncref24_Rounded) := specOK_of rfl ⟨r_cncref24_Rounded, trivial⟩
theorem r_cncref25_Rate : RowOK Tryz.prog (82, spOf sig_cncref25_Rate osig_cncref25_Rate m_cncref25_Rate) := row_of (C := (C_cncref25_Rate_0 m_cncref24_Rounded)) (L := 64) (sig := sig_cncref25_Rate) (osig := osig_cncref25_Rate) (by kernel_rfl) (FnOK.bare rfl rfl rfl) sp_cncref25_Rate eqOk mixOk (by kernel_rfl) (by kernel_rfl)
def sig_cncref25_other : Sk := { tmps := [TS.v true [CS.int .i64, CS.int .i64, CS.int .i64, CS.int .i64, CS.int .i64, CS.int .i64, CS.int .i64, CS.int .i64, CS.int .i64, CS.int .i64, CS.int .i64, CS.int .i64, CS.int .i64, CS.bool, CS.int .i64, CS.bool, CS.int .i64, CS.int .i64, CS.int .i64, CS.int .i64, CS.int .i64, CS.bool]], boxes := [], rows := [] }
def osig_cncref25_other : Sk := { tmps := [TS.v false [CS.int .i64]], boxes := [], rows := [] }
noncomputable def C_cncref25_other_0  : Cfg := { spec := lookS [], eqOk := eqAll, ownOff := ownOff }
noncomputable def mf_cncref25_other   : List AC → Option (List AC) := modelF Tryz.prog C_cncref25_other_0 64 80 sig_cncref25_other osig_cncref25_other
theorem mf_cncref25_other_eq   (x0 x1 x2 x3 x4 x5 x6 x7 x8 x9 x10 x11 x12 : Int) (x13 : Bool) (x14 : Int) (x15 : Bool) (x16 x17 x18 x19 x20 : Int) (x21 : Bool) : mf_cncref25_other   [I x0, I x1, I x2, I x3, I x4, I x5, I x6, I x7, I x8, I x9, I x10, I x11, I x12, AC.bool x13, I x14, AC.bool x15, I x16, I x17, I x18, I x19, I x20, AC.bool x21] =
 bif x0 == 10 then
 some [I 5]
 else
 bif x0 == 13 then
 some [I 4]
 else
 some [I 3] := by kernel_rfl
noncomputable def m_cncref25_other := mf_cncref25_other  
theorem sp_cncref25_other : SpecOK Tryz.prog (C_cncref25_other_0 ) := specOK_of rfl trivial
theorem r_cncref25_other : RowOK Tryz.prog (80, spOf sig_cncref25_other osig_cncref25_other m_cncref25_other) := row_of (C := C_cncref25_other_0) (L := 64) (sig := sig_cncref25_other) (osig := osig_cncref25_other) (by kernel_rfl) (FnOK.bare rfl rfl rfl) sp_cncref25_other eqOk mixOk (by kernel_rfl) (by kernel_rfl)
def sig_cncref25_wrong : Sk := { tmps := [TS.v true [CS.int .i64, CS.int .i64, CS.int .i64, CS.int .i64, CS.int .i64, CS.int .i64, CS.int .i64, CS.int .i64, CS.int .i64, CS.int .i64, CS.int .i64, CS.int .i64, CS.int .i64, CS.bool, CS.int .i64, CS.bool, CS.int .i64, CS.int .i64, CS.int .i64, CS.int .i64, CS.int .i64, CS.bool]], boxes := [], rows := [] }
def osig_cncref25_wrong : Sk := { tmps := [TS.v false [CS.bool]], boxes := [], rows := [] }
noncomputable def C_cncref25_wrong_0 (M_cncref23_Valid M_cncref23_Motion : List AC → Option (List AC)) : Cfg := { spec := lookS [(133, spOf sig_cncref23_Valid osig_cncref23_Valid M_cncref23_Valid), (79, spOf sig_cncref23_Motion osig_cncref23_Motion M_cncref23_Motion)], eqOk := eqAll, ownOff := ownOff }
noncomputable def mf_cncref25_wrong (M_cncref23_Valid M_cncref23_Motion : List AC → Option (List AC))  : List AC → Option (List AC) := modelF Tryz.prog (C_cncref25_wrong_0 M_cncref23_Valid M_cncref23_Motion) 64 113 sig_cncref25_wrong osig_cncref25_wrong
theorem mf_cncref25_wrong_eq (M_cncref23_Valid M_cncref23_Motion : List AC → Option (List AC))  (x0 x1 x2 x3 x4 x5 x6 x7 x8 x9 x10 x11 x12 : Int) (x13 : Bool) (x14 : Int) (x15 : Bool) (x16 x17 x18 x19 x20 : Int) (x21 : Bool) : mf_cncref25_wrong M_cncref23_Valid M_cncref23_Motion  [I x0, I x1, I x2, I x3, I x4, I x5, I x6, I x7, I x8, I x9, I x10, I x11, I x12, AC.bool x13, I x14, AC.bool x15, I x16, I x17, I x18, I x19, I x20, AC.bool x21] =
 bif decide (x0 < 1) then
 some [AC.bool true]
 else
 bif decide (x0 > 14) then
 some [AC.bool true]
 else
 (M_cncref23_Motion [I x0]).bind fun o2 =>
 bif boolOf (nth .dead o2 0) then
 (M_cncref23_Valid [I x0, I x1, I x2, I x3, I x4, I x5, I x6, I x7, I x8, I x9, I x10, I x11, I x12, AC.bool x13, I x14, AC.bool x15, I x16, I x17, I x18, I x19, I x20, AC.bool x21]).bind fun o3 =>
 bif !boolOf (nth .dead o3 0) then
 some [AC.bool true]
 else
 bif x0 != 1 then
 bif decide (x14 < 1) then
 some [AC.bool true]
 else
 bif decide (x14 > 60000000) then
 some [AC.bool true]
 else
 bif decide (x18 < 0) then
 some [AC.bool true]
 else
 some [AC.bool (decide (x18 > 1000))]
 else
 bif decide (x18 < 0) then
 some [AC.bool true]
 else
 some [AC.bool (decide (x18 > 1000))]
 else
 bif x0 == 8 then
 bif decide (x19 < 3) then
 some [AC.bool true]
 else
 bif decide (x19 > 5) then
 some [AC.bool true]
 else
 bif decide (x20 < 0) then
 some [AC.bool true]
 else
 some [AC.bool (decide (x20 > 30000))]
 else
 some [AC.bool false] := by kernel_rfl
noncomputable def m_cncref25_wrong := mf_cncref25_wrong m_cncref23_Valid m_cncref23_Motion 
theorem sp_cncref25_wrong : SpecOK Tryz.prog (C_cncref25_wrong_0 m_cncref23_Valid m_cncref23_Motion) := specOK_of rfl ⟨r_cncref23_Valid, r_cncref23_Motion, trivial⟩
theorem r_cncref25_wrong : RowOK Tryz.prog (113, spOf sig_cncref25_wrong osig_cncref25_wrong m_cncref25_wrong) := row_of (C := (C_cncref25_wrong_0 m_cncref23_Valid m_cncref23_Motion)) (L := 64) (sig := sig_cncref25_wrong) (osig := osig_cncref25_wrong) (by kernel_rfl) (FnOK.bare rfl rfl rfl) sp_cncref25_wrong eqOk mixOk (by kernel_rfl) (by kernel_rfl)
def sig_cncref25_Check : Sk := { tmps := [TS.v false [CS.sl kItm]], boxes := [], rows := [] }
def osig_cncref25_Check : Sk := { tmps := [TS.v false [CS.int .i64]], boxes := [], rows := [] }
noncomputable def C_cncref25_Check_0 (M_cncref23_Motion M_cncref25_wrong : List AC → Option (List AC)) : Cfg := { spec := lookS [(79, spOf sig_cncref23_Motion osig_cncref23_Motion M_cncref23_Motion), (113, spOf sig_cncref25_wrong osig_cncref25_wrong M_cncref25_wrong)], eqOk := eqAll, ownOff := ownOff }
def sk_cncref25_Check_5 : Sk := { tmps := [TS.v false [CS.sl kItm], TS.dead, TS.dead, TS.v false [CS.int .i64], TS.dead, TS.dead, TS.dead, TS.dead, TS.dead, TS.v false [CS.sl kItm], TS.v false [CS.int .i64], TS.v false [CS.int .i64]] ++ dd 24, boxes := [], rows := [] }
def ex_cncref25_Check_5 : List (Ex × Sk) := [(Ex.ret, { tmps := [TS.dead, TS.dead, TS.v false [CS.int .i64]] ++ dd 33, boxes := [], rows := [] }), (Ex.exit 0, { tmps := [TS.dead] ++ dd 35, boxes := [], rows := [] })]
noncomputable def st_cncref25_Check_5 (M_cncref23_Motion M_cncref25_wrong : List AC → Option (List AC))  : List AC → Option (Nat × List AC) := stepL Tryz.prog (C_cncref25_Check_0 M_cncref23_Motion M_cncref25_wrong) 64 5 (bodyOf Tryz.prog 78 5) sk_cncref25_Check_5 ex_cncref25_Check_5
noncomputable def C_cncref25_Check_1 (M_cncref23_Motion M_cncref25_wrong : List AC → Option (List AC))  (N5 : List AC → Option (Nat × List AC)) : Cfg := (C_cncref25_Check_0 M_cncref23_Motion M_cncref25_wrong).loop 5 sk_cncref25_Check_5 ex_cncref25_Check_5 N5
noncomputable def mf_cncref25_Check (M_cncref23_Motion M_cncref25_wrong : List AC → Option (List AC))  (N5 : List AC → Option (Nat × List AC)) : List AC → Option (List AC) := modelF Tryz.prog (C_cncref25_Check_1 M_cncref23_Motion M_cncref25_wrong N5) 64 78 sig_cncref25_Check osig_cncref25_Check
theorem st_cncref25_Check_5_eq (M_cncref23_Motion M_cncref25_wrong : List AC → Option (List AC))  (v0 : List (List AC)) (v1 : Int) (v2 : List (List AC)) (v3 v4 : Int) : st_cncref25_Check_5 M_cncref23_Motion M_cncref25_wrong  [AC.view kItm v0, I v1, AC.view kItm v2, I v3, I v4] =
 bif decide (v4 < v3) then
 bif decide (0 ≤ v4) && decide (v4 < (↑v2.length : Int)) then
 (M_cncref25_wrong [I (intOf (nth .dead (nth [] v2 v4.toNat) 0)), I (intOf (nth .dead (nth [] v2 v4.toNat) 1)), I (intOf (nth .dead (nth [] v2 v4.toNat) 2)), I (intOf (nth .dead (nth [] v2 v4.toNat) 3)), I (intOf (nth .dead (nth [] v2 v4.toNat) 4)), I (intOf (nth .dead (nth [] v2 v4.toNat) 5)), I (intOf (nth .dead (nth [] v2 v4.toNat) 6)), I (intOf (nth .dead (nth [] v2 v4.toNat) 7)), I (intOf (nth .dead (nth [] v2 v4.toNat) 8)), I (intOf (nth .dead (nth [] v2 v4.toNat) 9)), I (intOf (nth .dead (nth [] v2 v4.toNat) 10)), I (intOf (nth .dead (nth [] v2 v4.toNat) 11)), I (intOf (nth .dead (nth [] v2 v4.toNat) 12)), AC.bool (boolOf (nth .dead (nth [] v2 v4.toNat) 13)), I (intOf (nth .dead (nth [] v2 v4.toNat) 14)), AC.bool (boolOf (nth .dead (nth [] v2 v4.toNat) 15)), I (intOf (nth .dead (nth [] v2 v4.toNat) 16)), I (intOf (nth .dead (nth [] v2 v4.toNat) 17)), I (intOf (nth .dead (nth [] v2 v4.toNat) 18)), I (intOf (nth .dead (nth [] v2 v4.toNat) 19)), I (intOf (nth .dead (nth [] v2 v4.toNat) 20)), AC.bool (boolOf (nth .dead (nth [] v2 v4.toNat) 21))]).bind fun o3 =>
 bif boolOf (nth .dead o3 0) then
 some (1, [I 1])
 else
 (M_cncref23_Motion [I (intOf (nth .dead (nth [] v2 v4.toNat) 0))]).bind fun o4 =>
 bif !boolOf (nth .dead o4 0) then
 some (0, [AC.view kItm v0, I v1, AC.view kItm v2, I v3, I (IntKind.i64.wrap (v4 + 1))])
 else
 bif decide (v1 ≥ 0) then
 bif decide (0 ≤ v1) && decide (v1 < (↑v0.length : Int)) then
 bif !(intOf (nth .dead (nth [] v0 v1.toNat) 5) == intOf (nth .dead (nth [] v2 v4.toNat) 2) && (intOf (nth .dead (nth [] v0 v1.toNat) 6) == intOf (nth .dead (nth [] v2 v4.toNat) 3) && (intOf (nth .dead (nth [] v0 v1.toNat) 7) == intOf (nth .dead (nth [] v2 v4.toNat) 4) && true))) then
 some (1, [I 13])
 else
 some (0, [AC.view kItm v0, I v4, AC.view kItm v2, I v3, I (IntKind.i64.wrap (v4 + 1))])
 else
 none
 else
 some (0, [AC.view kItm v0, I v4, AC.view kItm v2, I v3, I (IntKind.i64.wrap (v4 + 1))])
 else
 none
 else
 some (2, []) := by kernel_rfl
theorem mf_cncref25_Check_eq (M_cncref23_Motion M_cncref25_wrong : List AC → Option (List AC))  (N5 : List AC → Option (Nat × List AC)) (x0 : List (List AC)) : mf_cncref25_Check M_cncref23_Motion M_cncref25_wrong  N5 [AC.view kItm x0] =
 bif decide ((↑x0.length : Int) > 20000) then
 some [I 10]
 else
 (N5 [AC.view kItm x0, I (-1), AC.view kItm x0, I (↑x0.length : Int), I 0]).bind fun o5 =>
 bif o5.fst.beq 1 then
 some [I (intOf (nth .dead o5.snd 0))]
 else
 bif o5.fst.beq 2 then
 some [I 0]
 else
 none := by kernel_rfl
noncomputable def l_cncref25_Check_5 := loopC (st_cncref25_Check_5 m_cncref23_Motion m_cncref25_wrong )
noncomputable def m_cncref25_Check := mf_cncref25_Check m_cncref23_Motion m_cncref25_wrong  l_cncref25_Check_5
theorem sp_cncref25_Check : SpecOK Tryz.prog (C_cncref25_Check_0 m_cncref23_Motion m_cncref25_wrong) := specOK_of rfl ⟨r_cncref23_Motion, r_cncref25_wrong, trivial⟩
theorem r_cncref25_Check : RowOK Tryz.prog (78, spOf sig_cncref25_Check osig_cncref25_Check m_cncref25_Check) := row_of (C := (C_cncref25_Check_1 m_cncref23_Motion m_cncref25_wrong l_cncref25_Check_5)) (L := 64) (sig := sig_cncref25_Check) (osig := osig_cncref25_Check) (by kernel_rfl) ((FnOK.bare rfl rfl rfl).loop sp_cncref25_Check eqOk mixOk (by kernel_rfl) (by kernel_rfl)) sp_cncref25_Check eqOk mixOk (by kernel_rfl) (by kernel_rfl)
end Go.Bm
