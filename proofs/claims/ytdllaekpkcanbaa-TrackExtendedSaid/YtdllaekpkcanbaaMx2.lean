/- functions of the program and of the references, as models -/
import Derived.Test.YtdllaekpkcanbaaMx1
set_option linter.unusedSimpArgs false
set_option linter.unusedVariables false
set_option maxRecDepth 100000
noncomputable section
namespace Go.Bm
open Go.Proofs
def sig_cncref23_root : Sk := { tmps := [tf [ci]], boxes := [], rows := [] }
def osig_cncref23_root : Sk := { tmps := [tf [ci]], boxes := [], rows := [] }
def C_cncref23_root_0 : Cfg := { spec := Qbq [], eqOk := Qbu, ownOff := ownOff }
def sk_cncref23_root_3 : Sk := { tmps := [tf [ci], td, td, tf [ci], tf [ci]] ++ dd 17, boxes := [], rows := [] }
def ex_cncref23_root_3 : List (Ex × Sk) := [(Ex.exit 0, { tmps := [td, td, td, tf [ci]] ++ dd 18, boxes := [], rows := [] })]
def Qd9 : Lp := stepL Try.prog C_cncref23_root_0 64 3 (Qg8 Try.prog 142 3) sk_cncref23_root_3 ex_cncref23_root_3
def C_cncref23_root_1 (N3 : Lp) : Cfg := C_cncref23_root_0.loop 3 sk_cncref23_root_3 ex_cncref23_root_3 N3
def mf_cncref23_root (N3 : Lp) : Fn := Qau Try.prog (C_cncref23_root_1 N3) 64 142 sig_cncref23_root osig_cncref23_root
theorem st_cncref23_root_3_eq (v0 v1 v2 : Int) : Qd9 [I v0, I v1, I v2] =
 bif decide (v2 > 0) then
 bif decide (IntKind.i64.wrap (IntKind.i64.wrap (v1 + v2) * IntKind.i64.wrap (v1 + v2)) <= v0) then
 some (0, [I v0, I (IntKind.i64.wrap (v1 + v2)), I (v2.fdiv (2 ^ min (Int.toNat 1) IntKind.i64.bits))])
 else
 some (0, [I v0, I v1, I (v2.fdiv (2 ^ min (Int.toNat 1) IntKind.i64.bits))])
 else
 some (1, [I v1]) := by kernel_rfl
theorem mf_cncref23_root_eq (N3 : Lp) (x0 : Int) : mf_cncref23_root N3 [I x0] =
 (N3 [I x0, I 0, I 1073741824]).bind fun o1 =>
 bif o1.1.beq 1 then
 some [jA o1.2 0]
 else
 none := by kernel_rfl
def l_cncref23_root_3 := Qby (Qd9 )
def m_cncref23_root := mf_cncref23_root l_cncref23_root_3
def Qlx : Sk := { tmps := [TS.v true [ci, ci, ci], TS.v true [ci, ci, ci]], boxes := [], rows := [] }
def Qkd : Sk := { tmps := [tf [ci]], boxes := [], rows := [] }
def C_cncref23_Square_0 : Cfg := { spec := Qbq [], eqOk := Qbu, ownOff := ownOff, unroll := [3] }
def mf_cncref23_Square : Fn := Qau Try.prog C_cncref23_Square_0 64 110 Qlx Qkd
theorem mf_cncref23_Square_eq (x0 x1 x2 x3 x4 x5 : Int) : mf_cncref23_Square [I x0, I x1, I x2, I x3, I x4, I x5] =
 some [I (IntKind.i64.wrap (IntKind.i64.wrap (IntKind.i64.wrap (0 + IntKind.i64.wrap (IntKind.i64.wrap (x0 - x3) * IntKind.i64.wrap (x0 - x3))) + IntKind.i64.wrap (IntKind.i64.wrap (x1 - x4) * IntKind.i64.wrap (x1 - x4))) + IntKind.i64.wrap (IntKind.i64.wrap (x2 - x5) * IntKind.i64.wrap (x2 - x5))))] := by kernel_rfl
def Qjx := mf_cncref23_Square 
def sig_cncref23_Length : Sk := { tmps := [TS.v true [ci, ci, ci], TS.v true [ci, ci, ci]], boxes := [], rows := [] }
def osig_cncref23_Length : Sk := { tmps := [tf [ci]], boxes := [], rows := [] }
def C_cncref23_Length_0 (Qgt Qbw : Fn) : Cfg := { spec := Qbq [(142, spOf sig_cncref23_root osig_cncref23_root Qgt), (110, spOf Qlx Qkd Qbw)], eqOk := Qbu, ownOff := ownOff }
def Qmy (Qgt Qbw : Fn) : Fn := Qau Try.prog (C_cncref23_Length_0 Qgt Qbw) 64 96 sig_cncref23_Length osig_cncref23_Length
theorem mf_cncref23_Length_eq (Qgt Qbw : Fn) (x0 x1 x2 x3 x4 x5 : Int) : Qmy Qgt Qbw [I x0, I x1, I x2, I x3, I x4, I x5] =
 (Qbw [I x0, I x1, I x2, I x3, I x4, I x5]).bind fun o2 =>
 (Qgt [jA o2 0]).bind fun o3 =>
 bif decide (IntKind.i64.wrap (gA o3 0 * gA o3 0) < gA o2 0) then
 some [I (IntKind.i64.wrap (gA o3 0 + 1))]
 else
 some [jA o3 0] := by kernel_rfl
def m_cncref23_Length := Qmy m_cncref23_root Qjx 
def sig_cncref24_Add : Sk := { tmps := [TS.v true [ci, ci, ci], TS.v true [ci, ci, ci]], boxes := [], rows := [] }
def osig_cncref24_Add : Sk := { tmps := [TS.v true [ci, ci, ci]], boxes := [], rows := [] }
def C_cncref24_Add_0 : Cfg := { spec := Qbq [], eqOk := Qbu, ownOff := ownOff }
def mf_cncref24_Add : Fn := Qau Try.prog C_cncref24_Add_0 64 193 sig_cncref24_Add osig_cncref24_Add
theorem mf_cncref24_Add_eq (x0 x1 x2 x3 x4 x5 : Int) : mf_cncref24_Add [I x0, I x1, I x2, I x3, I x4, I x5] =
 some [I (IntKind.i64.wrap (x0 + x3)), I (IntKind.i64.wrap (x1 + x4)), I (IntKind.i64.wrap (x2 + x5))] := by kernel_rfl
def m_cncref24_Add := mf_cncref24_Add 
def sig_cncref24_Minus : Sk := { tmps := [TS.v true [ci, ci, ci], TS.v true [ci, ci, ci]], boxes := [], rows := [] }
def osig_cncref24_Minus : Sk := { tmps := [TS.v true [ci, ci, ci]], boxes := [], rows := [] }
def C_cncref24_Minus_0 : Cfg := { spec := Qbq [], eqOk := Qbu, ownOff := ownOff }
def mf_cncref24_Minus : Fn := Qau Try.prog C_cncref24_Minus_0 64 108 sig_cncref24_Minus osig_cncref24_Minus
theorem mf_cncref24_Minus_eq (x0 x1 x2 x3 x4 x5 : Int) : mf_cncref24_Minus [I x0, I x1, I x2, I x3, I x4, I x5] =
 some [I (IntKind.i64.wrap (x0 - x3)), I (IntKind.i64.wrap (x1 - x4)), I (IntKind.i64.wrap (x2 - x5))] := by kernel_rfl
def Qlm := mf_cncref24_Minus 
def sig_cncref24_Bend : Sk := { tmps := [TS.v true [ci, ci, ci], TS.v true [ci, ci, ci], TS.v true [ci, ci, ci]], boxes := [], rows := [] }
def osig_cncref24_Bend : Sk := { tmps := [tf [ci]], boxes := [], rows := [] }
def C_cncref24_Bend_0 (Qbw Qig Qe3 : Fn) : Cfg := { spec := Qbq [(110, spOf Qlx Qkd Qbw), (193, spOf sig_cncref24_Add osig_cncref24_Add Qig), (108, spOf sig_cncref24_Minus osig_cncref24_Minus Qe3)], eqOk := Qbu, ownOff := ownOff }
def mf_cncref24_Bend (Qbw Qig Qe3 : Fn) : Fn := Qau Try.prog (C_cncref24_Bend_0 Qbw Qig Qe3) 64 189 sig_cncref24_Bend osig_cncref24_Bend
theorem mf_cncref24_Bend_eq (Qbw Qig Qe3 : Fn) (x0 x1 x2 x3 x4 x5 x6 x7 x8 : Int) : mf_cncref24_Bend Qbw Qig Qe3 [I x0, I x1, I x2, I x3, I x4, I x5, I x6, I x7, I x8] =
 (Qe3 [I x0, I x1, I x2, I x3, I x4, I x5]).bind fun o4 =>
 (Qe3 [I x6, I x7, I x8, I x3, I x4, I x5]).bind fun o5 =>
 (Qig [jA o4 0, jA o4 1, jA o4 2, jA o5 0, jA o5 1, jA o5 2]).bind fun o6 =>
 (Qbw [jA o6 0, jA o6 1, jA o6 2, I 0, I 0, I 0]).bind fun o7 =>
 some [jA o7 0] := by kernel_rfl
def m_cncref24_Bend := mf_cncref24_Bend Qjx m_cncref24_Add Qlm 
def sig_cncref24_Pieces : Sk := { tmps := [TS.v true [ci, ci, ci], TS.v true [ci, ci, ci], TS.v true [ci, ci, ci]], boxes := [], rows := [] }
def osig_cncref24_Pieces : Sk := { tmps := [tf [ci]], boxes := [], rows := [] }
def C_cncref24_Pieces_0 (Qcw : Fn) : Cfg := { spec := Qbq [(189, spOf sig_cncref24_Bend osig_cncref24_Bend Qcw)], eqOk := Qbu, ownOff := ownOff }
def sk_cncref24_Pieces_2 : Sk := { tmps := [td, td, td, tf [CS.ptr 3 0], tf [CS.ptr 4 0], tf [CS.ptr 5 0], td, tf [ci]] ++ dd 22, boxes := [(3, 23, [ci, ci, ci]), (4, 23, [ci, ci, ci]), (5, 23, [ci, ci, ci])], rows := [] }
def ex_cncref24_Pieces_2 : List (Ex × Sk) := [(Ex.exit 0, { tmps := [td, td, td, td, td, td, td, tf [ci]] ++ dd 22, boxes := [], rows := [] })]
def Qe4 (Qcw : Fn) : Lp := stepL Try.prog (C_cncref24_Pieces_0 Qcw) 64 2 (Qg8 Try.prog 183 2) sk_cncref24_Pieces_2 ex_cncref24_Pieces_2
def C_cncref24_Pieces_1 (Qcw : Fn) (N2 : Lp) : Cfg := (C_cncref24_Pieces_0 Qcw).loop 2 sk_cncref24_Pieces_2 ex_cncref24_Pieces_2 N2
def mf_cncref24_Pieces (Qcw : Fn) (N2 : Lp) : Fn := Qau Try.prog (C_cncref24_Pieces_1 Qcw N2) 64 183 sig_cncref24_Pieces osig_cncref24_Pieces
theorem st_cncref24_Pieces_2_eq (Qcw : Fn) (v0 v1 v2 v3 v4 v5 v6 v7 v8 v9 : Int) : Qe4 Qcw [I v0, I v1, I v2, I v3, I v4, I v5, I v6, I v7, I v8, I v9] =
 bif decide (v0 < 64) then
 (Qcw [I v1, I v2, I v3, I v4, I v5, I v6, I v7, I v8, I v9]).bind fun o2 =>
 bif decide (gA o2 0 > IntKind.i64.wrap (IntKind.i64.wrap (IntKind.i64.wrap (IntKind.i64.wrap (IntKind.i64.wrap (IntKind.i64.wrap (16 * v0) * v0) * v0) * v0) * 4) * 4)) then
 some (0, [I (IntKind.i64.wrap (v0 * 2)), I v1, I v2, I v3, I v4, I v5, I v6, I v7, I v8, I v9])
 else
 some (1, [I v0])
 else
 some (1, [I v0]) := by kernel_rfl
theorem mf_cncref24_Pieces_eq (Qcw : Fn) (N2 : Lp) (x0 x1 x2 x3 x4 x5 x6 x7 x8 : Int) : mf_cncref24_Pieces Qcw N2 [I x0, I x1, I x2, I x3, I x4, I x5, I x6, I x7, I x8] =
 (N2 [I 2, I x0, I x1, I x2, I x3, I x4, I x5, I x6, I x7, I x8]).bind fun o3 =>
 bif o3.1.beq 1 then
 some [jA o3.2 0]
 else
 none := by kernel_rfl
def l_cncref24_Pieces_2 := Qby (Qe4 m_cncref24_Bend )
def m_cncref24_Pieces := mf_cncref24_Pieces m_cncref24_Bend l_cncref24_Pieces_2
def sig_cncref23_product : Sk := { tmps := [tf [CS.int .u64], tf [CS.int .u64]], boxes := [], rows := [] }
def osig_cncref23_product : Sk := { tmps := [TS.tup [(false, [CS.int .u64]), (false, [CS.int .u64])]], boxes := [], rows := [] }
def C_cncref23_product_0 : Cfg := { spec := Qbq [], eqOk := Qbu, ownOff := ownOff }
def mf_cncref23_product : Fn := Qau Try.prog C_cncref23_product_0 64 187 sig_cncref23_product osig_cncref23_product
theorem mf_cncref23_product_eq (x0 x1 : Int) : mf_cncref23_product [U x0, U x1] =
 some [U (IntKind.u64.wrap (IntKind.u64.wrap (IntKind.u64.wrap (x0.fdiv (2 ^ min (Int.toNat 32) IntKind.u64.bits) * x1.fdiv (2 ^ min (Int.toNat 32) IntKind.u64.bits)) + (IntKind.u64.wrap (IntKind.u64.wrap (x0.fdiv (2 ^ min (Int.toNat 32) IntKind.u64.bits) * IntKind.u64.wrap (↑(BitVec.ofInt IntKind.u64.bits x1 &&& BitVec.ofInt IntKind.u64.bits 4294967295).toNat : Int)) + (IntKind.u64.wrap (IntKind.u64.wrap (↑(BitVec.ofInt IntKind.u64.bits x0 &&& BitVec.ofInt IntKind.u64.bits 4294967295).toNat : Int) * IntKind.u64.wrap (↑(BitVec.ofInt IntKind.u64.bits x1 &&& BitVec.ofInt IntKind.u64.bits 4294967295).toNat : Int))).fdiv (2 ^ min (Int.toNat 32) IntKind.u64.bits))).fdiv (2 ^ min (Int.toNat 32) IntKind.u64.bits)) + (IntKind.u64.wrap (IntKind.u64.wrap (IntKind.u64.wrap (↑(BitVec.ofInt IntKind.u64.bits x0 &&& BitVec.ofInt IntKind.u64.bits 4294967295).toNat : Int) * x1.fdiv (2 ^ min (Int.toNat 32) IntKind.u64.bits)) + IntKind.u64.wrap (↑(BitVec.ofInt IntKind.u64.bits (IntKind.u64.wrap (IntKind.u64.wrap (x0.fdiv (2 ^ min (Int.toNat 32) IntKind.u64.bits) * IntKind.u64.wrap (↑(BitVec.ofInt IntKind.u64.bits x1 &&& BitVec.ofInt IntKind.u64.bits 4294967295).toNat : Int)) + (IntKind.u64.wrap (IntKind.u64.wrap (↑(BitVec.ofInt IntKind.u64.bits x0 &&& BitVec.ofInt IntKind.u64.bits 4294967295).toNat : Int) * IntKind.u64.wrap (↑(BitVec.ofInt IntKind.u64.bits x1 &&& BitVec.ofInt IntKind.u64.bits 4294967295).toNat : Int))).fdiv (2 ^ min (Int.toNat 32) IntKind.u64.bits))) &&& BitVec.ofInt IntKind.u64.bits 4294967295).toNat : Int))).fdiv (2 ^ min (Int.toNat 32) IntKind.u64.bits))), U (IntKind.u64.wrap (↑(BitVec.ofInt IntKind.u64.bits (IntKind.u64.wrap (IntKind.u64.wrap (IntKind.u64.wrap (IntKind.u64.wrap (↑(BitVec.ofInt IntKind.u64.bits x0 &&& BitVec.ofInt IntKind.u64.bits 4294967295).toNat : Int) * x1.fdiv (2 ^ min (Int.toNat 32) IntKind.u64.bits)) + IntKind.u64.wrap (↑(BitVec.ofInt IntKind.u64.bits (IntKind.u64.wrap (IntKind.u64.wrap (x0.fdiv (2 ^ min (Int.toNat 32) IntKind.u64.bits) * IntKind.u64.wrap (↑(BitVec.ofInt IntKind.u64.bits x1 &&& BitVec.ofInt IntKind.u64.bits 4294967295).toNat : Int)) + (IntKind.u64.wrap (IntKind.u64.wrap (↑(BitVec.ofInt IntKind.u64.bits x0 &&& BitVec.ofInt IntKind.u64.bits 4294967295).toNat : Int) * IntKind.u64.wrap (↑(BitVec.ofInt IntKind.u64.bits x1 &&& BitVec.ofInt IntKind.u64.bits 4294967295).toNat : Int))).fdiv (2 ^ min (Int.toNat 32) IntKind.u64.bits))) &&& BitVec.ofInt IntKind.u64.bits 4294967295).toNat : Int)) * 2 ^ min (Int.toNat 32) IntKind.u64.bits)) ||| BitVec.ofInt IntKind.u64.bits (IntKind.u64.wrap (↑(BitVec.ofInt IntKind.u64.bits (IntKind.u64.wrap (IntKind.u64.wrap (↑(BitVec.ofInt IntKind.u64.bits x0 &&& BitVec.ofInt IntKind.u64.bits 4294967295).toNat : Int) * IntKind.u64.wrap (↑(BitVec.ofInt IntKind.u64.bits x1 &&& BitVec.ofInt IntKind.u64.bits 4294967295).toNat : Int))) &&& BitVec.ofInt IntKind.u64.bits 4294967295).toNat : Int))).toNat : Int))] := by kernel_rfl
def m_cncref23_product := mf_cncref23_product 
def sig_cncref23_most : Sk := { tmps := [tf [CS.int .u64], tf [CS.int .u64], tf [CS.int .u64], tf [CS.int .u64], tf [CS.bool]], boxes := [], rows := [] }
def osig_cncref23_most : Sk := { tmps := [tf [CS.bool]], boxes := [], rows := [] }
def C_cncref23_most_0 (Qeb : Fn) : Cfg := { spec := Qbq [(187, spOf sig_cncref23_product osig_cncref23_product Qeb)], eqOk := Qbu, ownOff := ownOff }
def mf_cncref23_most (Qeb : Fn) : Fn := Qau Try.prog (C_cncref23_most_0 Qeb) 64 180 sig_cncref23_most osig_cncref23_most
theorem mf_cncref23_most_eq (Qeb : Fn) (x0 x1 x2 x3 : Int) (x4 : Bool) : mf_cncref23_most Qeb [U x0, U x1, U x2, U x3, B x4] =
 (Qeb [U x0, U x1]).bind fun o2 =>
 (Qeb [U x2, U x3]).bind fun o3 =>
 bif decide (gA o2 0 < gA o3 0) then
 some [B true]
 else
 bif gA o2 0 == gA o3 0 then
 bif decide (gA o2 1 < gA o3 1) then
 some [B true]
 else
 bif gA o2 1 == gA o3 1 then
 some [B !x4]
 else
 some [B false]
 else
 some [B false] := by kernel_rfl
def m_cncref23_most := mf_cncref23_most m_cncref23_product 
def sig_cncref23_Near : Sk := { tmps := [tf [ci], tf [ci], tf [ci]], boxes := [], rows := [] }
def osig_cncref23_Near : Sk := { tmps := [tf [ci]], boxes := [], rows := [] }
def C_cncref23_Near_0 (Qcg : Fn) : Cfg := { spec := Qbq [(180, spOf sig_cncref23_most osig_cncref23_most Qcg)], eqOk := Qbu, ownOff := ownOff }
def sk_cncref23_Near_3 : Sk := { tmps := [tf [ci], td, td, td, td, td, td, tf [CS.int .u64], tf [CS.int .u64], tf [CS.int .u64], tf [CS.int .u64]] ++ dd 51, boxes := [], rows := [] }
def ex_cncref23_Near_3 : List (Ex × Sk) := [(Ex.exit 0, { tmps := [tf [ci], td, td, td, td, td, td, tf [CS.int .u64], tf [CS.int .u64], tf [CS.int .u64]] ++ dd 52, boxes := [], rows := [] })]
def Qed (Qcg : Fn) : Lp := stepL Try.prog (C_cncref23_Near_0 Qcg) 64 3 (Qg8 Try.prog 170 3) sk_cncref23_Near_3 ex_cncref23_Near_3
def C_cncref23_Near_1 (Qcg : Fn) (N3 : Lp) : Cfg := (C_cncref23_Near_0 Qcg).loop 3 sk_cncref23_Near_3 ex_cncref23_Near_3 N3
def mf_cncref23_Near (Qcg : Fn) (N3 : Lp) : Fn := Qau Try.prog (C_cncref23_Near_1 Qcg N3) 64 170 sig_cncref23_Near osig_cncref23_Near
theorem st_cncref23_Near_3_eq (Qcg : Fn) (v0 v1 v2 v3 v4 : Int) : Qed Qcg [I v0, U v1, U v2, U v3, U v4] =
 bif decide (v4 > 0) then
 (Qcg [U (IntKind.u64.wrap (IntKind.u64.wrap (v3 + v4) * IntKind.u64.wrap (v3 + v4))), U v2, U v1, U v1, B false]).bind fun o3 =>
 bif bA o3 0 then
 some (0, [I v0, U v1, U v2, U (IntKind.u64.wrap (v3 + v4)), U (v4.fdiv (2 ^ min (Int.toNat 1) IntKind.u64.bits))])
 else
 some (0, [I v0, U v1, U v2, U v3, U (v4.fdiv (2 ^ min (Int.toNat 1) IntKind.u64.bits))])
 else
 some (1, [I v0, U v1, U v2, U v3]) := by kernel_rfl
theorem mf_cncref23_Near_eq (Qcg : Fn) (N3 : Lp) (x0 x1 x2 : Int) : mf_cncref23_Near Qcg N3 [I x0, I x1, I x2] =
 (N3 [I x0, U (IntKind.u64.wrap (IntKind.i64.wrap (mx x0 (IntKind.i64.wrap (0 - x0)) * x1))), U (IntKind.u64.wrap x2), U 0, U 134217728]).bind fun o4 =>
 bif o4.1.beq 1 then
 (Qcg [U (IntKind.u64.wrap (IntKind.u64.wrap (IntKind.u64.wrap (2 * gA o4.2 3) + 1) * IntKind.u64.wrap (IntKind.u64.wrap (2 * gA o4.2 3) + 1))), U (gA o4.2 2), U (IntKind.u64.wrap (2 * gA o4.2 1)), U (IntKind.u64.wrap (2 * gA o4.2 1)), B (decide (gA o4.2 0 < 0))]).bind fun o5 =>
 bif bA o5 0 then
 bif decide (gA o4.2 0 < 0) then
 some [I (IntKind.i64.wrap (0 - IntKind.i64.wrap (IntKind.u64.wrap (gA o4.2 3 + 1))))]
 else
 some [I (IntKind.i64.wrap (IntKind.u64.wrap (gA o4.2 3 + 1)))]
 else
 bif decide (gA o4.2 0 < 0) then
 some [I (IntKind.i64.wrap (0 - IntKind.i64.wrap (gA o4.2 3)))]
 else
 some [I (IntKind.i64.wrap (gA o4.2 3))]
 else
 none := by kernel_rfl
def l_cncref23_Near_3 := Qby (Qed m_cncref23_most )
def Qnq := mf_cncref23_Near m_cncref23_most l_cncref23_Near_3
def Qmh : Sk := { tmps := [tf [ci], tf [ci], tf [ci], tf [ci]], boxes := [], rows := [] }
def Qlo : Sk := { tmps := [TS.v true [ci, ci, ci]], boxes := [], rows := [] }
def Qm6 : Cfg := { spec := Qbq [], eqOk := Qbu, ownOff := ownOff }
def mf_cncref23_Space : Fn := Qau Try.prog Qm6 64 65 Qmh Qlo
theorem mf_cncref23_Space_eq (x0 x1 x2 x3 : Int) : mf_cncref23_Space [I x0, I x1, I x2, I x3] =
 bif x3 == 17 then
 some [I x0, I x1, I x2]
 else
 bif x3 == 18 then
 some [I x1, I x2, I x0]
 else
 bif x3 == 19 then
 some [I x2, I x0, I x1]
 else
 some [I 0, I 0, I 0] := by kernel_rfl
def Qfy := mf_cncref23_Space 
theorem sp_cncref23_Space : Qar Try.prog (Qm6 ) := Qae rfl trivial
theorem r_cncref23_Space : Qbt Try.prog (65, spOf Qmh Qlo Qfy) := Qa5 (C := Qm6) (L := 64) (by kernel_rfl) (FnOK.bare rfl rfl rfl) sp_cncref23_Space eqOk Qbj (by kernel_rfl) (by kernel_rfl)
def sig_cncref23_Plane : Sk := { tmps := [TS.v true [ci, ci, ci], tf [ci]], boxes := [], rows := [] }
def Qlv : Sk := { tmps := [TS.tup [(false, [ci]), (false, [ci]), (false, [ci])]], boxes := [], rows := [] }
def C_cncref23_Plane_0 : Cfg := { spec := Qbq [], eqOk := Qbu, ownOff := ownOff }
def mf_cncref23_Plane : Fn := Qau Try.prog C_cncref23_Plane_0 64 64 sig_cncref23_Plane Qlv
theorem mf_cncref23_Plane_eq (x0 x1 x2 x3 : Int) : mf_cncref23_Plane [I x0, I x1, I x2, I x3] =
 bif x3 == 17 then
 some [I x0, I x1, I x2]
 else
 bif x3 == 18 then
 some [I x2, I x0, I x1]
 else
 bif x3 == 19 then
 some [I x1, I x2, I x0]
 else
 some [I 0, I 0, I 0] := by kernel_rfl
def Qfz := mf_cncref23_Plane 
theorem sp_cncref23_Plane : Qar Try.prog (C_cncref23_Plane_0 ) := Qae rfl trivial
theorem r_cncref23_Plane : Qbt Try.prog (64, spOf sig_cncref23_Plane Qlv Qfz) := Qa5 (C := C_cncref23_Plane_0) (L := 64) (by kernel_rfl) (FnOK.bare rfl rfl rfl) sp_cncref23_Plane eqOk Qbj (by kernel_rfl) (by kernel_rfl)
abbrev Qfn (Qcx : Fn) (x2 x6 : Int) (Qcy : Fn) (x3 x7 : Int) (h1_0 h1_1 : Bool) (h1_2 h1_3 h1_4 : AC) : Option (List AC) :=
 bif h1_0 then
 bif h1_1 then
 some [I 0, I 0, I 0, I 0, B false]
 else
 (Qcx [I x2, I x6]).bind fun o104 =>
 (Qcy [h1_2, jA o104 0, h1_3]).bind fun o105 =>
 (Qcy [h1_4, jA o104 0, h1_3]).bind fun o106 =>
 (Qcx [I x3, I x7]).bind fun o107 =>
 some [jA o105 0, jA o106 0, jA o104 0, jA o107 0, B true]
 else
 (Qcx [I x2, I x6]).bind fun o108 =>
 (Qcy [h1_2, jA o108 0, h1_3]).bind fun o109 =>
 (Qcy [h1_4, jA o108 0, h1_3]).bind fun o110 =>
 (Qcx [I x3, I x7]).bind fun o111 =>
 some [jA o109 0, jA o110 0, jA o108 0, jA o111 0, B true]
attribute [go_sem] Qfn
abbrev Qlp (Qc7 : Fn) (x0 x1 x2 x3 x4 x5 x6 x7 : Int) (Qcx Qcy : Fn) (x8 : Int) : Option (List AC) :=
 (Qc7 [I x0, I x1, I x2, I x3, I x4, I x5, I x6, I x7]).bind fun o122 =>
 bif decide (gA o122 0 > 0) then
 Qfn Qcx x2 x6 Qcy x3 x7 (IntKind.i64.wrap (0 - IntKind.i64.wrap (x0 + x4)) == 0) (IntKind.i64.wrap (0 - IntKind.i64.wrap (x1 + x5)) == 0) (I (IntKind.i64.wrap (0 - IntKind.i64.wrap (x0 + x4)))) (I (IntKind.i64.wrap (IntKind.i64.wrap (IntKind.i64.wrap (0 - IntKind.i64.wrap (x0 + x4)) * IntKind.i64.wrap (0 - IntKind.i64.wrap (x0 + x4))) + IntKind.i64.wrap (IntKind.i64.wrap (0 - IntKind.i64.wrap (x1 + x5)) * IntKind.i64.wrap (0 - IntKind.i64.wrap (x1 + x5)))))) (I (IntKind.i64.wrap (0 - IntKind.i64.wrap (x1 + x5))))
 else
 Qfn Qcx x2 x6 Qcy x3 x7 (IntKind.i64.wrap (x8 * IntKind.i64.wrap (x5 - x1)) == 0) (IntKind.i64.wrap (x8 * IntKind.i64.wrap (x0 - x4)) == 0) (I (IntKind.i64.wrap (x8 * IntKind.i64.wrap (x5 - x1)))) (I (IntKind.i64.wrap (IntKind.i64.wrap (IntKind.i64.wrap (x8 * IntKind.i64.wrap (x5 - x1)) * IntKind.i64.wrap (x8 * IntKind.i64.wrap (x5 - x1))) + IntKind.i64.wrap (IntKind.i64.wrap (x8 * IntKind.i64.wrap (x0 - x4)) * IntKind.i64.wrap (x8 * IntKind.i64.wrap (x0 - x4)))))) (I (IntKind.i64.wrap (x8 * IntKind.i64.wrap (x0 - x4))))
attribute [go_sem] Qlp
abbrev g_cncref23_Middle_3 (x9 : Bool) (Qcx : Fn) (x2 x6 : Int) (Qcy : Fn) (x3 x7 x0 x1 : Int) (Qc7 : Fn) (x4 x5 : Int) (Qf0 : Fn) (x8 : Int) : Option (List AC) :=
 bif x9 then
 Qfn Qcx x2 x6 Qcy x3 x7 (IntKind.i64.wrap (0 - x0) == 0) (IntKind.i64.wrap (0 - x1) == 0) (I (IntKind.i64.wrap (0 - x0))) (I (IntKind.i64.wrap (IntKind.i64.wrap (IntKind.i64.wrap (0 - x0) * IntKind.i64.wrap (0 - x0)) + IntKind.i64.wrap (IntKind.i64.wrap (0 - x1) * IntKind.i64.wrap (0 - x1))))) (I (IntKind.i64.wrap (0 - x1)))
 else
 (Qc7 [I x0, I x1, I x2, I x3, I x4, I x5, I x6, I x7]).bind fun o112 =>
 bif decide (gA o112 0 > 0) then
 (Qf0 [I x0, I x1, I x2, I x3, I x4, I x5, I x6, I x7]).bind fun o113 =>
 bif decide (IntKind.i64.wrap (gA o113 0 * x8) > 0) then
 Qfn Qcx x2 x6 Qcy x3 x7 (IntKind.i64.wrap (x0 + x4) == 0) (IntKind.i64.wrap (x1 + x5) == 0) (I (IntKind.i64.wrap (x0 + x4))) (I (IntKind.i64.wrap (IntKind.i64.wrap (IntKind.i64.wrap (x0 + x4) * IntKind.i64.wrap (x0 + x4)) + IntKind.i64.wrap (IntKind.i64.wrap (x1 + x5) * IntKind.i64.wrap (x1 + x5))))) (I (IntKind.i64.wrap (x1 + x5)))
 else
 Qlp Qc7 x0 x1 x2 x3 x4 x5 x6 x7 Qcx Qcy x8
 else
 Qlp Qc7 x0 x1 x2 x3 x4 x5 x6 x7 Qcx Qcy x8
attribute [go_sem] g_cncref23_Middle_3
abbrev g_cncref23_Valid_2 (x13 : Bool) (o61 : List AC) (Qf0 Qc7 : Fn) : Option (List AC) :=
 bif x13 then
 bif gA o61 0 == gA o61 4 then
 some [B (gA o61 1 == gA o61 5)]
 else
 some [B false]
 else
 (Qf0 [jA o61 0, jA o61 1, jA o61 2, jA o61 3, jA o61 4, jA o61 5, jA o61 6, jA o61 7]).bind fun o65 =>
 bif gA o65 0 != 0 then
 some [B true]
 else
 (Qc7 [jA o61 0, jA o61 1, jA o61 2, jA o61 3, jA o61 4, jA o61 5, jA o61 6, jA o61 7]).bind fun o66 =>
 some [B (decide (gA o66 0 < 0))]
attribute [go_sem] g_cncref23_Valid_2
abbrev g_cncref23_Valid_1 (M_cncref23_within : Fn) (x9 x10 x11 : Int) (M_cncref23_ends : Fn) (x0 x1 x2 x3 x4 x5 x6 x7 x8 x12 : Int) (x13 : Bool) (x14 : Int) (x15 : Bool) (x16 x17 x18 x19 x20 : Int) (x21 : Bool) (Qc7 M_cncref01_Cmp Qf0 : Fn) : Option (List AC) :=
 (M_cncref23_within [I x9, I x10, I x11]).bind fun o60 =>
 bif !bA o60 0 then
 some [B false]
 else
 (M_cncref23_ends [I x0, I x1, I x2, I x3, I x4, I x5, I x6, I x7, I x8, I x9, I x10, I x11, I x12, B x13, I x14, B x15, I x16, I x17, I x18, I x19, I x20, B x21]).bind fun o61 =>
 (Qc7 [jA o61 0, jA o61 1, jA o61 2, jA o61 3, jA o61 0, jA o61 1, jA o61 2, jA o61 3]).bind fun o62 =>
 (Qc7 [jA o61 4, jA o61 5, jA o61 6, jA o61 7, jA o61 4, jA o61 5, jA o61 6, jA o61 7]).bind fun o63 =>
 bif decide (gA o62 0 < 64) then
 some [B false]
 else
 bif decide (gA o63 0 < 64) then
 some [B false]
 else
 bif decide (IntKind.i64.wrap (IntKind.i64.wrap (gA o62 0 + gA o63 0) - 16) > 0) then
 (M_cncref01_Cmp [I (IntKind.i64.wrap (IntKind.i64.wrap (gA o62 0 + gA o63 0) - 16)), I (IntKind.i64.wrap (IntKind.i64.wrap (gA o62 0 + gA o63 0) - 16)), I (IntKind.i64.wrap (4 * gA o62 0)), jA o63 0]).bind fun o64 =>
 bif decide (gA o64 0 > 0) then
 some [B false]
 else
 g_cncref23_Valid_2 x13 o61 Qf0 Qc7
 else
 g_cncref23_Valid_2 x13 o61 Qf0 Qc7
attribute [go_sem] g_cncref23_Valid_1
end Go.Bm
