/- functions of the program and of the references, as models -/
import Derived.Test.YtdllaekpkcanbaaGreatSeShelf
import Derived.Test.YtdllaekpkcanbaaGreatSeExt
import Derived.Test.YtdllaekpkcanbaaGreatSePre
import Derived.Test.YtdllaekpkcanbaaGreatBmTy
set_option linter.unusedSimpArgs false
set_option linter.unusedVariables false
set_option maxRecDepth 100000
noncomputable section
namespace Go.Bm
open Go.Proofs
def Qn3 : Sk := { tmps := [tf [ci]], boxes := [], rows := [] }
def Qmg : Sk := { tmps := [tf [ci]], boxes := [], rows := [] }
def C_cncref23_root_0 : Cfg := { spec := Qby [], eqOk := Qb2, ownOff := ownOff }
def sk_cncref23_root_3 : Sk := { tmps := [tf [ci], td, td, tf [ci], tf [ci]] ++ dd 17, boxes := [], rows := [] }
def ex_cncref23_root_3 : List (Ex × Sk) := [(Ex.exit 0, { tmps := [td, td, td, tf [ci]] ++ dd 18, boxes := [], rows := [] })]
def Qfs : Lp := Qkk Tryz.prog C_cncref23_root_0 64 3 (Qfk Tryz.prog 117 3) sk_cncref23_root_3 ex_cncref23_root_3
def C_cncref23_root_1 (N3 : Lp) : Cfg := C_cncref23_root_0.loop 3 sk_cncref23_root_3 ex_cncref23_root_3 N3
def mf_cncref23_root (N3 : Lp) : Fn := Qax Tryz.prog (C_cncref23_root_1 N3) 64 117 Qn3 Qmg
theorem st_cncref23_root_3_eq (v0 v1 v2 : Int) : Qfs [I v0, I v1, I v2] =
 bif decide (v2 > 0) then
 bif decide (IntKind.i64.wrap (IntKind.i64.wrap (v1 + v2) * IntKind.i64.wrap (v1 + v2)) <= v0) then
 some (0, [I v0, I (IntKind.i64.wrap (v1 + v2)), I (v2.fdiv (2 ^ min (Int.toNat 1) IntKind.i64.bits))])
 else
 some (0, [I v0, I v1, I (v2.fdiv (2 ^ min (Int.toNat 1) IntKind.i64.bits))])
 else
 some (1, [I v1]) := by kernel_rfl
theorem mf_cncref23_root_eq (N3 : Lp) (x0 : Int) : mf_cncref23_root N3 [I x0] =
 (N3 [I x0, I 0, I 1073741824]).bind fun o1 =>
 bif o1.1.beq 1 then
 some [jA o1.2 0]
 else
 none := by kernel_rfl
def l_cncref23_root_3 := Qbn (Qfs )
def Qfr := mf_cncref23_root l_cncref23_root_3
theorem sp_cncref23_root : Qaj Tryz.prog (C_cncref23_root_0 ) := Qae rfl trivial
theorem r_cncref23_root : Qbp Tryz.prog (117, spOf Qn3 Qmg Qfr) := Qa0 (C := (C_cncref23_root_1 l_cncref23_root_3)) (L := 64) (by kernel_rfl) ((FnOK.bare rfl rfl rfl).loop sp_cncref23_root eqOk Qa7 (by kernel_rfl) (by kernel_rfl)) sp_cncref23_root eqOk Qa7 (by kernel_rfl) (by kernel_rfl)
def Qhx : Sk := { tmps := [TS.v true [ci, ci, ci], TS.v true [ci, ci, ci]], boxes := [], rows := [] }
def Qha : Sk := { tmps := [tf [ci]], boxes := [], rows := [] }
def C_cncref23_Square_0 : Cfg := { spec := Qby [], eqOk := Qb2, ownOff := ownOff, unroll := [3] }
def mf_cncref23_Square : Fn := Qax Tryz.prog C_cncref23_Square_0 64 116 Qhx Qha
theorem mf_cncref23_Square_eq (x0 x1 x2 x3 x4 x5 : Int) : mf_cncref23_Square [I x0, I x1, I x2, I x3, I x4, I x5] =
 some [I (IntKind.i64.wrap (IntKind.i64.wrap (IntKind.i64.wrap (0 + IntKind.i64.wrap (IntKind.i64.wrap (x0 - x3) * IntKind.i64.wrap (x0 - x3))) + IntKind.i64.wrap (IntKind.i64.wrap (x1 - x4) * IntKind.i64.wrap (x1 - x4))) + IntKind.i64.wrap (IntKind.i64.wrap (x2 - x5) * IntKind.i64.wrap (x2 - x5))))] := by kernel_rfl
def Qc1 := mf_cncref23_Square 
theorem sp_cncref23_Square : Qaj Tryz.prog (C_cncref23_Square_0 ) := Qae rfl trivial
theorem r_cncref23_Square : Qbp Tryz.prog (116, spOf Qhx Qha Qc1) := Qa0 (C := C_cncref23_Square_0) (L := 64) (by kernel_rfl) (FnOK.bare rfl rfl rfl) sp_cncref23_Square eqOk Qa7 (by kernel_rfl) (by kernel_rfl)
def Qic : Sk := { tmps := [TS.v true [ci, ci, ci], TS.v true [ci, ci, ci]], boxes := [], rows := [] }
def Qg8 : Sk := { tmps := [tf [ci]], boxes := [], rows := [] }
def C_cncref23_Length_0 (Qdq Qbm : Fn) : Cfg := { spec := Qby [(117, spOf Qn3 Qmg Qdq), (116, spOf Qhx Qha Qbm)], eqOk := Qb2, ownOff := ownOff }
def mf_cncref23_Length (Qdq Qbm : Fn) : Fn := Qax Tryz.prog (C_cncref23_Length_0 Qdq Qbm) 64 85 Qic Qg8
theorem mf_cncref23_Length_eq (Qdq Qbm : Fn) (x0 x1 x2 x3 x4 x5 : Int) : mf_cncref23_Length Qdq Qbm [I x0, I x1, I x2, I x3, I x4, I x5] =
 (Qbm [I x0, I x1, I x2, I x3, I x4, I x5]).bind fun o2 =>
 (Qdq [jA o2 0]).bind fun o3 =>
 bif decide (IntKind.i64.wrap (gA o3 0 * gA o3 0) < gA o2 0) then
 some [I (IntKind.i64.wrap (gA o3 0 + 1))]
 else
 some [jA o3 0] := by kernel_rfl
def Qbw := mf_cncref23_Length Qfr Qc1 
theorem sp_cncref23_Length : Qaj Tryz.prog (C_cncref23_Length_0 Qfr Qc1) := Qae rfl ⟨r_cncref23_root, r_cncref23_Square, trivial⟩
theorem r_cncref23_Length : Qbp Tryz.prog (85, spOf Qic Qg8 Qbw) := Qa0 (C := (C_cncref23_Length_0 Qfr Qc1)) (L := 64) (by kernel_rfl) (FnOK.bare rfl rfl rfl) sp_cncref23_Length eqOk Qa7 (by kernel_rfl) (by kernel_rfl)
def Qht : Sk := { tmps := [TS.v true [ci, ci, ci]], boxes := [], rows := [] }
def Qgp : Sk := { tmps := [TS.v true [ci, ci, ci]], boxes := [], rows := [] }
def C_cncref23_Fine_0 : Cfg := { spec := Qby [], eqOk := Qb2, ownOff := ownOff }
def mf_cncref23_Fine : Fn := Qax Tryz.prog C_cncref23_Fine_0 64 81 Qht Qgp
theorem mf_cncref23_Fine_eq (x0 x1 x2 : Int) : mf_cncref23_Fine [I x0, I x1, I x2] =
 some [I (IntKind.i64.wrap (x0 * 16)), I (IntKind.i64.wrap (x1 * 16)), I (IntKind.i64.wrap (x2 * 16))] := by kernel_rfl
def Qbo := mf_cncref23_Fine 
theorem sp_cncref23_Fine : Qaj Tryz.prog (C_cncref23_Fine_0 ) := Qae rfl trivial
theorem r_cncref23_Fine : Qbp Tryz.prog (81, spOf Qht Qgp Qbo) := Qa0 (C := C_cncref23_Fine_0) (L := 64) (by kernel_rfl) (FnOK.bare rfl rfl rfl) sp_cncref23_Fine eqOk Qa7 (by kernel_rfl) (by kernel_rfl)
def Qig : Sk := { tmps := [TS.v true [ci, ci, ci, ci, ci, ci, ci, ci, ci, ci, ci, ci, ci, CS.bool, ci, CS.bool, ci, ci, ci, ci, ci, CS.bool]], boxes := [], rows := [] }
def Qg7 : Sk := { tmps := [TS.v true [ci, ci, ci]], boxes := [], rows := [] }
def C_cncref25_Center_0 : Cfg := { spec := Qby [], eqOk := Qb2, ownOff := ownOff }
def mf_cncref25_Center : Fn := Qax Tryz.prog C_cncref25_Center_0 64 90 Qig Qg7
theorem mf_cncref25_Center_eq (x0 x1 x2 x3 x4 x5 x6 x7 x8 x9 x10 x11 x12 : Int) (x13 : Bool) (x14 : Int) (x15 : Bool) (x16 x17 x18 x19 x20 : Int) (x21 : Bool) : mf_cncref25_Center [I x0, I x1, I x2, I x3, I x4, I x5, I x6, I x7, I x8, I x9, I x10, I x11, I x12, B x13, I x14, B x15, I x16, I x17, I x18, I x19, I x20, B x21] =
 some [I (IntKind.i64.wrap (IntKind.i64.wrap (x2 + x5) * 8)), I (IntKind.i64.wrap (IntKind.i64.wrap (x3 + x6) * 8)), I (IntKind.i64.wrap (IntKind.i64.wrap (x4 + x7) * 8))] := by kernel_rfl
def Qco := mf_cncref25_Center 
theorem sp_cncref25_Center : Qaj Tryz.prog (C_cncref25_Center_0 ) := Qae rfl trivial
theorem r_cncref25_Center : Qbp Tryz.prog (90, spOf Qig Qg7 Qco) := Qa0 (C := C_cncref25_Center_0) (L := 64) (by kernel_rfl) (FnOK.bare rfl rfl rfl) sp_cncref25_Center eqOk Qa7 (by kernel_rfl) (by kernel_rfl)
def sig_cncref25_Length : Sk := { tmps := [TS.v true [ci, ci, ci, CS.sl kSgm, CS.sl kPt]], boxes := [], rows := [] }
def Qom : Sk := { tmps := [tf [ci]], boxes := [], rows := [] }
def C_cncref25_Length_0 : Cfg := { spec := Qby [], eqOk := Qb2, ownOff := ownOff }
def sk_cncref25_Length_3 : Sk := { tmps := [td, td, td, tf [ci], td, td, td, tf [CS.sl kSgm], tf [ci], tf [ci]] ++ dd 9, boxes := [], rows := [] }
def ex_cncref25_Length_3 : List (Ex × Sk) := [(Ex.exit 0, { tmps := [td, td, td, tf [ci]] ++ dd 15, boxes := [], rows := [] })]
def Qjq : Lp := Qkk Tryz.prog C_cncref25_Length_0 64 3 (Qfk Tryz.prog 25 3) sk_cncref25_Length_3 ex_cncref25_Length_3
def C_cncref25_Length_1 (N3 : Lp) : Cfg := C_cncref25_Length_0.loop 3 sk_cncref25_Length_3 ex_cncref25_Length_3 N3
def mf_cncref25_Length (N3 : Lp) : Fn := Qax Tryz.prog (C_cncref25_Length_1 N3) 64 25 sig_cncref25_Length Qom
theorem st_cncref25_Length_3_eq (v0 : Int) (v1 : Rw) (v2 v3 : Int) : Qjq [I v0, .view kSgm v1, I v2, I v3] =
 bif decide (v3 < v2) then
 bif decide (0 <= v3) && decide (v3 < (v1.length : Int)) then
 some (0, [I (IntKind.i64.wrap (v0 + gA (nth [] v1 v3.toNat) 3)), .view kSgm v1, I v2, I (IntKind.i64.wrap (v3 + 1))])
 else
 none
 else
 some (1, [I v0]) := by kernel_rfl
theorem mf_cncref25_Length_eq (N3 : Lp) (x0 x1 x2 : Int) (x3 x4 : Rw) : mf_cncref25_Length N3 [I x0, I x1, I x2, .view kSgm x3, .view kPt x4] =
 (N3 [I 0, .view kSgm x3, I (x3.length : Int), I 0]).bind fun o1 =>
 bif o1.1.beq 1 then
 some [jA o1.2 0]
 else
 none := by kernel_rfl
def Qkp := Qbn (Qjq )
def Qfc := mf_cncref25_Length Qkp
theorem sp_cncref25_Length : Qaj Tryz.prog (C_cncref25_Length_0 ) := Qae rfl trivial
theorem r_cncref25_Length : Qbp Tryz.prog (25, spOf sig_cncref25_Length Qom Qfc) := Qa0 (C := (C_cncref25_Length_1 Qkp)) (L := 64) (by kernel_rfl) ((FnOK.bare rfl rfl rfl).loop sp_cncref25_Length eqOk Qa7 (by kernel_rfl) (by kernel_rfl)) sp_cncref25_Length eqOk Qa7 (by kernel_rfl) (by kernel_rfl)
def Qhz : Sk := { tmps := [TS.v true [ci, ci, ci, ci, ci, ci, ci, ci, ci, ci, ci, ci, ci, CS.bool, ci, CS.bool, ci, ci, ci, ci, ci, CS.bool]], boxes := [], rows := [] }
def Qg9 : Sk := { tmps := [tf [CS.bool]], boxes := [], rows := [] }
def C_cncref25_Smooth_0 : Cfg := { spec := Qby [], eqOk := Qb2, ownOff := ownOff }
def mf_cncref25_Smooth : Fn := Qax Tryz.prog C_cncref25_Smooth_0 64 89 Qhz Qg9
theorem mf_cncref25_Smooth_eq (x0 x1 x2 x3 x4 x5 x6 x7 x8 x9 x10 x11 x12 : Int) (x13 : Bool) (x14 : Int) (x15 : Bool) (x16 x17 x18 x19 x20 : Int) (x21 : Bool) : mf_cncref25_Smooth [I x0, I x1, I x2, I x3, I x4, I x5, I x6, I x7, I x8, I x9, I x10, I x11, I x12, B x13, I x14, B x15, I x16, I x17, I x18, I x19, I x20, B x21] =
 bif x0 == 2 then
 some [B !(x2 == x5 && (x3 == x6 && (x4 == x7 && true)))]
 else
 some [B false] := by kernel_rfl
def Qci := mf_cncref25_Smooth 
theorem sp_cncref25_Smooth : Qaj Tryz.prog (C_cncref25_Smooth_0 ) := Qae rfl trivial
theorem r_cncref25_Smooth : Qbp Tryz.prog (89, spOf Qhz Qg9 Qci) := Qa0 (C := C_cncref25_Smooth_0) (L := 64) (by kernel_rfl) (FnOK.bare rfl rfl rfl) sp_cncref25_Smooth eqOk Qa7 (by kernel_rfl) (by kernel_rfl)
def Qe9 : Sk := { tmps := [tf [ci]], boxes := [], rows := [] }
def Qet : Sk := { tmps := [tf [CS.bool]], boxes := [], rows := [] }
def C_cncref23_Motion_0 : Cfg := { spec := Qby [], eqOk := Qb2, ownOff := ownOff }
def mf_cncref23_Motion : Fn := Qax Tryz.prog C_cncref23_Motion_0 64 79 Qe9 Qet
theorem mf_cncref23_Motion_eq (x0 : Int) : mf_cncref23_Motion [I x0] =
 bif decide (x0 >= 1) then
 some [B (decide (x0 <= 6))]
 else
 some [B false] := by kernel_rfl
def Qa2 := mf_cncref23_Motion 
theorem sp_cncref23_Motion : Qaj Tryz.prog (C_cncref23_Motion_0 ) := Qae rfl trivial
theorem Qjw : Qbp Tryz.prog (79, spOf Qe9 Qet Qa2) := Qa0 (C := C_cncref23_Motion_0) (L := 64) (by kernel_rfl) (FnOK.bare rfl rfl rfl) sp_cncref23_Motion eqOk Qa7 (by kernel_rfl) (by kernel_rfl)
def Qgf : Sk := { tmps := [TS.v true [ci, ci, ci, ci, ci, ci, ci, ci, ci, ci, ci, ci, ci, CS.bool, ci, CS.bool, ci, ci, ci, ci, ci, CS.bool]], boxes := [], rows := [] }
def Qf4 : Sk := { tmps := [tf [CS.bool]], boxes := [], rows := [] }
def Qjh : Cfg := { spec := Qby [], eqOk := Qb2, ownOff := ownOff }
def mf_cncref25_synchronized : Fn := Qax Tryz.prog Qjh 64 83 Qgf Qf4
theorem mf_cncref25_synchronized_eq (x0 x1 x2 x3 x4 x5 x6 x7 x8 x9 x10 x11 x12 : Int) (x13 : Bool) (x14 : Int) (x15 : Bool) (x16 x17 x18 x19 x20 : Int) (x21 : Bool) : mf_cncref25_synchronized [I x0, I x1, I x2, I x3, I x4, I x5, I x6, I x7, I x8, I x9, I x10, I x11, I x12, B x13, I x14, B x15, I x16, I x17, I x18, I x19, I x20, B x21] =
 bif x0 == 5 then
 some [B true]
 else
 some [B (x0 == 6)] := by kernel_rfl
def Qba := mf_cncref25_synchronized 
theorem sp_cncref25_synchronized : Qaj Tryz.prog (Qjh ) := Qae rfl trivial
theorem r_cncref25_synchronized : Qbp Tryz.prog (83, spOf Qgf Qf4 Qba) := Qa0 (C := Qjh) (L := 64) (by kernel_rfl) (FnOK.bare rfl rfl rfl) sp_cncref25_synchronized eqOk Qa7 (by kernel_rfl) (by kernel_rfl)
def sig_cncref25_kind : Sk := { tmps := [tf [CS.sl kItm], tf [ci]], boxes := [], rows := [] }
def osig_cncref25_kind : Sk := { tmps := [tf [ci]], boxes := [], rows := [] }
def C_cncref25_kind_0 (Qac Qad : Fn) : Cfg := { spec := Qby [(79, spOf Qe9 Qet Qac), (83, spOf Qgf Qf4 Qad)], eqOk := Qb2, ownOff := ownOff }
def sk_cncref25_kind_6 : Sk := { tmps := [tf [CS.sl kItm], td, td, td, td, tf [ci]] ++ dd 38, boxes := [], rows := [] }
def ex_cncref25_kind_6 : List (Ex × Sk) := [(Ex.ret, { tmps := [td, td, td, td, tf [ci]] ++ dd 39, boxes := [], rows := [] }), (Ex.exit 0, { tmps := [td] ++ dd 43, boxes := [], rows := [] })]
def Qgs (Qac Qad : Fn) : Lp := Qkk Tryz.prog (C_cncref25_kind_0 Qac Qad) 64 6 (Qfk Tryz.prog 87 6) sk_cncref25_kind_6 ex_cncref25_kind_6
def C_cncref25_kind_1 (Qac Qad : Fn) (N6 : Lp) : Cfg := (C_cncref25_kind_0 Qac Qad).loop 6 sk_cncref25_kind_6 ex_cncref25_kind_6 N6
def mf_cncref25_kind (Qac Qad : Fn) (N6 : Lp) : Fn := Qax Tryz.prog (C_cncref25_kind_1 Qac Qad N6) 64 87 sig_cncref25_kind osig_cncref25_kind
theorem st_cncref25_kind_6_eq (Qac Qad : Fn) (v0 : Rw) (v1 : Int) : Qgs Qac Qad [.view kItm v0, I v1] =
 bif decide (v1 < (v0.length : Int)) then
 bif decide (0 <= v1) && decide (v1 < (v0.length : Int)) then
 (Qac [jA (nth [] v0 v1.toNat) 0]).bind fun o5 =>
 bif bA o5 0 then
 bif decide (0 <= v1) && decide (v1 < (v0.length : Int)) then
 (Qad [jA (nth [] v0 v1.toNat) 0, jA (nth [] v0 v1.toNat) 1, jA (nth [] v0 v1.toNat) 2, jA (nth [] v0 v1.toNat) 3, jA (nth [] v0 v1.toNat) 4, jA (nth [] v0 v1.toNat) 5, jA (nth [] v0 v1.toNat) 6, jA (nth [] v0 v1.toNat) 7, jA (nth [] v0 v1.toNat) 8, jA (nth [] v0 v1.toNat) 9, jA (nth [] v0 v1.toNat) 10, jA (nth [] v0 v1.toNat) 11, jA (nth [] v0 v1.toNat) 12, B (bA (nth [] v0 v1.toNat) 13), jA (nth [] v0 v1.toNat) 14, B (bA (nth [] v0 v1.toNat) 15), jA (nth [] v0 v1.toNat) 16, jA (nth [] v0 v1.toNat) 17, jA (nth [] v0 v1.toNat) 18, jA (nth [] v0 v1.toNat) 19, jA (nth [] v0 v1.toNat) 20, B (bA (nth [] v0 v1.toNat) 21)]).bind fun o6 =>
 bif bA o6 0 then
 some (1, [I 1])
 else
 some (2, [])
 else
 none
 else
 some (0, [.view kItm v0, I (IntKind.i64.wrap (v1 + 1))])
 else
 none
 else
 some (2, []) := by kernel_rfl
theorem mf_cncref25_kind_eq (Qac Qad : Fn) (N6 : Lp) (x0 : Rw) (x1 : Int) : mf_cncref25_kind Qac Qad N6 [.view kItm x0, I x1] =
 bif decide (0 <= x1) && decide (x1 < (x0.length : Int)) then
 bif gA (nth [] x0 x1.toNat) 0 == 4 then
 some [I 6]
 else
 bif decide (0 <= x1) && decide (x1 < (x0.length : Int)) then
 bif gA (nth [] x0 x1.toNat) 18 == 0 then
 some [I 1]
 else
 bif decide (0 <= x1) && decide (x1 < (x0.length : Int)) then
 (Qad [jA (nth [] x0 x1.toNat) 0, jA (nth [] x0 x1.toNat) 1, jA (nth [] x0 x1.toNat) 2, jA (nth [] x0 x1.toNat) 3, jA (nth [] x0 x1.toNat) 4, jA (nth [] x0 x1.toNat) 5, jA (nth [] x0 x1.toNat) 6, jA (nth [] x0 x1.toNat) 7, jA (nth [] x0 x1.toNat) 8, jA (nth [] x0 x1.toNat) 9, jA (nth [] x0 x1.toNat) 10, jA (nth [] x0 x1.toNat) 11, jA (nth [] x0 x1.toNat) 12, B (bA (nth [] x0 x1.toNat) 13), jA (nth [] x0 x1.toNat) 14, B (bA (nth [] x0 x1.toNat) 15), jA (nth [] x0 x1.toNat) 16, jA (nth [] x0 x1.toNat) 17, jA (nth [] x0 x1.toNat) 18, jA (nth [] x0 x1.toNat) 19, jA (nth [] x0 x1.toNat) 20, B (bA (nth [] x0 x1.toNat) 21)]).bind fun o7 =>
 bif bA o7 0 then
 some [I 1]
 else
 (N6 [.view kItm x0, I (IntKind.i64.wrap (x1 + 1))]).bind fun o8 =>
 bif o8.1.beq 1 then
 some [jA o8.2 0]
 else
 bif o8.1.beq 2 then
 some [I 2]
 else
 none
 else
 none
 else
 none
 else
 none := by kernel_rfl
def l_cncref25_kind_6 := Qbn (Qgs Qa2 Qba )
def Qe1 := mf_cncref25_kind Qa2 Qba l_cncref25_kind_6
theorem sp_cncref25_kind : Qaj Tryz.prog (C_cncref25_kind_0 Qa2 Qba) := Qae rfl ⟨Qjw, r_cncref25_synchronized, trivial⟩
theorem r_cncref25_kind : Qbp Tryz.prog (87, spOf sig_cncref25_kind osig_cncref25_kind Qe1) := Qa0 (C := (C_cncref25_kind_1 Qa2 Qba l_cncref25_kind_6)) (L := 64) (by kernel_rfl) ((FnOK.bare rfl rfl rfl).loop sp_cncref25_kind eqOk Qa7 (by kernel_rfl) (by kernel_rfl)) sp_cncref25_kind eqOk Qa7 (by kernel_rfl) (by kernel_rfl)
def Qnr : Sk := { tmps := [tf [CS.sl kItm], tf [ci]], boxes := [], rows := [] }
def Qme : Sk := { tmps := [tf [ci]], boxes := [], rows := [] }
def C_cncref25_Soft_0 (Qak : Fn) : Cfg := { spec := Qby [(89, spOf Qhz Qg9 Qak)], eqOk := Qb2, ownOff := ownOff }
def sk_cncref25_Soft_4 : Sk := { tmps := [tf [CS.sl kItm], td, td, td, td, tf [ci]] ++ dd 34, boxes := [], rows := [] }
def ex_cncref25_Soft_4 : List (Ex × Sk) := [(Ex.ret, { tmps := [td, td, td, td, tf [ci]] ++ dd 35, boxes := [], rows := [] }), (Ex.exit 0, { tmps := [td] ++ dd 39, boxes := [], rows := [] })]
def Qgn (Qak : Fn) : Lp := Qkk Tryz.prog (C_cncref25_Soft_0 Qak) 64 4 (Qfk Tryz.prog 86 4) sk_cncref25_Soft_4 ex_cncref25_Soft_4
def C_cncref25_Soft_1 (Qak : Fn) (N4 : Lp) : Cfg := (C_cncref25_Soft_0 Qak).loop 4 sk_cncref25_Soft_4 ex_cncref25_Soft_4 N4
def mf_cncref25_Soft (Qak : Fn) (N4 : Lp) : Fn := Qax Tryz.prog (C_cncref25_Soft_1 Qak N4) 64 86 Qnr Qme
theorem st_cncref25_Soft_4_eq (Qak : Fn) (v0 : Rw) (v1 : Int) : Qgn Qak [.view kItm v0, I v1] =
 bif decide (v1 < (v0.length : Int)) then
 bif decide (0 <= v1) && decide (v1 < (v0.length : Int)) then
 bif gA (nth [] v0 v1.toNat) 0 == 10 then
 some (0, [.view kItm v0, I (IntKind.i64.wrap (v1 + 1))])
 else
 bif decide (0 <= v1) && decide (v1 < (v0.length : Int)) then
 (Qak [jA (nth [] v0 v1.toNat) 0, jA (nth [] v0 v1.toNat) 1, jA (nth [] v0 v1.toNat) 2, jA (nth [] v0 v1.toNat) 3, jA (nth [] v0 v1.toNat) 4, jA (nth [] v0 v1.toNat) 5, jA (nth [] v0 v1.toNat) 6, jA (nth [] v0 v1.toNat) 7, jA (nth [] v0 v1.toNat) 8, jA (nth [] v0 v1.toNat) 9, jA (nth [] v0 v1.toNat) 10, jA (nth [] v0 v1.toNat) 11, jA (nth [] v0 v1.toNat) 12, B (bA (nth [] v0 v1.toNat) 13), jA (nth [] v0 v1.toNat) 14, B (bA (nth [] v0 v1.toNat) 15), jA (nth [] v0 v1.toNat) 16, jA (nth [] v0 v1.toNat) 17, jA (nth [] v0 v1.toNat) 18, jA (nth [] v0 v1.toNat) 19, jA (nth [] v0 v1.toNat) 20, B (bA (nth [] v0 v1.toNat) 21)]).bind fun o4 =>
 bif bA o4 0 then
 some (1, [I v1])
 else
 some (1, [I (-1)])
 else
 none
 else
 none
 else
 some (2, []) := by kernel_rfl
theorem mf_cncref25_Soft_eq (Qak : Fn) (N4 : Lp) (x0 : Rw) (x1 : Int) : mf_cncref25_Soft Qak N4 [.view kItm x0, I x1] =
 bif decide (0 <= x1) && decide (x1 < (x0.length : Int)) then
 (Qak [jA (nth [] x0 x1.toNat) 0, jA (nth [] x0 x1.toNat) 1, jA (nth [] x0 x1.toNat) 2, jA (nth [] x0 x1.toNat) 3, jA (nth [] x0 x1.toNat) 4, jA (nth [] x0 x1.toNat) 5, jA (nth [] x0 x1.toNat) 6, jA (nth [] x0 x1.toNat) 7, jA (nth [] x0 x1.toNat) 8, jA (nth [] x0 x1.toNat) 9, jA (nth [] x0 x1.toNat) 10, jA (nth [] x0 x1.toNat) 11, jA (nth [] x0 x1.toNat) 12, B (bA (nth [] x0 x1.toNat) 13), jA (nth [] x0 x1.toNat) 14, B (bA (nth [] x0 x1.toNat) 15), jA (nth [] x0 x1.toNat) 16, jA (nth [] x0 x1.toNat) 17, jA (nth [] x0 x1.toNat) 18, jA (nth [] x0 x1.toNat) 19, jA (nth [] x0 x1.toNat) 20, B (bA (nth [] x0 x1.toNat) 21)]).bind fun o5 =>
 bif !bA o5 0 then
 some [I (-1)]
 else
 bif decide (0 <= x1) && decide (x1 < (x0.length : Int)) then
 bif gA (nth [] x0 x1.toNat) 18 == 0 then
 some [I (-1)]
 else
 (N4 [.view kItm x0, I (IntKind.i64.wrap (x1 + 1))]).bind fun o6 =>
 bif o6.1.beq 1 then
 some [jA o6.2 0]
 else
 bif o6.1.beq 2 then
 some [I (-1)]
 else
 none
 else
 none
 else
 none := by kernel_rfl
def l_cncref25_Soft_4 := Qbn (Qgn Qci )
def Qdo := mf_cncref25_Soft Qci l_cncref25_Soft_4
theorem sp_cncref25_Soft : Qaj Tryz.prog (C_cncref25_Soft_0 Qci) := Qae rfl ⟨r_cncref25_Smooth, trivial⟩
theorem r_cncref25_Soft : Qbp Tryz.prog (86, spOf Qnr Qme Qdo) := Qa0 (C := (C_cncref25_Soft_1 Qci l_cncref25_Soft_4)) (L := 64) (by kernel_rfl) ((FnOK.bare rfl rfl rfl).loop sp_cncref25_Soft eqOk Qa7 (by kernel_rfl) (by kernel_rfl)) sp_cncref25_Soft eqOk Qa7 (by kernel_rfl) (by kernel_rfl)
def Qjn : Sk := { tmps := [tf [ci], tf [ci]], boxes := [], rows := [] }
def Qiv : Sk := { tmps := [tf [ci]], boxes := [], rows := [] }
def Qoa : Cfg := { spec := Qby [], eqOk := Qb2, ownOff := ownOff }
def mf_cncref24_Rounded : Fn := Qax Tryz.prog Qoa 64 72 Qjn Qiv
theorem mf_cncref24_Rounded_eq (x0 x1 : Int) : mf_cncref24_Rounded [I x0, I x1] =
 bif decide (IntKind.i64.wrap (2 * x1) = 0) then
 none
 else
 bif decide (IntKind.i64.wrap (2 * x1) = 0) then
 none
 else
 bif decide ((IntKind.i64.wrap (IntKind.i64.wrap (2 * x0) + x1)).tmod (IntKind.i64.wrap (2 * x1)) < 0) then
 some [I (IntKind.i64.wrap (IntKind.i64.wrap ((IntKind.i64.wrap (IntKind.i64.wrap (2 * x0) + x1)).tdiv (IntKind.i64.wrap (2 * x1))) - 1))]
 else
 some [I (IntKind.i64.wrap ((IntKind.i64.wrap (IntKind.i64.wrap (2 * x0) + x1)).tdiv (IntKind.i64.wrap (2 * x1))))] := by kernel_rfl
def Qch := mf_cncref24_Rounded 
theorem sp_cncref24_Rounded : Qaj Tryz.prog (Qoa ) := Qae rfl trivial
theorem r_cncref24_Rounded : Qbp Tryz.prog (72, spOf Qjn Qiv Qch) := Qa0 (C := Qoa) (L := 64) (by kernel_rfl) (FnOK.bare rfl rfl rfl) sp_cncref24_Rounded eqOk Qa7 (by kernel_rfl) (by kernel_rfl)
def sig_cncref24_Add : Sk := { tmps := [TS.v true [ci, ci, ci], TS.v true [ci, ci, ci]], boxes := [], rows := [] }
def osig_cncref24_Add : Sk := { tmps := [TS.v true [ci, ci, ci]], boxes := [], rows := [] }
def C_cncref24_Add_0 : Cfg := { spec := Qby [], eqOk := Qb2, ownOff := ownOff }
def mf_cncref24_Add : Fn := Qax Tryz.prog C_cncref24_Add_0 64 185 sig_cncref24_Add osig_cncref24_Add
theorem mf_cncref24_Add_eq (x0 x1 x2 x3 x4 x5 : Int) : mf_cncref24_Add [I x0, I x1, I x2, I x3, I x4, I x5] =
 some [I (IntKind.i64.wrap (x0 + x3)), I (IntKind.i64.wrap (x1 + x4)), I (IntKind.i64.wrap (x2 + x5))] := by kernel_rfl
def Qln := mf_cncref24_Add 
theorem sp_cncref24_Add : Qaj Tryz.prog (C_cncref24_Add_0 ) := Qae rfl trivial
theorem r_cncref24_Add : Qbp Tryz.prog (185, spOf sig_cncref24_Add osig_cncref24_Add Qln) := Qa0 (C := C_cncref24_Add_0) (L := 64) (by kernel_rfl) (FnOK.bare rfl rfl rfl) sp_cncref24_Add eqOk Qa7 (by kernel_rfl) (by kernel_rfl)
def sig_cncref24_Minus : Sk := { tmps := [TS.v true [ci, ci, ci], TS.v true [ci, ci, ci]], boxes := [], rows := [] }
def Qp0 : Sk := { tmps := [TS.v true [ci, ci, ci]], boxes := [], rows := [] }
def C_cncref24_Minus_0 : Cfg := { spec := Qby [], eqOk := Qb2, ownOff := ownOff }
def mf_cncref24_Minus : Fn := Qax Tryz.prog C_cncref24_Minus_0 64 186 sig_cncref24_Minus Qp0
theorem mf_cncref24_Minus_eq (x0 x1 x2 x3 x4 x5 : Int) : mf_cncref24_Minus [I x0, I x1, I x2, I x3, I x4, I x5] =
 some [I (IntKind.i64.wrap (x0 - x3)), I (IntKind.i64.wrap (x1 - x4)), I (IntKind.i64.wrap (x2 - x5))] := by kernel_rfl
def Qgw := mf_cncref24_Minus 
theorem sp_cncref24_Minus : Qaj Tryz.prog (C_cncref24_Minus_0 ) := Qae rfl trivial
theorem r_cncref24_Minus : Qbp Tryz.prog (186, spOf sig_cncref24_Minus Qp0 Qgw) := Qa0 (C := C_cncref24_Minus_0) (L := 64) (by kernel_rfl) (FnOK.bare rfl rfl rfl) sp_cncref24_Minus eqOk Qa7 (by kernel_rfl) (by kernel_rfl)
def Qnn : Sk := { tmps := [TS.v true [ci, ci, ci], TS.v true [ci, ci, ci], TS.v true [ci, ci, ci]], boxes := [], rows := [] }
def Qmb : Sk := { tmps := [tf [ci]], boxes := [], rows := [] }
def C_cncref24_Bend_0 (Qbm Qlq Qgu : Fn) : Cfg := { spec := Qby [(116, spOf Qhx Qha Qbm), (185, spOf sig_cncref24_Add osig_cncref24_Add Qlq), (186, spOf sig_cncref24_Minus Qp0 Qgu)], eqOk := Qb2, ownOff := ownOff }
def mf_cncref24_Bend (Qbm Qlq Qgu : Fn) : Fn := Qax Tryz.prog (C_cncref24_Bend_0 Qbm Qlq Qgu) 64 173 Qnn Qmb
theorem mf_cncref24_Bend_eq (Qbm Qlq Qgu : Fn) (x0 x1 x2 x3 x4 x5 x6 x7 x8 : Int) : mf_cncref24_Bend Qbm Qlq Qgu [I x0, I x1, I x2, I x3, I x4, I x5, I x6, I x7, I x8] =
 (Qgu [I x0, I x1, I x2, I x3, I x4, I x5]).bind fun o4 =>
 (Qgu [I x6, I x7, I x8, I x3, I x4, I x5]).bind fun o5 =>
 (Qlq [jA o4 0, jA o4 1, jA o4 2, jA o5 0, jA o5 1, jA o5 2]).bind fun o6 =>
 (Qbm [jA o6 0, jA o6 1, jA o6 2, I 0, I 0, I 0]).bind fun o7 =>
 some [jA o7 0] := by kernel_rfl
def Qey := mf_cncref24_Bend Qc1 Qln Qgw 
theorem sp_cncref24_Bend : Qaj Tryz.prog (C_cncref24_Bend_0 Qc1 Qln Qgw) := Qae rfl ⟨r_cncref23_Square, r_cncref24_Add, r_cncref24_Minus, trivial⟩
theorem r_cncref24_Bend : Qbp Tryz.prog (173, spOf Qnn Qmb Qey) := Qa0 (C := (C_cncref24_Bend_0 Qc1 Qln Qgw)) (L := 64) (by kernel_rfl) (FnOK.bare rfl rfl rfl) sp_cncref24_Bend eqOk Qa7 (by kernel_rfl) (by kernel_rfl)
def sig_cncref24_Pieces : Sk := { tmps := [TS.v true [ci, ci, ci], TS.v true [ci, ci, ci], TS.v true [ci, ci, ci]], boxes := [], rows := [] }
def Qon : Sk := { tmps := [tf [ci]], boxes := [], rows := [] }
def C_cncref24_Pieces_0 (Qcb : Fn) : Cfg := { spec := Qby [(173, spOf Qnn Qmb Qcb)], eqOk := Qb2, ownOff := ownOff }
def sk_cncref24_Pieces_2 : Sk := { tmps := [td, td, td, tf [CS.ptr 3 0], tf [CS.ptr 4 0], tf [CS.ptr 5 0], td, tf [ci]] ++ dd 22, boxes := [(3, 25, [ci, ci, ci]), (4, 25, [ci, ci, ci]), (5, 25, [ci, ci, ci])], rows := [] }
def ex_cncref24_Pieces_2 : List (Ex × Sk) := [(Ex.exit 0, { tmps := [td, td, td, td, td, td, td, tf [ci]] ++ dd 22, boxes := [], rows := [] })]
def Qg5 (Qcb : Fn) : Lp := Qkk Tryz.prog (C_cncref24_Pieces_0 Qcb) 64 2 (Qfk Tryz.prog 155 2) sk_cncref24_Pieces_2 ex_cncref24_Pieces_2
def C_cncref24_Pieces_1 (Qcb : Fn) (N2 : Lp) : Cfg := (C_cncref24_Pieces_0 Qcb).loop 2 sk_cncref24_Pieces_2 ex_cncref24_Pieces_2 N2
def mf_cncref24_Pieces (Qcb : Fn) (N2 : Lp) : Fn := Qax Tryz.prog (C_cncref24_Pieces_1 Qcb N2) 64 155 sig_cncref24_Pieces Qon
theorem st_cncref24_Pieces_2_eq (Qcb : Fn) (v0 v1 v2 v3 v4 v5 v6 v7 v8 v9 : Int) : Qg5 Qcb [I v0, I v1, I v2, I v3, I v4, I v5, I v6, I v7, I v8, I v9] =
 bif decide (v0 < 64) then
 (Qcb [I v1, I v2, I v3, I v4, I v5, I v6, I v7, I v8, I v9]).bind fun o2 =>
 bif decide (gA o2 0 > IntKind.i64.wrap (IntKind.i64.wrap (IntKind.i64.wrap (IntKind.i64.wrap (IntKind.i64.wrap (IntKind.i64.wrap (16 * v0) * v0) * v0) * v0) * 4) * 4)) then
 some (0, [I (IntKind.i64.wrap (v0 * 2)), I v1, I v2, I v3, I v4, I v5, I v6, I v7, I v8, I v9])
 else
 some (1, [I v0])
 else
 some (1, [I v0]) := by kernel_rfl
theorem mf_cncref24_Pieces_eq (Qcb : Fn) (N2 : Lp) (x0 x1 x2 x3 x4 x5 x6 x7 x8 : Int) : mf_cncref24_Pieces Qcb N2 [I x0, I x1, I x2, I x3, I x4, I x5, I x6, I x7, I x8] =
 (N2 [I 2, I x0, I x1, I x2, I x3, I x4, I x5, I x6, I x7, I x8]).bind fun o3 =>
 bif o3.1.beq 1 then
 some [jA o3.2 0]
 else
 none := by kernel_rfl
def l_cncref24_Pieces_2 := Qbn (Qg5 Qey )
def Qfe := mf_cncref24_Pieces Qey l_cncref24_Pieces_2
theorem sp_cncref24_Pieces : Qaj Tryz.prog (C_cncref24_Pieces_0 Qey) := Qae rfl ⟨r_cncref24_Bend, trivial⟩
theorem r_cncref24_Pieces : Qbp Tryz.prog (155, spOf sig_cncref24_Pieces Qon Qfe) := Qa0 (C := (C_cncref24_Pieces_1 Qey l_cncref24_Pieces_2)) (L := 64) (by kernel_rfl) ((FnOK.bare rfl rfl rfl).loop sp_cncref24_Pieces eqOk Qa7 (by kernel_rfl) (by kernel_rfl)) sp_cncref24_Pieces eqOk Qa7 (by kernel_rfl) (by kernel_rfl)
def Qoc : Sk := { tmps := [tf [CS.int .u64], tf [CS.int .u64]], boxes := [], rows := [] }
def Qmz : Sk := { tmps := [TS.tup [(false, [CS.int .u64]), (false, [CS.int .u64])]], boxes := [], rows := [] }
def Qos : Cfg := { spec := Qby [], eqOk := Qb2, ownOff := ownOff }
def mf_cncref23_product : Fn := Qax Tryz.prog Qos 64 192 Qoc Qmz
theorem mf_cncref23_product_eq (x0 x1 : Int) : mf_cncref23_product [U x0, U x1] =
 some [U (IntKind.u64.wrap (IntKind.u64.wrap (IntKind.u64.wrap (x0.fdiv (2 ^ min (Int.toNat 32) IntKind.u64.bits) * x1.fdiv (2 ^ min (Int.toNat 32) IntKind.u64.bits)) + (IntKind.u64.wrap (IntKind.u64.wrap (x0.fdiv (2 ^ min (Int.toNat 32) IntKind.u64.bits) * IntKind.u64.wrap (↑(BitVec.ofInt IntKind.u64.bits x1 &&& BitVec.ofInt IntKind.u64.bits 4294967295).toNat : Int)) + (IntKind.u64.wrap (IntKind.u64.wrap (↑(BitVec.ofInt IntKind.u64.bits x0 &&& BitVec.ofInt IntKind.u64.bits 4294967295).toNat : Int) * IntKind.u64.wrap (↑(BitVec.ofInt IntKind.u64.bits x1 &&& BitVec.ofInt IntKind.u64.bits 4294967295).toNat : Int))).fdiv (2 ^ min (Int.toNat 32) IntKind.u64.bits))).fdiv (2 ^ min (Int.toNat 32) IntKind.u64.bits)) + (IntKind.u64.wrap (IntKind.u64.wrap (IntKind.u64.wrap (↑(BitVec.ofInt IntKind.u64.bits x0 &&& BitVec.ofInt IntKind.u64.bits 4294967295).toNat : Int) * x1.fdiv (2 ^ min (Int.toNat 32) IntKind.u64.bits)) + IntKind.u64.wrap (↑(BitVec.ofInt IntKind.u64.bits (IntKind.u64.wrap (IntKind.u64.wrap (x0.fdiv (2 ^ min (Int.toNat 32) IntKind.u64.bits) * IntKind.u64.wrap (↑(BitVec.ofInt IntKind.u64.bits x1 &&& BitVec.ofInt IntKind.u64.bits 4294967295).toNat : Int)) + (IntKind.u64.wrap (IntKind.u64.wrap (↑(BitVec.ofInt IntKind.u64.bits x0 &&& BitVec.ofInt IntKind.u64.bits 4294967295).toNat : Int) * IntKind.u64.wrap (↑(BitVec.ofInt IntKind.u64.bits x1 &&& BitVec.ofInt IntKind.u64.bits 4294967295).toNat : Int))).fdiv (2 ^ min (Int.toNat 32) IntKind.u64.bits))) &&& BitVec.ofInt IntKind.u64.bits 4294967295).toNat : Int))).fdiv (2 ^ min (Int.toNat 32) IntKind.u64.bits))), U (IntKind.u64.wrap (↑(BitVec.ofInt IntKind.u64.bits (IntKind.u64.wrap (IntKind.u64.wrap (IntKind.u64.wrap (IntKind.u64.wrap (↑(BitVec.ofInt IntKind.u64.bits x0 &&& BitVec.ofInt IntKind.u64.bits 4294967295).toNat : Int) * x1.fdiv (2 ^ min (Int.toNat 32) IntKind.u64.bits)) + IntKind.u64.wrap (↑(BitVec.ofInt IntKind.u64.bits (IntKind.u64.wrap (IntKind.u64.wrap (x0.fdiv (2 ^ min (Int.toNat 32) IntKind.u64.bits) * IntKind.u64.wrap (↑(BitVec.ofInt IntKind.u64.bits x1 &&& BitVec.ofInt IntKind.u64.bits 4294967295).toNat : Int)) + (IntKind.u64.wrap (IntKind.u64.wrap (↑(BitVec.ofInt IntKind.u64.bits x0 &&& BitVec.ofInt IntKind.u64.bits 4294967295).toNat : Int) * IntKind.u64.wrap (↑(BitVec.ofInt IntKind.u64.bits x1 &&& BitVec.ofInt IntKind.u64.bits 4294967295).toNat : Int))).fdiv (2 ^ min (Int.toNat 32) IntKind.u64.bits))) &&& BitVec.ofInt IntKind.u64.bits 4294967295).toNat : Int)) * 2 ^ min (Int.toNat 32) IntKind.u64.bits)) ||| BitVec.ofInt IntKind.u64.bits (IntKind.u64.wrap (↑(BitVec.ofInt IntKind.u64.bits (IntKind.u64.wrap (IntKind.u64.wrap (↑(BitVec.ofInt IntKind.u64.bits x0 &&& BitVec.ofInt IntKind.u64.bits 4294967295).toNat : Int) * IntKind.u64.wrap (↑(BitVec.ofInt IntKind.u64.bits x1 &&& BitVec.ofInt IntKind.u64.bits 4294967295).toNat : Int))) &&& BitVec.ofInt IntKind.u64.bits 4294967295).toNat : Int))).toNat : Int))] := by kernel_rfl
def Qgo := mf_cncref23_product 
theorem sp_cncref23_product : Qaj Tryz.prog (Qos ) := Qae rfl trivial
theorem r_cncref23_product : Qbp Tryz.prog (192, spOf Qoc Qmz Qgo) := Qa0 (C := Qos) (L := 64) (by kernel_rfl) (FnOK.bare rfl rfl rfl) sp_cncref23_product eqOk Qa7 (by kernel_rfl) (by kernel_rfl)
def sig_cncref23_most : Sk := { tmps := [tf [CS.int .u64], tf [CS.int .u64], tf [CS.int .u64], tf [CS.int .u64], tf [CS.bool]], boxes := [], rows := [] }
def osig_cncref23_most : Sk := { tmps := [tf [CS.bool]], boxes := [], rows := [] }
def C_cncref23_most_0 (Qft : Fn) : Cfg := { spec := Qby [(192, spOf Qoc Qmz Qft)], eqOk := Qb2, ownOff := ownOff }
def mf_cncref23_most (Qft : Fn) : Fn := Qax Tryz.prog (C_cncref23_most_0 Qft) 64 184 sig_cncref23_most osig_cncref23_most
theorem mf_cncref23_most_eq (Qft : Fn) (x0 x1 x2 x3 : Int) (x4 : Bool) : mf_cncref23_most Qft [U x0, U x1, U x2, U x3, B x4] =
 (Qft [U x0, U x1]).bind fun o2 =>
 (Qft [U x2, U x3]).bind fun o3 =>
 bif decide (gA o2 0 < gA o3 0) then
 some [B true]
 else
 bif gA o2 0 == gA o3 0 then
 bif decide (gA o2 1 < gA o3 1) then
 some [B true]
 else
 bif gA o2 1 == gA o3 1 then
 some [B !x4]
 else
 some [B false]
 else
 some [B false] := by kernel_rfl
def Qj2 := mf_cncref23_most Qgo 
theorem sp_cncref23_most : Qaj Tryz.prog (C_cncref23_most_0 Qgo) := Qae rfl ⟨r_cncref23_product, trivial⟩
theorem r_cncref23_most : Qbp Tryz.prog (184, spOf sig_cncref23_most osig_cncref23_most Qj2) := Qa0 (C := (C_cncref23_most_0 Qgo)) (L := 64) (by kernel_rfl) (FnOK.bare rfl rfl rfl) sp_cncref23_most eqOk Qa7 (by kernel_rfl) (by kernel_rfl)
def Qnz : Sk := { tmps := [tf [ci], tf [ci], tf [ci]], boxes := [], rows := [] }
def Qmi : Sk := { tmps := [tf [ci]], boxes := [], rows := [] }
def C_cncref23_Near_0 (Qdp : Fn) : Cfg := { spec := Qby [(184, spOf sig_cncref23_most osig_cncref23_most Qdp)], eqOk := Qb2, ownOff := ownOff }
def sk_cncref23_Near_3 : Sk := { tmps := [tf [ci], td, td, td, td, td, td, tf [CS.int .u64], tf [CS.int .u64], tf [CS.int .u64], tf [CS.int .u64]] ++ dd 51, boxes := [], rows := [] }
def ex_cncref23_Near_3 : List (Ex × Sk) := [(Ex.exit 0, { tmps := [tf [ci], td, td, td, td, td, td, tf [CS.int .u64], tf [CS.int .u64], tf [CS.int .u64]] ++ dd 52, boxes := [], rows := [] })]
def Qfm (Qdp : Fn) : Lp := Qkk Tryz.prog (C_cncref23_Near_0 Qdp) 64 3 (Qfk Tryz.prog 172 3) sk_cncref23_Near_3 ex_cncref23_Near_3
def C_cncref23_Near_1 (Qdp : Fn) (N3 : Lp) : Cfg := (C_cncref23_Near_0 Qdp).loop 3 sk_cncref23_Near_3 ex_cncref23_Near_3 N3
def mf_cncref23_Near (Qdp : Fn) (N3 : Lp) : Fn := Qax Tryz.prog (C_cncref23_Near_1 Qdp N3) 64 172 Qnz Qmi
theorem st_cncref23_Near_3_eq (Qdp : Fn) (v0 v1 v2 v3 v4 : Int) : Qfm Qdp [I v0, U v1, U v2, U v3, U v4] =
 bif decide (v4 > 0) then
 (Qdp [U (IntKind.u64.wrap (IntKind.u64.wrap (v3 + v4) * IntKind.u64.wrap (v3 + v4))), U v2, U v1, U v1, B false]).bind fun o3 =>
 bif bA o3 0 then
 some (0, [I v0, U v1, U v2, U (IntKind.u64.wrap (v3 + v4)), U (v4.fdiv (2 ^ min (Int.toNat 1) IntKind.u64.bits))])
 else
 some (0, [I v0, U v1, U v2, U v3, U (v4.fdiv (2 ^ min (Int.toNat 1) IntKind.u64.bits))])
 else
 some (1, [I v0, U v1, U v2, U v3]) := by kernel_rfl
theorem mf_cncref23_Near_eq (Qdp : Fn) (N3 : Lp) (x0 x1 x2 : Int) : mf_cncref23_Near Qdp N3 [I x0, I x1, I x2] =
 (N3 [I x0, U (IntKind.u64.wrap (IntKind.i64.wrap (mx x0 (IntKind.i64.wrap (0 - x0)) * x1))), U (IntKind.u64.wrap x2), U 0, U 134217728]).bind fun o4 =>
 bif o4.1.beq 1 then
 (Qdp [U (IntKind.u64.wrap (IntKind.u64.wrap (IntKind.u64.wrap (2 * gA o4.2 3) + 1) * IntKind.u64.wrap (IntKind.u64.wrap (2 * gA o4.2 3) + 1))), U (gA o4.2 2), U (IntKind.u64.wrap (2 * gA o4.2 1)), U (IntKind.u64.wrap (2 * gA o4.2 1)), B (decide (gA o4.2 0 < 0))]).bind fun o5 =>
 bif bA o5 0 then
 bif decide (gA o4.2 0 < 0) then
 some [I (IntKind.i64.wrap (0 - IntKind.i64.wrap (IntKind.u64.wrap (gA o4.2 3 + 1))))]
 else
 some [I (IntKind.i64.wrap (IntKind.u64.wrap (gA o4.2 3 + 1)))]
 else
 bif decide (gA o4.2 0 < 0) then
 some [I (IntKind.i64.wrap (0 - IntKind.i64.wrap (gA o4.2 3)))]
 else
 some [I (IntKind.i64.wrap (gA o4.2 3))]
 else
 none := by kernel_rfl
def l_cncref23_Near_3 := Qbn (Qfm Qj2 )
def Qef := mf_cncref23_Near Qj2 l_cncref23_Near_3
theorem sp_cncref23_Near : Qaj Tryz.prog (C_cncref23_Near_0 Qj2) := Qae rfl ⟨r_cncref23_most, trivial⟩
theorem r_cncref23_Near : Qbp Tryz.prog (172, spOf Qnz Qmi Qef) := Qa0 (C := (C_cncref23_Near_1 Qj2 l_cncref23_Near_3)) (L := 64) (by kernel_rfl) ((FnOK.bare rfl rfl rfl).loop sp_cncref23_Near eqOk Qa7 (by kernel_rfl) (by kernel_rfl)) sp_cncref23_Near eqOk Qa7 (by kernel_rfl) (by kernel_rfl)
def Qk1 : Sk := { tmps := [TS.v true [ci, ci, ci], TS.v true [ci, ci, ci], tf [ci]], boxes := [], rows := [] }
def Qjr : Sk := { tmps := [TS.tup [(true, [ci, ci, ci]), (false, [CS.bool])]], boxes := [], rows := [] }
def Qp6 (Qa3 Qbm : Fn) : Cfg := { spec := Qby [(172, spOf Qnz Qmi Qa3), (116, spOf Qhx Qha Qbm)], eqOk := Qb2, ownOff := ownOff, unroll := [6] }
def mf_cncref24_Toward (Qa3 Qbm : Fn) : Fn := Qax Tryz.prog (Qp6 Qa3 Qbm) 64 154 Qk1 Qjr
theorem mf_cncref24_Toward_eq (Qa3 Qbm : Fn) (x0 x1 x2 x3 x4 x5 x6 : Int) : mf_cncref24_Toward Qa3 Qbm [I x0, I x1, I x2, I x3, I x4, I x5, I x6] =
 (Qbm [I x3, I x4, I x5, I x0, I x1, I x2]).bind fun o4 =>
 bif gA o4 0 == 0 then
 some [I 0, I 0, I 0, B false]
 else
 bif decide (x6 < 0) then
 some [I 0, I 0, I 0, B false]
 else
 bif decide (x6 > 33554432) then
 some [I 0, I 0, I 0, B false]
 else
 (Qa3 [I (IntKind.i64.wrap (x3 - x0)), I x6, jA o4 0]).bind fun o5 =>
 (Qa3 [I (IntKind.i64.wrap (x4 - x1)), I x6, jA o4 0]).bind fun o6 =>
 (Qa3 [I (IntKind.i64.wrap (x5 - x2)), I x6, jA o4 0]).bind fun o7 =>
 some [I (IntKind.i64.wrap (x0 + gA o5 0)), I (IntKind.i64.wrap (x1 + gA o6 0)), I (IntKind.i64.wrap (x2 + gA o7 0)), B true] := by kernel_rfl
def Qdl := mf_cncref24_Toward Qef Qc1 
theorem sp_cncref24_Toward : Qaj Tryz.prog (Qp6 Qef Qc1) := Qae rfl ⟨r_cncref23_Near, r_cncref23_Square, trivial⟩
theorem r_cncref24_Toward : Qbp Tryz.prog (154, spOf Qk1 Qjr Qdl) := Qa0 (C := (Qp6 Qef Qc1)) (L := 64) (by kernel_rfl) (FnOK.bare rfl rfl rfl) sp_cncref24_Toward eqOk Qa7 (by kernel_rfl) (by kernel_rfl)
def Qly : Sk := { tmps := [TS.v true [ci, ci, ci], TS.v true [ci, ci, ci], TS.v true [ci, ci, ci], tf [ci], tf [ci]], boxes := [], rows := [] }
def Qkz : Sk := { tmps := [tf [CS.bool]], boxes := [], rows := [] }
def Qlz (Qcb Qbe Qah : Fn) : Cfg := { spec := Qby [(173, spOf Qnn Qmb Qcb), (154, spOf Qk1 Qjr Qbe), (85, spOf Qic Qg8 Qah)], eqOk := Qb2, ownOff := ownOff }
def Qnh (Qcb Qbe Qah : Fn) : Fn := Qax Tryz.prog (Qlz Qcb Qbe Qah) 64 171 Qly Qkz
theorem mf_cncref24_permitted_eq (Qcb Qbe Qah : Fn) (x0 x1 x2 x3 x4 x5 x6 x7 x8 x9 x10 : Int) : Qnh Qcb Qbe Qah [I x0, I x1, I x2, I x3, I x4, I x5, I x6, I x7, I x8, I x9, I x10] =
 (Qah [I x0, I x1, I x2, I x3, I x4, I x5]).bind fun o5 =>
 (Qah [I x3, I x4, I x5, I x6, I x7, I x8]).bind fun o6 =>
 bif decide (x10 > IntKind.i64.wrap (mn (gA o5 0) (gA o6 0) - 2)) then
 some [B false]
 else
 (Qbe [I x3, I x4, I x5, I x0, I x1, I x2, I x10]).bind fun o7 =>
 (Qbe [I x3, I x4, I x5, I x6, I x7, I x8, I x10]).bind fun o8 =>
 (Qcb [jA o7 0, jA o7 1, jA o7 2, I x3, I x4, I x5, jA o8 0, jA o8 1, jA o8 2]).bind fun o9 =>
 some [B (decide (gA o9 0 <= IntKind.i64.wrap (IntKind.i64.wrap (16 * x9) * x9)))] := by kernel_rfl
def Qdf := Qnh Qey Qdl Qbw 
theorem sp_cncref24_permitted : Qaj Tryz.prog (Qlz Qey Qdl Qbw) := Qae rfl ⟨r_cncref24_Bend, r_cncref24_Toward, r_cncref23_Length, trivial⟩
theorem r_cncref24_permitted : Qbp Tryz.prog (171, spOf Qly Qkz Qdf) := Qa0 (C := (Qlz Qey Qdl Qbw)) (L := 64) (by kernel_rfl) (FnOK.bare rfl rfl rfl) sp_cncref24_permitted eqOk Qa7 (by kernel_rfl) (by kernel_rfl)
def sig_cncref24_Reach : Sk := { tmps := [TS.v true [ci, ci, ci], TS.v true [ci, ci, ci], TS.v true [ci, ci, ci], tf [ci]], boxes := [], rows := [] }
def osig_cncref24_Reach : Sk := { tmps := [tf [ci]], boxes := [], rows := [] }
def C_cncref24_Reach_0 (Qcl : Fn) : Cfg := { spec := Qby [(171, spOf Qly Qkz Qcl)], eqOk := Qb2, ownOff := ownOff }
def sk_cncref24_Reach_5 : Sk := { tmps := [td, td, td, tf [ci], tf [CS.ptr 4 0], tf [CS.ptr 5 0], tf [CS.ptr 6 0], td, td, tf [ci], tf [ci]] ++ dd 26, boxes := [(4, 25, [ci, ci, ci]), (5, 25, [ci, ci, ci]), (6, 25, [ci, ci, ci])], rows := [] }
def ex_cncref24_Reach_5 : List (Ex × Sk) := [(Ex.exit 0, { tmps := [td, td, td, td, td, td, td, td, td, tf [ci]] ++ dd 27, boxes := [], rows := [] })]
def Qed (Qcl : Fn) : Lp := Qkk Tryz.prog (C_cncref24_Reach_0 Qcl) 64 5 (Qfk Tryz.prog 153 5) sk_cncref24_Reach_5 ex_cncref24_Reach_5
def C_cncref24_Reach_1 (Qcl : Fn) (N5 : Lp) : Cfg := (C_cncref24_Reach_0 Qcl).loop 5 sk_cncref24_Reach_5 ex_cncref24_Reach_5 N5
def mf_cncref24_Reach (Qcl : Fn) (N5 : Lp) : Fn := Qax Tryz.prog (C_cncref24_Reach_1 Qcl N5) 64 153 sig_cncref24_Reach osig_cncref24_Reach
theorem Ql1 (Qcl : Fn) (v0 v1 v2 v3 v4 v5 v6 v7 v8 v9 v10 v11 : Int) : Qed Qcl [I v0, I v1, I v2, I v3, I v4, I v5, I v6, I v7, I v8, I v9, I v10, I v11] =
 bif decide (v2 > 0) then
 (Qcl [I v3, I v4, I v5, I v6, I v7, I v8, I v9, I v10, I v11, I v0, I (IntKind.i64.wrap (v1 + v2))]).bind fun o2 =>
 bif bA o2 0 then
 some (0, [I v0, I (IntKind.i64.wrap (v1 + v2)), I (v2.fdiv (2 ^ min (Int.toNat 1) IntKind.i64.bits)), I v3, I v4, I v5, I v6, I v7, I v8, I v9, I v10, I v11])
 else
 some (0, [I v0, I v1, I (v2.fdiv (2 ^ min (Int.toNat 1) IntKind.i64.bits)), I v3, I v4, I v5, I v6, I v7, I v8, I v9, I v10, I v11])
 else
 some (1, [I v1]) := by kernel_rfl
theorem mf_cncref24_Reach_eq (Qcl : Fn) (N5 : Lp) (x0 x1 x2 x3 x4 x5 x6 x7 x8 x9 : Int) : mf_cncref24_Reach Qcl N5 [I x0, I x1, I x2, I x3, I x4, I x5, I x6, I x7, I x8, I x9] =
 bif x0 == x3 && (x1 == x4 && (x2 == x5 && true)) then
 some [I 0]
 else
 bif x6 == x3 && (x7 == x4 && (x8 == x5 && true)) then
 some [I 0]
 else
 (N5 [I x9, I 0, I 16777216, I x0, I x1, I x2, I x3, I x4, I x5, I x6, I x7, I x8]).bind fun o3 =>
 bif o3.1.beq 1 then
 bif decide (gA o3.2 0 < 16) then
 some [I 0]
 else
 some [jA o3.2 0]
 else
 none := by kernel_rfl
def l_cncref24_Reach_5 := Qbn (Qed Qdf )
def Qg2 := mf_cncref24_Reach Qdf l_cncref24_Reach_5
theorem sp_cncref24_Reach : Qaj Tryz.prog (C_cncref24_Reach_0 Qdf) := Qae rfl ⟨r_cncref24_permitted, trivial⟩
theorem r_cncref24_Reach : Qbp Tryz.prog (153, spOf sig_cncref24_Reach osig_cncref24_Reach Qg2) := Qa0 (C := (C_cncref24_Reach_1 Qdf l_cncref24_Reach_5)) (L := 64) (by kernel_rfl) ((FnOK.bare rfl rfl rfl).loop sp_cncref24_Reach eqOk Qa7 (by kernel_rfl) (by kernel_rfl)) sp_cncref24_Reach eqOk Qa7 (by kernel_rfl) (by kernel_rfl)
def sig_cncref24_Corner : Sk := { tmps := [TS.v true [ci, ci, ci], TS.v true [ci, ci, ci], TS.v true [ci, ci, ci], tf [ci]], boxes := [], rows := [] }
def Qoq : Sk := { tmps := [tf [CS.sl kPt]], boxes := [], rows := [] }
def Qp1 (Qa4 Qc3 Qbe Qdi : Fn) : Cfg := { spec := Qby [(72, spOf Qjn Qiv Qa4), (155, spOf sig_cncref24_Pieces Qon Qc3), (154, spOf Qk1 Qjr Qbe), (153, spOf sig_cncref24_Reach osig_cncref24_Reach Qdi)], eqOk := Qb2, ownOff := ownOff, prom := fun b => bif Nat.beq b 9 then [(15, 25)] else [], unroll := [13] }
def sk_cncref24_Corner_9 : Sk := { tmps := [td, td, td, td, td, tf [CS.ptr 5 0], td, td, td, td, tf [CS.ptr 10 0], td, tf [CS.ptr 12 0], td, tf [ci], tf [CS.own 15 3], tf [ci]] ++ dd 80, boxes := [(5, 25, [ci, ci, ci]), (10, 25, [ci, ci, ci]), (12, 25, [ci, ci, ci])], rows := [(15, 25, kPt)] }
def ex_cncref24_Corner_9 : List (Ex × Sk) := [(Ex.exit 0, { tmps := [td, td, td, td, td, td, td, td, td, td, td, td, td, td, td, tf [CS.own 15 3]] ++ dd 81, boxes := [], rows := [(15, 25, kPt)] })]
def Qfx (Qa4 Qc3 Qbe Qdi : Fn) : Lp := Qkk Tryz.prog (Qp1 Qa4 Qc3 Qbe Qdi) 64 9 (Qfk Tryz.prog 135 9) sk_cncref24_Corner_9 ex_cncref24_Corner_9
def C_cncref24_Corner_1 (Qa4 Qc3 Qbe Qdi : Fn) (N9 : Lp) : Cfg := (Qp1 Qa4 Qc3 Qbe Qdi).loop 9 sk_cncref24_Corner_9 ex_cncref24_Corner_9 N9
def mf_cncref24_Corner (Qa4 Qc3 Qbe Qdi : Fn) (N9 : Lp) : Fn := Qax Tryz.prog (C_cncref24_Corner_1 Qa4 Qc3 Qbe Qdi N9) 64 135 sig_cncref24_Corner Qoq
theorem st_cncref24_Corner_9_eq (Qa4 Qc3 Qbe Qdi : Fn) (v0 : Rw) (v1 v2 v3 v4 v5 v6 v7 v8 v9 v10 v11 : Int) : Qfx Qa4 Qc3 Qbe Qdi [.view kPt v0, I v1, I v2, I v3, I v4, I v5, I v6, I v7, I v8, I v9, I v10, I v11] =
 bif decide (v2 <= v1) then
 (Qa4 [I (IntKind.i64.wrap (IntKind.i64.wrap (IntKind.i64.wrap (IntKind.i64.wrap (v1 - v2) * IntKind.i64.wrap (v1 - v2)) * IntKind.i64.wrap (v6 - v3)) + IntKind.i64.wrap (IntKind.i64.wrap (v2 * v2) * IntKind.i64.wrap (v9 - v3)))), I (IntKind.i64.wrap (v1 * v1))]).bind fun o19 =>
 (Qa4 [I (IntKind.i64.wrap (IntKind.i64.wrap (IntKind.i64.wrap (IntKind.i64.wrap (v1 - v2) * IntKind.i64.wrap (v1 - v2)) * IntKind.i64.wrap (v7 - v4)) + IntKind.i64.wrap (IntKind.i64.wrap (v2 * v2) * IntKind.i64.wrap (v10 - v4)))), I (IntKind.i64.wrap (v1 * v1))]).bind fun o20 =>
 (Qa4 [I (IntKind.i64.wrap (IntKind.i64.wrap (IntKind.i64.wrap (IntKind.i64.wrap (v1 - v2) * IntKind.i64.wrap (v1 - v2)) * IntKind.i64.wrap (v8 - v5)) + IntKind.i64.wrap (IntKind.i64.wrap (v2 * v2) * IntKind.i64.wrap (v11 - v5)))), I (IntKind.i64.wrap (v1 * v1))]).bind fun o21 =>
 bif ((v0 ++ [[I (IntKind.i64.wrap (v3 + gA o19 0)), I (IntKind.i64.wrap (v4 + gA o20 0)), I (IntKind.i64.wrap (v5 + gA o21 0))]]).length * 24).ble 140737488355328 then
 some (0, [.view kPt (v0 ++ [[I (IntKind.i64.wrap (v3 + gA o19 0)), I (IntKind.i64.wrap (v4 + gA o20 0)), I (IntKind.i64.wrap (v5 + gA o21 0))]]), I v1, I (IntKind.i64.wrap (v2 + 1)), I v3, I v4, I v5, I v6, I v7, I v8, I v9, I v10, I v11])
 else
 none
 else
 some (1, [.view kPt v0]) := by kernel_rfl
theorem mf_cncref24_Corner_eq (Qa4 Qc3 Qbe Qdi : Fn) (N9 : Lp) (x0 x1 x2 x3 x4 x5 x6 x7 x8 x9 : Int) : mf_cncref24_Corner Qa4 Qc3 Qbe Qdi N9 [I x0, I x1, I x2, I x3, I x4, I x5, I x6, I x7, I x8, I x9] =
 (Qdi [I x0, I x1, I x2, I x3, I x4, I x5, I x6, I x7, I x8, I x9]).bind fun o22 =>
 bif gA o22 0 == 0 then
 some [.view kPt [[I x3, I x4, I x5]]]
 else
 (Qbe [I x3, I x4, I x5, I x0, I x1, I x2, jA o22 0]).bind fun o23 =>
 (Qbe [I x3, I x4, I x5, I x6, I x7, I x8, jA o22 0]).bind fun o24 =>
 (Qc3 [jA o23 0, jA o23 1, jA o23 2, I x3, I x4, I x5, jA o24 0, jA o24 1, jA o24 2]).bind fun o25 =>
 (N9 [.view kPt [], jA o25 0, I 0, I x3, I x4, I x5, jA o23 0, jA o23 1, jA o23 2, jA o24 0, jA o24 1, jA o24 2]).bind fun o26 =>
 bif o26.1.beq 1 then
 some [.view kPt (wA o26.2 0)]
 else
 none := by kernel_rfl
def l_cncref24_Corner_9 := Qbn (Qfx Qch Qfe Qdl Qg2 )
def Qj0 := mf_cncref24_Corner Qch Qfe Qdl Qg2 l_cncref24_Corner_9
theorem sp_cncref24_Corner : Qaj Tryz.prog (Qp1 Qch Qfe Qdl Qg2) := Qae rfl ⟨r_cncref24_Rounded, r_cncref24_Pieces, r_cncref24_Toward, r_cncref24_Reach, trivial⟩
theorem r_cncref24_Corner : Qbp Tryz.prog (135, spOf sig_cncref24_Corner Qoq Qj0) := Qa0 (C := (C_cncref24_Corner_1 Qch Qfe Qdl Qg2 l_cncref24_Corner_9)) (L := 64) (by kernel_rfl) ((FnOK.bare rfl rfl rfl).loop sp_cncref24_Corner eqOk Qa7 (by kernel_rfl) (by kernel_rfl)) sp_cncref24_Corner eqOk Qa7 (by kernel_rfl) (by kernel_rfl)
def Qp8 : Sk := { tmps := [tf [CS.sl kItm], tf [ci], tf [ci]], boxes := [], rows := [] }
def Qn6 : Sk := { tmps := [tf [CS.sl kPt]], boxes := [], rows := [] }
def Qp5 (Qho Qaf Qas : Fn) : Cfg := { spec := Qby [(135, spOf sig_cncref24_Corner Qoq Qho), (81, spOf Qht Qgp Qaf), (90, spOf Qig Qg7 Qas)], eqOk := Qb2, ownOff := ownOff }
def mf_cncref25_joined (Qho Qaf Qas : Fn) : Fn := Qax Tryz.prog (Qp5 Qho Qaf Qas) 64 115 Qp8 Qn6
theorem mf_cncref25_joined_eq (Qho Qaf Qas : Fn) (x0 : Rw) (x1 x2 : Int) : mf_cncref25_joined Qho Qaf Qas [.view kItm x0, I x1, I x2] =
 bif decide (0 <= x1) && decide (x1 < (x0.length : Int)) then
 (Qas [jA (nth [] x0 x1.toNat) 0, jA (nth [] x0 x1.toNat) 1, jA (nth [] x0 x1.toNat) 2, jA (nth [] x0 x1.toNat) 3, jA (nth [] x0 x1.toNat) 4, jA (nth [] x0 x1.toNat) 5, jA (nth [] x0 x1.toNat) 6, jA (nth [] x0 x1.toNat) 7, jA (nth [] x0 x1.toNat) 8, jA (nth [] x0 x1.toNat) 9, jA (nth [] x0 x1.toNat) 10, jA (nth [] x0 x1.toNat) 11, jA (nth [] x0 x1.toNat) 12, B (bA (nth [] x0 x1.toNat) 13), jA (nth [] x0 x1.toNat) 14, B (bA (nth [] x0 x1.toNat) 15), jA (nth [] x0 x1.toNat) 16, jA (nth [] x0 x1.toNat) 17, jA (nth [] x0 x1.toNat) 18, jA (nth [] x0 x1.toNat) 19, jA (nth [] x0 x1.toNat) 20, B (bA (nth [] x0 x1.toNat) 21)]).bind fun o4 =>
 bif decide (0 <= x1) && decide (x1 < (x0.length : Int)) then
 (Qaf [jA (nth [] x0 x1.toNat) 5, jA (nth [] x0 x1.toNat) 6, jA (nth [] x0 x1.toNat) 7]).bind fun o5 =>
 bif decide (0 <= x2) && decide (x2 < (x0.length : Int)) then
 (Qas [jA (nth [] x0 x2.toNat) 0, jA (nth [] x0 x2.toNat) 1, jA (nth [] x0 x2.toNat) 2, jA (nth [] x0 x2.toNat) 3, jA (nth [] x0 x2.toNat) 4, jA (nth [] x0 x2.toNat) 5, jA (nth [] x0 x2.toNat) 6, jA (nth [] x0 x2.toNat) 7, jA (nth [] x0 x2.toNat) 8, jA (nth [] x0 x2.toNat) 9, jA (nth [] x0 x2.toNat) 10, jA (nth [] x0 x2.toNat) 11, jA (nth [] x0 x2.toNat) 12, B (bA (nth [] x0 x2.toNat) 13), jA (nth [] x0 x2.toNat) 14, B (bA (nth [] x0 x2.toNat) 15), jA (nth [] x0 x2.toNat) 16, jA (nth [] x0 x2.toNat) 17, jA (nth [] x0 x2.toNat) 18, jA (nth [] x0 x2.toNat) 19, jA (nth [] x0 x2.toNat) 20, B (bA (nth [] x0 x2.toNat) 21)]).bind fun o6 =>
 bif decide (0 <= x1) && decide (x1 < (x0.length : Int)) then
 (Qho [jA o4 0, jA o4 1, jA o4 2, jA o5 0, jA o5 1, jA o5 2, jA o6 0, jA o6 1, jA o6 2, I (IntKind.i64.wrap (gA (nth [] x0 x1.toNat) 18 * 16))]).bind fun o7 =>
 some [.view kPt (wA o7 0)]
 else
 none
 else
 none
 else
 none
 else
 none := by kernel_rfl
def Qkg := mf_cncref25_joined Qj0 Qbo Qco 
theorem sp_cncref25_joined : Qaj Tryz.prog (Qp5 Qj0 Qbo Qco) := Qae rfl ⟨r_cncref24_Corner, r_cncref23_Fine, r_cncref25_Center, trivial⟩
theorem r_cncref25_joined : Qbp Tryz.prog (115, spOf Qp8 Qn6 Qkg) := Qa0 (C := (Qp5 Qj0 Qbo Qco)) (L := 64) (by kernel_rfl) (FnOK.bare rfl rfl rfl) sp_cncref25_joined eqOk Qa7 (by kernel_rfl) (by kernel_rfl)
def Qmh : Sk := { tmps := [tf [ci], tf [ci], tf [ci], tf [ci]], boxes := [], rows := [] }
def Qk2 : Sk := { tmps := [TS.v true [ci, ci, ci]], boxes := [], rows := [] }
def C_cncref23_Space_0 : Cfg := { spec := Qby [], eqOk := Qb2, ownOff := ownOff }
def mf_cncref23_Space : Fn := Qax Tryz.prog C_cncref23_Space_0 64 125 Qmh Qk2
theorem mf_cncref23_Space_eq (x0 x1 x2 x3 : Int) : mf_cncref23_Space [I x0, I x1, I x2, I x3] =
 bif x3 == 17 then
 some [I x0, I x1, I x2]
 else
 bif x3 == 18 then
 some [I x1, I x2, I x0]
 else
 bif x3 == 19 then
 some [I x2, I x0, I x1]
 else
 some [I 0, I 0, I 0] := by kernel_rfl
def Qek := mf_cncref23_Space 
theorem sp_cncref23_Space : Qaj Tryz.prog (C_cncref23_Space_0 ) := Qae rfl trivial
theorem r_cncref23_Space : Qbp Tryz.prog (125, spOf Qmh Qk2 Qek) := Qa0 (C := C_cncref23_Space_0) (L := 64) (by kernel_rfl) (FnOK.bare rfl rfl rfl) sp_cncref23_Space eqOk Qa7 (by kernel_rfl) (by kernel_rfl)
def Qi3 : Sk := { tmps := [TS.v true [ci, ci, ci], tf [ci]], boxes := [], rows := [] }
def Qh3 : Sk := { tmps := [TS.tup [(false, [ci]), (false, [ci]), (false, [ci])]], boxes := [], rows := [] }
def C_cncref23_Plane_0 : Cfg := { spec := Qby [], eqOk := Qb2, ownOff := ownOff }
def mf_cncref23_Plane : Fn := Qax Tryz.prog C_cncref23_Plane_0 64 123 Qi3 Qh3
theorem mf_cncref23_Plane_eq (x0 x1 x2 x3 : Int) : mf_cncref23_Plane [I x0, I x1, I x2, I x3] =
 bif x3 == 17 then
 some [I x0, I x1, I x2]
 else
 bif x3 == 18 then
 some [I x2, I x0, I x1]
 else
 bif x3 == 19 then
 some [I x1, I x2, I x0]
 else
 some [I 0, I 0, I 0] := by kernel_rfl
def Qc4 := mf_cncref23_Plane 
theorem sp_cncref23_Plane : Qaj Tryz.prog (C_cncref23_Plane_0 ) := Qae rfl trivial
theorem r_cncref23_Plane : Qbp Tryz.prog (123, spOf Qi3 Qh3 Qc4) := Qa0 (C := C_cncref23_Plane_0) (L := 64) (by kernel_rfl) (FnOK.bare rfl rfl rfl) sp_cncref23_Plane eqOk Qa7 (by kernel_rfl) (by kernel_rfl)
def sig_cncref23_half : Sk := { tmps := [tf [ci], tf [ci]], boxes := [], rows := [] }
def osig_cncref23_half : Sk := { tmps := [tf [ci]], boxes := [], rows := [] }
def C_cncref23_half_0 : Cfg := { spec := Qby [], eqOk := Qb2, ownOff := ownOff }
def mf_cncref23_half : Fn := Qax Tryz.prog C_cncref23_half_0 64 183 sig_cncref23_half osig_cncref23_half
theorem mf_cncref23_half_eq (x0 x1 : Int) : mf_cncref23_half [I x0, I x1] =
 some [I ((IntKind.i64.wrap (IntKind.i64.wrap (x0 + x1) + 1)).fdiv (2 ^ min (Int.toNat 1) IntKind.i64.bits))] := by kernel_rfl
def Qjy := mf_cncref23_half 
theorem sp_cncref23_half : Qaj Tryz.prog (C_cncref23_half_0 ) := Qae rfl trivial
theorem r_cncref23_half : Qbp Tryz.prog (183, spOf sig_cncref23_half osig_cncref23_half Qjy) := Qa0 (C := C_cncref23_half_0) (L := 64) (by kernel_rfl) (FnOK.bare rfl rfl rfl) sp_cncref23_half eqOk Qa7 (by kernel_rfl) (by kernel_rfl)
def Qi7 : Sk := { tmps := [TS.v true [ci, ci, ci, ci], TS.v true [ci, ci, ci, ci]], boxes := [], rows := [] }
def Qh4 : Sk := { tmps := [tf [ci]], boxes := [], rows := [] }
def C_cncref23_Cross_0 : Cfg := { spec := Qby [], eqOk := Qb2, ownOff := ownOff }
def mf_cncref23_Cross : Fn := Qax Tryz.prog C_cncref23_Cross_0 64 150 Qi7 Qh4
theorem mf_cncref23_Cross_eq (x0 x1 x2 x3 x4 x5 x6 x7 : Int) : mf_cncref23_Cross [I x0, I x1, I x2, I x3, I x4, I x5, I x6, I x7] =
 some [I (IntKind.i64.wrap (IntKind.i64.wrap (x0 * x5) - IntKind.i64.wrap (x1 * x4)))] := by kernel_rfl
def Qdh := mf_cncref23_Cross 
theorem sp_cncref23_Cross : Qaj Tryz.prog (C_cncref23_Cross_0 ) := Qae rfl trivial
theorem r_cncref23_Cross : Qbp Tryz.prog (150, spOf Qi7 Qh4 Qdh) := Qa0 (C := C_cncref23_Cross_0) (L := 64) (by kernel_rfl) (FnOK.bare rfl rfl rfl) sp_cncref23_Cross eqOk Qa7 (by kernel_rfl) (by kernel_rfl)
def Qk4 : Sk := { tmps := [TS.v true [ci, ci, ci, ci], TS.v true [ci, ci, ci, ci]], boxes := [], rows := [] }
def Qjx : Sk := { tmps := [tf [ci]], boxes := [], rows := [] }
def C_cncref23_Dot_0 : Cfg := { spec := Qby [], eqOk := Qb2, ownOff := ownOff }
def mf_cncref23_Dot : Fn := Qax Tryz.prog C_cncref23_Dot_0 64 148 Qk4 Qjx
theorem mf_cncref23_Dot_eq (x0 x1 x2 x3 x4 x5 x6 x7 : Int) : mf_cncref23_Dot [I x0, I x1, I x2, I x3, I x4, I x5, I x6, I x7] =
 some [I (IntKind.i64.wrap (IntKind.i64.wrap (x0 * x4) + IntKind.i64.wrap (x1 * x5)))] := by kernel_rfl
def Qd5 := mf_cncref23_Dot 
theorem sp_cncref23_Dot : Qaj Tryz.prog (C_cncref23_Dot_0 ) := Qae rfl trivial
theorem r_cncref23_Dot : Qbp Tryz.prog (148, spOf Qk4 Qjx Qd5) := Qa0 (C := C_cncref23_Dot_0) (L := 64) (by kernel_rfl) (FnOK.bare rfl rfl rfl) sp_cncref23_Dot eqOk Qa7 (by kernel_rfl) (by kernel_rfl)
def Qpt : Sk := { tmps := [TS.v true [ci, ci, ci, ci], TS.v true [ci, ci, ci, ci], tf [ci], tf [CS.bool]], boxes := [], rows := [] }
def Qn8 : Sk := { tmps := [TS.tup [(true, [ci, ci, ci, ci]), (false, [CS.bool])]], boxes := [], rows := [] }
def C_cncref23_Middle_0 (Qa3 Qb3 Qaq Qar : Fn) : Cfg := { spec := Qby [(172, spOf Qnz Qmi Qa3), (183, spOf sig_cncref23_half osig_cncref23_half Qb3), (150, spOf Qi7 Qh4 Qaq), (148, spOf Qk4 Qjx Qar)], eqOk := Qb2, ownOff := ownOff }
def mf_cncref23_Middle (Qa3 Qb3 Qaq Qar : Fn) : Fn := Qax Tryz.prog (C_cncref23_Middle_0 Qa3 Qb3 Qaq Qar) 64 170 Qpt Qn8
abbrev Qh1 (Qb3 : Fn) (x2 x6 : Int) (Qa3 : Fn) (x3 x7 : Int) (h1_0 h1_1 : Bool) (h1_2 h1_3 h1_4 : AC) : Option (List AC) :=
 bif h1_0 then
 bif h1_1 then
 some [I 0, I 0, I 0, I 0, B false]
 else
 (Qb3 [I x2, I x6]).bind fun o104 =>
 (Qa3 [h1_2, jA o104 0, h1_3]).bind fun o105 =>
 (Qa3 [h1_4, jA o104 0, h1_3]).bind fun o106 =>
 (Qb3 [I x3, I x7]).bind fun o107 =>
 some [jA o105 0, jA o106 0, jA o104 0, jA o107 0, B true]
 else
 (Qb3 [I x2, I x6]).bind fun o108 =>
 (Qa3 [h1_2, jA o108 0, h1_3]).bind fun o109 =>
 (Qa3 [h1_4, jA o108 0, h1_3]).bind fun o110 =>
 (Qb3 [I x3, I x7]).bind fun o111 =>
 some [jA o109 0, jA o110 0, jA o108 0, jA o111 0, B true]
attribute [go_sem] Qh1
abbrev Qp4 (Qar : Fn) (x0 x1 x2 x3 x4 x5 x6 x7 : Int) (Qb3 Qa3 : Fn) (x8 : Int) : Option (List AC) :=
 (Qar [I x0, I x1, I x2, I x3, I x4, I x5, I x6, I x7]).bind fun o122 =>
 bif decide (gA o122 0 > 0) then
 Qh1 Qb3 x2 x6 Qa3 x3 x7 (IntKind.i64.wrap (0 - IntKind.i64.wrap (x0 + x4)) == 0) (IntKind.i64.wrap (0 - IntKind.i64.wrap (x1 + x5)) == 0) (I (IntKind.i64.wrap (0 - IntKind.i64.wrap (x0 + x4)))) (I (IntKind.i64.wrap (IntKind.i64.wrap (IntKind.i64.wrap (0 - IntKind.i64.wrap (x0 + x4)) * IntKind.i64.wrap (0 - IntKind.i64.wrap (x0 + x4))) + IntKind.i64.wrap (IntKind.i64.wrap (0 - IntKind.i64.wrap (x1 + x5)) * IntKind.i64.wrap (0 - IntKind.i64.wrap (x1 + x5)))))) (I (IntKind.i64.wrap (0 - IntKind.i64.wrap (x1 + x5))))
 else
 Qh1 Qb3 x2 x6 Qa3 x3 x7 (IntKind.i64.wrap (x8 * IntKind.i64.wrap (x5 - x1)) == 0) (IntKind.i64.wrap (x8 * IntKind.i64.wrap (x0 - x4)) == 0) (I (IntKind.i64.wrap (x8 * IntKind.i64.wrap (x5 - x1)))) (I (IntKind.i64.wrap (IntKind.i64.wrap (IntKind.i64.wrap (x8 * IntKind.i64.wrap (x5 - x1)) * IntKind.i64.wrap (x8 * IntKind.i64.wrap (x5 - x1))) + IntKind.i64.wrap (IntKind.i64.wrap (x8 * IntKind.i64.wrap (x0 - x4)) * IntKind.i64.wrap (x8 * IntKind.i64.wrap (x0 - x4)))))) (I (IntKind.i64.wrap (x8 * IntKind.i64.wrap (x0 - x4))))
attribute [go_sem] Qp4
abbrev g_cncref23_Middle_3 (x9 : Bool) (Qb3 : Fn) (x2 x6 : Int) (Qa3 : Fn) (x3 x7 x0 x1 : Int) (Qar : Fn) (x4 x5 : Int) (Qaq : Fn) (x8 : Int) : Option (List AC) :=
 bif x9 then
 Qh1 Qb3 x2 x6 Qa3 x3 x7 (IntKind.i64.wrap (0 - x0) == 0) (IntKind.i64.wrap (0 - x1) == 0) (I (IntKind.i64.wrap (0 - x0))) (I (IntKind.i64.wrap (IntKind.i64.wrap (IntKind.i64.wrap (0 - x0) * IntKind.i64.wrap (0 - x0)) + IntKind.i64.wrap (IntKind.i64.wrap (0 - x1) * IntKind.i64.wrap (0 - x1))))) (I (IntKind.i64.wrap (0 - x1)))
 else
 (Qar [I x0, I x1, I x2, I x3, I x4, I x5, I x6, I x7]).bind fun o112 =>
 bif decide (gA o112 0 > 0) then
 (Qaq [I x0, I x1, I x2, I x3, I x4, I x5, I x6, I x7]).bind fun o113 =>
 bif decide (IntKind.i64.wrap (gA o113 0 * x8) > 0) then
 Qh1 Qb3 x2 x6 Qa3 x3 x7 (IntKind.i64.wrap (x0 + x4) == 0) (IntKind.i64.wrap (x1 + x5) == 0) (I (IntKind.i64.wrap (x0 + x4))) (I (IntKind.i64.wrap (IntKind.i64.wrap (IntKind.i64.wrap (x0 + x4) * IntKind.i64.wrap (x0 + x4)) + IntKind.i64.wrap (IntKind.i64.wrap (x1 + x5) * IntKind.i64.wrap (x1 + x5))))) (I (IntKind.i64.wrap (x1 + x5)))
 else
 Qp4 Qar x0 x1 x2 x3 x4 x5 x6 x7 Qb3 Qa3 x8
 else
 Qp4 Qar x0 x1 x2 x3 x4 x5 x6 x7 Qb3 Qa3 x8
attribute [go_sem] g_cncref23_Middle_3
theorem mf_cncref23_Middle_eq (Qa3 Qb3 Qaq Qar : Fn) (x0 x1 x2 x3 x4 x5 x6 x7 x8 : Int) (x9 : Bool) : mf_cncref23_Middle Qa3 Qb3 Qaq Qar [I x0, I x1, I x2, I x3, I x4, I x5, I x6, I x7, I x8, B x9] =
 bif x8 != 1 then
 bif x8 != -1 then
 some [I 0, I 0, I 0, I 0, B false]
 else
 g_cncref23_Middle_3 x9 Qb3 x2 x6 Qa3 x3 x7 x0 x1 Qar x4 x5 Qaq x8
 else
 g_cncref23_Middle_3 x9 Qb3 x2 x6 Qa3 x3 x7 x0 x1 Qar x4 x5 Qaq x8 := by kernel_rfl
def Qf7 := mf_cncref23_Middle Qef Qjy Qdh Qd5 
theorem sp_cncref23_Middle : Qaj Tryz.prog (C_cncref23_Middle_0 Qef Qjy Qdh Qd5) := Qae rfl ⟨r_cncref23_Near, r_cncref23_half, r_cncref23_Cross, r_cncref23_Dot, trivial⟩
theorem r_cncref23_Middle : Qbp Tryz.prog (170, spOf Qpt Qn8 Qf7) := Qa0 (C := (C_cncref23_Middle_0 Qef Qjy Qdh Qd5)) (L := 64) (by kernel_rfl) (FnOK.bare rfl rfl rfl) sp_cncref23_Middle eqOk Qa7 (by kernel_rfl) (by kernel_rfl)
def sig_cncref23_Flat : Sk := { tmps := [tf [ci], tf [ci]], boxes := [], rows := [] }
def osig_cncref23_Flat : Sk := { tmps := [tf [CS.bool]], boxes := [], rows := [] }
def C_cncref23_Flat_0 : Cfg := { spec := Qby [], eqOk := Qb2, ownOff := ownOff }
def mf_cncref23_Flat : Fn := Qax Tryz.prog C_cncref23_Flat_0 64 182 sig_cncref23_Flat osig_cncref23_Flat
theorem mf_cncref23_Flat_eq (x0 x1 : Int) : mf_cncref23_Flat [I x0, I x1] =
 some [B (decide (x1 <= IntKind.i64.wrap (IntKind.i64.wrap (IntKind.i64.wrap (8 * x0) * 4) - 64)))] := by kernel_rfl
def Qjz := mf_cncref23_Flat 
theorem sp_cncref23_Flat : Qaj Tryz.prog (C_cncref23_Flat_0 ) := Qae rfl trivial
theorem r_cncref23_Flat : Qbp Tryz.prog (182, spOf sig_cncref23_Flat osig_cncref23_Flat Qjz) := Qa0 (C := C_cncref23_Flat_0) (L := 64) (by kernel_rfl) (FnOK.bare rfl rfl rfl) sp_cncref23_Flat eqOk Qa7 (by kernel_rfl) (by kernel_rfl)
def Qof : Sk := { tmps := [TS.v true [ci, ci, ci, ci], TS.v true [ci, ci, ci, ci], tf [ci], tf [CS.bool]], boxes := [], rows := [] }
def Qmw : Sk := { tmps := [tf [CS.bool]], boxes := [], rows := [] }
def Qor (Qj8 Qaq : Fn) : Cfg := { spec := Qby [(182, spOf sig_cncref23_Flat osig_cncref23_Flat Qj8), (150, spOf Qi7 Qh4 Qaq)], eqOk := Qb2, ownOff := ownOff }
def mf_cncref23_settled (Qj8 Qaq : Fn) : Fn := Qax Tryz.prog (Qor Qj8 Qaq) 64 169 Qof Qmw
theorem mf_cncref23_settled_eq (Qj8 Qaq : Fn) (x0 x1 x2 x3 x4 x5 x6 x7 x8 : Int) (x9 : Bool) : mf_cncref23_settled Qj8 Qaq [I x0, I x1, I x2, I x3, I x4, I x5, I x6, I x7, I x8, B x9] =
 bif !x9 then
 (Qaq [I x0, I x1, I x2, I x3, I x4, I x5, I x6, I x7]).bind fun o2 =>
 bif decide (IntKind.i64.wrap (gA o2 0 * x8) > 0) then
 (Qj8 [I (mn x2 x6), I (IntKind.i64.wrap (IntKind.i64.wrap (IntKind.i64.wrap (x0 - x4) * IntKind.i64.wrap (x0 - x4)) + IntKind.i64.wrap (IntKind.i64.wrap (x1 - x5) * IntKind.i64.wrap (x1 - x5))))]).bind fun o3 =>
 some [B (bA o3 0)]
 else
 some [B false]
 else
 some [B false] := by kernel_rfl
def Qfu := mf_cncref23_settled Qjz Qdh 
theorem sp_cncref23_settled : Qaj Tryz.prog (Qor Qjz Qdh) := Qae rfl ⟨r_cncref23_Flat, r_cncref23_Cross, trivial⟩
theorem r_cncref23_settled : Qbp Tryz.prog (169, spOf Qof Qmw Qfu) := Qa0 (C := (Qor Qjz Qdh)) (L := 64) (by kernel_rfl) (FnOK.bare rfl rfl rfl) sp_cncref23_settled eqOk Qa7 (by kernel_rfl) (by kernel_rfl)
def fuel_cncref23_pieces : Nat := 20
def Qeg : Sk := { tmps := [TS.v true [ci, ci, ci, ci], TS.v true [ci, ci, ci, ci], tf [ci], tf [CS.bool], tf [ci]], boxes := [], rows := [] }
def Qd8 : Sk := { tmps := [tf [CS.own 103700 4]], boxes := [], rows := [(103700, 154, [kI, kI, kI, kI])] }
def C_cncref23_pieces_0 (Qcp Qhr Qgj : Fn) : Cfg := { spec := Qby [(152, spOf Qeg Qd8 Qcp), (170, spOf Qpt Qn8 Qhr), (169, spOf Qof Qmw Qgj)], eqOk := Qb2, pure := fun f => !(Qfy [152] f), ownOff := ownOff, rowDst := [23], rowAs := fun d => bif Nat.beq d 23 then 103700 else d, ownRes := true }
def Qmf (Qcp Qhr Qgj : Fn) : Fn := Qax Tryz.prog (C_cncref23_pieces_0 Qcp Qhr Qgj) 64 152 Qeg Qd8
theorem mf_cncref23_pieces_eq (Qcp Qhr Qgj : Fn) (x0 x1 x2 x3 x4 x5 x6 x7 x8 : Int) (x9 : Bool) (x10 : Int) : Qmf Qcp Qhr Qgj [I x0, I x1, I x2, I x3, I x4, I x5, I x6, I x7, I x8, B x9, I x10] =
 bif decide (x10 >= 16) then
 some [.view [kI, kI, kI, kI] [[I x4, I x5, I x6, I x7]]]
 else
 (Qgj [I x0, I x1, I x2, I x3, I x4, I x5, I x6, I x7, I x8, B x9]).bind fun o4 =>
 bif bA o4 0 then
 some [.view [kI, kI, kI, kI] [[I x4, I x5, I x6, I x7]]]
 else
 (Qhr [I x0, I x1, I x2, I x3, I x4, I x5, I x6, I x7, I x8, B x9]).bind fun o5 =>
 (Qcp [I x0, I x1, I x2, I x3, jA o5 0, jA o5 1, jA o5 2, jA o5 3, I x8, B false, I (IntKind.i64.wrap (x10 + 1))]).bind fun o6 =>
 (Qcp [jA o5 0, jA o5 1, jA o5 2, jA o5 3, I x4, I x5, I x6, I x7, I x8, B false, I (IntKind.i64.wrap (x10 + 1))]).bind fun o7 =>
 bif ((wA o6 0 ++ wA o7 0).length * 32).ble 140737488355328 then
 some [.view [kI, kI, kI, kI] (wA o6 0 ++ wA o7 0)]
 else
 none := by kernel_rfl
def mG_cncref23_pieces (M : Fn) : Fn := Qmf M Qf7 Qfu 
def Qgq : Nat -> Fn
 | 0 => fun _ => none
 | n + 1 => mG_cncref23_pieces (Qgq n)
theorem sp_cncref23_pieces {M : Fn} (h : Qbp Tryz.prog (152, spOf Qeg Qd8 M)) : Qaj Tryz.prog (C_cncref23_pieces_0 M Qf7 Qfu) := Qae rfl ⟨h, r_cncref23_Middle, r_cncref23_settled, trivial⟩
theorem rG_cncref23_pieces {M : Fn} (h : Qbp Tryz.prog (152, spOf Qeg Qd8 M)) : Qbp Tryz.prog (152, spOf Qeg Qd8 (mG_cncref23_pieces M)) := Qa0 (C := (C_cncref23_pieces_0 M Qf7 Qfu)) (L := 64) (by kernel_rfl) (FnOK.bare rfl rfl rfl) (sp_cncref23_pieces h) eqOk Qa7 (by kernel_rfl) (by kernel_rfl)
theorem rR_cncref23_pieces : ∀ n, Qbp Tryz.prog (152, spOf Qeg Qd8 (Qgq n))
 | 0 => row_none
 | n + 1 => rG_cncref23_pieces (rR_cncref23_pieces n)
def Qno := Qgq fuel_cncref23_pieces
theorem r_cncref23_pieces : Qbp Tryz.prog (152, spOf Qeg Qd8 Qno) := rR_cncref23_pieces fuel_cncref23_pieces
def sig_cncref23_spoke : Sk := { tmps := [TS.v true [ci, ci, ci, ci]], boxes := [], rows := [] }
def Qpx : Sk := { tmps := [TS.v true [ci, ci, ci, ci]], boxes := [], rows := [] }
def C_cncref23_spoke_0 (Qdq Qar : Fn) : Cfg := { spec := Qby [(117, spOf Qn3 Qmg Qdq), (148, spOf Qk4 Qjx Qar)], eqOk := Qb2, ownOff := ownOff }
def mf_cncref23_spoke (Qdq Qar : Fn) : Fn := Qax Tryz.prog (C_cncref23_spoke_0 Qdq Qar) 64 168 sig_cncref23_spoke Qpx
theorem mf_cncref23_spoke_eq (Qdq Qar : Fn) (x0 x1 x2 x3 : Int) : mf_cncref23_spoke Qdq Qar [I x0, I x1, I x2, I x3] =
 (Qar [I (IntKind.i64.wrap (x0 * 16)), I (IntKind.i64.wrap (x1 * 16)), I 0, I (IntKind.i64.wrap (x3 * 16)), I (IntKind.i64.wrap (x0 * 16)), I (IntKind.i64.wrap (x1 * 16)), I 0, I (IntKind.i64.wrap (x3 * 16))]).bind fun o2 =>
 (Qdq [jA o2 0]).bind fun o3 =>
 bif decide (IntKind.i64.wrap (gA o3 0 * IntKind.i64.wrap (gA o3 0 + 1)) < gA o2 0) then
 some [I (IntKind.i64.wrap (x0 * 16)), I (IntKind.i64.wrap (x1 * 16)), I (IntKind.i64.wrap (gA o3 0 + 1)), I (IntKind.i64.wrap (x3 * 16))]
 else
 some [I (IntKind.i64.wrap (x0 * 16)), I (IntKind.i64.wrap (x1 * 16)), jA o3 0, I (IntKind.i64.wrap (x3 * 16))] := by kernel_rfl
def Qla := mf_cncref23_spoke Qfr Qd5 
theorem sp_cncref23_spoke : Qaj Tryz.prog (C_cncref23_spoke_0 Qfr Qd5) := Qae rfl ⟨r_cncref23_root, r_cncref23_Dot, trivial⟩
theorem r_cncref23_spoke : Qbp Tryz.prog (168, spOf sig_cncref23_spoke Qpx Qla) := Qa0 (C := (C_cncref23_spoke_0 Qfr Qd5)) (L := 64) (by kernel_rfl) (FnOK.bare rfl rfl rfl) sp_cncref23_spoke eqOk Qa7 (by kernel_rfl) (by kernel_rfl)
def Qnw : Sk := { tmps := [TS.v true [ci, ci, ci, ci, ci, ci, ci, ci, ci, ci, ci, ci, ci, CS.bool, ci, CS.bool, ci, ci, ci, ci, ci, CS.bool]], boxes := [], rows := [] }
def Qmd : Sk := { tmps := [TS.tup [(true, [ci, ci, ci, ci]), (true, [ci, ci, ci, ci])]], boxes := [], rows := [] }
def C_cncref23_ends_0 (Qaz : Fn) : Cfg := { spec := Qby [(123, spOf Qi3 Qh3 Qaz)], eqOk := Qb2, ownOff := ownOff }
def mf_cncref23_ends (Qaz : Fn) : Fn := Qax Tryz.prog (C_cncref23_ends_0 Qaz) 64 147 Qnw Qmd
theorem mf_cncref23_ends_eq (Qaz : Fn) (x0 x1 x2 x3 x4 x5 x6 x7 x8 x9 x10 x11 x12 : Int) (x13 : Bool) (x14 : Int) (x15 : Bool) (x16 x17 x18 x19 x20 : Int) (x21 : Bool) : mf_cncref23_ends Qaz [I x0, I x1, I x2, I x3, I x4, I x5, I x6, I x7, I x8, I x9, I x10, I x11, I x12, B x13, I x14, B x15, I x16, I x17, I x18, I x19, I x20, B x21] =
 (Qaz [I x9, I x10, I x11, I x8]).bind fun o3 =>
 (Qaz [I x2, I x3, I x4, I x8]).bind fun o4 =>
 (Qaz [I x5, I x6, I x7, I x8]).bind fun o5 =>
 some [I (IntKind.i64.wrap (gA o4 0 - gA o3 0)), I (IntKind.i64.wrap (gA o4 1 - gA o3 1)), I 0, jA o4 2, I (IntKind.i64.wrap (gA o5 0 - gA o3 0)), I (IntKind.i64.wrap (gA o5 1 - gA o3 1)), I 0, jA o5 2] := by kernel_rfl
def Qgi := mf_cncref23_ends Qc4 
theorem sp_cncref23_ends : Qaj Tryz.prog (C_cncref23_ends_0 Qc4) := Qae rfl ⟨r_cncref23_Plane, trivial⟩
theorem r_cncref23_ends : Qbp Tryz.prog (147, spOf Qnw Qmd Qgi) := Qa0 (C := (C_cncref23_ends_0 Qc4)) (L := 64) (by kernel_rfl) (FnOK.bare rfl rfl rfl) sp_cncref23_ends eqOk Qa7 (by kernel_rfl) (by kernel_rfl)
def sig_cncref23_Ends : Sk := { tmps := [TS.v true [ci, ci, ci, ci, ci, ci, ci, ci, ci, ci, ci, ci, ci, CS.bool, ci, CS.bool, ci, ci, ci, ci, ci, CS.bool]], boxes := [], rows := [] }
def osig_cncref23_Ends : Sk := { tmps := [TS.tup [(true, [ci, ci, ci, ci]), (true, [ci, ci, ci, ci])]], boxes := [], rows := [] }
def C_cncref23_Ends_0 (Qg4 Qb4 : Fn) : Cfg := { spec := Qby [(168, spOf sig_cncref23_spoke Qpx Qg4), (147, spOf Qnw Qmd Qb4)], eqOk := Qb2, ownOff := ownOff }
def mf_cncref23_Ends (Qg4 Qb4 : Fn) : Fn := Qax Tryz.prog (C_cncref23_Ends_0 Qg4 Qb4) 64 151 sig_cncref23_Ends osig_cncref23_Ends
theorem mf_cncref23_Ends_eq (Qg4 Qb4 : Fn) (x0 x1 x2 x3 x4 x5 x6 x7 x8 x9 x10 x11 x12 : Int) (x13 : Bool) (x14 : Int) (x15 : Bool) (x16 x17 x18 x19 x20 : Int) (x21 : Bool) : mf_cncref23_Ends Qg4 Qb4 [I x0, I x1, I x2, I x3, I x4, I x5, I x6, I x7, I x8, I x9, I x10, I x11, I x12, B x13, I x14, B x15, I x16, I x17, I x18, I x19, I x20, B x21] =
 (Qb4 [I x0, I x1, I x2, I x3, I x4, I x5, I x6, I x7, I x8, I x9, I x10, I x11, I x12, B x13, I x14, B x15, I x16, I x17, I x18, I x19, I x20, B x21]).bind fun o3 =>
 (Qg4 [jA o3 0, jA o3 1, jA o3 2, jA o3 3]).bind fun o4 =>
 (Qg4 [jA o3 4, jA o3 5, jA o3 6, jA o3 7]).bind fun o5 =>
 some [jA o4 0, jA o4 1, jA o4 2, jA o4 3, jA o5 0, jA o5 1, jA o5 2, jA o5 3] := by kernel_rfl
def Qng := mf_cncref23_Ends Qla Qgi 
theorem sp_cncref23_Ends : Qaj Tryz.prog (C_cncref23_Ends_0 Qla Qgi) := Qae rfl ⟨r_cncref23_spoke, r_cncref23_ends, trivial⟩
theorem r_cncref23_Ends : Qbp Tryz.prog (151, spOf sig_cncref23_Ends osig_cncref23_Ends Qng) := Qa0 (C := (C_cncref23_Ends_0 Qla Qgi)) (L := 64) (by kernel_rfl) (FnOK.bare rfl rfl rfl) sp_cncref23_Ends eqOk Qa7 (by kernel_rfl) (by kernel_rfl)
def sig_cncref01_cmp : Sk := { tmps := [tf [CS.sl [Kd.int .u64]], tf [CS.sl [Kd.int .u64]]], boxes := [], rows := [] }
def osig_cncref01_cmp : Sk := { tmps := [tf [ci]], boxes := [], rows := [] }
def C_cncref01_cmp_0 : Cfg := { spec := Qby [], eqOk := Qb2, ownOff := ownOff }
def sk_cncref01_cmp_6 : Sk := { tmps := [tf [CS.sl [Kd.int .u64]], tf [CS.sl [Kd.int .u64]], td, td, td, tf [ci]] ++ dd 35, boxes := [], rows := [] }
def ex_cncref01_cmp_6 : List (Ex × Sk) := [(Ex.ret, { tmps := [td, td, td, td, tf [ci]] ++ dd 36, boxes := [], rows := [] }), (Ex.exit 0, { tmps := [td] ++ dd 40, boxes := [], rows := [] })]
def st_cncref01_cmp_6 : Lp := Qkk Tryz.prog C_cncref01_cmp_0 64 6 (Qfk Tryz.prog 166 6) sk_cncref01_cmp_6 ex_cncref01_cmp_6
def C_cncref01_cmp_1 (N6 : Lp) : Cfg := C_cncref01_cmp_0.loop 6 sk_cncref01_cmp_6 ex_cncref01_cmp_6 N6
def mf_cncref01_cmp (N6 : Lp) : Fn := Qax Tryz.prog (C_cncref01_cmp_1 N6) 64 166 sig_cncref01_cmp osig_cncref01_cmp
theorem st_cncref01_cmp_6_eq (v0 v1 : Rw) (v2 : Int) : st_cncref01_cmp_6 [.view [Kd.int .u64] v0, .view [Kd.int .u64] v1, I v2] =
 bif decide (v2 >= 0) then
 bif decide (0 <= v2) && decide (v2 < (v0.length : Int)) then
 bif decide (0 <= v2) && decide (v2 < (v1.length : Int)) then
 bif decide (Qa1 (nth .dead (nth [] v0 v2.toNat) 0) < Qa1 (nth .dead (nth [] v1 v2.toNat) 0)) then
 some (1, [I (-1)])
 else
 bif decide (0 <= v2) && decide (v2 < (v0.length : Int)) then
 bif decide (0 <= v2) && decide (v2 < (v1.length : Int)) then
 bif decide (Qa1 (nth .dead (nth [] v0 v2.toNat) 0) > Qa1 (nth .dead (nth [] v1 v2.toNat) 0)) then
 some (1, [I 1])
 else
 some (0, [.view [Kd.int IntKind.u64] v0, .view [Kd.int IntKind.u64] v1, I (IntKind.i64.wrap (v2 - 1))])
 else
 none
 else
 none
 else
 none
 else
 none
 else
 some (2, []) := by kernel_rfl
theorem mf_cncref01_cmp_eq (N6 : Lp) (x0 x1 : Rw) : mf_cncref01_cmp N6 [.view [Kd.int .u64] x0, .view [Kd.int .u64] x1] =
 bif (x0.length : Int) != (x1.length : Int) then
 bif decide ((x0.length : Int) < (x1.length : Int)) then
 some [I (-1)]
 else
 some [I 1]
 else
 (N6 [.view [Kd.int IntKind.u64] x0, .view [Kd.int IntKind.u64] x1, I (IntKind.i64.wrap ((x0.length : Int) - 1))]).bind fun o1 =>
 bif o1.1.beq 1 then
 some [I (Qa1 (nth .dead o1.2 0))]
 else
 bif o1.1.beq 2 then
 some [I 0]
 else
 none := by kernel_rfl
def Qlh := Qbn (st_cncref01_cmp_6 )
def Qls := mf_cncref01_cmp Qlh
theorem sp_cncref01_cmp : Qaj Tryz.prog (C_cncref01_cmp_0 ) := Qae rfl trivial
theorem r_cncref01_cmp : Qbp Tryz.prog (166, spOf sig_cncref01_cmp osig_cncref01_cmp Qls) := Qa0 (C := (C_cncref01_cmp_1 Qlh)) (L := 64) (by kernel_rfl) ((FnOK.bare rfl rfl rfl).loop sp_cncref01_cmp eqOk Qa7 (by kernel_rfl) (by kernel_rfl)) sp_cncref01_cmp eqOk Qa7 (by kernel_rfl) (by kernel_rfl)
def sig_cncref01_cut : Sk := { tmps := [tf [CS.sl [Kd.int .u64]]], boxes := [], rows := [] }
def osig_cncref01_cut : Sk := { tmps := [tf [CS.sl [Kd.int .u64]]], boxes := [], rows := [] }
def C_cncref01_cut_0 : Cfg := { spec := Qby [], eqOk := Qb2, ownOff := ownOff }
def sk_cncref01_cut_1 : Sk := { tmps := [tf [CS.sl [Kd.int .u64]]] ++ dd 20, boxes := [], rows := [] }
def ex_cncref01_cut_1 : List (Ex × Sk) := [(Ex.exit 0, { tmps := [tf [CS.sl [Kd.int .u64]]] ++ dd 20, boxes := [], rows := [] })]
def st_cncref01_cut_1 : Lp := Qkk Tryz.prog C_cncref01_cut_0 64 1 (Qfk Tryz.prog 191 1) sk_cncref01_cut_1 ex_cncref01_cut_1
def C_cncref01_cut_1 (N1 : Lp) : Cfg := C_cncref01_cut_0.loop 1 sk_cncref01_cut_1 ex_cncref01_cut_1 N1
def mf_cncref01_cut (N1 : Lp) : Fn := Qax Tryz.prog (C_cncref01_cut_1 N1) 64 191 sig_cncref01_cut osig_cncref01_cut
theorem st_cncref01_cut_1_eq (v0 : Rw) : st_cncref01_cut_1 [.view [Kd.int .u64] v0] =
 bif decide ((v0.length : Int) > 0) then
 bif decide (0 <= IntKind.i64.wrap ((v0.length : Int) - 1)) && decide (IntKind.i64.wrap ((v0.length : Int) - 1) < (v0.length : Int)) then
 bif Qa1 (nth .dead (nth [] v0 (IntKind.i64.wrap ((v0.length : Int) - 1)).toNat) 0) == 0 then
 bif decide (0 <= IntKind.i64.wrap ((v0.length : Int) - 1)) && decide (IntKind.i64.wrap ((v0.length : Int) - 1) <= (v0.length : Int)) then
 some (0, [.view [Kd.int IntKind.u64] (List.take (IntKind.i64.wrap ((v0.length : Int) - 1)).toNat v0)])
 else
 none
 else
 some (1, [.view [Kd.int IntKind.u64] v0])
 else
 none
 else
 some (1, [.view [Kd.int IntKind.u64] v0]) := by kernel_rfl
theorem mf_cncref01_cut_eq (N1 : Lp) (x0 : Rw) : mf_cncref01_cut N1 [.view [Kd.int .u64] x0] =
 (N1 [.view [Kd.int IntKind.u64] x0]).bind fun o1 =>
 bif o1.1.beq 1 then
 some [.view [Kd.int IntKind.u64] (Qgc (nth .dead o1.2 0))]
 else
 none := by kernel_rfl
def Qir := Qbn (st_cncref01_cut_1 )
def Qhj := mf_cncref01_cut Qir
theorem sp_cncref01_cut : Qaj Tryz.prog (C_cncref01_cut_0 ) := Qae rfl trivial
theorem r_cncref01_cut : Qbp Tryz.prog (191, spOf sig_cncref01_cut osig_cncref01_cut Qhj) := Qa0 (C := (C_cncref01_cut_1 Qir)) (L := 64) (by kernel_rfl) ((FnOK.bare rfl rfl rfl).loop sp_cncref01_cut eqOk Qa7 (by kernel_rfl) (by kernel_rfl)) sp_cncref01_cut eqOk Qa7 (by kernel_rfl) (by kernel_rfl)
def sig_cncref01_mul : Sk := { tmps := [tf [CS.sl [Kd.int .u64]], tf [CS.sl [Kd.int .u64]]], boxes := [], rows := [] }
def osig_cncref01_mul : Sk := { tmps := [tf [CS.sl [Kd.int .u64]]], boxes := [], rows := [] }
def C_cncref01_mul_0 (Qcs : Fn) : Cfg := { spec := Qby [(191, spOf sig_cncref01_cut osig_cncref01_cut Qcs)], eqOk := Qb2, ownOff := ownOff }
def sk_cncref01_mul_7 : Sk := { tmps := [tf [CS.sl [Kd.int .u64]], tf [CS.sl [Kd.int .u64]], td, td, td, tf [CS.own 15 1], tf [ci], tf [CS.int .u64], tf [ci]] ++ dd 63, boxes := [], rows := [(15, 123, [Kd.int .u64])] }
def ex_cncref01_mul_7 : List (Ex × Sk) := [(Ex.exit 2, { tmps := [tf [CS.sl [Kd.int .u64]], tf [CS.sl [Kd.int .u64]], td, td, td, tf [CS.own 15 1], tf [ci], tf [CS.int .u64]] ++ dd 64, boxes := [], rows := [(15, 123, [Kd.int .u64])] })]
def Qdn (Qcs : Fn) : Lp := Qkk Tryz.prog (C_cncref01_mul_0 Qcs) 64 7 (Qfk Tryz.prog 179 7) sk_cncref01_mul_7 ex_cncref01_mul_7
def C_cncref01_mul_1 (Qcs : Fn) (N7 : Lp) : Cfg := (C_cncref01_mul_0 Qcs).loop 7 sk_cncref01_mul_7 ex_cncref01_mul_7 N7
def sk_cncref01_mul_3 : Sk := { tmps := [tf [CS.sl [Kd.int .u64]], tf [CS.sl [Kd.int .u64]], td, td, td, tf [CS.own 15 1], tf [ci]] ++ dd 65, boxes := [], rows := [(15, 123, [Kd.int .u64])] }
def ex_cncref01_mul_3 : List (Ex × Sk) := [(Ex.exit 0, { tmps := [td, td, td, td, td, tf [CS.own 15 1]] ++ dd 66, boxes := [], rows := [(15, 123, [Kd.int .u64])] })]
def Qhn (Qcs : Fn) (N7 : Lp) : Lp := Qkk Tryz.prog (C_cncref01_mul_1 Qcs N7) 64 3 (Qfk Tryz.prog 179 3) sk_cncref01_mul_3 ex_cncref01_mul_3
def C_cncref01_mul_2 (Qcs : Fn) (N7 N3 : Lp) : Cfg := (C_cncref01_mul_1 Qcs N7).loop 3 sk_cncref01_mul_3 ex_cncref01_mul_3 N3
def mf_cncref01_mul (Qcs : Fn) (N7 N3 : Lp) : Fn := Qax Tryz.prog (C_cncref01_mul_2 Qcs N7 N3) 64 179 sig_cncref01_mul osig_cncref01_mul
theorem st_cncref01_mul_7_eq (Qcs : Fn) (v0 v1 v2 : Rw) (v3 v4 v5 : Int) : Qdn Qcs [.view [Kd.int .u64] v0, .view [Kd.int .u64] v1, .view [Kd.int .u64] v2, I v3, U v4, I v5] =
 bif decide (v5 < (v2.length : Int)) then
 bif decide (0 <= IntKind.i64.wrap (v3 + v5)) && decide (IntKind.i64.wrap (v3 + v5) < (v0.length : Int)) then
 bif decide (0 <= v3) && decide (v3 < (v1.length : Int)) then
 bif decide (0 <= v5) && decide (v5 < (v2.length : Int)) then
 bif decide (0 <= IntKind.i64.wrap (v3 + v5)) && decide (IntKind.i64.wrap (v3 + v5) < (v0.length : Int)) then
 some (0, [.view [Kd.int IntKind.u64] (v0.set (IntKind.i64.wrap (v3 + v5)).toNat [U (IntKind.u64.wrap (↑(BitVec.ofInt IntKind.u64.bits (IntKind.u64.wrap (IntKind.u64.wrap (Qa1 (nth .dead (nth [] v0 (IntKind.i64.wrap (v3 + v5)).toNat) 0) + IntKind.u64.wrap (Qa1 (nth .dead (nth [] v1 v3.toNat) 0) * Qa1 (nth .dead (nth [] v2 v5.toNat) 0))) + v4)) &&& BitVec.ofInt IntKind.u64.bits 65535).toNat : Int))]), .view [Kd.int IntKind.u64] v1, .view [Kd.int IntKind.u64] v2, I v3, U ((IntKind.u64.wrap (IntKind.u64.wrap (Qa1 (nth .dead (nth [] v0 (IntKind.i64.wrap (v3 + v5)).toNat) 0) + IntKind.u64.wrap (Qa1 (nth .dead (nth [] v1 v3.toNat) 0) * Qa1 (nth .dead (nth [] v2 v5.toNat) 0))) + v4)).fdiv (2 ^ min (Int.toNat 16) IntKind.u64.bits)), I (IntKind.i64.wrap (v5 + 1))])
 else
 none
 else
 none
 else
 none
 else
 none
 else
 some (1, [.view [Kd.int IntKind.u64] v0, .view [Kd.int IntKind.u64] v1, .view [Kd.int IntKind.u64] v2, I v3, U v4]) := by kernel_rfl
theorem st_cncref01_mul_3_eq (Qcs : Fn) (N7 : Lp) (v0 v1 v2 : Rw) (v3 : Int) : Qhn Qcs N7 [.view [Kd.int .u64] v0, .view [Kd.int .u64] v1, .view [Kd.int .u64] v2, I v3] =
 bif decide (v3 < (v1.length : Int)) then
 (N7 [.view [Kd.int IntKind.u64] v0, .view [Kd.int IntKind.u64] v1, .view [Kd.int IntKind.u64] v2, I v3, U 0, I 0]).bind fun o3 =>
 bif o3.1.beq 1 then
 bif decide (0 <= IntKind.i64.wrap (Qa1 (nth .dead o3.2 3) + (↑(Qgc (nth .dead o3.2 2)).length : Int))) && decide (IntKind.i64.wrap (Qa1 (nth .dead o3.2 3) + (↑(Qgc (nth .dead o3.2 2)).length : Int)) < (↑(Qgc (nth .dead o3.2 0)).length : Int)) then
 bif decide (0 <= IntKind.i64.wrap (Qa1 (nth .dead o3.2 3) + (↑(Qgc (nth .dead o3.2 2)).length : Int))) && decide (IntKind.i64.wrap (Qa1 (nth .dead o3.2 3) + (↑(Qgc (nth .dead o3.2 2)).length : Int)) < (↑(Qgc (nth .dead o3.2 0)).length : Int)) then
 some (0, [.view [Kd.int IntKind.u64] ((Qgc (nth .dead o3.2 0)).set (IntKind.i64.wrap (Qa1 (nth .dead o3.2 3) + (↑(Qgc (nth .dead o3.2 2)).length : Int))).toNat [U (IntKind.u64.wrap (Qa1 (nth .dead (nth [] (Qgc (nth .dead o3.2 0)) (IntKind.i64.wrap (Qa1 (nth .dead o3.2 3) + (↑(Qgc (nth .dead o3.2 2)).length : Int))).toNat) 0) + Qa1 (nth .dead o3.2 4)))]), .view [Kd.int IntKind.u64] (Qgc (nth .dead o3.2 1)), .view [Kd.int IntKind.u64] (Qgc (nth .dead o3.2 2)), I (IntKind.i64.wrap (Qa1 (nth .dead o3.2 3) + 1))])
 else
 none
 else
 none
 else
 none
 else
 some (1, [.view [Kd.int IntKind.u64] v0]) := by kernel_rfl
theorem mf_cncref01_mul_eq (Qcs : Fn) (N7 N3 : Lp) (x0 x1 : Rw) : mf_cncref01_mul Qcs N7 N3 [.view [Kd.int .u64] x0, .view [Kd.int .u64] x1] =
 bif decide (IntKind.i64.wrap ((x0.length : Int) + (x1.length : Int)) = IntKind.i64.wrap ((x0.length : Int) + (x1.length : Int))) then
 bif decide (0 <= IntKind.i64.wrap ((x0.length : Int) + (x1.length : Int))) && decide (IntKind.i64.wrap ((x0.length : Int) + (x1.length : Int)) * (↑8 : Int) <= 140737488355328) then
 (N3 [.view [Kd.int IntKind.u64] (List.replicate (IntKind.i64.wrap ((x0.length : Int) + (x1.length : Int))).toNat [U 0]), .view [Kd.int IntKind.u64] x0, .view [Kd.int IntKind.u64] x1, I 0]).bind fun o4 =>
 bif o4.1.beq 1 then
 (Qcs [.view [Kd.int IntKind.u64] (Qgc (nth .dead o4.2 0))]).bind fun o5 =>
 some [.view [Kd.int IntKind.u64] (Qgc (nth .dead o5 0))]
 else
 none
 else
 none
 else
 none := by kernel_rfl
def l_cncref01_mul_7 := Qbn (Qdn Qhj )
def l_cncref01_mul_3 := Qbn (Qhn Qhj l_cncref01_mul_7)
def Qpe := mf_cncref01_mul Qhj l_cncref01_mul_7 l_cncref01_mul_3
theorem sp_cncref01_mul : Qaj Tryz.prog (C_cncref01_mul_0 Qhj) := Qae rfl ⟨r_cncref01_cut, trivial⟩
theorem r_cncref01_mul : Qbp Tryz.prog (179, spOf sig_cncref01_mul osig_cncref01_mul Qpe) := Qa0 (C := (C_cncref01_mul_2 Qhj l_cncref01_mul_7 l_cncref01_mul_3)) (L := 64) (by kernel_rfl) (((FnOK.bare rfl rfl rfl).loop sp_cncref01_mul eqOk Qa7 (by kernel_rfl) (by kernel_rfl)).loop sp_cncref01_mul eqOk Qa7 (by kernel_rfl) (by kernel_rfl)) sp_cncref01_mul eqOk Qa7 (by kernel_rfl) (by kernel_rfl)
def sig_cncref01_limbs : Sk := { tmps := [tf [CS.int .u64]], boxes := [], rows := [] }
def Qp3 : Sk := { tmps := [tf [CS.sl [Kd.int .u64]]], boxes := [], rows := [] }
def C_cncref01_limbs_0 : Cfg := { spec := Qby [], eqOk := Qb2, ownOff := ownOff, prom := fun b => bif Nat.beq b 2 then [(3, 123)] else [] }
def sk_cncref01_limbs_2 : Sk := { tmps := [tf [CS.int .u64], td, td, tf [CS.own 3 1]] ++ dd 10, boxes := [], rows := [(3, 123, [Kd.int .u64])] }
def ex_cncref01_limbs_2 : List (Ex × Sk) := [(Ex.exit 0, { tmps := [td, td, td, tf [CS.own 3 1]] ++ dd 10, boxes := [], rows := [(3, 123, [Kd.int .u64])] })]
def Qp9 : Lp := Qkk Tryz.prog C_cncref01_limbs_0 64 2 (Qfk Tryz.prog 180 2) sk_cncref01_limbs_2 ex_cncref01_limbs_2
def C_cncref01_limbs_1 (N2 : Lp) : Cfg := C_cncref01_limbs_0.loop 2 sk_cncref01_limbs_2 ex_cncref01_limbs_2 N2
def mf_cncref01_limbs (N2 : Lp) : Fn := Qax Tryz.prog (C_cncref01_limbs_1 N2) 64 180 sig_cncref01_limbs Qp3
theorem st_cncref01_limbs_2_eq (v0 : Rw) (v1 : Int) : Qp9 [.view [Kd.int .u64] v0, U v1] =
 bif decide (v1 > 0) then
 bif ((v0 ++ [[U (IntKind.u64.wrap (↑(BitVec.ofInt IntKind.u64.bits v1 &&& BitVec.ofInt IntKind.u64.bits 65535).toNat : Int))]]).length * 8).ble 140737488355328 then
 some (0, [.view [Kd.int IntKind.u64] (v0 ++ [[U (IntKind.u64.wrap (↑(BitVec.ofInt IntKind.u64.bits v1 &&& BitVec.ofInt IntKind.u64.bits 65535).toNat : Int))]]), U (v1.fdiv (2 ^ min (Int.toNat 16) IntKind.u64.bits))])
 else
 none
 else
 some (1, [.view [Kd.int IntKind.u64] v0]) := by kernel_rfl
theorem mf_cncref01_limbs_eq (N2 : Lp) (x0 : Int) : mf_cncref01_limbs N2 [U x0] =
 (N2 [.view [Kd.int IntKind.u64] [], U x0]).bind fun o1 =>
 bif o1.1.beq 1 then
 some [.view [Kd.int IntKind.u64] (Qgc (nth .dead o1.2 0))]
 else
 none := by kernel_rfl
def Qi9 := Qbn (Qp9 )
def Qis := mf_cncref01_limbs Qi9
theorem sp_cncref01_limbs : Qaj Tryz.prog (C_cncref01_limbs_0 ) := Qae rfl trivial
theorem r_cncref01_limbs : Qbp Tryz.prog (180, spOf sig_cncref01_limbs Qp3 Qis) := Qa0 (C := (C_cncref01_limbs_1 Qi9)) (L := 64) (by kernel_rfl) ((FnOK.bare rfl rfl rfl).loop sp_cncref01_limbs eqOk Qa7 (by kernel_rfl) (by kernel_rfl)) sp_cncref01_limbs eqOk Qa7 (by kernel_rfl) (by kernel_rfl)
def sig_cncref01_mag : Sk := { tmps := [tf [ci]], boxes := [], rows := [] }
def osig_cncref01_mag : Sk := { tmps := [tf [CS.int .u64]], boxes := [], rows := [] }
def C_cncref01_mag_0 : Cfg := { spec := Qby [], eqOk := Qb2, ownOff := ownOff }
def mf_cncref01_mag : Fn := Qax Tryz.prog C_cncref01_mag_0 64 181 sig_cncref01_mag osig_cncref01_mag
theorem mf_cncref01_mag_eq (x0 : Int) : mf_cncref01_mag [I x0] =
 bif decide (x0 < 0) then
 some [U (IntKind.u64.wrap (IntKind.u64.wrap (IntKind.i64.wrap (0 - IntKind.i64.wrap (x0 + 1))) + 1))]
 else
 some [U (IntKind.u64.wrap x0)] := by kernel_rfl
def Qll := mf_cncref01_mag 
theorem sp_cncref01_mag : Qaj Tryz.prog (C_cncref01_mag_0 ) := Qae rfl trivial
theorem r_cncref01_mag : Qbp Tryz.prog (181, spOf sig_cncref01_mag osig_cncref01_mag Qll) := Qa0 (C := C_cncref01_mag_0) (L := 64) (by kernel_rfl) (FnOK.bare rfl rfl rfl) sp_cncref01_mag eqOk Qa7 (by kernel_rfl) (by kernel_rfl)
def Qok : Sk := { tmps := [tf [ci], tf [ci]], boxes := [], rows := [] }
def Qmv : Sk := { tmps := [tf [CS.sl [Kd.int .u64]]], boxes := [], rows := [] }
def Qoj (Qlt Qg1 Qje : Fn) : Cfg := { spec := Qby [(179, spOf sig_cncref01_mul osig_cncref01_mul Qlt), (180, spOf sig_cncref01_limbs Qp3 Qg1), (181, spOf sig_cncref01_mag osig_cncref01_mag Qje)], eqOk := Qb2, ownOff := ownOff }
def mf_cncref01_product (Qlt Qg1 Qje : Fn) : Fn := Qax Tryz.prog (Qoj Qlt Qg1 Qje) 64 167 Qok Qmv
theorem mf_cncref01_product_eq (Qlt Qg1 Qje : Fn) (x0 x1 : Int) : mf_cncref01_product Qlt Qg1 Qje [I x0, I x1] =
 (Qje [I x0]).bind fun o5 =>
 (Qg1 [U (Qa1 (nth .dead o5 0))]).bind fun o6 =>
 (Qje [I x1]).bind fun o7 =>
 (Qg1 [U (Qa1 (nth .dead o7 0))]).bind fun o8 =>
 (Qlt [.view [Kd.int IntKind.u64] (Qgc (nth .dead o6 0)), .view [Kd.int IntKind.u64] (Qgc (nth .dead o8 0))]).bind fun o9 =>
 some [.view [Kd.int IntKind.u64] (Qgc (nth .dead o9 0))] := by kernel_rfl
def Qi2 := mf_cncref01_product Qpe Qis Qll 
theorem sp_cncref01_product : Qaj Tryz.prog (Qoj Qpe Qis Qll) := Qae rfl ⟨r_cncref01_mul, r_cncref01_limbs, r_cncref01_mag, trivial⟩
theorem r_cncref01_product : Qbp Tryz.prog (167, spOf Qok Qmv Qi2) := Qa0 (C := (Qoj Qpe Qis Qll)) (L := 64) (by kernel_rfl) (FnOK.bare rfl rfl rfl) sp_cncref01_product eqOk Qa7 (by kernel_rfl) (by kernel_rfl)
def sig_cncref01_sign : Sk := { tmps := [tf [ci], tf [ci]], boxes := [], rows := [] }
def osig_cncref01_sign : Sk := { tmps := [tf [ci]], boxes := [], rows := [] }
def C_cncref01_sign_0 : Cfg := { spec := Qby [], eqOk := Qb2, ownOff := ownOff }
def mf_cncref01_sign : Fn := Qax Tryz.prog C_cncref01_sign_0 64 165 sig_cncref01_sign osig_cncref01_sign
theorem mf_cncref01_sign_eq (x0 x1 : Int) : mf_cncref01_sign [I x0, I x1] =
 bif x0 == 0 then
 some [I 0]
 else
 bif x1 == 0 then
 some [I 0]
 else
 bif decide (x0 < 0) == decide (x1 < 0) then
 some [I 1]
 else
 some [I (-1)] := by kernel_rfl
def Qj5 := mf_cncref01_sign 
theorem sp_cncref01_sign : Qaj Tryz.prog (C_cncref01_sign_0 ) := Qae rfl trivial
theorem r_cncref01_sign : Qbp Tryz.prog (165, spOf sig_cncref01_sign osig_cncref01_sign Qj5) := Qa0 (C := C_cncref01_sign_0) (L := 64) (by kernel_rfl) (FnOK.bare rfl rfl rfl) sp_cncref01_sign eqOk Qa7 (by kernel_rfl) (by kernel_rfl)
def sig_cncref01_Cmp : Sk := { tmps := [tf [ci], tf [ci], tf [ci], tf [ci]], boxes := [], rows := [] }
def osig_cncref01_Cmp : Sk := { tmps := [tf [ci]], boxes := [], rows := [] }
def C_cncref01_Cmp_0 (Qlj Qfo Qh2 : Fn) : Cfg := { spec := Qby [(166, spOf sig_cncref01_cmp osig_cncref01_cmp Qlj), (167, spOf Qok Qmv Qfo), (165, spOf sig_cncref01_sign osig_cncref01_sign Qh2)], eqOk := Qb2, ownOff := ownOff }
def mf_cncref01_Cmp (Qlj Qfo Qh2 : Fn) : Fn := Qax Tryz.prog (C_cncref01_Cmp_0 Qlj Qfo Qh2) 64 149 sig_cncref01_Cmp osig_cncref01_Cmp
theorem mf_cncref01_Cmp_eq (Qlj Qfo Qh2 : Fn) (x0 x1 x2 x3 : Int) : mf_cncref01_Cmp Qlj Qfo Qh2 [I x0, I x1, I x2, I x3] =
 (Qh2 [I x0, I x1]).bind fun o5 =>
 (Qh2 [I x2, I x3]).bind fun o6 =>
 bif decide (Qa1 (nth .dead o5 0) < Qa1 (nth .dead o6 0)) then
 some [I (-1)]
 else
 bif decide (Qa1 (nth .dead o5 0) > Qa1 (nth .dead o6 0)) then
 some [I 1]
 else
 (Qfo [I x0, I x1]).bind fun o7 =>
 (Qfo [I x2, I x3]).bind fun o8 =>
 (Qlj [.view [Kd.int IntKind.u64] (Qgc (nth .dead o7 0)), .view [Kd.int IntKind.u64] (Qgc (nth .dead o8 0))]).bind fun o9 =>
 some [I (IntKind.i64.wrap (Qa1 (nth .dead o5 0) * Qa1 (nth .dead o9 0)))] := by kernel_rfl
def Qo2 := mf_cncref01_Cmp Qls Qi2 Qj5 
theorem sp_cncref01_Cmp : Qaj Tryz.prog (C_cncref01_Cmp_0 Qls Qi2 Qj5) := Qae rfl ⟨r_cncref01_cmp, r_cncref01_product, r_cncref01_sign, trivial⟩
theorem r_cncref01_Cmp : Qbp Tryz.prog (149, spOf sig_cncref01_Cmp osig_cncref01_Cmp Qo2) := Qa0 (C := (C_cncref01_Cmp_0 Qls Qi2 Qj5)) (L := 64) (by kernel_rfl) (FnOK.bare rfl rfl rfl) sp_cncref01_Cmp eqOk Qa7 (by kernel_rfl) (by kernel_rfl)
def sig_cncref23_small : Sk := { tmps := [TS.v true [ci, ci, ci], tf [ci]], boxes := [], rows := [] }
def Qpv : Sk := { tmps := [tf [CS.bool]], boxes := [], rows := [] }
def C_cncref23_small_0 : Cfg := { spec := Qby [], eqOk := Qb2, ownOff := ownOff, unroll := [2] }
def mf_cncref23_small : Fn := Qax Tryz.prog C_cncref23_small_0 64 119 sig_cncref23_small Qpv
theorem mf_cncref23_small_eq (x0 x1 x2 x3 : Int) : mf_cncref23_small [I x0, I x1, I x2, I x3] =
 bif decide (x0 < IntKind.i64.wrap (0 - x3)) then
 some [B false]
 else
 bif decide (x0 > x3) then
 some [B false]
 else
 bif decide (x1 < IntKind.i64.wrap (0 - x3)) then
 some [B false]
 else
 bif decide (x1 > x3) then
 some [B false]
 else
 bif decide (x2 < IntKind.i64.wrap (0 - x3)) then
 some [B false]
 else
 bif decide (x2 > x3) then
 some [B false]
 else
 some [B true] := by kernel_rfl
def Qim := mf_cncref23_small 
theorem sp_cncref23_small : Qaj Tryz.prog (C_cncref23_small_0 ) := Qae rfl trivial
theorem r_cncref23_small : Qbp Tryz.prog (119, spOf sig_cncref23_small Qpv Qim) := Qa0 (C := C_cncref23_small_0) (L := 64) (by kernel_rfl) (FnOK.bare rfl rfl rfl) sp_cncref23_small eqOk Qa7 (by kernel_rfl) (by kernel_rfl)
def sig_cncref23_within : Sk := { tmps := [TS.v true [ci, ci, ci]], boxes := [], rows := [] }
def Qoo : Sk := { tmps := [tf [CS.bool]], boxes := [], rows := [] }
def C_cncref23_within_0 (Qit : Fn) : Cfg := { spec := Qby [(119, spOf sig_cncref23_small Qpv Qit)], eqOk := Qb2, ownOff := ownOff }
def mf_cncref23_within (Qit : Fn) : Fn := Qax Tryz.prog (C_cncref23_within_0 Qit) 64 146 sig_cncref23_within Qoo
theorem mf_cncref23_within_eq (Qit : Fn) (x0 x1 x2 : Int) : mf_cncref23_within Qit [I x0, I x1, I x2] =
 (Qit [I x0, I x1, I x2, I 1048576]).bind fun o1 =>
 some [B (bA o1 0)] := by kernel_rfl
def Qju := mf_cncref23_within Qim 
theorem sp_cncref23_within : Qaj Tryz.prog (C_cncref23_within_0 Qim) := Qae rfl ⟨r_cncref23_small, trivial⟩
theorem r_cncref23_within : Qbp Tryz.prog (146, spOf sig_cncref23_within Qoo Qju) := Qa0 (C := (C_cncref23_within_0 Qim)) (L := 64) (by kernel_rfl) (FnOK.bare rfl rfl rfl) sp_cncref23_within eqOk Qa7 (by kernel_rfl) (by kernel_rfl)
def Qja : Sk := { tmps := [TS.v true [ci, ci, ci, ci, ci, ci, ci, ci, ci, ci, ci, ci, ci, CS.bool, ci, CS.bool, ci, ci, ci, ci, ci, CS.bool]], boxes := [], rows := [] }
def Qia : Sk := { tmps := [tf [CS.bool]], boxes := [], rows := [] }
def C_cncref23_Valid_0 (Qaq Qd6 Qar Qb4 Qck Qac : Fn) : Cfg := { spec := Qby [(150, spOf Qi7 Qh4 Qaq), (149, spOf sig_cncref01_Cmp osig_cncref01_Cmp Qd6), (148, spOf Qk4 Qjx Qar), (147, spOf Qnw Qmd Qb4), (146, spOf sig_cncref23_within Qoo Qck), (79, spOf Qe9 Qet Qac)], eqOk := Qb2, ownOff := ownOff }
def mf_cncref23_Valid (Qaq Qd6 Qar Qb4 Qck Qac : Fn) : Fn := Qax Tryz.prog (C_cncref23_Valid_0 Qaq Qd6 Qar Qb4 Qck Qac) 64 133 Qja Qia
abbrev g_cncref23_Valid_2 (x13 : Bool) (o61 : List AC) (Qaq Qar : Fn) : Option (List AC) :=
 bif x13 then
 bif gA o61 0 == gA o61 4 then
 some [B (gA o61 1 == gA o61 5)]
 else
 some [B false]
 else
 (Qaq [jA o61 0, jA o61 1, jA o61 2, jA o61 3, jA o61 4, jA o61 5, jA o61 6, jA o61 7]).bind fun o65 =>
 bif gA o65 0 != 0 then
 some [B true]
 else
 (Qar [jA o61 0, jA o61 1, jA o61 2, jA o61 3, jA o61 4, jA o61 5, jA o61 6, jA o61 7]).bind fun o66 =>
 some [B (decide (gA o66 0 < 0))]
attribute [go_sem] g_cncref23_Valid_2
abbrev Qfv (Qck : Fn) (x9 x10 x11 : Int) (Qb4 : Fn) (x0 x1 x2 x3 x4 x5 x6 x7 x8 x12 : Int) (x13 : Bool) (x14 : Int) (x15 : Bool) (x16 x17 x18 x19 x20 : Int) (x21 : Bool) (Qar Qd6 Qaq : Fn) : Option (List AC) :=
 (Qck [I x9, I x10, I x11]).bind fun o60 =>
 bif !bA o60 0 then
 some [B false]
 else
 (Qb4 [I x0, I x1, I x2, I x3, I x4, I x5, I x6, I x7, I x8, I x9, I x10, I x11, I x12, B x13, I x14, B x15, I x16, I x17, I x18, I x19, I x20, B x21]).bind fun o61 =>
 (Qar [jA o61 0, jA o61 1, jA o61 2, jA o61 3, jA o61 0, jA o61 1, jA o61 2, jA o61 3]).bind fun o62 =>
 (Qar [jA o61 4, jA o61 5, jA o61 6, jA o61 7, jA o61 4, jA o61 5, jA o61 6, jA o61 7]).bind fun o63 =>
 bif decide (gA o62 0 < 64) then
 some [B false]
 else
 bif decide (gA o63 0 < 64) then
 some [B false]
 else
 bif decide (IntKind.i64.wrap (IntKind.i64.wrap (gA o62 0 + gA o63 0) - 16) > 0) then
 (Qd6 [I (IntKind.i64.wrap (IntKind.i64.wrap (gA o62 0 + gA o63 0) - 16)), I (IntKind.i64.wrap (IntKind.i64.wrap (gA o62 0 + gA o63 0) - 16)), I (IntKind.i64.wrap (4 * gA o62 0)), jA o63 0]).bind fun o64 =>
 bif decide (gA o64 0 > 0) then
 some [B false]
 else
 g_cncref23_Valid_2 x13 o61 Qaq Qar
 else
 g_cncref23_Valid_2 x13 o61 Qaq Qar
attribute [go_sem] Qfv
theorem mf_cncref23_Valid_eq (Qaq Qd6 Qar Qb4 Qck Qac : Fn) (x0 x1 x2 x3 x4 x5 x6 x7 x8 x9 x10 x11 x12 : Int) (x13 : Bool) (x14 : Int) (x15 : Bool) (x16 x17 x18 x19 x20 : Int) (x21 : Bool) : mf_cncref23_Valid Qaq Qd6 Qar Qb4 Qck Qac [I x0, I x1, I x2, I x3, I x4, I x5, I x6, I x7, I x8, I x9, I x10, I x11, I x12, B x13, I x14, B x15, I x16, I x17, I x18, I x19, I x20, B x21] =
 (Qac [I x0]).bind fun o57 =>
 bif !bA o57 0 then
 some [B false]
 else
 (Qck [I x2, I x3, I x4]).bind fun o58 =>
 bif !bA o58 0 then
 some [B false]
 else
 (Qck [I x5, I x6, I x7]).bind fun o59 =>
 bif !bA o59 0 then
 some [B false]
 else
 bif x0 != 3 then
 some [B true]
 else
 bif x8 != 17 then
 bif x8 != 18 then
 bif x8 != 19 then
 some [B false]
 else
 bif x12 != 1 then
 bif x12 != -1 then
 some [B false]
 else
 Qfv Qck x9 x10 x11 Qb4 x0 x1 x2 x3 x4 x5 x6 x7 x8 x12 x13 x14 x15 x16 x17 x18 x19 x20 x21 Qar Qd6 Qaq
 else
 Qfv Qck x9 x10 x11 Qb4 x0 x1 x2 x3 x4 x5 x6 x7 x8 x12 x13 x14 x15 x16 x17 x18 x19 x20 x21 Qar Qd6 Qaq
 else
 bif x12 != 1 then
 bif x12 != -1 then
 some [B false]
 else
 Qfv Qck x9 x10 x11 Qb4 x0 x1 x2 x3 x4 x5 x6 x7 x8 x12 x13 x14 x15 x16 x17 x18 x19 x20 x21 Qar Qd6 Qaq
 else
 Qfv Qck x9 x10 x11 Qb4 x0 x1 x2 x3 x4 x5 x6 x7 x8 x12 x13 x14 x15 x16 x17 x18 x19 x20 x21 Qar Qd6 Qaq
 else
 bif x12 != 1 then
 bif x12 != -1 then
 some [B false]
 else
 Qfv Qck x9 x10 x11 Qb4 x0 x1 x2 x3 x4 x5 x6 x7 x8 x12 x13 x14 x15 x16 x17 x18 x19 x20 x21 Qar Qd6 Qaq
 else
 Qfv Qck x9 x10 x11 Qb4 x0 x1 x2 x3 x4 x5 x6 x7 x8 x12 x13 x14 x15 x16 x17 x18 x19 x20 x21 Qar Qd6 Qaq := by kernel_rfl
def Qdk := mf_cncref23_Valid Qdh Qo2 Qd5 Qgi Qju Qa2 
theorem sp_cncref23_Valid : Qaj Tryz.prog (C_cncref23_Valid_0 Qdh Qo2 Qd5 Qgi Qju Qa2) := Qae rfl ⟨r_cncref23_Cross, r_cncref01_Cmp, r_cncref23_Dot, r_cncref23_ends, r_cncref23_within, Qjw, trivial⟩
theorem r_cncref23_Valid : Qbp Tryz.prog (133, spOf Qja Qia Qdk) := Qa0 (C := (C_cncref23_Valid_0 Qdh Qo2 Qd5 Qgi Qju Qa2)) (L := 64) (by kernel_rfl) (FnOK.bare rfl rfl rfl) sp_cncref23_Valid eqOk Qa7 (by kernel_rfl) (by kernel_rfl)
def sig_cncref23_Spokes : Sk := { tmps := [TS.v true [ci, ci, ci, ci, ci, ci, ci, ci, ci, ci, ci, ci, ci, CS.bool, ci, CS.bool, ci, ci, ci, ci, ci, CS.bool]], boxes := [], rows := [] }
def Qot : Sk := { tmps := [TS.tup [(false, [CS.sl [kI, kI, kI, kI]]), (false, [CS.bool])]], boxes := [], rows := [] }
def C_cncref23_Spokes_0 (Qcp Qj4 Qa6 : Fn) : Cfg := { spec := Qby [(152, spOf Qeg Qd8 Qcp), (151, spOf sig_cncref23_Ends osig_cncref23_Ends Qj4), (133, spOf Qja Qia Qa6)], eqOk := Qb2, pure := fun f => !(Qfy [152] f), ownOff := ownOff, rowDst := [20] }
def mf_cncref23_Spokes (Qcp Qj4 Qa6 : Fn) : Fn := Qax Tryz.prog (C_cncref23_Spokes_0 Qcp Qj4 Qa6) 64 134 sig_cncref23_Spokes Qot
theorem mf_cncref23_Spokes_eq (Qcp Qj4 Qa6 : Fn) (x0 x1 x2 x3 x4 x5 x6 x7 x8 x9 x10 x11 x12 : Int) (x13 : Bool) (x14 : Int) (x15 : Bool) (x16 x17 x18 x19 x20 : Int) (x21 : Bool) : mf_cncref23_Spokes Qcp Qj4 Qa6 [I x0, I x1, I x2, I x3, I x4, I x5, I x6, I x7, I x8, I x9, I x10, I x11, I x12, B x13, I x14, B x15, I x16, I x17, I x18, I x19, I x20, B x21] =
 bif x0 != 3 then
 some [.view [kI, kI, kI, kI] [], B false]
 else
 (Qa6 [I x0, I x1, I x2, I x3, I x4, I x5, I x6, I x7, I x8, I x9, I x10, I x11, I x12, B x13, I x14, B x15, I x16, I x17, I x18, I x19, I x20, B x21]).bind fun o3 =>
 bif !bA o3 0 then
 some [.view [kI, kI, kI, kI] [], B false]
 else
 (Qj4 [I x0, I x1, I x2, I x3, I x4, I x5, I x6, I x7, I x8, I x9, I x10, I x11, I x12, B x13, I x14, B x15, I x16, I x17, I x18, I x19, I x20, B x21]).bind fun o4 =>
 (Qcp [jA o4 0, jA o4 1, jA o4 2, jA o4 3, jA o4 4, jA o4 5, jA o4 6, jA o4 7, I x12, B x13, I 0]).bind fun o5 =>
 bif (([[jA o4 0, jA o4 1, jA o4 2, jA o4 3]] ++ wA o5 0).length * 32).ble 140737488355328 then
 some [.view [kI, kI, kI, kI] ([[jA o4 0, jA o4 1, jA o4 2, jA o4 3]] ++ wA o5 0), B true]
 else
 none := by kernel_rfl
def Qhs := mf_cncref23_Spokes Qno Qng Qdk 
theorem sp_cncref23_Spokes : Qaj Tryz.prog (C_cncref23_Spokes_0 Qno Qng Qdk) := Qae rfl ⟨r_cncref23_pieces, r_cncref23_Ends, r_cncref23_Valid, trivial⟩
theorem r_cncref23_Spokes : Qbp Tryz.prog (134, spOf sig_cncref23_Spokes Qot Qhs) := Qa0 (C := (C_cncref23_Spokes_0 Qno Qng Qdk)) (L := 64) (by kernel_rfl) (FnOK.bare rfl rfl rfl) sp_cncref23_Spokes eqOk Qa7 (by kernel_rfl) (by kernel_rfl)
def Qp2 : Sk := { tmps := [TS.v true [ci, ci, ci, ci, ci, ci, ci, ci, ci, ci, ci, ci, ci, CS.bool, ci, CS.bool, ci, ci, ci, ci, ci, CS.bool]], boxes := [], rows := [] }
def Qod : Sk := { tmps := [TS.tup [(false, [CS.sl kPt]), (false, [CS.bool])]], boxes := [], rows := [] }
def C_cncref23_Chords_0 (Qa8 Qaz Qaf Qc5 Qa6 : Fn) : Cfg := { spec := Qby [(125, spOf Qmh Qk2 Qa8), (123, spOf Qi3 Qh3 Qaz), (81, spOf Qht Qgp Qaf), (134, spOf sig_cncref23_Spokes Qot Qc5), (133, spOf Qja Qia Qa6)], eqOk := Qb2, ownOff := ownOff, prom := fun b => bif Nat.beq b 9 then [(9, 25)] else [] }
def sk_cncref23_Chords_9 : Sk := { tmps := [td, tf [CS.ptr 1 0], td, td, td, td, tf [ci], tf [ci], td, tf [CS.own 9 3], td, td, td, td, td, td, td, td, td, td, td, td, td, td, td, td, td, td, td, td, td, td, td, td, td, td, td, td, td, tf [CS.sl [kI, kI, kI, kI]], tf [ci], tf [ci]] ++ dd 21, boxes := [(1, 67, [ci, ci, ci, ci, ci, ci, ci, ci, ci, ci, ci, ci, ci, CS.bool, ci, CS.bool, ci, ci, ci, ci, ci, CS.bool])], rows := [(9, 25, kPt)] }
def ex_cncref23_Chords_9 : List (Ex × Sk) := [(Ex.exit 0, { tmps := [td, td, td, td, td, td, td, td, td, tf [CS.own 9 3]] ++ dd 53, boxes := [], rows := [(9, 25, kPt)] })]
def Qfw (Qa8 Qaz Qaf Qc5 Qa6 : Fn) : Lp := Qkk Tryz.prog (C_cncref23_Chords_0 Qa8 Qaz Qaf Qc5 Qa6) 64 9 (Qfk Tryz.prog 114 9) sk_cncref23_Chords_9 ex_cncref23_Chords_9
def C_cncref23_Chords_1 (Qa8 Qaz Qaf Qc5 Qa6 : Fn) (N9 : Lp) : Cfg := (C_cncref23_Chords_0 Qa8 Qaz Qaf Qc5 Qa6).loop 9 sk_cncref23_Chords_9 ex_cncref23_Chords_9 N9
def mf_cncref23_Chords (Qa8 Qaz Qaf Qc5 Qa6 : Fn) (N9 : Lp) : Fn := Qax Tryz.prog (C_cncref23_Chords_1 Qa8 Qaz Qaf Qc5 Qa6 N9) 64 114 Qp2 Qod
theorem st_cncref23_Chords_9_eq (Qa8 Qaz Qaf Qc5 Qa6 : Fn) (v0 : Rw) (v1 v2 : Int) (v3 : Rw) (v4 v5 v6 v7 v8 v9 v10 v11 v12 v13 v14 v15 v16 v17 v18 : Int) (v19 : Bool) (v20 : Int) (v21 : Bool) (v22 v23 v24 v25 v26 : Int) (v27 : Bool) : Qfw Qa8 Qaz Qaf Qc5 Qa6 [.view kPt v0, I v1, I v2, .view [kI, kI, kI, kI] v3, I v4, I v5, I v6, I v7, I v8, I v9, I v10, I v11, I v12, I v13, I v14, I v15, I v16, I v17, I v18, B v19, I v20, B v21, I v22, I v23, I v24, I v25, I v26, B v27] =
 bif decide (v5 < v4) then
 bif decide (0 <= v5) && decide (v5 < (v3.length : Int)) then
 (Qa8 [I (IntKind.i64.wrap (v1 + gA (nth [] v3 v5.toNat) 0)), I (IntKind.i64.wrap (v2 + gA (nth [] v3 v5.toNat) 1)), jA (nth [] v3 v5.toNat) 3, I v14]).bind fun o21 =>
 bif ((v0 ++ [[jA o21 0, jA o21 1, jA o21 2]]).length * 24).ble 140737488355328 then
 some (0, [.view kPt (v0 ++ [[jA o21 0, jA o21 1, jA o21 2]]), I v1, I v2, .view [kI, kI, kI, kI] v3, I v4, I (IntKind.i64.wrap (v5 + 1)), I v6, I v7, I v8, I v9, I v10, I v11, I v12, I v13, I v14, I v15, I v16, I v17, I v18, B v19, I v20, B v21, I v22, I v23, I v24, I v25, I v26, B v27])
 else
 none
 else
 none
 else
 some (1, [.view kPt v0]) := by kernel_rfl
theorem mf_cncref23_Chords_eq (Qa8 Qaz Qaf Qc5 Qa6 : Fn) (N9 : Lp) (x0 x1 x2 x3 x4 x5 x6 x7 x8 x9 x10 x11 x12 : Int) (x13 : Bool) (x14 : Int) (x15 : Bool) (x16 x17 x18 x19 x20 : Int) (x21 : Bool) : mf_cncref23_Chords Qa8 Qaz Qaf Qc5 Qa6 N9 [I x0, I x1, I x2, I x3, I x4, I x5, I x6, I x7, I x8, I x9, I x10, I x11, I x12, B x13, I x14, B x15, I x16, I x17, I x18, I x19, I x20, B x21] =
 (Qa6 [I x0, I x1, I x2, I x3, I x4, I x5, I x6, I x7, I x8, I x9, I x10, I x11, I x12, B x13, I x14, B x15, I x16, I x17, I x18, I x19, I x20, B x21]).bind fun o22 =>
 bif !bA o22 0 then
 some [.view kPt [], B false]
 else
 (Qc5 [I x0, I x1, I x2, I x3, I x4, I x5, I x6, I x7, I x8, I x9, I x10, I x11, I x12, B x13, I x14, B x15, I x16, I x17, I x18, I x19, I x20, B x21]).bind fun o23 =>
 bif !bA o23 1 then
 (Qaf [I x2, I x3, I x4]).bind fun o24 =>
 (Qaf [I x5, I x6, I x7]).bind fun o25 =>
 some [.view kPt [[jA o24 0, jA o24 1, jA o24 2], [jA o25 0, jA o25 1, jA o25 2]], B true]
 else
 (Qaf [I x9, I x10, I x11]).bind fun o26 =>
 (Qaz [jA o26 0, jA o26 1, jA o26 2, I x8]).bind fun o27 =>
 (N9 [.view kPt [], jA o27 0, jA o27 1, .view [kI, kI, kI, kI] (wA o23 0), I (↑(wA o23 0).length : Int), I 0, I x0, I x1, I x2, I x3, I x4, I x5, I x6, I x7, I x8, I x9, I x10, I x11, I x12, B x13, I x14, B x15, I x16, I x17, I x18, I x19, I x20, B x21]).bind fun o28 =>
 bif o28.1.beq 1 then
 some [.view kPt (wA o28.2 0), B true]
 else
 none := by kernel_rfl
def l_cncref23_Chords_9 := Qbn (Qfw Qek Qc4 Qbo Qhs Qdk )
def Qka := mf_cncref23_Chords Qek Qc4 Qbo Qhs Qdk l_cncref23_Chords_9
theorem sp_cncref23_Chords : Qaj Tryz.prog (C_cncref23_Chords_0 Qek Qc4 Qbo Qhs Qdk) := Qae rfl ⟨r_cncref23_Space, r_cncref23_Plane, r_cncref23_Fine, r_cncref23_Spokes, r_cncref23_Valid, trivial⟩
theorem r_cncref23_Chords : Qbp Tryz.prog (114, spOf Qp2 Qod Qka) := Qa0 (C := (C_cncref23_Chords_1 Qek Qc4 Qbo Qhs Qdk l_cncref23_Chords_9)) (L := 64) (by kernel_rfl) ((FnOK.bare rfl rfl rfl).loop sp_cncref23_Chords eqOk Qa7 (by kernel_rfl) (by kernel_rfl)) sp_cncref23_Chords eqOk Qa7 (by kernel_rfl) (by kernel_rfl)
def sig_cncref25_points : Sk := { tmps := [tf [CS.sl kItm], tf [ci], tf [ci]], boxes := [], rows := [] }
def Qoh : Sk := { tmps := [tf [CS.sl kPt]], boxes := [], rows := [] }
def Qpw (Qas Qan Qff Qak Qhv : Fn) : Cfg := { spec := Qby [(90, spOf Qig Qg7 Qas), (86, spOf Qnr Qme Qan), (115, spOf Qp8 Qn6 Qff), (89, spOf Qhz Qg9 Qak), (114, spOf Qp2 Qod Qhv)], eqOk := Qb2, ownOff := ownOff }
def mf_cncref25_points (Qas Qan Qff Qak Qhv : Fn) : Fn := Qax Tryz.prog (Qpw Qas Qan Qff Qak Qhv) 64 84 sig_cncref25_points Qoh
theorem mf_cncref25_points_eq (Qas Qan Qff Qak Qhv : Fn) (x0 : Rw) (x1 x2 : Int) : mf_cncref25_points Qas Qan Qff Qak Qhv [.view kItm x0, I x1, I x2] =
 bif decide (0 <= x1) && decide (x1 < (x0.length : Int)) then
 (Qhv [jA (nth [] x0 x1.toNat) 0, jA (nth [] x0 x1.toNat) 1, jA (nth [] x0 x1.toNat) 2, jA (nth [] x0 x1.toNat) 3, jA (nth [] x0 x1.toNat) 4, jA (nth [] x0 x1.toNat) 5, jA (nth [] x0 x1.toNat) 6, jA (nth [] x0 x1.toNat) 7, jA (nth [] x0 x1.toNat) 8, jA (nth [] x0 x1.toNat) 9, jA (nth [] x0 x1.toNat) 10, jA (nth [] x0 x1.toNat) 11, jA (nth [] x0 x1.toNat) 12, B (bA (nth [] x0 x1.toNat) 13), jA (nth [] x0 x1.toNat) 14, B (bA (nth [] x0 x1.toNat) 15), jA (nth [] x0 x1.toNat) 16, jA (nth [] x0 x1.toNat) 17, jA (nth [] x0 x1.toNat) 18, jA (nth [] x0 x1.toNat) 19, jA (nth [] x0 x1.toNat) 20, B (bA (nth [] x0 x1.toNat) 21)]).bind fun o11 =>
 bif decide (0 <= x1) && decide (x1 < (x0.length : Int)) then
 (Qak [jA (nth [] x0 x1.toNat) 0, jA (nth [] x0 x1.toNat) 1, jA (nth [] x0 x1.toNat) 2, jA (nth [] x0 x1.toNat) 3, jA (nth [] x0 x1.toNat) 4, jA (nth [] x0 x1.toNat) 5, jA (nth [] x0 x1.toNat) 6, jA (nth [] x0 x1.toNat) 7, jA (nth [] x0 x1.toNat) 8, jA (nth [] x0 x1.toNat) 9, jA (nth [] x0 x1.toNat) 10, jA (nth [] x0 x1.toNat) 11, jA (nth [] x0 x1.toNat) 12, B (bA (nth [] x0 x1.toNat) 13), jA (nth [] x0 x1.toNat) 14, B (bA (nth [] x0 x1.toNat) 15), jA (nth [] x0 x1.toNat) 16, jA (nth [] x0 x1.toNat) 17, jA (nth [] x0 x1.toNat) 18, jA (nth [] x0 x1.toNat) 19, jA (nth [] x0 x1.toNat) 20, B (bA (nth [] x0 x1.toNat) 21)]).bind fun o12 =>
 bif !bA o12 0 then
 some [.view kPt (wA o11 0)]
 else
 bif decide (0 <= 1) && decide (1 <= (↑(wA o11 0).length : Int)) then
 bif decide (0 <= 1) && decide (1 <= (↑(wA o11 0).length : Int)) then
 bif decide (x2 >= 0) then
 (Qff [.view kItm x0, I x2, I x1]).bind fun o13 =>
 bif decide (0 <= IntKind.i64.wrap ((↑(wA o13 0).length : Int).tdiv 2)) && decide (IntKind.i64.wrap ((↑(wA o13 0).length : Int).tdiv 2) <= (↑(wA o13 0).length : Int)) then
 (Qan [.view kItm x0, I x1]).bind fun o14 =>
 bif decide (gA o14 0 >= 0) then
 (Qff [.view kItm x0, I x1, jA o14 0]).bind fun o15 =>
 bif decide (0 <= IntKind.i64.wrap (IntKind.i64.wrap ((↑(wA o15 0).length : Int).tdiv 2) + 1)) && decide (IntKind.i64.wrap (IntKind.i64.wrap ((↑(wA o15 0).length : Int).tdiv 2) + 1) <= (↑(wA o15 0).length : Int)) then
 bif (([] ++ List.drop (IntKind.i64.wrap ((↑(wA o13 0).length : Int).tdiv 2)).toNat (wA o13 0)).length * 24).ble 140737488355328 then
 bif decide (0 <= x1) && decide (x1 < (x0.length : Int)) then
 (Qas [jA (nth [] x0 x1.toNat) 0, jA (nth [] x0 x1.toNat) 1, jA (nth [] x0 x1.toNat) 2, jA (nth [] x0 x1.toNat) 3, jA (nth [] x0 x1.toNat) 4, jA (nth [] x0 x1.toNat) 5, jA (nth [] x0 x1.toNat) 6, jA (nth [] x0 x1.toNat) 7, jA (nth [] x0 x1.toNat) 8, jA (nth [] x0 x1.toNat) 9, jA (nth [] x0 x1.toNat) 10, jA (nth [] x0 x1.toNat) 11, jA (nth [] x0 x1.toNat) 12, B (bA (nth [] x0 x1.toNat) 13), jA (nth [] x0 x1.toNat) 14, B (bA (nth [] x0 x1.toNat) 15), jA (nth [] x0 x1.toNat) 16, jA (nth [] x0 x1.toNat) 17, jA (nth [] x0 x1.toNat) 18, jA (nth [] x0 x1.toNat) 19, jA (nth [] x0 x1.toNat) 20, B (bA (nth [] x0 x1.toNat) 21)]).bind fun o16 =>
 bif (([] ++ List.drop (IntKind.i64.wrap ((↑(wA o13 0).length : Int).tdiv 2)).toNat (wA o13 0) ++ [[jA o16 0, jA o16 1, jA o16 2]]).length * 24).ble 140737488355328 then
 bif (([] ++ List.drop (IntKind.i64.wrap ((↑(wA o13 0).length : Int).tdiv 2)).toNat (wA o13 0) ++ [[jA o16 0, jA o16 1, jA o16 2]] ++ List.take (IntKind.i64.wrap (IntKind.i64.wrap ((↑(wA o15 0).length : Int).tdiv 2) + 1)).toNat (wA o15 0)).length * 24).ble 140737488355328 then
 some [.view kPt ([] ++ List.drop (IntKind.i64.wrap ((↑(wA o13 0).length : Int).tdiv 2)).toNat (wA o13 0) ++ [[jA o16 0, jA o16 1, jA o16 2]] ++ List.take (IntKind.i64.wrap (IntKind.i64.wrap ((↑(wA o15 0).length : Int).tdiv 2) + 1)).toNat (wA o15 0))]
 else
 none
 else
 none
 else
 none
 else
 none
 else
 none
 else
 bif (([] ++ List.drop (IntKind.i64.wrap ((↑(wA o13 0).length : Int).tdiv 2)).toNat (wA o13 0)).length * 24).ble 140737488355328 then
 bif decide (0 <= x1) && decide (x1 < (x0.length : Int)) then
 (Qas [jA (nth [] x0 x1.toNat) 0, jA (nth [] x0 x1.toNat) 1, jA (nth [] x0 x1.toNat) 2, jA (nth [] x0 x1.toNat) 3, jA (nth [] x0 x1.toNat) 4, jA (nth [] x0 x1.toNat) 5, jA (nth [] x0 x1.toNat) 6, jA (nth [] x0 x1.toNat) 7, jA (nth [] x0 x1.toNat) 8, jA (nth [] x0 x1.toNat) 9, jA (nth [] x0 x1.toNat) 10, jA (nth [] x0 x1.toNat) 11, jA (nth [] x0 x1.toNat) 12, B (bA (nth [] x0 x1.toNat) 13), jA (nth [] x0 x1.toNat) 14, B (bA (nth [] x0 x1.toNat) 15), jA (nth [] x0 x1.toNat) 16, jA (nth [] x0 x1.toNat) 17, jA (nth [] x0 x1.toNat) 18, jA (nth [] x0 x1.toNat) 19, jA (nth [] x0 x1.toNat) 20, B (bA (nth [] x0 x1.toNat) 21)]).bind fun o17 =>
 bif (([] ++ List.drop (IntKind.i64.wrap ((↑(wA o13 0).length : Int).tdiv 2)).toNat (wA o13 0) ++ [[jA o17 0, jA o17 1, jA o17 2]]).length * 24).ble 140737488355328 then
 bif (([] ++ List.drop (IntKind.i64.wrap ((↑(wA o13 0).length : Int).tdiv 2)).toNat (wA o13 0) ++ [[jA o17 0, jA o17 1, jA o17 2]] ++ List.drop (Int.toNat 1) (wA o11 0)).length * 24).ble 140737488355328 then
 some [.view kPt ([] ++ List.drop (IntKind.i64.wrap ((↑(wA o13 0).length : Int).tdiv 2)).toNat (wA o13 0) ++ [[jA o17 0, jA o17 1, jA o17 2]] ++ List.drop (Int.toNat 1) (wA o11 0))]
 else
 none
 else
 none
 else
 none
 else
 none
 else
 none
 else
 (Qan [.view kItm x0, I x1]).bind fun o18 =>
 bif decide (gA o18 0 >= 0) then
 (Qff [.view kItm x0, I x1, jA o18 0]).bind fun o19 =>
 bif decide (0 <= IntKind.i64.wrap (IntKind.i64.wrap ((↑(wA o19 0).length : Int).tdiv 2) + 1)) && decide (IntKind.i64.wrap (IntKind.i64.wrap ((↑(wA o19 0).length : Int).tdiv 2) + 1) <= (↑(wA o19 0).length : Int)) then
 bif (([] ++ List.take (Int.toNat 1) (wA o11 0)).length * 24).ble 140737488355328 then
 bif decide (0 <= x1) && decide (x1 < (x0.length : Int)) then
 (Qas [jA (nth [] x0 x1.toNat) 0, jA (nth [] x0 x1.toNat) 1, jA (nth [] x0 x1.toNat) 2, jA (nth [] x0 x1.toNat) 3, jA (nth [] x0 x1.toNat) 4, jA (nth [] x0 x1.toNat) 5, jA (nth [] x0 x1.toNat) 6, jA (nth [] x0 x1.toNat) 7, jA (nth [] x0 x1.toNat) 8, jA (nth [] x0 x1.toNat) 9, jA (nth [] x0 x1.toNat) 10, jA (nth [] x0 x1.toNat) 11, jA (nth [] x0 x1.toNat) 12, B (bA (nth [] x0 x1.toNat) 13), jA (nth [] x0 x1.toNat) 14, B (bA (nth [] x0 x1.toNat) 15), jA (nth [] x0 x1.toNat) 16, jA (nth [] x0 x1.toNat) 17, jA (nth [] x0 x1.toNat) 18, jA (nth [] x0 x1.toNat) 19, jA (nth [] x0 x1.toNat) 20, B (bA (nth [] x0 x1.toNat) 21)]).bind fun o20 =>
 bif (([] ++ List.take (Int.toNat 1) (wA o11 0) ++ [[jA o20 0, jA o20 1, jA o20 2]]).length * 24).ble 140737488355328 then
 bif (([] ++ List.take (Int.toNat 1) (wA o11 0) ++ [[jA o20 0, jA o20 1, jA o20 2]] ++ List.take (IntKind.i64.wrap (IntKind.i64.wrap ((↑(wA o19 0).length : Int).tdiv 2) + 1)).toNat (wA o19 0)).length * 24).ble 140737488355328 then
 some [.view kPt ([] ++ List.take (Int.toNat 1) (wA o11 0) ++ [[jA o20 0, jA o20 1, jA o20 2]] ++ List.take (IntKind.i64.wrap (IntKind.i64.wrap ((↑(wA o19 0).length : Int).tdiv 2) + 1)).toNat (wA o19 0))]
 else
 none
 else
 none
 else
 none
 else
 none
 else
 none
 else
 bif (([] ++ List.take (Int.toNat 1) (wA o11 0)).length * 24).ble 140737488355328 then
 bif decide (0 <= x1) && decide (x1 < (x0.length : Int)) then
 (Qas [jA (nth [] x0 x1.toNat) 0, jA (nth [] x0 x1.toNat) 1, jA (nth [] x0 x1.toNat) 2, jA (nth [] x0 x1.toNat) 3, jA (nth [] x0 x1.toNat) 4, jA (nth [] x0 x1.toNat) 5, jA (nth [] x0 x1.toNat) 6, jA (nth [] x0 x1.toNat) 7, jA (nth [] x0 x1.toNat) 8, jA (nth [] x0 x1.toNat) 9, jA (nth [] x0 x1.toNat) 10, jA (nth [] x0 x1.toNat) 11, jA (nth [] x0 x1.toNat) 12, B (bA (nth [] x0 x1.toNat) 13), jA (nth [] x0 x1.toNat) 14, B (bA (nth [] x0 x1.toNat) 15), jA (nth [] x0 x1.toNat) 16, jA (nth [] x0 x1.toNat) 17, jA (nth [] x0 x1.toNat) 18, jA (nth [] x0 x1.toNat) 19, jA (nth [] x0 x1.toNat) 20, B (bA (nth [] x0 x1.toNat) 21)]).bind fun o21 =>
 bif (([] ++ List.take (Int.toNat 1) (wA o11 0) ++ [[jA o21 0, jA o21 1, jA o21 2]]).length * 24).ble 140737488355328 then
 bif (([] ++ List.take (Int.toNat 1) (wA o11 0) ++ [[jA o21 0, jA o21 1, jA o21 2]] ++ List.drop (Int.toNat 1) (wA o11 0)).length * 24).ble 140737488355328 then
 some [.view kPt ([] ++ List.take (Int.toNat 1) (wA o11 0) ++ [[jA o21 0, jA o21 1, jA o21 2]] ++ List.drop (Int.toNat 1) (wA o11 0))]
 else
 none
 else
 none
 else
 none
 else
 none
 else
 none
 else
 none
 else
 none
 else
 none := by kernel_rfl
def Qd4 := mf_cncref25_points Qco Qdo Qkg Qci Qka 
theorem sp_cncref25_points : Qaj Tryz.prog (Qpw Qco Qdo Qkg Qci Qka) := Qae rfl ⟨r_cncref25_Center, r_cncref25_Soft, r_cncref25_joined, r_cncref25_Smooth, r_cncref23_Chords, trivial⟩
theorem r_cncref25_points : Qbp Tryz.prog (84, spOf sig_cncref25_points Qoh Qd4) := Qa0 (C := (Qpw Qco Qdo Qkg Qci Qka)) (L := 64) (by kernel_rfl) (FnOK.bare rfl rfl rfl) sp_cncref25_points eqOk Qa7 (by kernel_rfl) (by kernel_rfl)
def sig_cncref25_Rate : Sk := { tmps := [TS.v true [ci, ci, ci, ci, ci, ci, ci, ci, ci, ci, ci, ci, ci, CS.bool, ci, CS.bool, ci, ci, ci, ci, ci, CS.bool], tf [ci]], boxes := [], rows := [] }
def osig_cncref25_Rate : Sk := { tmps := [tf [ci]], boxes := [], rows := [] }
def C_cncref25_Rate_0 (Qa4 : Fn) : Cfg := { spec := Qby [(72, spOf Qjn Qiv Qa4)], eqOk := Qb2, ownOff := ownOff }
def mf_cncref25_Rate (Qa4 : Fn) : Fn := Qax Tryz.prog (C_cncref25_Rate_0 Qa4) 64 82 sig_cncref25_Rate osig_cncref25_Rate
theorem mf_cncref25_Rate_eq (Qa4 : Fn) (x0 x1 x2 x3 x4 x5 x6 x7 x8 x9 x10 x11 x12 : Int) (x13 : Bool) (x14 : Int) (x15 : Bool) (x16 x17 x18 x19 x20 : Int) (x21 : Bool) (x22 : Int) : mf_cncref25_Rate Qa4 [I x0, I x1, I x2, I x3, I x4, I x5, I x6, I x7, I x8, I x9, I x10, I x11, I x12, B x13, I x14, B x15, I x16, I x17, I x18, I x19, I x20, B x21, I x22] =
 bif x0 == 1 then
 some [I 0]
 else
 bif x15 then
 (Qa4 [I (IntKind.i64.wrap (IntKind.i64.wrap (mn (IntKind.i64.wrap (x14 * mx x22 1)) 60000000 * 16) * 256)), I 60000]).bind fun o2 =>
 some [I (mx (gA o2 0) 1)]
 else
 (Qa4 [I (IntKind.i64.wrap (IntKind.i64.wrap (mn x14 60000000 * 16) * 256)), I 60000]).bind fun o3 =>
 some [I (mx (gA o3 0) 1)] := by kernel_rfl
def Qdz := mf_cncref25_Rate Qch 
theorem sp_cncref25_Rate : Qaj Tryz.prog (C_cncref25_Rate_0 Qch) := Qae rfl ⟨r_cncref24_Rounded, trivial⟩
theorem r_cncref25_Rate : Qbp Tryz.prog (82, spOf sig_cncref25_Rate osig_cncref25_Rate Qdz) := Qa0 (C := (C_cncref25_Rate_0 Qch)) (L := 64) (by kernel_rfl) (FnOK.bare rfl rfl rfl) sp_cncref25_Rate eqOk Qa7 (by kernel_rfl) (by kernel_rfl)
def sig_cncref25_other : Sk := { tmps := [TS.v true [ci, ci, ci, ci, ci, ci, ci, ci, ci, ci, ci, ci, ci, CS.bool, ci, CS.bool, ci, ci, ci, ci, ci, CS.bool]], boxes := [], rows := [] }
def Qpz : Sk := { tmps := [tf [ci]], boxes := [], rows := [] }
def C_cncref25_other_0 : Cfg := { spec := Qby [], eqOk := Qb2, ownOff := ownOff }
def mf_cncref25_other : Fn := Qax Tryz.prog C_cncref25_other_0 64 80 sig_cncref25_other Qpz
theorem mf_cncref25_other_eq (x0 x1 x2 x3 x4 x5 x6 x7 x8 x9 x10 x11 x12 : Int) (x13 : Bool) (x14 : Int) (x15 : Bool) (x16 x17 x18 x19 x20 : Int) (x21 : Bool) : mf_cncref25_other [I x0, I x1, I x2, I x3, I x4, I x5, I x6, I x7, I x8, I x9, I x10, I x11, I x12, B x13, I x14, B x15, I x16, I x17, I x18, I x19, I x20, B x21] =
 bif x0 == 10 then
 some [I 5]
 else
 bif x0 == 13 then
 some [I 4]
 else
 some [I 3] := by kernel_rfl
def Qd1 := mf_cncref25_other 
theorem sp_cncref25_other : Qaj Tryz.prog (C_cncref25_other_0 ) := Qae rfl trivial
theorem r_cncref25_other : Qbp Tryz.prog (80, spOf sig_cncref25_other Qpz Qd1) := Qa0 (C := C_cncref25_other_0) (L := 64) (by kernel_rfl) (FnOK.bare rfl rfl rfl) sp_cncref25_other eqOk Qa7 (by kernel_rfl) (by kernel_rfl)
def sig_cncref25_wrong : Sk := { tmps := [TS.v true [ci, ci, ci, ci, ci, ci, ci, ci, ci, ci, ci, ci, ci, CS.bool, ci, CS.bool, ci, ci, ci, ci, ci, CS.bool]], boxes := [], rows := [] }
def osig_cncref25_wrong : Sk := { tmps := [tf [CS.bool]], boxes := [], rows := [] }
def C_cncref25_wrong_0 (Qa6 Qac : Fn) : Cfg := { spec := Qby [(133, spOf Qja Qia Qa6), (79, spOf Qe9 Qet Qac)], eqOk := Qb2, ownOff := ownOff }
def mf_cncref25_wrong (Qa6 Qac : Fn) : Fn := Qax Tryz.prog (C_cncref25_wrong_0 Qa6 Qac) 64 113 sig_cncref25_wrong osig_cncref25_wrong
theorem mf_cncref25_wrong_eq (Qa6 Qac : Fn) (x0 x1 x2 x3 x4 x5 x6 x7 x8 x9 x10 x11 x12 : Int) (x13 : Bool) (x14 : Int) (x15 : Bool) (x16 x17 x18 x19 x20 : Int) (x21 : Bool) : mf_cncref25_wrong Qa6 Qac [I x0, I x1, I x2, I x3, I x4, I x5, I x6, I x7, I x8, I x9, I x10, I x11, I x12, B x13, I x14, B x15, I x16, I x17, I x18, I x19, I x20, B x21] =
 bif decide (x0 < 1) then
 some [B true]
 else
 bif decide (x0 > 14) then
 some [B true]
 else
 (Qac [I x0]).bind fun o2 =>
 bif bA o2 0 then
 (Qa6 [I x0, I x1, I x2, I x3, I x4, I x5, I x6, I x7, I x8, I x9, I x10, I x11, I x12, B x13, I x14, B x15, I x16, I x17, I x18, I x19, I x20, B x21]).bind fun o3 =>
 bif !bA o3 0 then
 some [B true]
 else
 bif x0 != 1 then
 bif decide (x14 < 1) then
 some [B true]
 else
 bif decide (x14 > 60000000) then
 some [B true]
 else
 bif decide (x18 < 0) then
 some [B true]
 else
 some [B (decide (x18 > 1000))]
 else
 bif decide (x18 < 0) then
 some [B true]
 else
 some [B (decide (x18 > 1000))]
 else
 bif x0 == 8 then
 bif decide (x19 < 3) then
 some [B true]
 else
 bif decide (x19 > 5) then
 some [B true]
 else
 bif decide (x20 < 0) then
 some [B true]
 else
 some [B (decide (x20 > 30000))]
 else
 some [B false] := by kernel_rfl
def Qgt := mf_cncref25_wrong Qdk Qa2 
theorem sp_cncref25_wrong : Qaj Tryz.prog (C_cncref25_wrong_0 Qdk Qa2) := Qae rfl ⟨r_cncref23_Valid, Qjw, trivial⟩
theorem r_cncref25_wrong : Qbp Tryz.prog (113, spOf sig_cncref25_wrong osig_cncref25_wrong Qgt) := Qa0 (C := (C_cncref25_wrong_0 Qdk Qa2)) (L := 64) (by kernel_rfl) (FnOK.bare rfl rfl rfl) sp_cncref25_wrong eqOk Qa7 (by kernel_rfl) (by kernel_rfl)
end Go.Bm
